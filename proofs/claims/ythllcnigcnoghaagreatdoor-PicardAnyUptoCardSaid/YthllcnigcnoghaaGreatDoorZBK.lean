/- Parts of the walk: G6. -/
import Derived.Test.YthllcnigcnoghaaGreatDoorZAK
import Derived.Test.YthllcnigcnoghaaGreatDoorZBD
set_option linter.unusedVariables false
set_option linter.unusedSimpArgs false
section
/- The type of a field: rows of monomials. -/
namespace Go.Pv
open Go.Proofs
def okZ (_ : Nat) (n : Int) : Prop := i64R n
def okM (k : Nat) (x : Mn) : Prop := okN k x.c ∧ okL okZ k x.ks
theorem okLZ_mono {k k' : Nat} {l : List Int} (h : okL okZ k l) (hk : k ≤ k') : okL okZ k' l := ⟨Nat.le_trans h.1 hk, h.2⟩
theorem okM_mono {k k' : Nat} {x : Mn} (h : okM k x) (hk : k ≤ k') : okM k' x := ⟨okN_mono h.1 hk, okLZ_mono h.2 hk⟩
theorem okLM_mono' {k k' : Nat} {l : List Mn} (h : okL okM k l) (hk : k ≤ k') : okL okM k' l := ⟨Nat.le_trans h.1 hk, fun i hi => okM_mono (h.2 i hi) hk⟩
theorem okLLM_mono {k k' : Nat} {l : List (List Mn)} (h : okL (okL okM) k l) (hk : k ≤ k') : okL (okL okM) k' l := ⟨Nat.le_trans h.1 hk, fun i hi => okLM_mono' (h.2 i hi) hk⟩
theorem tyInts : Ty Tryz.prog 29 1 (fun l : List Int => [.sl .no (encZ l)]) (okL okZ) :=
  ty_map (ty_slice Tryz.underlying29 (by kernel_rfl) (ty_i64 Tryz.underlying3 (by kernel_rfl)) (by decide) (fun c => .sc (.int .i64 c)) (fun _ => rfl)) id (fun _ => rfl) (fun _ => rfl) (fun _ _ h => h) (fun h hk => okLZ_mono h hk)
theorem tyMono : Ty Tryz.prog 31 4 encMn okM :=
  ty_map (ty_struct Tryz.underlying31 (by kernel_rfl) (fields_cons tyNum rfl (fields_cons tyInts rfl (fields_nil _))))
    (fun p => (⟨p.1, p.2.1⟩ : Mn)) (fun _ => rfl) (fun _ => rfl) (fun k x h => (⟨h.1, h.2.1⟩ : okM k ⟨x.1, x.2.1⟩)) okM_mono
theorem tyMonos : Ty Tryz.prog 28 1 (fun l : List Mn => [.sl .no (encPs l)]) (okL okM) :=
  ty_map (ty_slice Tryz.underlying28 (by kernel_rfl) tyMono (by decide) (fun c => .agg (encMn c)) (fun _ => rfl)) id (fun _ => rfl) (fun _ => rfl) (fun _ _ h => h) (fun h hk => okLM_mono' h hk)
theorem tyField : Ty Tryz.prog 22 1 (fun l : List (List Mn) => [.sl .no (encFs l)]) (okL (okL okM)) :=
  ty_map (ty_slice Tryz.underlying22 (by kernel_rfl) tyMonos (by decide) (fun c => .sl .no (encPs c)) (fun _ => rfl)) id (fun _ => rfl) (fun _ => rfl) (fun _ _ h => h) (fun h hk => okLLM_mono h hk)
theorem wK_ok {k : Nat} (hk : k ≤ 2000000) {l : List Int} (h : okL okZ k l) : wK l := ⟨by have := h.1; omega, fun i hi => h.2 i hi⟩
theorem wMn_ok {k : Nat} (hk : k ≤ 2000000) {x : Mn} (h : okM k x) : wMn x := ⟨wN_ok hk h.1, wK_ok hk h.2⟩
theorem wP_ok {k : Nat} (hk : k ≤ 2000000) {l : List Mn} (h : okL okM k l) : wP l := ⟨by have := h.1; omega, fun i hi => wMn_ok hk (h.2 i hi)⟩
theorem wF_ok {k : Nat} (hk : k ≤ 2000000) {l : List (List Mn)} (h : okL (okL okM) k l) : wF l := ⟨by have := h.1; omega, fun i hi => wP_ok hk (h.2 i hi)⟩
end Go.Pv
end
