/- Parts of the walk: N34, N35, N36, N37, N38, N39, N40, N41, N42, N43. -/
import Derived.Test.YthllcnigcnoghaaGreatDoorZAQ
import Derived.Test.YthllcnigcnoghaaGreatDoorZV
import Derived.Test.YthllcnigcnoghaaGreatDoorZAF
import Derived.Test.YthllcnigcnoghaaGreatDoorZAH
import Derived.Test.YthllcnigcnoghaaGreatDoorZAM
import Derived.Test.YthllcnigcnoghaaGreatDoorZAI
import Derived.Test.YthllcnigcnoghaaGreatDoorZAO
import Derived.Test.YthllcnigcnoghaaGreatDoorZAW
set_option linter.unusedVariables false
set_option linter.unusedSimpArgs false
section
/- The program's matrices: Norm, Id; Mag on both sides. -/
set_option maxRecDepth 100000
namespace Go.Pv
open Go.Proofs
theorem numInt_c (n : Nat) (st : Store) (hn : n < 9223372036854775808) : PCalls Tryz.prog 126 [.sc (.int .i64 n)] st (fun r st' => r = .agg (encN (mkX false [UInt64.ofNat n] 0).1) ∧ st' = st) := by
 have g1 : decide ((n : Int) < 0) = false := decide_eq_false (by omega)
 have g2 : IntKind.u64.wrap (n : Int) = n := wrap_u64n n (by omega)
 have g3 : [PV.sc (.int .u64 n)] = encW [UInt64.ofNat n] := by
  simp only [encW, List.map_cons, List.map_nil]
  rw [UInt64.toNat_ofNat_of_lt' (show n < UInt64.size by unfold UInt64.size; omega)]
 refine pcalls_enter none Tryz.func126 rfl fun E => pwp_of_vc ?_
 simp -dsimp only [go_sem, g1, g2]
 rw [g3]
 refine (numMake_c false _ 0 _ (by simp) (by omega) (by omega)).mono ?_
 rintro r st ⟨rfl, rfl⟩
 simp -dsimp only [go_sem]
theorem one_make : (mkX false [1] 0).1 = oneN := by decide +kernel
theorem numInt1_c (st : Store) : PCalls Tryz.prog 126 [.sc (.int .i64 1)] st (fun r st' => r = .agg (encN oneN) ∧ st' = st) := by
 have := numInt_c 1 st (by omega)
 rw [show UInt64.ofNat 1 = 1 from rfl, one_make] at this; exact this
end Go.Pv
end

section
/- The program's matrices: Norm. -/
set_option maxRecDepth 100000
namespace Go.Pv
open Go.Proofs
end Go.Pv
end

section
/- The document's matrices: RightMat, SameMat, InMat, PointMat; rows held against one another. -/
set_option maxRecDepth 100000
namespace Go.Pv
open Go.Proofs
theorem helpWords_c (a b : List UInt64) (st : Store) (ha : a.length ≤ 100000000000) (hb : b.length ≤ 100000000000) : PCalls Tryz.prog 43 [.sl .no (encW a), .sl .no (encW b)] st (fun r st' => r = .sc (.bool (decide (a = b))) ∧ st' = st) := by
 refine pcalls_enter none Tryz.func43 rfl fun E => pwp_of_vc ?_
 simp -dsimp only [go_sem]
 refine ck (fun h0 => ?_) (fun h0 => ?_)
 · have hne := nbne_t h0
   simp -dsimp only [go_sem]
   rw [decide_eq_false (fun e => hne (by rw [e]))]
 · have hl := nbne_f h0
   simp -dsimp only [go_sem]
   refine pwp_loop_mask [true, true, false, false, false, true] 0 0 (fun n s => ∃ i, n = a.length - i ∧ i ≤ a.length ∧ (∀ j, j < i → a.getD j 0 = b.getD j 0) ∧ s = ⟨[.sl .no (encW a), .sl .no (encW b), .junk, .junk, .junk, .sc (.int .i64 (i : Nat))] ++ List.replicate 20 .junk, [], [], st⟩) a.length ?_ ?_
   · simp -dsimp only [go_sem]
     exact ⟨0, by omega, by omega, fun j hj => by omega, rfl⟩
   · rintro n s ⟨i, rfl, hi, hr, rfl⟩
     simp -dsimp only [go_sem]
     refine ck (fun h' => ?_) (fun h' => ?_)
     · have hlt : i < a.length := by have := of_decide_eq_true h'; omega
       have e1 := encW_get a i hlt
       have e2 := encW_get b i (by omega)
       have e3 := succW i (by omega)
       simp -dsimp only [go_sem]
       refine pwp_draw mixed 26 (.step 0 [] (.step 1 [] (.step 2 [] (.step 3 [] (.step 4 [] (.step 5 [] (.step 6 [] (.step 7 [] (.step 8 [] (.done)))))))))) (by decide +kernel) (by simp) ?_
       simp -dsimp only [go_sem, e1, e2]
       refine ⟨by omega, by omega, ?_⟩
       refine ck (fun h2 => ?_) (fun h2 => ?_)
       · have hf : a.getD i 0 ≠ b.getD i 0 := by intro e; rw [e] at h2; simp at h2
         simp -dsimp only [go_sem]
         rw [decide_eq_false (fun e => hf (by rw [e]))]
       · have ht : a.getD i 0 = b.getD i 0 := by
          have := nbne_f h2
          exact UInt64.toNat_inj.1 this
         simp -dsimp only [go_sem, e3]
         refine ⟨a.length - (i + 1), by omega, i + 1, rfl, by omega, fun j hj => ?_, rfl⟩
         by_cases e : j = i
         · subst e; exact ht
         · exact hr j (by omega)
     · have hge : i = a.length := by have := of_decide_eq_false h'; omega
       simp -dsimp only [go_sem]
       refine pwp_of_vc ?_
       simp -dsimp only [go_sem]
       rw [decide_eq_true (eq_of_getD 0 hl fun j hj => hr j (by omega))]
end Go.Pv
end

section
/- The document's matrices: OpMat, TimesMat, MidMat, column, Dot, Vec. -/
set_option maxRecDepth 100000
namespace Go.Pv
open Go.Proofs
def colM (m : Mx) (j : Nat) : List Ivl := (List.range m.length).map fun i => atM m i j
end Go.Pv
end

section
/- The document's matrices: One, MulMat. -/
set_option maxRecDepth 100000
namespace Go.Pv
open Go.Proofs
def rowQ (n i : Nat) : List Nm := (List.replicate n default).set i oneN
def oneL (k : Nat) : List (List Nm) := (List.range k).map (rowQ k)
def oneQ (n : Int) : List (List Nm) := if 1 ≤ n ∧ n ≤ 4 then oneL n.toNat else []
end Go.Pv
end

section
/- The document's matrices: Norm. -/
set_option maxRecDepth 100000
namespace Go.Pv
open Go.Proofs
end Go.Pv
end

section
/- The deck's matrices, and numbers of them. -/
set_option maxRecDepth 100000
namespace Go.Pv
open Go.Proofs
def smM (m : Mx) : Prop := 1 ≤ m.length ∧ m.length ≤ 4 ∧ ∀ i, i < m.length → (m.getD i []).length = m.length ∧ ∀ j, j < m.length → smI (atM m i j)
theorem smM.right {m : Mx} (h : smM m) : rightM m = true := rightM_iff.2 ⟨fun i hi => ⟨(h.2.2 i hi).1, rightB_mk (fun j hj => by
 have := (h.2.2 i hi).2 j (by rw [← (h.2.2 i hi).1]; exact hj)
 exact this.1) (by rw [(h.2.2 i hi).1]; exact h.1) (by rw [(h.2.2 i hi).1]; exact h.2.1)⟩, h.1, h.2.1⟩
def inQ (m : Mx) (q : List (List Nm)) : Prop := q.length = m.length ∧ ∀ i, i < m.length → (q.getD i []).length = m.length ∧ ∀ j, j < m.length → ∃ n, n ≤ 8 ∧ (q.getD i []).getD j default = inN (atM m i j) n
end Go.Pv
end

section
/- Layer 7: known, light, reckons. -/
set_option maxRecDepth 100000
namespace Go.Pv
open Go.Proofs
end Go.Pv
end

section
/- Layer 7: light, known. -/
set_option maxRecDepth 100000
namespace Go.Pv
open Go.Proofs
def encMs (l : List Mx) : List PV := l.map fun c => .sl .no (encM c)
def kL : List (List Nm) := [[k1, k2], [default, k1]]
def kK : Mx := [[⟨k1, k1⟩, ⟨k2, k2⟩], [default, ⟨k1, k1⟩]]
def kP : Mx := (mulM kK kK 16).1
def kN : Nm := (normM kK 16).1
def kV : List Ivl := (vecM kK [⟨k1, k1⟩, ⟨k2, k2⟩] 16).1
def kS : Mx := (opM 0 kK (idM 2) 16).1
def kU : Mx := (timesM ⟨k2, k2⟩ kK 16).1
def kX7 : List (List Nm) := (midM kK 16).1
end Go.Pv
end

section
/- The laws MatParts, MatDrawn. -/
set_option maxRecDepth 100000
namespace Go.Pv
open Go.Proofs
end Go.Pv
end
