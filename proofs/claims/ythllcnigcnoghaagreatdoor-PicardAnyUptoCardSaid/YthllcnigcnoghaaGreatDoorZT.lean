/- Parts of the walk: G3. -/
import Derived.Test.YthllcnigcnoghaaGreatDoorZL
set_option linter.unusedVariables false
set_option linter.unusedSimpArgs false
section
/- Reading the arguments of a law, one by one. -/
set_option maxRecDepth 100000
namespace Go.Pv
open Go Go.Proofs Go.ChangeShapes Go.WideShapes Go.ChangeAt Go.RowKit Go.Proofs.YthllcnigcnoghaaGreatDoor.Rows
section
variable {P : Program} {t e : TypeId} {W : World} {base : Nat} {v : Value} {H : Type} {tok : TypeId × Value → H} {d : DataW H} {p : List MemPlace}
theorem arg_row {α : Type} {enc : α → List PV} {ok : Nat → α → Prop} (hT : Ty P t 1 (fun l : α => [.sl .no (enc l)]) ok) (hu : P.underlying t = some (.slice e)) (hv : Value.okWide P W .any base t v)
    (hd : DataW.Trod tok P W 0 (fun _ => true) true t v d p) : ∃ l, Rep W (allG W) v (.sl .no (enc l)) ∧ ok (uptoBulk d) l := by
  obtain ⟨a, len, cap, rfl⟩ := okWide_slice hu hv
  obtain ⟨fuel, hf⟩ := hd
  obtain ⟨l, _, hrep, hok⟩ := hT.rd tok W fuel _ _ hf
  exact ⟨l, hrep 0 (by omega), hok⟩
theorem arg_agg {n : Nat} {α : Type} {enc : α → List PV} {ok : Nat → α → Prop} {fs : Array Field} (hT : Ty P t n enc ok) (hu : P.underlying t = some (.struct fs)) (hv : Value.okWide P W .any base t v)
    (hd : DataW.Trod tok P W 0 (fun _ => true) true t v d p) : ∃ x, Rep W (allG W) v (.agg (enc x)) ∧ ok (uptoBulk d) x := by
  obtain ⟨cs, rfl, hc⟩ := okWide_struct hu hv
  obtain ⟨fuel, hf⟩ := hd
  obtain ⟨x, hl, hrep, hok⟩ := hT.rd tok W fuel _ _ hf
  have e1 : (Value.agg cs).cells.toList = cs.toList := rfl
  rw [e1] at hl hrep
  have hlen := hT.len x
  refine ⟨x, .agg cs (enc x) (by rw [hlen, ← hl]; simp) fun j hj => ?_, hok⟩
  have h := hrep j (by omega)
  simpa [List.getD_eq_getElem?_getD, Array.getD_eq_getD_getElem?] using h
theorem arg_i64 (hu : P.underlying t = some (.int .i64)) (hv : Value.okWide P W .any base t v) (hd : DataW.Trod tok P W 0 (fun _ => true) true t v d p) :
    ∃ n, v = .int .i64 n ∧ -9223372036854775808 ≤ n ∧ n ≤ 9223372036854775807 := by
  obtain ⟨n, rfl, _, _, hw⟩ := open_int hu hv hd
  exact ⟨n, rfl, by simpa [Lit.wf, IntKind.min, IntKind.max, IntKind.signed, IntKind.bits] using hw⟩
end
end Go.Pv
end
