/- Parts of the walk: G3. -/
import Derived.Test.YthllcnigcnoghaaGreatDoorZL
set_option linter.unusedVariables false
set_option linter.unusedSimpArgs false
section
/- Reading the arguments of a law, one by one. -/
set_option maxRecDepth 100000
namespace Go.Pv
open Go Go.Proofs Go.ChangeShapes Go.WideShapes Go.ChangeAt Go.RowKit Go.Proofs.YthllcnigcnoghaaGreatDoor.Rows
section
variable {P : Program} {t e : TypeId} {W : World} {base : Nat} {v : Value} {H : Type} {tok : TypeId × Value → H} {d : DataW H} {p : List MemPlace}
theorem arg_row {α : Type} {enc : α → List PV} {ok : Nat → α → Prop} (hT : Ty P t 1 (fun l : α => [.sl .no (enc l)]) ok) (hu : P.underlying t = some (.slice e)) (hv : Value.okWide P W .any base t v)
  (hd : DataW.Trod tok P W 0 (fun _ => true) true t v d p) : ∃ l, Rep W (allG W) v (.sl .no (enc l)) ∧ ok (uptoBulk d) l := by
 obtain ⟨a, len, cap, rfl⟩ := okWide_slice hu hv
 obtain ⟨fuel, hf⟩ := hd
 obtain ⟨l, _, hrep, hok⟩ := hT.rd tok W fuel _ _ hf
 exact ⟨l, hrep 0 (by omega), hok⟩
end
end Go.Pv
end
