/- Parts of the walk: N43. -/
import Derived.Test.YtcfgdppnoephnaaGreatDoorZAU
import Derived.Test.YtcfgdppnoephnaaGreatDoorZAI
import Derived.Test.YtcfgdppnoephnaaGreatDoorZAO
import Derived.Test.YtcfgdppnoephnaaGreatDoorZAW
set_option linter.unusedVariables false
set_option linter.unusedSimpArgs false
section
/- The laws MatParts, MatDrawn. -/
set_option linter.unusedVariables false
set_option linter.unusedSimpArgs false
set_option maxRecDepth 100000
namespace Go.Pv
open Go.Proofs
theorem inM_mk {a b : Mx} (ha : rightM a = true) (hb : rightM b = true) (hl : a.length = b.length) (h : ∀ i j, i < a.length → j < a.length → inI (atM a i j) (atM b i j) = true) : inM a b = true := by
  unfold inM allF
  rw [ha, hb, decide_eq_true hl]
  simp only [Bool.true_and, List.all_eq_true]
  intro i hi
  have hi' : i < a.length := by simpa using hi
  obtain ⟨a1, a2⟩ := rightM_row ha hi'
  obtain ⟨b1, b2⟩ := rightM_row hb (show i < b.length by omega)
  show inB (a.getD i []) (b.getD i []) = true
  unfold inB allF
  rw [a2, b2, decide_eq_true (by rw [a1, b1]; exact hl)]
  simp only [Bool.true_and, List.all_eq_true]
  intro j hj
  exact h i j hi' (by rw [← a1]; simpa using hj)
end Go.Pv
end
