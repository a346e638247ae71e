/- Parts of the walk: M34. -/
import Derived.Test.YthllcnigcnoghaaGreatDoorZY
import Derived.Test.YthllcnigcnoghaaGreatDoorZL
set_option linter.unusedVariables false
set_option linter.unusedSimpArgs false
section
/- Small intervals: nothing that is reckoned of them fails. No program in it. -/
namespace Go.Pv
def smN (x : Nm) : Prop := rightN x = true ∧ bdV 6 12 (ofN x)
def smI (a : Ivl) : Prop := rightI a = true ∧ bdV 6 12 (ofN a.lo) ∧ bdV 6 12 (ofN a.hi)
theorem bdV_zero {n k : Nat} : bdV n k (ofN default) := by
  refine ⟨?_, ?_, ?_⟩
  · show bitlen 0 ≤ n; rw [bitlen_zero]; omega
  · show -(k : Int) ≤ 0; omega
  · show (0 : Int) ≤ k; omega
end Go.Pv
end
