/- Parts of the walk: M38. -/
import Derived.Test.YthllcnigcnoghaaGreatDoorZAL
import Derived.Test.YthllcnigcnoghaaGreatDoorZE
import Derived.Test.YthllcnigcnoghaaGreatDoorZAE
set_option linter.unusedVariables false
set_option linter.unusedSimpArgs false
section
/- Lists of small intervals. No program in it. -/
namespace Go.Pv
def smB (b : List Ivl) : Prop := 1 ≤ b.length ∧ b.length ≤ 4 ∧ ∀ i, i < b.length → smI (b.getD i default)
theorem smB.right {b : List Ivl} (h : smB b) : rightB b = true := rightB_mk (fun i hi => (h.2.2 i hi).1) h.1 h.2.1
end Go.Pv
end
