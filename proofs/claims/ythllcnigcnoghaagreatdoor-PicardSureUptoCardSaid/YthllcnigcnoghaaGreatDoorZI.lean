/- Parts of the walk: F21. -/
import Derived.Test.YthllcnigcnoghaaGreatDoorZH
set_option linter.unusedVariables false
set_option linter.unusedSimpArgs false
section
/- The document's boxes: Meet, RightBox, HullBox, SameBox. -/
set_option maxRecDepth 100000
namespace Go.Pv
open Go.Proofs
end Go.Pv
end
