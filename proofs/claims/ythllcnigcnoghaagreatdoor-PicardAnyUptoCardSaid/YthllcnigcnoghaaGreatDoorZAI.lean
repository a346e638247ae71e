/- Parts of the walk: N23, N26. -/
import Derived.Test.YthllcnigcnoghaaGreatDoorZAH
import Derived.Test.YthllcnigcnoghaaGreatDoorZY
import Derived.Test.YthllcnigcnoghaaGreatDoorZV
set_option linter.unusedVariables false
set_option linter.unusedSimpArgs false
section
/- The deck: In, Part, InBox, PartBox, Prec. -/
set_option maxRecDepth 100000
namespace Go.Pv
open Go.Proofs
end Go.Pv
end

section
/- The laws BoxParts, BoxDrawn, BoxFour. -/
set_option maxRecDepth 100000
namespace Go.Pv
open Go.Proofs
end Go.Pv
end
