/- Parts of the walk: N27. -/
import Derived.Test.YthllcnigcnoghaaGreatDoorZM
import Derived.Test.YthllcnigcnoghaaGreatDoorZAL
set_option linter.unusedVariables false
set_option linter.unusedSimpArgs false
section
/- Small numbers, intervals, boxes out of the deck, once more: how small they are. -/
set_option maxRecDepth 100000
namespace Go.Pv
open Go.Proofs
end Go.Pv
end
