/- Parts of the walk: G4. -/
import Derived.Test.YthllcnigcnoghaaGreatDoorZT
import Derived.Test.YthllcnigcnoghaaGreatDoorZAE
set_option linter.unusedVariables false
set_option linter.unusedSimpArgs false
section
/- The type of a slice of numbers. -/
namespace Go.Pv
open Go.Proofs
end Go.Pv
end
