/- Parts of the walk: N19, N20. -/
import Derived.Test.YtelmlebahoeikaaGreatDoorZAF
import Derived.Test.YtelmlebahoeikaaGreatDoorZI
import Derived.Test.YtelmlebahoeikaaGreatDoorZM
set_option linter.unusedVariables false
set_option linter.unusedSimpArgs false
section
/- The document's bad, Reckon, Scale, Has, In. -/
set_option linter.unusedVariables false
set_option linter.unusedSimpArgs false
set_option maxRecDepth 100000
namespace Go.Pv
open Go.Proofs
end Go.Pv
end

section
/- The document's boxes: Points, HasPoint, InBox, MeetBox, OpBox, Times, MidBox. -/
set_option linter.unusedVariables false
set_option linter.unusedSimpArgs false
set_option maxRecDepth 100000
namespace Go.Pv
open Go.Proofs
end Go.Pv
end
