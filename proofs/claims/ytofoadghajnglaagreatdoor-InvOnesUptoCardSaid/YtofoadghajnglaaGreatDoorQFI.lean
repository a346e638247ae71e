/- Parts of the walk: N148. -/
import Derived.Test.YtofoadghajnglaaGreatDoorQFH
import Derived.Test.YtofoadghajnglaaGreatDoorQFF
import Derived.Test.YtofoadghajnglaaGreatDoorQAR
set_option linter.unusedVariables false
set_option linter.unusedSimpArgs false
section
/-The document's Approx. -/
set_option maxRecDepth 100000
namespace Go.Pv
open Go.Proofs
section
variable {base n:Nat} {st:Q0c} {A B:Nat} {ia ib:List Nat} {a r:List (List Nm)}
end
end Go.Pv
end
