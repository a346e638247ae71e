/- Parts of the walk: PvBa. -/
import Derived.Test.YtldalepagmhnmaaGreatDoorZBD
set_option linter.unusedVariables false
set_option linter.unusedSimpArgs false
section
namespace Go.Pv
section
variable {w:World} {g g':Gh} {F:Fr} {T:List (Nat×Nat)} {k:Nat} {cs:List PV}
end
end Go.Pv
end
