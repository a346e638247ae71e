/- Parts of the walk: N38, N39. -/
import Derived.Test.YtcfgdppnoephnaaGreatDoorZAS
import Derived.Test.YtcfgdppnoephnaaGreatDoorZAQ
set_option linter.unusedVariables false
set_option linter.unusedSimpArgs false
section
/- The document's matrices: One, MulMat. -/
set_option linter.unusedVariables false
set_option linter.unusedSimpArgs false
set_option maxRecDepth 100000
namespace Go.Pv
open Go.Proofs
def rowQ (n i : Nat) : List Nm := (List.replicate n default).set i oneN
def oneL (k : Nat) : List (List Nm) := (List.range k).map (rowQ k)
def oneQ (n : Int) : List (List Nm) := if 1 ≤ n ∧ n ≤ 4 then oneL n.toNat else []
end Go.Pv
end

section
/- The document's matrices: Norm. -/
set_option linter.unusedVariables false
set_option linter.unusedSimpArgs false
set_option maxRecDepth 100000
namespace Go.Pv
open Go.Proofs
end Go.Pv
end
