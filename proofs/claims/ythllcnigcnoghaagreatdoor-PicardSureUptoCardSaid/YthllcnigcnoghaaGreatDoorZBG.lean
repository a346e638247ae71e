/- Parts of the walk: N53, N54. -/
import Derived.Test.YthllcnigcnoghaaGreatDoorZBE
import Derived.Test.YthllcnigcnoghaaGreatDoorZBD
import Derived.Test.YthllcnigcnoghaaGreatDoorZAQ
import Derived.Test.YthllcnigcnoghaaGreatDoorZBF
set_option linter.unusedVariables false
set_option linter.unusedSimpArgs false
section
/- poly.Diff. -/
set_option maxRecDepth 100000
namespace Go.Pv
open Go.Proofs
end Go.Pv
end

section
/- field.Jac. -/
set_option maxRecDepth 100000
namespace Go.Pv
open Go.Proofs
def jacG (f : List (List Mn)) (i j : Nat) : List Mn × Int := diffP (f.getD i []) (j : Nat) f.length
def jacF (f : List (List Mn)) : List (List (List Mn)) × Int := if rightF f = true then tabF (fun i => tabF (fun j => jacG f i j) 0 f.length []) 0 f.length [] else ([], 1)
end Go.Pv
end
