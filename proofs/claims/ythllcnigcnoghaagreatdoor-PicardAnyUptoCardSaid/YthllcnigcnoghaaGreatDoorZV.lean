/- Parts of the walk: H10. -/
import Derived.Test.YthllcnigcnoghaaGreatDoorZM
set_option linter.unusedVariables false
set_option linter.unusedSimpArgs false
section
/- Numbers, intervals and boxes out of the deck. -/
set_option maxRecDepth 100000
namespace Go.Pv
open Go.Proofs
def isW (x : Int) : Prop := 0 ≤ x ∧ x < 18446744073709551616
def absN (x : Nm) : Nm := if rightN x = true then ⟨false, x.exp, x.w⟩ else default
def minusN (x : Nm) : Nm := if rightN x = true then (if x.w = [] then x else ⟨!x.neg, x.exp, x.w⟩) else default
end Go.Pv
end
