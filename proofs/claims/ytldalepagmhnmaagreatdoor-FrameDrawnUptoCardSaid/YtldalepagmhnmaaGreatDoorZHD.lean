/- Parts of the walk: M111, M112. -/
import Derived.Test.YtldalepagmhnmaaGreatDoorZHA
import Derived.Test.YtldalepagmhnmaaGreatDoorZFH
set_option linter.unusedVariables false
set_option linter.unusedSimpArgs false
section
set_option maxRecDepth 20000
namespace Go.Pv
theorem Q2d {q:List Nm}{i:Nat}(hi:i<q.length):(ofB q).getD i default=⟨q.getD i default,q.getD i default⟩:=by simp[ofB,q_a,hi]
end Go.Pv
end
