/- Parts of the walk: M38. -/
import Derived.Test.YtagacielooaapaaGreatDoorZAL
import Derived.Test.YtagacielooaapaaGreatDoorZE
import Derived.Test.YtagacielooaapaaGreatDoorZAE
set_option linter.unusedVariables false
set_option linter.unusedSimpArgs false
section
/-Lists of small intervals. No program in it. -/
namespace Go.Pv
def smB (b:List Ivl):Prop:=1≤b.length∧b.length≤4∧ ∀i,i<b.length→smI (b.getD i default)
theorem smB.right {b:List Ivl} (h:smB b):rightB b=true:=W0a (fun i hi=>(h.2.2 i hi).1) h.1 h.2.1
theorem V4u {a:Ivl} {n:Nat} (ha:smI a) (hn:n≤8):Q0g (inN a n)=true∧memI (qN (inN a n)) a∧bdV 43 62 (ofN (inN a n)):=⟨H2q n ha.1,Y3f ha.1 hn,j3z ha.1 ha.2.1 ha.2.2 hn⟩
end Go.Pv
end
