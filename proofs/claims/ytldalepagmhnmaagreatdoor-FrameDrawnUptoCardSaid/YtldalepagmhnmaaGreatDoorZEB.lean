/- Parts of the walk: M77. -/
import Derived.Test.YtldalepagmhnmaaGreatDoorZEA
import Derived.Test.YtldalepagmhnmaaGreatDoorZBA
set_option linter.unusedVariables false
set_option linter.unusedSimpArgs false
section
namespace Go.Pv
def Q3z (n:Nat):List (List Nm):=(List.range n).map fun i=>(List.replicate n default).set i oneN
def v0k (b:List Ivl)(p:Int):Fm×Int:=
 if (midB b p).2≠0 then(default,(midB b p).2)
 else if (opB 1 b (ofB (midB b p).1) p).2≠0 then(default,(opB 1 b (ofB (midB b p).1) p).2)
 else(⟨(midB b p).1,Q3z b.length,(opB 1 b (ofB (midB b p).1) p).1⟩,0)
theorem W1k {α:Type}[Inhabited α]{l:List α}{x:α}(h:x∈l): ∃i,i<l.length/\l.getD i default=x:=by obtain⟨i,hi,rfl⟩:=List.mem_iff_getElem.1 h;exact⟨i,hi,by simp[q_a,hi]⟩
end Go.Pv
end
