/- Parts of the walk: C3, C4, C5, C6, C7, C8, C9. -/
import Derived.Test.YtldalepagmhnmaaGreatDoorZP
import Derived.Test.YtldalepagmhnmaaGreatDoorZH
set_option linter.unusedVariables false
set_option linter.unusedSimpArgs false
section
set_option maxRecDepth 100000
namespace Go.Pv
open Go.Proofs
def rd (l:List UInt8)(e:Int):List PV:= [.sl .no (encB l),.sc (.int .i64 e)]
def atR (st:Q0f)(k:Nat)(l:List UInt8)(e:Int):Prop:=st.getD k []=rd l e
theorem atR.lt {st:Q0f}{k:Nat}{l:List UInt8}{e:Int}(h:atR st k l e):k<st.length:=by refine Nat.lt_of_not_le fun hn=> ?_;unfold atR at h;rw[q_a,List.getElem?_eq_none hn] at h;cases h
theorem atR.set {st:Q0f}{k:Nat}{l:List UInt8}{e:Int}(h:atR st k l e)(l':List UInt8)(e':Int):atR (st.set k (rd l' e')) k l' e':=by unfold atR;rw[Q0m _ _ _ _ h.lt]
end Go.Pv
end
