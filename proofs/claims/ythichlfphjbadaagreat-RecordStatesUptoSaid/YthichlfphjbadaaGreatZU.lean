/- Parts of the walk: D1, D2, D3, C15. -/
import Derived.Test.YthichlfphjbadaaGreatZR
import Derived.Test.YthichlfphjbadaaGreatZF
import Derived.Test.YthichlfphjbadaaGreatZH
set_option linter.unusedVariables false
set_option linter.unusedSimpArgs false
section
/-The document's reader:look,fail,Uint,Int,Left. -/
set_option maxRecDepth 100000
namespace Go.Pv
open Go.Proofs
def rf (b l:List UInt8) (e:Int):List PV:= [.sl .no (encB b),.sc (.int .i64 (b.length-l.length:Nat)),.sc (.int .i64 e)]
def atF (st:Q0g) (k:Nat) (b l:List UInt8) (e:Int):Prop:=st.getD k []=rf b l e
theorem atF.lt {st:Q0g} {k:Nat} {b l:List UInt8} {e:Int} (h:atF st k b l e):k<st.length:=by
 refine Nat.lt_of_not_le fun hn=> ?_
 unfold atF at h
 rw [List.getD_eq_getElem?_getD,List.getElem?_eq_none hn] at h
 cases h
theorem atF.set {st:Q0g} {k:Nat} {b l:List UInt8} {e:Int} (h:atF st k b l e) (l':List UInt8) (e':Int):atF (st.set k (rf b l' e')) k b l' e':=by
 unfold atF
 rw [Q0n _ _ _ _ h.lt]
theorem atF.same {st:Q0g} {k:Nat} {b l:List UInt8} {e:Int} (h:atF st k b l e):st.set k (rf b l e)=st:=by
 have hlt:=h.lt
 unfold atF at h
 rw [←h,List.getD_eq_getElem?_getD,List.getElem?_eq_getElem hlt,Option.getD_some,List.set_getElem_self]
end Go.Pv
end
section
/-The law's reads:both readers,side by side. -/
set_option maxRecDepth 100000
namespace Go.Pv
open Go.Proofs
theorem V1l :wB []:=⟨by simp,fun i hi=>by simp at hi⟩
theorem w1c (l:List UInt8) (e:Int):wB (X0s l e).1:=by
 by_cases he:e=0
 · subst he
   by_cases h:(X0s l 0).2.2=0
   · exact V2c (V2n l h).1
   · rw [V2o l 0 h];exact V1l
 · rw [X1d l e he];exact V1l
end Go.Pv
end
