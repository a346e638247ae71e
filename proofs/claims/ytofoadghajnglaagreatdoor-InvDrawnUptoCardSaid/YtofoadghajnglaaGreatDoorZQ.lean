/- Parts of the walk: C3, C4, C5, C6, C7, C8, C9, M20, M21, M22. -/
import Derived.Test.YtofoadghajnglaaGreatDoorZP
import Derived.Test.YtofoadghajnglaaGreatDoorZH
import Derived.Test.YtofoadghajnglaaGreatDoorZE
set_option linter.unusedVariables false
set_option linter.unusedSimpArgs false
section
/-The reader:Read,fail,digits. -/
set_option maxRecDepth 100000
namespace Go.Pv
open Go.Proofs
def rd (l:List UInt8) (e:Int):List PV:= [.sl .no (encB l),.sc (.int .i64 e)]
def atR (st:Q0f) (k:Nat) (l:List UInt8) (e:Int):Prop:=st.getD k []=rd l e
theorem atR.lt {st:Q0f} {k:Nat} {l:List UInt8} {e:Int} (h:atR st k l e):k<st.length:=by
 refine Nat.lt_of_not_le fun hn=> ?_
 unfold atR at h
 rw [List.getD_eq_getElem?_getD,List.getElem?_eq_none hn] at h
 cases h
theorem atR.set {st:Q0f} {k:Nat} {l:List UInt8} {e:Int} (h:atR st k l e) (l':List UInt8) (e':Int):atR (st.set k (rd l' e')) k l' e':=by
 unfold atR
 rw [Q0p _ _ _ _ h.lt]
end Go.Pv
end
section
/-Reading inverts putting,and each number has one form:digits,words. No program in it. -/
namespace Go.Pv
def Pre (p l:List UInt8):Prop:=p<+:l∧p.length<l.length
theorem Pre.nil {p:List UInt8} (h:Pre p []):False:=by have:=h.2;simp at this
end Go.Pv
end
section
/-Reading inverts putting,and each number has one form:numbers,intervals,boxes. No program in it. -/
namespace Go.Pv
theorem X2s {x:Nm} (h:Q0j x=true): -65536≤x.exp∧x.exp≤65536∧x.w.length≤64∧(x.w= []→x.neg=false∧x.exp=0):=by
 unfold Q0j at h
 split at h
 · rename_i hw
   simp at h
   rw [hw];simp;exact⟨by omega,by omega,h.1,h.2⟩
 · rename_i hw
   simp only [Bool.and_eq_true,decide_eq_true_eq] at h
   exact⟨by omega,by omega,by omega,fun e=>absurd e hw⟩
end Go.Pv
end
