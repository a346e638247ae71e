/- Parts of the walk: M76. -/
import Derived.Test.YthlnpmkcmbohaaaGreatDoorZQ
import Derived.Test.YthlnpmkcmbohaaaGreatDoorZY
set_option linter.unusedVariables false
set_option linter.unusedSimpArgs false
section
namespace Go.Pv
structure Fm where
 m:List Nm
 a:List (List Nm)
 r:List Ivl
 deriving DecidableEq
instance : Inhabited Fm:=⟨⟨[],[],[]⟩⟩
structure Sx where
 idx:Int
 t:Nm
 h:Nm
 f:Fm
 deriving DecidableEq
instance : Inhabited Sx:=⟨⟨0,default,default,default⟩⟩
def QN (l:List Nm)(n:Nat):Bool:=l.all Qg&&decide (l.length=n)
def Zb (f:Fm):Bool:=decide (1<=f.m.length)&&decide (f.m.length<=4)&&QN f.m f.m.length&&decide (f.a.length=f.m.length)&&decide (f.r.length=f.m.length)&&
 f.a.all (fun x=>QN x f.m.length)&&f.r.all (fun x=>qm x default)
theorem Q8 {f:Fm}(h:Zb f=true):1<=f.m.length/\f.m.length<=4/\f.m.all Qg=true/\f.a.length=f.m.length/\f.r.length=f.m.length/\f.a.all (fun x=>QN x f.m.length)=true/\rightB f.r=true:=by unfold Zb at h;simp only[q_i,BN] at h;obtain⟨⟨⟨⟨⟨⟨h1,h2⟩,h3⟩,h4⟩,h5⟩,h6⟩,h7⟩:=h;unfold QN at h3;simp only[q_i,BN] at h3;refine⟨h1,h2,h3.1,h4,h5,h6,?_⟩;unfold rightB;simp only[q_i,BN];refine⟨⟨?_,oG⟩,oG⟩;rw[q_d] at h7⊢;intro x hx;have:=h7 x hx;unfold qm at this;simp only[q_i] at this;exact this.1.1.1
end Go.Pv
end
