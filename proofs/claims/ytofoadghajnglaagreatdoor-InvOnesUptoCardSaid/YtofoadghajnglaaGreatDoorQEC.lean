/- Parts of the walk: M78, PvBb, N117. -/
import Derived.Test.YtofoadghajnglaaGreatDoorQEA
import Derived.Test.YtofoadghajnglaaGreatDoorQAO
import Derived.Test.YtofoadghajnglaaGreatDoorQBA
import Derived.Test.YtofoadghajnglaaGreatDoorQBE
import Derived.Test.YtofoadghajnglaaGreatDoorQBR
import Derived.Test.YtofoadghajnglaaGreatDoorQM
import Derived.Test.YtofoadghajnglaaGreatDoorQBD
import Derived.Test.YtofoadghajnglaaGreatDoorQAQ
import Derived.Test.YtofoadghajnglaaGreatDoorQAH
import Derived.Test.YtofoadghajnglaaGreatDoorQBI
import Derived.Test.YtofoadghajnglaaGreatDoorQY
import Derived.Test.YtofoadghajnglaaGreatDoorQK
set_option linter.unusedVariables false
set_option linter.unusedSimpArgs false
section
/-Problems,and their states:what the document's Begin and the drawn states are. No program in it. -/
namespace Go.Pv
structure Pb where
 fld:List (List Mn)
 box:List Ivl
 until':Nm
 most:Nm
 least:Nm
 prec:Int
 order:Int
 budget:Int
instance : Inhabited Pb:=⟨⟨[],[],default,default,default,0,0,0⟩⟩
end Go.Pv
end
section
/-Frames,states,problems as plain values. -/
namespace Go.Pv
open Go.Proofs
def q3s (f:Fm):List PV:= [.sl .no (Z0f f.m),.sl .no (encQ f.a),.sl .no (Z0e f.r)]
attribute [go_sem] q3s
def q3m (s:Sx):List PV:= [.sc (.int .i64 s.idx),.sc (.bool s.t.neg),.sc (.int .i64 s.t.exp),.sl .no (encW s.t.w),.sc (.bool s.h.neg),.sc (.int .i64 s.h.exp),.sl .no (encW s.h.w),.sl .no (Z0f s.f.m),.sl .no (encQ s.f.a),.sl .no (Z0e s.f.r)]
attribute [go_sem] q3m
def q3p (p:Pb):List PV:= [.sl .no (V0c p.fld),.sl .no (Z0e p.box),.sc (.bool p.until'.neg),.sc (.int .i64 p.until'.exp),.sl .no (encW p.until'.w),.sc (.bool p.most.neg),.sc (.int .i64 p.most.exp),.sl .no (encW p.most.w),
 .sc (.bool p.least.neg),.sc (.int .i64 p.least.exp),.sl .no (encW p.least.w),.sc (.int .i64 p.prec),.sc (.int .i64 p.order),.sc (.int .i64 p.budget)]
attribute [go_sem] q3p
def wNs' (l:List Nm):Prop:=l.length≤100000000000∧ ∀i,i<l.length→wN (l.getD i default)
def wQs (l:List (List Nm)):Prop:=l.length≤100000000000∧ ∀i,i<l.length→wNs' (l.getD i [])
def wFm (f:Fm):Prop:=wNs' f.m∧wQs f.a∧wB f.r
def wSx (s:Sx):Prop:=wN s.t∧wN s.h∧wFm s.f
def wPb (p:Pb):Prop:=wF p.fld∧wB p.box∧wN p.until'∧wN p.most∧wN p.least
end Go.Pv
end
section
/-Frames and states:are they right?-/
set_option maxRecDepth 100000
namespace Go.Pv
open Go.Proofs
def rightQ (a:List (List Nm)):Bool:=(a.all fun r=>Y0f r a.length)&&decide (1≤a.length)&&decide (a.length≤4)
theorem rightQ_iff {a:List (List Nm)} :rightQ a=true↔(∀j,j<a.length→Y0f (a.getD j []) a.length=true)∧1≤a.length∧a.length≤4:=by
 unfold rightQ
 simp only [Bool.and_eq_true,decide_eq_true_eq,List.all_eq_true]
 constructor
 · rintro⟨⟨h,h1⟩,h2⟩
   exact⟨fun j hj=>h _ (by rw [List.getD_eq_getElem?_getD,List.getElem?_eq_getElem hj];exact List.getElem_mem _),h1,h2⟩
 · rintro⟨h,h1,h2⟩
   refine⟨⟨fun x hx=> ?_,h1⟩,h2⟩
   obtain⟨i,hi,rfl⟩:=List.mem_iff_getElem.1 hx
   have:=h i hi
   rwa [List.getD_eq_getElem?_getD,List.getElem?_eq_getElem hi] at this
end Go.Pv
end
