/- Parts of the walk: M78, PvBb, N117. -/
import Derived.Test.YtofoadghajnglaaGreatDoorZEA
import Derived.Test.YtofoadghajnglaaGreatDoorZY
import Derived.Test.YtofoadghajnglaaGreatDoorZAR
import Derived.Test.YtofoadghajnglaaGreatDoorZBE
import Derived.Test.YtofoadghajnglaaGreatDoorZBV
import Derived.Test.YtofoadghajnglaaGreatDoorZM
import Derived.Test.YtofoadghajnglaaGreatDoorZBN
set_option linter.unusedVariables false
set_option linter.unusedSimpArgs false
section
/-Problems,and their states:what the document's Begin and the drawn states are. No program in it. -/
namespace Go.Pv
structure Pb where
 fld:List (List Mn)
 box:List Ivl
 until':Nm
 most:Nm
 least:Nm
 prec:Int
 order:Int
 budget:Int
instance : Inhabited Pb:=⟨⟨[],[],default,default,default,0,0,0⟩⟩
def V2n (p:Pb):Bool:=x0r p.fld&&rightB p.box&&decide (p.box.length=p.fld.length)&&Q0h p.until'&&Q0h p.most&&Q0h p.least&&decide (0<cmpR p.until' default)&&decide (0<cmpR p.least default)&&decide (0≤cmpR p.most p.least)&&
 Z0a p.prec&&decide (2≤p.order)&&decide (p.order≤10)&&decide (1≤p.budget)&&decide (p.budget≤4096)
def okPb (n:Nat) (p:Pb):Prop:=okField n 2 2 p.fld∧p.box.length=n∧(∀i,i<n→luI 20 20 (p.box.getD i default))∧(∃q,0<q∧q≤64∧p.until'=tq q)∧
 Q0h p.most=true∧Q0h p.least=true∧0<qN p.least∧qN p.least≤qN p.most∧16≤p.prec∧p.prec≤64∧2≤p.order∧p.order≤4∧1≤p.budget∧p.budget≤9
theorem Q2z {x y:Nm} (hx:Q0h x=true) (hy:Q0h y=true) (h:qN y<qN x):0<cmpR x y:=by
 rw [H2b hx hy]
 have h1:=cmpN_lt.2 h
 have h2:=v0v y x
 omega
theorem W3b {x y:Nm} (hx:Q0h x=true) (hy:Q0h y=true) (h:qN y≤qN x):0≤cmpR x y:=by
 rw [H2b hx hy]
 have h1:=cmpN_le.2 h
 have h2:=v0v y x
 omega
theorem okPb.right {n:Nat} {p:Pb} (h:okPb n p) (hn:1≤n) (hn4:n≤4):V2n p=true∧Z0a p.prec=true:=by
 obtain⟨h1,h2,h3,⟨q,q1,q2,h4⟩,h5,h6,h7,h8,h9,h10,h11,h12,h13,h14⟩:=h
 have hp:Z0a p.prec=true:=by
  have:=w0o (p:=p.prec.toNat) (by omega) (by omega)
  rwa [show((p.prec.toNat:Nat):Int)=p.prec from by omega] at this
 have hu:Q0h p.until'=true:=by rw [h4];exact V2p q
 have hu0:0<qN p.until':=by rw [h4];exact(X4k q1 q2).2
 have hd:Q0h (default:Nm)=true:=by decide
 refine⟨?_,hp⟩
 unfold V2n
 simp only [Bool.and_eq_true,decide_eq_true_eq]
 refine⟨⟨⟨⟨⟨⟨⟨⟨⟨⟨⟨⟨⟨h1.right hn hn4,X0z (fun i hi=>(h3 i (by omega)).1) (by omega) (by omega)⟩,by rw [h2,h1.1]⟩,hu⟩,h5⟩,h6⟩,?_⟩,?_⟩,W3b h5 h6 h8⟩,hp⟩,h11⟩,by omega⟩,h13⟩,by omega⟩
 · exact Q2z hu hd (by rw [W0y];exact hu0)
 · exact Q2z h6 hd (by rw [W0y];exact h7)
end Go.Pv
end
section
/-Frames,states,problems as plain values. -/
namespace Go.Pv
open Go.Proofs
def V4i (f:Fm):List PV:= [.sl .no (Z0n f.m),.sl .no (encQ f.a),.sl .no (Z0q f.r)]
attribute [go_sem] V4i
def V4c (s:Sx):List PV:= [.sc (.int .i64 s.idx),.sc (.bool s.t.neg),.sc (.int .i64 s.t.exp),.sl .no (encW s.t.w),.sc (.bool s.h.neg),.sc (.int .i64 s.h.exp),.sl .no (encW s.h.w),.sl .no (Z0n s.f.m),.sl .no (encQ s.f.a),.sl .no (Z0q s.f.r)]
attribute [go_sem] V4c
def V4f (p:Pb):List PV:= [.sl .no (W0w p.fld),.sl .no (Z0q p.box),.sc (.bool p.until'.neg),.sc (.int .i64 p.until'.exp),.sl .no (encW p.until'.w),.sc (.bool p.most.neg),.sc (.int .i64 p.most.exp),.sl .no (encW p.most.w),
 .sc (.bool p.least.neg),.sc (.int .i64 p.least.exp),.sl .no (encW p.least.w),.sc (.int .i64 p.prec),.sc (.int .i64 p.order),.sc (.int .i64 p.budget)]
attribute [go_sem] V4f
def wNs' (l:List Nm):Prop:=l.length≤100000000000∧ ∀i,i<l.length→wN (l.getD i default)
def wQs (l:List (List Nm)):Prop:=l.length≤100000000000∧ ∀i,i<l.length→wNs' (l.getD i [])
def wFm (f:Fm):Prop:=wNs' f.m∧wQs f.a∧wB f.r
def wSx (s:Sx):Prop:=wN s.t∧wN s.h∧wFm s.f
def wPb (p:Pb):Prop:=wF p.fld∧wB p.box∧wN p.until'∧wN p.most∧wN p.least
end Go.Pv
end
section
/-Frames and states:are they right?-/
set_option maxRecDepth 100000
namespace Go.Pv
open Go.Proofs
def rightQ (a:List (List Nm)):Bool:=(a.all fun r=>H0j r a.length)&&decide (1≤a.length)&&decide (a.length≤4)
theorem rightQ_iff {a:List (List Nm)} :rightQ a=true↔(∀j,j<a.length→H0j (a.getD j []) a.length=true)∧1≤a.length∧a.length≤4:=by
 unfold rightQ
 simp only [Bool.and_eq_true,decide_eq_true_eq,List.all_eq_true]
 constructor
 · rintro⟨⟨h,h1⟩,h2⟩
   exact⟨fun j hj=>h _ (by rw [List.getD_eq_getElem?_getD,List.getElem?_eq_getElem hj];exact List.getElem_mem _),h1,h2⟩
 · rintro⟨h,h1,h2⟩
   refine⟨⟨fun x hx=> ?_,h1⟩,h2⟩
   obtain⟨i,hi,rfl⟩:=List.mem_iff_getElem.1 hx
   have:=h i hi
   rwa [List.getD_eq_getElem?_getD,List.getElem?_eq_getElem hi] at this
end Go.Pv
end
