/- Parts of the walk: M78, PvBb, N117, N118, N126. -/
import Derived.Test.YthichlfphjbadaaGreatZEB
import Derived.Test.YthichlfphjbadaaGreatZBE
import Derived.Test.YthichlfphjbadaaGreatZBV
import Derived.Test.YthichlfphjbadaaGreatZM
import Derived.Test.YthichlfphjbadaaGreatZBN
set_option linter.unusedVariables false
set_option linter.unusedSimpArgs false
section
/-Problems,and their states:what the document's Begin and the drawn states are. No program in it. -/
namespace Go.Pv
structure Pb where
 fld:List (List Mn)
 box:List Ivl
 until':Nm
 most:Nm
 least:Nm
 prec:Int
 order:Int
 budget:Int
instance : Inhabited Pb:=⟨⟨[],[],default,default,default,0,0,0⟩⟩
def H0a (p:Pb):Bool:=W0g p.fld&&rightB p.box&&decide (p.box.length=p.fld.length)&&Q0f p.until'&&Q0f p.most&&Q0f p.least&&decide (0<cmpR p.until' default)&&decide (0<cmpR p.least default)&&decide (0≤cmpR p.most p.least)&&
 Z0t p.prec&&decide (2≤p.order)&&decide (p.order≤10)&&decide (1≤p.budget)&&decide (p.budget≤4096)
def y0d (p:Pb):Sx×Int:=if H0a p=true then(if (W0l p.box p.prec).2≠0 then(default,(W0l p.box p.prec).2) else(⟨0,default,p.most,(W0l p.box p.prec).1⟩,0)) else(default,1)
def okPb (n:Nat) (p:Pb):Prop:=okField n 2 2 p.fld∧p.box.length=n∧(∀i,i<n→luI 20 20 (p.box.getD i default))∧(∃q,0<q∧q≤64∧p.until'=tq q)∧
 Q0f p.most=true∧Q0f p.least=true∧0<qN p.least∧qN p.least≤qN p.most∧16≤p.prec∧p.prec≤64∧2≤p.order∧p.order≤4∧1≤p.budget∧p.budget≤9
theorem x1k {x:Nm} (h:0<qN x):x.neg=false∧0<x.w.length:=by
 have h2:=(v1a x).2 h
 unfold sgnN at h2
 split at h2
 · omega
 · rename_i hw
   split at h2
   · omega
   · rename_i hn
     refine⟨by simpa using hn,?_⟩
     have:x.w≠ []:=fun e=>hw (by rw [e];rfl)
     exact List.length_pos_iff.2 this
theorem Z2r {x y:Nm} (hx:Q0f x=true) (hy:Q0f y=true) (h:qN y<qN x):0<cmpR x y:=by
 rw [q2f hx hy]
 have h1:=cmpN_lt.2 h
 have h2:=x0b y x
 omega
theorem W3o {x y:Nm} (hx:Q0f x=true) (hy:Q0f y=true) (h:qN y≤qN x):0≤cmpR x y:=by
 rw [q2f hx hy]
 have h1:=cmpN_le.2 h
 have h2:=x0b y x
 omega
theorem okPb.right {n:Nat} {p:Pb} (h:okPb n p) (hn:1≤n) (hn4:n≤4):H0a p=true∧Z0t p.prec=true:=by
 obtain⟨h1,h2,h3,⟨q,q1,q2,h4⟩,h5,h6,h7,h8,h9,h10,h11,h12,h13,h14⟩:=h
 have hp:Z0t p.prec=true:=by
  have:=J2s (p:=p.prec.toNat) (by omega) (by omega)
  rwa [show((p.prec.toNat:Nat):Int)=p.prec from by omega] at this
 have hu:Q0f p.until'=true:=by rw [h4];exact K0f q
 have hu0:0<qN p.until':=by rw [h4];exact(X3r q1 q2).2
 have hd:Q0f (default:Nm)=true:=by decide
 refine⟨?_,hp⟩
 unfold H0a
 simp only [Bool.and_eq_true,decide_eq_true_eq]
 refine⟨⟨⟨⟨⟨⟨⟨⟨⟨⟨⟨⟨⟨h1.right hn hn4,J0t (fun i hi=>(h3 i (by omega)).1) (by omega) (by omega)⟩,by rw [h2,h1.1]⟩,hu⟩,h5⟩,h6⟩,?_⟩,?_⟩,W3o h5 h6 h8⟩,hp⟩,h11⟩,by omega⟩,h13⟩,by omega⟩
 · exact Z2r hu hd (by rw [H0b];exact hu0)
 · exact Z2r h6 hd (by rw [H0b];exact h7)
theorem y0m {i:Int} {t h:Nm} {f:Fm} (h0:0≤i) (h1:i≤4096) (ht:Q0f t=true) (htn:t.neg=false) (hh:Q0f h=true) (hp:0<qN h) (hf:X0m f=true):Z0g ⟨i,t,h,f⟩=true:=by
 obtain⟨p1,p2⟩:=x1k hp
 unfold Z0g
 simp only [Bool.and_eq_true,decide_eq_true_eq,Bool.not_eq_true']
 exact⟨⟨⟨⟨⟨⟨⟨h0,h1⟩,ht⟩,hh⟩,htn⟩,p2⟩,p1⟩,hf⟩
theorem okPb.begin {n:Nat} {p:Pb} (h:okPb n p) (hn:1≤n) (hn4:n≤4):y0d p=(⟨0,default,p.most,(W0l p.box p.prec).1⟩,0)∧X0m (W0l p.box p.prec).1=true∧Z0g (y0d p).1=true:=by
 obtain⟨r,hp⟩:=h.right hn hn4
 obtain⟨h1,h2,h3,_,h5,h6,h7,h8,_⟩:=h
 have hf:=j1e (L:=20) (U:=20) (b:=p.box) (p:=p.prec) (by omega) (by omega) (fun i hi=>h3 i (by omega)) hp (by omega)
 have e:y0d p=(⟨0,default,p.most,(W0l p.box p.prec).1⟩,0):=by
  unfold y0d
  rw [if_pos r,if_neg (by rw [hf.1];simp)]
 refine⟨e,hf.2.1,?_⟩
 rw [e]
 exact y0m (by omega) (by omega) (by decide) rfl h5 (by grind) hf.2.1
theorem Y1a {f:Fm} (h1:1≤f.m.length) (h4:f.m.length≤4) (hm: ∀i,i<f.m.length→Q0f (f.m.getD i default)=true) (ha:f.a.length=f.m.length) (hr:f.r.length=f.m.length)
 (har: ∀i,i<f.a.length→(f.a.getD i []).length=f.m.length∧ ∀j,j<f.m.length→Q0f ((f.a.getD i []).getD j default)=true) (hz: ∀i,i<f.r.length→hasI (f.r.getD i default) default=true):X0m f=true:=by
 have all: ∀(l:List Nm),(∀i,i<l.length→Q0f (l.getD i default)=true)→l.all Q0f=true:=fun l hl=>by
  rw [List.all_eq_true]
  intro x hx
  obtain⟨i,hi,rfl⟩:=K1r hx
  exact hl i hi
 unfold X0m
 simp only [Bool.and_eq_true,decide_eq_true_eq]
 refine⟨⟨⟨⟨⟨⟨h1,h4⟩,?_⟩,ha⟩,hr⟩,?_⟩,?_⟩
 · unfold Z0l;rw [all _ hm];simp
 · rw [List.all_eq_true]
   intro x hx
   obtain⟨i,hi,rfl⟩:=List.mem_iff_getElem.1 hx
   have:=har i hi
   rw [show f.a.getD i []=f.a[i] by simp [List.getD_eq_getElem?_getD,hi]] at this
   unfold Z0l
   rw [all _ (fun j hj=>this.2 j (by omega)),this.1];simp
 · rw [List.all_eq_true]
   intro x hx
   obtain⟨i,hi,rfl⟩:=K1r hx
   exact hz i hi
theorem W2m (x y:Nm):hasI ⟨Y0y (absN x),absN y⟩ default=true:=by
 refine(K1o (X2w x y)).2 ⟨?_,?_⟩
 · show qM (mant (Y0y (absN x))) (Y0y (absN x)).exp≤0
   rw [←J0p (Y0y (absN x)).exp]
   exact qM_le.2 (Y1v x)
 · show 0≤qM (mant (absN y)) (absN y).exp
   rw [←J0p (absN y).exp]
   exact qM_le.2 (Z2b y)
end Go.Pv
end
section
/-Frames,states,problems as plain values. -/
namespace Go.Pv
open Go.Proofs
def H0v (f:Fm):List PV:= [.sl .no (Q0z f.m),.sl .no (encQ f.a),.sl .no (Q0u f.r)]
attribute [go_sem] H0v
def J0v (s:Sx):List PV:= [.sc (.int .i64 s.idx),.sc (.bool s.t.neg),.sc (.int .i64 s.t.exp),.sl .no (encW s.t.w),.sc (.bool s.h.neg),.sc (.int .i64 s.h.exp),.sl .no (encW s.h.w),.sl .no (Q0z s.f.m),.sl .no (encQ s.f.a),.sl .no (Q0u s.f.r)]
attribute [go_sem] J0v
def K1z (p:Pb):List PV:= [.sl .no (K0i p.fld),.sl .no (Q0u p.box),.sc (.bool p.until'.neg),.sc (.int .i64 p.until'.exp),.sl .no (encW p.until'.w),.sc (.bool p.most.neg),.sc (.int .i64 p.most.exp),.sl .no (encW p.most.w),
 .sc (.bool p.least.neg),.sc (.int .i64 p.least.exp),.sl .no (encW p.least.w),.sc (.int .i64 p.prec),.sc (.int .i64 p.order),.sc (.int .i64 p.budget)]
attribute [go_sem] K1z
def wNs' (l:List Nm):Prop:=l.length≤100000000000∧ ∀i,i<l.length→wN (l.getD i default)
def wQs (l:List (List Nm)):Prop:=l.length≤100000000000∧ ∀i,i<l.length→wNs' (l.getD i [])
def wFm (f:Fm):Prop:=wNs' f.m∧wQs f.a∧wB f.r
def wSx (s:Sx):Prop:=wN s.t∧wN s.h∧wFm s.f
def wPb (p:Pb):Prop:=wF p.fld∧wB p.box∧wN p.until'∧wN p.most∧wN p.least
theorem fm_eq {a b:Fm} :a=b↔a.m=b.m∧a.a=b.a∧a.r=b.r:=by
 cases a;cases b;simp
theorem sx_eq {a b:Sx} :a=b↔a.idx=b.idx∧a.t=b.t∧a.h=b.h∧a.f=b.f:=by
 cases a;cases b;simp
theorem H0m {l:List Nm} {n:Nat} (h:Z0l l n=true) (hn:n≤1000):wNs' l:=by
 unfold Z0l at h
 simp only [Bool.and_eq_true,decide_eq_true_eq,List.all_eq_true] at h
 refine⟨by omega,fun i hi=>Q0t (h.1 _ ?_)⟩
 rw [List.getD_eq_getElem?_getD,List.getElem?_eq_getElem hi]
 exact List.getElem_mem hi
theorem Y2j {f:Fm} (h:X0m f=true):wFm f:=by
 obtain⟨f1,f2,f3,f4,f5,f6,f7⟩:=Z0s h
 refine⟨H0m (n:=f.m.length) (by unfold Z0l;rw [f3];simp) (by omega),⟨by omega,fun i hi=> ?_⟩,⟨by omega,fun i hi=> ?_⟩⟩
 · rw [List.all_eq_true] at f6
   refine H0m (n:=f.m.length) (f6 _ ?_) (by omega)
   rw [List.getD_eq_getElem?_getD,List.getElem?_eq_getElem hi]
   exact List.getElem_mem hi
 · have:=Z0a (V0t f7 i hi)
   exact⟨Q0t this.1,Q0t this.2.1⟩
theorem z0f {s:Sx} (h:Z0g s=true):wSx s:=by
 obtain⟨_,_,h3,h4,h5⟩:=Z0z h
 exact⟨Q0t h3,Q0t h4,Y2j h5⟩
end Go.Pv
end
section
/-Frames and states:are they right?-/
set_option maxRecDepth 100000
namespace Go.Pv
open Go.Proofs
theorem K1u (l:List Nm) (n:Nat) (st:Q0g) (hw:wNs' l) (hn:n≤1000000000000):PCalls Tryz.prog 97 [.sl .no (Q0z l),.sc (.int .i64 n)] st (fun r st'=>r= .sc (.bool (Z0l l n))∧st'=st):=by
 obtain⟨hl,hw⟩:=hw
 refine Q0b none Tryz.func97 rfl fun E=>Q0a ?_
 simp -dsimp only [go_sem]
 refine Q0e [true,true,false,false,false,false,false,true,true,true] 0 0 (fun m s=> ∃i,m=l.length-i∧i≤l.length∧(∀j,j<i→Q0f (l.getD j default)=true)∧
  s=⟨[.sl .no (Q0z l),.sc (.int .i64 n),.junk,.junk,.junk,.junk,.junk,.sl .no (Q0z l),.sc (.int .i64 l.length),.sc (.int .i64 (i:Nat))]++List.replicate 11 .junk,[],[],st⟩) l.length ?_ ?_
 · simp -dsimp only [go_sem]
   exact⟨0,by omega,by omega,fun j hj=>absurd hj (Nat.not_lt_zero j),rfl⟩
 · rintro m s ⟨i,rfl,hi,hr,rfl⟩
   simp -dsimp only [go_sem]
   refine ck (fun h1=> ?_) (fun h1=> ?_)
   · have hlt:i<l.length:=by have:=of_decide_eq_true h1;omega
     have g1:=K0v l i hlt
     have wi:=hw i hlt
     unfold wN at wi
     have x1:IntKind.i64.wrap ((i:Int)+1)=((i+1:Nat):Int):=by rw [show((i:Int)+1)=((i+1:Nat):Int) from rfl,Q0i _ (by omega)]
     simp -dsimp only [go_sem,g1]
     refine⟨by omega,?_⟩
     refine(X0z (l.getD i default) st (by omega)).mono ?_
     rintro r st ⟨rfl,rfl⟩
     simp -dsimp only [go_sem]
     refine ck (fun h2=> ?_) (fun h2=> ?_)
     · have hf:Q0f (l.getD i default)=false:=by simpa using h2
       simp -dsimp only [go_sem]
       have:Z0l l n=false:=Bool.eq_false_iff.2 fun e=>by
        unfold Z0l at e
        rw [Bool.and_eq_true] at e
        rw [(j0i l Q0f).1 e.1 i hlt] at hf;cases hf
       rw [this]
     · have ht:Q0f (l.getD i default)=true:=by simpa using h2
       simp -dsimp only [go_sem,x1]
       refine⟨l.length-(i+1),by omega,i+1,rfl,by omega,fun j hj=> ?_,rfl⟩
       by_cases e:j=i
       · subst e;exact ht
       · exact hr j (by omega)
   · have hge:i=l.length:=by have:=of_decide_eq_false h1;omega
     simp -dsimp only [go_sem]
     refine Q0a ?_
     simp -dsimp only [go_sem]
     have ha:l.all Q0f=true:=(j0i l Q0f).2 fun j hj=>hr j (by omega)
     have e:((l.length:Int)==(n:Int))=decide (l.length=n):=by rw [Bool.eq_iff_iff];simp;omega
     rw [e,Z0l,ha,Bool.true_and]
theorem j1d (f:Fm) (st:Q0g) (hw:wFm f):PCalls Tryz.prog 52 [.agg (H0v f)] st (fun r st'=>r= .sc (.bool (X0m f))∧st'=st):=by
 obtain⟨wm,⟨wal,wa⟩,wr⟩:=hw
 have wml:=wm.1
 have wrl:=wr.1
 have no: ¬X0m f=true→X0m f=false:=fun h=>by simpa using h
 refine Q0b none Tryz.func52 rfl fun E=>Q0a ?_
 by_cases h1:1≤f.m.length
 rotate_left
 · have d1:decide ((f.m.length:Int)<1)=true:=decide_eq_true (by omega)
   simp -dsimp only [go_sem,d1]
   rw [no fun e=>h1 (Z0s e).1]
 have d1:decide ((f.m.length:Int)<1)=false:=decide_eq_false (by omega)
 by_cases h2:f.m.length≤4
 rotate_left
 · have d2:decide ((f.m.length:Int)>4)=true:=decide_eq_true (by omega)
   simp -dsimp only [go_sem,d1,d2]
   rw [no fun e=>h2 (Z0s e).2.1]
 have d2:decide ((f.m.length:Int)>4)=false:=decide_eq_false (by omega)
 simp -dsimp only [go_sem,d1,d2]
 refine(K1u f.m f.m.length st wm (by omega)).mono ?_
 rintro r st ⟨rfl,rfl⟩
 cases h3:Z0l f.m f.m.length with
 | false=>
  simp -dsimp only [go_sem,d1,d2]
  rw [no fun e=>by unfold X0m at e;rw [h3] at e;simp at e]
 | true=>
 by_cases h4:f.a.length=f.m.length
 rotate_left
 · have d4:((f.a.length:Int) !=(f.m.length:Int))=true:=bne_iff_ne.2 (by omega)
   simp -dsimp only [go_sem,d1,d2,d4]
   rw [no fun e=>h4 (Z0s e).2.2.2.1]
 have d4:((f.a.length:Int) !=(f.m.length:Int))=false:=by rw [h4];simp
 by_cases h5:f.r.length=f.m.length
 rotate_left
 · have d5:((f.r.length:Int) !=(f.m.length:Int))=true:=bne_iff_ne.2 (by omega)
   simp -dsimp only [go_sem,d1,d2,d4,d5]
   rw [no fun e=>h5 (Z0s e).2.2.2.2.1]
 have d5:((f.r.length:Int) !=(f.m.length:Int))=false:=by rw [h5];simp
 simp -dsimp only [go_sem,d1,d2,d4,d5]
 have key:X0m f=true↔ ∀j,j<f.m.length→Z0l (f.a.getD j []) f.m.length=true∧hasI (f.r.getD j default) default=true:=by
  unfold X0m
  simp only [Bool.and_eq_true,decide_eq_true_eq,h1,h2,h3,h4,h5,true_and,List.all_eq_true]
  refine⟨fun⟨q1,q2⟩ j hj=>⟨q1 _ ?_,q2 _ ?_⟩,fun h=>⟨fun x hx=> ?_,fun x hx=> ?_⟩⟩
  · rw [List.getD_eq_getElem?_getD,List.getElem?_eq_getElem (by omega)];exact List.getElem_mem _
  · rw [List.getD_eq_getElem?_getD,List.getElem?_eq_getElem (by omega)];exact List.getElem_mem _
  · obtain⟨i,hi,rfl⟩:=List.mem_iff_getElem.1 hx
    have:=(h i (by omega)).1
    rwa [List.getD_eq_getElem?_getD,List.getElem?_eq_getElem hi] at this
  · obtain⟨i,hi,rfl⟩:=K1r hx
    exact(h i (by omega)).2
 refine Q0e [false,true,false,true,false,false,false,false,false,false,false,false,false,false,false,false,false,false,false,false,false,false,false,false,false,false,false,false,false,false,false,false,false,false,false,true,true] 1 0
  (fun m s=> ∃i,m=f.m.length-i∧i≤f.m.length∧(∀j,j<i→Z0l (f.a.getD j []) f.m.length=true∧hasI (f.r.getD j default) default=true)∧
   s=⟨[.junk,.lp 0 0,.junk,.sc (.int .i64 f.m.length)]++(List.replicate 31 .junk++([.sc (.int .i64 f.m.length),.sc (.int .i64 (i:Nat))]++List.replicate 21 .junk)),[H0v f],[],st⟩) f.m.length ?_ ?_
 · simp -dsimp only [go_sem]
   exact⟨0,by omega,by omega,fun j hj=>absurd hj (Nat.not_lt_zero j),rfl⟩
 · rintro m s ⟨i,rfl,hi,hr,rfl⟩
   simp -dsimp only [go_sem]
   refine ck (fun h6=> ?_) (fun h6=> ?_)
   · have hlt:i<f.m.length:=by have:=of_decide_eq_true h6;omega
     have g1:=j0e f.a i (by omega)
     have g2:=J0x f.r i (by omega)
     have x1:IntKind.i64.wrap ((i:Int)+1)=((i+1:Nat):Int):=by rw [show((i:Int)+1)=((i+1:Nat):Int) from rfl,Q0i _ (by omega)]
     simp -dsimp only [go_sem,g1]
     refine⟨by omega,?_⟩
     refine(K1u (f.a.getD i []) f.m.length st (wa i (by omega)) (by omega)).mono ?_
     rintro r st ⟨rfl,rfl⟩
     cases h7:Z0l (f.a.getD i []) f.m.length with
     | false=>
      simp -dsimp only [go_sem]
      rw [no fun e=>by have:=(key.1 e i hlt).1;rw [h7] at this;cases this]
     | true=>
      simp -dsimp only [go_sem,g2]
      refine⟨by omega,?_⟩
      refine(K3x (f.r.getD i default) default st (wr.2 i (by omega)) (by show([]:List UInt64).length≤_;simp)).mono ?_
      rintro r st ⟨rfl,rfl⟩
      cases h8:hasI (f.r.getD i default) default with
      | false=>
       simp -dsimp only [go_sem]
       rw [no fun e=>by have:=(key.1 e i hlt).2;rw [h8] at this;cases this]
      | true=>
       simp -dsimp only [go_sem,x1]
       refine⟨f.m.length-(i+1),by omega,i+1,rfl,by omega,fun j hj=> ?_,rfl⟩
       by_cases e:j=i
       · subst e;exact⟨h7,h8⟩
       · exact hr j (by omega)
   · have hge:i=f.m.length:=by have:=of_decide_eq_false h6;omega
     simp -dsimp only [go_sem]
     refine Q0a ?_
     simp -dsimp only [go_sem]
     rw [key.2 fun j hj=>hr j (by omega)]
theorem q1u {x:Nm} (h:Q0f x=true):(0<sgnN (ownN x))↔(0<x.w.length∧x.neg=false):=by
 rw [ownN,if_pos h]
 unfold sgnN
 by_cases hw:x.w.length=0
 · have:x.w= []:=List.length_eq_zero_iff.1 hw
   have e0:valW ([]:List UInt64)=0:=by decide
   rw [this,e0,if_pos rfl];simp
 · have hv:valW x.w≠0:=fun e=>Z4u h hw (by unfold qN;rw [show mant x=0 from by unfold mant;rw [e];simp];exact J0p _)
   rw [if_neg hv]
   cases hn:x.neg<;>simp<;>omega
theorem z0g (s:Sx) (st:Q0g) (hw:wSx s):PCalls Tryz.prog 20 [.agg (J0v s)] st (fun r st'=>r= .sc (.bool (Z0g s))∧st'=st):=by
 obtain⟨w0,w1,wf⟩:=hw
 unfold wN at w0 w1
 refine Q0b none Tryz.func20 rfl fun E=>Q0a ?_
 have no: ¬Z0g s=true→Z0g s=false:=fun h=>by simpa using h
 by_cases h1:0≤s.idx
 rotate_left
 · have d1:decide (s.idx<0)=true:=decide_eq_true (by omega)
   simp -dsimp only [go_sem,d1]
   rw [no fun e=>h1 (Z0z e).1]
 have d1:decide (s.idx<0)=false:=decide_eq_false (by omega)
 by_cases h2:s.idx≤4096
 rotate_left
 · have d2:decide (s.idx>4096)=true:=decide_eq_true (by omega)
   simp -dsimp only [go_sem,d1,d2]
   rw [no fun e=>h2 (Z0z e).2.1]
 have d2:decide (s.idx>4096)=false:=decide_eq_false (by omega)
 simp -dsimp only [go_sem,d1,d2]
 refine(X0z s.t st (by omega)).mono ?_
 rintro r st ⟨rfl,rfl⟩
 cases h3:Q0f s.t with
 | false=>
  simp -dsimp only [go_sem,d1,d2]
  rw [no fun e=>by have:=(Z0z e).2.2.1;rw [h3] at this;cases this]
 | true=>
 simp -dsimp only [go_sem,d1,d2]
 refine(X0z s.h st (by omega)).mono ?_
 rintro r st ⟨rfl,rfl⟩
 cases h4:Q0f s.h with
 | false=>
  simp -dsimp only [go_sem,d1,d2]
  rw [no fun e=>by have:=(Z0z e).2.2.2.1;rw [h4] at this;cases this]
 | true=>
 simp -dsimp only [go_sem,d1,d2]
 refine(K1e s.t st (by omega)).mono ?_
 rintro r st ⟨rfl,rfl⟩
 cases h5:s.t.neg with
 | true=>
  have d5:decide (sgnN (ownN s.t)≥0)=false:=decide_eq_false fun e=>by have:=(y0i h3).1 e;rw [h5] at this;cases this
  simp -dsimp only [go_sem,d5]
  rw [no fun e=>by unfold Z0g at e;simp [h5] at e]
 | false=>
 have d5:decide (sgnN (ownN s.t)≥0)=true:=decide_eq_true ((y0i h3).2 h5)
 simp -dsimp only [go_sem,d5]
 refine(K1e s.h st (by omega)).mono ?_
 rintro r st ⟨rfl,rfl⟩
 by_cases h6:0<s.h.w.length∧s.h.neg=false
 rotate_left
 · have d6:decide (sgnN (ownN s.h)>0)=false:=decide_eq_false fun e=>h6 ((q1u h4).1 e)
   simp -dsimp only [go_sem,d5,d6]
   rw [no fun e=>h6 (by unfold Z0g at e;simp at e;exact⟨e.1.1.2,e.1.2⟩)]
 have d6:decide (sgnN (ownN s.h)>0)=true:=decide_eq_true ((q1u h4).2 h6)
 simp -dsimp only [go_sem,d5,d6]
 refine(j1d s.f st wf).mono ?_
 rintro r st ⟨rfl,rfl⟩
 simp -dsimp only [go_sem,d5,d6]
 have:Z0g s=X0m s.f:=by unfold Z0g;simp [h1,h2,h3,h4,h5,h6.1,h6.2]
 rw [this]
def j0p (a:List (List Nm)):Bool:=(a.all fun r=>Z0l r a.length)&&decide (1≤a.length)&&decide (a.length≤4)
theorem rightQ_iff {a:List (List Nm)} :j0p a=true↔(∀j,j<a.length→Z0l (a.getD j []) a.length=true)∧1≤a.length∧a.length≤4:=by
 unfold j0p
 simp only [Bool.and_eq_true,decide_eq_true_eq,List.all_eq_true]
 constructor
 · rintro⟨⟨h,h1⟩,h2⟩
   exact⟨fun j hj=>h _ (by rw [List.getD_eq_getElem?_getD,List.getElem?_eq_getElem hj];exact List.getElem_mem _),h1,h2⟩
 · rintro⟨h,h1,h2⟩
   refine⟨⟨fun x hx=> ?_,h1⟩,h2⟩
   obtain⟨i,hi,rfl⟩:=List.mem_iff_getElem.1 hx
   have:=h i hi
   rwa [List.getD_eq_getElem?_getD,List.getElem?_eq_getElem hi] at this
set_option maxHeartbeats 1000000 in
theorem G1m (a:List (List Nm)) (st:Q0g) (hw:wQs a):PCalls Tryz.prog 99 [.sl .no (encQ a)] st (fun r st'=>r= .sc (.bool (j0p a))∧st'=st):=by
 obtain⟨hl,hw⟩:=hw
 refine Q0b none Tryz.func99 rfl fun E=>Q0a ?_
 simp -dsimp only [go_sem]
 refine Q0e [true,false,false,true] 0 0 (fun n s=> ∃i,n=a.length-i∧i≤a.length∧(∀j,j<i→Z0l (a.getD j []) a.length=true)∧s=⟨[.sl .no (encQ a),.junk,.junk,.sc (.int .i64 (i:Nat))]++List.replicate 45 .junk,[],[],st⟩) a.length ?_ ?_
 · simp -dsimp only [go_sem]
   exact⟨0,by omega,by omega,fun j hj=>by omega,rfl⟩
 · rintro n s ⟨i,rfl,hi,hr,rfl⟩
   have fin:i=a.length∨ ¬(i:Int)<4→decide ((a.length:Int)>0)=true→decide ((a.length:Int)≤4)=j0p a:=fun h h1=>by
    have h1:=of_decide_eq_true h1
    rw [Bool.eq_iff_iff,rightQ_iff,decide_eq_true_iff]
    exact⟨fun h4=>⟨fun j hj=>hr j (by omega),by omega,by omega⟩,fun hh=>by omega⟩
   have fin0:decide ((a.length:Int)>0)=false→j0p a=false:=fun h=>Bool.eq_false_iff.2 fun e=>by
    have:=of_decide_eq_false h
    have:=(rightQ_iff.1 e).2.1
    omega
   simp -dsimp only [go_sem]
   refine gkT (fun h=> ?_) (fun h=> ?_)
   · have hlt:i<a.length:=by have:=of_decide_eq_true h;omega
     simp -dsimp only [go_sem,h]
     refine ck (fun h4=> ?_) (fun h4=> ?_)
     · have e1:=j0e a i hlt
       have e3:=G0k i (by omega)
       have wi:=hw i hlt
       have wil:=wi.1
       simp -dsimp only [go_sem,e1]
       refine⟨by omega,?_⟩
       refine ck (fun h2=> ?_) (fun h2=> ?_)
       · have hn:=Y1t h2
         simp -dsimp only [go_sem]
         have:j0p a=false:=Bool.eq_false_iff.2 fun e=>hn (by have:=(rightQ_iff.1 e).1 i hlt;unfold Z0l at this;simp at this;exact this.2)
         rw [this]
       · have hn:=w0h h2
         simp -dsimp only [go_sem]
         refine Q0e [true,false,false,true,true] 0 0 (fun n s=> ∃k,n=(a.getD i []).length-k∧k≤(a.getD i []).length∧(∀j,j<k→Q0f ((a.getD i []).getD j default)=true)∧s=⟨[.sl .no (encQ a),.junk,.junk,.sc (.int .i64 (i:Nat)),.sc (.int .i64 (k:Nat))]++List.replicate 44 .junk,[],[],st⟩) (a.getD i []).length ?_ ?_
         · simp -dsimp only [go_sem]
           exact⟨0,by omega,by omega,fun j hj=>by omega,rfl⟩
         · rintro n s ⟨k,rfl,hk,hrk,rfl⟩
           simp -dsimp only [go_sem,e1]
           refine⟨by omega,?_⟩
           refine ck (fun h5=> ?_) (fun h5=> ?_)
           · have hklt:k<(a.getD i []).length:=by have:=of_decide_eq_true h5;omega
             have e2:=K0v (a.getD i []) k hklt
             have e4:=G0k k (by omega)
             have wk:=wi.2 k hklt
             unfold wN at wk
             simp -dsimp only [go_sem,e1,e2]
             refine⟨by omega,by omega,?_⟩
             refine(Z0j _ st (by omega)).mono ?_
             rintro r st ⟨rfl,rfl⟩
             simp -dsimp only [go_sem]
             refine ck (fun h6=> ?_) (fun h6=> ?_)
             · have hf:Q0f ((a.getD i []).getD k default)=false:=by simpa using h6
               simp -dsimp only [go_sem]
               have:j0p a=false:=Bool.eq_false_iff.2 fun e=>by
                have:=(rightQ_iff.1 e).1 i hlt
                unfold Z0l at this
                rw [Bool.and_eq_true] at this
                rw [(j0i _ Q0f).1 this.1 k hklt] at hf;cases hf
               rw [this]
             · have ht:Q0f ((a.getD i []).getD k default)=true:=by simpa using h6
               simp -dsimp only [go_sem,e4]
               refine⟨(a.getD i []).length-(k+1),by omega,k+1,rfl,by omega,fun j hj=> ?_,rfl⟩
               by_cases e:j=k
               · subst e;exact ht
               · exact hrk j (by omega)
           · have hge:k=(a.getD i []).length:=by have:=of_decide_eq_false h5;omega
             simp -dsimp only [go_sem]
             refine Q0a ?_
             simp -dsimp only [go_sem,e3]
             refine⟨a.length-(i+1),by omega,i+1,rfl,by omega,fun j hj=> ?_,rfl⟩
             by_cases e:j=i
             · subst e
               unfold Z0l
               rw [(j0i _ Q0f).2 fun j hj=>hrk j (by omega),decide_eq_true hn];rfl
             · exact hr j (by omega)
     · have h4':=of_decide_eq_false h4
       simp -dsimp only [go_sem]
       refine Q0a ?_
       simp -dsimp only [go_sem]
       refine gkT (fun h=> ?_) (fun h=> ?_)
       · simp -dsimp only [go_sem,h]
         rw [fin (.inr h4') h]
       · simp -dsimp only [go_sem,h]
         rw [fin0 h]
   · have hge:i=a.length:=by have:=of_decide_eq_false h;omega
     simp -dsimp only [go_sem,h]
     refine Q0a ?_
     simp -dsimp only [go_sem]
     refine gkT (fun h=> ?_) (fun h=> ?_)
     · simp -dsimp only [go_sem,h]
       rw [fin (.inl hge) h]
     · simp -dsimp only [go_sem,h]
       rw [fin0 h]
end Go.Pv
end
section
/-The document's RightFrame,RightState. -/
set_option maxRecDepth 100000
namespace Go.Pv
open Go.Proofs
theorem z1d (f:Fm) (st:Q0g) (hw:wFm f):PCalls Tryz.prog 54 [.agg (H0v f)] st (fun r st'=>r= .sc (.bool (X0m f))∧st'=st):=by
 obtain⟨wm,wa,wr⟩:=hw
 have wml:=wm.1
 have wal:=wa.1
 have wrl:=wr.1
 have no: ¬X0m f=true→X0m f=false:=fun h=>by simpa using h
 refine Q0b none Tryz.func54 rfl fun E=>Q0a ?_
 by_cases h1:1≤f.m.length
 rotate_left
 · have d1:decide ((f.m.length:Int)<1)=true:=decide_eq_true (by omega)
   simp -dsimp only [go_sem,d1]
   rw [no fun e=>h1 (Z0s e).1]
 have d1:decide ((f.m.length:Int)<1)=false:=decide_eq_false (by omega)
 by_cases h2:f.m.length≤4
 rotate_left
 · have d2:decide ((f.m.length:Int)>4)=true:=decide_eq_true (by omega)
   simp -dsimp only [go_sem,d1,d2]
   rw [no fun e=>h2 (Z0s e).2.1]
 have d2:decide ((f.m.length:Int)>4)=false:=decide_eq_false (by omega)
 by_cases h4:f.a.length=f.m.length
 rotate_left
 · have d4:((f.a.length:Int) !=(f.m.length:Int))=true:=bne_iff_ne.2 (by omega)
   simp -dsimp only [go_sem,d1,d2,d4]
   rw [no fun e=>h4 (Z0s e).2.2.2.1]
 have d4:((f.a.length:Int) !=(f.m.length:Int))=false:=by rw [h4];simp
 by_cases h5:f.r.length=f.m.length
 rotate_left
 · have d5:((f.r.length:Int) !=(f.m.length:Int))=true:=bne_iff_ne.2 (by omega)
   simp -dsimp only [go_sem,d1,d2,d4,d5]
   rw [no fun e=>h5 (Z0s e).2.2.2.2.1]
 have d5:((f.r.length:Int) !=(f.m.length:Int))=false:=by rw [h5];simp
 simp -dsimp only [go_sem,d1,d2,d4,d5]
 have key:X0m f=true↔j0p f.a=true∧rightB f.r=true∧ ∀j,j<f.m.length→Q0f (f.m.getD j default)=true∧hasI (f.r.getD j default) default=true:=by
  constructor
  · intro h
    obtain⟨p1,p2,p3,p4,p5,p6,p7⟩:=Z0s h
    refine⟨?_,p7,fun j hj=>⟨(j0i _ Q0f).1 p3 j hj,?_⟩⟩
    · unfold j0p;rw [h4,p6];simp;omega
    · unfold X0m at h
      simp only [Bool.and_eq_true,List.all_eq_true] at h
      refine h.2 _ ?_
      rw [List.getD_eq_getElem?_getD,List.getElem?_eq_getElem (by omega)];exact List.getElem_mem _
  · rintro⟨q1,q2,q3⟩
    refine Y1a h1 h2 (fun i hi=>(q3 i hi).1) h4 h5 (fun i hi=> ?_) fun i hi=>(q3 i (by omega)).2
    have:=(rightQ_iff.1 q1).1 i hi
    unfold Z0l at this
    simp only [Bool.and_eq_true,decide_eq_true_eq] at this
    exact⟨by omega,fun j hj=>(j0i _ Q0f).1 this.1 j (by omega)⟩
 refine(G1m f.a st wa).mono ?_
 rintro r st ⟨rfl,rfl⟩
 cases h3:j0p f.a with
 | false=>
  simp -dsimp only [go_sem,d1,d2,d4,d5]
  rw [no fun e=>by have:=(key.1 e).1;rw [h3] at this;cases this]
 | true=>
 simp -dsimp only [go_sem,d1,d2,d4,d5]
 refine(U0q f.r st wr).mono ?_
 rintro r st ⟨rfl,rfl⟩
 cases h9:rightB f.r with
 | false=>
  simp -dsimp only [go_sem,d1,d2,d4,d5]
  rw [no fun e=>by have:=(key.1 e).2.1;rw [h9] at this;cases this]
 | true=>
 simp -dsimp only [go_sem,d1,d2,d4,d5]
 refine Q0e [false,true,false,true,true] 1 0
  (fun m s=> ∃i,m=f.m.length-i∧i≤f.m.length∧(∀j,j<i→Q0f (f.m.getD j default)=true∧hasI (f.r.getD j default) default=true)∧
   s=⟨[.junk,.lp 0 0,.junk,.sc (.int .i64 f.m.length),.sc (.int .i64 (i:Nat))]++List.replicate 57 .junk,[H0v f],[],st⟩) f.m.length ?_ ?_
 · simp -dsimp only [go_sem]
   exact⟨0,by omega,by omega,fun j hj=>absurd hj (Nat.not_lt_zero j),rfl⟩
 · rintro m s ⟨i,rfl,hi,hr,rfl⟩
   simp -dsimp only [go_sem]
   refine ck (fun h6=> ?_) (fun h6=> ?_)
   · have hlt:i<f.m.length:=by have:=of_decide_eq_true h6;omega
     have g1:=K0v f.m i (by omega)
     have g2:=J0x f.r i (by omega)
     have x1:=G0k i (by omega)
     have wi:=wm.2 i hlt
     unfold wN at wi
     simp -dsimp only [go_sem,g1]
     refine⟨by omega,?_⟩
     refine(Z0j (f.m.getD i default) st (by omega)).mono ?_
     rintro r st ⟨rfl,rfl⟩
     cases h7:Q0f (f.m.getD i default) with
     | false=>
      simp -dsimp only [go_sem]
      rw [no fun e=>by have:=((key.1 e).2.2 i hlt).1;rw [h7] at this;cases this]
     | true=>
      simp -dsimp only [go_sem,g2]
      refine⟨by omega,?_⟩
      refine(j2c (f.r.getD i default) default st (wr.2 i (by omega)) (by show([]:List UInt64).length≤_;simp)).mono ?_
      rintro r st ⟨rfl,rfl⟩
      cases h8:hasI (f.r.getD i default) default with
      | false=>
       simp -dsimp only [go_sem]
       rw [no fun e=>by have:=((key.1 e).2.2 i hlt).2;rw [h8] at this;cases this]
      | true=>
       simp -dsimp only [go_sem,x1]
       refine⟨f.m.length-(i+1),by omega,i+1,rfl,by omega,fun j hj=> ?_,rfl⟩
       by_cases e:j=i
       · subst e;exact⟨h7,h8⟩
       · exact hr j (by omega)
   · have hge:i=f.m.length:=by have:=of_decide_eq_false h6;omega
     simp -dsimp only [go_sem]
     refine Q0a ?_
     simp -dsimp only [go_sem]
     rw [key.2 ⟨h3,h9,fun j hj=>hr j (by omega)⟩]
theorem J1h (s:Sx) (st:Q0g) (hw:wSx s):PCalls Tryz.prog 21 [.agg (J0v s)] st (fun r st'=>r= .sc (.bool (Z0g s))∧st'=st):=by
 obtain⟨w0,w1,wf⟩:=hw
 unfold wN at w0 w1
 refine Q0b none Tryz.func21 rfl fun E=>Q0a ?_
 have no: ¬Z0g s=true→Z0g s=false:=fun h=>by simpa using h
 by_cases h1:0≤s.idx
 rotate_left
 · have d1:decide (s.idx≥0)=false:=decide_eq_false (by omega)
   simp -dsimp only [go_sem,d1]
   rw [no fun e=>h1 (Z0z e).1]
 have d1:decide (s.idx≥0)=true:=decide_eq_true (by omega)
 by_cases h2:s.idx≤4096
 rotate_left
 · have d2:decide (s.idx≤4096)=false:=decide_eq_false (by omega)
   simp -dsimp only [go_sem,d1,d2]
   rw [no fun e=>h2 (Z0z e).2.1]
 have d2:decide (s.idx≤4096)=true:=decide_eq_true (by omega)
 simp -dsimp only [go_sem,d1,d2]
 refine(Z0j s.t st (by omega)).mono ?_
 rintro r st ⟨rfl,rfl⟩
 cases h3:Q0f s.t with
 | false=>
  simp -dsimp only [go_sem,d1,d2]
  rw [no fun e=>by have:=(Z0z e).2.2.1;rw [h3] at this;cases this]
 | true=>
 simp -dsimp only [go_sem,d1,d2]
 refine(Z0j s.h st (by omega)).mono ?_
 rintro r st ⟨rfl,rfl⟩
 cases h4:Q0f s.h with
 | false=>
  simp -dsimp only [go_sem,d1,d2]
  rw [no fun e=>by have:=(Z0z e).2.2.2.1;rw [h4] at this;cases this]
 | true=>
 cases h5:s.t.neg with
 | true=>
  simp -dsimp only [go_sem,d1,d2]
  rw [no fun e=>by unfold Z0g at e;simp [h5] at e]
 | false=>
 by_cases h6:0<s.h.w.length
 rotate_left
 · have d6:decide ((s.h.w.length:Int)>0)=false:=decide_eq_false (by omega)
   simp -dsimp only [go_sem,d1,d2,d6]
   rw [no fun e=>h6 (by unfold Z0g at e;simp at e;exact e.1.1.2)]
 have d6:decide ((s.h.w.length:Int)>0)=true:=decide_eq_true (by omega)
 cases h7:s.h.neg with
 | true=>
  simp -dsimp only [go_sem,d1,d2,d6]
  rw [no fun e=>by unfold Z0g at e;simp [h7] at e]
 | false=>
 simp -dsimp only [go_sem,d1,d2,d6]
 have hh:PCalls Tryz.prog 54 [.agg (H0v s.f)] st (fun r st'=>r= .sc (.bool (X0m s.f))∧st'=st):=z1d s.f st wf
 refine hh.mono ?_
 rintro r st ⟨rfl,rfl⟩
 simp -dsimp only [go_sem,d1,d2,d6]
 have:Z0g s=X0m s.f:=by unfold Z0g;simp [h1,h2,h3,h4,h5,h6,h7]
 rw [this]
end Go.Pv
end
section
/-The document's FrameOf,RightProblem,Begin. -/
set_option maxRecDepth 100000
namespace Go.Pv
open Go.Proofs
theorem X3g {q:List Nm} (h:wNs q):wB (ofB q):=by
 obtain⟨h1,h2⟩:=h
 refine⟨by simpa [ofB] using h1,fun i hi=> ?_⟩
 have hi':i<q.length:=by simpa [ofB] using hi
 have e:(ofB q).getD i default=⟨q.getD i default,q.getD i default⟩:=by simp [ofB,List.getD_eq_getElem?_getD,hi']
 rw [e]
 exact⟨h2 i hi',h2 i hi'⟩
theorem k2w {b:List Ivl} {p:Int} (h:(midB b p).2=0):1≤b.length∧b.length≤4:=by
 unfold midB at h
 split at h
 · rename_i hc;have:=W0z hc.1;exact⟨this.1,this.2⟩
 · exact absurd h (by decide)
theorem H2f (b:List Ivl) (p:Int) (st:Q0g) (hb:wB b):PCalls Tryz.prog 92 [.sl .no (Q0u b),.sc (.int .i64 p)] st
 (fun r st'=>r= .tup [.agg (H0v (W0l b p).1),.sc (.int .i64 (W0l b p).2)]∧st'=st):=by
 refine Q0b none Tryz.func92 rfl fun E=>Q0h (Q0a ?_)
 have wm:=X3f b p hb
 have wo:=X3g wm
 simp -dsimp only [go_sem]
 refine Q0h (Q0a ?_)
 simp -dsimp only [go_sem]
 refine(k2v b p st hb).mono ?_
 rintro r st ⟨rfl,rfl⟩
 simp -dsimp only [go_sem]
 refine Q0h (Q0a ?_)
 unfold W0l
 by_cases h1:(midB b p).2=0
 rotate_left
 · have d1:((midB b p).2 !=0)=true:=bne_iff_ne.2 h1
   rw [if_pos h1]
   simp -dsimp only [go_sem,d1]
   rfl
 have d1:((midB b p).2 !=0)=false:=by rw [h1];rfl
 have c1: ¬((midB b p).2≠0):=fun h=>h h1
 rw [if_neg c1]
 simp -dsimp only [go_sem,d1]
 refine Q0h (Q0a ?_)
 simp -dsimp only [go_sem]
 refine(j2y (midB b p).1 st wm).plain.mono ?_
 rintro r st ⟨rfl,rfl⟩
 simp -dsimp only [go_sem]
 refine(k2f b (ofB (midB b p).1) p st hb wo).mono ?_
 rintro r st ⟨rfl,rfl⟩
 simp -dsimp only [go_sem]
 refine Q0h (Q0a ?_)
 by_cases h2:(opB 1 b (ofB (midB b p).1) p).2=0
 rotate_left
 · have d2:((opB 1 b (ofB (midB b p).1) p).2 !=0)=true:=bne_iff_ne.2 h2
   rw [if_pos h2]
   simp -dsimp only [go_sem,d2]
   rfl
 have d2:((opB 1 b (ofB (midB b p).1) p).2 !=0)=false:=by rw [h2];rfl
 have c2: ¬((opB 1 b (ofB (midB b p).1) p).2≠0):=fun h=>h h2
 rw [if_neg c2]
 simp -dsimp only [go_sem,d2]
 refine Q0a ?_
 simp -dsimp only [go_sem]
 refine(X4b (b.length:Int) st).mono ?_
 rintro r st ⟨rfl,rfl⟩
 simp -dsimp only [go_sem]
 have hl:=k2w h1
 have e:oneQ (b.length:Int)=k2g b.length:=by rw [oneQ,if_pos (by omega)];rfl
 rw [e]
set_option maxHeartbeats 1000000 in
theorem V1y (p:Pb) (st:Q0g) (hw:wPb p):PCalls Tryz.prog 91 [.agg (K1z p)] st (fun r st'=>r= .sc (.bool (H0a p))∧st'=st):=by
 obtain⟨wf,wb,w1,w2,w3⟩:=hw
 have wfl:=wf.1
 have wbl:=wb.1
 unfold wN at w1 w2 w3
 have wz:(default:Nm).w.length≤100000000000:=by show([]:List UInt64).length≤_;simp
 have no: ¬H0a p=true→H0a p=false:=fun h=>by simpa using h
 have parts:H0a p=true↔W0g p.fld=true∧rightB p.box=true∧p.box.length=p.fld.length∧Q0f p.until'=true∧Q0f p.most=true∧Q0f p.least=true∧0<cmpR p.until' default∧0<cmpR p.least default∧0≤cmpR p.most p.least∧Z0t p.prec=true∧2≤p.order∧p.order≤10∧1≤p.budget∧p.budget≤4096:=by
  unfold H0a;simp only [Bool.and_eq_true,decide_eq_true_eq,and_assoc]
 refine Q0b none Tryz.func91 rfl fun E=>Q0h (Q0a ?_)
 simp -dsimp only [go_sem]
 refine Q0h (Q0a ?_)
 simp -dsimp only [go_sem]
 refine(v1g p.fld st wf).mono ?_
 rintro r st ⟨rfl,rfl⟩
 cases q1:W0g p.fld with
 | false=>
  simp -dsimp only [go_sem]
  rw [no fun e=>by have:=(parts.1 e).1;rw [q1] at this;cases this]
 | true=>
 simp -dsimp only [go_sem]
 refine(U0q p.box st wb).mono ?_
 rintro r st ⟨rfl,rfl⟩
 cases q2:rightB p.box with
 | false=>
  simp -dsimp only [go_sem]
  rw [no fun e=>by have:=(parts.1 e).2.1;rw [q2] at this;cases this]
 | true=>
 by_cases q3:p.box.length=p.fld.length
 rotate_left
 · have d3:((p.box.length:Int) !=(p.fld.length:Int))=true:=bne_iff_ne.2 (by omega)
   simp -dsimp only [go_sem,d3]
   rw [no fun e=>q3 (parts.1 e).2.2.1]
 have d3:((p.box.length:Int) !=(p.fld.length:Int))=false:=by rw [q3];simp
 simp -dsimp only [go_sem,d3]
 refine(Z0j p.until' st (by omega)).mono ?_
 rintro r st ⟨rfl,rfl⟩
 cases q4:Q0f p.until' with
 | false=>
  simp -dsimp only [go_sem,d3]
  rw [no fun e=>by have:=(parts.1 e).2.2.2.1;rw [q4] at this;cases this]
 | true=>
 simp -dsimp only [go_sem,d3]
 refine(Z0j p.most st (by omega)).mono ?_
 rintro r st ⟨rfl,rfl⟩
 cases q5:Q0f p.most with
 | false=>
  simp -dsimp only [go_sem,d3]
  rw [no fun e=>by have:=(parts.1 e).2.2.2.2.1;rw [q5] at this;cases this]
 | true=>
 simp -dsimp only [go_sem,d3]
 refine(Z0j p.least st (by omega)).mono ?_
 rintro r st ⟨rfl,rfl⟩
 cases q6:Q0f p.least with
 | false=>
  simp -dsimp only [go_sem,d3]
  rw [no fun e=>by have:=(parts.1 e).2.2.2.2.2.1;rw [q6] at this;cases this]
 | true=>
 simp -dsimp only [go_sem,d3]
 refine Q0h (Q0a ?_)
 simp -dsimp only [go_sem]
 refine Q0a ?_
 simp -dsimp only [go_sem]
 refine(G0v p.until' default st (by omega) (by omega)).mono ?_
 rintro r st ⟨rfl,rfl⟩
 by_cases q7:0<cmpR p.until' default
 rotate_left
 · have d7:decide (cmpR p.until' default>0)=false:=decide_eq_false (by omega)
   simp -dsimp only [go_sem,d7]
   rw [no fun e=>q7 (parts.1 e).2.2.2.2.2.2.1]
 have d7:decide (cmpR p.until' default>0)=true:=decide_eq_true (by omega)
 simp -dsimp only [go_sem,d7]
 refine(G0v p.least default st (by omega) (by omega)).mono ?_
 rintro r st ⟨rfl,rfl⟩
 by_cases q8:0<cmpR p.least default
 rotate_left
 · have d8:decide (cmpR p.least default>0)=false:=decide_eq_false (by omega)
   simp -dsimp only [go_sem,d7,d8]
   rw [no fun e=>q8 (parts.1 e).2.2.2.2.2.2.2.1]
 have d8:decide (cmpR p.least default>0)=true:=decide_eq_true (by omega)
 simp -dsimp only [go_sem,d7,d8]
 refine(G0v p.most p.least st (by omega) (by omega)).mono ?_
 rintro r st ⟨rfl,rfl⟩
 by_cases q9:0≤cmpR p.most p.least
 rotate_left
 · have d9:decide (cmpR p.most p.least≥0)=false:=decide_eq_false (by omega)
   simp -dsimp only [go_sem,d7,d8,d9]
   rw [no fun e=>q9 (parts.1 e).2.2.2.2.2.2.2.2.1]
 have d9:decide (cmpR p.most p.least≥0)=true:=decide_eq_true (by omega)
 simp -dsimp only [go_sem,d7,d8,d9]
 refine(U2f p.prec st).mono ?_
 rintro r st ⟨rfl,rfl⟩
 cases q10:Z0t p.prec with
 | false=>
  simp -dsimp only [go_sem,d7,d8,d9]
  rw [no fun e=>by have:=(parts.1 e).2.2.2.2.2.2.2.2.2.1;rw [q10] at this;cases this]
 | true=>
 by_cases q11:2≤p.order
 rotate_left
 · have d11:decide (p.order≥2)=false:=decide_eq_false (by omega)
   simp -dsimp only [go_sem,d7,d8,d9,d11]
   rw [no fun e=>q11 (parts.1 e).2.2.2.2.2.2.2.2.2.2.1]
 have d11:decide (p.order≥2)=true:=decide_eq_true (by omega)
 by_cases q12:p.order≤10
 rotate_left
 · have d12:decide (p.order≤10)=false:=decide_eq_false (by omega)
   simp -dsimp only [go_sem,d7,d8,d9,d11,d12]
   rw [no fun e=>q12 (parts.1 e).2.2.2.2.2.2.2.2.2.2.2.1]
 have d12:decide (p.order≤10)=true:=decide_eq_true (by omega)
 by_cases q13:1≤p.budget
 rotate_left
 · have d13:decide (p.budget≥1)=false:=decide_eq_false (by omega)
   simp -dsimp only [go_sem,d7,d8,d9,d11,d12,d13]
   rw [no fun e=>q13 (parts.1 e).2.2.2.2.2.2.2.2.2.2.2.2.1]
 have d13:decide (p.budget≥1)=true:=decide_eq_true (by omega)
 by_cases q14:p.budget≤4096
 rotate_left
 · have d14:decide (p.budget≤4096)=false:=decide_eq_false (by omega)
   simp -dsimp only [go_sem,d7,d8,d9,d11,d12,d13,d14]
   rw [no fun e=>q14 (parts.1 e).2.2.2.2.2.2.2.2.2.2.2.2.2]
 have d14:decide (p.budget≤4096)=true:=decide_eq_true (by omega)
 simp -dsimp only [go_sem,d7,d8,d9,d11,d12,d13,d14]
 rw [parts.2 ⟨q1,q2,q3,q4,q5,q6,q7,q8,q9,q10,q11,q12,q13,q14⟩]
theorem J2n (p:Pb) (st:Q0g) (hw:wPb p):PCalls Tryz.prog 49 [.agg (K1z p)] st
 (fun r st'=>r= .tup [.agg (J0v (y0d p).1),.sc (.int .i64 (y0d p).2)]∧st'=st):=by
 refine Q0b none Tryz.func49 rfl fun E=>Q0h (Q0a ?_)
 simp -dsimp only [go_sem]
 refine Q0h (Q0a ?_)
 simp -dsimp only [go_sem]
 have c0:PCalls Tryz.prog 91 [.agg (K1z p)] st (fun r st'=>r= .sc (.bool (H0a p))∧st'=st):=V1y p st hw
 refine c0.mono ?_
 rintro r st ⟨rfl,rfl⟩
 unfold y0d
 cases h1:H0a p with
 | false=>
  rw [if_neg (by simp)]
  simp -dsimp only [go_sem]
  rfl
 | true=>
  rw [if_pos rfl]
  simp -dsimp only [go_sem]
  refine Q0h (Q0a ?_)
  simp -dsimp only [go_sem]
  refine(H2f p.box p.prec st hw.2.1).mono ?_
  rintro r st ⟨rfl,rfl⟩
  simp -dsimp only [go_sem]
  refine Q0h (Q0a ?_)
  by_cases h2:(W0l p.box p.prec).2=0
  rotate_left
  · have d2:((W0l p.box p.prec).2 !=0)=true:=bne_iff_ne.2 h2
    rw [if_pos h2]
    simp -dsimp only [go_sem,d2]
    rfl
  have d2:((W0l p.box p.prec).2 !=0)=false:=by rw [h2];rfl
  have c2: ¬((W0l p.box p.prec).2≠0):=fun h=>h h2
  rw [if_neg c2]
  simp -dsimp only [go_sem,d2]
  refine Q0a ?_
  simp -dsimp only [go_sem]
  rfl
end Go.Pv
end
