/- Parts of the walk: M78, PvBb, G7. -/
import Derived.Test.YthichlfphjbadaaGreatZEB
import Derived.Test.YthichlfphjbadaaGreatZBE
import Derived.Test.YthichlfphjbadaaGreatZBV
import Derived.Test.YthichlfphjbadaaGreatZM
import Derived.Test.YthichlfphjbadaaGreatZBN
set_option linter.unusedVariables false
set_option linter.unusedSimpArgs false
section
/-Problems,and their states:what the document's Begin and the drawn states are. No program in it. -/
namespace Go.Pv
structure Pb where
 fld:List (List Mn)
 box:List Ivl
 until':Nm
 most:Nm
 least:Nm
 prec:Int
 order:Int
 budget:Int
instance : Inhabited Pb:=⟨⟨[],[],default,default,default,0,0,0⟩⟩
def G0n (p:Pb):Bool:=V0x p.fld&&rightB p.box&&decide (p.box.length=p.fld.length)&&Q0f p.until'&&Q0f p.most&&Q0f p.least&&decide (0<cmpR p.until' default)&&decide (0<cmpR p.least default)&&decide (0≤cmpR p.most p.least)&&
 Z0q p.prec&&decide (2≤p.order)&&decide (p.order≤10)&&decide (1≤p.budget)&&decide (p.budget≤4096)
def w0a (p:Pb):Sx×Int:=if G0n p=true then(if (W0b p.box p.prec).2≠0 then(default,(W0b p.box p.prec).2) else(⟨0,default,p.most,(W0b p.box p.prec).1⟩,0)) else(default,1)
def okPb (n:Nat) (p:Pb):Prop:=okField n 2 2 p.fld∧p.box.length=n∧(∀i,i<n→luI 20 20 (p.box.getD i default))∧(∃q,0<q∧q≤64∧p.until'=tq q)∧
 Q0f p.most=true∧Q0f p.least=true∧0<qN p.least∧qN p.least≤qN p.most∧16≤p.prec∧p.prec≤64∧2≤p.order∧p.order≤4∧1≤p.budget∧p.budget≤9
theorem q1p {x:Nm} (h:0<qN x):x.neg=false∧0<x.w.length:=by
 have h2:=(j1b x).2 h
 unfold sgnN at h2
 split at h2
 · omega
 · rename_i hw
   split at h2
   · omega
   · rename_i hn
     refine⟨by simpa using hn,?_⟩
     have:x.w≠ []:=fun e=>hw (by rw [e];rfl)
     exact List.length_pos_iff.2 this
theorem y1s {x y:Nm} (hx:Q0f x=true) (hy:Q0f y=true) (h:qN y<qN x):0<cmpR x y:=by
 rw [G2b hx hy]
 have h1:=cmpN_lt.2 h
 have h2:=v0u y x
 omega
theorem K3f {x y:Nm} (hx:Q0f x=true) (hy:Q0f y=true) (h:qN y≤qN x):0≤cmpR x y:=by
 rw [G2b hx hy]
 have h1:=cmpN_le.2 h
 have h2:=v0u y x
 omega
theorem okPb.right {n:Nat} {p:Pb} (h:okPb n p) (hn:1≤n) (hn4:n≤4):G0n p=true∧Z0q p.prec=true:=by
 obtain⟨h1,h2,h3,⟨q,q1,q2,h4⟩,h5,h6,h7,h8,h9,h10,h11,h12,h13,h14⟩:=h
 have hp:Z0q p.prec=true:=by
  have:=Z2p (p:=p.prec.toNat) (by omega) (by omega)
  rwa [show((p.prec.toNat:Nat):Int)=p.prec from by omega] at this
 have hu:Q0f p.until'=true:=by rw [h4];exact k0u q
 have hu0:0<qN p.until':=by rw [h4];exact(Q3i q1 q2).2
 have hd:Q0f (default:Nm)=true:=by decide
 refine⟨?_,hp⟩
 unfold G0n
 simp only [Bool.and_eq_true,decide_eq_true_eq]
 refine⟨⟨⟨⟨⟨⟨⟨⟨⟨⟨⟨⟨⟨h1.right hn hn4,K0a (fun i hi=>(h3 i (by omega)).1) (by omega) (by omega)⟩,by rw [h2,h1.1]⟩,hu⟩,h5⟩,h6⟩,?_⟩,?_⟩,K3f h5 h6 h8⟩,hp⟩,h11⟩,by omega⟩,h13⟩,by omega⟩
 · exact y1s hu hd (by rw [G0o];exact hu0)
 · exact y1s h6 hd (by rw [G0o];exact h7)
theorem w0g {i:Int} {t h:Nm} {f:Fm} (h0:0≤i) (h1:i≤4096) (ht:Q0f t=true) (htn:t.neg=false) (hh:Q0f h=true) (hp:0<qN h) (hf:X0i f=true):Q0z ⟨i,t,h,f⟩=true:=by
 obtain⟨p1,p2⟩:=q1p hp
 unfold Q0z
 simp only [Bool.and_eq_true,decide_eq_true_eq,Bool.not_eq_true']
 exact⟨⟨⟨⟨⟨⟨⟨h0,h1⟩,ht⟩,hh⟩,htn⟩,p2⟩,p1⟩,hf⟩
theorem okPb.begin {n:Nat} {p:Pb} (h:okPb n p) (hn:1≤n) (hn4:n≤4):w0a p=(⟨0,default,p.most,(W0b p.box p.prec).1⟩,0)∧X0i (W0b p.box p.prec).1=true∧Q0z (w0a p).1=true:=by
 obtain⟨r,hp⟩:=h.right hn hn4
 obtain⟨h1,h2,h3,_,h5,h6,h7,h8,_⟩:=h
 have hf:=z1k (L:=20) (U:=20) (b:=p.box) (p:=p.prec) (by omega) (by omega) (fun i hi=>h3 i (by omega)) hp (by omega)
 have e:w0a p=(⟨0,default,p.most,(W0b p.box p.prec).1⟩,0):=by
  unfold w0a
  rw [if_pos r,if_neg (by rw [hf.1];simp)]
 refine⟨e,hf.2.1,?_⟩
 rw [e]
 exact w0g (by omega) (by omega) (by decide) rfl h5 (by grind) hf.2.1
theorem V1k {f:Fm} (h1:1≤f.m.length) (h4:f.m.length≤4) (hm: ∀i,i<f.m.length→Q0f (f.m.getD i default)=true) (ha:f.a.length=f.m.length) (hr:f.r.length=f.m.length)
 (har: ∀i,i<f.a.length→(f.a.getD i []).length=f.m.length∧ ∀j,j<f.m.length→Q0f ((f.a.getD i []).getD j default)=true) (hz: ∀i,i<f.r.length→hasI (f.r.getD i default) default=true):X0i f=true:=by
 have all: ∀(l:List Nm),(∀i,i<l.length→Q0f (l.getD i default)=true)→l.all Q0f=true:=fun l hl=>by
  rw [List.all_eq_true]
  intro x hx
  obtain⟨i,hi,rfl⟩:=J1g hx
  exact hl i hi
 unfold X0i
 simp only [Bool.and_eq_true,decide_eq_true_eq]
 refine⟨⟨⟨⟨⟨⟨h1,h4⟩,?_⟩,ha⟩,hr⟩,?_⟩,?_⟩
 · unfold Z0k;rw [all _ hm];simp
 · rw [List.all_eq_true]
   intro x hx
   obtain⟨i,hi,rfl⟩:=List.mem_iff_getElem.1 hx
   have:=har i hi
   rw [show f.a.getD i []=f.a[i] by simp [List.getD_eq_getElem?_getD,hi]] at this
   unfold Z0k
   rw [all _ (fun j hj=>this.2 j (by omega)),this.1];simp
 · rw [List.all_eq_true]
   intro x hx
   obtain⟨i,hi,rfl⟩:=J1g hx
   exact hz i hi
theorem K2h (x y:Nm):hasI ⟨Y0o (absN x),absN y⟩ default=true:=by
 refine(J1d (Q2w x y)).2 ⟨?_,?_⟩
 · show qM (mant (Y0o (absN x))) (Y0o (absN x)).exp≤0
   rw [←J0m (Y0o (absN x)).exp]
   exact qM_le.2 (W1g x)
 · show 0≤qM (mant (absN y)) (absN y).exp
   rw [←J0m (absN y).exp]
   exact qM_le.2 (y1c y)
end Go.Pv
end
section
/-Frames,states,problems as plain values. -/
namespace Go.Pv
open Go.Proofs
def G0a (f:Fm):List PV:= [.sl .no (Q0w f.m),.sl .no (encQ f.a),.sl .no (Q0t f.r)]
attribute [go_sem] G0a
def J0h (s:Sx):List PV:= [.sc (.int .i64 s.idx),.sc (.bool s.t.neg),.sc (.int .i64 s.t.exp),.sl .no (encW s.t.w),.sc (.bool s.h.neg),.sc (.int .i64 s.h.exp),.sl .no (encW s.h.w),.sl .no (Q0w s.f.m),.sl .no (encQ s.f.a),.sl .no (Q0t s.f.r)]
attribute [go_sem] J0h
def K1s (p:Pb):List PV:= [.sl .no (K0e p.fld),.sl .no (Q0t p.box),.sc (.bool p.until'.neg),.sc (.int .i64 p.until'.exp),.sl .no (encW p.until'.w),.sc (.bool p.most.neg),.sc (.int .i64 p.most.exp),.sl .no (encW p.most.w),
 .sc (.bool p.least.neg),.sc (.int .i64 p.least.exp),.sl .no (encW p.least.w),.sc (.int .i64 p.prec),.sc (.int .i64 p.order),.sc (.int .i64 p.budget)]
attribute [go_sem] K1s
def wNs' (l:List Nm):Prop:=l.length≤100000000000∧ ∀i,i<l.length→wN (l.getD i default)
def wQs (l:List (List Nm)):Prop:=l.length≤100000000000∧ ∀i,i<l.length→wNs' (l.getD i [])
def wFm (f:Fm):Prop:=wNs' f.m∧wQs f.a∧wB f.r
def wSx (s:Sx):Prop:=wN s.t∧wN s.h∧wFm s.f
def wPb (p:Pb):Prop:=wF p.fld∧wB p.box∧wN p.until'∧wN p.most∧wN p.least
theorem fm_eq {a b:Fm} :a=b↔a.m=b.m∧a.a=b.a∧a.r=b.r:=by
 cases a;cases b;simp
theorem sx_eq {a b:Sx} :a=b↔a.idx=b.idx∧a.t=b.t∧a.h=b.h∧a.f=b.f:=by
 cases a;cases b;simp
theorem k0t {l:List Nm} {n:Nat} (h:Z0k l n=true) (hn:n≤1000):wNs' l:=by
 unfold Z0k at h
 simp only [Bool.and_eq_true,decide_eq_true_eq,List.all_eq_true] at h
 refine⟨by omega,fun i hi=>Z0g (h.1 _ ?_)⟩
 rw [List.getD_eq_getElem?_getD,List.getElem?_eq_getElem hi]
 exact List.getElem_mem hi
theorem V2b {f:Fm} (h:X0i f=true):wFm f:=by
 obtain⟨f1,f2,f3,f4,f5,f6,f7⟩:=Z0u h
 refine⟨k0t (n:=f.m.length) (by unfold Z0k;rw [f3];simp) (by omega),⟨by omega,fun i hi=> ?_⟩,⟨by omega,fun i hi=> ?_⟩⟩
 · rw [List.all_eq_true] at f6
   refine k0t (n:=f.m.length) (f6 _ ?_) (by omega)
   rw [List.getD_eq_getElem?_getD,List.getElem?_eq_getElem hi]
   exact List.getElem_mem hi
 · have:=Q0x (V0m f7 i hi)
   exact⟨Z0g this.1,Z0g this.2.1⟩
theorem H1k {s:Sx} (h:Q0z s=true):wSx s:=by
 obtain⟨_,_,h3,h4,h5⟩:=X0a h
 exact⟨Z0g h3,Z0g h4,V2b h5⟩
end Go.Pv
end
section
/-The type of a state. -/
namespace Go.Pv
open Go.Proofs
def okFm (k:Nat) (x:Fm):Prop:=okL okN k x.m∧okL (okL okN) k x.a∧okL okI k x.r
def okSx (k:Nat) (x:Sx):Prop:=i64R x.idx∧okN k x.t∧okN k x.h∧okFm k x.f
theorem W1c {k k':Nat} {l:List Nm} (h:okL okN k l) (hk:k≤k'):okL okN k' l:=⟨Nat.le_trans h.1 hk,fun i hi=>H0r (h.2 i hi) hk⟩
theorem X1t {k k':Nat} {l:List (List Nm)} (h:okL (okL okN) k l) (hk:k≤k'):okL (okL okN) k' l:=⟨Nat.le_trans h.1 hk,fun i hi=>W1c (h.2 i hi) hk⟩
theorem q1x {k k':Nat} {x:Fm} (h:okFm k x) (hk:k≤k'):okFm k' x:=⟨W1c h.1 hk,X1t h.2.1 hk,q1w h.2.2 hk⟩
theorem W2n {k k':Nat} {x:Sx} (h:okSx k x) (hk:k≤k'):okSx k' x:=⟨h.1,H0r h.2.1 hk,H0r h.2.2.1 hk,q1x h.2.2.2 hk⟩
theorem Q3c :Ty Tryz.prog 39 1 (fun l:List (List Nm)=> [.sl .no (encQ l)]) (okL (okL okN)):=
 y0n (Q1l Tryz.underlying39 (by kernel_rfl) v2o (by decide) (fun c=> .sl .no (Q0w c)) (fun _=>rfl)) id (fun _=>rfl) (fun _=>rfl) (fun _ _ h=>h) (fun h hk=>X1t h hk)
theorem Q3d :Ty Tryz.prog 41 3 G0a okFm:=
 y0n (k0l Tryz.underlying41 (by kernel_rfl) (X0p v2o rfl (X0p Q3c rfl (X0p y3a rfl (x0l _)))))
  (fun p=>(⟨p.1,p.2.1,p.2.2.1⟩:Fm)) (fun _=>rfl) (fun _=>rfl) (fun k x h=>(⟨h.1,h.2.1,h.2.2.1⟩:okFm k ⟨x.1,x.2.1,x.2.2.1⟩)) q1x
theorem Q3b :Ty Tryz.prog 43 10 J0h okSx:=
 y0n (k0l Tryz.underlying43 (by kernel_rfl) (X0p (v2n Tryz.underlying3 (by kernel_rfl)) rfl (X0p J2z rfl (X0p J2z rfl (X0p Q3d rfl (x0l _))))))
  (fun p=>(⟨p.1,p.2.1,p.2.2.1,p.2.2.2.1⟩:Sx)) (fun _=>rfl) (fun _=>rfl) (fun k x h=>(⟨h.1,h.2.1,h.2.2.1,h.2.2.2.1⟩:okSx k ⟨x.1,x.2.1,x.2.2.1,x.2.2.2.1⟩)) W2n
theorem Y3g {k:Nat} (hk:k≤2000000) {x:Fm} (h:okFm k x):wFm x:=
 ⟨⟨by have:=h.1.1;omega,fun i hi=>Q2p hk (h.1.2 i hi)⟩,⟨by have:=h.2.1.1;omega,fun i hi=>⟨by have:=(h.2.1.2 i hi).1;exact Nat.le_trans this (by omega),fun j hj=>Q2p hk ((h.2.1.2 i hi).2 j hj)⟩⟩,w3u hk h.2.2⟩
theorem Y3f {k:Nat} (hk:k≤2000000) {x:Sx} (h:okSx k x):wSx x:=⟨Q2p hk h.2.1,Q2p hk h.2.2.1,Y3g hk h.2.2.2⟩
end Go.Pv
end
