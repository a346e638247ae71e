/- Parts of the walk: M78, PvBb, G7. -/
import Derived.Test.YthichlfphjbadaaGreatZEB
import Derived.Test.YthichlfphjbadaaGreatZBE
import Derived.Test.YthichlfphjbadaaGreatZBV
import Derived.Test.YthichlfphjbadaaGreatZM
import Derived.Test.YthichlfphjbadaaGreatZBN
set_option linter.unusedVariables false
set_option linter.unusedSimpArgs false
section
/-Problems,and their states:what the document's Begin and the drawn states are. No program in it. -/
namespace Go.Pv
structure Pb where
 fld:List (List Mn)
 box:List Ivl
 until':Nm
 most:Nm
 least:Nm
 prec:Int
 order:Int
 budget:Int
instance : Inhabited Pb:=⟨⟨[],[],default,default,default,0,0,0⟩⟩
def H0g (p:Pb):Bool:=W0n p.fld&&rightB p.box&&decide (p.box.length=p.fld.length)&&Q0f p.until'&&Q0f p.most&&Q0f p.least&&decide (0<cmpR p.until' default)&&decide (0<cmpR p.least default)&&decide (0≤cmpR p.most p.least)&&
 Z0w p.prec&&decide (2≤p.order)&&decide (p.order≤10)&&decide (1≤p.budget)&&decide (p.budget≤4096)
def y0x (p:Pb):Sx×Int:=if H0g p=true then(if (W0t p.box p.prec).2≠0 then(default,(W0t p.box p.prec).2) else(⟨0,default,p.most,(W0t p.box p.prec).1⟩,0)) else(default,1)
def okPb (n:Nat) (p:Pb):Prop:=okField n 2 2 p.fld∧p.box.length=n∧(∀i,i<n→luI 20 20 (p.box.getD i default))∧(∃q,0<q∧q≤64∧p.until'=tq q)∧
 Q0f p.most=true∧Q0f p.least=true∧0<qN p.least∧qN p.least≤qN p.most∧16≤p.prec∧p.prec≤64∧2≤p.order∧p.order≤4∧1≤p.budget∧p.budget≤9
theorem j1m {x:Nm} (h:0<qN x):x.neg=false∧0<x.w.length:=by
 have h2:=(w1b x).2 h
 unfold sgnN at h2
 split at h2
 · omega
 · rename_i hw
   split at h2
   · omega
   · rename_i hn
     refine⟨by simpa using hn,?_⟩
     have:x.w≠ []:=fun e=>hw (by rw [e];rfl)
     exact List.length_pos_iff.2 this
theorem X2r {x y:Nm} (hx:Q0f x=true) (hy:Q0f y=true) (h:qN y<qN x):0<cmpR x y:=by
 rw [z2d hx hy]
 have h1:=cmpN_lt.2 h
 have h2:=x0n y x
 omega
theorem Y3r {x y:Nm} (hx:Q0f x=true) (hy:Q0f y=true) (h:qN y≤qN x):0≤cmpR x y:=by
 rw [z2d hx hy]
 have h1:=cmpN_le.2 h
 have h2:=x0n y x
 omega
theorem okPb.right {n:Nat} {p:Pb} (h:okPb n p) (hn:1≤n) (hn4:n≤4):H0g p=true∧Z0w p.prec=true:=by
 obtain⟨h1,h2,h3,⟨q,q1,q2,h4⟩,h5,h6,h7,h8,h9,h10,h11,h12,h13,h14⟩:=h
 have hp:Z0w p.prec=true:=by
  have:=K2t (p:=p.prec.toNat) (by omega) (by omega)
  rwa [show((p.prec.toNat:Nat):Int)=p.prec from by omega] at this
 have hu:Q0f p.until'=true:=by rw [h4];exact K0i q
 have hu0:0<qN p.until':=by rw [h4];exact(J3r q1 q2).2
 have hd:Q0f (default:Nm)=true:=by decide
 refine⟨?_,hp⟩
 unfold H0g
 simp only [Bool.and_eq_true,decide_eq_true_eq]
 refine⟨⟨⟨⟨⟨⟨⟨⟨⟨⟨⟨⟨⟨h1.right hn hn4,J0w (fun i hi=>(h3 i (by omega)).1) (by omega) (by omega)⟩,by rw [h2,h1.1]⟩,hu⟩,h5⟩,h6⟩,?_⟩,?_⟩,Y3r h5 h6 h8⟩,hp⟩,h11⟩,by omega⟩,h13⟩,by omega⟩
 · exact X2r hu hd (by rw [H0i];exact hu0)
 · exact X2r h6 hd (by rw [H0i];exact h7)
theorem Q1e {i:Int} {t h:Nm} {f:Fm} (h0:0≤i) (h1:i≤4096) (ht:Q0f t=true) (htn:t.neg=false) (hh:Q0f h=true) (hp:0<qN h) (hf:X0p f=true):Q0z ⟨i,t,h,f⟩=true:=by
 obtain⟨p1,p2⟩:=j1m hp
 unfold Q0z
 simp only [Bool.and_eq_true,decide_eq_true_eq,Bool.not_eq_true']
 exact⟨⟨⟨⟨⟨⟨⟨h0,h1⟩,ht⟩,hh⟩,htn⟩,p2⟩,p1⟩,hf⟩
theorem okPb.begin {n:Nat} {p:Pb} (h:okPb n p) (hn:1≤n) (hn4:n≤4):y0x p=(⟨0,default,p.most,(W0t p.box p.prec).1⟩,0)∧X0p (W0t p.box p.prec).1=true∧Q0z (y0x p).1=true:=by
 obtain⟨r,hp⟩:=h.right hn hn4
 obtain⟨h1,h2,h3,_,h5,h6,h7,h8,_⟩:=h
 have hf:=k1f (L:=20) (U:=20) (b:=p.box) (p:=p.prec) (by omega) (by omega) (fun i hi=>h3 i (by omega)) hp (by omega)
 have e:y0x p=(⟨0,default,p.most,(W0t p.box p.prec).1⟩,0):=by
  unfold y0x
  rw [if_pos r,if_neg (by rw [hf.1];simp)]
 refine⟨e,hf.2.1,?_⟩
 rw [e]
 exact Q1e (by omega) (by omega) (by decide) rfl h5 (by grind) hf.2.1
theorem Y1w {f:Fm} (h1:1≤f.m.length) (h4:f.m.length≤4) (hm: ∀i,i<f.m.length→Q0f (f.m.getD i default)=true) (ha:f.a.length=f.m.length) (hr:f.r.length=f.m.length)
 (har: ∀i,i<f.a.length→(f.a.getD i []).length=f.m.length∧ ∀j,j<f.m.length→Q0f ((f.a.getD i []).getD j default)=true) (hz: ∀i,i<f.r.length→hasI (f.r.getD i default) default=true):X0p f=true:=by
 have all: ∀(l:List Nm),(∀i,i<l.length→Q0f (l.getD i default)=true)→l.all Q0f=true:=fun l hl=>by
  rw [List.all_eq_true]
  intro x hx
  obtain⟨i,hi,rfl⟩:=V1p hx
  exact hl i hi
 unfold X0p
 simp only [Bool.and_eq_true,decide_eq_true_eq]
 refine⟨⟨⟨⟨⟨⟨h1,h4⟩,?_⟩,ha⟩,hr⟩,?_⟩,?_⟩
 · unfold Z0p;rw [all _ hm];simp
 · rw [List.all_eq_true]
   intro x hx
   obtain⟨i,hi,rfl⟩:=List.mem_iff_getElem.1 hx
   have:=har i hi
   rw [show f.a.getD i []=f.a[i] by simp [List.getD_eq_getElem?_getD,hi]] at this
   unfold Z0p
   rw [all _ (fun j hj=>this.2 j (by omega)),this.1];simp
 · rw [List.all_eq_true]
   intro x hx
   obtain⟨i,hi,rfl⟩:=V1p hx
   exact hz i hi
theorem Y2k (x y:Nm):hasI ⟨U0d (absN x),absN y⟩ default=true:=by
 refine(V1m (J2x x y)).2 ⟨?_,?_⟩
 · show qM (mant (U0d (absN x))) (U0d (absN x)).exp≤0
   rw [←J0s (U0d (absN x)).exp]
   exact qM_le.2 (U1s x)
 · show 0≤qM (mant (absN y)) (absN y).exp
   rw [←J0s (absN y).exp]
   exact qM_le.2 (X2b y)
end Go.Pv
end
section
/-Frames,states,problems as plain values. -/
namespace Go.Pv
open Go.Proofs
def G0r (f:Fm):List PV:= [.sl .no (Q0x f.m),.sl .no (encQ f.a),.sl .no (Q0u f.r)]
attribute [go_sem] G0r
def X0m (s:Sx):List PV:= [.sc (.int .i64 s.idx),.sc (.bool s.t.neg),.sc (.int .i64 s.t.exp),.sl .no (encW s.t.w),.sc (.bool s.h.neg),.sc (.int .i64 s.h.exp),.sl .no (encW s.h.w),.sl .no (Q0x s.f.m),.sl .no (encQ s.f.a),.sl .no (Q0u s.f.r)]
attribute [go_sem] X0m
def V1z (p:Pb):List PV:= [.sl .no (K0n p.fld),.sl .no (Q0u p.box),.sc (.bool p.until'.neg),.sc (.int .i64 p.until'.exp),.sl .no (encW p.until'.w),.sc (.bool p.most.neg),.sc (.int .i64 p.most.exp),.sl .no (encW p.most.w),
 .sc (.bool p.least.neg),.sc (.int .i64 p.least.exp),.sl .no (encW p.least.w),.sc (.int .i64 p.prec),.sc (.int .i64 p.order),.sc (.int .i64 p.budget)]
attribute [go_sem] V1z
def wNs' (l:List Nm):Prop:=l.length≤100000000000∧ ∀i,i<l.length→wN (l.getD i default)
def wQs (l:List (List Nm)):Prop:=l.length≤100000000000∧ ∀i,i<l.length→wNs' (l.getD i [])
def wFm (f:Fm):Prop:=wNs' f.m∧wQs f.a∧wB f.r
def wSx (s:Sx):Prop:=wN s.t∧wN s.h∧wFm s.f
def wPb (p:Pb):Prop:=wF p.fld∧wB p.box∧wN p.until'∧wN p.most∧wN p.least
theorem fm_eq {a b:Fm} :a=b↔a.m=b.m∧a.a=b.a∧a.r=b.r:=by
 cases a;cases b;simp
theorem sx_eq {a b:Sx} :a=b↔a.idx=b.idx∧a.t=b.t∧a.h=b.h∧a.f=b.f:=by
 cases a;cases b;simp
theorem H0t {l:List Nm} {n:Nat} (h:Z0p l n=true) (hn:n≤1000):wNs' l:=by
 unfold Z0p at h
 simp only [Bool.and_eq_true,decide_eq_true_eq,List.all_eq_true] at h
 refine⟨by omega,fun i hi=>Q0t (h.1 _ ?_)⟩
 rw [List.getD_eq_getElem?_getD,List.getElem?_eq_getElem hi]
 exact List.getElem_mem hi
theorem U2g {f:Fm} (h:X0p f=true):wFm f:=by
 obtain⟨f1,f2,f3,f4,f5,f6,f7⟩:=Z0v h
 refine⟨H0t (n:=f.m.length) (by unfold Z0p;rw [f3];simp) (by omega),⟨by omega,fun i hi=> ?_⟩,⟨by omega,fun i hi=> ?_⟩⟩
 · rw [List.all_eq_true] at f6
   refine H0t (n:=f.m.length) (f6 _ ?_) (by omega)
   rw [List.getD_eq_getElem?_getD,List.getElem?_eq_getElem hi]
   exact List.getElem_mem hi
 · have:=Z0c (V0z f7 i hi)
   exact⟨Q0t this.1,Q0t this.2.1⟩
theorem w0i {s:Sx} (h:Q0z s=true):wSx s:=by
 obtain⟨_,_,h3,h4,h5⟩:=X0c h
 exact⟨Q0t h3,Q0t h4,U2g h5⟩
end Go.Pv
end
section
/-The type of a state. -/
namespace Go.Pv
open Go.Proofs
def okFm (k:Nat) (x:Fm):Prop:=okL okN k x.m∧okL (okL okN) k x.a∧okL okI k x.r
def okSx (k:Nat) (x:Sx):Prop:=i64R x.idx∧okN k x.t∧okN k x.h∧okFm k x.f
theorem U1n {k k':Nat} {l:List Nm} (h:okL okN k l) (hk:k≤k'):okL okN k' l:=⟨Nat.le_trans h.1 hk,fun i hi=>U0s (h.2 i hi) hk⟩
theorem V1a {k k':Nat} {l:List (List Nm)} (h:okL (okL okN) k l) (hk:k≤k'):okL (okL okN) k' l:=⟨Nat.le_trans h.1 hk,fun i hi=>U1n (h.2 i hi) hk⟩
theorem j1s {k k':Nat} {x:Fm} (h:okFm k x) (hk:k≤k'):okFm k' x:=⟨U1n h.1 hk,V1a h.2.1 hk,V1b h.2.2 hk⟩
theorem G2s {k k':Nat} {x:Sx} (h:okSx k x) (hk:k≤k'):okSx k' x:=⟨h.1,U0s h.2.1 hk,U0s h.2.2.1 hk,j1s h.2.2.2 hk⟩
theorem J3k :Ty Tryz.prog 39 1 (fun l:List (List Nm)=> [.sl .no (encQ l)]) (okL (okL okN)):=
 k0d (v0y Tryz.underlying39 (by kernel_rfl) Q3r (by decide) (fun c=> .sl .no (Q0x c)) (fun _=>rfl)) id (fun _=>rfl) (fun _=>rfl) (fun _ _ h=>h) (fun h hk=>V1a h hk)
theorem J3l :Ty Tryz.prog 41 3 G0r okFm:=
 k0d (z0o Tryz.underlying41 (by kernel_rfl) (Z0s Q3r rfl (Z0s J3k rfl (Z0s H3w rfl (H0y _)))))
  (fun p=>(⟨p.1,p.2.1,p.2.2.1⟩:Fm)) (fun _=>rfl) (fun _=>rfl) (fun k x h=>(⟨h.1,h.2.1,h.2.2.1⟩:okFm k ⟨x.1,x.2.1,x.2.2.1⟩)) j1s
theorem J3j :Ty Tryz.prog 43 10 X0m okSx:=
 k0d (z0o Tryz.underlying43 (by kernel_rfl) (Z0s (Q2k Tryz.underlying3 (by kernel_rfl)) rfl (Z0s v1w rfl (Z0s v1w rfl (Z0s J3l rfl (H0y _))))))
  (fun p=>(⟨p.1,p.2.1,p.2.2.1,p.2.2.2.1⟩:Sx)) (fun _=>rfl) (fun _=>rfl) (fun k x h=>(⟨h.1,h.2.1,h.2.2.1,h.2.2.2.1⟩:okSx k ⟨x.1,x.2.1,x.2.2.1,x.2.2.2.1⟩)) G2s
theorem H3q {k:Nat} (hk:k≤2000000) {x:Fm} (h:okFm k x):wFm x:=
 ⟨⟨by have:=h.1.1;omega,fun i hi=>z1q hk (h.1.2 i hi)⟩,⟨by have:=h.2.1.1;omega,fun i hi=>⟨by have:=(h.2.1.2 i hi).1;exact Nat.le_trans this (by omega),fun j hj=>z1q hk ((h.2.1.2 i hi).2 j hj)⟩⟩,H3r hk h.2.2⟩
theorem H3o {k:Nat} (hk:k≤2000000) {x:Sx} (h:okSx k x):wSx x:=⟨z1q hk h.2.1,z1q hk h.2.2.1,H3q hk h.2.2.2⟩
end Go.Pv
end
