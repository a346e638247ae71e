/- Parts of the walk: M85, M86, M87, M88, M90, M91, M92, M89, M93. -/
import Derived.Test.YthlnpmkcmbohaaaGreatDoorZFD
set_option linter.unusedVariables false
set_option linter.unusedSimpArgs false
section
namespace Go.Pv
def ZI (j k:Nat):Nat:=if k<j then k else k+1
def kd (j:Nat)(x:Rat):Rat:=if j % 2=1 then -x else x
def detS (f:Nat->Nat->Rat)(D:Nat->Rat):Nat->Rat
 | 0=>0
 | j+1=>detS f D j+kd j (f 0 j*D j)
def Jg :Nat->(Nat->Nat->Rat)->Rat
 | 0,_=>1
 | n+1,f=>detS f (fun j=>Jg n fun i k=>f (i+1) (ZI j k)) (n+1)
def WK (n:Nat)(f:Nat->Nat->Rat)(i j:Nat):Rat:=kd (i+j) (Jg (n-1) fun a b=>f (ZI j a) (ZI i b))
theorem w0q (f:Nat->Nat->Rat):Jg 1 f=f 0 0:=by simp[Jg,detS,kd];try grind
theorem k0n (f:Nat->Nat->Rat):Jg 2 f=f 0 0*f 1 1-f 0 1*f 1 0:=by rw[Jg];simp[detS,w0q,kd,ZI];grind
theorem wO (f:Nat->Nat->Rat):Jg 3 f=f 0 0*(f 1 1*f 2 2-f 1 2*f 2 1)-f 0 1*(f 1 0*f 2 2-f 1 2*f 2 0)+f 0 2*(f 1 0*f 2 1-f 1 1*f 2 0):=by rw[Jg];simp[detS,k0n,kd,ZI];grind
theorem j1z (f:Nat->Nat->Rat):Jg 4 f=f 0 0*Jg 3 (fun i k=>f (i+1) (ZI 0 k))-f 0 1*Jg 3 (fun i k=>f (i+1) (ZI 1 k))+f 0 2*Jg 3 (fun i k=>f (i+1) (ZI 2 k))-f 0 3*Jg 3 (fun i k=>f (i+1) (ZI 3 k)):=by rw[Jg];simp[detS,kd];grind
theorem V1f (n:Nat)(h1:1<=n)(h4:n<=4)(f:Nat->Nat->Rat)(i j:Nat)(hi:i<n)(hj:j<n):Zj (WK n f i) (fun k=>f k j) n=Jg n f*QZ i j:=by
 have hn:n=1\/n=2\/n=3\/n=4:=oG;rcases hn with rfl | rfl | rfl | rfl;have:i=0:=oG;have:j=0:=oG
 subst_vars
 simp[Zj,WK,QZ,w0q,Jg,detS,kd];try grind
 have:i=0\/i=1:=oG;have:j=0\/j=1:=oG;rcases ‹i=0\/i=1›with rfl | rfl<;>rcases ‹j=0\/j=1›with rfl | rfl<;>simp[Zj,WK,QZ,k0n,w0q,kd,ZI]<;>grind;have a1:i=0\/i=1\/i=2:=oG;have a2:j=0\/j=1\/j=2:=oG;rcases a1 with rfl | rfl | rfl<;>rcases a2 with rfl | rfl | rfl<;>simp[Zj,WK,QZ,wO,k0n,kd,ZI]<;>grind;have a1:i=0\/i=1\/i=2\/i=3:=oG;have a2:j=0\/j=1\/j=2\/j=3:=oG;rcases a1 with rfl | rfl | rfl | rfl<;>rcases a2 with rfl | rfl | rfl | rfl<;>simp[Zj,WK,QZ,j1z,wO,kd,ZI]<;>grind
theorem wV (n:Nat)(h1:1<=n)(h4:n<=4)(f:Nat->Nat->Rat)(i j:Nat)(hi:i<n)(hj:j<n):Zj (f i) (fun k=>WK n f k j) n=Jg n f*QZ i j:=by
 have hn:n=1\/n=2\/n=3\/n=4:=oG;rcases hn with rfl | rfl | rfl | rfl;have:i=0:=oG;have:j=0:=oG
 subst_vars
 simp[Zj,WK,QZ,w0q,Jg,detS,kd];try grind
 have:i=0\/i=1:=oG;have:j=0\/j=1:=oG;rcases ‹i=0\/i=1›with rfl | rfl<;>rcases ‹j=0\/j=1›with rfl | rfl<;>simp[Zj,WK,QZ,k0n,w0q,kd,ZI]<;>grind;have a1:i=0\/i=1\/i=2:=oG;have a2:j=0\/j=1\/j=2:=oG;rcases a1 with rfl | rfl | rfl<;>rcases a2 with rfl | rfl | rfl<;>simp[Zj,WK,QZ,wO,k0n,kd,ZI]<;>grind;have a1:i=0\/i=1\/i=2\/i=3:=oG;have a2:j=0\/j=1\/j=2\/j=3:=oG;rcases a1 with rfl | rfl | rfl | rfl<;>rcases a2 with rfl | rfl | rfl | rfl<;>simp[Zj,WK,QZ,j1z,wO,kd,ZI]<;>grind
def Z2o (n:Nat)(f:Nat->Nat->Rat)(x:Nat->Rat):Prop:=(∃i,i<n/\x i≠0)/\ ∀i,i<n->Zj (f i) x n=0
def GI (f:Nat->Nat->Rat)(r:Nat):Nat->Nat->Rat:=fun i k=>if i=0 then f r k else if i=r then f 0 k else f i k
theorem K1y (n:Nat)(h4:n<=4)(f:Nat->Nat->Rat)(r:Nat)(h0:0<r)(hr:r<n):Jg n (GI f r)= -Jg n f:=by have hn:n=2\/n=3\/n=4:=oG;rcases hn with rfl | rfl | rfl;have:r=1:=oG;subst this;simp[k0n,GI];grind;have a:r=1\/r=2:=oG;rcases a with rfl | rfl<;>simp[wO,GI]<;>grind;have a:r=1\/r=2\/r=3:=oG;rcases a with rfl | rfl | rfl<;>simp[j1z,wO,GI,ZI]<;>grind
theorem J1c {n:Nat}{f:Nat->Nat->Rat}{x:Nat->Rat}{r:Nat}(hr:r<n)(h:Z2o n (GI f r) x):Z2o n f x:=by
 have e0:GI f r 0=f r:=by funext k;simp[GI]
 have e1:r≠0->GI f r r=f 0:=fun hr=>by funext k;simp[GI,hr]
 have e2: ∀i,i≠0->i≠r->GI f r i=f i:=fun i h1 h2=>by funext k;simp[GI,h1,h2]
 refine⟨h.1,fun i hi=> ?_⟩;by_cases z0:i=0;subst z0;by_cases er:r=0;subst er;rw[<-e0];exact h.2 0 hi;rw[<-e1 er];exact h.2 r hr;by_cases er:i=r;subst er;rw[<-e0];exact h.2 0 oG;rw[<-e2 i z0 er];exact h.2 i hi
def I5 (f:Nat->Nat->Rat):Nat->Nat->Rat:=fun i k=>f (i+1) (k+1)-f (i+1) 0/f 0 0*f 0 (k+1)
theorem k0k (n:Nat)(h4:n<=3)(f:Nat->Nat->Rat)(h:f 0 0≠0):Jg (n+1) f=f 0 0*Jg n (I5 f):=by
 have e1:f 1 0=f 1 0/f 0 0*f 0 0:=(by grind);have e2:f 2 0=f 2 0/f 0 0*f 0 0:=(by grind);have e3:f 3 0=f 3 0/f 0 0*f 0 0:=(by grind);have hn:n=0\/n=1\/n=2\/n=3:=oG;rcases hn with rfl | rfl | rfl | rfl;rw[w0q];simp[Jg];try grind
 rw[k0n,w0q];simp only[I5];generalize f 1 0/f 0 0=a at*
 rw[e1];grind;rw[wO,k0n];simp only[I5];generalize f 1 0/f 0 0=a at*
 generalize f 2 0/f 0 0=b at*
 rw[e1,e2];grind;rw[j1z,wO,wO,wO,wO,wO];simp only[I5,ZI];simp;generalize f 1 0/f 0 0=a at*
 generalize f 2 0/f 0 0=b at*
 generalize f 3 0/f 0 0=c at*
 rw[e1,e2,e3];grind
theorem Hq (X Y:Nat->Rat): ∀n,Zj X Y (n+1)=X 0*Y 0+Zj (fun k=>X (k+1)) (fun k=>Y (k+1)) n
 | 0=>by simp[Zj];try grind
 | n+1=>by rw[Zj,Hq X Y n,Zj];grind
theorem ZD {X X' Y Y':Nat->Rat} : ∀n,(∀k,k<n->X k=X' k/\Y k=Y' k)->Zj X Y n=Zj X' Y' n
 | 0,_=>rfl
 | n+1,h=>by rw[Zj,Zj,ZD n fun k hk=>h k oG,(h n oG).1,(h n oG).2]
theorem Ih (X X' Y:Nat->Rat)(a:Rat): ∀n,Zj (fun k=>X k+a*X' k) Y n=Zj X Y n+a*Zj X' Y n
 | 0=>by simp[Zj];try grind
 | n+1=>by rw[Zj,Zj,Zj,Ih X X' Y a n];grind
theorem xv (X Y:Nat->Rat)(a:Rat): ∀n,Zj (fun k=>a*X k) Y n=a*Zj X Y n
 | 0=>by simp[Zj]
 | n+1=>by rw[Zj,Zj,xv X Y a n];grind
theorem qK (X Y:Nat->Rat)(d:Rat)(n:Nat):Zj (fun k=>X k/d) Y n=Zj X Y n/d:=by have:=xv X Y (1/d) n;rw[ZD n (X':=fun k=>1/d*X k) (Y':=Y) fun k _=>⟨by grind,rfl⟩,this];grind
theorem WH (a:Nat->Rat)(A:Nat->Nat->Rat)(x:Nat->Rat)(n:Nat): ∀m,Zj a (fun k=>Zj (A k) x n) m=Zj (fun j=>Zj a (fun k=>A k j) m) x n
 | 0=>by rw[Zj,JY n fun k _=> ?_];simp[Zj]
 | m+1=>by rw[Zj,WH a A x n m,<-Ih];rfl
theorem xc : ∀(n:Nat),n<=4-> ∀f:Nat->Nat->Rat,Jg n f=0-> ∃x,Z2o n f x
 | 0,_,f,h=>by rw[Jg] at h;exact absurd h (by decide)
 | n+1,h4,f,h=>by
  have main: ∀f:Nat->Nat->Rat,f 0 0≠0->Jg (n+1) f=0-> ∃x,Z2o (n+1) f x:=fun f h0 h=>by
   rw[k0k n oG f h0] at h;have hz:Jg n (I5 f)=0:=by rcases Rat.mul_eq_zero.1 h with h | h;exact absurd h h0;exact h
   obtain⟨y,⟨i,hi,hy⟩,hk⟩:=xc n oG _ hz;refine⟨fun k=>if k=0 then -(Zj (fun k=>f 0 (k+1)) y n)/f 0 0 else y (k-1),⟨i+1,oG,by simpa using hy⟩,fun r hr=> ?_⟩;rw[Hq];have e:Zj (fun k=>f r (k+1)) (fun k=>if k+1=0 then -(Zj (fun k=>f 0 (k+1)) y n)/f 0 0 else y (k+1-1)) n=Zj (fun k=>f r (k+1)) y n:=ZD n fun k hk=>⟨rfl,by simp⟩;rw[e,BC rfl];cases r with
   | zero=>grind
   | succ r=>
    have h2:=hk r oG;have h3:Zj (I5 f r) y n=Zj (fun k=>f (r+1) (k+1)) y n+ -(f (r+1) 0/f 0 0)*Zj (fun k=>f 0 (k+1)) y n:=by rw[<-Ih];exact ZD n fun k _=>⟨by unfold I5;grind,rfl⟩
    rw[h3] at h2;grind
  by_cases ha: ∀i,i<n+1->f i 0=0;refine⟨fun k=>if k=0 then 1 else 0,⟨0,oG,by simp⟩,fun i hi=> ?_⟩;rw[Hq,ha i hi,JY n fun k _=>by simp];grind;obtain⟨r,hr⟩: ∃r,¬(r<n+1->f r 0=0):=Classical.not_forall.1 ha;have hr1:r<n+1:=BE fun h=>hr fun h2=>absurd h2 h;have hr2:f r 0≠0:=fun h=>hr fun _=>h;by_cases h0:r=0;subst h0;exact main f hr2 h;obtain⟨x,hx⟩:=main (GI f r) (by simpa[GI] using hr2) (by rw[K1y (n+1) h4 f r oG hr1,h];grind);exact⟨x,J1c hr1 hx⟩
def H0 (x:Rat):Rat:=if x<0 then -x else x
theorem w0d (x:Rat):GE (H0 x) x:=by unfold H0 GE;split<;>constructor<;>grind
theorem w0c {a x:Rat}(h:GE a x):H0 x<=a:=by unfold H0;have:=h.1;have:=h.2;split<;>grind
theorem Z0y (x:Rat):0<=H0 x:=by unfold H0;split<;>grind
theorem w0b {x:Rat}(h:H0 x=0):x=0:=by unfold H0 at h;split at h<;>grind
theorem Q0f (x:Nat->Rat): ∀n,0<n-> ∃m,m<n/\ ∀k,k<n->H0 (x k)<=H0 (x m)
 | 0,h=>absurd h (by decide)
 | 1,_=>⟨0,by decide,fun k hk=>by have:k=0:=oG
                                  subst this;exact CB⟩
 | n+2,_=>by obtain⟨m,h1,h2⟩:=Q0f x (n+1) oG;by_cases hc:H0 (x (n+1))<=H0 (x m);exact⟨m,oG,fun k hk=>if e:k=n+1 then e▸hc else h2 k oG⟩;have hc':H0 (x m)<=H0 (x (n+1)):=(by grind);exact⟨n+1,oG,fun k hk=>if e:k=n+1 then e▸CB else E9 (h2 k oG) hc'⟩
theorem ql {a b x:Rat}(h:GE a x)(hab:a<=b):GE b x:=by unfold GE at*;have:=h.1;have:=h.2;constructor<;>grind
section
variable {n:Nat} {A R E:Nat->Nat->Rat} {e:Rat}
theorem U2o (hE: ∀i j,i<n->j<n->E i j=QZ i j-Zj (R i) (fun k=>A k j) n)(x:Nat->Rat){i:Nat}(hi:i<n):Zj (R i) (fun k=>Zj (A k) x n) n=x i-Zj (E i) x n:=by rw[WH];have h1:Zj (E i) x n=Zj (fun j=>QZ i j+(-1)*Zj (R i) (fun k=>A k j) n) x n:=ZD n fun k hk=>⟨by rw[hE i k hi hk];grind,rfl⟩;rw[h1,Ih,Jp n hi];grind
theorem U1d (h4:n<=4)(hE: ∀i j,i<n->j<n->E i j=QZ i j-Zj (R i) (fun k=>A k j) n)(B:Nat->Nat->Rat)(hB: ∀i j,i<n->j<n->GE (B i j) (E i j))(he: ∀i,i<n->xR (B i) n<=e)(h1:e<1):Jg n A≠0:=by
 intro h;obtain⟨x,⟨i,hi,hx⟩,hk⟩:=xc n h4 A h;obtain⟨m,hm,hmx⟩:=Q0f x n oG;have hb:GE (xR (B m) n*H0 (x m)) (Zj (E m) x n):=Hr n fun k hk=>⟨hB m k hm hk,ql (w0d _) (hmx k hk)⟩;have hz:=U2o hE x hm;rw[JY n fun k hk2=>by rw[hk k hk2,Rat.mul_zero]] at hz;have h2:x m=Zj (E m) x n:=(by grind);rw[<-h2] at hb;have h3:=w0c hb;have h4:=Z0y (x m);have h5:xR (B m) n*H0 (x m)<=e*H0 (x m):=D5 (he m hm) h4;have h6:0<=(1-e):=(by grind);have h7:(1-e)*H0 (x m)<=0:=(by grind);have h8:H0 (x m)=0:=by refine BE fun hne=> ?_;have:0<H0 (x m):=(by grind);have:=Rat.mul_pos (show 0<1-e by grind) this;grind
 have h9:=hmx i hi;have h10:=Z0y (x i);exact hx (w0b (by grind))
theorem J1f (h4:n<=4)(hE: ∀i j,i<n->j<n->E i j=QZ i j-Zj (R i) (fun k=>A k j) n)(B:Nat->Nat->Rat)(hB: ∀i j,i<n->j<n->GE (B i j) (E i j))(he: ∀i,i<n->xR (B i) n<=e)(h1:e<1)
 {r q:Rat} (hr: ∀i j,i<n->j<n->GE r (R i j)) (hq:e*r<=q*(1-e)) {i j:Nat} (hi:i<n) (hj:j<n):GE q (WK n A i j/Jg n A-R i j):=by
 have hd:=U1d h4 hE B hB he h1;have h1n:1<=n:=oG
 let x:Nat->Rat:=fun k=>WK n A k j/Jg n A
 have hx: ∀k,k<n->Zj (A k) x n=QZ k j:=fun k hk=>by have c:=wV n h1n h4 A k j hk hj;rw[V1] at c⊢;show Zj (fun l=>WK n A l j/Jg n A) (A k) n=_;rw[qK,c];grind
 have hrx: ∀i,i<n->x i-R i j=Zj (E i) x n:=fun i hi=>by have:=U2o hE x hi;rw[ZD n (fun k hk=>⟨rfl,hx k hk⟩)] at this;rw[V1,show Zj (fun k=>QZ k j) (R i) n=Zj (QZ j) (R i) n from ZD n fun k _=>⟨by unfold QZ;split<;>split<;>first | rfl | omega,rfl⟩,Jp n hj] at this;grind
 obtain⟨m,hm,hmx⟩:=Q0f x n oG;have hb: ∀i,i<n->GE (e*H0 (x m)) (Zj (E i) x n):=fun i hi=>ql (Hr n fun k hk=>⟨hB i k hi hk,ql (w0d _) (hmx k hk)⟩) (D5 (he i hi) (Z0y _));have b1:=hb m hm;rw[<-hrx m hm] at b1;have b2:=hr m j hm hj;have b3:H0 (x m)<=r+e*H0 (x m):=w0c (by unfold GE at*;have:=b1.1;have:=b1.2;have:=b2.1;have:=b2.2;constructor<;>grind);have e0:0<=e:=by
  have:=he m hm;have:0<=xR (B m) n:=by
   have hs: ∀l,l<=n->0<=xR (B m) l:=fun l=>by
    induction l with
    | zero=>intro _;exact CB
    | succ l ih=>
     intro hl;have:=ih oG;have hbl:=hB m l hm oG;unfold GE at hbl;rw[xR];grind
   exact hs n (BD _)
  grind
 have b4:(e*H0 (x m))*(1-e)<=q*(1-e):=by have:e*(H0 (x m)*(1-e))<=e*r:=Rat.mul_le_mul_of_nonneg_left (by grind) e0;grind
 have b5:e*H0 (x m)<=q:=by refine BE fun hne=> ?_;have hlt:0<e*H0 (x m)-q:=(by grind);have:=Rat.mul_pos hlt (show 0<1-e by grind);grind
 have:=hb i hi;rw[<-hrx i hi] at this;exact ql this b5
end
theorem Vw {G:Nat->Nat->Ivl×Int}{n:Nat}(h:(Km G n).2=0):(Km G n).1.length=n/\ ∀i,i<n->((Km G n).1.getD i []).length=n/\ ∀j,j<n->(G i j).2=0/\atM (Km G n).1 i j=(G i j).1:=by obtain⟨g1,g2,g3⟩:=Js h;refine⟨g1,fun i hi=> ?_⟩;have e:(Km G n).1.getD i []=(XZ (fun j=>G i j) 0 n []).1:=g3 i hi;obtain⟨r1,r2,r3⟩:=Js (g2 i hi);refine⟨by rw[e];exact r1,fun j hj=>⟨r2 j hj,?_⟩⟩;unfold atM;rw[e];exact r3 j hj
theorem Ig {G:Nat->Nat->Ivl×Int}{n:Nat}(h: ∀i j,i<n->j<n->(G i j).2=0):(Km G n).2=0:=
 VB _ _ _ fun i _ hi=>VB _ _ _ fun j _ hj=>h i j oG oG
theorem Ia {q:List (List Nm)}{i:Nat}(hi:i<q.length):(ofM q).getD i []=(q.getD i []).map fun x=>⟨x,x⟩:=by unfold ofM ofB;rw[q_a,B8,BB hi,q_a,BB hi];rfl
theorem H8 {q:List (List Nm)}{i j:Nat}(hi:i<q.length)(hj:j<(q.getD i []).length):atM (ofM q) i j=⟨QM q i j,QM q i j⟩:=by unfold atM QM;rw[Ia hi];generalize q.getD i []=r at hj⊢;rw[q_a,B8,BB hj,q_a,BB hj];rfl
theorem q0u {q:List (List Nm)}{i:Nat}(hi:i<q.length):((ofM q).getD i []).length=(q.getD i []).length:=by rw[Ia hi,BR]
theorem sqR.rightM {n:Nat}{a:List (List Nm)}(h:sqR n a)(h1:1<=n)(h4:n<=4):rightM (ofM a)=true:=by
 have hl:(ofM a).length=n:=by unfold ofM;rw[BR];exact h.1
 refine rightM_iff.2 ⟨fun i hi=> ?_,oG,oG⟩;rw[hl] at hi⊢;have h0:i<a.length:=(by rw[h.1];exact hi);have hr:=h.row hi;refine⟨by rw[q0u h0];exact hr.1,?_⟩;have hlr:((ofM a).getD i []).length=n:=(by rw[q0u h0];exact hr.1);refine Xj (fun j hj=> ?_) oG oG;rw[hlr] at hj;have e:((ofM a).getD i []).getD j default=atM (ofM a) i j:=rfl;rw[e,H8 h0 (by rw[hr.1];exact hj)];exact Xg (h.ent hi hj)
theorem G0p {r:Nat->Ivl}{p:Int} : ∀j,(VD r p j).2=0->xR (fun k=>qN (HH (r k))) (j+1)<=qN (VD r p j).1
 | 0,_=>by show 0+qN (HH (r 0))<=qN (HH (r 0));rw[Rat.zero_add];exact CB
 | j+1,h=>by
  have h0:(VD r p j).2=0:=by refine BE fun hne=> ?_;rw[VD,BC hne] at h;exact hne h
  have ih:=G0p j h0;rw[Wm h0] at h⊢;have hv:=Jw h;have hg:=JP (exV 0 (ofN (VD r p j).1) (ofN (HH (r (j+1))))) p.toNat;rw[YS,Y0p,QL,QL] at hg;show xR (fun k=>qN (HH (r k))) (j+1)+qN (HH (r (j+1)))<=_;rw[hv];grind
theorem J0m {m:Mx}{p:Int}(hl:1<=m.length): ∀i,(Xy m p i).2=0->0<=qN (Xy m p i).1/\ ∀k,k<i->xR (fun j=>qN (HH (atM m k j))) m.length<=qN (Xy m p i).1
 | 0,_=>⟨by show 0<=qN (default:Nm);rw[Kd];exact CB,fun k hk=>oG⟩
 | i+1,h=>by
  have h0:(Xy m p i).2=0:=by refine BE fun hne=> ?_;rw[Xy,BC hne] at h;exact hne h
  have hs:(VD (atM m i) p (m.length-1)).2=0:=by refine BE fun hne=> ?_;rw[Xy,BA (fun e=>e h0),BC hne] at h;exact hne h
  obtain⟨h2,h4⟩:=J0m hl i h0;have s3:=G0p _ hs;rw[show m.length-1+1=m.length from oG] at s3;have hsr:=WW (atM m i) p (m.length-1);have hnr:=VJ m p i;rw[Yn h0 hs,Yx hsr hnr];split;rename_i hc;have hc:=cmpN_gt.1 hc;refine⟨by show 0<=qN (VD (atM m i) p (m.length-1)).1;grind,fun k hk=> ?_⟩;show _<=qN (VD (atM m i) p (m.length-1)).1;by_cases e:k=i;subst e;exact s3;have:=h4 k oG;grind;rename_i hc;have hc:=cmpN_le.1 (LA.1 hc);refine⟨h2,fun k hk=> ?_⟩;show _<=qN (Xy m p i).1;by_cases e:k=i;subst e;grind;exact h4 k oG
theorem Ym {m:Mx}{p:Int}(h:(Z1 m p).2=0):rightM m=true/\Q4 p=true/\0<=qN (Z1 m p).1/\Qg (Z1 m p).1=true/\ ∀k,k<m.length->xR (fun j=>qN (HH (atM m k j))) m.length<=qN (Z1 m p).1:=by
 have hg:rightM m=true/\Q4 p=true:=by refine BE fun hne=> ?_;rw[Z1,BA hne] at h;exact absurd h (by decide)
 rw[Z1,BC hg] at h⊢;obtain⟨a,b⟩:=J0m (QI hg.1).1 _ h;exact⟨hg.1,hg.2,a,VJ m p _,b⟩
def ZX (x a:List (List Nm))(p:Int):Nm×Int:=
 if (XW (ofM x) (ofM a) p).2≠0 then(default,(XW (ofM x) (ofM a) p).2) else
 if (opM 1 (idM (x.length:Int)) (XW (ofM x) (ofM a) p).1 p).2≠0 then(default,(opM 1 (idM (x.length:Int)) (XW (ofM x) (ofM a) p).1 p).2) else
 Z1 (opM 1 (idM (x.length:Int)) (XW (ofM x) (ofM a) p).1 p).1 p
def Yf (x:List (List Nm))(e:Nm)(p:Int):Nm×Int:=
 if (Qv 1 oneN e p false).2≠0 then(default,(Qv 1 oneN e p false).2) else
 if (Z1 (ofM x) p).2≠0 then(default,(Z1 (ofM x) p).2) else
 if (Qv 2 (Z1 (ofM x) p).1 e p true).2≠0 then(default,(Qv 2 (Z1 (ofM x) p).1 e p true).2) else
 Jx (Qv 2 (Z1 (ofM x) p).1 e p true).1 (Qv 1 oneN e p false).1 p true
def Xs (y q:Nm)(p:Int):Ivl×Int:=if (Qv 1 y q p false).2≠0\/(Qv 0 y q p true).2≠0 then(default,2) else(⟨(Qv 1 y q p false).1,(Qv 0 y q p true).1⟩,0)
def Xr (a:List (List Nm))(p:Int):Mx×Int:=
 if (Qu a p).2≠0 then([],(Qu a p).2) else
 if (ZX (Qu a p).1 a p).2≠0 then([],(ZX (Qu a p).1 a p).2) else
 if Uw (ZX (Qu a p).1 a p).1 oneN>=0 then([],3) else
 if (Yf (Qu a p).1 (ZX (Qu a p).1 a p).1 p).2≠0 then([],(Yf (Qu a p).1 (ZX (Qu a p).1 a p).1 p).2) else
 Km (fun i j=>Xs (QM (Qu a p).1 i j) (Yf (Qu a p).1 (ZX (Qu a p).1 a p).1 p).1 p) a.length
theorem yV {k:Nat}{a b:Mx}{p:Int}(h:(opM k a b p).2=0):(rightM a=true/\rightM b=true/\a.length=b.length/\Q4 p=true)/\(opM k a b p).1.length=a.length/\ ∀i,i<a.length->((opM k a b p).1.getD i []).length=a.length/\ ∀j,j<a.length->(opI k (atM a i j) (atM b i j) p).2=0/\atM (opM k a b p).1 i j=(opI k (atM a i j) (atM b i j) p).1:=by
 have hg:rightM a=true/\rightM b=true/\a.length=b.length/\Q4 p=true:=by refine BE fun hne=> ?_;rw[opM,BA hne] at h;exact absurd h (by decide)
 rw[opM,BC hg] at h⊢;exact⟨hg,Vw h⟩
theorem Yo {a b:Mx}{p:Int}(h:(XW a b p).2=0):(rightM a=true/\rightM b=true/\a.length=b.length/\Q4 p=true)/\(XW a b p).1.length=a.length/\ ∀i,i<a.length->((XW a b p).1.getD i []).length=a.length/\ ∀j,j<a.length->(JZ (atM a i) (fun k=>atM b k j) p a.length).2=0/\atM (XW a b p).1 i j=(JZ (atM a i) (fun k=>atM b k j) p a.length).1:=by
 have hg:rightM a=true/\rightM b=true/\a.length=b.length/\Q4 p=true:=by refine BE fun hne=> ?_;rw[XW,BA hne] at h;exact absurd h (by decide)
 rw[XW,BC hg] at h⊢;exact⟨hg,Vw h⟩
theorem Yk :Qg oneN=true:=by decide
theorem je {n:Nat}{x a:List (List Nm)}{p:Int}(hx:sqR n x)(ha:sqR n a)(h1:1<=n)(h4:n<=4)(h:(ZX x a p).2=0):
 0<=qN (ZX x a p).1/\Qg (ZX x a p).1=true/\ ∃B:Nat->Nat->Rat,(∀i j,i<n->j<n->GE (B i j) (QZ i j-Zj (fun k=>qN (QM x i k)) (fun k=>qN (QM a k j)) n))/\ ∀i,i<n->xR (B i) n<=qN (ZX x a p).1:=by
 have c1:(XW (ofM x) (ofM a) p).2=0:=by refine BE fun hne=> ?_;rw[ZX,BC hne] at h;exact hne h
 have c2:(opM 1 (idM (x.length:Int)) (XW (ofM x) (ofM a) p).1 p).2=0:=by refine BE fun hne=> ?_;rw[ZX,BA (fun e=>e c1),BC hne] at h;exact hne h
 rw[ZX,BA (fun e=>e c1),BA (fun e=>e c2)] at h⊢;obtain⟨-,m1,m2⟩:=Yo c1;obtain⟨-,o1,o2⟩:=yV c2;obtain⟨n1,n2,n3,n4,n5⟩:=Ym h;have hxl:(ofM x).length=n:=(by unfold ofM;rw[BR];exact hx.1);have hid:=(xh h1 h4 (show 0<n by omega) (show 0<n by omega)).1;rw[hxl] at m1 m2;rw[hx.1,hid] at o1 o2;rw[hx.1] at n1 n3 n4 n5⊢;generalize hM:(opM 1 (idM (n:Int)) (XW (ofM x) (ofM a) p).1 p).1=M at*
 refine⟨n3,n4,fun i j=>qN (HH (atM M i j)),fun i j hi hj=> ?_,fun i hi=> ?_⟩;obtain⟨q1,q2⟩:=(o2 i hi).2 j hj;obtain⟨d1,d2⟩:=(m2 i hi).2 j hj;have hd:XD (Zj (fun k=>qN (QM x i k)) (fun k=>qN (QM a k j)) n) (atM (XW (ofM x) (ofM a) p).1 i j):=by rw[d2];refine Ii n d1 fun k hk=>⟨?_,?_⟩;rw[H8 (by rw[hx.1];exact hi) (by rw[(hx.row hi).1];exact hk)];exact⟨CB,CB⟩;rw[H8 (by rw[ha.1];exact hk) (by rw[(ha.row hk).1];exact hj)];exact⟨CB,CB⟩
 have ho:=IT 1 q1 (IZ h1 h4 hi hj) hd;rw[Q0z] at ho;rw[<-q2] at ho;have hr:Qs (atM M i j)=true:=Wq n1 oG oG;show GE (qN (HH (atM M i j))) _;exact(Q0l hr ho).1;have:=n5 i oG;rw[o1] at this;exact this
theorem X0z {a b:Nm}{p:Int}(ha:Qg a=true)(hb:Qg b=true)(hp:1<=p.toNat)(hn:b.neg=false)(h:(Jx a b p true).2=0):qN a<=qN (Jx a b p true).1*qN b:=by unfold Jx at h⊢;split at h;exact absurd h (by decide);rename_i hw;rw[BA hw];unfold Hs at h⊢;have hv:=ZA (QW (Yz (ofN a) (ofN b) p.toNat) p.toNat true) h;have h0:0<(ofN b).m:=EU fun e=>hw ((QJ hb).1 e);rw[hv.2];have hf:=j0f (IE (ofN a) (ofN b) p.toNat) p.toNat;have:=(v1e (a:=ofN a) (b:=ofN b) (p:=p.toNat) hn h0 hf).1 (JP _ _);rw[QL,QL] at this;exact this
theorem kx {y q:Nm}{p:Int}(h:(Xs y q p).2=0){X:Rat}(hX:GE (qN q) (X-qN y)):XD X (Xs y q p).1/\((Xs y q p).1.lo=(Qv 1 y q p false).1/\(Xs y q p).1.hi=(Qv 0 y q p true).1/\(Qv 1 y q p false).2=0/\(Qv 0 y q p true).2=0):=by unfold Xs at h⊢;split at h;exact absurd h (by decide);rename_i hn;rw[BA hn];have e1:(Qv 1 y q p false).2=0:=BE fun h=>hn (.inl h);have e2:(Qv 0 y q p true).2=0:=BE fun h=>hn (.inr h);have v1:=Jw e1;have v2:=Jw e2;have g1:=Wo (exV 1 (ofN y) (ofN q)) p.toNat;have g2:=JP (exV 0 (ofN y) (ofN q)) p.toNat;rw[YS,Q0z,QL,QL,<-v1] at g1;rw[YS,Y0p,QL,QL,<-v2] at g2;unfold GE at hX;have:=hX.1;have:=hX.2;exact⟨⟨by show qN (Qv 1 y q p false).1<=X;grind,by show X<=qN (Qv 0 y q p true).1;grind⟩,rfl,rfl,e1,e2⟩
def sqG (n:Nat)(x:GJ):Prop:=sqR n x.a/\sqR n x.r
theorem za (x m y:Nm)(p:Int):Qg (KD x m y p).1=true:=by unfold KD;split<;>exact QB _ _ _ _ _
theorem xx (a b:Nm)(p:Int)(up:Bool):Qg (Hs a b p up).1=true:=ZG (VQ (QW (Yz _ _ _) _ _))
theorem Gj {n:Nat}(m:Nm)(p:Int)(row other:List Nm)(h:row.length=n):(W0 m p row other).length=n/\ ∀c∈W0 m p row other,Qg c=true:=by unfold W0;refine⟨by simp[h],fun c hc=> ?_⟩;simp only[CF] at hc;obtain⟨j,_,rfl⟩:=hc;exact za _ _ _ _
theorem Yv {n:Nat}(d:Nm)(p:Int)(row:List Nm)(h:row.length=n):(HO d p row).length=n/\ ∀c∈HO d p row,Qg c=true:=by unfold HO;refine⟨by simp[h],fun c hc=> ?_⟩;simp only[CF] at hc;obtain⟨j,_,rfl⟩:=hc;exact xx _ _ _ _
theorem J1t {n:Nat}{p:Int}{k i:Nat}{x:GJ}(h:sqG n x)(hk:k<n)(hi:i<n):sqG n (jF p k i x):=by unfold jF;split;exact h;split;exact⟨h.1.set (Gj _ _ _ _ (h.1.row hi).1),h.2.set (Gj _ _ _ _ (h.2.row hi).1)⟩;exact h
theorem Gp {n:Nat}{p:Int}{k:Nat}{x:GJ}(h:sqG n x)(hk:k<n): ∀i,i<=n->sqG n (Xl p k x i)
 | 0,_=>h
 | i+1,hi=>by have:=Gp (p:=p) h hk i oG;unfold Xl;split;exact J1t this hk oG;exact this
theorem jG {n k:Nat}{x:GJ}(h:sqG n x)(hk:k<n):sqG n (W6 n k x):=by have:=IM x.a k (n-(k+1));exact⟨h.1.swap hk oG,h.2.swap hk oG⟩
theorem jH {n:Nat}{p:Int}{k:Nat}{x:GJ}(h:sqG n x)(hk:k<n):sqG n (Gq p k x):=by unfold Gq;split;exact⟨h.1.set (Yv _ _ _ (h.1.row hk).1),h.2.set (Yv _ _ _ (h.2.row hk).1)⟩;exact h
theorem J1v {n:Nat}{p:Int}{k:Nat}{x:GJ}(h:sqG n x)(hk:k<n):sqG n (Uf p n k x):=by unfold Uf;split;exact h;split;exact Gp (jH (jG h hk) hk) hk n (BD _);exact jH (jG h hk) hk
theorem Gr {n:Nat}{p:Int}{x:GJ}(h:sqG n x): ∀k,k<=n->sqG n (Z7 p n x k)
 | 0,_=>h
 | k+1,hk=>by have:=Gr h k oG (p:=p);unfold Z7;split;exact J1v this oG;exact this
theorem xW (n:Nat):sqR n (Xb n):=by unfold Xb;refine⟨by simp,fun r hr=> ?_⟩;simp only[CF] at hr;obtain⟨i,_,rfl⟩:=hr;refine⟨by simp,fun c hc=> ?_⟩;simp only[CF] at hc;obtain⟨j,_,rfl⟩:=hc;split<;>decide
theorem kL {a:List (List Nm)}(h:rightQ a=true):sqR a.length a/\1<=a.length/\a.length<=4:=by obtain⟨h1,h2,h3⟩:=rightQ_iff.1 h;refine⟨⟨rfl,fun r hr=> ?_⟩,h2,h3⟩;obtain⟨i,hi,rfl⟩:=CM.1 hr;have:=h1 i hi;rw[q_a,BB hi] at this;have h5:QN a[i] a.length=true:=this;unfold QN at h5;rw[q_i,q_d] at h5;exact⟨q_b h5.2,fun c hc=>h5.1 c hc⟩
theorem zb {a:List (List Nm)}{p:Int}(h:(Qu a p).2=0):rightQ a=true/\Q4 p=true/\sqR a.length (Qu a p).1/\sqR a.length a/\1<=a.length/\a.length<=4/\(Z7 p a.length ⟨a,Xb a.length,0⟩ a.length).e=0/\(Qu a p).1=(Z7 p a.length ⟨a,Xb a.length,0⟩ a.length).r:=by unfold Qu at h⊢;split at h;rename_i hg;rw[BC hg];obtain⟨s1,s2,s3⟩:=kL hg.1;split at h;rename_i he;rw[BC he];exact⟨hg.1,hg.2,(Gr (p:=p) (x:=⟨a,Xb a.length,0⟩) ⟨s1,xW _⟩ a.length (BD _)).2,s1,s2,s3,he,rfl⟩;rename_i he;exact absurd h he;exact absurd h (by decide)
theorem y0g {a:List (List Nm)}{p:Int}(h:(Xr a p).2=0):(Qu a p).2=0/\(ZX (Qu a p).1 a p).2=0/\ ¬Uw (ZX (Qu a p).1 a p).1 oneN>=0/\(Yf (Qu a p).1 (ZX (Qu a p).1 a p).1 p).2=0/\Xr a p=Km (fun i j=>Xs (QM (Qu a p).1 i j) (Yf (Qu a p).1 (ZX (Qu a p).1 a p).1 p).1 p) a.length:=by unfold Xr at h⊢;split at h;rename_i hc;exact absurd h hc;rename_i c1;split at h;rename_i hc;exact absurd h hc;rename_i c2;split at h;exact absurd h (by decide);rename_i c3;split at h;rename_i hc;exact absurd h hc;rename_i c4;refine⟨BE fun h=>c1 h,BE fun h=>c2 h,c3,BE fun h=>c4 h,?_⟩;rw[BA c1,BA c2,BA c3,BA c4]
theorem H0r {x:List (List Nm)}{e:Nm}{p:Int}(h:(Yf x e p).2=0):(Qv 1 oneN e p false).2=0/\(Z1 (ofM x) p).2=0/\(Qv 2 (Z1 (ofM x) p).1 e p true).2=0/\Yf x e p=Jx (Qv 2 (Z1 (ofM x) p).1 e p true).1 (Qv 1 oneN e p false).1 p true:=by unfold Yf at h⊢;split at h;rename_i hc;exact absurd h hc;rename_i c1;split at h;rename_i hc;exact absurd h hc;rename_i c2;split at h;rename_i hc;exact absurd h hc;rename_i c3;refine⟨BE fun h=>c1 h,BE fun h=>c2 h,BE fun h=>c3 h,?_⟩;rw[BA c1,BA c2,BA c3]
theorem G0o (F:Nat->Rat): ∀n,(∀k,k<n->0<=F k)->0<=xR F n
 | 0,_=>CB
 | n+1,h=>by have:=G0o F n fun k hk=>h k oG;have:=h n oG;rw[xR];grind
theorem X0m {F:Nat->Rat} : ∀ {n j:Nat},(∀k,k<n->0<=F k)->j<n->F j<=xR F n
 | 0,j,_,hj=>absurd hj (CD _)
 | n+1,j,h,hj=>by rw[xR];by_cases e:j=n;subst e;have:=G0o F j fun k hk=>h k oG;grind;have:=X0m (F:=F) (n:=n) (j:=j) (fun k hk=>h k oG) oG;have:=h n oG;grind
theorem X0t {lo hi:Nm}(h1:Qg lo=true)(h2:Qg hi=true)(h:qN lo<=qN hi):Qs ⟨lo,hi⟩=true:=Wr h1 h2 (cmpN_le.2 h)
theorem j0e (p:Nat):Uq p 0:=⟨0,0,(Zs 0).symm,CX _⟩
theorem kI {v:Vl}{p:Nat}{up:Bool}(hp:1<=p)(h:0<=qV v):0<=qV (QX v p up):=by
 cases up with
 | true=>exact E9 h (JP v p)
 | false=>exact zK hp (j0e p) h
theorem v6 {x:Nm}(hx:Qg x=true)(h:0<=qN x):x.neg=false:=by by_cases hw:x.w= [];exact((H0j hx).2.2.2 hw).1;cases hn:x.neg;rfl;exfalso;have hm:(ofN x).m≠0:=fun e=>hw ((QJ hx).1 e);rw[<-QL] at h;have: ¬qV (ofN x)<0:=(by grind);apply this;rw[<-HT];show Kb (ofN x)<0;unfold Kb;rw[BA hm,show(ofN x).neg=true from hn];decide
theorem YN {a:List (List Nm)}{p:Int}(h:(Xr a p).2=0):(sqR a.length a/\1<=a.length/\a.length<=4/\Q4 p=true)/\(Xr a p).1.length=a.length/\Jg a.length (fun i j=>qN (QM a i j))≠0/\
 ∀i,i<a.length->((Xr a p).1.getD i []).length=a.length/\ ∀j,j<a.length->Qs (atM (Xr a p).1 i j)=true/\XD (WK a.length (fun i j=>qN (QM a i j)) i j/Jg a.length (fun i j=>qN (QM a i j))) (atM (Xr a p).1 i j):=by
 obtain⟨s1,s2,s3,s4,s5⟩:=y0g h;obtain⟨a1,a2,a3,a4,a5,a6, -, -⟩:=zb s1;obtain⟨r1,r2,B,r3,r4⟩:=je a3 a4 a5 a6 s2;obtain⟨d1,d2,d3,d4⟩:=H0r s4;rw[d4] at s4;rw[s5] at h⊢;obtain⟨f1,f2⟩:=Vw h;generalize hX:(Qu a p).1=X at*
 generalize hE:(ZX X a p).1=e at*
 have hp:=X3 a2;have he1:qN e<1:=by rw[Yx r2 Yk] at s3;have:=cmpN_lt.1 (Int.not_le.1 s3);rwa [KI] at this
 obtain⟨n1,n2,n3,n4,n5⟩:=Ym d2;have hXl:(ofM X).length=a.length:=by unfold ofM;rw[BR];exact a3.1
 --the divisor
 have v1:=Jw d1;have g1:=Wo (exV 1 (ofN oneN) (ofN e)) p.toNat;rw[YS,Q0z,QL,QL,KI,<-v1] at g1;have v3:=Jw d3;have g3:=JP (exV 2 (ofN (Z1 (ofM X) p).1) (ofN e)) p.toNat;rw[YS,j0q,QL,QL,<-v3] at g3;have rd:=QB 1 oneN e p false;have rq:=QB 2 (Z1 (ofM X) p).1 e p true;have g0:0<=qN (Qv 1 oneN e p false).1:=by have:=kI (v:=exV 1 (ofN oneN) (ofN e)) (p:=p.toNat) (up:=false) hp (by rw[YS,Q0z,QL,QL,KI];grind);rw[v1];exact this
 have hdn:=v6 rd g0;rw[<-d4] at s4;rw[d4] at s4;have hqu:=X0z rq rd hp hdn s4;rw[<-d4] at hqu;have hq0:0<=qN (Yf X e p).1:=by
  have hpos:0<qN (Qv 1 oneN e p false).1:=by refine BE fun hne=> ?_;have hz:qN (Qv 1 oneN e p false).1=0:=(by grind);have hdef:(Qv 1 oneN e p false).1=default:=kP rd X0 (by rw[hz,Kd]);rw[hdef] at s4;unfold Jx at s4;rw[BC (show(default:Nm).w= [] from rfl)] at s4;exact absurd s4 (by decide)
  have hn0:0<=qN (Z1 (ofM X) p).1*qN e:=Rat.mul_nonneg n3 r1;refine BE fun hne=> ?_;have hlt:0< -qN (Yf X e p).1:=(by grind);have:=Rat.mul_pos hlt hpos;grind
 refine⟨⟨a4,a5,a6,a2⟩,f1,?_,fun i hi=>⟨(f2 i hi).1,fun j hj=> ?_⟩⟩;exact U1d (R:=fun i k=>qN (QM X i k)) (A:=fun i j=>qN (QM a i j)) (E:=fun i j=>QZ i j-Zj (fun k=>qN (QM X i k)) (fun k=>qN (QM a k j)) a.length) a6 (fun i j _ _=>rfl) B r3 r4 he1;obtain⟨q1,q2⟩:=(f2 i hi).2 j hj;have near:=J1f (R:=fun i k=>qN (QM X i k)) (A:=fun i j=>qN (QM a i j)) (E:=fun i j=>QZ i j-Zj (fun k=>qN (QM X i k)) (fun k=>qN (QM a k j)) a.length) a6 (fun i j _ _=>rfl) B r3 r4 he1
  (r:=qN (Z1 (ofM X) p).1) (q:=qN (Yf X e p).1) (fun i j hi hj=> ?_) ?_ hi hj
 obtain⟨m1,m2,m3,m4,m5⟩:=kx q1 near;refine⟨?_,by rw[q2];exact m1⟩;rw[q2];have hlo:Qg (Xs (QM X i j) (Yf X e p).1 p).1.lo=true:=(by rw[m2];exact QB _ _ _ _ _);have hhi:Qg (Xs (QM X i j) (Yf X e p).1 p).1.hi=true:=(by rw[m3];exact QB _ _ _ _ _);exact X0t hlo hhi (E9 m1.1 m1.2);have hs:=n5 i (by rw[hXl];exact hi);rw[hXl] at hs;have hin:GE (qN (HH (atM (ofM X) i j))) (qN (QM X i j)):=by have ht:=Wq n1 (show i<(ofM X).length by rw[hXl];exact hi) (show j<(ofM X).length by rw[hXl];exact hj);refine(Q0l ht ?_).1;rw[H8 (by rw[a3.1];exact hi) (by rw[(a3.row hi).1];exact hj)];exact⟨CB,CB⟩
 refine ql hin (E9 (X0m (F:=fun k=>qN (HH (atM (ofM X) i k))) (fun k hk=> ?_) hj) hs);exact(Q0l (Wq n1 (show i<(ofM X).length by rw[hXl];exact hi) (show k<(ofM X).length by rw[hXl];exact hk)) (w1c (Wq n1 (show i<(ofM X).length by rw[hXl];exact hi) (show k<(ofM X).length by rw[hXl];exact hk)))).2;have h1:qN (Yf X e p).1*qN (Qv 1 oneN e p false).1<=qN (Yf X e p).1*(1-qN e):=Rat.mul_le_mul_of_nonneg_left g1 hq0;grind
theorem j0h {v:Vl}(hc:Xm v){p:Nat}(h:Uq p (qV v)):Qh v.m<=p+1:=by
 rcases hc with hm | rfl;rotate_left;show Qh 0<=_;rw[Zv];omega;obtain⟨m,e,h1,h2⟩:=h;have hle:v.m<=m.natAbs:=by by_cases hve:e<=v.e;have e1:=GT (Zq v) v.e e hve;have e2:Zq v*2^(v.e-e).toNat=m:=qM_eq.1 (e1.symm.trans h1);rw[<-e2,Int.natAbs_mul,Kk,Int.natAbs_pow];exact Nat.le_mul_of_pos_right _ (DJ (by decide));have e1:=GT m e v.e oG;have e2:Zq v=m*2^(e-v.e).toNat:=qM_eq.1 (h1.trans e1);obtain⟨d,hd⟩: ∃d,(e-v.e).toNat=d+1:=⟨(e-v.e).toNat-1,oG⟩;have:=Kk v;rw[e2,hd,Int.natAbs_mul,Int.natAbs_pow,B5] at this;have h3:v.m=m.natAbs*2^d*2:=(by rw[<-this,BW];rfl);omega
 exact bitlen_le_iff.2 (D3 (B7 hle h2) (Nat.pow_lt_pow_right oG oG))
theorem Y0m (v:Vl)(p:Nat)(up:Bool):Uq p (qV (QX v p up)):=by cases up;exact j0g v p;exact j0f v p
theorem HY {p:Int}(h:Q4 p=true):p.toNat<=256:=by unfold Q4 at h;simp only[q_i,BN] at h;omega
theorem q1i {L U p:Nat}{v:Vl}(hc:Xm v)(h:luQ L U (qV v))(hf:Uq p (qV v))(hp:p<=256)(hL:L<=60000)(hU:U<=60000):(Kg v).2=0:=by
 have hb:=j0h hc hf;have h2:bdV 257 65536 v:=by rcases KK hc h with h0 | ⟨h1,h2⟩;rcases hc with hm | rfl;omega;refine⟨?_,?_,?_⟩;show Qh 0<=_;rw[Zv];omega;show -((65536:Nat):Int)<=0;omega;show(0:Int)<=((65536:Nat):Int);omega;exact⟨oG,oG,oG⟩
 exact UZ h2 oG oG
theorem JD {L U:Nat}{v:Vl}{p:Int}{up:Bool}(hc:Xm v)(h:luQ L U (qV v))(hp:Q4 p=true)(hL:L<=60000)(hU:U+1<=60000):(Kg (QX v p.toNat up)).2=0:=
 q1i (QW hc _ _) (X7 hc h _ (X3 hp) up) (Y0m _ _ _) (HY hp) hL hU
theorem Jv {k L U:Nat}{x y:Nm}{p:Int}{up:Bool}(hx:Qg x=true)(hy:Qg y=true)(hp:Q4 p=true)(h:luQ L U (exQ k (qN x) (qN y)))(hL:L<=60000)(hU:U+1<=60000):(Qv k x y p up).2=0:=by unfold Qv;rw[BC ⟨hx,hy,hp⟩];exact JD (WR k (QR hx) (QR hy)) (by rw[YS];exact h) hp hL hU
theorem Ju {k L U:Nat}{x y:Nm}{p:Int}{up:Bool}(h:(Qv k x y p up).2=0)(hq:luQ L U (exQ k (qN x) (qN y))):luQ L (U+1) (qN (Qv k x y p up).1):=by obtain⟨hx,hy,hp⟩:=GS h;rw[Jw h];exact X7 (WR k (QR hx) (QR hy)) (by rw[YS];exact hq) _ (X3 hp) up
theorem w1i {k L U:Nat}{a b:Ivl}(hk:k<2)(ha:luI L U a)(hb:luI L U b):luQ L (U+1) (qV (loV k (ofN a.lo) (ofN a.hi) (ofN b.lo) (ofN b.hi)))/\luQ L (U+1) (qV (hiV k (ofN a.lo) (ofN a.hi) (ofN b.lo) (ofN b.hi))):=by constructor;unfold loV;split;rw[Jb];exact Jz ha.2.1 hb.2.1;rw[BC oG,Kc];exact KV ha.2.1 hb.2.2;unfold hiV;split;rw[Jb];exact Jz ha.2.2 hb.2.2;rw[BC oG,Kc];exact KV ha.2.2 hb.2.1
theorem Y1k {L U L' U':Nat}{a b:Ivl}(ha:luI L U a)(hb:luI L' U' b):luQ (L+L') (U+U') (qV (loV 2 (ofN a.lo) (ofN a.hi) (ofN b.lo) (ofN b.hi)))/\luQ (L+L') (U+U') (qV (hiV 2 (ofN a.lo) (ofN a.hi) (ofN b.lo) (ofN b.hi))):=
 ⟨X1t ha.2.1 ha.2.2 hb.2.1 hb.2.2,X1u ha.2.1 ha.2.2 hb.2.1 hb.2.2⟩
theorem K0e {L U:Nat}{lo hi:Vl}(h1:Xm lo)(h2:Xm hi)(q1:luQ L U (qV lo))(q2:luQ L U (qV hi))(hle:qV lo<=qV hi)(h:(WD lo hi).2=0):luI L U (WD lo hi).1:=by have hr:=Ut h1 h2 hle;unfold WD at h hr⊢;split at h;rename_i hf;rw[BC hf] at hr⊢;refine⟨hr,?_,?_⟩;rw[(ZA h1 hf.1).2];exact q1;rw[(ZA h2 hf.2).2];exact q2;exact absurd h (by decide)
theorem yW {k L U:Nat}{a b:Ivl}{p:Int}(hk:k<2)(ha:luI L U a)(hb:luI L U b)(hp:Q4 p=true)(h:(opI k a b p).2=0):luI L (U+2) (opI k a b p).1:=by have ca:=Hx ha.1;have cb:=Hx hb.1;have pp:=X3 hp;obtain⟨hlo,hhi⟩:=w1i hk ha hb;have c1:=VR k ca.1 ca.2 cb.1 cb.2;have c2:=VS k ca.1 ca.2 cb.1 cb.2;unfold opI at h⊢;rw[BC ⟨ha.1,hb.1,hp⟩] at h⊢;exact K0e (QW c1 _ _) (QW c2 _ _) (X7 c1 hlo _ pp _) (X7 c2 hhi _ pp _) (X1z k ha.1 hb.1 _) h
theorem J0h {L U L' U':Nat}{a b:Ivl}{p:Int}(ha:luI L U a)(hb:luI L' U' b)(hp:Q4 p=true)(h:(opI 2 a b p).2=0):luI (L+L') (U+U'+1) (opI 2 a b p).1:=by have ca:=Hx ha.1;have cb:=Hx hb.1;have pp:=X3 hp;obtain⟨hlo,hhi⟩:=Y1k ha hb;have c1:=VR 2 ca.1 ca.2 cb.1 cb.2;have c2:=VS 2 ca.1 ca.2 cb.1 cb.2;unfold opI at h⊢;rw[BC ⟨ha.1,hb.1,hp⟩] at h⊢;exact K0e (QW c1 _ _) (QW c2 _ _) (X7 c1 hlo _ pp _) (X7 c2 hhi _ pp _) (X1z 2 ha.1 hb.1 _) h
theorem yX {k L U:Nat}{a b:Ivl}{p:Int}(hk:k<2)(ha:luI L U a)(hb:luI L U b)(hp:Q4 p=true)(hL:L<=60000)(hU:U+2<=60000):(opI k a b p).2=0:=by have ca:=Hx ha.1;have cb:=Hx hb.1;obtain⟨hlo,hhi⟩:=w1i hk ha hb;have c1:=VR k ca.1 ca.2 cb.1 cb.2;have c2:=VS k ca.1 ca.2 cb.1 cb.2;unfold opI WD;rw[BC ⟨ha.1,hb.1,hp⟩,BC ⟨JD c1 hlo hp hL hU,JD c2 hhi hp hL hU⟩]
theorem Z1c {L U L' U':Nat}{a b:Ivl}{p:Int}(ha:luI L U a)(hb:luI L' U' b)(hp:Q4 p=true)(hL:L+L'<=60000)(hU:U+U'+1<=60000):(opI 2 a b p).2=0:=by have ca:=Hx ha.1;have cb:=Hx hb.1;obtain⟨hlo,hhi⟩:=Y1k ha hb;have c1:=VR 2 ca.1 ca.2 cb.1 cb.2;have c2:=VS 2 ca.1 ca.2 cb.1 cb.2;unfold opI WD;rw[BC ⟨ha.1,hb.1,hp⟩,BC ⟨JD c1 hlo hp hL hU,JD c2 hhi hp hL hU⟩]
theorem k0c {x y:Nat->Ivl}{p:Int}{n:Nat}(h:(JZ x y p (n+1)).2=0):(JZ x y p n).2=0/\(opI 2 (x n) (y n) p).2=0/\(n≠0->(opI 0 (JZ x y p n).1 (opI 2 (x n) (y n) p).1 p).2=0)/\JZ x y p (n+1)=if n=0 then opI 2 (x n) (y n) p else opI 0 (JZ x y p n).1 (opI 2 (x n) (y n) p).1 p:=by rw[JZ] at h⊢;split at h;rename_i hc;exact absurd h hc;rename_i c1;split at h;rename_i hc;exact absurd h hc;rename_i c2;have c1':(JZ x y p n).2=0:=BE fun e=>c1 e;have c2':(opI 2 (x n) (y n) p).2=0:=BE fun e=>c2 e;rw[BA c1,BA c2];split at h;rename_i c3;rw[BC c3,BC c3];exact⟨c1',c2',fun e=>absurd c3 e,rfl⟩;rename_i c3;split at h;rename_i hc;exact absurd h hc;rename_i c4;rw[BA c3,BA c3,BA c4];exact⟨c1',c2',fun _=>BE fun e=>c4 e,rfl⟩
theorem Yt {L U L' U':Nat}{x y:Nat->Ivl}{p:Int}(hp:Q4 p=true): ∀n,(∀k,k<n->luI L U (x k)/\luI L' U' (y k))->(JZ x y p n).2=0->luI (L+L') (U+U'+1+2*n) (JZ x y p n).1
 | 0,_,_=>J0w _ _
 | n+1,h,he=>by obtain⟨e1,e2,e3,e4⟩:=k0c he;have h2:=Yt hp n (fun k hk=>h k oG) e1;have m2:=J0h (h n oG).1 (h n oG).2 hp e2;rw[e4];split;exact m2.mono oG oG;rename_i hn;exact(yW (k:=0) oG h2 (m2.mono (BD _) (show U+U'+1<=U+U'+1+2*n by omega)) hp (e3 hn)).mono oG oG
theorem jL {L U L' U':Nat}{x y:Nat->Ivl}{p:Int}(hp:Q4 p=true): ∀n,(∀k,k<n->luI L U (x k)/\luI L' U' (y k))->L+L'<=60000->U+U'+2*n+4<=60000->(JZ x y p n).2=0
 | 0,_,_,_=>rfl
 | n+1,h,hL,hb=>by have h1:=jL hp n (fun k hk=>h k oG) hL oG;have h2:=Yt hp n (fun k hk=>h k oG) h1;have m1:=Z1c (h n oG).1 (h n oG).2 hp hL oG;have m2:=J0h (h n oG).1 (h n oG).2 hp m1;rw[JZ,BA (by rw[h1];decide),BA (by rw[m1];decide)];split;exact m1;have s1:=yX (k:=0) oG h2 (m2.mono (BD _) (show U+U'+1<=U+U'+1+2*n by omega)) hp hL oG;rw[BA (by rw[s1];decide)];exact s1
theorem jt {L U L' U' n:Nat}{a b:Mx}{p:Int}(ra:rightM a=true)(rb:rightM b=true)(la:a.length=n)(lb:b.length=n)(ha: ∀i j,i<n->j<n->luI L U (atM a i j))(hb: ∀i j,i<n->j<n->luI L' U' (atM b i j))(hp:Q4 p=true)(hL:L+L'<=60000)(hU:U+U'+20<=60000):(XW a b p).2=0:=by have:=(QI ra).2;rw[XW,BC ⟨ra,rb,oG,hp⟩];refine Ig fun i j hi hj=> ?_;rw[la] at hi hj⊢;exact jL hp n (fun k hk=>⟨ha i k hi hk,hb k j hk hj⟩) hL oG
theorem xS {r:Nat->Ivl}{p:Int}{L U:Nat} : ∀j,(∀k,k<=j->luI L U (r k))->(VD r p j).2=0->luQ L (U+2*j) (qN (VD r p j).1)
 | 0,h,_=>Q0k (h 0 oG)
 | j+1,h,he=>by
  have h0:(VD r p j).2=0:=by refine BE fun hne=> ?_;rw[VD,BC hne] at he;exact hne he
  have ih:=xS j (fun k hk=>h k oG) h0;rw[Wm h0] at he⊢;refine(Ju he ?_).up (show U+2*j+1+1<=_ by omega);rw[Y0p];exact Jz ih ((Q0k (h (j+1) oG)).up oG)
theorem vu {m:Mx}{p:Int}{L U:Nat}(hl:1<=m.length/\m.length<=4)(h: ∀i j,i<m.length->j<m.length->luI L U (atM m i j)): ∀i,i<=m.length->(Xy m p i).2=0->luQ L (U+8) (qN (Xy m p i).1)
 | 0,_,_=>by show luQ L (U+8) (qN (default:Nm));rw[Kd];exact Xw _ _
 | i+1,hi,he=>by
  have h0:(Xy m p i).2=0:=by refine BE fun hne=> ?_;rw[Xy,BC hne] at he;exact hne he
  have hs:(VD (atM m i) p (m.length-1)).2=0:=by refine BE fun hne=> ?_;rw[Xy,BA (fun e=>e h0),BC hne] at he;exact hne he
  have ih:=vu hl h i oG h0;have s:=xS (m.length-1) (fun k hk=>h i k oG oG) hs;rw[Yn h0 hs];split;exact s.up oG;exact ih
theorem vr {m:Mx}{p:Int}{L U:Nat}(h: ∀i j,i<m.length->j<m.length->luI L U (atM m i j))(he:(Z1 m p).2=0):luQ L (U+8) (qN (Z1 m p).1):=by have hn:=Ym he;rw[Z1,BC ⟨hn.1,hn.2.1⟩] at he⊢;exact vu (QI hn.1) h _ (BD _) he
theorem H0q {La Ua Lb Ub p:Nat}{a b:Vl}(ca:Xm a)(cb:Xm b)(ha:luQ La Ua (qV a))(hb:luQ Lb Ub (qV b))(h0:b.m≠0):luQ (La+Ub+p+3) (Ua+Lb+1) (qV (IE a b p)):=by
 unfold IE;split;rw[UU rfl];exact Xw _ _;rename_i ha0;rcases KK ca ha with h | ⟨a1,a2⟩;exact absurd h ha0;rcases KK cb hb with h | ⟨b1,b2⟩;exact absurd h h0;have pa:=ZK ha0;have pb:=ZK h0;have hA:=Q5 a.m;have hB:=Xf h0;rw[VX];generalize hmore:KC a.m b.m p=more;have hm:more=p+2+Qh b.m-Qh a.m:=(by rw[<-hmore];rfl);have hq:Y3 a.m b.m p<2^(Qh a.m+more+2-Qh b.m):=by
  unfold Y3;rw[hmore];have h1:a.m*2^more<2^(Qh a.m+more):=(by rw[B2];exact C5 hA (DJ (by decide)));have h2:a.m*2^more/b.m<2^(Qh a.m+more+1-Qh b.m):=by rw[DV oG];refine q_e h1 ?_;have:2^(Qh a.m+more)=2^(Qh a.m+more+1-Qh b.m)*2^(Qh b.m-1):=(by rw[<-B2];congr 1;omega);rw[this];exact DP _ hB
  have h3:2^(Qh a.m+more+2-Qh b.m)=2*2^(Qh a.m+more+1-Qh b.m):=(by rw[show Qh a.m+more+2-Qh b.m=(Qh a.m+more+1-Qh b.m)+1 by omega,B5,BM]);rw[h3];split<;>omega
 generalize Y3 a.m b.m p=M at hq⊢;have he: -((La+Ub+p+3:Nat):Int)<=a.e-b.e-(more:Int)-1:=oG;refine⟨(if (a.neg !=b.neg)=true then -(M:Int) else(M:Int))*2^(a.e-b.e-(more:Int)-1- -((La+Ub+p+3:Nat):Int)).toNat,?_,?_⟩;exact GT _ _ _ he;rw[Int.natAbs_mul,Int.natAbs_pow];have:(if (a.neg !=b.neg)=true then -(M:Int) else(M:Int)).natAbs=M:=(by split<;>omega);rw[this,show Int.natAbs 2=2 from rfl];refine B7 (BG _ (F4 hq)) ?_;rw[<-B2];exact BS (by decide) oG
theorem K1w {La Ua Lb Ub:Nat}{a b:Nm}{p:Int}{up:Bool}(ra:Qg a=true)(rb:Qg b=true)(hp:Q4 p=true)(ha:luQ La Ua (qN a))(hb:luQ Lb Ub (qN b))(h0:b.w≠ [])(h:(Hs a b p up).2=0):luQ (La+Ub+260) (Ua+Lb+2) (qN (Hs a b p up).1):=by unfold Hs at h⊢;have cr:=Yz (ofN a) (ofN b) p.toNat;rw[(ZA (QW cr _ _) h).2];have h1:=H0q (p:=p.toNat) (QR ra) (QR rb) (by rw[QL];exact ha) (by rw[QL];exact hb) (fun e=>h0 ((QJ rb).1 e));have:=HY hp;exact(X7 cr h1 _ (X3 hp) up).mono oG oG
theorem jr {a b:Mx}{p:Int}(h:(XW a b p).2=0):rightM (XW a b p).1=true/\(XW a b p).1.length=a.length:=by obtain⟨⟨r1,r2,r3,r4⟩,m1,m2⟩:=Yo h;have:=QI r1;refine⟨rightM_iff.2 ⟨fun i hi=> ?_,oG,oG⟩,m1⟩;rw[m1] at hi⊢;refine⟨(m2 i hi).1,Xj (fun j hj=> ?_) (by rw[(m2 i hi).1];omega) (by rw[(m2 i hi).1];omega)⟩;rw[(m2 i hi).1] at hj;have:=((m2 i hi).2 j hj).2;unfold atM at this;rw[this];exact Kv _ _ _ _
theorem v1q {k:Nat}{a b:Mx}{p:Int}(h:(opM k a b p).2=0):rightM (opM k a b p).1=true/\(opM k a b p).1.length=a.length:=by obtain⟨⟨r1,r2,r3,r4⟩,m1,m2⟩:=yV h;have:=QI r1;refine⟨rightM_iff.2 ⟨fun i hi=> ?_,oG,oG⟩,m1⟩;rw[m1] at hi⊢;refine⟨(m2 i hi).1,Xj (fun j hj=> ?_) (by rw[(m2 i hi).1];omega) (by rw[(m2 i hi).1];omega)⟩;rw[(m2 i hi).1] at hj;have:=((m2 i hi).2 j hj).2;unfold atM at this;rw[this];exact JT _ _ _ _
theorem sqR.rightQ {n:Nat}{a:List (List Nm)}(h:sqR n a)(h1:1<=n)(h4:n<=4):rightQ a=true:=by refine rightQ_iff.2 ⟨fun j hj=> ?_,by rw[h.1];exact h1,by rw[h.1];exact h4⟩;rw[h.1] at hj⊢;have:=h.row hj;unfold QN;rw[q_i,q_d];exact⟨this.2,q_h this.1⟩
theorem G1y {X:List (List Nm)}{e:Nm}{p:Int}(hp:Q4 p=true)(r1:0<=qN e)(he1:qN e<1)(h:(Yf X e p).2=0):0<=qN (Yf X e p).1/\Qg (Yf X e p).1=true:=by
 obtain⟨d1,d2,d3,d4⟩:=H0r h;have hpp:=X3 hp;obtain⟨n1,n2,n3,n4,n5⟩:=Ym d2;have v1:=Jw d1;have v3:=Jw d3;have g3:=JP (exV 2 (ofN (Z1 (ofM X) p).1) (ofN e)) p.toNat;rw[YS,j0q,QL,QL,<-v3] at g3;have rd:=QB 1 oneN e p false;have rq:=QB 2 (Z1 (ofM X) p).1 e p true;have g0:0<=qN (Qv 1 oneN e p false).1:=by have:=kI (v:=exV 1 (ofN oneN) (ofN e)) (p:=p.toNat) (up:=false) hpp (by rw[YS,Q0z,QL,QL,KI];grind);rw[v1];exact this
 have hdn:=v6 rd g0;rw[d4] at h⊢;refine⟨?_,YR _ _ _ _⟩;have hqu:=X0z rq rd hpp hdn h;have hpos:0<qN (Qv 1 oneN e p false).1:=by refine BE fun hne=> ?_;have hz:qN (Qv 1 oneN e p false).1=0:=(by grind);have hdef:(Qv 1 oneN e p false).1=default:=kP rd X0 (by rw[hz,Kd]);rw[hdef] at h;unfold Jx at h;rw[BC (show(default:Nm).w= [] from rfl)] at h;exact absurd h (by decide)
 have hn0:0<=qN (Z1 (ofM X) p).1*qN e:=Rat.mul_nonneg n3 r1;refine BE fun hne=> ?_;have hlt:0< -qN (Jx (Qv 2 (Z1 (ofM X) p).1 e p true).1 (Qv 1 oneN e p false).1 p true).1:=(by grind);have:=Rat.mul_pos hlt hpos;grind
theorem V0m {y q:Nm}{p:Int}(hq:0<=qN q)(h1:(Qv 1 y q p false).2=0)(h2:(Qv 0 y q p true).2=0):Qs ⟨(Qv 1 y q p false).1,(Qv 0 y q p true).1⟩=true:=by
 have hs:(Xs y q p).2=0:=by unfold Xs;rw[BA (by rw[h1,h2];simp)]
 have hm:=(kx (X:=qN y) hs ⟨by grind,by grind⟩).1;have he:(Xs y q p).1=⟨(Qv 1 y q p false).1,(Qv 0 y q p true).1⟩:=(by unfold Xs;rw[BA (by rw[h1,h2];simp)]);rw[he] at hm;exact X0t (QB _ _ _ _ _) (QB _ _ _ _ _) (E9 hm.1 hm.2)
def WB (G:Nat->Nat->Ivl×Int)(n:Nat):Mx:=(List.range n).map fun i=>(List.range n).map fun j=>(G i j).1
theorem K1e {G:Nat->Nat->Ivl×Int}{n:Nat}(h: ∀i j,i<n->j<n->(G i j).2=0):Km G n=(WB G n,0):=by have h0:=Ig h;obtain⟨f1,f2⟩:=Vw h0;refine Prod.ext ?_ h0;show(Km G n).1=WB G n;refine C9 (by rw[f1];simp[WB]) fun i h1 h2=> ?_;have hi:i<n:=(by rw[f1] at h1;exact h1);have e1:(Km G n).1[i]=(Km G n).1.getD i []:=(by rw[q_a,BB h1];rfl);have e2:(WB G n)[i]=(List.range n).map fun j=>(G i j).1:=(by simp[WB]);rw[e1,e2];refine C9 (by rw[(f2 i hi).1];simp) fun j h3 h4=> ?_;have hj:j<n:=(by rw[(f2 i hi).1] at h3;exact h3);have e3:=((f2 i hi).2 j hj).2;unfold atM at e3;rw[q_a,BB h3,EB] at e3;rw[e3,List.getElem_map,List.getElem_range]
theorem j0k {G:Nat->Nat->Ivl×Int}{n i j:Nat}{e:Int}(he:e≠0)(hG: ∀i j,(G i j).2=0\/(G i j).2=e)(hi:i<n)(hj:j<n)(h:(G i j).2=e):Km G n=([],e):=by
 have hne:(Km G n).2≠0:=fun h0=>by have:=((Vw h0).2 i hi).2 j hj;rw[this.1] at h;exact he h.symm
 have key: ∀ {β:Type} (F:Nat->β×Int) (k i:Nat) (acc:List β),(∀j,(F j).2=0\/(F j).2=e)->(XZ F i k acc).2=0\/XZ F i k acc=([],e):=by
  intro β F k
  induction k with
  | zero=>intro i acc _;exact .inl rfl
  | succ k ih=>
   intro i acc hF;unfold XZ;split;rename_i hc;exact .inr (by rw[(hF i).resolve_left hc]);exact ih _ _ hF
 refine(key _ _ _ _ fun j=> ?_).resolve_left hne;rcases key (fun j'=>G j j') n 0 [] (hG j) with h | h;exact .inl h;exact .inr (by rw[h])
def bdR (n S:Nat)(l:List Nm):Prop:= ∀j,j<n->luQ S S (qN (l.getD j default))
def bdQ (n S:Nat)(a:List (List Nm)):Prop:= ∀i,i<n->bdR n S (a.getD i [])
theorem bdR.mono {n S T:Nat}{l:List Nm}(h:bdR n S l)(hl:S<=T):bdR n T l:=fun j hj=>(h j hj).mono hl hl
theorem bdQ.mono {n S T:Nat}{a:List (List Nm)}(h:bdQ n S a)(hl:S<=T):bdQ n T a:=fun i hi=>(h i hi).mono hl
theorem Gs {a:List (List Nm)}{i:Nat}{r:List Nm}(hi:i<a.length)(k:Nat):(a.set i r).getD k []=if k=i then r else a.getD k []:=by rw[ZO];by_cases e:k=i;subst e;rw[BC ⟨rfl,hi⟩,BC rfl];rw[BA fun h=>e h.1.symm,BA e]
theorem YZ (L:Nat):luQ L 1 1:=by have:=z0x (z:=1) (n:=1) (by decide) L;rwa [show qM 1 0=1 by unfold qM;rw[IP,Rat.mul_one];rfl] at this
theorem J1i {n i j:Nat}(h1:1<=n)(h4:n<=4)(hi:i<n)(hj:j<n):luI 0 1 (atM (idM (n:Int)) i j):=by rw[(xh h1 h4 hi hj).2.2];split;exact⟨by decide,by rw[KI];exact YZ 0,by rw[KI];exact YZ 0⟩;exact J0w _ _
theorem I0 {a:List (List Nm)}{p:Int}(h:(Xr a p).2=0):rightM (Xr a p).1=true:=by obtain⟨⟨-,h1,h4, -⟩,hl, -,hs⟩:=YN h;refine rightM_iff.2 ⟨fun i hi=> ?_,oG,oG⟩;rw[hl] at hi⊢;refine⟨(hs i hi).1,Xj (fun j hj=> ?_) (by rw[(hs i hi).1];omega) (by rw[(hs i hi).1];omega)⟩;rw[(hs i hi).1] at hj;exact((hs i hi).2 j hj).1
def RU (n:Nat)(f:Nat->Nat->Rat)(u:List (List Vl)):Prop:=u.length=n/\ ∀i,i<n->(u.getD i []).length=n/\ ∀j,j<n->RV (f i j) ((u.getD i []).getD j default)
def luF (n L U:Nat)(f:Nat->Nat->Rat):Prop:= ∀i j,i<n->j<n->luQ L U (f i j)
def but (n r:Nat):List Nat:=(List.range n).filter fun i=>i !=r
theorem K0l (i r:Nat):but (i+1) r=but i r++if i=r then [] else [i]:=by unfold but;rw[List.range_succ,List.filter_append];congr 1;by_cases e:i=r;rw[BC e,e];simp;rw[BA e];simp[e]
def Q1b (u:List (List Vl))(i:Nat)(js:List Nat):List Vl:=js.map fun j=>(u.getD i []).getD j default
def U0j (u:List (List Vl))(n:Nat)(is:List Nat)(c:Nat):List (List Vl):=is.map fun i=>Q1b u i (but n c)
theorem K0m : ∀n,n<=4-> ∀r,r<n->but n r=(List.range (n-1)).map (ZI r):=by decide+kernel
theorem YP {n r k:Nat}(h:k<n-1):ZI r k<n:=by unfold ZI;split<;>omega
theorem RU.minor {n:Nat}(h4:n<=4){f:Nat->Nat->Rat}{u:List (List Vl)}(h:RU n f u){r c:Nat}(hr:r<n)(hc:c<n):RU (n-1) (fun i k=>f (ZI r i) (ZI c k)) (U0j u n (but n r) c):=by
 unfold U0j Q1b;rw[K0m n h4 r hr,K0m n h4 c hc];refine⟨by simp,fun i hi=> ?_⟩;have e:(((List.range (n-1)).map (ZI r)).map fun i=>((List.range (n-1)).map (ZI c)).map fun j=>(u.getD i []).getD j default).getD i []=((List.range (n-1)).map (ZI c)).map fun j=>(u.getD (ZI r i) []).getD j default:=by rw[q_a,B8,B8,EE hi];rfl
 rw[e];refine⟨by simp,fun j hj=> ?_⟩;have e2:(((List.range (n-1)).map (ZI c)).map fun j=>(u.getD (ZI r i) []).getD j default).getD j default=(u.getD (ZI r i) []).getD (ZI c j) default:=by rw[q_a,B8,B8,EE hj];rfl
 rw[e2];exact(h.2 _ (YP hi)).2 _ (YP hj)
theorem luF.minor {n L U:Nat}{f:Nat->Nat->Rat}(h:luF n L U f)(r c:Nat):luF (n-1) L U (fun i k=>f (ZI r i) (ZI c k)):=fun i j hi hj=>h _ _ (YP hi) (YP hj)
theorem Y1i {L U j:Nat}{x:Rat}(h:luQ L U x):luQ L U (kd j x):=by unfold kd;split;exact Hd h;exact h
theorem Q0m {n L U L' U':Nat}{f:Nat->Nat->Rat}{D:Nat->Rat}(hf:luF n L U f)(h0:0<n)(hD: ∀j,j<n->luQ L' U' (D j)): ∀m,m<=n->luQ (L+L') (U+U'+m) (detS f D m)
 | 0,_=>Xw _ _
 | m+1,hm=>by rw[detS];exact Jz (Q0m hf h0 hD m oG) ((Y1i (JF (hf 0 m h0 oG) (hD m oG))).up (show U+U'<=U+U'+m by omega))
theorem J0u {L U:Nat} : ∀(n:Nat),n<=4-> ∀f,luF n L U f->luQ (n*L) (n*(U+4)) (Jg n f)
 | 0,_,f,_=>by rw[Jg];have:=z0x (z:=1) (n:=0) (by decide) (0*L);rw[show qM 1 0=1 by unfold qM;rw[IP,Rat.mul_one];rfl] at this;exact this.up oG
 | n+1,h4,f,hf=>by rw[Jg];have hD: ∀j,j<n+1->luQ (n*L) (n*(U+4)) (Jg n fun i k=>f (i+1) (ZI j k)):=fun j hj=>J0u n oG _ fun i k hi hk=>hf _ _ oG (YP (n:=n+1) hk);refine(Q0m hf oG hD (n+1) (BD _)).mono (by rw[Nat.succ_mul];omega) (by rw[Nat.succ_mul];omega)
def Vd (q:List (List Nm)):List (List Vl):=q.map fun r=>r.map ofN
theorem RV.turn {x:Rat}{v:Vl}(h:RV x v):RV (-x) (Xa v):=⟨WP h.1,by rw[Kz,h.2]⟩
theorem w1f {n L U:Nat}(h4:n<=4){f:Nat->Nat->Rat}(h:luF n L U f)(i j:Nat):luQ (4*L) (4*(U+4)) (WK n f i j):=by unfold WK;refine Y1i ((J0u (n-1) oG _ (h.minor j i)).mono (BG _ oG) (BG _ oG))
end Go.Pv
end
