/- Walk. -/
import Derived.Test.YtfoiagbimnghjaaGreatDoorZFD
import Derived.Test.YtfoiagbimnghjaaGreatDoorZCC
set_option linter.all false
section
namespace Go.Pv
def KT (j k:Nat):Nat:=if k<j then k else k+1
def W9 (j:Nat)(x:Rat):Rat:=if j % 2=1 then -x else x
def Gg (f:Nat->Nat->Rat)(D:Nat->Rat):Nat->Rat
 | 0=>0
 | j+1=>Gg f D j+W9 j (f 0 j*D j)
def ZU :Nat->(Nat->Nat->Rat)->Rat
 | 0,_=>1
 | n+1,f=>Gg f (fun j=>ZU n fun i k=>f (i+1) (KT j k)) (n+1)
def Y2 (n:Nat)(f:Nat->Nat->Rat)(i j:Nat):Rat:=W9 (i+j) (ZU (n-1) fun a b=>f (KT j a) (KT i b))
theorem IM (f:Nat->Nat->Rat):ZU 1 f=f 0 0:=by simp[ZU,Gg,W9];try grind
theorem H2 (f:Nat->Nat->Rat):ZU 2 f=f 0 0*f 1 1-f 0 1*f 1 0:=by rw[ZU];simp[Gg,IM,W9,KT];grind
theorem WV (f:Nat->Nat->Rat):ZU 3 f=f 0 0*(f 1 1*f 2 2-f 1 2*f 2 1)-f 0 1*(f 1 0*f 2 2-f 1 2*f 2 0)+f 0 2*(f 1 0*f 2 1-f 1 1*f 2 0):=by rw[ZU];simp[Gg,H2,W9,KT];grind
theorem wV (f:Nat->Nat->Rat):ZU 4 f=f 0 0*ZU 3 (fun i k=>f (i+1) (KT 0 k))-f 0 1*ZU 3 (fun i k=>f (i+1) (KT 1 k))+f 0 2*ZU 3 (fun i k=>f (i+1) (KT 2 k))-f 0 3*ZU 3 (fun i k=>f (i+1) (KT 3 k)):=by rw[ZU];simp[Gg,W9];grind
theorem v1b (n:Nat)(h1:1<=n)(h4:n<=4)(f:Nat->Nat->Rat)(i j:Nat)(hi:i<n)(hj:j<n):QB (f i) (fun k=>Y2 n f k j) n=ZU n f*Jd i j:=by
 have hn:n=1\/n=2\/n=3\/n=4:=oG;rcases hn with rfl | rfl | rfl | rfl;have:i=0:=oG;have:j=0:=oG
 subst_vars
 simp[QB,Y2,Jd,IM,ZU,Gg,W9];try grind
 have:i=0\/i=1:=oG;have:j=0\/j=1:=oG;rcases ‹i=0\/i=1›with rfl | rfl<;>rcases ‹j=0\/j=1›with rfl | rfl<;>simp[QB,Y2,Jd,H2,IM,W9,KT]<;>grind;have a1:i=0\/i=1\/i=2:=oG;have a2:j=0\/j=1\/j=2:=oG;rcases a1 with rfl | rfl | rfl<;>rcases a2 with rfl | rfl | rfl<;>simp[QB,Y2,Jd,WV,H2,W9,KT]<;>grind;have a1:i=0\/i=1\/i=2\/i=3:=oG;have a2:j=0\/j=1\/j=2\/j=3:=oG;rcases a1 with rfl | rfl | rfl | rfl<;>rcases a2 with rfl | rfl | rfl | rfl<;>simp[QB,Y2,Jd,wV,WV,W9,KT]<;>grind
def zW (n:Nat)(f:Nat->Nat->Rat)(x:Nat->Rat):Prop:=(∃i,i<n/\x i≠0)/\ ∀i,i<n->QB (f i) x n=0
def Vh (f:Nat->Nat->Rat)(r:Nat):Nat->Nat->Rat:=fun i k=>if i=0 then f r k else if i=r then f 0 k else f i k
theorem k1c (n:Nat)(h4:n<=4)(f:Nat->Nat->Rat)(r:Nat)(h0:0<r)(hr:r<n):ZU n (Vh f r)= -ZU n f:=by have hn:n=2\/n=3\/n=4:=oG;rcases hn with rfl | rfl | rfl;have:r=1:=oG;subst this;simp[H2,Vh];grind;have a:r=1\/r=2:=oG;rcases a with rfl | rfl<;>simp[WV,Vh]<;>grind;have a:r=1\/r=2\/r=3:=oG;rcases a with rfl | rfl | rfl<;>simp[wV,WV,Vh,KT]<;>grind
theorem Y1n {n:Nat}{f:Nat->Nat->Rat}{x:Nat->Rat}{r:Nat}(hr:r<n)(h:zW n (Vh f r) x):zW n f x:=by
 have e0:Vh f r 0=f r:=by funext k;simp[Vh]
 have e1:r≠0->Vh f r r=f 0:=fun hr=>by funext k;simp[Vh,hr]
 have e2: ∀i,i≠0->i≠r->Vh f r i=f i:=fun i h1 h2=>by funext k;simp[Vh,h1,h2]
 refine⟨h.1,fun i hi=> ?_⟩;by_cases z0:i=0;subst z0;by_cases er:r=0;subst er;rw[<-e0];exact h.2 0 hi;rw[<-e1 er];exact h.2 r hr;by_cases er:i=r;subst er;rw[<-e0];exact h.2 0 oG;rw[<-e2 i z0 er];exact h.2 i hi
def U3 (f:Nat->Nat->Rat):Nat->Nat->Rat:=fun i k=>f (i+1) (k+1)-f (i+1) 0/f 0 0*f 0 (k+1)
theorem k1d (n:Nat)(h4:n<=3)(f:Nat->Nat->Rat)(h:f 0 0≠0):ZU (n+1) f=f 0 0*ZU n (U3 f):=by
 have e1:f 1 0=f 1 0/f 0 0*f 0 0:=(by grind);have e2:f 2 0=f 2 0/f 0 0*f 0 0:=(by grind);have e3:f 3 0=f 3 0/f 0 0*f 0 0:=(by grind);have hn:n=0\/n=1\/n=2\/n=3:=oG;rcases hn with rfl | rfl | rfl | rfl;rw[IM];simp[ZU];try grind
 rw[H2,IM];simp only[U3];generalize f 1 0/f 0 0=a at*
 rw[e1];grind;rw[WV,H2];simp only[U3];generalize f 1 0/f 0 0=a at*
 generalize f 2 0/f 0 0=b at*
 rw[e1,e2];grind;rw[wV,WV,WV,WV,WV,WV];simp only[U3,KT];simp;generalize f 1 0/f 0 0=a at*
 generalize f 2 0/f 0 0=b at*
 generalize f 3 0/f 0 0=c at*
 rw[e1,e2,e3];grind
theorem wD (X Y:Nat->Rat): ∀n,QB X Y (n+1)=X 0*Y 0+QB (fun k=>X (k+1)) (fun k=>Y (k+1)) n
 | 0=>by simp[QB];try grind
 | n+1=>by rw[QB,wD X Y n,QB];grind
theorem Gf {X X' Y Y':Nat->Rat} : ∀n,(∀k,k<n->X k=X' k/\Y k=Y' k)->QB X Y n=QB X' Y' n
 | 0,_=>rfl
 | n+1,h=>by rw[QB,QB,Gf n fun k hk=>h k oG,(h n oG).1,(h n oG).2]
theorem xq (X X' Y:Nat->Rat)(a:Rat): ∀n,QB (fun k=>X k+a*X' k) Y n=QB X Y n+a*QB X' Y n
 | 0=>by simp[QB];try grind
 | n+1=>by rw[QB,QB,QB,xq X X' Y a n];grind
theorem K0x (X Y:Nat->Rat)(a:Rat): ∀n,QB (fun k=>a*X k) Y n=a*QB X Y n
 | 0=>by simp[QB]
 | n+1=>by rw[QB,QB,K0x X Y a n];grind
theorem j1b (X Y:Nat->Rat)(d:Rat)(n:Nat):QB (fun k=>X k/d) Y n=QB X Y n/d:=by have:=K0x X Y (1/d) n;rw[Gf n (X':=fun k=>1/d*X k) (Y':=Y) fun k _=>⟨by grind,rfl⟩,this];grind
theorem K0w (a:Nat->Rat)(A:Nat->Nat->Rat)(x:Nat->Rat)(n:Nat): ∀m,QB a (fun k=>QB (A k) x n) m=QB (fun j=>QB a (fun k=>A k j) m) x n
 | 0=>by rw[QB,IK n fun k _=> ?_];simp[QB]
 | m+1=>by rw[QB,K0w a A x n m,<-xq];rfl
theorem Z0m : ∀(n:Nat),n<=4-> ∀f:Nat->Nat->Rat,ZU n f=0-> ∃x,zW n f x
 | 0,_,f,h=>by rw[ZU] at h;exact absurd h (by decide)
 | n+1,h4,f,h=>by
  have main: ∀f:Nat->Nat->Rat,f 0 0≠0->ZU (n+1) f=0-> ∃x,zW (n+1) f x:=fun f h0 h=>by
   rw[k1d n oG f h0] at h;have hz:ZU n (U3 f)=0:=by rcases Rat.mul_eq_zero.1 h with h | h;exact absurd h h0;exact h
   obtain⟨y,⟨i,hi,hy⟩,hk⟩:=Z0m n oG _ hz;refine⟨fun k=>if k=0 then -(QB (fun k=>f 0 (k+1)) y n)/f 0 0 else y (k-1),⟨i+1,oG,by simpa using hy⟩,fun r hr=> ?_⟩;rw[wD];have e:QB (fun k=>f r (k+1)) (fun k=>if k+1=0 then -(QB (fun k=>f 0 (k+1)) y n)/f 0 0 else y (k+1-1)) n=QB (fun k=>f r (k+1)) y n:=Gf n fun k hk=>⟨rfl,by simp⟩;rw[e,BC rfl];cases r with
   | zero=>grind
   | succ r=>
    have h2:=hk r oG;have h3:QB (U3 f r) y n=QB (fun k=>f (r+1) (k+1)) y n+ -(f (r+1) 0/f 0 0)*QB (fun k=>f 0 (k+1)) y n:=by rw[<-xq];exact Gf n fun k _=>⟨by unfold U3;grind,rfl⟩
    rw[h3] at h2;grind
  by_cases ha: ∀i,i<n+1->f i 0=0;refine⟨fun k=>if k=0 then 1 else 0,⟨0,oG,by simp⟩,fun i hi=> ?_⟩;rw[wD,ha i hi,IK n fun k _=>by simp];grind;obtain⟨r,hr⟩: ∃r,¬(r<n+1->f r 0=0):=Classical.not_forall.1 ha;have hr1:r<n+1:=BE fun h=>hr fun h2=>absurd h2 h;have hr2:f r 0≠0:=fun h=>hr fun _=>h;by_cases h0:r=0;subst h0;exact main f hr2 h;obtain⟨x,hx⟩:=main (Vh f r) (by simpa[Vh] using hr2) (by rw[k1c (n+1) h4 f r oG hr1,h];grind);exact⟨x,Y1n hr1 hx⟩
def X3 (x:Rat):Rat:=if x<0 then -x else x
theorem Y0w (x:Rat):Xq (X3 x) x:=by unfold X3 Xq;split<;>constructor<;>grind
theorem Y0v {a x:Rat}(h:Xq a x):X3 x<=a:=by unfold X3;have:=h.1;have:=h.2;split<;>grind
theorem y5 (x:Rat):0<=X3 x:=by unfold X3;split<;>grind
theorem Z2o {x:Rat}(h:X3 x=0):x=0:=by unfold X3 at h;split at h<;>grind
theorem ve (x:Nat->Rat): ∀n,0<n-> ∃m,m<n/\ ∀k,k<n->X3 (x k)<=X3 (x m)
 | 0,h=>absurd h (by decide)
 | 1,_=>⟨0,by decide,fun k hk=>by have:k=0:=oG
                                  subst this;exact CB⟩
 | n+2,_=>by obtain⟨m,h1,h2⟩:=ve x (n+1) oG;by_cases hc:X3 (x (n+1))<=X3 (x m);exact⟨m,oG,fun k hk=>if e:k=n+1 then e▸hc else h2 k oG⟩;have hc':X3 (x m)<=X3 (x (n+1)):=(by grind);exact⟨n+1,oG,fun k hk=>if e:k=n+1 then e▸CB else E9 (h2 k oG) hc'⟩
theorem I2 {a b x:Rat}(h:Xq a x)(hab:a<=b):Xq b x:=by unfold Xq at*;have:=h.1;have:=h.2;constructor<;>grind
section
variable {n:Nat} {A R E:Nat->Nat->Rat} {e:Rat}
theorem Nk (hE: ∀i j,i<n->j<n->E i j=Jd i j-QB (R i) (fun k=>A k j) n)(x:Nat->Rat){i:Nat}(hi:i<n):QB (R i) (fun k=>QB (A k) x n) n=x i-QB (E i) x n:=by rw[K0w];have h1:QB (E i) x n=QB (fun j=>Jd i j+(-1)*QB (R i) (fun k=>A k j) n) x n:=Gf n fun k hk=>⟨by rw[hE i k hi hk];grind,rfl⟩;rw[h1,xq,wE n hi];grind
theorem V0n (h4:n<=4)(hE: ∀i j,i<n->j<n->E i j=Jd i j-QB (R i) (fun k=>A k j) n)(B:Nat->Nat->Rat)(hB: ∀i j,i<n->j<n->Xq (B i j) (E i j))(he: ∀i,i<n->Jy (B i) n<=e)(h1:e<1):ZU n A≠0:=by
 intro h;obtain⟨x,⟨i,hi,hx⟩,hk⟩:=Z0m n h4 A h;obtain⟨m,hm,hmx⟩:=ve x n oG;have hb:Xq (Jy (B m) n*X3 (x m)) (QB (E m) x n):=wH n fun k hk=>⟨hB m k hm hk,I2 (Y0w _) (hmx k hk)⟩;have hz:=Nk hE x hm;rw[IK n fun k hk2=>by rw[hk k hk2,Rat.mul_zero]] at hz;have h2:x m=QB (E m) x n:=(by grind);rw[<-h2] at hb;have h3:=Y0v hb;have h4:=y5 (x m);have h5:Jy (B m) n*X3 (x m)<=e*X3 (x m):=D3 (he m hm) h4;have h6:0<=(1-e):=(by grind);have h7:(1-e)*X3 (x m)<=0:=(by grind);have h8:X3 (x m)=0:=by refine BE fun hne=> ?_;have:0<X3 (x m):=(by grind);have:=Rat.mul_pos (show 0<1-e by grind) this;grind
 have h9:=hmx i hi;have h10:=y5 (x i);exact hx (Z2o (by grind))
theorem U1h (h4:n<=4)(hE: ∀i j,i<n->j<n->E i j=Jd i j-QB (R i) (fun k=>A k j) n)(B:Nat->Nat->Rat)(hB: ∀i j,i<n->j<n->Xq (B i j) (E i j))(he: ∀i,i<n->Jy (B i) n<=e)(h1:e<1)
 {r q:Rat} (hr: ∀i j,i<n->j<n->Xq r (R i j)) (hq:e*r<=q*(1-e)) {i j:Nat} (hi:i<n) (hj:j<n):Xq q (Y2 n A i j/ZU n A-R i j):=by
 have hd:=V0n h4 hE B hB he h1;have h1n:1<=n:=oG
 let x:Nat->Rat:=fun k=>Y2 n A k j/ZU n A
 have hx: ∀k,k<n->QB (A k) x n=Jd k j:=fun k hk=>by have c:=v1b n h1n h4 A k j hk hj;rw[wG] at c⊢;show QB (fun l=>Y2 n A l j/ZU n A) (A k) n=_;rw[j1b,c];grind
 have hrx: ∀i,i<n->x i-R i j=QB (E i) x n:=fun i hi=>by have:=Nk hE x hi;rw[Gf n (fun k hk=>⟨rfl,hx k hk⟩)] at this;rw[wG,show QB (fun k=>Jd k j) (R i) n=QB (Jd j) (R i) n from Gf n fun k _=>⟨by unfold Jd;split<;>split<;>first | rfl | omega,rfl⟩,wE n hj] at this;grind
 obtain⟨m,hm,hmx⟩:=ve x n oG;have hb: ∀i,i<n->Xq (e*X3 (x m)) (QB (E i) x n):=fun i hi=>I2 (wH n fun k hk=>⟨hB i k hi hk,I2 (Y0w _) (hmx k hk)⟩) (D3 (he i hi) (y5 _));have b1:=hb m hm;rw[<-hrx m hm] at b1;have b2:=hr m j hm hj;have b3:X3 (x m)<=r+e*X3 (x m):=Y0v (by unfold Xq at*;have:=b1.1;have:=b1.2;have:=b2.1;have:=b2.2;constructor<;>grind);have e0:0<=e:=by
  have:=he m hm;have:0<=Jy (B m) n:=by
   have hs: ∀l,l<=n->0<=Jy (B m) l:=fun l=>by
    induction l with
    | zero=>intro _;exact CB
    | succ l ih=>
     intro hl;have:=ih oG;have hbl:=hB m l hm oG;unfold Xq at hbl;rw[Jy];grind
   exact hs n (BD _)
  grind
 have b4:(e*X3 (x m))*(1-e)<=q*(1-e):=by have:e*(X3 (x m)*(1-e))<=e*r:=Rat.mul_le_mul_of_nonneg_left (by grind) e0;grind
 have b5:e*X3 (x m)<=q:=by refine BE fun hne=> ?_;have hlt:0<e*X3 (x m)-q:=(by grind);have:=Rat.mul_pos hlt (show 0<1-e by grind);grind
 have:=hb i hi;rw[<-hrx i hi] at this;exact I2 this b5
end
theorem IC {G:Nat->Nat->Ivl×Int}{n:Nat}(h:(ZN G n).2=0):(ZN G n).1.length=n/\ ∀i,i<n->((ZN G n).1.getD i []).length=n/\ ∀j,j<n->(G i j).2=0/\atM (ZN G n).1 i j=(G i j).1:=by obtain⟨g1,g2,g3⟩:=KA h;refine⟨g1,fun i hi=> ?_⟩;have e:(ZN G n).1.getD i []=(Qv (fun j=>G i j) 0 n []).1:=g3 i hi;obtain⟨r1,r2,r3⟩:=KA (g2 i hi);refine⟨by rw[e];exact r1,fun j hj=>⟨r2 j hj,?_⟩⟩;unfold atM;rw[e];exact r3 j hj
theorem q1o {G:Nat->Nat->Ivl×Int}{n:Nat}(h: ∀i j,i<n->j<n->(G i j).2=0):(ZN G n).2=0:=
 j7 _ _ _ fun i _ hi=>j7 _ _ _ fun j _ hj=>h i j oG oG
theorem z6 {q:Ly}{i:Nat}(hi:i<q.length):(ofM q).getD i []=(q.getD i []).map fun x=>⟨x,x⟩:=by unfold ofM ofB;rw[q_a,B8,BB hi,q_a,BB hi];rfl
theorem z7 {q:Ly}{i j:Nat}(hi:i<q.length)(hj:j<(q.getD i []).length):atM (ofM q) i j=⟨QD q i j,QD q i j⟩:=by unfold atM QD;rw[z6 hi];generalize q.getD i []=r at hj⊢;rw[q_a,B8,BB hj,q_a,BB hj];rfl
theorem Tj {q:Ly}{i:Nat}(hi:i<q.length):((ofM q).getD i []).length=(q.getD i []).length:=by rw[z6 hi,BR]
theorem sqR.rightM {n:Nat}{a:Ly}(h:sqR n a)(h1:1<=n)(h4:n<=4):rightM (ofM a)=true:=by
 have hl:(ofM a).length=n:=by unfold ofM;rw[BR];exact h.1
 refine rightM_iff.2 ⟨fun i hi=> ?_,oG,oG⟩;rw[hl] at hi⊢;have h0:i<a.length:=(by rw[h.1];exact hi);have hr:=h.row hi;refine⟨by rw[Tj h0];exact hr.1,?_⟩;have hlr:((ofM a).getD i []).length=n:=(by rw[Tj h0];exact hr.1);refine GV (fun j hj=> ?_) oG oG;rw[hlr] at hj;have e:((ofM a).getD i []).getD j default=atM (ofM a) i j:=rfl;rw[e,z7 h0 (by rw[hr.1];exact hj)];exact k6 (h.ent hi hj)
theorem Db {r:Nat->Ivl}{p:Int} : ∀j,(ZM r p j).2=0->Jy (fun k=>qN (XU (r k))) (j+1)<=qN (ZM r p j).1
 | 0,_=>by show 0+qN (XU (r 0))<=qN (XU (r 0));rw[Rat.zero_add];exact CB
 | j+1,h=>by
  have h0:(ZM r p j).2=0:=by refine BE fun hne=> ?_;rw[ZM,BC hne] at h;exact hne h
  have ih:=Db j h0;rw[Dc h0] at h⊢;have hv:=UA h;have hg:=Yk (exV 0 (ofN (ZM r p j).1) (ofN (XU (r (j+1))))) p.toNat;rw[Wg,IE,Zb,Zb] at hg;show Jy (fun k=>qN (XU (r k))) (j+1)+qN (XU (r (j+1)))<=_;rw[hv];grind
theorem Tw {m:Mx}{p:Int}(hl:1<=m.length): ∀i,(Xd m p i).2=0->0<=qN (Xd m p i).1/\ ∀k,k<i->Jy (fun j=>qN (XU (atM m k j))) m.length<=qN (Xd m p i).1
 | 0,_=>⟨by show 0<=qN (default:Nm);rw[YJ];exact CB,fun k hk=>oG⟩
 | i+1,h=>by
  have h0:(Xd m p i).2=0:=by refine BE fun hne=> ?_;rw[Xd,BC hne] at h;exact hne h
  have hs:(ZM (atM m i) p (m.length-1)).2=0:=by refine BE fun hne=> ?_;rw[Xd,BA (fun e=>e h0),BC hne] at h;exact hne h
  obtain⟨h2,h4⟩:=Tw hl i h0;have s3:=Db _ hs;rw[show m.length-1+1=m.length from oG] at s3;have hsr:=qG (atM m i) p (m.length-1);have hnr:=zI m p i;rw[Tx h0 hs,yd hsr hnr];split;rename_i hc;have hc:=cmpN_gt.1 hc;refine⟨by show 0<=qN (ZM (atM m i) p (m.length-1)).1;grind,fun k hk=> ?_⟩;show _<=qN (ZM (atM m i) p (m.length-1)).1;by_cases e:k=i;subst e;exact s3;have:=h4 k oG;grind;rename_i hc;have hc:=cmpN_le.1 (LF.1 hc);refine⟨h2,fun k hk=> ?_⟩;show _<=qN (Xd m p i).1;by_cases e:k=i;subst e;grind;exact h4 k oG
theorem zH {m:Mx}{p:Int}(h:(Zj m p).2=0):rightM m=true/\Qt p=true/\0<=qN (Zj m p).1/\Qh (Zj m p).1=true/\ ∀k,k<m.length->Jy (fun j=>qN (XU (atM m k j))) m.length<=qN (Zj m p).1:=by
 have hg:rightM m=true/\Qt p=true:=by refine BE fun hne=> ?_;rw[Zj,BA hne] at h;exact absurd h (by decide)
 rw[Zj,BC hg] at h⊢;obtain⟨a,b⟩:=Tw (Jl hg.1).1 _ h;exact⟨hg.1,hg.2,a,zI m p _,b⟩
def Z6 (x a:List (List Nm))(p:Int):Nm×Int:=
 if (Zc (ofM x) (ofM a) p).2≠0 then(default,(Zc (ofM x) (ofM a) p).2) else
 if (opM 1 (idM (x.length:Int)) (Zc (ofM x) (ofM a) p).1 p).2≠0 then(default,(opM 1 (idM (x.length:Int)) (Zc (ofM x) (ofM a) p).1 p).2) else
 Zj (opM 1 (idM (x.length:Int)) (Zc (ofM x) (ofM a) p).1 p).1 p
def Xw (x:List (List Nm))(e:Nm)(p:Int):Nm×Int:=
 if (Qs 1 oneN e p false).2≠0 then(default,(Qs 1 oneN e p false).2) else
 if (Zj (ofM x) p).2≠0 then(default,(Zj (ofM x) p).2) else
 if (Qs 2 (Zj (ofM x) p).1 e p true).2≠0 then(default,(Qs 2 (Zj (ofM x) p).1 e p true).2) else
 Ja (Qs 2 (Zj (ofM x) p).1 e p true).1 (Qs 1 oneN e p false).1 p true
def ZB (y q:Nm)(p:Int):Ivl×Int:=if (Qs 1 y q p false).2≠0\/(Qs 0 y q p true).2≠0 then(default,2) else(⟨(Qs 1 y q p false).1,(Qs 0 y q p true).1⟩,0)
def ZX (a:List (List Nm))(p:Int):Mx×Int:=
 if (QK a p).2≠0 then([],(QK a p).2) else
 if (Z6 (QK a p).1 a p).2≠0 then([],(Z6 (QK a p).1 a p).2) else
 if Q9 (Z6 (QK a p).1 a p).1 oneN>=0 then([],3) else
 if (Xw (QK a p).1 (Z6 (QK a p).1 a p).1 p).2≠0 then([],(Xw (QK a p).1 (Z6 (QK a p).1 a p).1 p).2) else
 ZN (fun i j=>ZB (QD (QK a p).1 i j) (Xw (QK a p).1 (Z6 (QK a p).1 a p).1 p).1 p) a.length
theorem X1r {k:Nat}{a b:Mx}{p:Int}(h:(opM k a b p).2=0):(rightM a=true/\rightM b=true/\a.length=b.length/\Qt p=true)/\(opM k a b p).1.length=a.length/\ ∀i,i<a.length->((opM k a b p).1.getD i []).length=a.length/\ ∀j,j<a.length->(opI k (atM a i j) (atM b i j) p).2=0/\atM (opM k a b p).1 i j=(opI k (atM a i j) (atM b i j) p).1:=by
 have hg:rightM a=true/\rightM b=true/\a.length=b.length/\Qt p=true:=by refine BE fun hne=> ?_;rw[opM,BA hne] at h;exact absurd h (by decide)
 rw[opM,BC hg] at h⊢;exact⟨hg,IC h⟩
theorem Q0g {a b:Mx}{p:Int}(h:(Zc a b p).2=0):(rightM a=true/\rightM b=true/\a.length=b.length/\Qt p=true)/\(Zc a b p).1.length=a.length/\ ∀i,i<a.length->((Zc a b p).1.getD i []).length=a.length/\ ∀j,j<a.length->(Q6 (atM a i) (fun k=>atM b k j) p a.length).2=0/\atM (Zc a b p).1 i j=(Q6 (atM a i) (fun k=>atM b k j) p a.length).1:=by
 have hg:rightM a=true/\rightM b=true/\a.length=b.length/\Qt p=true:=by refine BE fun hne=> ?_;rw[Zc,BA hne] at h;exact absurd h (by decide)
 rw[Zc,BC hg] at h⊢;exact⟨hg,IC h⟩
theorem zy :Qh oneN=true:=by decide
theorem Mv {n:Nat}{x a:Ly}{p:Int}(hx:sqR n x)(ha:sqR n a)(h1:1<=n)(h4:n<=4)(h:(Z6 x a p).2=0):
 0<=qN (Z6 x a p).1/\Qh (Z6 x a p).1=true/\ ∃B:Nat->Nat->Rat,(∀i j,i<n->j<n->Xq (B i j) (Jd i j-QB (fun k=>qN (QD x i k)) (fun k=>qN (QD a k j)) n))/\ ∀i,i<n->Jy (B i) n<=qN (Z6 x a p).1:=by
 have c1:(Zc (ofM x) (ofM a) p).2=0:=by refine BE fun hne=> ?_;rw[Z6,BC hne] at h;exact hne h
 have c2:(opM 1 (idM (x.length:Int)) (Zc (ofM x) (ofM a) p).1 p).2=0:=by refine BE fun hne=> ?_;rw[Z6,BA (fun e=>e c1),BC hne] at h;exact hne h
 rw[Z6,BA (fun e=>e c1),BA (fun e=>e c2)] at h⊢;obtain⟨-,m1,m2⟩:=Q0g c1;obtain⟨-,o1,o2⟩:=X1r c2;obtain⟨n1,n2,n3,n4,n5⟩:=zH h;have hxl:(ofM x).length=n:=(by unfold ofM;rw[BR];exact hx.1);have hid:=(UV h1 h4 (show 0<n by omega) (show 0<n by omega)).1;rw[hxl] at m1 m2;rw[hx.1,hid] at o1 o2;rw[hx.1] at n1 n3 n4 n5⊢;generalize hM:(opM 1 (idM (n:Int)) (Zc (ofM x) (ofM a) p).1 p).1=M at*
 refine⟨n3,n4,fun i j=>qN (XU (atM M i j)),fun i j hi hj=> ?_,fun i hi=> ?_⟩;obtain⟨q1,q2⟩:=(o2 i hi).2 j hj;obtain⟨d1,d2⟩:=(m2 i hi).2 j hj;have hd:Ke (QB (fun k=>qN (QD x i k)) (fun k=>qN (QD a k j)) n) (atM (Zc (ofM x) (ofM a) p).1 i j):=by rw[d2];refine V0a n d1 fun k hk=>⟨?_,?_⟩;rw[z7 (by rw[hx.1];exact hi) (by rw[(hx.row hi).1];exact hk)];exact⟨CB,CB⟩;rw[z7 (by rw[ha.1];exact hk) (by rw[(ha.row hk).1];exact hj)];exact⟨CB,CB⟩
 have ho:=kJ 1 q1 (V1y h1 h4 hi hj) hd;rw[YZ] at ho;rw[<-q2] at ho;have hr:Qp (atM M i j)=true:=qZ n1 oG oG;show Xq (qN (XU (atM M i j))) _;exact(vq hr ho).1;have:=n5 i oG;rw[o1] at this;exact this
theorem Np {a b:Nm}{p:Int}(ha:Qh a=true)(hb:Qh b=true)(hp:1<=p.toNat)(hn:b.neg=false)(h:(Ja a b p true).2=0):qN a<=qN (Ja a b p true).1*qN b:=by unfold Ja at h⊢;split at h;exact absurd h (by decide);rename_i hw;rw[BA hw];unfold ZT at h⊢;have hv:=WJ (Kl (Gj (ofN a) (ofN b) p.toNat) p.toNat true) h;have h0:0<(ofN b).m:=EU fun e=>hw ((KO hb).1 e);rw[hv.2];have hf:=J0m (XB (ofN a) (ofN b) p.toNat) p.toNat;have:=(Ng (a:=ofN a) (b:=ofN b) (p:=p.toNat) hn h0 hf).1 (Yk _ _);rw[Zb,Zb] at this;exact this
theorem Cq {y q:Nm}{p:Int}(h:(ZB y q p).2=0){X:Rat}(hX:Xq (qN q) (X-qN y)):Ke X (ZB y q p).1/\((ZB y q p).1.lo=(Qs 1 y q p false).1/\(ZB y q p).1.hi=(Qs 0 y q p true).1/\(Qs 1 y q p false).2=0/\(Qs 0 y q p true).2=0):=by unfold ZB at h⊢;split at h;exact absurd h (by decide);rename_i hn;rw[BA hn];have e1:(Qs 1 y q p false).2=0:=BE fun h=>hn (.inl h);have e2:(Qs 0 y q p true).2=0:=BE fun h=>hn (.inr h);have v1:=UA e1;have v2:=UA e2;have g1:=Ie (exV 1 (ofN y) (ofN q)) p.toNat;have g2:=Yk (exV 0 (ofN y) (ofN q)) p.toNat;rw[Wg,YZ,Zb,Zb,<-v1] at g1;rw[Wg,IE,Zb,Zb,<-v2] at g2;unfold Xq at hX;have:=hX.1;have:=hX.2;exact⟨⟨by show qN (Qs 1 y q p false).1<=X;grind,by show X<=qN (Qs 0 y q p true).1;grind⟩,rfl,rfl,e1,e2⟩
def sqG (n:Nat)(x:GJ):Prop:=sqR n x.a/\sqR n x.r
theorem Y0o (x m y:Nm)(p:Int):Qh (KM x m y p).1=true:=by unfold KM;split<;>exact XZ _ _ _ _ _
theorem j1m (a b:Nm)(p:Int)(up:Bool):Qh (ZT a b p up).1=true:=JZ (K5 (Kl (Gj _ _ _) _ _))
theorem zT {n:Nat}(m:Nm)(p:Int)(row other:Lx)(h:row.length=n):(KH m p row other).length=n/\ ∀c∈KH m p row other,Qh c=true:=by unfold KH;refine⟨by simp[h],fun c hc=> ?_⟩;simp only[CF] at hc;obtain⟨j,_,rfl⟩:=hc;exact Y0o _ _ _ _
theorem Hz {n:Nat}(d:Nm)(p:Int)(row:Lx)(h:row.length=n):(Jq d p row).length=n/\ ∀c∈Jq d p row,Qh c=true:=by unfold Jq;refine⟨by simp[h],fun c hc=> ?_⟩;simp only[CF] at hc;obtain⟨j,_,rfl⟩:=hc;exact j1m _ _ _ _
theorem H1a {n:Nat}{p:Int}{k i:Nat}{x:GJ}(h:sqG n x)(hk:k<n)(hi:i<n):sqG n (I6 p k i x):=by unfold I6;split;exact h;split;exact⟨h.1.set (zT _ _ _ _ (h.1.row hi).1),h.2.set (zT _ _ _ _ (h.2.row hi).1)⟩;exact h
theorem vF {n:Nat}{p:Int}{k:Nat}{x:GJ}(h:sqG n x)(hk:k<n): ∀i,i<=n->sqG n (Jh p k x i)
 | 0,_=>h
 | i+1,hi=>by have:=vF (p:=p) h hk i oG;unfold Jh;split;exact H1a this hk oG;exact this
theorem X0j {n k:Nat}{x:GJ}(h:sqG n x)(hk:k<n):sqG n (xa n k x):=by have:=zr x.a k (n-(k+1));exact⟨h.1.swap hk oG,h.2.swap hk oG⟩
theorem X0k {n:Nat}{p:Int}{k:Nat}{x:GJ}(h:sqG n x)(hk:k<n):sqG n (VM p k x):=by unfold VM;split;exact⟨h.1.set (Hz _ _ _ (h.1.row hk).1),h.2.set (Hz _ _ _ (h.2.row hk).1)⟩;exact h
theorem H1b {n:Nat}{p:Int}{k:Nat}{x:GJ}(h:sqG n x)(hk:k<n):sqG n (WR p n k x):=by unfold WR;split;exact h;split;exact vF (X0k (X0j h hk) hk) hk n (BD _);exact X0k (X0j h hk) hk
theorem vG {n:Nat}{p:Int}{x:GJ}(h:sqG n x): ∀k,k<=n->sqG n (Xr p n x k)
 | 0,_=>h
 | k+1,hk=>by have:=vG h k oG (p:=p);unfold Xr;split;exact H1b this oG;exact this
theorem Dk (n:Nat):sqR n (XL n):=by unfold XL;refine⟨by simp,fun r hr=> ?_⟩;simp only[CF] at hr;obtain⟨i,_,rfl⟩:=hr;refine⟨by simp,fun c hc=> ?_⟩;simp only[CF] at hc;obtain⟨j,_,rfl⟩:=hc;split<;>decide
theorem Ml {a:Ly}(h:Xv a=true):sqR a.length a/\1<=a.length/\a.length<=4:=by obtain⟨h1,h2,h3⟩:=rightQ_iff.1 h;refine⟨⟨rfl,fun r hr=> ?_⟩,h2,h3⟩;obtain⟨i,hi,rfl⟩:=CM.1 hr;have:=h1 i hi;rw[q_a,BB hi] at this;have h5:ZC a[i] a.length=true:=this;unfold ZC at h5;rw[q_i,q_d] at h5;exact⟨q_b h5.2,fun c hc=>h5.1 c hc⟩
theorem Y0p {a:Ly}{p:Int}(h:(QK a p).2=0):Xv a=true/\Qt p=true/\sqR a.length (QK a p).1/\sqR a.length a/\1<=a.length/\a.length<=4/\(Xr p a.length ⟨a,XL a.length,0⟩ a.length).e=0/\(QK a p).1=(Xr p a.length ⟨a,XL a.length,0⟩ a.length).r:=by unfold QK at h⊢;split at h;rename_i hg;rw[BC hg];obtain⟨s1,s2,s3⟩:=Ml hg.1;split at h;rename_i he;rw[BC he];exact⟨hg.1,hg.2,(vG (p:=p) (x:=⟨a,XL a.length,0⟩) ⟨s1,Dk _⟩ a.length (BD _)).2,s1,s2,s3,he,rfl⟩;rename_i he;exact absurd h he;exact absurd h (by decide)
theorem z0q {a:Ly}{p:Int}(h:(ZX a p).2=0):(QK a p).2=0/\(Z6 (QK a p).1 a p).2=0/\ ¬Q9 (Z6 (QK a p).1 a p).1 oneN>=0/\(Xw (QK a p).1 (Z6 (QK a p).1 a p).1 p).2=0/\ZX a p=ZN (fun i j=>ZB (QD (QK a p).1 i j) (Xw (QK a p).1 (Z6 (QK a p).1 a p).1 p).1 p) a.length:=by unfold ZX at h⊢;split at h;rename_i hc;exact absurd h hc;rename_i c1;split at h;rename_i hc;exact absurd h hc;rename_i c2;split at h;exact absurd h (by decide);rename_i c3;split at h;rename_i hc;exact absurd h hc;rename_i c4;refine⟨BE fun h=>c1 h,BE fun h=>c2 h,c3,BE fun h=>c4 h,?_⟩;rw[BA c1,BA c2,BA c3,BA c4]
theorem Nj {x:Ly}{e:Nm}{p:Int}(h:(Xw x e p).2=0):(Qs 1 oneN e p false).2=0/\(Zj (ofM x) p).2=0/\(Qs 2 (Zj (ofM x) p).1 e p true).2=0/\Xw x e p=Ja (Qs 2 (Zj (ofM x) p).1 e p true).1 (Qs 1 oneN e p false).1 p true:=by unfold Xw at h⊢;split at h;rename_i hc;exact absurd h hc;rename_i c1;split at h;rename_i hc;exact absurd h hc;rename_i c2;split at h;rename_i hc;exact absurd h hc;rename_i c3;refine⟨BE fun h=>c1 h,BE fun h=>c2 h,BE fun h=>c3 h,?_⟩;rw[BA c1,BA c2,BA c3]
theorem Cw (F:Nat->Rat): ∀n,(∀k,k<n->0<=F k)->0<=Jy F n
 | 0,_=>CB
 | n+1,h=>by have:=Cw F n fun k hk=>h k oG;have:=h n oG;rw[Jy];grind
theorem Cv {F:Nat->Rat} : ∀ {n j:Nat},(∀k,k<n->0<=F k)->j<n->F j<=Jy F n
 | 0,j,_,hj=>absurd hj (CD _)
 | n+1,j,h,hj=>by rw[Jy];by_cases e:j=n;subst e;have:=Cw F j fun k hk=>h k oG;grind;have:=Cv (F:=F) (n:=n) (j:=j) (fun k hk=>h k oG) oG;have:=h n oG;grind
theorem Mi {lo hi:Nm}(h1:Qh lo=true)(h2:Qh hi=true)(h:qN lo<=qN hi):Qp ⟨lo,hi⟩=true:=Ig h1 h2 (cmpN_le.2 h)
theorem q1h (p:Nat):Yy p 0:=⟨0,0,(J0 0).symm,CX _⟩
theorem Ey {v:Vl}{p:Nat}{up:Bool}(hp:1<=p)(h:0<=qV v):0<=qV (QX v p up):=by
 cases up with
 | true=>exact E9 h (Yk v p)
 | false=>exact v0t hp (q1h p) h
theorem Q0c {x:Nm}(hx:Qh x=true)(h:0<=qN x):x.neg=false:=by by_cases hw:x.w= [];exact((w0b hx).2.2.2 hw).1;cases hn:x.neg;rfl;exfalso;have hm:(ofN x).m≠0:=fun e=>hw ((KO hx).1 e);rw[<-Zb] at h;have: ¬qV (ofN x)<0:=(by grind);apply this;rw[<-Do];show Ko (ofN x)<0;unfold Ko;rw[BA hm,show(ofN x).neg=true from hn];decide
theorem z0o {a:Ly}{p:Int}(h:(ZX a p).2=0):(sqR a.length a/\1<=a.length/\a.length<=4/\Qt p=true)/\(ZX a p).1.length=a.length/\ZU a.length (fun i j=>qN (QD a i j))≠0/\
 ∀i,i<a.length->((ZX a p).1.getD i []).length=a.length/\ ∀j,j<a.length->Qp (atM (ZX a p).1 i j)=true/\Ke (Y2 a.length (fun i j=>qN (QD a i j)) i j/ZU a.length (fun i j=>qN (QD a i j))) (atM (ZX a p).1 i j):=by
 obtain⟨s1,s2,s3,s4,s5⟩:=z0q h;obtain⟨a1,a2,a3,a4,a5,a6, -, -⟩:=Y0p s1;obtain⟨r1,r2,B,r3,r4⟩:=Mv a3 a4 a5 a6 s2;obtain⟨d1,d2,d3,d4⟩:=Nj s4;rw[d4] at s4;rw[s5] at h⊢;obtain⟨f1,f2⟩:=IC h;generalize hX:(QK a p).1=X at*
 generalize hE:(Z6 X a p).1=e at*
 have hp:=Ov a2;have he1:qN e<1:=by rw[yd r2 zy] at s3;have:=cmpN_lt.1 (Int.not_le.1 s3);rwa [YI] at this
 obtain⟨n1,n2,n3,n4,n5⟩:=zH d2;have hXl:(ofM X).length=a.length:=by unfold ofM;rw[BR];exact a3.1
 --the divisor
 have v1:=UA d1;have g1:=Ie (exV 1 (ofN oneN) (ofN e)) p.toNat;rw[Wg,YZ,Zb,Zb,YI,<-v1] at g1;have v3:=UA d3;have g3:=Yk (exV 2 (ofN (Zj (ofM X) p).1) (ofN e)) p.toNat;rw[Wg,xj,Zb,Zb,<-v3] at g3;have rd:=XZ 1 oneN e p false;have rq:=XZ 2 (Zj (ofM X) p).1 e p true;have g0:0<=qN (Qs 1 oneN e p false).1:=by have:=Ey (v:=exV 1 (ofN oneN) (ofN e)) (p:=p.toNat) (up:=false) hp (by rw[Wg,YZ,Zb,Zb,YI];grind);rw[v1];exact this
 have hdn:=Q0c rd g0;rw[<-d4] at s4;rw[d4] at s4;have hqu:=Np rq rd hp hdn s4;rw[<-d4] at hqu;have hq0:0<=qN (Xw X e p).1:=by
  have hpos:0<qN (Qs 1 oneN e p false).1:=by refine BE fun hne=> ?_;have hz:qN (Qs 1 oneN e p false).1=0:=(by grind);have hdef:(Qs 1 oneN e p false).1=default:=Mp rd YF (by rw[hz,YJ]);rw[hdef] at s4;unfold Ja at s4;rw[BC (show(default:Nm).w= [] from rfl)] at s4;exact absurd s4 (by decide)
  have hn0:0<=qN (Zj (ofM X) p).1*qN e:=Rat.mul_nonneg n3 r1;refine BE fun hne=> ?_;have hlt:0< -qN (Xw X e p).1:=(by grind);have:=Rat.mul_pos hlt hpos;grind
 refine⟨⟨a4,a5,a6,a2⟩,f1,?_,fun i hi=>⟨(f2 i hi).1,fun j hj=> ?_⟩⟩;exact V0n (R:=fun i k=>qN (QD X i k)) (A:=fun i j=>qN (QD a i j)) (E:=fun i j=>Jd i j-QB (fun k=>qN (QD X i k)) (fun k=>qN (QD a k j)) a.length) a6 (fun i j _ _=>rfl) B r3 r4 he1;obtain⟨q1,q2⟩:=(f2 i hi).2 j hj;have near:=U1h (R:=fun i k=>qN (QD X i k)) (A:=fun i j=>qN (QD a i j)) (E:=fun i j=>Jd i j-QB (fun k=>qN (QD X i k)) (fun k=>qN (QD a k j)) a.length) a6 (fun i j _ _=>rfl) B r3 r4 he1
  (r:=qN (Zj (ofM X) p).1) (q:=qN (Xw X e p).1) (fun i j hi hj=> ?_) ?_ hi hj
 obtain⟨m1,m2,m3,m4,m5⟩:=Cq q1 near;refine⟨?_,by rw[q2];exact m1⟩;rw[q2];have hlo:Qh (ZB (QD X i j) (Xw X e p).1 p).1.lo=true:=(by rw[m2];exact XZ _ _ _ _ _);have hhi:Qh (ZB (QD X i j) (Xw X e p).1 p).1.hi=true:=(by rw[m3];exact XZ _ _ _ _ _);exact Mi hlo hhi (E9 m1.1 m1.2);have hs:=n5 i (by rw[hXl];exact hi);rw[hXl] at hs;have hin:Xq (qN (XU (atM (ofM X) i j))) (qN (QD X i j)):=by have ht:=qZ n1 (show i<(ofM X).length by rw[hXl];exact hi) (show j<(ofM X).length by rw[hXl];exact hj);refine(vq ht ?_).1;rw[z7 (by rw[a3.1];exact hi) (by rw[(a3.row hi).1];exact hj)];exact⟨CB,CB⟩
 refine I2 hin (E9 (Cv (F:=fun k=>qN (XU (atM (ofM X) i k))) (fun k hk=> ?_) hj) hs);exact(vq (qZ n1 (show i<(ofM X).length by rw[hXl];exact hi) (show k<(ofM X).length by rw[hXl];exact hk)) (V1v (qZ n1 (show i<(ofM X).length by rw[hXl];exact hi) (show k<(ofM X).length by rw[hXl];exact hk)))).2;have h1:qN (Xw X e p).1*qN (Qs 1 oneN e p false).1<=qN (Xw X e p).1*(1-qN e):=Rat.mul_le_mul_of_nonneg_left g1 hq0;grind
theorem Cm {β:Type}{G:Nat->β×Int} : ∀(k i:Nat) (acc:List β),(Qv G i k acc).2≠0->(Qv G i k acc).1= []
 | 0,i,acc,h=>absurd rfl h
 | k+1,i,acc,h=>by unfold Qv at h⊢;split at h;rename_i hc;rw[BC hc];rename_i hc;rw[BA hc];exact Cm k _ _ h
theorem V1c {a b:Mx}{p:Int}(h:(Zc a b p).2=0):rightM (Zc a b p).1=true/\(Zc a b p).1.length=a.length:=by obtain⟨⟨r1,r2,r3,r4⟩,m1,m2⟩:=Q0g h;have:=Jl r1;refine⟨rightM_iff.2 ⟨fun i hi=> ?_,oG,oG⟩,m1⟩;rw[m1] at hi⊢;refine⟨(m2 i hi).1,GV (fun j hj=> ?_) (by rw[(m2 i hi).1];omega) (by rw[(m2 i hi).1];omega)⟩;rw[(m2 i hi).1] at hj;have:=((m2 i hi).2 j hj).2;unfold atM at this;rw[this];exact IL _ _ _ _
theorem w0w {X:Ly}{e:Nm}{p:Int}(hp:Qt p=true)(r1:0<=qN e)(he1:qN e<1)(h:(Xw X e p).2=0):0<=qN (Xw X e p).1/\Qh (Xw X e p).1=true:=by
 obtain⟨d1,d2,d3,d4⟩:=Nj h;have hpp:=Ov hp;obtain⟨n1,n2,n3,n4,n5⟩:=zH d2;have v1:=UA d1;have v3:=UA d3;have g3:=Yk (exV 2 (ofN (Zj (ofM X) p).1) (ofN e)) p.toNat;rw[Wg,xj,Zb,Zb,<-v3] at g3;have rd:=XZ 1 oneN e p false;have rq:=XZ 2 (Zj (ofM X) p).1 e p true;have g0:0<=qN (Qs 1 oneN e p false).1:=by have:=Ey (v:=exV 1 (ofN oneN) (ofN e)) (p:=p.toNat) (up:=false) hpp (by rw[Wg,YZ,Zb,Zb,YI];grind);rw[v1];exact this
 have hdn:=Q0c rd g0;rw[d4] at h⊢;refine⟨?_,Nq _ _ _ _⟩;have hqu:=Np rq rd hpp hdn h;have hpos:0<qN (Qs 1 oneN e p false).1:=by refine BE fun hne=> ?_;have hz:qN (Qs 1 oneN e p false).1=0:=(by grind);have hdef:(Qs 1 oneN e p false).1=default:=Mp rd YF (by rw[hz,YJ]);rw[hdef] at h;unfold Ja at h;rw[BC (show(default:Nm).w= [] from rfl)] at h;exact absurd h (by decide)
 have hn0:0<=qN (Zj (ofM X) p).1*qN e:=Rat.mul_nonneg n3 r1;refine BE fun hne=> ?_;have hlt:0< -qN (Ja (Qs 2 (Zj (ofM X) p).1 e p true).1 (Qs 1 oneN e p false).1 p true).1:=(by grind);have:=Rat.mul_pos hlt hpos;grind
theorem z0n {y q:Nm}{p:Int}(hq:0<=qN q)(h1:(Qs 1 y q p false).2=0)(h2:(Qs 0 y q p true).2=0):Qp ⟨(Qs 1 y q p false).1,(Qs 0 y q p true).1⟩=true:=by
 have hs:(ZB y q p).2=0:=by unfold ZB;rw[BA (by rw[h1,h2];simp)]
 have hm:=(Cq (X:=qN y) hs ⟨by grind,by grind⟩).1;have he:(ZB y q p).1=⟨(Qs 1 y q p false).1,(Qs 0 y q p true).1⟩:=(by unfold ZB;rw[BA (by rw[h1,h2];simp)]);rw[he] at hm;exact Mi (XZ _ _ _ _ _) (XZ _ _ _ _ _) (E9 hm.1 hm.2)
def Kg (G:Nat->Nat->Ivl×Int)(n:Nat):Mx:=(List.range n).map fun i=>(List.range n).map fun j=>(G i j).1
theorem q1p {G:Nat->Nat->Ivl×Int}{n:Nat}(h: ∀i j,i<n->j<n->(G i j).2=0):ZN G n=(Kg G n,0):=by have h0:=q1o h;obtain⟨f1,f2⟩:=IC h0;refine Prod.ext ?_ h0;show(ZN G n).1=Kg G n;refine C9 (by rw[f1];simp[Kg]) fun i h1 h2=> ?_;have hi:i<n:=(by rw[f1] at h1;exact h1);have e1:(ZN G n).1[i]=(ZN G n).1.getD i []:=(by rw[q_a,BB h1];rfl);have e2:(Kg G n)[i]=(List.range n).map fun j=>(G i j).1:=(by simp[Kg]);rw[e1,e2];refine C9 (by rw[(f2 i hi).1];simp) fun j h3 h4=> ?_;have hj:j<n:=(by rw[(f2 i hi).1] at h3;exact h3);have e3:=((f2 i hi).2 j hj).2;unfold atM at e3;rw[q_a,BB h3,D9] at e3;rw[e3,List.getElem_map,List.getElem_range]
theorem q1q {G:Nat->Nat->Ivl×Int}{n i j:Nat}{e:Int}(he:e≠0)(hG: ∀i j,(G i j).2=0\/(G i j).2=e)(hi:i<n)(hj:j<n)(h:(G i j).2=e):ZN G n=([],e):=by
 have hne:(ZN G n).2≠0:=fun h0=>by have:=((IC h0).2 i hi).2 j hj;rw[this.1] at h;exact he h.symm
 have key: ∀ {β:Type} (F:Nat->β×Int) (k i:Nat) (acc:List β),(∀j,(F j).2=0\/(F j).2=e)->(Qv F i k acc).2=0\/Qv F i k acc=([],e):=by
  intro β F k
  induction k with
  | zero=>intro i acc _;exact .inl rfl
  | succ k ih=>
   intro i acc hF;unfold Qv;split;rename_i hc;exact .inr (by rw[(hF i).resolve_left hc]);exact ih _ _ hF
 refine(key _ _ _ _ fun j=> ?_).resolve_left hne;rcases key (fun j'=>G j j') n 0 [] (hG j) with h | h;exact .inl h;exact .inr (by rw[h])
def bdR (n S:Nat)(l:List Nm):Prop:= ∀j,j<n->luQ S S (qN (l.getD j default))
def bdQ (n S:Nat)(a:List (List Nm)):Prop:= ∀i,i<n->bdR n S (a.getD i [])
theorem bdR.mono {n S T:Nat}{l:Lx}(h:bdR n S l)(hl:S<=T):bdR n T l:=fun j hj=>(h j hj).mono hl hl
theorem bdQ.mono {n S T:Nat}{a:Ly}(h:bdQ n S a)(hl:S<=T):bdQ n T a:=fun i hi=>(h i hi).mono hl
theorem z0p {a:Ly}{p:Int}(h:(ZX a p).2=0):rightM (ZX a p).1=true:=by obtain⟨⟨-,h1,h4, -⟩,hl, -,hs⟩:=z0o h;refine rightM_iff.2 ⟨fun i hi=> ?_,oG,oG⟩;rw[hl] at hi⊢;refine⟨(hs i hi).1,GV (fun j hj=> ?_) (by rw[(hs i hi).1];omega) (by rw[(hs i hi).1];omega)⟩;rw[(hs i hi).1] at hj;exact((hs i hi).2 j hj).1
def VT (u v:List Nm)(p:Int)(i:Nat)(acc:Nm):Nm×Int:=
 if (Qs 2 (u.getD i default) (v.getD i default) p false).2=0/\0<i then Qs 0 acc (Qs 2 (u.getD i default) (v.getD i default) p false).1 p false else Qs 2 (u.getD i default) (v.getD i default) p false
def WU (u v:List Nm)(p:Int):Nat->Nat->Nm->Nm×Int
 | _,0,acc=>(acc,0)
 | i,k+1,acc=>if (VT u v p i acc).2≠0 then(default,(VT u v p i acc).2) else WU u v p (i+1) k (VT u v p i acc).1
theorem j1c (u v:Lx)(p:Int){i n:Nat}(h:i<n)(acc:Nm):WU u v p i (n-i) acc=if (VT u v p i acc).2≠0 then(default,(VT u v p i acc).2) else WU u v p (i+1) (n-(i+1)) (VT u v p i acc).1:=by rw[show n-i=(n-(i+1))+1 from oG,WU]
theorem j1d (u v:Lx)(p:Int)(n:Nat)(acc:Nm):WU u v p n (n-n) acc=(acc,0):=by rw[DD];rfl
def K3 (u v:List Nm)(p:Int):Nm×Int:=WU u v p 0 u.length default
theorem K0v (u v:Lx)(p:Int)(i:Nat)(acc:Nm):Qh (VT u v p i acc).1=true:=by unfold VT;split<;>exact XZ _ _ _ _ _
theorem K0y (u v:Lx)(p:Int): ∀(k i:Nat) (acc:Nm),Qh acc=true->Qh (WU u v p i k acc).1=true
 | 0,_,_,h=>h
 | k+1,i,acc,h=>by unfold WU;split;rfl;exact K0y u v p k _ _ (K0v _ _ _ _ _)
theorem V0c (u v:Lx)(p:Int):Qh (K3 u v p).1=true:=K0y _ _ _ _ _ _ rfl
def rowR (n:Nat)(v:List Nm):Prop:=v.length=n/\ ∀c∈v,Qh c=true
theorem rowR.at {n:Nat}{v:Lx}(h:rowR n v)(i:Nat):Qh (v.getD i default)=true:=by by_cases hi:i<v.length;exact h.2 _ (Q8 _ _ _ hi);rw[q_a,C2 oG];rfl
def Vy (v u:List Nm)(p:Int):List Nm×Int:=
 if (K3 u v p).2≠0 then([],(K3 u v p).2) else if (K3 u u p).2≠0 then([],(K3 u u p).2)
 else if (Ja (K3 u v p).1 (K3 u u p).1 p false).2≠0 then([],(Ja (K3 u v p).1 (K3 u u p).1 p false).2)
 else Qv (fun i=>KM (v.getD i default) (Ja (K3 u v p).1 (K3 u u p).1 p false).1 (u.getD i default) p) 0 v.length []
theorem Ck {G:Nat->Nm×Int}{n:Nat}(hg: ∀i,Qh (G i).1=true)(h:(Qv G 0 n []).2=0):rowR n (Qv G 0 n []).1:=
 ⟨(KA h).1,KS (fun x=>Qh x=true) n 0 [] (fun j _ _=>hg j) (fun x hx=>by cases hx)⟩
theorem Z0j {v u:Lx}{n:Nat}{p:Int}(hv:rowR n v)(h:(Vy v u p).2=0):rowR n (Vy v u p).1:=by unfold Vy at h⊢;split at h;rename_i c;exact absurd h c;rename_i c;rw[BA c];split at h;rename_i c;exact absurd h c;rename_i c;rw[BA c];split at h;rename_i c;exact absurd h c;rename_i c;rw[BA c];have:=Ck (fun i=>Y0o _ _ _ _) h;rwa [hv.1] at this⊢
def Vf (v:List Nm):Nat->Nm
 | 0=>default
 | i+1=>if Q9 (Km (v.getD i default)) (Vf v i)>0 then Km (v.getD i default) else Vf v i
theorem j3 (v:Lx): ∀i,Qh (Vf v i)=true
 | 0=>rfl
 | i+1=>by unfold Vf;split;exact qj _;exact j3 v i
def j4 (v:List Nm):Nm:=Vf v v.length
def U0 (t:Nm):Int:= -t.exp-(QF t.w:Nat)
def U4 (v:List Nm):List Nm×Int:=if (j4 v).w= [] then([],3) else Qv (fun i=>Z5 (v.getD i default) (U0 (j4 v))) 0 v.length []
theorem k0t {v:Lx}{n:Nat}(hv:rowR n v)(h:(U4 v).2=0):rowR n (U4 v).1:=by unfold U4 at h⊢;split at h;exact absurd h (by decide);rename_i c;rw[BA c];have:=Ck (fun i=>qR _ _) h;rwa [hv.1] at this⊢
def Vd (made:List (List Nm))(p:Int):Nat->Nat->List Nm->List Nm×Int
 | _,0,v=>(v,0)
 | i,k+1,v=>if (Vy v (made.getD i []) p).2≠0 then([],(Vy v (made.getD i []) p).2) else Vd made p (i+1) k (Vy v (made.getD i []) p).1
theorem H0r (made:Ly)(p:Int){i n:Nat}(h:i<n)(v:Lx):Vd made p i (n-i) v=if (Vy v (made.getD i []) p).2≠0 then([],(Vy v (made.getD i []) p).2) else Vd made p (i+1) (n-(i+1)) (Vy v (made.getD i []) p).1:=by rw[show n-i=(n-(i+1))+1 from oG,Vd]
theorem H0s (made:Ly)(p:Int)(n:Nat)(v:Lx):Vd made p n (n-n) v=(v,0):=by rw[DD];rfl
theorem Bl {made:Ly}{n:Nat}{p:Int} : ∀(k i:Nat) (v:Lx),rowR n v->(Vd made p i k v).2=0->rowR n (Vd made p i k v).1
 | 0,_,_,h,_=>h
 | k+1,i,v,hv,h=>by unfold Vd at h⊢;split at h;rename_i c;exact absurd h c;rename_i c;rw[BA c];exact Bl k _ _ (Z0j hv (C8.1 c)) h
def KP (v:List Nm)(made:List (List Nm))(p:Int):List Nm×Int:=
 if (Vd made p 0 made.length v).2≠0 then([],(Vd made p 0 made.length v).2) else U4 (Vd made p 0 made.length v).1
theorem Bm {v:Lx}{made:Ly}{n:Nat}{p:Int}(hv:rowR n v)(h:(KP v made p).2=0):rowR n (KP v made p).1:=by unfold KP at h⊢;split at h;rename_i c;exact absurd h c;rename_i c;rw[BA c];exact k0t (Bl _ _ _ hv (C8.1 c)) h
def JO (a:List (List Nm))(j:Nat):List Nm:=(List.range a.length).map fun i=>QD a i j
theorem W0c {a:Ly}(h:Xv a=true){j:Nat}(hj:j<a.length):rowR a.length (JO a j):=by refine⟨by simp[JO],fun c hc=> ?_⟩;simp only[JO,CF] at hc;obtain⟨i,hi,rfl⟩:=hc;rw[E0] at hi;have:=(rightQ_iff.1 h).1 i hi;unfold ZC at this;rw[q_i] at this;refine(Y4 _ Qh).1 this.1 j ?_;have:=q_b this.2;omega
def J9 (a:List (List Nm))(p:Int):Nat->Nat->List (List Nm)->List (List Nm)×Int
 | _,0,made=>(made,0)
 | j,k+1,made=>if (KP (JO a j) made p).2≠0 then([],(KP (JO a j) made p).2) else J9 a p (j+1) k (made++ [(KP (JO a j) made p).1])
theorem k1z (a:Ly)(p:Int){i n:Nat}(h:i<n)(made:Ly):J9 a p i (n-i) made=if (KP (JO a i) made p).2≠0 then([],(KP (JO a i) made p).2) else J9 a p (i+1) (n-(i+1)) (made++ [(KP (JO a i) made p).1]):=by rw[show n-i=(n-(i+1))+1 from oG,J9]
theorem v1a (a:Ly)(p:Int)(n:Nat)(made:Ly):J9 a p n (n-n) made=(made,0):=by rw[DD];rfl
def U5 (n:Nat)(cols:List (List Nm)):List (List Nm):=(List.range n).map fun i=>cols.map fun c=>c.getD i default
def Jj (a:List (List Nm))(p:Int):List (List Nm)×Int:=
 if Xv a=true/\Qt p=true then(if (J9 a p 0 a.length []).2≠0 then([],(J9 a p 0 a.length []).2) else(U5 a.length (J9 a p 0 a.length []).1,0)) else([],1)
theorem W0b {a:Ly}{p:Int}(ha:Xv a=true): ∀(k j:Nat) (made:Ly),j+k<=a.length->made.length=j->(∀c∈made,rowR a.length c)->(J9 a p j k made).2=0->(J9 a p j k made).1.length=j+k/\ ∀c∈(J9 a p j k made).1,rowR a.length c
 | 0,j,made,_,hl,hm,_=>⟨hl,hm⟩
 | k+1,j,made,hj,hl,hm,h=>by unfold J9 at h⊢;split at h;rename_i c;exact absurd h c;rename_i c;rw[BA c];have h0:=C8.1 c;have:=W0b ha k (j+1) (made++ [(KP (JO a j) made p).1]) oG (by simp;omega) (fun x hx=>by rcases DN.1 hx with hx | hx;exact hm x hx;rw[C0.1 hx];exact Bm (W0c ha oG) h0) h;exact⟨by rw[this.1];omega,this.2⟩
theorem V0y {a:Ly}{p:Int}(h:(Jj a p).2=0):Xv a=true/\Qt p=true/\(J9 a p 0 a.length []).2=0/\(Jj a p).1=U5 a.length (J9 a p 0 a.length []).1:=by unfold Jj at h⊢;split at h;rename_i c;rw[BC c];split at h;rename_i c2;exact absurd h c2;rename_i c2;rw[BA c2];exact⟨c.1,c.2,C8.1 c2,rfl⟩;exact absurd h (by decide)
theorem k1x {a:Ly}{p:Int}(h:(Jj a p).2=0):sqR a.length (Jj a p).1:=by obtain⟨h1,h2,h3,h4⟩:=V0y h;rw[h4];obtain⟨q1,q2⟩:=W0b h1 a.length 0 [] oG rfl (fun c hc=>by cases hc) h3;refine⟨by simp[U5],fun r hr=> ?_⟩;simp only[U5,CF] at hr;obtain⟨i,_,rfl⟩:=hr;refine⟨by simp[q1],fun c hc=> ?_⟩;simp only[CF] at hc;obtain⟨l,hl,rfl⟩:=hc;exact(q2 l hl).at i
def luR (L U:Nat)(v:List Nm):Prop:= ∀i,luQ L U (qN (v.getD i default))
theorem luR.mono {L U L' U':Nat}{v:Lx}(h:luR L U v)(hl:L<=L')(hu:U<=U'):luR L' U' v:=fun i=>(h i).mono hl hu
def Kz (f:Fm)(p:Int):List Ivl×Int:=
 if X4 f=true/\Qt p=true then(if (Xt (ofM f.a) f.r p).2≠0 then([],(Xt (ofM f.a) f.r p).2) else opB 0 (ofB f.m) (Xt (ofM f.a) f.r p).1 p) else([],1)
def VI (c:Mx)(p:Int):(List (List Nm)×Mx)×Int:=
 if (KX c p).2≠0 then(([],[]),(KX c p).2)
 else if (Jj (KX c p).1 p).2≠0 then(([],[]),(Jj (KX c p).1 p).2)
 else(((Jj (KX c p).1 p).1,(ZX (Jj (KX c p).1 p).1 p).1),(ZX (Jj (KX c p).1 p).1 p).2)
def JE (c:Mx)(p:Int):(List (List Nm)×Mx)×Int:=if (VI c p).2=3 then((UI c.length,idM c.length),0) else VI c p
def Ym (v c:Mx)(r z:List Ivl)(p:Int):List Ivl×Int:=
 if (Zc v c p).2≠0 then([],(Zc v c p).2)
 else if (Xt (Zc v c p).1 r p).2≠0 then([],(Xt (Zc v c p).1 r p).2)
 else if (Xt v z p).2≠0 then([],(Xt v z p).2)
 else opB 0 (Xt (Zc v c p).1 r p).1 (Xt v z p).1 p
def Iw (f:Fm)(m:List Nm)(c:Mx)(t:List (List Nm)×Mx)(d:List Ivl)(p:Int):Fm×Int:=
 if (Ym t.2 c f.r d p).2≠0 then(default,(Ym t.2 c f.r d p).2) else(⟨m,t.1,(Ym t.2 c f.r d p).1⟩,0)
def zK (f:Fm)(z:List Ivl)(m:List Nm)(c:Mx)(t:List (List Nm)×Mx)(p:Int):Fm×Int:=
 if (opB 1 z (ofB m) p).2≠0 then(default,(opB 1 z (ofB m) p).2) else Iw f m c t (opB 1 z (ofB m) p).1 p
def zJ (f:Fm)(z:List Ivl)(m:List Nm)(c:Mx)(p:Int):Fm×Int:=
 if (JE c p).2≠0 then(default,(JE c p).2) else zK f z m c (JE c p).1 p
def zL (f:Fm)(z:List Ivl)(s:Mx)(m:List Nm)(p:Int):Fm×Int:=
 if (Zc s (ofM f.a) p).2≠0 then(default,(Zc s (ofM f.a) p).2) else zJ f z m (Zc s (ofM f.a) p).1 p
def Ix (f:Fm)(z:List Ivl)(s:Mx)(p:Int):Fm×Int:=
 if (Zk z p).2≠0 then(default,(Zk z p).2) else zL f z s (Zk z p).1 p
def Hg (f:Fm)(z:List Ivl)(s:Mx)(p:Int):Bool:=X4 f&&rightB z&&rightM s&&decide (z.length=f.m.length)&&decide (s.length=f.m.length)&&Qt p
def Vr (f:Fm)(z:List Ivl)(s:Mx)(p:Int):Fm×Int:=if Hg f z s p=true then Ix f z s p else(default,1)
theorem K1l {f:Fm}{z:Li}{s:Mx}{p:Int}(h:Hg f z s p=true):X4 f=true/\rightB z=true/\rightM s=true/\z.length=f.m.length/\s.length=f.m.length/\Qt p=true:=by unfold Hg at h;simp only[q_i,BN] at h;exact⟨h.1.1.1.1.1,h.1.1.1.1.2,h.1.1.1.2,h.1.1.2,h.1.2,h.2⟩
structure Sz where
 h:Nm
 a:List Ivl
 first:Bool
instance : Inhabited Sz:=⟨⟨default,[],false⟩⟩
def KU (p:Pb)(s:Sx):Bool:=We p&&decide (0<=s.idx)&&decide (s.idx<=p.budget)&&(Qh s.t&& !s.t.neg&&decide (Q9 s.t p.until'<=0))&&(Qh s.h&&decide (Q9 p.least s.h<=0)&&decide (Q9 s.h p.most<=0))&&X4 s.f&&decide (s.f.m.length=p.box.length)
def Ww (p:Pb)(s:Sx):Bool:=KU p s&&decide (Q9 s.t p.until'=0)
def Uz (p:Pb)(x:List Ivl):Nat->Nm->Bool->Sz×Int
 | 0,_,_=>(default,7)
 | n+1,h,b=>if (VV p.fld x h p.prec).2=true then(⟨h,(VV p.fld x h p.prec).1,b⟩,0) else
  if (Z5 h (-1)).2≠0 then(default,(Z5 h (-1)).2) else if Q9 (Z5 h (-1)).1 p.least<0 then(default,7) else Uz p x n (Z5 h (-1)).1 false
def YY (p:Pb)(s:Sx):Nm:=if Q9 s.h (Za 1 p.until' s.t).1<0 then s.h else(Za 1 p.until' s.t).1
def Wc (K:Nat)(p:Pb)(s:Sx)(x:List Ivl):Sz×Int:=if (Za 1 p.until' s.t).2≠0 then(default,(Za 1 p.until' s.t).2) else Uz p x K (YY p s) true
def WA (l far:List (List Ivl))(k:Nat):List (List Ivl):=(List.range l.length).map fun i=>l.getD i []++ [(far.getD i []).getD k default]
def H6 (p:Pb)(t:Sz)(l far:List (List Ivl)×Int):List Ivl×Int:=
 if l.2≠0 then([],l.2) else if far.2≠0 then([],far.2) else W6 (WA l.1 far.1 p.order.toNat) ⟨t.h,t.h⟩ p.prec
def VU (p:Pb)(m:List Nm)(t:Sz):List Ivl×Int:=H6 p t (Zx p.fld (ofB m) (p.order-1) p.prec) (Zx p.fld t.a p.order p.prec)
def jG (p:Pb)(t:Sz)(l:List Mx×Int):Mx×Int:=if l.2≠0 then([],l.2) else Yf l.1 ⟨t.h,t.h⟩ p.prec
def W7 (p:Pb)(x:List Ivl)(t:Sz):Mx×Int:=jG p t (K9 p.fld x (p.order-1) p.prec)
def W3 (p:Pb)(h:Nm):Nm:=if Q9 h p.least<0 then p.least else if 0<Q9 h p.most then p.most else h
def VZ (p:Pb)(t:Sz):Nm×Int:=if t.first=true then(if (Z5 t.h 1).2≠0 then(default,(Z5 t.h 1).2) else(W3 p (Z5 t.h 1).1,0)) else(W3 p t.h,0)
def xF (s:Sx)(f:Fm)(to:Nm)(h:Nm×Int):Sx×Int:=if h.2≠0 then(default,h.2) else(⟨s.idx+1,to,h.1,f⟩,0)
def xH (p:Pb)(s:Sx)(t:Sz)(f:Fm)(to:Nm×Int):Sx×Int:=if to.2≠0 then(default,to.2) else xF s f to.1 (VZ p t)
def xI (p:Pb)(s:Sx)(t:Sz)(f:Fm×Int):Sx×Int:=if f.2≠0 then(default,f.2) else xH p s t f.1 (Za 0 s.t t.h)
def xG (p:Pb)(s:Sx)(t:Sz)(z:List Ivl)(v:Mx×Int):Sx×Int:=if v.2≠0 then(default,v.2) else xI p s t (Vr s.f z v.1 p.prec)
def xE (p:Pb)(s:Sx)(x:List Ivl)(t:Sz)(z:List Ivl×Int):Sx×Int:=if z.2≠0 then(default,z.2) else xG p s t z.1 (W7 p x t)
def Uh (p:Pb)(s:Sx)(x:List Ivl)(t:Sz):Sx×Int:=xE p s x t (VU p s.f.m t)
def GD (e:Int):Sg×Sx×Int:=(default,default,e)
def kX (s:Sx)(t:Sz)(n:Sx×Int):Sg×Sx×Int:=if n.2≠0 then GD n.2 else(⟨n.1.idx,n.1.idx,s.t,n.1.t,t.a⟩,n.1,0)
def kU (p:Pb)(s:Sx)(x:List Ivl)(t:Sz×Int):Sg×Sx×Int:=if t.2≠0 then GD t.2 else kX s t.1 (Uh p s x t.1)
def kV (K:Nat)(p:Pb)(s:Sx)(x:List Ivl×Int):Sg×Sx×Int:=if x.2≠0 then GD x.2 else kU p s x.1 (Wc K p s x.1)
def Wj (K:Nat)(p:Pb)(s:Sx):Sg×Sx×Int:=
 if KU p s=false then GD 1 else if Ww p s=true then GD 9 else if s.idx=p.budget then GD 8 else kV K p s (Kz s.f p.prec)
theorem rightPb_parts {p:Pb} :We p=true<->Xh p.fld=true/\rightB p.box=true/\p.box.length=p.fld.length/\Qh p.until'=true/\Qh p.most=true/\Qh p.least=true/\0<Q9 p.until' default/\0<Q9 p.least default/\0<=Q9 p.most p.least/\Qt p.prec=true/\2<=p.order/\p.order<=10/\1<=p.budget/\p.budget<=4096:=by unfold We;simp only[q_i,BN,and_assoc]
theorem rightSt_parts {p:Pb}{s:Sx} :KU p s=true<->We p=true/\0<=s.idx/\s.idx<=p.budget/\(Qh s.t=true/\s.t.neg=false/\Q9 s.t p.until'<=0)/\(Qh s.h=true/\Q9 p.least s.h<=0/\Q9 s.h p.most<=0)/\X4 s.f=true/\s.f.m.length=p.box.length:=by unfold KU;simp only[q_i,BN,EL,and_assoc]
theorem Uw (k:Nat)(a b:Nm):Qh (Za k a b).1=true:=by unfold Za;split;rename_i h;exact JZ (K5 (Gk k (Js h.1) (Js h.2)));exact Yl
theorem Kq :Qh (default:Nm)=true:=by decide
theorem G1l {h:Nm}(e:(Z5 h (-1)).2=0):qN (Z5 h (-1)).1*2=qN h:=by have:=(k0r (x:=h) (k:=1) e).2;rwa [show p2 ((1:Nat):Int)=2 from Rp] at this
theorem IR {x y:Nm}(hx:Qh x=true)(hy:Qh y=true):Q9 x y<0<->qN x<qN y:=by rw[IQ hx hy];exact cmpN_lt
theorem ye {x y:Nm}(hx:Qh x=true)(hy:Qh y=true):Q9 x y<=0<->qN x<=qN y:=by rw[IQ hx hy];exact cmpN_le
theorem yg {x y:Nm}(hx:Qh x=true)(hy:Qh y=true):Q9 y x= -Q9 x y:=by rw[IQ hx hy,IQ hy hx];exact xx x y
theorem yf {x y:Nm}(hx:Qh x=true)(hy:Qh y=true):0<Q9 x y<->qN y<qN x:=by have:=IR hy hx;have:=yg hx hy;constructor;intro h;exact(IR hy hx).1 oG;intro h;have:=(IR hy hx).2 h;omega
def vV (p:Pb)(K:Nat):Prop:=qN p.most<qN p.least*p2 (K:Int)
set_option maxRecDepth 100000
open Go.Proofs
set_option maxHeartbeats 4000000 in
theorem X1l (a:Ly)(st:Qd)(hw:wQs a):PR 318 [.sl .no (QL a)] st (.sc (.bool (Xv a))):=by
 obtain⟨hl,hw⟩:=hw;refine Qj Tryz.func318 fun E=> ?_;refine Q3 [true,false,false,false,false,false,false,true,true,true] 0 0 (fun n s=> ∃i,n=a.length-i/\i<=a.length/\(∀j,j<i->ZC (a.getD j []) a.length=true)/\s=⟨[.sl .no (QL a),.junk,.junk,.junk,.junk,.junk,.junk,.sl .no (QL a),.sc (.int .i64 a.length),.sc (.int .i64 (i:Nat))]++jk 27,[],[],st⟩) a.length ?_ ?_;refine Qr ?_;exact⟨0,oG,oG,fun j hj=>oG,rfl⟩;rintro n s ⟨i,rfl,hi,hr,rfl⟩;refine QM ?_ ?_<;>intro h;have hlt:i<a.length:=(oT h);have e1:=Wt a i hlt;have e3:=QN i oG;have wi:=hw i hlt;have wil:=wi.1;simp-dsimp only[go_sem,e1];refine⟨oG,?_⟩;refine ck ?_ ?_<;>intro h2;have hn:=WK h2;refine Qr ?_;have:Xv a=false:=CS.2 fun e=>hn (by have:=(rightQ_iff.1 e).1 i hlt;unfold ZC at this;simp at this;exact this.2);rw[this];have hn:=Vs h2;refine Qr ?_;refine Q3 ([true,false,false,false,false,false,false,true,true,true]++rF 8++ [true,true,true]) 0 0 (fun n s=> ∃k,n=(a.getD i []).length-k/\k<=(a.getD i []).length/\(∀j,j<k->Qh ((a.getD i []).getD j default)=true)/\s=⟨[.sl .no (QL a),.junk,.junk,.junk,.junk,.junk,.junk,.sl .no (QL a),.sc (.int .i64 a.length),.sc (.int .i64 (i:Nat))]++jk 8++ [.sl .no (Qy (a.getD i [])),.sc (.int .i64 (a.getD i []).length),.sc (.int .i64 (k:Nat))]++jk 16,[],[],st⟩) (a.getD i []).length ?_ ?_;refine Qr ?_;exact⟨0,oG,oG,fun j hj=>oG,rfl⟩;rintro n s ⟨k,rfl,hk,hrk,rfl⟩;refine QM ?_ ?_<;>intro h5;have hklt:k<(a.getD i []).length:=(oT h5);have e2:=JN (a.getD i []) k hklt;have e4:=QN k oG;have wk:=wi.2 k hklt;unfold wN at wk;simp-dsimp only[go_sem,e2];refine⟨oG,?_⟩;refine(XE _ st oG).Q ?_;refine ck ?_ ?_<;>intro h6;have hf:Qh ((a.getD i []).getD k default)=false:=(by simpa using h6);refine Qr ?_;have:Xv a=false:=CS.2 fun e=>by have:=(rightQ_iff.1 e).1 i hlt;unfold ZC at this;rw[q_i] at this;rw[(Y4 _ Qh).1 this.1 k hklt] at hf;cases hf
 rw[this];have ht:Qh ((a.getD i []).getD k default)=true:=(by simpa using h6);simp-dsimp only[go_sem,e4];refine⟨(a.getD i []).length-(k+1),oG,k+1,rfl,oG,fun j hj=> ?_,rfl⟩;by_cases e:j=k;subst e;exact ht;exact hrk j oG;have hge:k=(a.getD i []).length:=(oF h5);refine Qr ?_;refine Qb ?_;simp-dsimp only[go_sem,e3];refine⟨a.length-(i+1),oG,i+1,rfl,oG,fun j hj=> ?_,rfl⟩;by_cases e:j=i;subst e;unfold ZC;rw[q_i];exact⟨(Y4 _ Qh).2 fun b hb=>hrk b oG,q_h hn⟩;exact hr j oG
 . have hge:i=a.length:=oF h
   subst hge;refine Qr ?_;refine Qq ?_;have fin:Xv a=(decide ((a.length:Int)>=1)&&decide ((a.length:Int)<=4)):=by rw[E6,rightQ_iff,q_i,D0,D0];exact⟨fun h=>⟨oG,oG⟩,fun h=>⟨hr,oG,oG⟩⟩
   rw[fin];refine gkT ?_ ?_<;>intro h1
   . simp-dsimp only[go_sem,h1]
     try rfl
   . simp-dsimp only[go_sem,h1]
     try rfl
theorem Ur {n:Nat}{v:Lx}(h:rowR n v): ∀i,wN (v.getD i default):=fun i=>QC (h.at i)
set_option maxHeartbeats 8000000 in
theorem Sd (u v:Lx)(n:Nat)(p:Int)(st:Qd)(hu:rowR n u)(hv:rowR n v)(hn:n<=4):PR 374 [.sl .no (Qy u),.sl .no (Qy v),.sc (.int .i64 p)] st (.tup [.agg (Qg (K3 u v p).1),.sc (.int .i64 (K3 u v p).2)]):=by
 have hlu:=hu.1;have hlv:=hv.1;refine Ql none Tryz.func374 rfl fun E=>Qb ?_;unfold K3;rw[hlu];generalize hT:WU u v p 0 n default=T;simp-dsimp only[go_sem,hlu];refine Vm 1 ?_;refine Qr ?_;refine Q3 [true,true,true,false,false,false,true,false,true,false,false,false,false,true,true] 2 0
  (fun m s=> ∃(i:Nat) (acc:Nm),m=n-i/\i<=n/\Qh acc=true/\(i=0->acc=default)/\T=WU u v p i (n-i) acc/\
   s=⟨[.sl .no (Qy u),.sl .no (Qy v),.sc (.int .i64 p),.junk,.junk,.junk,.lp 0 0,.junk,.lp 1 0,.junk,.junk,.junk,.junk,.sc (.int .i64 n),.sc (.int .i64 (i:Nat))]++jk 35,
   [[.sc (.bool false),.sc (.int .i64 0),.sl .full []],Qg acc],[],st⟩) n ?_ ?_
 refine Qr ?_;exact⟨0,default,oG,oG,rfl,fun _=>rfl,hT.symm,rfl⟩;rintro m s ⟨i,acc,rfl,hi,har,h00,hr,rfl⟩;refine QM ?_ ?_<;>intro h;rotate_left;have hge:i=n:=(oF h);subst hge;rw[j1d] at hr;rw[hr];refine Qr ?_;refine Qb ?_;exact QA;have hlt:i<n:=(oT h);have g1:=JN u i oG;have g2:=JN v i oG;have e3:=QN i oG;rw[j1c u v p hlt acc] at hr;have hx:VT u v p i acc=if (Qs 2 (u.getD i default) (v.getD i default) p false).2=0/\0<i then Qs 0 acc (Qs 2 (u.getD i default) (v.getD i default) p false).1 p false else Qs 2 (u.getD i default) (v.getD i default) p false:=rfl;refine Qr ?_;refine Q5 50 (Qi [0,1,2,3,4,5,6,7,8] (.alt (Qi [9,10,11,12] (.step 13 [3,7] (.step 14 [] (.step 15 [] (.done))))) (.step 13 [3,7] (Qi [9,10,11,12,14,15] .done)))) ?_;simp-dsimp only[go_sem,hlu,hlv,g1,g2];refine⟨oG,oG,And.intro ?_ ?_⟩
 all_goals
  refine(If (u.getD i default) (v.getD i default) p false _ (Ur hu i) (Ur hv i)).q ?_;have hmr:=XZ 2 (u.getD i default) (v.getD i default) p false;by_cases hm:(Qs 2 (u.getD i default) (v.getD i default) p false).2=0;by_cases h0:0<i
  . rw[BC ⟨hm,h0⟩] at hx;have z1:((Qs 2 (u.getD i default) (v.getD i default) p false).2==0)=true:=(by rw[hm];rfl);have z2:decide ((i:Int)>0)=true:=q_h oG;generalize (Qs 2 (u.getD i default) (v.getD i default) p false)=Z at*
    simp-dsimp only[go_sem,z1,z2];refine(qY acc Z.1 p false _ (QC har) (QC hmr)).q ?_;rw[<-hx];rw[<-hx] at*
    by_cases hz:(VT u v p i acc).2=0;have z3:((VT u v p i acc).2 !=0)=false:=(by rw[hz];rfl);rw[BA (fun e=>e hz)] at hr;simp-dsimp only[go_sem,z3,e3];exact⟨n-(i+1),oG,i+1,_,rfl,oG,K0v _ _ _ _ _,fun e=>oG,hr,rfl⟩
    . have z3:((VT u v p i acc).2 !=0)=true:=BV.2 hz;rw[BC hz] at hr;rw[hr];simp-dsimp only[go_sem,z3]
      try rfl
  rw[BA (fun h=>h0 h.2)] at hx;have z1:((Qs 2 (u.getD i default) (v.getD i default) p false).2==0)=true:=(by rw[hm];rfl);have z2:decide ((i:Int)>0)=false:=q_g oG;have z3:((Qs 2 (u.getD i default) (v.getD i default) p false).2 !=0)=false:=(by rw[hm];rfl);rw[hx,BA (fun e=>e hm)] at hr;generalize (Qs 2 (u.getD i default) (v.getD i default) p false)=Z at*
  simp-dsimp only[go_sem,z1,z2,z3,e3];exact⟨n-(i+1),oG,i+1,_,rfl,oG,hmr,fun e=>oG,hr,rfl⟩
  . rw[BA (fun h=>hm h.1)] at hx;have z1:((Qs 2 (u.getD i default) (v.getD i default) p false).2==0)=false:=(by simpa using hm);have z3:((Qs 2 (u.getD i default) (v.getD i default) p false).2 !=0)=true:=BV.2 hm;rw[hx,BC hm] at hr;rw[hr];generalize (Qs 2 (u.getD i default) (v.getD i default) p false)=Z at*
    simp-dsimp only[go_sem,z1,z3]
    try rfl
set_option maxHeartbeats 8000000 in
theorem X1n (v u:Lx)(n:Nat)(p:Int)(st:Qd)(hv:rowR n v)(hu:rowR n u)(hn:n<=4)(hp:Qt p=true):PR 349 [.sl .no (Qy v),.sl .no (Qy u),.sc (.int .i64 p)] st (.tup [.sl .no (Qy (Vy v u p).1),.sc (.int .i64 (Vy v u p).2)]):=by
 have hlu:=hu.1;have hlv:=hv.1;have ar:=V0c u v p;have br:=V0c u u p;refine Ql none Tryz.func349 rfl fun E=>Qe (Qb ?_);unfold Vy;refine Qr ?_;refine Qa ?_;refine(Sd u v n p _ hu hv hn).q ?_;generalize K3 u v p=A at*
 refine Qr ?_;refine Qe (Qb ?_);by_cases h1:A.2=0;rotate_left
 . have z1:(A.2 !=0)=true:=BV.2 h1;rw[BC h1];simp-dsimp only[go_sem,z1]
   try rfl
 have z1:(A.2 !=0)=false:=by rw[h1];rfl
 rw[BA (fun e=>e h1)];simp-dsimp only[go_sem,z1];refine Qa ?_;refine(Sd u u n p _ hu hu hn).q ?_;generalize K3 u u p=B at*
 refine Qr ?_;refine Qe (Qb ?_);by_cases h2:B.2=0;rotate_left
 . have z2:(B.2 !=0)=true:=BV.2 h2;rw[BC h2];simp-dsimp only[go_sem,z2]
   try rfl
 have z2:(B.2 !=0)=false:=by rw[h2];rfl
 rw[BA (fun e=>e h2)];simp-dsimp only[go_sem,z2];refine Qa ?_;refine(Md A.1 B.1 p false _ ar br hp).w ?_;rintro st' rfl;have cr:=Nq A.1 B.1 p false;generalize Ja A.1 B.1 p false=C at*
 refine Qr ?_;refine Qe (Qb ?_);by_cases h3:C.2=0;rotate_left
 . have z3:(C.2 !=0)=true:=BV.2 h3;rw[BC h3];simp-dsimp only[go_sem,z3]
   try rfl
 have z3:(C.2 !=0)=false:=by rw[h3];rfl
 rw[BA (fun e=>e h3),hlv];generalize hT:Qv (fun i=>KM (v.getD i default) C.1 (u.getD i default) p) 0 n []=T;simp-dsimp only[go_sem,z3];refine Qa ?_;refine X7 12 3 ?_;refine Qr ?_;refine Qb ?_;simp-dsimp only[go_sem,hlv];refine Q3 ([true,true,true]++rF 8++ [true,true]++rF 34++ [true,true]) 3 1
  (fun c s=> ∃(i:Nat) (o:Lx),c=n-i/\i<=n/\o.length=i/\T=Qv (fun i=>KM (v.getD i default) C.1 (u.getD i default) p) i (n-i) o/\
   s=⟨[.sl .no (Qy v),.sl .no (Qy u),.sc (.int .i64 p)]++jk 8++ [.lp 2 0,.sl (.own 0) (Qy o)]++jk 34++ [.sc (.int .i64 n),.sc (.int .i64 (i:Nat))]++jk 34,[Qg A.1,Qg B.1,Qg C.1],[(o.length,3)],st'⟩) n ?_ ?_
 refine Qr ?_;exact⟨0,[],oG,oG,rfl,hT.symm,rfl⟩;rintro c s ⟨i,o,rfl,hi,ho,hr,rfl⟩;refine QM ?_ ?_<;>intro h;rotate_left;have hge:i=n:=(oF h);subst hge;rw[Vg] at hr;rw[hr];refine Qr ?_;refine WF (rF 12++ [true]) (Qb ?_);exact QA;have hlt:i<n:=(oT h);have g1:=JN u i oG;have g2:=JN v i oG;have e3:=QN i oG;rw[KR _ hlt o] at hr;have hx:KM (v.getD i default) C.1 (u.getD i default) p=if (Qs 2 C.1 (u.getD i default) p false).2≠0 then Qs 2 C.1 (u.getD i default) p false else Qs 1 (v.getD i default) (Qs 2 C.1 (u.getD i default) p false).1 p false:=rfl;refine Qr ?_;refine Q5 83 (Qi [0,1,2,3,4,5] (.alt (Qi [6,7,8,9] (.step 10 [0,4] (.step 11 [] (.step 12 [] (.done))))) (.step 10 [0,4] (Qi [6,7,8,9,11,12] .done)))) ?_;simp-dsimp only[go_sem,hlu,g1];refine⟨oG,And.intro ?_ ?_⟩
 all_goals
  refine(If C.1 (u.getD i default) p false _ (QC cr) (Ur hu i)).q ?_;have hmr:=XZ 2 C.1 (u.getD i default) p false;generalize (Qs 2 C.1 (u.getD i default) p false)=Z at*
  by_cases hm:Z.2=0
  . rw[BA (fun e=>e hm)] at hx;have z4:(Z.2 !=0)=false:=(by rw[hm];rfl);simp-dsimp only[go_sem,z4];refine Q5 83 (Qi [0,1,2,3,4,5,6,7,8,9,10,11] .done) ?_;simp-dsimp only[go_sem,hlv,g2];refine⟨oG,?_⟩;refine(GS (v.getD i default) Z.1 p false _ (Ur hv i) (QC hmr)).q ?_;rw[<-hx];generalize hW:KM (v.getD i default) C.1 (u.getD i default) p=W at*
    by_cases hz:W.2=0;have z5:(W.2 !=0)=false:=(by rw[hz];rfl);rw[BA (fun e=>e hz)] at hr;simp-dsimp only[go_sem,z5,e3];exact⟨oG,n-(i+1),oG,i+1,o++ [W.1],rfl,oG,by simp;omega,hr,by simp[Qy,Qg]⟩
    . have z5:(W.2 !=0)=true:=BV.2 hz;rw[BC hz] at hr;rw[hr];simp-dsimp only[go_sem,z5]
      try rfl
  . rw[BC hm] at hx;have z4:(Z.2 !=0)=true:=BV.2 hm;rw[hx,BC hm] at hr;rw[hr];simp-dsimp only[go_sem,z4]
    try rfl
theorem Mj {x:Nm}(h:Qh x=true): -65536<=x.exp/\x.exp<=65536/\QF x.w<=4096:=by have:=Y0l h;exact⟨this.2.1,this.2.2,this.1⟩
theorem k0d {t:Nm}(h:Qh t=true):IntKind.i64.wrap (IntKind.i64.wrap (0-t.exp)-(QF t.w:Nat))=U0 t:=by obtain⟨h1,h2,h3⟩:=Mj h;rw[Q4 (0-t.exp) oG oG,Q4 _ oG oG];unfold U0;omega
set_option maxHeartbeats 4000000 in
theorem X1m (v:Lx)(n:Nat)(st:Qd)(hv:rowR n v)(hn:n<=4):PR 350 [.sl .no (Qy v)] st (.tup [.sl .no (Qy (U4 v).1),.sc (.int .i64 (U4 v).2)]):=by
 have hlv:=hv.1;refine Ql none Tryz.func350 rfl fun E=>Qe (Qb ?_);unfold U4 j4;rw[hlv];refine Qr ?_;refine Qa ?_;refine Vm 0 ?_;refine Qr ?_;refine Qb ?_;simp-dsimp only[go_sem,hlv];refine Q3 ([true,false,false,false,true]++rF 7++ [true,true,true]) 1 0
  (fun m s=> ∃i:Nat,m=n-i/\i<=n/\
   s=⟨[.sl .no (Qy v),.junk,.junk,.junk,.lp 0 0]++jk 7++ [.sl .no (Qy v),.sc (.int .i64 n),.sc (.int .i64 (i:Nat))]++jk 41,[Qg (Vf v i)],[],st⟩) n ?_ ?_
 refine Qr ?_;exact⟨0,oG,oG,rfl⟩;rintro m s ⟨i,rfl,hi,rfl⟩;refine QM ?_ ?_<;>intro h;have hlt:i<n:=(oT h);have g1:=JN v i oG;have e3:=QN i oG;have ht:Vf v (i+1)=if Q9 (Km (v.getD i default)) (Vf v i)>0 then Km (v.getD i default) else Vf v i:=rfl;have hb:=(Y0l (qj (v.getD i default))).1;simp-dsimp only[go_sem,hlv,g1];refine⟨oG,?_⟩;refine Q5 56 (.step 0 [] (.step 2 [] (.step 1 [2] (.step 3 [] (.step 4 [] (.done)))))) ?_;refine Qr ?_;refine(zG (v.getD i default) _ (Ur hv i)).Q ?_;have wa:=QC (qj (v.getD i default));have wt:=QC (j3 v i);unfold wN at wa wt;refine(VJ (Km (v.getD i default)) (Vf v i) _ oG oG).Q ?_;refine ck ?_ ?_<;>intro h2;have hc:Q9 (Km (v.getD i default)) (Vf v i)>0:=q_b h2;rw[BC hc] at ht;refine Qr ?_;refine(zG (v.getD i default) _ (Ur hv i)).q ?_;simp-dsimp only[go_sem,e3];exact⟨n-(i+1),oG,i+1,rfl,oG,by rw[ht]⟩;have hc: ¬Q9 (Km (v.getD i default)) (Vf v i)>0:=q_c h2;rw[BA hc] at ht;simp-dsimp only[go_sem,e3];exact⟨n-(i+1),oG,i+1,rfl,oG,by rw[ht]⟩;have hge:i=n:=(oF h);subst hge;have tr:=j3 v i;have tw:=QC tr;have hsh:=k0d tr;obtain⟨tx1,tx2,tx3⟩:=Mj tr;generalize Vf v i=t at*
 unfold wN at tw;refine Qr ?_;refine Qq ?_;refine(Iu t _ oG).w ?_;rintro st' rfl;by_cases h0:t.w= []
 . have z1:(QJ (XD t)==0)=true:=by unfold QJ XD;rw[BC tr,h0];rfl
   rw[BC h0];simp-dsimp only[go_sem,z1]
   try rfl
 have z1:(QJ (XD t)==0)=false:=by have hm:Qc t.w≠0:=fun e=>h0 ((KO tr).1 e);unfold QJ XD;rw[BC tr,BA hm];split<;>rfl
 rw[BA h0];generalize hT:Qv (fun k=>Z5 (v.getD k default) (U0 t)) 0 i []=T;simp-dsimp only[go_sem,z1];refine X7 7 3 ?_;refine Qr ?_;refine Q3 ([false,false,false,false,true,false,false,true]++rF 21++ [true,true,true]) 1 1
  (fun c s=> ∃(k:Nat) (o:Lx),c=i-k/\k<=i/\o.length=k/\T=Qv (fun k=>Z5 (v.getD k default) (U0 t)) k (i-k) o/\
   s=⟨[.junk,.junk,.junk,.junk,.lp 0 0,.junk,.junk,.sl (.own 0) (Qy o)]++jk 21++ [.sl .no (Qy v),.sc (.int .i64 i),.sc (.int .i64 (k:Nat))]++jk 24,[Qg t],[(o.length,3)],st'⟩) i ?_ ?_
 simp-dsimp only[go_sem,hlv];exact⟨0,[],oG,oG,rfl,hT.symm,rfl⟩;rintro c s ⟨k,o,rfl,hk,ho,hr,rfl⟩;refine QM ?_ ?_<;>intro h2;rotate_left;have hge:k=i:=(oF h2);subst hge;rw[Vg] at hr;rw[hr];refine Qr ?_;refine WF (rF 7++ [true]) (Qb ?_);exact QA;have hlt:k<i:=(oT h2);have g1:=JN v k oG;have e3:=QN k oG;rw[KR _ hlt o] at hr;simp-dsimp only[go_sem,hlv,g1];refine⟨oG,?_⟩;refine Q5 56 (Qi [0,1,2,3,4,5] (.alt (.step 6 [0,2] (.step 7 [] (.alt (Qi [8,9,10,11] (.step 12 [0,2,5] (.step 13 [] (.step 14 [] (.done))))) (.step 12 [0,2,5] (Qi [8,9,10,11,13,14] .done))))) (.step 12 [0,2,5] (.step 6 [0,2] (Qi [7,8,9,10,11,13,14] .done))))) ?_;refine Qr ?_;refine And.intro ?_ ?_
 all_goals
  refine(WM t.w _ oG).q ?_;simp-dsimp only[go_sem,hsh]
  try refine And.intro ?_ ?_
 all_goals
  refine(zD (v.getD k default) (U0 t) _ (Ur hv k)).q ?_;generalize Z5 (v.getD k default) (U0 t)=W at*
  by_cases hz:W.2=0;have z5:(W.2 !=0)=false:=(by rw[hz];rfl);rw[BA (fun e=>e hz)] at hr;simp-dsimp only[go_sem,z5,e3];exact⟨oG,i-(k+1),oG,k+1,o++ [W.1],rfl,oG,by simp;omega,hr,by simp[Qy,Qg]⟩
  . have z5:(W.2 !=0)=true:=BV.2 hz;rw[BC hz] at hr;rw[hr];simp-dsimp only[go_sem,z5]
    try rfl
theorem X1k (v:Lx)(made:Ly)(n:Nat)(p:Int)(st:Qd)(hv:rowR n v)(hm: ∀i,i<made.length->rowR n (made.getD i []))(hml:made.length<=4)(hn:n<=4)(hp:Qt p=true):
 PR 319 [.sl .no (Qy v),.sl .no (QL made),.sc (.int .i64 p)] st (.tup [.sl .no (Qy (KP v made p).1),.sc (.int .i64 (KP v made p).2)]):=by
 refine Ql none Tryz.func319 rfl fun E=>Qb ?_;unfold KP;generalize hT:Vd made p 0 made.length v=T;refine Qr ?_;refine Q3 ([true,false,true]++rF 9++ [true,true,true]) 0 0
  (fun m s=> ∃(i:Nat) (w:Lx),m=made.length-i/\i<=made.length/\rowR n w/\T=Vd made p i (made.length-i) w/\
   s=⟨[.sl .no (Qy w),.junk,.sc (.int .i64 p)]++jk 9++ [.sl .no (QL made),.sc (.int .i64 made.length),.sc (.int .i64 (i:Nat))]++jk 19,[],[],st⟩) made.length ?_ ?_
 refine Qr ?_;exact⟨0,v,oG,oG,hv,hT.symm,rfl⟩;rintro m s ⟨i,w,rfl,hi,hw,hr,rfl⟩;refine QM ?_ ?_<;>intro h;rotate_left;have hge:i=made.length:=(oF h);subst hge;rw[H0s] at hr;rw[hr,BA (fun e=>e rfl)];refine Qr ?_;refine Qq ?_;refine(X1m w n _ hw hn).Q0;have hlt:i<made.length:=(oT h);have g1:=Wt made i hlt;have e3:=QN i oG;rw[H0r made p hlt w] at hr;simp-dsimp only[go_sem,g1];refine⟨oG,?_⟩;refine(X1n w (made.getD i []) n p _ hw (hm i hlt) hn hp).q ?_;have hrow:=Z0j (u:=made.getD i []) (p:=p) hw;generalize Vy w (made.getD i []) p=Z at*
 by_cases hz:Z.2=0;have z1:(Z.2 !=0)=false:=(by rw[hz];rfl);rw[BA (fun e=>e hz)] at hr;simp-dsimp only[go_sem,z1,e3];exact⟨made.length-(i+1),oG,i+1,Z.1,rfl,oG,hrow hz,hr,rfl⟩
 . have z1:(Z.2 !=0)=true:=BV.2 hz;rw[BC hz] at hr;rw[hr,BC hz];simp-dsimp only[go_sem,z1]
   try rfl
set_option maxRecDepth 20000
def bdK (n:Nat)(B:Nat->Nat)(D U:Nat)(l:List Nm):Prop:= ∀j,j<n->luQ (B j+D) U (qN (l.getD j default))
theorem bdK.mono {n D U D' U':Nat}{B:Nat->Nat}{l:Lx}(h:bdK n B D U l)(hd:D<=D')(hu:U<=U'):bdK n B D' U' l:=fun j hj=>(h j hj).mono oG hu
end Go.Pv
end
