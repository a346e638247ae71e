/- Parts of the walk: M85, M86, M87, M88, M90, M91, M92, M89. -/
import Derived.Test.YtldalepagmhnmaaGreatDoorZFD
set_option linter.unusedVariables false
set_option linter.unusedSimpArgs false
section
namespace Go.Pv
def y0a (j k:Nat):Nat:=if k<j then k else k+1
def sgnQ (j:Nat)(x:Rat):Rat:=if j % 2=1 then -x else x
def detS (f:Nat->Nat->Rat)(D:Nat->Rat):Nat->Rat
 | 0=>0
 | j+1=>detS f D j+sgnQ j (f 0 j*D j)
def detQ :Nat->(Nat->Nat->Rat)->Rat
 | 0,_=>1
 | n+1,f=>detS f (fun j=>detQ n fun i k=>f (i+1) (y0a j k)) (n+1)
def cofQ (n:Nat)(f:Nat->Nat->Rat)(i j:Nat):Rat:=sgnQ (i+j) (detQ (n-1) fun a b=>f (y0a j a) (y0a i b))
theorem det1 (f:Nat->Nat->Rat):detQ 1 f=f 0 0:=by simp[detQ,detS,sgnQ];try grind
theorem det2 (f:Nat->Nat->Rat):detQ 2 f=f 0 0*f 1 1-f 0 1*f 1 0:=by rw[detQ];simp[detS,det1,sgnQ,y0a];grind
theorem det3 (f:Nat->Nat->Rat):detQ 3 f=f 0 0*(f 1 1*f 2 2-f 1 2*f 2 1)-f 0 1*(f 1 0*f 2 2-f 1 2*f 2 0)+f 0 2*(f 1 0*f 2 1-f 1 1*f 2 0):=by rw[detQ];simp[detS,det2,sgnQ,y0a];grind
theorem det4 (f:Nat->Nat->Rat):detQ 4 f=f 0 0*detQ 3 (fun i k=>f (i+1) (y0a 0 k))-f 0 1*detQ 3 (fun i k=>f (i+1) (y0a 1 k))+f 0 2*detQ 3 (fun i k=>f (i+1) (y0a 2 k))-f 0 3*detQ 3 (fun i k=>f (i+1) (y0a 3 k)):=by rw[detQ];simp[detS,sgnQ];grind
theorem k2r (n:Nat)(h1:1<=n)(h4:n<=4)(f:Nat->Nat->Rat)(i j:Nat)(hi:i<n)(hj:j<n):dotQ (f i) (fun k=>cofQ n f k j) n=detQ n f*W0i i j:=by
 have hn:n=1\/n=2\/n=3\/n=4:=oG;rcases hn with rfl | rfl | rfl | rfl;have:i=0:=oG;have:j=0:=oG
 subst_vars
 simp[dotQ,cofQ,W0i,det1,detQ,detS,sgnQ];try grind
 have:i=0\/i=1:=oG;have:j=0\/j=1:=oG;rcases ‹i=0\/i=1›with rfl | rfl<;>rcases ‹j=0\/j=1›with rfl | rfl<;>simp[dotQ,cofQ,W0i,det2,det1,sgnQ,y0a]<;>grind;have a1:i=0\/i=1\/i=2:=oG;have a2:j=0\/j=1\/j=2:=oG;rcases a1 with rfl | rfl | rfl<;>rcases a2 with rfl | rfl | rfl<;>simp[dotQ,cofQ,W0i,det3,det2,sgnQ,y0a]<;>grind;have a1:i=0\/i=1\/i=2\/i=3:=oG;have a2:j=0\/j=1\/j=2\/j=3:=oG;rcases a1 with rfl | rfl | rfl | rfl<;>rcases a2 with rfl | rfl | rfl | rfl<;>simp[dotQ,cofQ,W0i,det4,det3,sgnQ,y0a]<;>grind
def kerQ (n:Nat)(f:Nat->Nat->Rat)(x:Nat->Rat):Prop:=(∃i,i<n/\x i≠0)/\ ∀i,i<n->dotQ (f i) x n=0
def Z1g (f:Nat->Nat->Rat)(r:Nat):Nat->Nat->Rat:=fun i k=>if i=0 then f r k else if i=r then f 0 k else f i k
theorem K3r (n:Nat)(h4:n<=4)(f:Nat->Nat->Rat)(r:Nat)(h0:0<r)(hr:r<n):detQ n (Z1g f r)= -detQ n f:=by have hn:n=2\/n=3\/n=4:=oG;rcases hn with rfl | rfl | rfl;have:r=1:=oG;subst this;simp[det2,Z1g];grind;have a:r=1\/r=2:=oG;rcases a with rfl | rfl<;>simp[det3,Z1g]<;>grind;have a:r=1\/r=2\/r=3:=oG;rcases a with rfl | rfl | rfl<;>simp[det4,det3,Z1g,y0a]<;>grind
theorem X3s {n:Nat}{f:Nat->Nat->Rat}{x:Nat->Rat}{r:Nat}(hr:r<n)(h:kerQ n (Z1g f r) x):kerQ n f x:=by
 have e0:Z1g f r 0=f r:=by funext k;simp[Z1g]
 have e1:r≠0->Z1g f r r=f 0:=fun hr=>by funext k;simp[Z1g,hr]
 have e2: ∀i,i≠0->i≠r->Z1g f r i=f i:=fun i h1 h2=>by funext k;simp[Z1g,h1,h2]
 refine⟨h.1,fun i hi=> ?_⟩;by_cases z0:i=0;subst z0;by_cases er:r=0;subst er;rw[<-e0];exact h.2 0 hi;rw[<-e1 er];exact h.2 r hr;by_cases er:i=r;subst er;rw[<-e0];exact h.2 0 oG;rw[<-e2 i z0 er];exact h.2 i hi
def K1r (f:Nat->Nat->Rat):Nat->Nat->Rat:=fun i k=>f (i+1) (k+1)-f (i+1) 0/f 0 0*f 0 (k+1)
theorem k2h (n:Nat)(h4:n<=3)(f:Nat->Nat->Rat)(h:f 0 0≠0):detQ (n+1) f=f 0 0*detQ n (K1r f):=by
 have e1:f 1 0=f 1 0/f 0 0*f 0 0:=(by grind);have e2:f 2 0=f 2 0/f 0 0*f 0 0:=(by grind);have e3:f 3 0=f 3 0/f 0 0*f 0 0:=(by grind);have hn:n=0\/n=1\/n=2\/n=3:=oG;rcases hn with rfl | rfl | rfl | rfl;rw[det1];simp[detQ];try grind
 rw[det2,det1];simp only[K1r];generalize f 1 0/f 0 0=a at*
 rw[e1];grind;rw[det3,det2];simp only[K1r];generalize f 1 0/f 0 0=a at*
 generalize f 2 0/f 0 0=b at*
 rw[e1,e2];grind;rw[det4,det3,det3,det3,det3,det3];simp only[K1r,y0a];simp;generalize f 1 0/f 0 0=a at*
 generalize f 2 0/f 0 0=b at*
 generalize f 3 0/f 0 0=c at*
 rw[e1,e2,e3];grind
theorem X1k (X Y:Nat->Rat): ∀n,dotQ X Y (n+1)=X 0*Y 0+dotQ (fun k=>X (k+1)) (fun k=>Y (k+1)) n
 | 0=>by simp[dotQ];try grind
 | n+1=>by rw[dotQ,X1k X Y n,dotQ];grind
theorem U0i {X X' Y Y':Nat->Rat} : ∀n,(∀k,k<n->X k=X' k/\Y k=Y' k)->dotQ X Y n=dotQ X' Y' n
 | 0,_=>rfl
 | n+1,h=>by rw[dotQ,dotQ,U0i n fun k hk=>h k oG,(h n oG).1,(h n oG).2]
theorem K1b (X X' Y:Nat->Rat)(a:Rat): ∀n,dotQ (fun k=>X k+a*X' k) Y n=dotQ X Y n+a*dotQ X' Y n
 | 0=>by simp[dotQ];try grind
 | n+1=>by rw[dotQ,dotQ,dotQ,K1b X X' Y a n];grind
theorem G1x (X Y:Nat->Rat)(a:Rat): ∀n,dotQ (fun k=>a*X k) Y n=a*dotQ X Y n
 | 0=>by simp[dotQ]
 | n+1=>by rw[dotQ,dotQ,G1x X Y a n];grind
theorem k2c (X Y:Nat->Rat)(d:Rat)(n:Nat):dotQ (fun k=>X k/d) Y n=dotQ X Y n/d:=by have:=G1x X Y (1/d) n;rw[U0i n (X':=fun k=>1/d*X k) (Y':=Y) fun k _=>⟨by grind,rfl⟩,this];grind
theorem v1q (a:Nat->Rat)(A:Nat->Nat->Rat)(x:Nat->Rat)(n:Nat): ∀m,dotQ a (fun k=>dotQ (A k) x n) m=dotQ (fun j=>dotQ a (fun k=>A k j) m) x n
 | 0=>by rw[dotQ,j0x n fun k _=> ?_];simp[dotQ]
 | m+1=>by rw[dotQ,v1q a A x n m,<-K1b];rfl
theorem G1h : ∀(n:Nat),n<=4-> ∀f:Nat->Nat->Rat,detQ n f=0-> ∃x,kerQ n f x
 | 0,_,f,h=>by rw[detQ] at h;exact absurd h (by decide)
 | n+1,h4,f,h=>by
  have main: ∀f:Nat->Nat->Rat,f 0 0≠0->detQ (n+1) f=0-> ∃x,kerQ (n+1) f x:=fun f h0 h=>by
   rw[k2h n oG f h0] at h;have hz:detQ n (K1r f)=0:=by rcases Rat.mul_eq_zero.1 h with h | h;exact absurd h h0;exact h
   obtain⟨y,⟨i,hi,hy⟩,hk⟩:=G1h n oG _ hz;refine⟨fun k=>if k=0 then -(dotQ (fun k=>f 0 (k+1)) y n)/f 0 0 else y (k-1),⟨i+1,oG,by simpa using hy⟩,fun r hr=> ?_⟩;rw[X1k];have e:dotQ (fun k=>f r (k+1)) (fun k=>if k+1=0 then -(dotQ (fun k=>f 0 (k+1)) y n)/f 0 0 else y (k+1-1)) n=dotQ (fun k=>f r (k+1)) y n:=U0i n fun k hk=>⟨rfl,by simp⟩;rw[e,if_pos rfl];cases r with
   | zero=>grind
   | succ r=>
    have h2:=hk r oG;have h3:dotQ (K1r f r) y n=dotQ (fun k=>f (r+1) (k+1)) y n+ -(f (r+1) 0/f 0 0)*dotQ (fun k=>f 0 (k+1)) y n:=by rw[<-K1b];exact U0i n fun k _=>⟨by unfold K1r;grind,rfl⟩
    rw[h3] at h2;grind
  by_cases ha: ∀i,i<n+1->f i 0=0;refine⟨fun k=>if k=0 then 1 else 0,⟨0,oG,by simp⟩,fun i hi=> ?_⟩;rw[X1k,ha i hi,j0x n fun k _=>by simp];grind;obtain⟨r,hr⟩: ∃r,¬(r<n+1->f r 0=0):=Classical.not_forall.1 ha;have hr1:r<n+1:=Classical.byContradiction fun h=>hr fun h2=>absurd h2 h;have hr2:f r 0≠0:=fun h=>hr fun _=>h;by_cases h0:r=0;subst h0;exact main f hr2 h;obtain⟨x,hx⟩:=main (Z1g f r) (by simpa[Z1g] using hr2) (by rw[K3r (n+1) h4 f r oG hr1,h];grind);exact⟨x,X3s hr1 hx⟩
def absQ (x:Rat):Rat:=if x<0 then -x else x
theorem v2y (x:Rat):inQ1 (absQ x) x:=by unfold absQ inQ1;split<;>constructor<;>grind
theorem v2x {a x:Rat}(h:inQ1 a x):absQ x<=a:=by unfold absQ;have:=h.1;have:=h.2;split<;>grind
theorem Z2x (x:Rat):0<=absQ x:=by unfold absQ;split<;>grind
theorem v2w {x:Rat}(h:absQ x=0):x=0:=by unfold absQ at h;split at h<;>grind
theorem Q2j (x:Nat->Rat): ∀n,0<n-> ∃m,m<n/\ ∀k,k<n->absQ (x k)<=absQ (x m)
 | 0,h=>absurd h (by decide)
 | 1,_=>⟨0,by decide,fun k hk=>by have:k=0:=oG
                                  subst this;exact Rat.le_refl⟩
 | n+2,_=>by obtain⟨m,h1,h2⟩:=Q2j x (n+1) oG;by_cases hc:absQ (x (n+1))<=absQ (x m);exact⟨m,oG,fun k hk=>if e:k=n+1 then e▸hc else h2 k oG⟩;have hc':absQ (x m)<=absQ (x (n+1)):=(by grind);exact⟨n+1,oG,fun k hk=>if e:k=n+1 then e▸Rat.le_refl else Rat.le_trans (h2 k oG) hc'⟩
theorem W1a {a b x:Rat}(h:inQ1 a x)(hab:a<=b):inQ1 b x:=by unfold inQ1 at*;have:=h.1;have:=h.2;constructor<;>grind
section
variable {n:Nat} {A R E:Nat->Nat->Rat} {e:Rat}
theorem ra_x (hE: ∀i j,i<n->j<n->E i j=W0i i j-dotQ (R i) (fun k=>A k j) n)(x:Nat->Rat){i:Nat}(hi:i<n):dotQ (R i) (fun k=>dotQ (A k) x n) n=x i-dotQ (E i) x n:=by rw[v1q];have h1:dotQ (E i) x n=dotQ (fun j=>W0i i j+(-1)*dotQ (R i) (fun k=>A k j) n) x n:=U0i n fun k hk=>⟨by rw[hE i k hi hk];grind,rfl⟩;rw[h1,K1b,X1l n hi];grind
theorem Y3u (h4:n<=4)(hE: ∀i j,i<n->j<n->E i j=W0i i j-dotQ (R i) (fun k=>A k j) n)(B:Nat->Nat->Rat)(hB: ∀i j,i<n->j<n->inQ1 (B i j) (E i j))(he: ∀i,i<n->sumQ (B i) n<=e)(h1:e<1):detQ n A≠0:=by
 intro h;obtain⟨x,⟨i,hi,hx⟩,hk⟩:=G1h n h4 A h;obtain⟨m,hm,hmx⟩:=Q2j x n oG;have hb:inQ1 (sumQ (B m) n*absQ (x m)) (dotQ (E m) x n):=X1m n fun k hk=>⟨hB m k hm hk,W1a (v2y _) (hmx k hk)⟩;have hz:=ra_x hE x hm;rw[j0x n fun k hk2=>by rw[hk k hk2,Rat.mul_zero]] at hz;have h2:x m=dotQ (E m) x n:=(by grind);rw[<-h2] at hb;have h3:=v2x hb;have h4:=Z2x (x m);have h5:sumQ (B m) n*absQ (x m)<=e*absQ (x m):=Rat.mul_le_mul_of_nonneg_right (he m hm) h4;have h6:0<=(1-e):=(by grind);have h7:(1-e)*absQ (x m)<=0:=(by grind);have h8:absQ (x m)=0:=by refine Classical.byContradiction fun hne=> ?_;have:0<absQ (x m):=(by grind);have:=Rat.mul_pos (show 0<1-e by grind) this;grind
 have h9:=hmx i hi;have h10:=Z2x (x i);exact hx (v2w (by grind))
theorem J3a (h4:n<=4)(hE: ∀i j,i<n->j<n->E i j=W0i i j-dotQ (R i) (fun k=>A k j) n)(B:Nat->Nat->Rat)(hB: ∀i j,i<n->j<n->inQ1 (B i j) (E i j))(he: ∀i,i<n->sumQ (B i) n<=e)(h1:e<1)
 {r q:Rat} (hr: ∀i j,i<n->j<n->inQ1 r (R i j)) (hq:e*r<=q*(1-e)) {i j:Nat} (hi:i<n) (hj:j<n):inQ1 q (cofQ n A i j/detQ n A-R i j):=by
 have hd:=Y3u h4 hE B hB he h1;have h1n:1<=n:=oG
 let x:Nat->Rat:=fun k=>cofQ n A k j/detQ n A
 have hx: ∀k,k<n->dotQ (A k) x n=W0i k j:=fun k hk=>by have c:=k2r n h1n h4 A k j hk hj;rw[W1y] at c⊢;show dotQ (fun l=>cofQ n A l j/detQ n A) (A k) n=_;rw[k2c,c];grind
 have hrx: ∀i,i<n->x i-R i j=dotQ (E i) x n:=fun i hi=>by have:=ra_x hE x hi;rw[U0i n (fun k hk=>⟨rfl,hx k hk⟩)] at this;rw[W1y,show dotQ (fun k=>W0i k j) (R i) n=dotQ (W0i j) (R i) n from U0i n fun k _=>⟨by unfold W0i;split<;>split<;>first | rfl | omega,rfl⟩,X1l n hj] at this;grind
 obtain⟨m,hm,hmx⟩:=Q2j x n oG;have hb: ∀i,i<n->inQ1 (e*absQ (x m)) (dotQ (E i) x n):=fun i hi=>W1a (X1m n fun k hk=>⟨hB i k hi hk,W1a (v2y _) (hmx k hk)⟩) (Rat.mul_le_mul_of_nonneg_right (he i hi) (Z2x _));have b1:=hb m hm;rw[<-hrx m hm] at b1;have b2:=hr m j hm hj;have b3:absQ (x m)<=r+e*absQ (x m):=v2x (by unfold inQ1 at*;have:=b1.1;have:=b1.2;have:=b2.1;have:=b2.2;constructor<;>grind);have e0:0<=e:=by
  have:=he m hm;have:0<=sumQ (B m) n:=by
   have hs: ∀l,l<=n->0<=sumQ (B m) l:=fun l=>by
    induction l with
    | zero=>intro _;exact Rat.le_refl
    | succ l ih=>
     intro hl;have:=ih oG;have hbl:=hB m l hm oG;unfold inQ1 at hbl;rw[sumQ];grind
   exact hs n (Nat.le_refl _)
  grind
 have b4:(e*absQ (x m))*(1-e)<=q*(1-e):=by have:e*(absQ (x m)*(1-e))<=e*r:=Rat.mul_le_mul_of_nonneg_left (by grind) e0;grind
 have b5:e*absQ (x m)<=q:=by refine Classical.byContradiction fun hne=> ?_;have hlt:0<e*absQ (x m)-q:=(by grind);have:=Rat.mul_pos hlt (show 0<1-e by grind);grind
 have:=hb i hi;rw[<-hrx i hi] at this;exact W1a this b5
end
theorem j0u {G:Nat->Nat->Ivl×Int}{n:Nat}(h:(U0h G n).2=0):(U0h G n).1.length=n/\ ∀i,i<n->((U0h G n).1.getD i []).length=n/\ ∀j,j<n->(G i j).2=0/\atM (U0h G n).1 i j=(G i j).1:=by obtain⟨g1,g2,g3⟩:=G0g h;refine⟨g1,fun i hi=> ?_⟩;have e:(U0h G n).1.getD i []=(tabF (fun j=>G i j) 0 n []).1:=g3 i hi;obtain⟨r1,r2,r3⟩:=G0g (g2 i hi);refine⟨by rw[e];exact r1,fun j hj=>⟨r2 j hj,?_⟩⟩;unfold atM;rw[e];exact r3 j hj
theorem J3w {G:Nat->Nat->Ivl×Int}{n:Nat}(h: ∀i j,i<n->j<n->(G i j).2=0):(U0h G n).2=0:=
 H1o _ _ _ fun i _ hi=>H1o _ _ _ fun j _ hj=>h i j oG oG
theorem J3y {G:Nat->Nat->Ivl×Int}{n:Nat}(h: ∀i j,i<n->j<n->(G i j).2=0\/(G i j).2=2):(U0h G n).2=0\/(U0h G n).2=2:=by
 have t: ∀ {β:Type} (G:Nat->β×Int) (k i:Nat) (acc:List β),(∀j,i<=j->j<i+k->(G j).2=0\/(G j).2=2)->(tabF G i k acc).2=0\/(tabF G i k acc).2=2:=by
  intro β G k
  induction k with
  | zero=>intro i acc _;exact .inl rfl
  | succ k ih=>
   intro i acc h;unfold tabF;split;exact h i (Nat.le_refl _) oG;exact ih _ _ fun j h1 h2=>h j oG oG
 exact t _ _ _ _ fun i _ hi=>t _ _ _ _ fun j _ hj=>h i j oG oG
theorem J1v {q:List (List Nm)}{i:Nat}(hi:i<q.length):(ofM q).getD i []=(q.getD i []).map fun x=>⟨x,x⟩:=by unfold ofM ofB;rw[q_a,List.getElem?_map,List.getElem?_eq_getElem hi,q_a,List.getElem?_eq_getElem hi];rfl
theorem J2r {q:List (List Nm)}{i j:Nat}(hi:i<q.length)(hj:j<(q.getD i []).length):atM (ofM q) i j=⟨entQ q i j,entQ q i j⟩:=by unfold atM entQ;rw[J1v hi];generalize q.getD i []=r at hj⊢;rw[q_a,List.getElem?_map,List.getElem?_eq_getElem hj,q_a,List.getElem?_eq_getElem hj];rfl
theorem q2z {q:List (List Nm)}{i:Nat}(hi:i<q.length):((ofM q).getD i []).length=(q.getD i []).length:=by rw[J1v hi,List.length_map]
theorem sqR.rightM {n:Nat}{a:List (List Nm)}(h:sqR n a)(h1:1<=n)(h4:n<=4):rightM (ofM a)=true:=by
 have hl:(ofM a).length=n:=by unfold ofM;rw[List.length_map];exact h.1
 refine rightM_iff.2 ⟨fun i hi=> ?_,oG,oG⟩;rw[hl] at hi⊢;have h0:i<a.length:=(by rw[h.1];exact hi);have hr:=h.row hi;refine⟨by rw[q2z h0];exact hr.1,?_⟩;have hlr:((ofM a).getD i []).length=n:=(by rw[q2z h0];exact hr.1);refine U0v (fun j hj=> ?_) oG oG;rw[hlr] at hj;have e:((ofM a).getD i []).getD j default=atM (ofM a) i j:=rfl;rw[e,J2r h0 (by rw[hr.1];exact hj)];exact v0w (h.ent hi hj)
theorem G2o {r:Nat->Ivl}{p:Int} : ∀j,(sumF r p j).2=0->sumQ (fun k=>qN (magI (r k))) (j+1)<=qN (sumF r p j).1
 | 0,_=>by show 0+qN (magI (r 0))<=qN (magI (r 0));rw[Rat.zero_add];exact Rat.le_refl
 | j+1,h=>by
  have h0:(sumF r p j).2=0:=by refine Classical.byContradiction fun hne=> ?_;rw[sumF,if_pos hne] at h;exact hne h
  have ih:=G2o j h0;rw[K1m h0] at h⊢;have hv:=G0x h;have hg:=U0t (exV 0 (ofN (sumF r p j).1) (ofN (magI (r (j+1))))) p.toNat;rw[q1c,exQ0,J0b,J0b] at hg;show sumQ (fun k=>qN (magI (r k))) (j+1)+qN (magI (r (j+1)))<=_;rw[hv];grind
theorem J2t {m:Mx}{p:Int}(hl:1<=m.length): ∀i,(W0b m p i).2=0->0<=qN (W0b m p i).1/\ ∀k,k<i->sumQ (fun j=>qN (magI (atM m k j))) m.length<=qN (W0b m p i).1
 | 0,_=>⟨by show 0<=qN (default:Nm);rw[q1e];exact Rat.le_refl,fun k hk=>oG⟩
 | i+1,h=>by
  have h0:(W0b m p i).2=0:=by refine Classical.byContradiction fun hne=> ?_;rw[W0b,if_pos hne] at h;exact hne h
  have hs:(sumF (atM m i) p (m.length-1)).2=0:=by refine Classical.byContradiction fun hne=> ?_;rw[W0b,if_neg (fun e=>e h0),if_pos hne] at h;exact hne h
  obtain⟨h2,h4⟩:=J2t hl i h0;have s3:=G2o _ hs;rw[show m.length-1+1=m.length from oG] at s3;have hsr:=G0l (atM m i) p (m.length-1);have hnr:=H0a m p i;rw[Z1t h0 hs,G0r hsr hnr];split;rename_i hc;have hc:=cmpN_gt.1 hc;refine⟨by show 0<=qN (sumF (atM m i) p (m.length-1)).1;grind,fun k hk=> ?_⟩;show _<=qN (sumF (atM m i) p (m.length-1)).1;by_cases e:k=i;subst e;exact s3;have:=h4 k oG;grind;rename_i hc;have hc:=cmpN_le.1 (Int.not_lt.1 hc);refine⟨h2,fun k hk=> ?_⟩;show _<=qN (W0b m p i).1;by_cases e:k=i;subst e;grind;exact h4 k oG
theorem y0v {m:Mx}{p:Int}(h:(X0n m p).2=0):rightM m=true/\Z0c p=true/\0<=qN (X0n m p).1/\Q0h (X0n m p).1=true/\ ∀k,k<m.length->sumQ (fun j=>qN (magI (atM m k j))) m.length<=qN (X0n m p).1:=by
 have hg:rightM m=true/\Z0c p=true:=by refine Classical.byContradiction fun hne=> ?_;rw[X0n,if_neg hne] at h;exact absurd h (by decide)
 rw[X0n,if_pos hg] at h⊢;obtain⟨a,b⟩:=J2t (Z0u hg.1).1 _ h;exact⟨hg.1,hg.2,a,H0a m p _,b⟩
def K0b (x a:List (List Nm))(p:Int):Nm×Int:=
 if (mulM (ofM x) (ofM a) p).2≠0 then(default,(mulM (ofM x) (ofM a) p).2) else
 if (opM 1 (idM (x.length:Int)) (mulM (ofM x) (ofM a) p).1 p).2≠0 then(default,(opM 1 (idM (x.length:Int)) (mulM (ofM x) (ofM a) p).1 p).2) else
 X0n (opM 1 (idM (x.length:Int)) (mulM (ofM x) (ofM a) p).1 p).1 p
def radQ (x:List (List Nm))(e:Nm)(p:Int):Nm×Int:=
 if (Q0t 1 oneN e p false).2≠0 then(default,(Q0t 1 oneN e p false).2) else
 if (X0n (ofM x) p).2≠0 then(default,(X0n (ofM x) p).2) else
 if (Q0t 2 (X0n (ofM x) p).1 e p true).2≠0 then(default,(Q0t 2 (X0n (ofM x) p).1 e p true).2) else
 W0t (Q0t 2 (X0n (ofM x) p).1 e p true).1 (Q0t 1 oneN e p false).1 p true
def V0k (y q:Nm)(p:Int):Ivl×Int:=if (Q0t 1 y q p false).2≠0\/(Q0t 0 y q p true).2≠0 then(default,2) else(⟨(Q0t 1 y q p false).1,(Q0t 0 y q p true).1⟩,0)
def V0o (a:List (List Nm))(p:Int):Mx×Int:=
 if (Q0y a p).2≠0 then([],(Q0y a p).2) else
 if (K0b (Q0y a p).1 a p).2≠0 then([],(K0b (Q0y a p).1 a p).2) else
 if cmpR (K0b (Q0y a p).1 a p).1 oneN>=0 then([],3) else
 if (radQ (Q0y a p).1 (K0b (Q0y a p).1 a p).1 p).2≠0 then([],(radQ (Q0y a p).1 (K0b (Q0y a p).1 a p).1 p).2) else
 U0h (fun i j=>V0k (entQ (Q0y a p).1 i j) (radQ (Q0y a p).1 (K0b (Q0y a p).1 a p).1 p).1 p) a.length
theorem H3f {k:Nat}{a b:Mx}{p:Int}(h:(opM k a b p).2=0):(rightM a=true/\rightM b=true/\a.length=b.length/\Z0c p=true)/\(opM k a b p).1.length=a.length/\ ∀i,i<a.length->((opM k a b p).1.getD i []).length=a.length/\ ∀j,j<a.length->(opI k (atM a i j) (atM b i j) p).2=0/\atM (opM k a b p).1 i j=(opI k (atM a i j) (atM b i j) p).1:=by
 have hg:rightM a=true/\rightM b=true/\a.length=b.length/\Z0c p=true:=by refine Classical.byContradiction fun hne=> ?_;rw[opM,if_neg hne] at h;exact absurd h (by decide)
 rw[opM,if_pos hg] at h⊢;exact⟨hg,j0u h⟩
theorem J2y {a b:Mx}{p:Int}(h:(mulM a b p).2=0):(rightM a=true/\rightM b=true/\a.length=b.length/\Z0c p=true)/\(mulM a b p).1.length=a.length/\ ∀i,i<a.length->((mulM a b p).1.getD i []).length=a.length/\ ∀j,j<a.length->(dotF (atM a i) (fun k=>atM b k j) p a.length).2=0/\atM (mulM a b p).1 i j=(dotF (atM a i) (fun k=>atM b k j) p a.length).1:=by
 have hg:rightM a=true/\rightM b=true/\a.length=b.length/\Z0c p=true:=by refine Classical.byContradiction fun hne=> ?_;rw[mulM,if_neg hne] at h;exact absurd h (by decide)
 rw[mulM,if_pos hg] at h⊢;exact⟨hg,j0u h⟩
theorem G0o :Q0h oneN=true:=by decide
theorem H1w {n:Nat}{x a:List (List Nm)}{p:Int}(hx:sqR n x)(ha:sqR n a)(h1:1<=n)(h4:n<=4)(h:(K0b x a p).2=0):
 0<=qN (K0b x a p).1/\Q0h (K0b x a p).1=true/\ ∃B:Nat->Nat->Rat,(∀i j,i<n->j<n->inQ1 (B i j) (W0i i j-dotQ (fun k=>qN (entQ x i k)) (fun k=>qN (entQ a k j)) n))/\ ∀i,i<n->sumQ (B i) n<=qN (K0b x a p).1:=by
 have c1:(mulM (ofM x) (ofM a) p).2=0:=by refine Classical.byContradiction fun hne=> ?_;rw[K0b,if_pos hne] at h;exact hne h
 have c2:(opM 1 (idM (x.length:Int)) (mulM (ofM x) (ofM a) p).1 p).2=0:=by refine Classical.byContradiction fun hne=> ?_;rw[K0b,if_neg (fun e=>e c1),if_pos hne] at h;exact hne h
 rw[K0b,if_neg (fun e=>e c1),if_neg (fun e=>e c2)] at h⊢;obtain⟨-,m1,m2⟩:=J2y c1;obtain⟨-,o1,o2⟩:=H3f c2;obtain⟨n1,n2,n3,n4,n5⟩:=y0v h;have hxl:(ofM x).length=n:=(by unfold ofM;rw[List.length_map];exact hx.1);have hid:=(k1s h1 h4 (show 0<n by omega) (show 0<n by omega)).1;rw[hxl] at m1 m2;rw[hx.1,hid] at o1 o2;rw[hx.1] at n1 n3 n4 n5⊢;generalize hM:(opM 1 (idM (n:Int)) (mulM (ofM x) (ofM a) p).1 p).1=M at*
 refine⟨n3,n4,fun i j=>qN (magI (atM M i j)),fun i j hi hj=> ?_,fun i hi=> ?_⟩;obtain⟨q1,q2⟩:=(o2 i hi).2 j hj;obtain⟨d1,d2⟩:=(m2 i hi).2 j hj;have hd:memI (dotQ (fun k=>qN (entQ x i k)) (fun k=>qN (entQ a k j)) n) (atM (mulM (ofM x) (ofM a) p).1 i j):=by rw[d2];refine K2t n d1 fun k hk=>⟨?_,?_⟩;rw[J2r (by rw[hx.1];exact hi) (by rw[(hx.row hi).1];exact hk)];exact⟨Rat.le_refl,Rat.le_refl⟩;rw[J2r (by rw[ha.1];exact hk) (by rw[(ha.row hk).1];exact hj)];exact⟨Rat.le_refl,Rat.le_refl⟩
 have ho:=Q2a 1 q1 (z2u h1 h4 hi hj) hd;rw[exQ1] at ho;rw[<-q2] at ho;have hr:Q0w (atM M i j)=true:=U0u n1 oG oG;show inQ1 (qN (magI (atM M i j))) _;exact(Q2n hr ho).1;have:=n5 i oG;rw[o1] at this;exact this
theorem J2d {a b:Nm}{p:Int}(ha:Q0h a=true)(hb:Q0h b=true)(hp:1<=p.toNat)(hn:b.neg=false)(h:(W0t a b p true).2=0):qN a<=qN (W0t a b p true).1*qN b:=by unfold W0t at h⊢;split at h;exact absurd h (by decide);rename_i hw;rw[if_neg hw];unfold divN at h⊢;have hv:=H0y (V0d (z1q (ofN a) (ofN b) p.toNat) p.toNat true) h;have h0:0<(ofN b).m:=Nat.pos_of_ne_zero fun e=>hw ((X0f hb).1 e);rw[hv.2];have hf:=q3s (ratV (ofN a) (ofN b) p.toNat) p.toNat;have:=(k3n (a:=ofN a) (b:=ofN b) (p:=p.toNat) hn h0 hf).1 (U0t _ _);rw[J0b,J0b] at this;exact this
theorem x1q {y q:Nm}{p:Int}(h:(V0k y q p).2=0){X:Rat}(hX:inQ1 (qN q) (X-qN y)):memI X (V0k y q p).1/\((V0k y q p).1.lo=(Q0t 1 y q p false).1/\(V0k y q p).1.hi=(Q0t 0 y q p true).1/\(Q0t 1 y q p false).2=0/\(Q0t 0 y q p true).2=0):=by unfold V0k at h⊢;split at h;exact absurd h (by decide);rename_i hn;rw[if_neg hn];have e1:(Q0t 1 y q p false).2=0:=Classical.byContradiction fun h=>hn (.inl h);have e2:(Q0t 0 y q p true).2=0:=Classical.byContradiction fun h=>hn (.inr h);have v1:=G0x e1;have v2:=G0x e2;have g1:=y0f (exV 1 (ofN y) (ofN q)) p.toNat;have g2:=U0t (exV 0 (ofN y) (ofN q)) p.toNat;rw[q1c,exQ1,J0b,J0b,<-v1] at g1;rw[q1c,exQ0,J0b,J0b,<-v2] at g2;unfold inQ1 at hX;have:=hX.1;have:=hX.2;exact⟨⟨by show qN (Q0t 1 y q p false).1<=X;grind,by show X<=qN (Q0t 0 y q p true).1;grind⟩,rfl,rfl,e1,e2⟩
def sqG (n:Nat)(x:GJ):Prop:=sqR n x.a/\sqR n x.r
theorem Y1m (x m y:Nm)(p:Int):Q0h (W0e x m y p).1=true:=by unfold W0e;split<;>exact Z0l _ _ _ _ _
theorem U2d (a b:Nm)(p:Int)(up:Bool):Q0h (divN a b p up).1=true:=K0t (w0j (V0d (z1q _ _ _) _ _))
theorem Q1c {n:Nat}(m:Nm)(p:Int)(row other:List Nm)(h:row.length=n):(H0e m p row other).length=n/\ ∀c∈H0e m p row other,Q0h c=true:=by unfold H0e;refine⟨by simp[h],fun c hc=> ?_⟩;simp only[List.mem_map] at hc;obtain⟨j,_,rfl⟩:=hc;exact Y1m _ _ _ _
theorem q0e {n:Nat}(d:Nm)(p:Int)(row:List Nm)(h:row.length=n):(divL d p row).length=n/\ ∀c∈divL d p row,Q0h c=true:=by unfold divL;refine⟨by simp[h],fun c hc=> ?_⟩;simp only[List.mem_map] at hc;obtain⟨j,_,rfl⟩:=hc;exact U2d _ _ _ _
theorem J3k {n:Nat}{p:Int}{k i:Nat}{x:GJ}(h:sqG n x)(hk:k<n)(hi:i<n):sqG n (W1h p k i x):=by unfold W1h;split;exact h;split;exact⟨h.1.set (Q1c _ _ _ _ (h.1.row hi).1),h.2.set (Q1c _ _ _ _ (h.2.row hi).1)⟩;exact h
theorem Q1h {n:Nat}{p:Int}{k:Nat}{x:GJ}(h:sqG n x)(hk:k<n): ∀i,i<=n->sqG n (K0q p k x i)
 | 0,_=>h
 | i+1,hi=>by have:=Q1h (p:=p) h hk i oG;unfold K0q;split;exact J3k this hk oG;exact this
theorem K2h {n k:Nat}{x:GJ}(h:sqG n x)(hk:k<n):sqG n (J3l n k x):=by have:=V1k x.a k (n-(k+1));exact⟨h.1.swap hk oG,h.2.swap hk oG⟩
theorem K2i {n:Nat}{p:Int}{k:Nat}{x:GJ}(h:sqG n x)(hk:k<n):sqG n (q0o p k x):=by unfold q0o;split;exact⟨h.1.set (q0e _ _ _ (h.1.row hk).1),h.2.set (q0e _ _ _ (h.2.row hk).1)⟩;exact h
theorem J3m {n:Nat}{p:Int}{k:Nat}{x:GJ}(h:sqG n x)(hk:k<n):sqG n (J1i p n k x):=by unfold J1i;split;exact h;split;exact Q1h (K2i (K2h h hk) hk) hk n (Nat.le_refl _);exact K2i (K2h h hk) hk
theorem Q1i {n:Nat}{p:Int}{x:GJ}(h:sqG n x): ∀k,k<=n->sqG n (X0s p n x k)
 | 0,_=>h
 | k+1,hk=>by have:=Q1i h k oG (p:=p);unfold X0s;split;exact J3m this oG;exact this
theorem y1k (n:Nat):sqR n (V0e n):=by unfold V0e;refine⟨by simp,fun r hr=> ?_⟩;simp only[List.mem_map] at hr;obtain⟨i,_,rfl⟩:=hr;refine⟨by simp,fun c hc=> ?_⟩;simp only[List.mem_map] at hc;obtain⟨j,_,rfl⟩:=hc;split<;>decide
theorem K1y {a:List (List Nm)}(h:X0r a=true):sqR a.length a/\1<=a.length/\a.length<=4:=by obtain⟨h1,h2,h3⟩:=rightQ_iff.1 h;refine⟨⟨rfl,fun r hr=> ?_⟩,h2,h3⟩;obtain⟨i,hi,rfl⟩:=List.mem_iff_getElem.1 hr;have:=h1 i hi;rw[q_a,List.getElem?_eq_getElem hi] at this;have h5:X0c a[i] a.length=true:=this;unfold X0c at h5;rw[q_i,q_d] at h5;exact⟨q_b h5.2,fun c hc=>h5.1 c hc⟩
theorem Y1n {a:List (List Nm)}{p:Int}(h:(Q0y a p).2=0):X0r a=true/\Z0c p=true/\sqR a.length (Q0y a p).1/\sqR a.length a/\1<=a.length/\a.length<=4/\(X0s p a.length ⟨a,V0e a.length,0⟩ a.length).e=0/\(Q0y a p).1=(X0s p a.length ⟨a,V0e a.length,0⟩ a.length).r:=by unfold Q0y at h⊢;split at h;rename_i hg;rw[if_pos hg];obtain⟨s1,s2,s3⟩:=K1y hg.1;split at h;rename_i he;rw[if_pos he];exact⟨hg.1,hg.2,(Q1i (p:=p) (x:=⟨a,V0e a.length,0⟩) ⟨s1,y1k _⟩ a.length (Nat.le_refl _)).2,s1,s2,s3,he,rfl⟩;rename_i he;exact absurd h he;exact absurd h (by decide)
theorem y2c {a:List (List Nm)}{p:Int}(h:(V0o a p).2=0):(Q0y a p).2=0/\(K0b (Q0y a p).1 a p).2=0/\ ¬cmpR (K0b (Q0y a p).1 a p).1 oneN>=0/\(radQ (Q0y a p).1 (K0b (Q0y a p).1 a p).1 p).2=0/\V0o a p=U0h (fun i j=>V0k (entQ (Q0y a p).1 i j) (radQ (Q0y a p).1 (K0b (Q0y a p).1 a p).1 p).1 p) a.length:=by unfold V0o at h⊢;split at h;rename_i hc;exact absurd h hc;rename_i c1;split at h;rename_i hc;exact absurd h hc;rename_i c2;split at h;exact absurd h (by decide);rename_i c3;split at h;rename_i hc;exact absurd h hc;rename_i c4;refine⟨Classical.byContradiction fun h=>c1 h,Classical.byContradiction fun h=>c2 h,c3,Classical.byContradiction fun h=>c4 h,?_⟩;rw[if_neg c1,if_neg c2,if_neg c3,if_neg c4]
theorem H2u {x:List (List Nm)}{e:Nm}{p:Int}(h:(radQ x e p).2=0):(Q0t 1 oneN e p false).2=0/\(X0n (ofM x) p).2=0/\(Q0t 2 (X0n (ofM x) p).1 e p true).2=0/\radQ x e p=W0t (Q0t 2 (X0n (ofM x) p).1 e p true).1 (Q0t 1 oneN e p false).1 p true:=by unfold radQ at h⊢;split at h;rename_i hc;exact absurd h hc;rename_i c1;split at h;rename_i hc;exact absurd h hc;rename_i c2;split at h;rename_i hc;exact absurd h hc;rename_i c3;refine⟨Classical.byContradiction fun h=>c1 h,Classical.byContradiction fun h=>c2 h,Classical.byContradiction fun h=>c3 h,?_⟩;rw[if_neg c1,if_neg c2,if_neg c3]
theorem G2n (F:Nat->Rat): ∀n,(∀k,k<n->0<=F k)->0<=sumQ F n
 | 0,_=>Rat.le_refl
 | n+1,h=>by have:=G2n F n fun k hk=>h k oG;have:=h n oG;rw[sumQ];grind
theorem X2l {F:Nat->Rat} : ∀ {n j:Nat},(∀k,k<n->0<=F k)->j<n->F j<=sumQ F n
 | 0,j,_,hj=>absurd hj (Nat.not_lt_zero _)
 | n+1,j,h,hj=>by rw[sumQ];by_cases e:j=n;subst e;have:=G2n F j fun k hk=>h k oG;grind;have:=X2l (F:=F) (n:=n) (j:=j) (fun k hk=>h k oG) oG;have:=h n oG;grind
theorem X2s {lo hi:Nm}(h1:Q0h lo=true)(h2:Q0h hi=true)(h:qN lo<=qN hi):Q0w ⟨lo,hi⟩=true:=j0d h1 h2 (cmpN_le.2 h)
theorem j2h (p:Nat):z1b p 0:=⟨0,0,(J0v 0).symm,Nat.zero_le _⟩
theorem j1c {v:Vl}{p:Nat}{up:Bool}(hp:1<=p)(h:0<=qV v):0<=qV (Z0p v p up):=by
 cases up with
 | true=>exact Rat.le_trans h (U0t v p)
 | false=>exact W2l hp (j2h p) h
theorem k1i {x:Nm}(hx:Q0h x=true)(h:0<=qN x):x.neg=false:=by by_cases hw:x.w= [];exact((H2k hx).2.2.2 hw).1;cases hn:x.neg;rfl;exfalso;have hm:(ofN x).m≠0:=fun e=>hw ((X0f hx).1 e);rw[<-J0b] at h;have: ¬qV (ofN x)<0:=(by grind);apply this;rw[<-X2o];show K0v (ofN x)<0;unfold K0v;rw[if_neg hm,show(ofN x).neg=true from hn];decide
theorem K1k {a:List (List Nm)}{p:Int}(h:(V0o a p).2=0):(sqR a.length a/\1<=a.length/\a.length<=4/\Z0c p=true)/\(V0o a p).1.length=a.length/\detQ a.length (fun i j=>qN (entQ a i j))≠0/\
 ∀i,i<a.length->((V0o a p).1.getD i []).length=a.length/\ ∀j,j<a.length->Q0w (atM (V0o a p).1 i j)=true/\memI (cofQ a.length (fun i j=>qN (entQ a i j)) i j/detQ a.length (fun i j=>qN (entQ a i j))) (atM (V0o a p).1 i j):=by
 obtain⟨s1,s2,s3,s4,s5⟩:=y2c h;obtain⟨a1,a2,a3,a4,a5,a6, -, -⟩:=Y1n s1;obtain⟨r1,r2,B,r3,r4⟩:=H1w a3 a4 a5 a6 s2;obtain⟨d1,d2,d3,d4⟩:=H2u s4;rw[d4] at s4;rw[s5] at h⊢;obtain⟨f1,f2⟩:=j0u h;generalize hX:(Q0y a p).1=X at*
 generalize hE:(K0b X a p).1=e at*
 have hp:=k1a a2;have he1:qN e<1:=by rw[G0r r2 G0o] at s3;have:=cmpN_lt.1 (Int.not_le.1 s3);rwa [X1v] at this
 obtain⟨n1,n2,n3,n4,n5⟩:=y0v d2;have hXl:(ofM X).length=a.length:=by unfold ofM;rw[List.length_map];exact a3.1
 --the divisor
 have v1:=G0x d1;have g1:=y0f (exV 1 (ofN oneN) (ofN e)) p.toNat;rw[q1c,exQ1,J0b,J0b,X1v,<-v1] at g1;have v3:=G0x d3;have g3:=U0t (exV 2 (ofN (X0n (ofM X) p).1) (ofN e)) p.toNat;rw[q1c,exQ2,J0b,J0b,<-v3] at g3;have rd:=Z0l 1 oneN e p false;have rq:=Z0l 2 (X0n (ofM X) p).1 e p true;have g0:0<=qN (Q0t 1 oneN e p false).1:=by have:=j1c (v:=exV 1 (ofN oneN) (ofN e)) (p:=p.toNat) (up:=false) hp (by rw[q1c,exQ1,J0b,J0b,X1v];grind);rw[v1];exact this
 have hdn:=k1i rd g0;rw[<-d4] at s4;rw[d4] at s4;have hqu:=J2d rq rd hp hdn s4;rw[<-d4] at hqu;have hq0:0<=qN (radQ X e p).1:=by
  have hpos:0<qN (Q0t 1 oneN e p false).1:=by refine Classical.byContradiction fun hne=> ?_;have hz:qN (Q0t 1 oneN e p false).1=0:=(by grind);have hdef:(Q0t 1 oneN e p false).1=default:=j1h rd V0p (by rw[hz,q1e]);rw[hdef] at s4;unfold W0t at s4;rw[if_pos (show(default:Nm).w= [] from rfl)] at s4;exact absurd s4 (by decide)
  have hn0:0<=qN (X0n (ofM X) p).1*qN e:=Rat.mul_nonneg n3 r1;refine Classical.byContradiction fun hne=> ?_;have hlt:0< -qN (radQ X e p).1:=(by grind);have:=Rat.mul_pos hlt hpos;grind
 refine⟨⟨a4,a5,a6,a2⟩,f1,?_,fun i hi=>⟨(f2 i hi).1,fun j hj=> ?_⟩⟩;exact Y3u (R:=fun i k=>qN (entQ X i k)) (A:=fun i j=>qN (entQ a i j)) (E:=fun i j=>W0i i j-dotQ (fun k=>qN (entQ X i k)) (fun k=>qN (entQ a k j)) a.length) a6 (fun i j _ _=>rfl) B r3 r4 he1;obtain⟨q1,q2⟩:=(f2 i hi).2 j hj;have near:=J3a (R:=fun i k=>qN (entQ X i k)) (A:=fun i j=>qN (entQ a i j)) (E:=fun i j=>W0i i j-dotQ (fun k=>qN (entQ X i k)) (fun k=>qN (entQ a k j)) a.length) a6 (fun i j _ _=>rfl) B r3 r4 he1
  (r:=qN (X0n (ofM X) p).1) (q:=qN (radQ X e p).1) (fun i j hi hj=> ?_) ?_ hi hj
 obtain⟨m1,m2,m3,m4,m5⟩:=x1q q1 near;refine⟨?_,by rw[q2];exact m1⟩;rw[q2];have hlo:Q0h (V0k (entQ X i j) (radQ X e p).1 p).1.lo=true:=(by rw[m2];exact Z0l _ _ _ _ _);have hhi:Q0h (V0k (entQ X i j) (radQ X e p).1 p).1.hi=true:=(by rw[m3];exact Z0l _ _ _ _ _);exact X2s hlo hhi (Rat.le_trans m1.1 m1.2);have hs:=n5 i (by rw[hXl];exact hi);rw[hXl] at hs;have hin:inQ1 (qN (magI (atM (ofM X) i j))) (qN (entQ X i j)):=by have ht:=U0u n1 (show i<(ofM X).length by rw[hXl];exact hi) (show j<(ofM X).length by rw[hXl];exact hj);refine(Q2n ht ?_).1;rw[J2r (by rw[a3.1];exact hi) (by rw[(a3.row hi).1];exact hj)];exact⟨Rat.le_refl,Rat.le_refl⟩
 refine W1a hin (Rat.le_trans (X2l (F:=fun k=>qN (magI (atM (ofM X) i k))) (fun k hk=> ?_) hj) hs);exact(Q2n (U0u n1 (show i<(ofM X).length by rw[hXl];exact hi) (show k<(ofM X).length by rw[hXl];exact hk)) (v3p (U0u n1 (show i<(ofM X).length by rw[hXl];exact hi) (show k<(ofM X).length by rw[hXl];exact hk)))).2;have h1:qN (radQ X e p).1*qN (Q0t 1 oneN e p false).1<=qN (radQ X e p).1*(1-qN e):=Rat.mul_le_mul_of_nonneg_left g1 hq0;grind
theorem x1o {β:Type}{G:Nat->β×Int} : ∀(k i:Nat) (acc:List β),(tabF G i k acc).2≠0->(tabF G i k acc).1= []
 | 0,i,acc,h=>absurd rfl h
 | k+1,i,acc,h=>by unfold tabF at h⊢;split at h;rename_i hc;rw[if_pos hc];rename_i hc;rw[if_neg hc];exact x1o k _ _ h
theorem K3h (lo hi:Vl):(x0t lo hi).2=0\/(x0t lo hi).2=2:=by unfold x0t;split;exact .inl rfl;exact .inr rfl
theorem q2x {k:Nat}{a b:Ivl}{p:Int}(ha:Q0w a=true)(hb:Q0w b=true)(hp:Z0c p=true):(opI k a b p).2=0\/(opI k a b p).2=2:=by unfold opI;rw[if_pos ⟨ha,hb,hp⟩];exact K3h _ _
theorem Z2e {x y:Nat->Ivl}{p:Int}(hp:Z0c p=true): ∀n,(∀k,k<n->Q0w (x k)=true/\Q0w (y k)=true)->(dotF x y p n).2=0\/(dotF x y p n).2=2
 | 0,_=> .inl rfl
 | n+1,h=>by have ih:=Z2e hp n fun k hk=>h k oG;have h2:=q2x (k:=2) (h n oG).1 (h n oG).2 hp;have h3:=q2x (k:=0) (Y0i x y p n) (G0y 2 (x n) (y n) p) hp;unfold dotF;split;exact ih;split;exact h2;split;exact h2;split;exact h3;exact h3
theorem H3s {a b:Mx}{p:Int}(ha:rightM a=true)(hb:rightM b=true)(hl:a.length=b.length)(hp:Z0c p=true):(mulM a b p).2=0\/(mulM a b p).2=2:=by unfold mulM;rw[if_pos ⟨ha,hb,hl,hp⟩];exact J3y fun i j hi hj=>Z2e hp _ fun k hk=>⟨U0u ha hi hk,U0u hb oG oG⟩
theorem Q2h {a b:Mx}{p:Int}(h:(mulM a b p).2=0):rightM (mulM a b p).1=true/\(mulM a b p).1.length=a.length:=by obtain⟨⟨r1,r2,r3,r4⟩,m1,m2⟩:=J2y h;have:=Z0u r1;refine⟨rightM_iff.2 ⟨fun i hi=> ?_,oG,oG⟩,m1⟩;rw[m1] at hi⊢;refine⟨(m2 i hi).1,U0v (fun j hj=> ?_) (by rw[(m2 i hi).1];omega) (by rw[(m2 i hi).1];omega)⟩;rw[(m2 i hi).1] at hj;have:=((m2 i hi).2 j hj).2;unfold atM at this;rw[this];exact Y0i _ _ _ _
theorem H1r {a:List (List Nm)}{k:Nat}(h:k<a.length):a.set k (a.getD k [])=a:=by rw[q_a,List.getElem?_eq_getElem h];exact List.set_getElem_self h
theorem H2v {X:List (List Nm)}{e:Nm}{p:Int}(hp:Z0c p=true)(r1:0<=qN e)(he1:qN e<1)(h:(radQ X e p).2=0):0<=qN (radQ X e p).1/\Q0h (radQ X e p).1=true:=by
 obtain⟨d1,d2,d3,d4⟩:=H2u h;have hpp:=k1a hp;obtain⟨n1,n2,n3,n4,n5⟩:=y0v d2;have v1:=G0x d1;have v3:=G0x d3;have g3:=U0t (exV 2 (ofN (X0n (ofM X) p).1) (ofN e)) p.toNat;rw[q1c,exQ2,J0b,J0b,<-v3] at g3;have rd:=Z0l 1 oneN e p false;have rq:=Z0l 2 (X0n (ofM X) p).1 e p true;have g0:0<=qN (Q0t 1 oneN e p false).1:=by have:=j1c (v:=exV 1 (ofN oneN) (ofN e)) (p:=p.toNat) (up:=false) hpp (by rw[q1c,exQ1,J0b,J0b,X1v];grind);rw[v1];exact this
 have hdn:=k1i rd g0;rw[d4] at h⊢;refine⟨?_,v0r _ _ _ _⟩;have hqu:=J2d rq rd hpp hdn h;have hpos:0<qN (Q0t 1 oneN e p false).1:=by refine Classical.byContradiction fun hne=> ?_;have hz:qN (Q0t 1 oneN e p false).1=0:=(by grind);have hdef:(Q0t 1 oneN e p false).1=default:=j1h rd V0p (by rw[hz,q1e]);rw[hdef] at h;unfold W0t at h;rw[if_pos (show(default:Nm).w= [] from rfl)] at h;exact absurd h (by decide)
 have hn0:0<=qN (X0n (ofM X) p).1*qN e:=Rat.mul_nonneg n3 r1;refine Classical.byContradiction fun hne=> ?_;have hlt:0< -qN (W0t (Q0t 2 (X0n (ofM X) p).1 e p true).1 (Q0t 1 oneN e p false).1 p true).1:=(by grind);have:=Rat.mul_pos hlt hpos;grind
theorem V2y {y q:Nm}{p:Int}(hq:0<=qN q)(h1:(Q0t 1 y q p false).2=0)(h2:(Q0t 0 y q p true).2=0):Q0w ⟨(Q0t 1 y q p false).1,(Q0t 0 y q p true).1⟩=true:=by
 have hs:(V0k y q p).2=0:=by unfold V0k;rw[if_neg (by rw[h1,h2];simp)]
 have hm:=(x1q (X:=qN y) hs ⟨by grind,by grind⟩).1;have he:(V0k y q p).1=⟨(Q0t 1 y q p false).1,(Q0t 0 y q p true).1⟩:=(by unfold V0k;rw[if_neg (by rw[h1,h2];simp)]);rw[he] at hm;exact X2s (Z0l _ _ _ _ _) (Z0l _ _ _ _ _) (Rat.le_trans hm.1 hm.2)
def j0t (G:Nat->Nat->Ivl×Int)(n:Nat):Mx:=(List.range n).map fun i=>(List.range n).map fun j=>(G i j).1
theorem J3x {G:Nat->Nat->Ivl×Int}{n:Nat}(h: ∀i j,i<n->j<n->(G i j).2=0):U0h G n=(j0t G n,0):=by have h0:=J3w h;obtain⟨f1,f2⟩:=j0u h0;refine Prod.ext ?_ h0;show(U0h G n).1=j0t G n;refine List.ext_getElem (by rw[f1];simp[j0t]) fun i h1 h2=> ?_;have hi:i<n:=(by rw[f1] at h1;exact h1);have e1:(U0h G n).1[i]=(U0h G n).1.getD i []:=(by rw[q_a,List.getElem?_eq_getElem h1];rfl);have e2:(j0t G n)[i]=(List.range n).map fun j=>(G i j).1:=(by simp[j0t]);rw[e1,e2];refine List.ext_getElem (by rw[(f2 i hi).1];simp) fun j h3 h4=> ?_;have hj:j<n:=(by rw[(f2 i hi).1] at h3;exact h3);have e3:=((f2 i hi).2 j hj).2;unfold atM at e3;rw[q_a,List.getElem?_eq_getElem h3,Option.getD_some] at e3;rw[e3,List.getElem_map,List.getElem_range]
theorem j2k {G:Nat->Nat->Ivl×Int}{n i j:Nat}{e:Int}(he:e≠0)(hG: ∀i j,(G i j).2=0\/(G i j).2=e)(hi:i<n)(hj:j<n)(h:(G i j).2=e):U0h G n=([],e):=by
 have hne:(U0h G n).2≠0:=fun h0=>by have:=((j0u h0).2 i hi).2 j hj;rw[this.1] at h;exact he h.symm
 have key: ∀ {β:Type} (F:Nat->β×Int) (k i:Nat) (acc:List β),(∀j,(F j).2=0\/(F j).2=e)->(tabF F i k acc).2=0\/tabF F i k acc=([],e):=by
  intro β F k
  induction k with
  | zero=>intro i acc _;exact .inl rfl
  | succ k ih=>
   intro i acc hF;unfold tabF;split;rename_i hc;exact .inr (by rw[(hF i).resolve_left hc]);exact ih _ _ hF
 refine(key _ _ _ _ fun j=> ?_).resolve_left hne;rcases key (fun j'=>G j j') n 0 [] (hG j) with h | h;exact .inl h;exact .inr (by rw[h])
def bdR (n S:Nat)(l:List Nm):Prop:= ∀j,j<n->luQ S S (qN (l.getD j default))
def bdQ (n S:Nat)(a:List (List Nm)):Prop:= ∀i,i<n->bdR n S (a.getD i [])
theorem bdR.mono {n S T:Nat}{l:List Nm}(h:bdR n S l)(hl:S<=T):bdR n T l:=fun j hj=>(h j hj).mono hl hl
theorem bdQ.mono {n S T:Nat}{a:List (List Nm)}(h:bdQ n S a)(hl:S<=T):bdQ n T a:=fun i hi=>(h i hi).mono hl
theorem W1j {a:List (List Nm)}{i:Nat}{r:List Nm}(hi:i<a.length)(k:Nat):(a.set i r).getD k []=if k=i then r else a.getD k []:=by rw[K0e];by_cases e:k=i;subst e;rw[if_pos ⟨rfl,hi⟩,if_pos rfl];rw[if_neg fun h=>e h.1.symm,if_neg e]
theorem K1l {a:List (List Nm)}{p:Int}(h:(V0o a p).2=0):rightM (V0o a p).1=true:=by obtain⟨⟨-,h1,h4, -⟩,hl, -,hs⟩:=K1k h;refine rightM_iff.2 ⟨fun i hi=> ?_,oG,oG⟩;rw[hl] at hi⊢;refine⟨(hs i hi).1,U0v (fun j hj=> ?_) (by rw[(hs i hi).1];omega) (by rw[(hs i hi).1];omega)⟩;rw[(hs i hi).1] at hj;exact((hs i hi).2 j hj).1
end Go.Pv
end
