/- Parts of the walk: M85, M86, M87, M88, M90, M91, M92. -/
import Derived.Test.YtofoadghajnglaaGreatDoorZBA
import Derived.Test.YtofoadghajnglaaGreatDoorZFD
import Derived.Test.YtofoadghajnglaaGreatDoorZBR
set_option linter.unusedVariables false
set_option linter.unusedSimpArgs false
section
/-Determinants and cofactors of matrices of rational numbers,up to four rows. No program in it. -/
namespace Go.Pv
def k0h (j k:Nat):Nat:=if k<j then k else k+1
def sgnQ (j:Nat) (x:Rat):Rat:=if j % 2=1 then -x else x
def detS (f:Nat→Nat→Rat) (D:Nat→Rat):Nat→Rat
 | 0=>0
 | j+1=>detS f D j+sgnQ j (f 0 j*D j)
def detQ :Nat→(Nat→Nat→Rat)→Rat
 | 0,_=>1
 | n+1,f=>detS f (fun j=>detQ n fun i k=>f (i+1) (k0h j k)) (n+1)
def cofQ (n:Nat) (f:Nat→Nat→Rat) (i j:Nat):Rat:=sgnQ (i+j) (detQ (n-1) fun a b=>f (k0h j a) (k0h i b))
theorem det1 (f:Nat→Nat→Rat):detQ 1 f=f 0 0:=by
 simp [detQ,detS,sgnQ];try grind
theorem det2 (f:Nat→Nat→Rat):detQ 2 f=f 0 0*f 1 1-f 0 1*f 1 0:=by
 rw [detQ]
 simp [detS,det1,sgnQ,k0h];grind
theorem det3 (f:Nat→Nat→Rat):detQ 3 f=f 0 0*(f 1 1*f 2 2-f 1 2*f 2 1)-f 0 1*(f 1 0*f 2 2-f 1 2*f 2 0)+f 0 2*(f 1 0*f 2 1-f 1 1*f 2 0):=by
 rw [detQ]
 simp [detS,det2,sgnQ,k0h];grind
theorem det4 (f:Nat→Nat→Rat):detQ 4 f=f 0 0*detQ 3 (fun i k=>f (i+1) (k0h 0 k))-f 0 1*detQ 3 (fun i k=>f (i+1) (k0h 1 k))+f 0 2*detQ 3 (fun i k=>f (i+1) (k0h 2 k))-f 0 3*detQ 3 (fun i k=>f (i+1) (k0h 3 k)):=by
 rw [detQ]
 simp [detS,sgnQ];grind
theorem W2o (n:Nat) (h1:1≤n) (h4:n≤4) (f:Nat→Nat→Rat) (i j:Nat) (hi:i<n) (hj:j<n):dotQ (f i) (fun k=>cofQ n f k j) n=detQ n f*V0j i j:=by
 have hn:n=1∨n=2∨n=3∨n=4:=by omega
 rcases hn with rfl | rfl | rfl | rfl
 · have:i=0:=by omega
   have:j=0:=by omega
   subst_vars
   simp [dotQ,cofQ,V0j,det1,detQ,detS,sgnQ];try grind
 · have:i=0∨i=1:=by omega
   have:j=0∨j=1:=by omega
   rcases ‹i=0∨i=1›with rfl | rfl<;>rcases ‹j=0∨j=1›with rfl | rfl<;>simp [dotQ,cofQ,V0j,det2,det1,sgnQ,k0h]<;>grind
 · have a1:i=0∨i=1∨i=2:=by omega
   have a2:j=0∨j=1∨j=2:=by omega
   rcases a1 with rfl | rfl | rfl<;>rcases a2 with rfl | rfl | rfl<;>simp [dotQ,cofQ,V0j,det3,det2,sgnQ,k0h]<;>grind
 · have a1:i=0∨i=1∨i=2∨i=3:=by omega
   have a2:j=0∨j=1∨j=2∨j=3:=by omega
   rcases a1 with rfl | rfl | rfl | rfl<;>rcases a2 with rfl | rfl | rfl | rfl<;>simp [dotQ,cofQ,V0j,det4,det3,sgnQ,k0h]<;>grind
def kerQ (n:Nat) (f:Nat→Nat→Rat) (x:Nat→Rat):Prop:=(∃i,i<n∧x i≠0)∧ ∀i,i<n→dotQ (f i) x n=0
def w0j (f:Nat→Nat→Rat) (r:Nat):Nat→Nat→Rat:=fun i k=>if i=0 then f r k else if i=r then f 0 k else f i k
theorem x2e (n:Nat) (h4:n≤4) (f:Nat→Nat→Rat) (r:Nat) (h0:0<r) (hr:r<n):detQ n (w0j f r)= -detQ n f:=by
 have hn:n=2∨n=3∨n=4:=by omega
 rcases hn with rfl | rfl | rfl
 · have:r=1:=by omega
   subst this
   simp [det2,w0j];grind
 · have a:r=1∨r=2:=by omega
   rcases a with rfl | rfl<;>simp [det3,w0j]<;>grind
 · have a:r=1∨r=2∨r=3:=by omega
   rcases a with rfl | rfl | rfl<;>simp [det4,det3,w0j,k0h]<;>grind
theorem q2o {n:Nat} {f:Nat→Nat→Rat} {x:Nat→Rat} {r:Nat} (hr:r<n) (h:kerQ n (w0j f r) x):kerQ n f x:=by
 have e0:w0j f r 0=f r:=by funext k;simp [w0j]
 have e1:r≠0→w0j f r r=f 0:=fun hr=>by funext k;simp [w0j,hr]
 have e2: ∀i,i≠0→i≠r→w0j f r i=f i:=fun i h1 h2=>by funext k;simp [w0j,h1,h2]
 refine⟨h.1,fun i hi=> ?_⟩
 by_cases z0:i=0
 · subst z0
   by_cases er:r=0
   · subst er
     rw [←e0];exact h.2 0 hi
   · rw [←e1 er];exact h.2 r hr
 · by_cases er:i=r
   · subst er
     rw [←e0];exact h.2 0 (by omega)
   · rw [←e2 i z0 er];exact h.2 i hi
def Z1f (f:Nat→Nat→Rat):Nat→Nat→Rat:=fun i k=>f (i+1) (k+1)-f (i+1) 0/f 0 0*f 0 (k+1)
theorem W2f (n:Nat) (h4:n≤3) (f:Nat→Nat→Rat) (h:f 0 0≠0):detQ (n+1) f=f 0 0*detQ n (Z1f f):=by
 have e1:f 1 0=f 1 0/f 0 0*f 0 0:=by grind
 have e2:f 2 0=f 2 0/f 0 0*f 0 0:=by grind
 have e3:f 3 0=f 3 0/f 0 0*f 0 0:=by grind
 have hn:n=0∨n=1∨n=2∨n=3:=by omega
 rcases hn with rfl | rfl | rfl | rfl
 · rw [det1];simp [detQ];try grind
 · rw [det2,det1]
   simp only [Z1f]
   generalize f 1 0/f 0 0=a at*
   rw [e1];grind
 · rw [det3,det2]
   simp only [Z1f]
   generalize f 1 0/f 0 0=a at*
   generalize f 2 0/f 0 0=b at*
   rw [e1,e2];grind
 · rw [det4,det3,det3,det3,det3,det3]
   simp only [Z1f,k0h]
   simp
   generalize f 1 0/f 0 0=a at*
   generalize f 2 0/f 0 0=b at*
   generalize f 3 0/f 0 0=c at*
   rw [e1,e2,e3];grind
theorem y0h (X Y:Nat→Rat): ∀n,dotQ X Y (n+1)=X 0*Y 0+dotQ (fun k=>X (k+1)) (fun k=>Y (k+1)) n
 | 0=>by simp [dotQ];try grind
 | n+1=>by
  rw [dotQ,y0h X Y n,dotQ];grind
theorem W0n {X X' Y Y':Nat→Rat} : ∀n,(∀k,k<n→X k=X' k∧Y k=Y' k)→dotQ X Y n=dotQ X' Y' n
 | 0,_=>rfl
 | n+1,h=>by rw [dotQ,dotQ,W0n n fun k hk=>h k (by omega),(h n (by omega)).1,(h n (by omega)).2]
theorem Q1m (X X' Y:Nat→Rat) (a:Rat): ∀n,dotQ (fun k=>X k+a*X' k) Y n=dotQ X Y n+a*dotQ X' Y n
 | 0=>by simp [dotQ];try grind
 | n+1=>by rw [dotQ,dotQ,dotQ,Q1m X X' Y a n];grind
theorem V1u (X Y:Nat→Rat) (a:Rat): ∀n,dotQ (fun k=>a*X k) Y n=a*dotQ X Y n
 | 0=>by simp [dotQ]
 | n+1=>by rw [dotQ,dotQ,V1u X Y a n];grind
theorem W2b (X Y:Nat→Rat) (d:Rat) (n:Nat):dotQ (fun k=>X k/d) Y n=dotQ X Y n/d:=by
 have:=V1u X Y (1/d) n
 rw [W0n n (X':=fun k=>1/d*X k) (Y':=Y) fun k _=>⟨by grind,rfl⟩,this]
 grind
theorem q1a (a:Nat→Rat) (A:Nat→Nat→Rat) (x:Nat→Rat) (n:Nat): ∀m,dotQ a (fun k=>dotQ (A k) x n) m=dotQ (fun j=>dotQ a (fun k=>A k j) m) x n
 | 0=>by
  rw [dotQ,z0n n fun k _=> ?_]
  simp [dotQ]
 | m+1=>by
  rw [dotQ,q1a a A x n m,←Q1m];rfl
theorem V1e : ∀(n:Nat),n≤4→ ∀f:Nat→Nat→Rat,detQ n f=0→ ∃x,kerQ n f x
 | 0,_,f,h=>by rw [detQ] at h;exact absurd h (by decide)
 | n+1,h4,f,h=>by
  have main: ∀f:Nat→Nat→Rat,f 0 0≠0→detQ (n+1) f=0→ ∃x,kerQ (n+1) f x:=fun f h0 h=>by
   rw [W2f n (by omega) f h0] at h
   have hz:detQ n (Z1f f)=0:=by
    rcases Rat.mul_eq_zero.1 h with h | h
    · exact absurd h h0
    · exact h
   obtain⟨y,⟨i,hi,hy⟩,hk⟩:=V1e n (by omega) _ hz
   refine⟨fun k=>if k=0 then -(dotQ (fun k=>f 0 (k+1)) y n)/f 0 0 else y (k-1),⟨i+1,by omega,by simpa using hy⟩,fun r hr=> ?_⟩
   rw [y0h]
   have e:dotQ (fun k=>f r (k+1)) (fun k=>if k+1=0 then -(dotQ (fun k=>f 0 (k+1)) y n)/f 0 0 else y (k+1-1)) n=dotQ (fun k=>f r (k+1)) y n:=W0n n fun k hk=>⟨rfl,by simp⟩
   rw [e,if_pos rfl]
   cases r with
   | zero=>grind
   | succ r=>
    have h2:=hk r (by omega)
    have h3:dotQ (Z1f f r) y n=dotQ (fun k=>f (r+1) (k+1)) y n+ -(f (r+1) 0/f 0 0)*dotQ (fun k=>f 0 (k+1)) y n:=by
     rw [←Q1m]
     exact W0n n fun k _=>⟨by unfold Z1f;grind,rfl⟩
    rw [h3] at h2
    grind
  by_cases ha: ∀i,i<n+1→f i 0=0
  · refine⟨fun k=>if k=0 then 1 else 0,⟨0,by omega,by simp⟩,fun i hi=> ?_⟩
    rw [y0h,ha i hi,z0n n fun k _=>by simp]
    grind
  · obtain⟨r,hr⟩: ∃r,¬(r<n+1→f r 0=0):=Classical.not_forall.1 ha
    have hr1:r<n+1:=Classical.byContradiction fun h=>hr fun h2=>absurd h2 h
    have hr2:f r 0≠0:=fun h=>hr fun _=>h
    by_cases h0:r=0
    · subst h0;exact main f hr2 h
    · obtain⟨x,hx⟩:=main (w0j f r) (by simpa [w0j] using hr2) (by rw [x2e (n+1) h4 f r (by omega) hr1,h];grind)
      exact⟨x,q2o hr1 hx⟩
def absQ (x:Rat):Rat:=if x<0 then -x else x
theorem Y2p (x:Rat):inQ1 (absQ x) x:=by unfold absQ inQ1;split<;>constructor<;>grind
theorem Y2o {a x:Rat} (h:inQ1 a x):absQ x≤a:=by unfold absQ;have:=h.1;have:=h.2;split<;>grind
theorem j1u (x:Rat):0≤absQ x:=by unfold absQ;split<;>grind
theorem Y2n {x:Rat} (h:absQ x=0):x=0:=by unfold absQ at h;split at h<;>grind
theorem x1m (x:Nat→Rat): ∀n,0<n→ ∃m,m<n∧ ∀k,k<n→absQ (x k)≤absQ (x m)
 | 0,h=>absurd h (by decide)
 | 1,_=>⟨0,by decide,fun k hk=>by have:k=0:=by omega
                                  subst this;exact Rat.le_refl⟩
 | n+2,_=>by
  obtain⟨m,h1,h2⟩:=x1m x (n+1) (by omega)
  by_cases hc:absQ (x (n+1))≤absQ (x m)
  · exact⟨m,by omega,fun k hk=>if e:k=n+1 then e▸hc else h2 k (by omega)⟩
  · have hc':absQ (x m)≤absQ (x (n+1)):=by grind
    exact⟨n+1,by omega,fun k hk=>if e:k=n+1 then e▸Rat.le_refl else Rat.le_trans (h2 k (by omega)) hc'⟩
theorem X1r {a b x:Rat} (h:inQ1 a x) (hab:a≤b):inQ1 b x:=by
 unfold inQ1 at*;have:=h.1;have:=h.2;constructor<;>grind
section
variable {n:Nat} {A R E:Nat→Nat→Rat} {e:Rat}
theorem ra_x (hE: ∀i j,i<n→j<n→E i j=V0j i j-dotQ (R i) (fun k=>A k j) n) (x:Nat→Rat) {i:Nat} (hi:i<n):dotQ (R i) (fun k=>dotQ (A k) x n) n=x i-dotQ (E i) x n:=by
 rw [q1a]
 have h1:dotQ (E i) x n=dotQ (fun j=>V0j i j+(-1)*dotQ (R i) (fun k=>A k j) n) x n:=W0n n fun k hk=>⟨by rw [hE i k hi hk];grind,rfl⟩
 rw [h1,Q1m,y0i n hi];grind
theorem v2c (h4:n≤4) (hE: ∀i j,i<n→j<n→E i j=V0j i j-dotQ (R i) (fun k=>A k j) n) (B:Nat→Nat→Rat) (hB: ∀i j,i<n→j<n→inQ1 (B i j) (E i j)) (he: ∀i,i<n→sumQ (B i) n≤e) (h1:e<1):detQ n A≠0:=by
 intro h
 obtain⟨x,⟨i,hi,hx⟩,hk⟩:=V1e n h4 A h
 obtain⟨m,hm,hmx⟩:=x1m x n (by omega)
 have hb:inQ1 (sumQ (B m) n*absQ (x m)) (dotQ (E m) x n):=y0j n fun k hk=>⟨hB m k hm hk,X1r (Y2p _) (hmx k hk)⟩
 have hz:=ra_x hE x hm
 rw [z0n n fun k hk2=>by rw [hk k hk2,Rat.mul_zero]] at hz
 have h2:x m=dotQ (E m) x n:=by grind
 rw [←h2] at hb
 have h3:=Y2o hb
 have h4:=j1u (x m)
 have h5:sumQ (B m) n*absQ (x m)≤e*absQ (x m):=Rat.mul_le_mul_of_nonneg_right (he m hm) h4
 have h6:0≤(1-e):=by grind
 have h7:(1-e)*absQ (x m)≤0:=by grind
 have h8:absQ (x m)=0:=by
  refine Classical.byContradiction fun hne=> ?_
  have:0<absQ (x m):=by grind
  have:=Rat.mul_pos (show 0<1-e by grind) this
  grind
 have h9:=hmx i hi
 have h10:=j1u (x i)
 exact hx (Y2n (by grind))
theorem q2w (h4:n≤4) (hE: ∀i j,i<n→j<n→E i j=V0j i j-dotQ (R i) (fun k=>A k j) n) (B:Nat→Nat→Rat) (hB: ∀i j,i<n→j<n→inQ1 (B i j) (E i j)) (he: ∀i,i<n→sumQ (B i) n≤e) (h1:e<1)
 {r q:Rat} (hr: ∀i j,i<n→j<n→inQ1 r (R i j)) (hq:e*r≤q*(1-e)) {i j:Nat} (hi:i<n) (hj:j<n):inQ1 q (cofQ n A i j/detQ n A-R i j):=by
 have hd:=v2c h4 hE B hB he h1
 have h1n:1≤n:=by omega
 let x:Nat→Rat:=fun k=>cofQ n A k j/detQ n A
 have hx: ∀k,k<n→dotQ (A k) x n=V0j k j:=fun k hk=>by
  have c:=W2o n h1n h4 A k j hk hj
  rw [J1h] at c⊢
  show dotQ (fun l=>cofQ n A l j/detQ n A) (A k) n=_
  rw [W2b,c];grind
 have hrx: ∀i,i<n→x i-R i j=dotQ (E i) x n:=fun i hi=>by
  have:=ra_x hE x hi
  rw [W0n n (fun k hk=>⟨rfl,hx k hk⟩)] at this
  rw [J1h,show dotQ (fun k=>V0j k j) (R i) n=dotQ (V0j j) (R i) n from W0n n fun k _=>⟨by unfold V0j;split<;>split<;>first | rfl | omega,rfl⟩,y0i n hj] at this
  grind
 obtain⟨m,hm,hmx⟩:=x1m x n (by omega)
 have hb: ∀i,i<n→inQ1 (e*absQ (x m)) (dotQ (E i) x n):=fun i hi=>X1r (y0j n fun k hk=>⟨hB i k hi hk,X1r (Y2p _) (hmx k hk)⟩) (Rat.mul_le_mul_of_nonneg_right (he i hi) (j1u _))
 have b1:=hb m hm
 rw [←hrx m hm] at b1
 have b2:=hr m j hm hj
 have b3:absQ (x m)≤r+e*absQ (x m):=Y2o (by unfold inQ1 at*;have:=b1.1;have:=b1.2;have:=b2.1;have:=b2.2;constructor<;>grind)
 have e0:0≤e:=by
  have:=he m hm
  have:0≤sumQ (B m) n:=by
   have hs: ∀l,l≤n→0≤sumQ (B m) l:=fun l=>by
    induction l with
    | zero=>intro _;exact Rat.le_refl
    | succ l ih=>
     intro hl
     have:=ih (by omega)
     have hbl:=hB m l hm (by omega)
     unfold inQ1 at hbl
     rw [sumQ];grind
   exact hs n (Nat.le_refl _)
  grind
 have b4:(e*absQ (x m))*(1-e)≤q*(1-e):=by
  have:e*(absQ (x m)*(1-e))≤e*r:=Rat.mul_le_mul_of_nonneg_left (by grind) e0
  grind
 have b5:e*absQ (x m)≤q:=by
  refine Classical.byContradiction fun hne=> ?_
  have hlt:0<e*absQ (x m)-q:=by grind
  have:=Rat.mul_pos hlt (show 0<1-e by grind)
  grind
 have:=hb i hi
 rw [←hrx i hi] at this
 exact X1r this b5
end
end Go.Pv
end
section
/-The inverse for sure:what is answered has it. No program in it. -/
namespace Go.Pv
theorem z0j {G:Nat→Nat→Ivl×Int} {n:Nat} (h:(Y0g G n).2=0):(Y0g G n).1.length=n∧ ∀i,i<n→((Y0g G n).1.getD i []).length=n∧ ∀j,j<n→(G i j).2=0∧atM (Y0g G n).1 i j=(G i j).1:=by
 obtain⟨g1,g2,g3⟩:=k0d h
 refine⟨g1,fun i hi=> ?_⟩
 have e:(Y0g G n).1.getD i []=(tabF (fun j=>G i j) 0 n []).1:=g3 i hi
 obtain⟨r1,r2,r3⟩:=k0d (g2 i hi)
 refine⟨by rw [e];exact r1,fun j hj=>⟨r2 j hj,?_⟩⟩
 unfold atM
 rw [e];exact r3 j hj
theorem z2n {G:Nat→Nat→Ivl×Int} {n:Nat} (h: ∀i j,i<n→j<n→(G i j).2=0):(Y0g G n).2=0:=
 W1g _ _ _ fun i _ hi=>W1g _ _ _ fun j _ hj=>h i j (by omega) (by omega)
theorem W1w {q:List (List Nm)} {i:Nat} (hi:i<q.length):(ofM q).getD i []=(q.getD i []).map fun x=>⟨x,x⟩:=by
 unfold ofM ofB
 rw [List.getD_eq_getElem?_getD,List.getElem?_map,List.getElem?_eq_getElem hi,List.getD_eq_getElem?_getD,List.getElem?_eq_getElem hi];rfl
theorem v1f {q:List (List Nm)} {i j:Nat} (hi:i<q.length) (hj:j<(q.getD i []).length):atM (ofM q) i j=⟨entQ q i j,entQ q i j⟩:=by
 unfold atM entQ
 rw [W1w hi]
 generalize q.getD i []=r at hj⊢
 rw [List.getD_eq_getElem?_getD,List.getElem?_map,List.getElem?_eq_getElem hj,List.getD_eq_getElem?_getD,List.getElem?_eq_getElem hj];rfl
theorem J2s {q:List (List Nm)} {i:Nat} (hi:i<q.length):((ofM q).getD i []).length=(q.getD i []).length:=by
 rw [W1w hi,List.length_map]
theorem sqR.rightM {n:Nat} {a:List (List Nm)} (h:sqR n a) (h1:1≤n) (h4:n≤4):rightM (ofM a)=true:=by
 have hl:(ofM a).length=n:=by unfold ofM;rw [List.length_map];exact h.1
 refine rightM_iff.2 ⟨fun i hi=> ?_,by omega,by omega⟩
 rw [hl] at hi⊢
 have h0:i<a.length:=by rw [h.1];exact hi
 have hr:=h.row hi
 refine⟨by rw [J2s h0];exact hr.1,?_⟩
 have hlr:((ofM a).getD i []).length=n:=by rw [J2s h0];exact hr.1
 refine Z1n (fun j hj=> ?_) (by omega) (by omega)
 rw [hlr] at hj
 have e:((ofM a).getD i []).getD j default=atM (ofM a) i j:=rfl
 rw [e,v1f h0 (by rw [hr.1];exact hj)]
 exact x1a (h.ent hi hj)
theorem Z2z {r:Nat→Ivl} {p:Int} : ∀j,(sumF r p j).2=0→sumQ (fun k=>qN (magI (r k))) (j+1)≤qN (sumF r p j).1
 | 0,_=>by
  show 0+qN (magI (r 0))≤qN (magI (r 0))
  rw [Rat.zero_add];exact Rat.le_refl
 | j+1,h=>by
  have h0:(sumF r p j).2=0:=by
   refine Classical.byContradiction fun hne=> ?_
   rw [sumF,if_pos hne] at h
   exact hne h
  have ih:=Z2z j h0
  rw [Q1y h0] at h⊢
  have hv:=U0a h
  have hg:=W0x (exV 0 (ofN (sumF r p j).1) (ofN (magI (r (j+1))))) p.toNat
  rw [W1r,exQ0,J0o,J0o] at hg
  show sumQ (fun k=>qN (magI (r k))) (j+1)+qN (magI (r (j+1)))≤_
  rw [hv]
  grind
theorem v1j {m:Mx} {p:Int} (hl:1≤m.length): ∀i,(V0e m p i).2=0→0≤qN (V0e m p i).1∧ ∀k,k<i→sumQ (fun j=>qN (magI (atM m k j))) m.length≤qN (V0e m p i).1
 | 0,_=>⟨by show 0≤qN (default:Nm);rw [z1w];exact Rat.le_refl,fun k hk=>by omega⟩
 | i+1,h=>by
  have h0:(V0e m p i).2=0:=by
   refine Classical.byContradiction fun hne=> ?_
   rw [V0e,if_pos hne] at h
   exact hne h
  have hs:(sumF (atM m i) p (m.length-1)).2=0:=by
   refine Classical.byContradiction fun hne=> ?_
   rw [V0e,if_neg (fun e=>e h0),if_pos hne] at h
   exact hne h
  obtain⟨h2,h4⟩:=v1j hl i h0
  have s3:=Z2z _ hs
  rw [show m.length-1+1=m.length from by omega] at s3
  have hsr:=Y0o (atM m i) p (m.length-1)
  have hnr:=U0d m p i
  rw [w0v h0 hs,Y0u hsr hnr]
  split
  · rename_i hc
    have hc:=cmpN_gt.1 hc
    refine⟨by show 0≤qN (sumF (atM m i) p (m.length-1)).1;grind,fun k hk=> ?_⟩
    show _≤qN (sumF (atM m i) p (m.length-1)).1
    by_cases e:k=i
    · subst e;exact s3
    · have:=h4 k (by omega);grind
  · rename_i hc
    have hc:=cmpN_le.1 (Int.not_lt.1 hc)
    refine⟨h2,fun k hk=> ?_⟩
    show _≤qN (V0e m p i).1
    by_cases e:k=i
    · subst e;grind
    · exact h4 k (by omega)
theorem v0a {m:Mx} {p:Int} (h:(Z0y m p).2=0):rightM m=true∧Z0p p=true∧0≤qN (Z0y m p).1∧Q0j (Z0y m p).1=true∧ ∀k,k<m.length→sumQ (fun j=>qN (magI (atM m k j))) m.length≤qN (Z0y m p).1:=by
 have hg:rightM m=true∧Z0p p=true:=by
  refine Classical.byContradiction fun hne=> ?_
  rw [Z0y,if_neg hne] at h
  exact absurd h (by decide)
 rw [Z0y,if_pos hg] at h⊢
 obtain⟨a,b⟩:=v1j (J0t hg.1).1 _ h
 exact⟨hg.1,hg.2,a,U0d m p _,b⟩
def J0h (x a:List (List Nm)) (p:Int):Nm×Int:=
 if (mulM (ofM x) (ofM a) p).2≠0 then(default,(mulM (ofM x) (ofM a) p).2) else
 if (opM 1 (idM (x.length:Int)) (mulM (ofM x) (ofM a) p).1 p).2≠0 then(default,(opM 1 (idM (x.length:Int)) (mulM (ofM x) (ofM a) p).1 p).2) else
 Z0y (opM 1 (idM (x.length:Int)) (mulM (ofM x) (ofM a) p).1 p).1 p
def radQ (x:List (List Nm)) (e:Nm) (p:Int):Nm×Int:=
 if (Q0t 1 oneN e p false).2≠0 then(default,(Q0t 1 oneN e p false).2) else
 if (Z0y (ofM x) p).2≠0 then(default,(Z0y (ofM x) p).2) else
 if (Q0t 2 (Z0y (ofM x) p).1 e p true).2≠0 then(default,(Q0t 2 (Z0y (ofM x) p).1 e p true).2) else
 W0y (Q0t 2 (Z0y (ofM x) p).1 e p true).1 (Q0t 1 oneN e p false).1 p true
def K0r (y q:Nm) (p:Int):Ivl×Int:=if (Q0t 1 y q p false).2≠0∨(Q0t 0 y q p true).2≠0 then(default,2) else(⟨(Q0t 1 y q p false).1,(Q0t 0 y q p true).1⟩,0)
def K0d (a:List (List Nm)) (p:Int):Mx×Int:=
 if (Q0q a p).2≠0 then([],(Q0q a p).2) else
 if (J0h (Q0q a p).1 a p).2≠0 then([],(J0h (Q0q a p).1 a p).2) else
 if cmpR (J0h (Q0q a p).1 a p).1 oneN≥0 then([],3) else
 if (radQ (Q0q a p).1 (J0h (Q0q a p).1 a p).1 p).2≠0 then([],(radQ (Q0q a p).1 (J0h (Q0q a p).1 a p).1 p).2) else
 Y0g (fun i j=>K0r (entQ (Q0q a p).1 i j) (radQ (Q0q a p).1 (J0h (Q0q a p).1 a p).1 p).1 p) a.length
theorem y2d {k:Nat} {a b:Mx} {p:Int} (h:(opM k a b p).2=0):(rightM a=true∧rightM b=true∧a.length=b.length∧Z0p p=true)∧(opM k a b p).1.length=a.length∧ ∀i,i<a.length→((opM k a b p).1.getD i []).length=a.length∧ ∀j,j<a.length→(opI k (atM a i j) (atM b i j) p).2=0∧atM (opM k a b p).1 i j=(opI k (atM a i j) (atM b i j) p).1:=by
 have hg:rightM a=true∧rightM b=true∧a.length=b.length∧Z0p p=true:=by
  refine Classical.byContradiction fun hne=> ?_
  rw [opM,if_neg hne] at h
  exact absurd h (by decide)
 rw [opM,if_pos hg] at h⊢
 exact⟨hg,z0j h⟩
theorem H2s {a b:Mx} {p:Int} (h:(mulM a b p).2=0):(rightM a=true∧rightM b=true∧a.length=b.length∧Z0p p=true)∧(mulM a b p).1.length=a.length∧ ∀i,i<a.length→((mulM a b p).1.getD i []).length=a.length∧ ∀j,j<a.length→(dotF (atM a i) (fun k=>atM b k j) p a.length).2=0∧atM (mulM a b p).1 i j=(dotF (atM a i) (fun k=>atM b k j) p a.length).1:=by
 have hg:rightM a=true∧rightM b=true∧a.length=b.length∧Z0p p=true:=by
  refine Classical.byContradiction fun hne=> ?_
  rw [mulM,if_neg hne] at h
  exact absurd h (by decide)
 rw [mulM,if_pos hg] at h⊢
 exact⟨hg,z0j h⟩
theorem Y0q :Q0j oneN=true:=by decide
theorem W1o {n:Nat} {x a:List (List Nm)} {p:Int} (hx:sqR n x) (ha:sqR n a) (h1:1≤n) (h4:n≤4) (h:(J0h x a p).2=0):
 0≤qN (J0h x a p).1∧Q0j (J0h x a p).1=true∧ ∃B:Nat→Nat→Rat,(∀i j,i<n→j<n→inQ1 (B i j) (V0j i j-dotQ (fun k=>qN (entQ x i k)) (fun k=>qN (entQ a k j)) n))∧ ∀i,i<n→sumQ (B i) n≤qN (J0h x a p).1:=by
 have c1:(mulM (ofM x) (ofM a) p).2=0:=by
  refine Classical.byContradiction fun hne=> ?_
  rw [J0h,if_pos hne] at h
  exact hne h
 have c2:(opM 1 (idM (x.length:Int)) (mulM (ofM x) (ofM a) p).1 p).2=0:=by
  refine Classical.byContradiction fun hne=> ?_
  rw [J0h,if_neg (fun e=>e c1),if_pos hne] at h
  exact hne h
 rw [J0h,if_neg (fun e=>e c1),if_neg (fun e=>e c2)] at h⊢
 obtain⟨-,m1,m2⟩:=H2s c1
 obtain⟨-,o1,o2⟩:=y2d c2
 obtain⟨n1,n2,n3,n4,n5⟩:=v0a h
 have hxl:(ofM x).length=n:=by unfold ofM;rw [List.length_map];exact hx.1
 have hid:=(k2i h1 h4 (show 0<n by omega) (show 0<n by omega)).1
 rw [hxl] at m1 m2
 rw [hx.1,hid] at o1 o2
 rw [hx.1] at n1 n3 n4 n5⊢
 generalize hM:(opM 1 (idM (n:Int)) (mulM (ofM x) (ofM a) p).1 p).1=M at*
 refine⟨n3,n4,fun i j=>qN (magI (atM M i j)),fun i j hi hj=> ?_,fun i hi=> ?_⟩
 · obtain⟨q1,q2⟩:=(o2 i hi).2 j hj
   obtain⟨d1,d2⟩:=(m2 i hi).2 j hj
   have hd:memI (dotQ (fun k=>qN (entQ x i k)) (fun k=>qN (entQ a k j)) n) (atM (mulM (ofM x) (ofM a) p).1 i j):=by
    rw [d2]
    refine v1z n d1 fun k hk=>⟨?_,?_⟩
    · rw [v1f (by rw [hx.1];exact hi) (by rw [(hx.row hi).1];exact hk)];exact⟨Rat.le_refl,Rat.le_refl⟩
    · rw [v1f (by rw [ha.1];exact hk) (by rw [(ha.row hk).1];exact hj)];exact⟨Rat.le_refl,Rat.le_refl⟩
   have ho:=x1g 1 q1 (K2i h1 h4 hi hj) hd
   rw [exQ1] at ho
   rw [←q2] at ho
   have hr:Q0w (atM M i j)=true:=k0o n1 (by omega) (by omega)
   show inQ1 (qN (magI (atM M i j))) _
   exact(x1p hr ho).1
 · have:=n5 i (by omega)
   rw [o1] at this
   exact this
theorem k1u {a b:Nm} {p:Int} (ha:Q0j a=true) (hb:Q0j b=true) (hp:1≤p.toNat) (hn:b.neg=false) (h:(W0y a b p true).2=0):qN a≤qN (W0y a b p true).1*qN b:=by
 unfold W0y at h⊢
 split at h
 · exact absurd h (by decide)
 rename_i hw
 rw [if_neg hw]
 unfold divN at h⊢
 have hv:=H0q (V0g (Q1o (ofN a) (ofN b) p.toNat) p.toNat true) h
 have h0:0<(ofN b).m:=Nat.pos_of_ne_zero fun e=>hw ((X0q hb).1 e)
 rw [hv.2]
 have hf:=Q3o (ratV (ofN a) (ofN b) p.toNat) p.toNat
 have:=(K3v (a:=ofN a) (b:=ofN b) (p:=p.toNat) hn h0 hf).1 (W0x _ _)
 rw [J0o,J0o] at this
 exact this
theorem U1r {y q:Nm} {p:Int} (h:(K0r y q p).2=0) {X:Rat} (hX:inQ1 (qN q) (X-qN y)):memI X (K0r y q p).1∧((K0r y q p).1.lo=(Q0t 1 y q p false).1∧(K0r y q p).1.hi=(Q0t 0 y q p true).1∧(Q0t 1 y q p false).2=0∧(Q0t 0 y q p true).2=0):=by
 unfold K0r at h⊢
 split at h
 · exact absurd h (by decide)
 rename_i hn
 rw [if_neg hn]
 have e1:(Q0t 1 y q p false).2=0:=Classical.byContradiction fun h=>hn (.inl h)
 have e2:(Q0t 0 y q p true).2=0:=Classical.byContradiction fun h=>hn (.inr h)
 have v1:=U0a e1
 have v2:=U0a e2
 have g1:=k0n (exV 1 (ofN y) (ofN q)) p.toNat
 have g2:=W0x (exV 0 (ofN y) (ofN q)) p.toNat
 rw [W1r,exQ1,J0o,J0o,←v1] at g1
 rw [W1r,exQ0,J0o,J0o,←v2] at g2
 unfold inQ1 at hX
 have:=hX.1
 have:=hX.2
 exact⟨⟨by show qN (Q0t 1 y q p false).1≤X;grind,by show X≤qN (Q0t 0 y q p true).1;grind⟩,rfl,rfl,e1,e2⟩
end Go.Pv
end
section
/-The inverse for sure:what is answered has it (the whole),and which errors there are. No program in it. -/
namespace Go.Pv
def sqG (n:Nat) (x:GJ):Prop:=sqR n x.a∧sqR n x.r
theorem j1s (x m y:Nm) (p:Int):Q0j (Y0e x m y p).1=true:=by
 unfold Y0e
 split<;>exact Z0k _ _ _ _ _
theorem Z2a (a b:Nm) (p:Int) (up:Bool):Q0j (divN a b p up).1=true:=W0h (J1q (V0g (Q1o _ _ _) _ _))
theorem v0k {n:Nat} (m:Nm) (p:Int) (row other:List Nm) (h:row.length=n):(U0g m p row other).length=n∧ ∀c∈U0g m p row other,Q0j c=true:=by
 unfold U0g
 refine⟨by simp [h],fun c hc=> ?_⟩
 simp only [List.mem_map] at hc
 obtain⟨j,_,rfl⟩:=hc
 exact j1s _ _ _ _
theorem G0d {n:Nat} (d:Nm) (p:Int) (row:List Nm) (h:row.length=n):(divL d p row).length=n∧ ∀c∈divL d p row,Q0j c=true:=by
 unfold divL
 refine⟨by simp [h],fun c hc=> ?_⟩
 simp only [List.mem_map] at hc
 obtain⟨j,_,rfl⟩:=hc
 exact Z2a _ _ _ _
theorem z2f {n:Nat} {p:Int} {k i:Nat} {x:GJ} (h:sqG n x) (hk:k<n) (hi:i<n):sqG n (X1x p k i x):=by
 unfold X1x
 split
 · exact h
 split
 · exact⟨h.1.set (v0k _ _ _ _ (h.1.row hi).1),h.2.set (v0k _ _ _ _ (h.2.row hi).1)⟩
 · exact h
theorem v0o {n:Nat} {p:Int} {k:Nat} {x:GJ} (h:sqG n x) (hk:k<n): ∀i,i≤n→sqG n (J0v p k x i)
 | 0,_=>h
 | i+1,hi=>by
  have:=v0o (p:=p) h hk i (by omega)
  unfold J0v
  split
  · exact z2f this hk (by omega)
  · exact this
theorem v1u {n k:Nat} {x:GJ} (h:sqG n x) (hk:k<n):sqG n (z2g n k x):=by
 have:=Z1z x.a k (n-(k+1))
 exact⟨h.1.swap hk (by omega),h.2.swap hk (by omega)⟩
theorem v1v {n:Nat} {p:Int} {k:Nat} {x:GJ} (h:sqG n x) (hk:k<n):sqG n (G0l p k x):=by
 unfold G0l
 split
 · exact⟨h.1.set (G0d _ _ _ (h.1.row hk).1),h.2.set (G0d _ _ _ (h.2.row hk).1)⟩
 · exact h
theorem z2h {n:Nat} {p:Int} {k:Nat} {x:GJ} (h:sqG n x) (hk:k<n):sqG n (Q1a p n k x):=by
 unfold Q1a
 split
 · exact h
 split
 · exact v0o (v1v (v1u h hk) hk) hk n (Nat.le_refl _)
 · exact v1v (v1u h hk) hk
theorem v0p {n:Nat} {p:Int} {x:GJ} (h:sqG n x): ∀k,k≤n→sqG n (X0a p n x k)
 | 0,_=>h
 | k+1,hk=>by
  have:=v0p h k (by omega) (p:=p)
  unfold X0a
  split
  · exact z2h this (by omega)
  · exact this
theorem z1o (n:Nat):sqR n (K0l n):=by
 unfold K0l
 refine⟨by simp,fun r hr=> ?_⟩
 simp only [List.mem_map] at hr
 obtain⟨i,_,rfl⟩:=hr
 refine⟨by simp,fun c hc=> ?_⟩
 simp only [List.mem_map] at hc
 obtain⟨j,_,rfl⟩:=hc
 split<;>decide
theorem Z1l {a:List (List Nm)} (h:V0v a=true):sqR a.length a∧1≤a.length∧a.length≤4:=by
 obtain⟨h1,h2,h3⟩:=rightQ_iff.1 h
 refine⟨⟨rfl,fun r hr=> ?_⟩,h2,h3⟩
 obtain⟨i,hi,rfl⟩:=List.mem_iff_getElem.1 hr
 have:=h1 i hi
 rw [List.getD_eq_getElem?_getD,List.getElem?_eq_getElem hi] at this
 have h5:Y0f a[i] a.length=true:=this
 unfold Y0f at h5
 rw [Bool.and_eq_true,List.all_eq_true] at h5
 exact⟨of_decide_eq_true h5.2,fun c hc=>h5.1 c hc⟩
theorem w0a {a:List (List Nm)} {p:Int} (h:(Q0q a p).2=0):V0v a=true∧Z0p p=true∧sqR a.length (Q0q a p).1∧sqR a.length a∧1≤a.length∧a.length≤4∧(X0a p a.length ⟨a,K0l a.length,0⟩ a.length).e=0∧(Q0q a p).1=(X0a p a.length ⟨a,K0l a.length,0⟩ a.length).r:=by
 unfold Q0q at h⊢
 split at h
 · rename_i hg
   rw [if_pos hg]
   obtain⟨s1,s2,s3⟩:=Z1l hg.1
   split at h
   · rename_i he
     rw [if_pos he]
     exact⟨hg.1,hg.2,(v0p (p:=p) (x:=⟨a,K0l a.length,0⟩) ⟨s1,z1o _⟩ a.length (Nat.le_refl _)).2,s1,s2,s3,he,rfl⟩
   · rename_i he
     exact absurd h he
 · exact absurd h (by decide)
theorem U2p {a:List (List Nm)} {p:Int} (h:(K0d a p).2=0):(Q0q a p).2=0∧(J0h (Q0q a p).1 a p).2=0∧ ¬cmpR (J0h (Q0q a p).1 a p).1 oneN≥0∧(radQ (Q0q a p).1 (J0h (Q0q a p).1 a p).1 p).2=0∧K0d a p=Y0g (fun i j=>K0r (entQ (Q0q a p).1 i j) (radQ (Q0q a p).1 (J0h (Q0q a p).1 a p).1 p).1 p) a.length:=by
 unfold K0d at h⊢
 split at h
 · rename_i hc;exact absurd h hc
 rename_i c1
 split at h
 · rename_i hc;exact absurd h hc
 rename_i c2
 split at h
 · exact absurd h (by decide)
 rename_i c3
 split at h
 · rename_i hc;exact absurd h hc
 rename_i c4
 refine⟨Classical.byContradiction fun h=>c1 h,Classical.byContradiction fun h=>c2 h,c3,Classical.byContradiction fun h=>c4 h,?_⟩
 rw [if_neg c1,if_neg c2,if_neg c3,if_neg c4]
theorem J2c {x:List (List Nm)} {e:Nm} {p:Int} (h:(radQ x e p).2=0):(Q0t 1 oneN e p false).2=0∧(Z0y (ofM x) p).2=0∧(Q0t 2 (Z0y (ofM x) p).1 e p true).2=0∧radQ x e p=W0y (Q0t 2 (Z0y (ofM x) p).1 e p true).1 (Q0t 1 oneN e p false).1 p true:=by
 unfold radQ at h⊢
 split at h
 · rename_i hc;exact absurd h hc
 rename_i c1
 split at h
 · rename_i hc;exact absurd h hc
 rename_i c2
 split at h
 · rename_i hc;exact absurd h hc
 rename_i c3
 refine⟨Classical.byContradiction fun h=>c1 h,Classical.byContradiction fun h=>c2 h,Classical.byContradiction fun h=>c3 h,?_⟩
 rw [if_neg c1,if_neg c2,if_neg c3]
theorem Z2y (F:Nat→Rat): ∀n,(∀k,k<n→0≤F k)→0≤sumQ F n
 | 0,_=>Rat.le_refl
 | n+1,h=>by
  have:=Z2y F n fun k hk=>h k (by omega)
  have:=h n (by omega)
  rw [sumQ];grind
theorem k1g {F:Nat→Rat} : ∀ {n j:Nat},(∀k,k<n→0≤F k)→j<n→F j≤sumQ F n
 | 0,j,_,hj=>absurd hj (Nat.not_lt_zero _)
 | n+1,j,h,hj=>by
  rw [sumQ]
  by_cases e:j=n
  · subst e
    have:=Z2y F j fun k hk=>h k (by omega)
    grind
  · have:=k1g (F:=F) (n:=n) (j:=j) (fun k hk=>h k (by omega)) (by omega)
    have:=h n (by omega)
    grind
theorem k1l {lo hi:Nm} (h1:Q0j lo=true) (h2:Q0j hi=true) (h:qN lo≤qN hi):Q0w ⟨lo,hi⟩=true:=Z1m h1 h2 (cmpN_le.2 h)
theorem V2h (p:Nat):Y1l p 0:=⟨0,0,(K0w 0).symm,Nat.zero_le _⟩
theorem G1a {v:Vl} {p:Nat} {up:Bool} (hp:1≤p) (h:0≤qV v):0≤qV (Z0h v p up):=by
 cases up with
 | true=>exact Rat.le_trans h (W0x v p)
 | false=>exact y1j hp (V2h p) h
theorem G1y {x:Nm} (hx:Q0j x=true) (h:0≤qN x):x.neg=false:=by
 by_cases hw:x.w= []
 · exact((X2s hx).2.2.2 hw).1
 · cases hn:x.neg
   · rfl
   · exfalso
     have hm:(ofN x).m≠0:=fun e=>hw ((X0q hx).1 e)
     rw [←J0o] at h
     have: ¬qV (ofN x)<0:=by grind
     apply this
     rw [←k1i]
     show K0u (ofN x)<0
     unfold K0u
     rw [if_neg hm,show(ofN x).neg=true from hn];decide
theorem z1n {a:List (List Nm)} {p:Int} (h:(K0d a p).2=0):(sqR a.length a∧1≤a.length∧a.length≤4∧Z0p p=true)∧(K0d a p).1.length=a.length∧detQ a.length (fun i j=>qN (entQ a i j))≠0∧
 ∀i,i<a.length→((K0d a p).1.getD i []).length=a.length∧ ∀j,j<a.length→Q0w (atM (K0d a p).1 i j)=true∧memI (cofQ a.length (fun i j=>qN (entQ a i j)) i j/detQ a.length (fun i j=>qN (entQ a i j))) (atM (K0d a p).1 i j):=by
 obtain⟨s1,s2,s3,s4,s5⟩:=U2p h
 obtain⟨a1,a2,a3,a4,a5,a6, -, -⟩:=w0a s1
 obtain⟨r1,r2,B,r3,r4⟩:=W1o a3 a4 a5 a6 s2
 obtain⟨d1,d2,d3,d4⟩:=J2c s4
 rw [d4] at s4
 rw [s5] at h⊢
 obtain⟨f1,f2⟩:=z0j h
 generalize hX:(Q0q a p).1=X at*
 generalize hE:(J0h X a p).1=e at*
 have hp:=G1r a2
 have he1:qN e<1:=by
  rw [Y0u r2 Y0q] at s3
  have:=cmpN_lt.1 (Int.not_le.1 s3)
  rwa [k0u] at this
 obtain⟨n1,n2,n3,n4,n5⟩:=v0a d2
 have hXl:(ofM X).length=a.length:=by unfold ofM;rw [List.length_map];exact a3.1
 --the divisor
 have v1:=U0a d1
 have g1:=k0n (exV 1 (ofN oneN) (ofN e)) p.toNat
 rw [W1r,exQ1,J0o,J0o,k0u,←v1] at g1
 have v3:=U0a d3
 have g3:=W0x (exV 2 (ofN (Z0y (ofM X) p).1) (ofN e)) p.toNat
 rw [W1r,exQ2,J0o,J0o,←v3] at g3
 have rd:=Z0k 1 oneN e p false
 have rq:=Z0k 2 (Z0y (ofM X) p).1 e p true
 have g0:0≤qN (Q0t 1 oneN e p false).1:=by
  have:=G1a (v:=exV 1 (ofN oneN) (ofN e)) (p:=p.toNat) (up:=false) hp (by rw [W1r,exQ1,J0o,J0o,k0u];grind)
  rw [v1];exact this
 have hdn:=G1y rd g0
 rw [←d4] at s4
 rw [d4] at s4
 have hqu:=k1u rq rd hp hdn s4
 rw [←d4] at hqu
 have hq0:0≤qN (radQ X e p).1:=by
  have hpos:0<qN (Q0t 1 oneN e p false).1:=by
   refine Classical.byContradiction fun hne=> ?_
   have hz:qN (Q0t 1 oneN e p false).1=0:=by grind
   have hdef:(Q0t 1 oneN e p false).1=default:=G1c rd K0v (by rw [hz,z1w])
   rw [hdef] at s4
   unfold W0y at s4
   rw [if_pos (show(default:Nm).w= [] from rfl)] at s4
   exact absurd s4 (by decide)
  have hn0:0≤qN (Z0y (ofM X) p).1*qN e:=Rat.mul_nonneg n3 r1
  refine Classical.byContradiction fun hne=> ?_
  have hlt:0< -qN (radQ X e p).1:=by grind
  have:=Rat.mul_pos hlt hpos
  grind
 refine⟨⟨a4,a5,a6,a2⟩,f1,?_,fun i hi=>⟨(f2 i hi).1,fun j hj=> ?_⟩⟩
 · exact v2c (R:=fun i k=>qN (entQ X i k)) (A:=fun i j=>qN (entQ a i j)) (E:=fun i j=>V0j i j-dotQ (fun k=>qN (entQ X i k)) (fun k=>qN (entQ a k j)) a.length) a6 (fun i j _ _=>rfl) B r3 r4 he1
 · obtain⟨q1,q2⟩:=(f2 i hi).2 j hj
   have near:=q2w (R:=fun i k=>qN (entQ X i k)) (A:=fun i j=>qN (entQ a i j)) (E:=fun i j=>V0j i j-dotQ (fun k=>qN (entQ X i k)) (fun k=>qN (entQ a k j)) a.length) a6 (fun i j _ _=>rfl) B r3 r4 he1
    (r:=qN (Z0y (ofM X) p).1) (q:=qN (radQ X e p).1) (fun i j hi hj=> ?_) ?_ hi hj
   · obtain⟨m1,m2,m3,m4,m5⟩:=U1r q1 near
     refine⟨?_,by rw [q2];exact m1⟩
     rw [q2]
     have hlo:Q0j (K0r (entQ X i j) (radQ X e p).1 p).1.lo=true:=by rw [m2];exact Z0k _ _ _ _ _
     have hhi:Q0j (K0r (entQ X i j) (radQ X e p).1 p).1.hi=true:=by rw [m3];exact Z0k _ _ _ _ _
     exact k1l hlo hhi (Rat.le_trans m1.1 m1.2)
   · have hs:=n5 i (by rw [hXl];exact hi)
     rw [hXl] at hs
     have hin:inQ1 (qN (magI (atM (ofM X) i j))) (qN (entQ X i j)):=by
      have ht:=k0o n1 (show i<(ofM X).length by rw [hXl];exact hi) (show j<(ofM X).length by rw [hXl];exact hj)
      refine(x1p ht ?_).1
      rw [v1f (by rw [a3.1];exact hi) (by rw [(a3.row hi).1];exact hj)]
      exact⟨Rat.le_refl,Rat.le_refl⟩
     refine X1r hin (Rat.le_trans (k1g (F:=fun k=>qN (magI (atM (ofM X) i k))) (fun k hk=> ?_) hj) hs)
     exact(x1p (k0o n1 (show i<(ofM X).length by rw [hXl];exact hi) (show k<(ofM X).length by rw [hXl];exact hk)) (V3v (k0o n1 (show i<(ofM X).length by rw [hXl];exact hi) (show k<(ofM X).length by rw [hXl];exact hk)))).2
   · have h1:qN (radQ X e p).1*qN (Q0t 1 oneN e p false).1≤qN (radQ X e p).1*(1-qN e):=Rat.mul_le_mul_of_nonneg_left g1 hq0
     grind
end Go.Pv
end
section
/-The inverse:which errors there are,and that with an error nothing is answered. No program in it. -/
namespace Go.Pv
theorem U1p {β:Type} {G:Nat→β×Int} : ∀(k i:Nat) (acc:List β),(tabF G i k acc).2≠0→(tabF G i k acc).1= []
 | 0,i,acc,h=>absurd rfl h
 | k+1,i,acc,h=>by
  unfold tabF at h⊢
  split at h
  · rename_i hc;rw [if_pos hc]
  · rename_i hc;rw [if_neg hc];exact U1p k _ _ h
theorem z1a {a:List (List Nm)} {p:Int} (h:(Q0q a p).2≠0):(Q0q a p).1= []:=by
 unfold Q0q at h⊢
 split
 · split
   · rename_i h1 h2
     rw [if_pos h1,if_pos h2] at h
     exact absurd rfl h
   · rfl
 · rfl
theorem w1z {a:List (List Nm)} {p:Int} (h:(K0d a p).2≠0):(K0d a p).1= []:=by
 unfold K0d at h⊢
 split
 · rfl
 rename_i c1
 split
 · rfl
 rename_i c2
 split
 · rfl
 rename_i c3
 split
 · rfl
 rename_i c4
 rw [if_neg c1,if_neg c2,if_neg c3,if_neg c4] at h
 exact U1p _ _ _ h
end Go.Pv
end
section
/-The inverse of a matrix of ones in any order is that of the order turned round. No program in it. -/
namespace Go.Pv
def bN (b:Bool):Nm:=if b then oneN else default
theorem G2f {v:Vl} {p:Nat} {up:Bool} (h:Q0h v.m≤p):Z0h v p up=v:=by unfold Z0h;rw [if_pos h]
theorem H2f :canV (ofN oneN):=W0b (by decide)
theorem div_one {x:Bool} {p:Int} {up:Bool} (hp:Z0p p=true):divN (bN x) oneN p up=(bN x,0):=by
 have h8:8≤p.toNat:=by
  unfold Z0p at hp
  simp only [Bool.and_eq_true,decide_eq_true_eq] at hp
  omega
 have hr:ratV (ofN (bN x)) (ofN oneN) p.toNat=ofN (bN x):=by
  cases x with
  | false=>
   unfold ratV
   rw [if_pos (by decide)]
   decide
  | true=>
   refine Y1w (Q1o _ _ _) H2f ?_
   unfold ratV
   have hm:(ofN (bN true)).m=1:=by decide
   have hm1:(ofN oneN).m=1:=by decide
   rw [if_neg (by decide),k0t,hm,hm1]
   have hb:Q0h 1=1:=by decide+kernel
   have hmore:J0y 1 1 p.toNat=p.toNat+2:=by unfold J0y;rw [hb];omega
   have hq:q0v 1 1 p.toNat=2^(p.toNat+3):=by
    unfold q0v
    rw [hmore,Nat.div_one,Nat.mod_one,if_pos rfl,Nat.one_mul,Nat.pow_succ (n:=2) (m:=p.toNat+2)];omega
   rw [hq,hmore]
   have hs:((ofN (bN true)).neg !=(ofN oneN).neg)=false:=by decide
   have he:(ofN (bN true)).e-(ofN oneN).e-((p.toNat+2:Nat):Int)-1= -((p.toNat+3:Nat):Int):=by
    rw [show(ofN (bN true)).e=0 by decide,show(ofN oneN).e=0 by decide];omega
   rw [hs,he,if_neg (by decide)]
   show qM ((2^(p.toNat+3):Nat):Int) _=qN oneN
   rw [k0u,Int.natCast_pow,show((2:Nat):Int)=2 from rfl]
   have:=U0v 1 (p.toNat+3) (-((p.toNat+3:Nat):Int))
   rw [Int.one_mul] at this
   rw [this,show -((p.toNat+3:Nat):Int)+((p.toNat+3:Nat):Int)=0 by omega]
   unfold qM;rw [J2n,Rat.mul_one];rfl
 unfold divN
 rw [hr,G2f (by cases x<;>(refine Nat.le_trans ?_ h8;decide+kernel))]
 cases x<;>decide+kernel
theorem W1j {a:List (List Nm)} {k:Nat} (h:k<a.length):a.set k (a.getD k [])=a:=by
 rw [List.getD_eq_getElem?_getD,List.getElem?_eq_getElem h]
 exact List.set_getElem_self h
end Go.Pv
end
section
/-The inverse for sure:the numbers by which it is widened are not below nought;matrices that are filled. No program in it. -/
namespace Go.Pv
theorem J2d {X:List (List Nm)} {e:Nm} {p:Int} (hp:Z0p p=true) (r1:0≤qN e) (he1:qN e<1) (h:(radQ X e p).2=0):0≤qN (radQ X e p).1∧Q0j (radQ X e p).1=true:=by
 obtain⟨d1,d2,d3,d4⟩:=J2c h
 have hpp:=G1r hp
 obtain⟨n1,n2,n3,n4,n5⟩:=v0a d2
 have v1:=U0a d1
 have v3:=U0a d3
 have g3:=W0x (exV 2 (ofN (Z0y (ofM X) p).1) (ofN e)) p.toNat
 rw [W1r,exQ2,J0o,J0o,←v3] at g3
 have rd:=Z0k 1 oneN e p false
 have rq:=Z0k 2 (Z0y (ofM X) p).1 e p true
 have g0:0≤qN (Q0t 1 oneN e p false).1:=by
  have:=G1a (v:=exV 1 (ofN oneN) (ofN e)) (p:=p.toNat) (up:=false) hpp (by rw [W1r,exQ1,J0o,J0o,k0u];grind)
  rw [v1];exact this
 have hdn:=G1y rd g0
 rw [d4] at h⊢
 refine⟨?_,z1v _ _ _ _⟩
 have hqu:=k1u rq rd hpp hdn h
 have hpos:0<qN (Q0t 1 oneN e p false).1:=by
  refine Classical.byContradiction fun hne=> ?_
  have hz:qN (Q0t 1 oneN e p false).1=0:=by grind
  have hdef:(Q0t 1 oneN e p false).1=default:=G1c rd K0v (by rw [hz,z1w])
  rw [hdef] at h
  unfold W0y at h
  rw [if_pos (show(default:Nm).w= [] from rfl)] at h
  exact absurd h (by decide)
 have hn0:0≤qN (Z0y (ofM X) p).1*qN e:=Rat.mul_nonneg n3 r1
 refine Classical.byContradiction fun hne=> ?_
 have hlt:0< -qN (W0y (Q0t 2 (Z0y (ofM X) p).1 e p true).1 (Q0t 1 oneN e p false).1 p true).1:=by grind
 have:=Rat.mul_pos hlt hpos
 grind
theorem w1y {y q:Nm} {p:Int} (hq:0≤qN q) (h1:(Q0t 1 y q p false).2=0) (h2:(Q0t 0 y q p true).2=0):Q0w ⟨(Q0t 1 y q p false).1,(Q0t 0 y q p true).1⟩=true:=by
 have hs:(K0r y q p).2=0:=by unfold K0r;rw [if_neg (by rw [h1,h2];simp)]
 have hm:=(U1r (X:=qN y) hs ⟨by grind,by grind⟩).1
 have he:(K0r y q p).1=⟨(Q0t 1 y q p false).1,(Q0t 0 y q p true).1⟩:=by unfold K0r;rw [if_neg (by rw [h1,h2];simp)]
 rw [he] at hm
 exact k1l (Z0k _ _ _ _ _) (Z0k _ _ _ _ _) (Rat.le_trans hm.1 hm.2)
def z0i (G:Nat→Nat→Ivl×Int) (n:Nat):Mx:=(List.range n).map fun i=>(List.range n).map fun j=>(G i j).1
theorem z2o {G:Nat→Nat→Ivl×Int} {n:Nat} (h: ∀i j,i<n→j<n→(G i j).2=0):Y0g G n=(z0i G n,0):=by
 have h0:=z2n h
 obtain⟨f1,f2⟩:=z0j h0
 refine Prod.ext ?_ h0
 show(Y0g G n).1=z0i G n
 refine List.ext_getElem (by rw [f1];simp [z0i]) fun i h1 h2=> ?_
 have hi:i<n:=by rw [f1] at h1;exact h1
 have e1:(Y0g G n).1[i]=(Y0g G n).1.getD i []:=by rw [List.getD_eq_getElem?_getD,List.getElem?_eq_getElem h1];rfl
 have e2:(z0i G n)[i]=(List.range n).map fun j=>(G i j).1:=by simp [z0i]
 rw [e1,e2]
 refine List.ext_getElem (by rw [(f2 i hi).1];simp) fun j h3 h4=> ?_
 have hj:j<n:=by rw [(f2 i hi).1] at h3;exact h3
 have e3:=((f2 i hi).2 j hj).2
 unfold atM at e3
 rw [List.getD_eq_getElem?_getD,List.getElem?_eq_getElem h3,Option.getD_some] at e3
 rw [e3,List.getElem_map,List.getElem_range]
theorem V2k {G:Nat→Nat→Ivl×Int} {n i j:Nat} {e:Int} (he:e≠0) (hG: ∀i j,(G i j).2=0∨(G i j).2=e) (hi:i<n) (hj:j<n) (h:(G i j).2=e):Y0g G n=([],e):=by
 have hne:(Y0g G n).2≠0:=fun h0=>by
  have:=((z0j h0).2 i hi).2 j hj
  rw [this.1] at h
  exact he h.symm
 have key: ∀ {β:Type} (F:Nat→β×Int) (k i:Nat) (acc:List β),(∀j,(F j).2=0∨(F j).2=e)→(tabF F i k acc).2=0∨tabF F i k acc=([],e):=by
  intro β F k
  induction k with
  | zero=>intro i acc _;exact .inl rfl
  | succ k ih=>
   intro i acc hF
   unfold tabF
   split
   · rename_i hc
     exact .inr (by rw [(hF i).resolve_left hc])
   · exact ih _ _ hF
 refine(key _ _ _ _ fun j=> ?_).resolve_left hne
 rcases key (fun j'=>G j j') n 0 [] (hG j) with h | h
 · exact .inl h
 · exact .inr (by rw [h])
end Go.Pv
end
