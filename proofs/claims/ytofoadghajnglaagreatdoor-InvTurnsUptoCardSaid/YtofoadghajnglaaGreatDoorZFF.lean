/- Parts of the walk: M85, M86, M87, M88, M90, M91, M92. -/
import Derived.Test.YtofoadghajnglaaGreatDoorZAR
import Derived.Test.YtofoadghajnglaaGreatDoorZFD
import Derived.Test.YtofoadghajnglaaGreatDoorZBV
set_option linter.unusedVariables false
set_option linter.unusedSimpArgs false
section
/-Determinants and cofactors of matrices of rational numbers,up to four rows. No program in it. -/
namespace Go.Pv
def J0m (j k:Nat):Nat:=if k<j then k else k+1
def sgnQ (j:Nat) (x:Rat):Rat:=if j % 2=1 then -x else x
def detS (f:Nat→Nat→Rat) (D:Nat→Rat):Nat→Rat
 | 0=>0
 | j+1=>detS f D j+sgnQ j (f 0 j*D j)
def detQ :Nat→(Nat→Nat→Rat)→Rat
 | 0,_=>1
 | n+1,f=>detS f (fun j=>detQ n fun i k=>f (i+1) (J0m j k)) (n+1)
def cofQ (n:Nat) (f:Nat→Nat→Rat) (i j:Nat):Rat:=sgnQ (i+j) (detQ (n-1) fun a b=>f (J0m j a) (J0m i b))
theorem det1 (f:Nat→Nat→Rat):detQ 1 f=f 0 0:=by
 simp [detQ,detS,sgnQ];try grind
theorem det2 (f:Nat→Nat→Rat):detQ 2 f=f 0 0*f 1 1-f 0 1*f 1 0:=by
 rw [detQ]
 simp [detS,det1,sgnQ,J0m];grind
theorem det3 (f:Nat→Nat→Rat):detQ 3 f=f 0 0*(f 1 1*f 2 2-f 1 2*f 2 1)-f 0 1*(f 1 0*f 2 2-f 1 2*f 2 0)+f 0 2*(f 1 0*f 2 1-f 1 1*f 2 0):=by
 rw [detQ]
 simp [detS,det2,sgnQ,J0m];grind
theorem det4 (f:Nat→Nat→Rat):detQ 4 f=f 0 0*detQ 3 (fun i k=>f (i+1) (J0m 0 k))-f 0 1*detQ 3 (fun i k=>f (i+1) (J0m 1 k))+f 0 2*detQ 3 (fun i k=>f (i+1) (J0m 2 k))-f 0 3*detQ 3 (fun i k=>f (i+1) (J0m 3 k)):=by
 rw [detQ]
 simp [detS,sgnQ];grind
theorem v2s (n:Nat) (h1:1≤n) (h4:n≤4) (f:Nat→Nat→Rat) (i j:Nat) (hi:i<n) (hj:j<n):dotQ (cofQ n f i) (fun k=>f k j) n=detQ n f*J0d i j:=by
 have hn:n=1∨n=2∨n=3∨n=4:=by omega
 rcases hn with rfl | rfl | rfl | rfl
 · have:i=0:=by omega
   have:j=0:=by omega
   subst_vars
   simp [dotQ,cofQ,J0d,det1,detQ,detS,sgnQ];try grind
 · have:i=0∨i=1:=by omega
   have:j=0∨j=1:=by omega
   rcases ‹i=0∨i=1›with rfl | rfl<;>rcases ‹j=0∨j=1›with rfl | rfl<;>simp [dotQ,cofQ,J0d,det2,det1,sgnQ,J0m]<;>grind
 · have a1:i=0∨i=1∨i=2:=by omega
   have a2:j=0∨j=1∨j=2:=by omega
   rcases a1 with rfl | rfl | rfl<;>rcases a2 with rfl | rfl | rfl<;>simp [dotQ,cofQ,J0d,det3,det2,sgnQ,J0m]<;>grind
 · have a1:i=0∨i=1∨i=2∨i=3:=by omega
   have a2:j=0∨j=1∨j=2∨j=3:=by omega
   rcases a1 with rfl | rfl | rfl | rfl<;>rcases a2 with rfl | rfl | rfl | rfl<;>simp [dotQ,cofQ,J0d,det4,det3,sgnQ,J0m]<;>grind
theorem z1z (n:Nat) (h1:1≤n) (h4:n≤4) (f:Nat→Nat→Rat) (i j:Nat) (hi:i<n) (hj:j<n):dotQ (f i) (fun k=>cofQ n f k j) n=detQ n f*J0d i j:=by
 have hn:n=1∨n=2∨n=3∨n=4:=by omega
 rcases hn with rfl | rfl | rfl | rfl
 · have:i=0:=by omega
   have:j=0:=by omega
   subst_vars
   simp [dotQ,cofQ,J0d,det1,detQ,detS,sgnQ];try grind
 · have:i=0∨i=1:=by omega
   have:j=0∨j=1:=by omega
   rcases ‹i=0∨i=1›with rfl | rfl<;>rcases ‹j=0∨j=1›with rfl | rfl<;>simp [dotQ,cofQ,J0d,det2,det1,sgnQ,J0m]<;>grind
 · have a1:i=0∨i=1∨i=2:=by omega
   have a2:j=0∨j=1∨j=2:=by omega
   rcases a1 with rfl | rfl | rfl<;>rcases a2 with rfl | rfl | rfl<;>simp [dotQ,cofQ,J0d,det3,det2,sgnQ,J0m]<;>grind
 · have a1:i=0∨i=1∨i=2∨i=3:=by omega
   have a2:j=0∨j=1∨j=2∨j=3:=by omega
   rcases a1 with rfl | rfl | rfl | rfl<;>rcases a2 with rfl | rfl | rfl | rfl<;>simp [dotQ,cofQ,J0d,det4,det3,sgnQ,J0m]<;>grind
def kerQ (n:Nat) (f:Nat→Nat→Rat) (x:Nat→Rat):Prop:=(∃i,i<n∧x i≠0)∧ ∀i,i<n→dotQ (f i) x n=0
def w0g (f:Nat→Nat→Rat) (r:Nat):Nat→Nat→Rat:=fun i k=>if i=0 then f r k else if i=r then f 0 k else f i k
theorem v2p (n:Nat) (h4:n≤4) (f:Nat→Nat→Rat) (r:Nat) (h0:0<r) (hr:r<n):detQ n (w0g f r)= -detQ n f:=by
 have hn:n=2∨n=3∨n=4:=by omega
 rcases hn with rfl | rfl | rfl
 · have:r=1:=by omega
   subst this
   simp [det2,w0g];grind
 · have a:r=1∨r=2:=by omega
   rcases a with rfl | rfl<;>simp [det3,w0g]<;>grind
 · have a:r=1∨r=2∨r=3:=by omega
   rcases a with rfl | rfl | rfl<;>simp [det4,det3,w0g,J0m]<;>grind
theorem k2f {n:Nat} {f:Nat→Nat→Rat} {x:Nat→Rat} {r:Nat} (hr:r<n) (h:kerQ n (w0g f r) x):kerQ n f x:=by
 have e0:w0g f r 0=f r:=by funext k;simp [w0g]
 have e1:r≠0→w0g f r r=f 0:=fun hr=>by funext k;simp [w0g,hr]
 have e2: ∀i,i≠0→i≠r→w0g f r i=f i:=fun i h1 h2=>by funext k;simp [w0g,h1,h2]
 refine⟨h.1,fun i hi=> ?_⟩
 by_cases z0:i=0
 · subst z0
   by_cases er:r=0
   · subst er
     rw [←e0];exact h.2 0 hi
   · rw [←e1 er];exact h.2 r hr
 · by_cases er:i=r
   · subst er
     rw [←e0];exact h.2 0 (by omega)
   · rw [←e2 i z0 er];exact h.2 i hi
def Z1v (f:Nat→Nat→Rat):Nat→Nat→Rat:=fun i k=>f (i+1) (k+1)-f (i+1) 0/f 0 0*f 0 (k+1)
theorem G2s (n:Nat) (h4:n≤3) (f:Nat→Nat→Rat) (h:f 0 0≠0):detQ (n+1) f=f 0 0*detQ n (Z1v f):=by
 have e1:f 1 0=f 1 0/f 0 0*f 0 0:=by grind
 have e2:f 2 0=f 2 0/f 0 0*f 0 0:=by grind
 have e3:f 3 0=f 3 0/f 0 0*f 0 0:=by grind
 have hn:n=0∨n=1∨n=2∨n=3:=by omega
 rcases hn with rfl | rfl | rfl | rfl
 · rw [det1];simp [detQ];try grind
 · rw [det2,det1]
   simp only [Z1v]
   generalize f 1 0/f 0 0=a at*
   rw [e1];grind
 · rw [det3,det2]
   simp only [Z1v]
   generalize f 1 0/f 0 0=a at*
   generalize f 2 0/f 0 0=b at*
   rw [e1,e2];grind
 · rw [det4,det3,det3,det3,det3,det3]
   simp only [Z1v,J0m]
   simp
   generalize f 1 0/f 0 0=a at*
   generalize f 2 0/f 0 0=b at*
   generalize f 3 0/f 0 0=c at*
   rw [e1,e2,e3];grind
theorem y0g (X Y:Nat→Rat): ∀n,dotQ X Y (n+1)=X 0*Y 0+dotQ (fun k=>X (k+1)) (fun k=>Y (k+1)) n
 | 0=>by simp [dotQ];try grind
 | n+1=>by
  rw [dotQ,y0g X Y n,dotQ];grind
theorem W0m {X X' Y Y':Nat→Rat} : ∀n,(∀k,k<n→X k=X' k∧Y k=Y' k)→dotQ X Y n=dotQ X' Y' n
 | 0,_=>rfl
 | n+1,h=>by rw [dotQ,dotQ,W0m n fun k hk=>h k (by omega),(h n (by omega)).1,(h n (by omega)).2]
theorem Z1a (X X' Y:Nat→Rat) (a:Rat): ∀n,dotQ (fun k=>X k+a*X' k) Y n=dotQ X Y n+a*dotQ X' Y n
 | 0=>by simp [dotQ];try grind
 | n+1=>by rw [dotQ,dotQ,dotQ,Z1a X X' Y a n];grind
theorem W1v (X Y:Nat→Rat) (a:Rat): ∀n,dotQ (fun k=>a*X k) Y n=a*dotQ X Y n
 | 0=>by simp [dotQ]
 | n+1=>by rw [dotQ,dotQ,W1v X Y a n];grind
theorem J1y (X Y:Nat→Rat) (d:Rat) (n:Nat):dotQ (fun k=>X k/d) Y n=dotQ X Y n/d:=by
 have:=W1v X Y (1/d) n
 rw [W0m n (X':=fun k=>1/d*X k) (Y':=Y) fun k _=>⟨by grind,rfl⟩,this]
 grind
theorem z1t (a:Nat→Rat) (A:Nat→Nat→Rat) (x:Nat→Rat) (n:Nat): ∀m,dotQ a (fun k=>dotQ (A k) x n) m=dotQ (fun j=>dotQ a (fun k=>A k j) m) x n
 | 0=>by
  rw [dotQ,z0f n fun k _=> ?_]
  simp [dotQ]
 | m+1=>by
  rw [dotQ,z1t a A x n m,←Z1a];rfl
theorem W1d : ∀(n:Nat),n≤4→ ∀f:Nat→Nat→Rat,detQ n f=0→ ∃x,kerQ n f x
 | 0,_,f,h=>by rw [detQ] at h;exact absurd h (by decide)
 | n+1,h4,f,h=>by
  have main: ∀f:Nat→Nat→Rat,f 0 0≠0→detQ (n+1) f=0→ ∃x,kerQ (n+1) f x:=fun f h0 h=>by
   rw [G2s n (by omega) f h0] at h
   have hz:detQ n (Z1v f)=0:=by
    rcases Rat.mul_eq_zero.1 h with h | h
    · exact absurd h h0
    · exact h
   obtain⟨y,⟨i,hi,hy⟩,hk⟩:=W1d n (by omega) _ hz
   refine⟨fun k=>if k=0 then -(dotQ (fun k=>f 0 (k+1)) y n)/f 0 0 else y (k-1),⟨i+1,by omega,by simpa using hy⟩,fun r hr=> ?_⟩
   rw [y0g]
   have e:dotQ (fun k=>f r (k+1)) (fun k=>if k+1=0 then -(dotQ (fun k=>f 0 (k+1)) y n)/f 0 0 else y (k+1-1)) n=dotQ (fun k=>f r (k+1)) y n:=W0m n fun k hk=>⟨rfl,by simp⟩
   rw [e,if_pos rfl]
   cases r with
   | zero=>grind
   | succ r=>
    have h2:=hk r (by omega)
    have h3:dotQ (Z1v f r) y n=dotQ (fun k=>f (r+1) (k+1)) y n+ -(f (r+1) 0/f 0 0)*dotQ (fun k=>f 0 (k+1)) y n:=by
     rw [←Z1a]
     exact W0m n fun k _=>⟨by unfold Z1v;grind,rfl⟩
    rw [h3] at h2
    grind
  by_cases ha: ∀i,i<n+1→f i 0=0
  · refine⟨fun k=>if k=0 then 1 else 0,⟨0,by omega,by simp⟩,fun i hi=> ?_⟩
    rw [y0g,ha i hi,z0f n fun k _=>by simp]
    grind
  · obtain⟨r,hr⟩: ∃r,¬(r<n+1→f r 0=0):=Classical.not_forall.1 ha
    have hr1:r<n+1:=Classical.byContradiction fun h=>hr fun h2=>absurd h2 h
    have hr2:f r 0≠0:=fun h=>hr fun _=>h
    by_cases h0:r=0
    · subst h0;exact main f hr2 h
    · obtain⟨x,hx⟩:=main (w0g f r) (by simpa [w0g] using hr2) (by rw [v2p (n+1) h4 f r (by omega) hr1,h];grind)
      exact⟨x,k2f hr1 hx⟩
def absQ (x:Rat):Rat:=if x<0 then -x else x
theorem q2i (x:Rat):inQ1 (absQ x) x:=by unfold absQ inQ1;split<;>constructor<;>grind
theorem q2h {a x:Rat} (h:inQ1 a x):absQ x≤a:=by unfold absQ;have:=h.1;have:=h.2;split<;>grind
theorem v1u (x:Rat):0≤absQ x:=by unfold absQ;split<;>grind
theorem q2g {x:Rat} (h:absQ x=0):x=0:=by unfold absQ at h;split at h<;>grind
theorem k1e (x:Nat→Rat): ∀n,0<n→ ∃m,m<n∧ ∀k,k<n→absQ (x k)≤absQ (x m)
 | 0,h=>absurd h (by decide)
 | 1,_=>⟨0,by decide,fun k hk=>by have:k=0:=by omega
                                  subst this;exact Rat.le_refl⟩
 | n+2,_=>by
  obtain⟨m,h1,h2⟩:=k1e x (n+1) (by omega)
  by_cases hc:absQ (x (n+1))≤absQ (x m)
  · exact⟨m,by omega,fun k hk=>if e:k=n+1 then e▸hc else h2 k (by omega)⟩
  · have hc':absQ (x m)≤absQ (x (n+1)):=by grind
    exact⟨n+1,by omega,fun k hk=>if e:k=n+1 then e▸Rat.le_refl else Rat.le_trans (h2 k (by omega)) hc'⟩
theorem J1m {a b x:Rat} (h:inQ1 a x) (hab:a≤b):inQ1 b x:=by
 unfold inQ1 at*;have:=h.1;have:=h.2;constructor<;>grind
section
variable {n:Nat} {A R E:Nat→Nat→Rat} {e:Rat}
theorem ra_x (hE: ∀i j,i<n→j<n→E i j=J0d i j-dotQ (R i) (fun k=>A k j) n) (x:Nat→Rat) {i:Nat} (hi:i<n):dotQ (R i) (fun k=>dotQ (A k) x n) n=x i-dotQ (E i) x n:=by
 rw [z1t]
 have h1:dotQ (E i) x n=dotQ (fun j=>J0d i j+(-1)*dotQ (R i) (fun k=>A k j) n) x n:=W0m n fun k hk=>⟨by rw [hE i k hi hk];grind,rfl⟩
 rw [h1,Z1a,y0h n hi];grind
theorem Z3d (h4:n≤4) (hE: ∀i j,i<n→j<n→E i j=J0d i j-dotQ (R i) (fun k=>A k j) n) (B:Nat→Nat→Rat) (hB: ∀i j,i<n→j<n→inQ1 (B i j) (E i j)) (he: ∀i,i<n→sumQ (B i) n≤e) (h1:e<1):detQ n A≠0:=by
 intro h
 obtain⟨x,⟨i,hi,hx⟩,hk⟩:=W1d n h4 A h
 obtain⟨m,hm,hmx⟩:=k1e x n (by omega)
 have hb:inQ1 (sumQ (B m) n*absQ (x m)) (dotQ (E m) x n):=y0i n fun k hk=>⟨hB m k hm hk,J1m (q2i _) (hmx k hk)⟩
 have hz:=ra_x hE x hm
 rw [z0f n fun k hk2=>by rw [hk k hk2,Rat.mul_zero]] at hz
 have h2:x m=dotQ (E m) x n:=by grind
 rw [←h2] at hb
 have h3:=q2h hb
 have h4:=v1u (x m)
 have h5:sumQ (B m) n*absQ (x m)≤e*absQ (x m):=Rat.mul_le_mul_of_nonneg_right (he m hm) h4
 have h6:0≤(1-e):=by grind
 have h7:(1-e)*absQ (x m)≤0:=by grind
 have h8:absQ (x m)=0:=by
  refine Classical.byContradiction fun hne=> ?_
  have:0<absQ (x m):=by grind
  have:=Rat.mul_pos (show 0<1-e by grind) this
  grind
 have h9:=hmx i hi
 have h10:=v1u (x i)
 exact hx (q2g (by grind))
theorem k2i (h4:n≤4) (hE: ∀i j,i<n→j<n→E i j=J0d i j-dotQ (R i) (fun k=>A k j) n) (B:Nat→Nat→Rat) (hB: ∀i j,i<n→j<n→inQ1 (B i j) (E i j)) (he: ∀i,i<n→sumQ (B i) n≤e) (h1:e<1)
 {r q:Rat} (hr: ∀i j,i<n→j<n→inQ1 r (R i j)) (hq:e*r≤q*(1-e)) {i j:Nat} (hi:i<n) (hj:j<n):inQ1 q (cofQ n A i j/detQ n A-R i j):=by
 have hd:=Z3d h4 hE B hB he h1
 have h1n:1≤n:=by omega
 let x:Nat→Rat:=fun k=>cofQ n A k j/detQ n A
 have hx: ∀k,k<n→dotQ (A k) x n=J0d k j:=fun k hk=>by
  have c:=z1z n h1n h4 A k j hk hj
  rw [v0q] at c⊢
  show dotQ (fun l=>cofQ n A l j/detQ n A) (A k) n=_
  rw [J1y,c];grind
 have hrx: ∀i,i<n→x i-R i j=dotQ (E i) x n:=fun i hi=>by
  have:=ra_x hE x hi
  rw [W0m n (fun k hk=>⟨rfl,hx k hk⟩)] at this
  rw [v0q,show dotQ (fun k=>J0d k j) (R i) n=dotQ (J0d j) (R i) n from W0m n fun k _=>⟨by unfold J0d;split<;>split<;>first | rfl | omega,rfl⟩,y0h n hj] at this
  grind
 obtain⟨m,hm,hmx⟩:=k1e x n (by omega)
 have hb: ∀i,i<n→inQ1 (e*absQ (x m)) (dotQ (E i) x n):=fun i hi=>J1m (y0i n fun k hk=>⟨hB i k hi hk,J1m (q2i _) (hmx k hk)⟩) (Rat.mul_le_mul_of_nonneg_right (he i hi) (v1u _))
 have b1:=hb m hm
 rw [←hrx m hm] at b1
 have b2:=hr m j hm hj
 have b3:absQ (x m)≤r+e*absQ (x m):=q2h (by unfold inQ1 at*;have:=b1.1;have:=b1.2;have:=b2.1;have:=b2.2;constructor<;>grind)
 have e0:0≤e:=by
  have:=he m hm
  have:0≤sumQ (B m) n:=by
   have hs: ∀l,l≤n→0≤sumQ (B m) l:=fun l=>by
    induction l with
    | zero=>intro _;exact Rat.le_refl
    | succ l ih=>
     intro hl
     have:=ih (by omega)
     have hbl:=hB m l hm (by omega)
     unfold inQ1 at hbl
     rw [sumQ];grind
   exact hs n (Nat.le_refl _)
  grind
 have b4:(e*absQ (x m))*(1-e)≤q*(1-e):=by
  have:e*(absQ (x m)*(1-e))≤e*r:=Rat.mul_le_mul_of_nonneg_left (by grind) e0
  grind
 have b5:e*absQ (x m)≤q:=by
  refine Classical.byContradiction fun hne=> ?_
  have hlt:0<e*absQ (x m)-q:=by grind
  have:=Rat.mul_pos hlt (show 0<1-e by grind)
  grind
 have:=hb i hi
 rw [←hrx i hi] at this
 exact J1m this b5
end
end Go.Pv
end
section
/-The inverse for sure:what is answered has it. No program in it. -/
namespace Go.Pv
theorem G0x {G:Nat→Nat→Ivl×Int} {n:Nat} (h:(W0z G n).2=0):(W0z G n).1.length=n∧ ∀i,i<n→((W0z G n).1.getD i []).length=n∧ ∀j,j<n→(G i j).2=0∧atM (W0z G n).1 i j=(G i j).1:=by
 obtain⟨g1,g2,g3⟩:=U0n h
 refine⟨g1,fun i hi=> ?_⟩
 have e:(W0z G n).1.getD i []=(tabF (fun j=>G i j) 0 n []).1:=g3 i hi
 obtain⟨r1,r2,r3⟩:=U0n (g2 i hi)
 refine⟨by rw [e];exact r1,fun j hj=>⟨r2 j hj,?_⟩⟩
 unfold atM
 rw [e];exact r3 j hj
theorem Q2r {G:Nat→Nat→Ivl×Int} {n:Nat} (h: ∀i j,i<n→j<n→(G i j).2=0):(W0z G n).2=0:=
 U0o _ _ _ fun i _ hi=>U0o _ _ _ fun j _ hj=>h i j (by omega) (by omega)
theorem U1q {G:Nat→Nat→Ivl×Int} {n:Nat} (h: ∀i j,i<n→j<n→(G i j).2=0∨(G i j).2=2):(W0z G n).2=0∨(W0z G n).2=2:=by
 have t: ∀ {β:Type} (G:Nat→β×Int) (k i:Nat) (acc:List β),(∀j,i≤j→j<i+k→(G j).2=0∨(G j).2=2)→(tabF G i k acc).2=0∨(tabF G i k acc).2=2:=by
  intro β G k
  induction k with
  | zero=>intro i acc _;exact .inl rfl
  | succ k ih=>
   intro i acc h
   unfold tabF
   split
   · exact h i (Nat.le_refl _) (by omega)
   · exact ih _ _ fun j h1 h2=>h j (by omega) (by omega)
 exact t _ _ _ _ fun i _ hi=>t _ _ _ _ fun j _ hj=>h i j (by omega) (by omega)
theorem Y1t {q:List (List Nm)} {i:Nat} (hi:i<q.length):(ofM q).getD i []=(q.getD i []).map fun x=>⟨x,x⟩:=by
 unfold ofM ofB
 rw [List.getD_eq_getElem?_getD,List.getElem?_map,List.getElem?_eq_getElem hi,List.getD_eq_getElem?_getD,List.getElem?_eq_getElem hi];rfl
theorem X1t {q:List (List Nm)} {i j:Nat} (hi:i<q.length) (hj:j<(q.getD i []).length):atM (ofM q) i j=⟨entQ q i j,entQ q i j⟩:=by
 unfold atM entQ
 rw [Y1t hi]
 generalize q.getD i []=r at hj⊢
 rw [List.getD_eq_getElem?_getD,List.getElem?_map,List.getElem?_eq_getElem hj,List.getD_eq_getElem?_getD,List.getElem?_eq_getElem hj];rfl
theorem W2u {q:List (List Nm)} {i:Nat} (hi:i<q.length):((ofM q).getD i []).length=(q.getD i []).length:=by
 rw [Y1t hi,List.length_map]
theorem sqR.rightM {n:Nat} {a:List (List Nm)} (h:sqR n a) (h1:1≤n) (h4:n≤4):rightM (ofM a)=true:=by
 have hl:(ofM a).length=n:=by unfold ofM;rw [List.length_map];exact h.1
 refine rightM_iff.2 ⟨fun i hi=> ?_,by omega,by omega⟩
 rw [hl] at hi⊢
 have h0:i<a.length:=by rw [h.1];exact hi
 have hr:=h.row hi
 refine⟨by rw [W2u h0];exact hr.1,?_⟩
 have hlr:((ofM a).getD i []).length=n:=by rw [W2u h0];exact hr.1
 refine X0z (fun j hj=> ?_) (by omega) (by omega)
 rw [hlr] at hj
 have e:((ofM a).getD i []).getD j default=atM (ofM a) i j:=rfl
 rw [e,X1t h0 (by rw [hr.1];exact hj)]
 exact j0d (h.ent hi hj)
theorem K2x {r:Nat→Ivl} {p:Int} : ∀j,(sumF r p j).2=0→sumQ (fun k=>qN (magI (r k))) (j+1)≤qN (sumF r p j).1
 | 0,_=>by
  show 0+qN (magI (r 0))≤qN (magI (r 0))
  rw [Rat.zero_add];exact Rat.le_refl
 | j+1,h=>by
  have h0:(sumF r p j).2=0:=by
   refine Classical.byContradiction fun hne=> ?_
   rw [sumF,if_pos hne] at h
   exact hne h
  have ih:=K2x j h0
  rw [Z1o h0] at h⊢
  have hv:=K0p h
  have hg:=K0c (exV 0 (ofN (sumF r p j).1) (ofN (magI (r (j+1))))) p.toNat
  rw [w0n,exQ0,Z0g,Z0g] at hg
  show sumQ (fun k=>qN (magI (r k))) (j+1)+qN (magI (r (j+1)))≤_
  rw [hv]
  grind
theorem y1u {m:Mx} {p:Int} (hl:1≤m.length): ∀i,(K0e m p i).2=0→0≤qN (K0e m p i).1∧ ∀k,k<i→sumQ (fun j=>qN (magI (atM m k j))) m.length≤qN (K0e m p i).1
 | 0,_=>⟨by show 0≤qN (default:Nm);rw [W0y];exact Rat.le_refl,fun k hk=>by omega⟩
 | i+1,h=>by
  have h0:(K0e m p i).2=0:=by
   refine Classical.byContradiction fun hne=> ?_
   rw [K0e,if_pos hne] at h
   exact hne h
  have hs:(sumF (atM m i) p (m.length-1)).2=0:=by
   refine Classical.byContradiction fun hne=> ?_
   rw [K0e,if_neg (fun e=>e h0),if_pos hne] at h
   exact hne h
  obtain⟨h2,h4⟩:=y1u hl i h0
  have s3:=K2x _ hs
  rw [show m.length-1+1=m.length from by omega] at s3
  have hsr:=G0k (atM m i) p (m.length-1)
  have hnr:=H0q m p i
  rw [w0r h0 hs,x0k hsr hnr]
  split
  · rename_i hc
    have hc:=cmpN_gt.1 hc
    refine⟨by show 0≤qN (sumF (atM m i) p (m.length-1)).1;grind,fun k hk=> ?_⟩
    show _≤qN (sumF (atM m i) p (m.length-1)).1
    by_cases e:k=i
    · subst e;exact s3
    · have:=h4 k (by omega);grind
  · rename_i hc
    have hc:=cmpN_le.1 (Int.not_lt.1 hc)
    refine⟨h2,fun k hk=> ?_⟩
    show _≤qN (K0e m p i).1
    by_cases e:k=i
    · subst e;grind
    · exact h4 k (by omega)
theorem x0f {m:Mx} {p:Int} (h:(X0l m p).2=0):rightM m=true∧Z0a p=true∧0≤qN (X0l m p).1∧Q0h (X0l m p).1=true∧ ∀k,k<m.length→sumQ (fun j=>qN (magI (atM m k j))) m.length≤qN (X0l m p).1:=by
 have hg:rightM m=true∧Z0a p=true:=by
  refine Classical.byContradiction fun hne=> ?_
  rw [X0l,if_neg hne] at h
  exact absurd h (by decide)
 rw [X0l,if_pos hg] at h⊢
 obtain⟨a,b⟩:=y1u (X0o hg.1).1 _ h
 exact⟨hg.1,hg.2,a,H0q m p _,b⟩
def J0i (x a:List (List Nm)) (p:Int):Nm×Int:=
 if (mulM (ofM x) (ofM a) p).2≠0 then(default,(mulM (ofM x) (ofM a) p).2) else
 if (opM 1 (idM (x.length:Int)) (mulM (ofM x) (ofM a) p).1 p).2≠0 then(default,(opM 1 (idM (x.length:Int)) (mulM (ofM x) (ofM a) p).1 p).2) else
 X0l (opM 1 (idM (x.length:Int)) (mulM (ofM x) (ofM a) p).1 p).1 p
def radQ (x:List (List Nm)) (e:Nm) (p:Int):Nm×Int:=
 if (Q0s 1 oneN e p false).2≠0 then(default,(Q0s 1 oneN e p false).2) else
 if (X0l (ofM x) p).2≠0 then(default,(X0l (ofM x) p).2) else
 if (Q0s 2 (X0l (ofM x) p).1 e p true).2≠0 then(default,(Q0s 2 (X0l (ofM x) p).1 e p true).2) else
 Y0r (Q0s 2 (X0l (ofM x) p).1 e p true).1 (Q0s 1 oneN e p false).1 p true
def K0n (y q:Nm) (p:Int):Ivl×Int:=if (Q0s 1 y q p false).2≠0∨(Q0s 0 y q p true).2≠0 then(default,2) else(⟨(Q0s 1 y q p false).1,(Q0s 0 y q p true).1⟩,0)
def Z0z (a:List (List Nm)) (p:Int):Mx×Int:=
 if (Q0o a p).2≠0 then([],(Q0o a p).2) else
 if (J0i (Q0o a p).1 a p).2≠0 then([],(J0i (Q0o a p).1 a p).2) else
 if cmpR (J0i (Q0o a p).1 a p).1 oneN≥0 then([],3) else
 if (radQ (Q0o a p).1 (J0i (Q0o a p).1 a p).1 p).2≠0 then([],(radQ (Q0o a p).1 (J0i (Q0o a p).1 a p).1 p).2) else
 W0z (fun i j=>K0n (entQ (Q0o a p).1 i j) (radQ (Q0o a p).1 (J0i (Q0o a p).1 a p).1 p).1 p) a.length
theorem j1w {k:Nat} {a b:Mx} {p:Int} (h:(opM k a b p).2=0):(rightM a=true∧rightM b=true∧a.length=b.length∧Z0a p=true)∧(opM k a b p).1.length=a.length∧ ∀i,i<a.length→((opM k a b p).1.getD i []).length=a.length∧ ∀j,j<a.length→(opI k (atM a i j) (atM b i j) p).2=0∧atM (opM k a b p).1 i j=(opI k (atM a i j) (atM b i j) p).1:=by
 have hg:rightM a=true∧rightM b=true∧a.length=b.length∧Z0a p=true:=by
  refine Classical.byContradiction fun hne=> ?_
  rw [opM,if_neg hne] at h
  exact absurd h (by decide)
 rw [opM,if_pos hg] at h⊢
 exact⟨hg,G0x h⟩
theorem U0q {a b:Mx} {p:Int} (h:(mulM a b p).2=0):(rightM a=true∧rightM b=true∧a.length=b.length∧Z0a p=true)∧(mulM a b p).1.length=a.length∧ ∀i,i<a.length→((mulM a b p).1.getD i []).length=a.length∧ ∀j,j<a.length→(dotF (atM a i) (fun k=>atM b k j) p a.length).2=0∧atM (mulM a b p).1 i j=(dotF (atM a i) (fun k=>atM b k j) p a.length).1:=by
 have hg:rightM a=true∧rightM b=true∧a.length=b.length∧Z0a p=true:=by
  refine Classical.byContradiction fun hne=> ?_
  rw [mulM,if_neg hne] at h
  exact absurd h (by decide)
 rw [mulM,if_pos hg] at h⊢
 exact⟨hg,G0x h⟩
theorem G0p :Q0h oneN=true:=by decide
theorem Y1p {n:Nat} {x a:List (List Nm)} {p:Int} (hx:sqR n x) (ha:sqR n a) (h1:1≤n) (h4:n≤4) (h:(J0i x a p).2=0):
 0≤qN (J0i x a p).1∧Q0h (J0i x a p).1=true∧ ∃B:Nat→Nat→Rat,(∀i j,i<n→j<n→inQ1 (B i j) (J0d i j-dotQ (fun k=>qN (entQ x i k)) (fun k=>qN (entQ a k j)) n))∧ ∀i,i<n→sumQ (B i) n≤qN (J0i x a p).1:=by
 have c1:(mulM (ofM x) (ofM a) p).2=0:=by
  refine Classical.byContradiction fun hne=> ?_
  rw [J0i,if_pos hne] at h
  exact hne h
 have c2:(opM 1 (idM (x.length:Int)) (mulM (ofM x) (ofM a) p).1 p).2=0:=by
  refine Classical.byContradiction fun hne=> ?_
  rw [J0i,if_neg (fun e=>e c1),if_pos hne] at h
  exact hne h
 rw [J0i,if_neg (fun e=>e c1),if_neg (fun e=>e c2)] at h⊢
 obtain⟨-,m1,m2⟩:=U0q c1
 obtain⟨-,o1,o2⟩:=j1w c2
 obtain⟨n1,n2,n3,n4,n5⟩:=x0f h
 have hxl:(ofM x).length=n:=by unfold ofM;rw [List.length_map];exact hx.1
 have hid:=(Q1d h1 h4 (show 0<n by omega) (show 0<n by omega)).1
 rw [hxl] at m1 m2
 rw [hx.1,hid] at o1 o2
 rw [hx.1] at n1 n3 n4 n5⊢
 generalize hM:(opM 1 (idM (n:Int)) (mulM (ofM x) (ofM a) p).1 p).1=M at*
 refine⟨n3,n4,fun i j=>qN (magI (atM M i j)),fun i j hi hj=> ?_,fun i hi=> ?_⟩
 · obtain⟨q1,q2⟩:=(o2 i hi).2 j hj
   obtain⟨d1,d2⟩:=(m2 i hi).2 j hj
   have hd:memI (dotQ (fun k=>qN (entQ x i k)) (fun k=>qN (entQ a k j)) n) (atM (mulM (ofM x) (ofM a) p).1 i j):=by
    rw [d2]
    refine Z1b n d1 fun k hk=>⟨?_,?_⟩
    · rw [X1t (by rw [hx.1];exact hi) (by rw [(hx.row hi).1];exact hk)];exact⟨Rat.le_refl,Rat.le_refl⟩
    · rw [X1t (by rw [ha.1];exact hk) (by rw [(ha.row hk).1];exact hj)];exact⟨Rat.le_refl,Rat.le_refl⟩
   have ho:=j1x 1 q1 (Y2l h1 h4 hi hj) hd
   rw [exQ1] at ho
   rw [←q2] at ho
   have hr:Q0m (atM M i j)=true:=V0d n1 (by omega) (by omega)
   show inQ1 (qN (magI (atM M i j))) _
   exact(k1j hr ho).1
 · have:=n5 i (by omega)
   rw [o1] at this
   exact this
theorem w1v {a b:Nm} {p:Int} (ha:Q0h a=true) (hb:Q0h b=true) (hp:1≤p.toNat) (hn:b.neg=false) (h:(Y0r a b p true).2=0):qN a≤qN (Y0r a b p true).1*qN b:=by
 unfold Y0r at h⊢
 split at h
 · exact absurd h (by decide)
 rename_i hw
 rw [if_neg hw]
 unfold divN at h⊢
 have hv:=J0u (Q0x (v0x (ofN a) (ofN b) p.toNat) p.toNat true) h
 have h0:0<(ofN b).m:=Nat.pos_of_ne_zero fun e=>hw ((X0b hb).1 e)
 rw [hv.2]
 have hf:=U2s (ratV (ofN a) (ofN b) p.toNat) p.toNat
 have:=(H3i (a:=ofN a) (b:=ofN b) (p:=p.toNat) hn h0 hf).1 (K0c _ _)
 rw [Z0g,Z0g] at this
 exact this
theorem G1r {y q:Nm} {p:Int} (h:(K0n y q p).2=0) {X:Rat} (hX:inQ1 (qN q) (X-qN y)):memI X (K0n y q p).1∧((K0n y q p).1.lo=(Q0s 1 y q p false).1∧(K0n y q p).1.hi=(Q0s 0 y q p true).1∧(Q0s 1 y q p false).2=0∧(Q0s 0 y q p true).2=0):=by
 unfold K0n at h⊢
 split at h
 · exact absurd h (by decide)
 rename_i hn
 rw [if_neg hn]
 have e1:(Q0s 1 y q p false).2=0:=Classical.byContradiction fun h=>hn (.inl h)
 have e2:(Q0s 0 y q p true).2=0:=Classical.byContradiction fun h=>hn (.inr h)
 have v1:=K0p e1
 have v2:=K0p e2
 have g1:=V0w (exV 1 (ofN y) (ofN q)) p.toNat
 have g2:=K0c (exV 0 (ofN y) (ofN q)) p.toNat
 rw [w0n,exQ1,Z0g,Z0g,←v1] at g1
 rw [w0n,exQ0,Z0g,Z0g,←v2] at g2
 unfold inQ1 at hX
 have:=hX.1
 have:=hX.2
 exact⟨⟨by show qN (Q0s 1 y q p false).1≤X;grind,by show X≤qN (Q0s 0 y q p true).1;grind⟩,rfl,rfl,e1,e2⟩
end Go.Pv
end
section
/-The inverse for sure:what is answered has it (the whole),and which errors there are. No program in it. -/
namespace Go.Pv
def sqG (n:Nat) (x:GJ):Prop:=sqR n x.a∧sqR n x.r
theorem v1s (x m y:Nm) (p:Int):Q0h (Q1n x m y p).1=true:=by
 unfold Q1n
 split<;>exact Z0j _ _ _ _ _
theorem J2u (a b:Nm) (p:Int) (up:Bool):Q0h (divN a b p up).1=true:=J0z (y0n (Q0x (v0x _ _ _) _ _))
theorem v0b {n:Nat} (m:Nm) (p:Int) (row other:List Nm) (h:row.length=n):(q0w m p row other).length=n∧ ∀c∈q0w m p row other,Q0h c=true:=by
 unfold q0w
 refine⟨by simp [h],fun c hc=> ?_⟩
 simp only [List.mem_map] at hc
 obtain⟨j,_,rfl⟩:=hc
 exact v1s _ _ _ _
theorem x0i {n:Nat} (d:Nm) (p:Int) (row:List Nm) (h:row.length=n):(divL d p row).length=n∧ ∀c∈divL d p row,Q0h c=true:=by
 unfold divL
 refine⟨by simp [h],fun c hc=> ?_⟩
 simp only [List.mem_map] at hc
 obtain⟨j,_,rfl⟩:=hc
 exact J2u _ _ _ _
theorem k2s {n:Nat} {p:Int} {k i:Nat} {x:GJ} (h:sqG n x) (hk:k<n) (hi:i<n):sqG n (K1v p k i x):=by
 unfold K1v
 split
 · exact h
 split
 · exact⟨h.1.set (v0b _ _ _ _ (h.1.row hi).1),h.2.set (v0b _ _ _ _ (h.2.row hi).1)⟩
 · exact h
theorem v0j {n:Nat} {p:Int} {k:Nat} {x:GJ} (h:sqG n x) (hk:k<n): ∀i,i≤n→sqG n (J0y p k x i)
 | 0,_=>h
 | i+1,hi=>by
  have:=v0j (p:=p) h hk i (by omega)
  unfold J0y
  split
  · exact k2s this hk (by omega)
  · exact this
theorem U1m {n k:Nat} {x:GJ} (h:sqG n x) (hk:k<n):sqG n (y0d n k x):=by
 have:=X1n x.a k (n-(k+1))
 exact⟨h.1.swap hk (by omega),h.2.swap hk (by omega)⟩
theorem U1n {n:Nat} {p:Int} {k:Nat} {x:GJ} (h:sqG n x) (hk:k<n):sqG n (q0z p k x):=by
 unfold q0z
 split
 · exact⟨h.1.set (x0i _ _ _ (h.1.row hk).1),h.2.set (x0i _ _ _ (h.2.row hk).1)⟩
 · exact h
theorem k2u {n:Nat} {p:Int} {k:Nat} {x:GJ} (h:sqG n x) (hk:k<n):sqG n (x0p p n k x):=by
 unfold x0p
 split
 · exact h
 split
 · exact v0j (U1n (U1m h hk) hk) hk n (Nat.le_refl _)
 · exact U1n (U1m h hk) hk
theorem v0k {n:Nat} {p:Int} {x:GJ} (h:sqG n x): ∀k,k≤n→sqG n (X0q p n x k)
 | 0,_=>h
 | k+1,hk=>by
  have:=v0k h k (by omega) (p:=p)
  unfold X0q
  split
  · exact k2u this (by omega)
  · exact this
theorem j1b (n:Nat):sqR n (W0i n):=by
 unfold W0i
 refine⟨by simp,fun r hr=> ?_⟩
 simp only [List.mem_map] at hr
 obtain⟨i,_,rfl⟩:=hr
 refine⟨by simp,fun c hc=> ?_⟩
 simp only [List.mem_map] at hc
 obtain⟨j,_,rfl⟩:=hc
 split<;>decide
theorem H1b {a:List (List Nm)} (h:rightQ a=true):sqR a.length a∧1≤a.length∧a.length≤4:=by
 obtain⟨h1,h2,h3⟩:=rightQ_iff.1 h
 refine⟨⟨rfl,fun r hr=> ?_⟩,h2,h3⟩
 obtain⟨i,hi,rfl⟩:=List.mem_iff_getElem.1 hr
 have:=h1 i hi
 rw [List.getD_eq_getElem?_getD,List.getElem?_eq_getElem hi] at this
 have h5:H0j a[i] a.length=true:=this
 unfold H0j at h5
 rw [Bool.and_eq_true,List.all_eq_true] at h5
 exact⟨of_decide_eq_true h5.2,fun c hc=>h5.1 c hc⟩
theorem z0n {a:List (List Nm)} {p:Int} (h:(Q0o a p).2=0):rightQ a=true∧Z0a p=true∧sqR a.length (Q0o a p).1∧sqR a.length a∧1≤a.length∧a.length≤4∧(X0q p a.length ⟨a,W0i a.length,0⟩ a.length).e=0∧(Q0o a p).1=(X0q p a.length ⟨a,W0i a.length,0⟩ a.length).r:=by
 unfold Q0o at h⊢
 split at h
 · rename_i hg
   rw [if_pos hg]
   obtain⟨s1,s2,s3⟩:=H1b hg.1
   split at h
   · rename_i he
     rw [if_pos he]
     exact⟨hg.1,hg.2,(v0k (p:=p) (x:=⟨a,W0i a.length,0⟩) ⟨s1,j1b _⟩ a.length (Nat.le_refl _)).2,s1,s2,s3,he,rfl⟩
   · rename_i he
     exact absurd h he
 · exact absurd h (by decide)
theorem w1i {a:List (List Nm)} {p:Int} (h:(Z0z a p).2=0):(Q0o a p).2=0∧(J0i (Q0o a p).1 a p).2=0∧ ¬cmpR (J0i (Q0o a p).1 a p).1 oneN≥0∧(radQ (Q0o a p).1 (J0i (Q0o a p).1 a p).1 p).2=0∧Z0z a p=W0z (fun i j=>K0n (entQ (Q0o a p).1 i j) (radQ (Q0o a p).1 (J0i (Q0o a p).1 a p).1 p).1 p) a.length:=by
 unfold Z0z at h⊢
 split at h
 · rename_i hc;exact absurd h hc
 rename_i c1
 split at h
 · rename_i hc;exact absurd h hc
 rename_i c2
 split at h
 · exact absurd h (by decide)
 rename_i c3
 split at h
 · rename_i hc;exact absurd h hc
 rename_i c4
 refine⟨Classical.byContradiction fun h=>c1 h,Classical.byContradiction fun h=>c2 h,c3,Classical.byContradiction fun h=>c4 h,?_⟩
 rw [if_neg c1,if_neg c2,if_neg c3,if_neg c4]
theorem j1i {x:List (List Nm)} {e:Nm} {p:Int} (h:(radQ x e p).2=0):(Q0s 1 oneN e p false).2=0∧(X0l (ofM x) p).2=0∧(Q0s 2 (X0l (ofM x) p).1 e p true).2=0∧radQ x e p=Y0r (Q0s 2 (X0l (ofM x) p).1 e p true).1 (Q0s 1 oneN e p false).1 p true:=by
 unfold radQ at h⊢
 split at h
 · rename_i hc;exact absurd h hc
 rename_i c1
 split at h
 · rename_i hc;exact absurd h hc
 rename_i c2
 split at h
 · rename_i hc;exact absurd h hc
 rename_i c3
 refine⟨Classical.byContradiction fun h=>c1 h,Classical.byContradiction fun h=>c2 h,Classical.byContradiction fun h=>c3 h,?_⟩
 rw [if_neg c1,if_neg c2,if_neg c3]
theorem K2w (F:Nat→Rat): ∀n,(∀k,k<n→0≤F k)→0≤sumQ F n
 | 0,_=>Rat.le_refl
 | n+1,h=>by
  have:=K2w F n fun k hk=>h k (by omega)
  have:=h n (by omega)
  rw [sumQ];grind
theorem w1k {F:Nat→Rat} : ∀ {n j:Nat},(∀k,k<n→0≤F k)→j<n→F j≤sumQ F n
 | 0,j,_,hj=>absurd hj (Nat.not_lt_zero _)
 | n+1,j,h,hj=>by
  rw [sumQ]
  by_cases e:j=n
  · subst e
    have:=K2w F j fun k hk=>h k (by omega)
    grind
  · have:=w1k (F:=F) (n:=n) (j:=j) (fun k hk=>h k (by omega)) (by omega)
    have:=h n (by omega)
    grind
theorem w1q {lo hi:Nm} (h1:Q0h lo=true) (h2:Q0h hi=true) (h:qN lo≤qN hi):Q0m ⟨lo,hi⟩=true:=G0m h1 h2 (cmpN_le.2 h)
theorem U2r (p:Nat):y0e p 0:=⟨0,0,(J0b 0).symm,Nat.zero_le _⟩
theorem H1a {v:Vl} {p:Nat} {up:Bool} (hp:1≤p) (h:0≤qV v):0≤qV (Z0b v p up):=by
 cases up with
 | true=>exact Rat.le_trans h (K0c v p)
 | false=>exact w0k hp (U2r p) h
theorem q1p {x:Nm} (hx:Q0h x=true) (h:0≤qN x):x.neg=false:=by
 by_cases hw:x.w= []
 · exact((V2o hx).2.2.2 hw).1
 · cases hn:x.neg
   · rfl
   · exfalso
     have hm:(ofN x).m≠0:=fun e=>hw ((X0b hx).1 e)
     rw [←Z0g] at h
     have: ¬qV (ofN x)<0:=by grind
     apply this
     rw [←Q1s]
     show Y0f (ofN x)<0
     unfold Y0f
     rw [if_neg hm,show(ofN x).neg=true from hn];decide
theorem Y0p {a:List (List Nm)} {p:Int} (h:(Z0z a p).2=0):(sqR a.length a∧1≤a.length∧a.length≤4∧Z0a p=true)∧(Z0z a p).1.length=a.length∧detQ a.length (fun i j=>qN (entQ a i j))≠0∧
 ∀i,i<a.length→((Z0z a p).1.getD i []).length=a.length∧ ∀j,j<a.length→Q0m (atM (Z0z a p).1 i j)=true∧memI (cofQ a.length (fun i j=>qN (entQ a i j)) i j/detQ a.length (fun i j=>qN (entQ a i j))) (atM (Z0z a p).1 i j):=by
 obtain⟨s1,s2,s3,s4,s5⟩:=w1i h
 obtain⟨a1,a2,a3,a4,a5,a6, -, -⟩:=z0n s1
 obtain⟨r1,r2,B,r3,r4⟩:=Y1p a3 a4 a5 a6 s2
 obtain⟨d1,d2,d3,d4⟩:=j1i s4
 rw [d4] at s4
 rw [s5] at h⊢
 obtain⟨f1,f2⟩:=G0x h
 generalize hX:(Q0o a p).1=X at*
 generalize hE:(J0i X a p).1=e at*
 have hp:=X0u a2
 have he1:qN e<1:=by
  rw [x0k r2 G0p] at s3
  have:=cmpN_lt.1 (Int.not_le.1 s3)
  rwa [U0p] at this
 obtain⟨n1,n2,n3,n4,n5⟩:=x0f d2
 have hXl:(ofM X).length=a.length:=by unfold ofM;rw [List.length_map];exact a3.1
 --the divisor
 have v1:=K0p d1
 have g1:=V0w (exV 1 (ofN oneN) (ofN e)) p.toNat
 rw [w0n,exQ1,Z0g,Z0g,U0p,←v1] at g1
 have v3:=K0p d3
 have g3:=K0c (exV 2 (ofN (X0l (ofM X) p).1) (ofN e)) p.toNat
 rw [w0n,exQ2,Z0g,Z0g,←v3] at g3
 have rd:=Z0j 1 oneN e p false
 have rq:=Z0j 2 (X0l (ofM X) p).1 e p true
 have g0:0≤qN (Q0s 1 oneN e p false).1:=by
  have:=H1a (v:=exV 1 (ofN oneN) (ofN e)) (p:=p.toNat) (up:=false) hp (by rw [w0n,exQ1,Z0g,Z0g,U0p];grind)
  rw [v1];exact this
 have hdn:=q1p rd g0
 rw [←d4] at s4
 rw [d4] at s4
 have hqu:=w1v rq rd hp hdn s4
 rw [←d4] at hqu
 have hq0:0≤qN (radQ X e p).1:=by
  have hpos:0<qN (Q0s 1 oneN e p false).1:=by
   refine Classical.byContradiction fun hne=> ?_
   have hz:qN (Q0s 1 oneN e p false).1=0:=by grind
   have hdef:(Q0s 1 oneN e p false).1=default:=H1f rd K0a (by rw [hz,W0y])
   rw [hdef] at s4
   unfold Y0r at s4
   rw [if_pos (show(default:Nm).w= [] from rfl)] at s4
   exact absurd s4 (by decide)
  have hn0:0≤qN (X0l (ofM X) p).1*qN e:=Rat.mul_nonneg n3 r1
  refine Classical.byContradiction fun hne=> ?_
  have hlt:0< -qN (radQ X e p).1:=by grind
  have:=Rat.mul_pos hlt hpos
  grind
 refine⟨⟨a4,a5,a6,a2⟩,f1,?_,fun i hi=>⟨(f2 i hi).1,fun j hj=> ?_⟩⟩
 · exact Z3d (R:=fun i k=>qN (entQ X i k)) (A:=fun i j=>qN (entQ a i j)) (E:=fun i j=>J0d i j-dotQ (fun k=>qN (entQ X i k)) (fun k=>qN (entQ a k j)) a.length) a6 (fun i j _ _=>rfl) B r3 r4 he1
 · obtain⟨q1,q2⟩:=(f2 i hi).2 j hj
   have near:=k2i (R:=fun i k=>qN (entQ X i k)) (A:=fun i j=>qN (entQ a i j)) (E:=fun i j=>J0d i j-dotQ (fun k=>qN (entQ X i k)) (fun k=>qN (entQ a k j)) a.length) a6 (fun i j _ _=>rfl) B r3 r4 he1
    (r:=qN (X0l (ofM X) p).1) (q:=qN (radQ X e p).1) (fun i j hi hj=> ?_) ?_ hi hj
   · obtain⟨m1,m2,m3,m4,m5⟩:=G1r q1 near
     refine⟨?_,by rw [q2];exact m1⟩
     rw [q2]
     have hlo:Q0h (K0n (entQ X i j) (radQ X e p).1 p).1.lo=true:=by rw [m2];exact Z0j _ _ _ _ _
     have hhi:Q0h (K0n (entQ X i j) (radQ X e p).1 p).1.hi=true:=by rw [m3];exact Z0j _ _ _ _ _
     exact w1q hlo hhi (Rat.le_trans m1.1 m1.2)
   · have hs:=n5 i (by rw [hXl];exact hi)
     rw [hXl] at hs
     have hin:inQ1 (qN (magI (atM (ofM X) i j))) (qN (entQ X i j)):=by
      have ht:=V0d n1 (show i<(ofM X).length by rw [hXl];exact hi) (show j<(ofM X).length by rw [hXl];exact hj)
      refine(k1j ht ?_).1
      rw [X1t (by rw [a3.1];exact hi) (by rw [(a3.row hi).1];exact hj)]
      exact⟨Rat.le_refl,Rat.le_refl⟩
     refine J1m hin (Rat.le_trans (w1k (F:=fun k=>qN (magI (atM (ofM X) i k))) (fun k hk=> ?_) hj) hs)
     exact(k1j (V0d n1 (show i<(ofM X).length by rw [hXl];exact hi) (show k<(ofM X).length by rw [hXl];exact hk)) (q3g (V0d n1 (show i<(ofM X).length by rw [hXl];exact hi) (show k<(ofM X).length by rw [hXl];exact hk)))).2
   · have h1:qN (radQ X e p).1*qN (Q0s 1 oneN e p false).1≤qN (radQ X e p).1*(1-qN e):=Rat.mul_le_mul_of_nonneg_left g1 hq0
     grind
end Go.Pv
end
section
/-Rounded numbers of any size:how far down and up they go,and that nothing fails. No program in it. -/
namespace Go.Pv
theorem U2t {v:Vl} (hc:canV v) {p:Nat} (h:y0e p (qV v)):Q0f v.m≤p+1:=by
 rcases hc with hm | rfl
 rotate_left
 · show Q0f 0≤_;rw [X0e];omega
 obtain⟨m,e,h1,h2⟩:=h
 have hle:v.m≤m.natAbs:=by
  by_cases hve:e≤v.e
  · have e1:=K1p (X0i v) v.e e hve
    have e2:X0i v*2^(v.e-e).toNat=m:=qM_eq.1 (e1.symm.trans h1)
    rw [←e2,Int.natAbs_mul,U0s,Int.natAbs_pow]
    exact Nat.le_mul_of_pos_right _ (Nat.pow_pos (by decide))
  · have e1:=K1p m e v.e (by omega)
    have e2:X0i v=m*2^(e-v.e).toNat:=qM_eq.1 (h1.trans e1)
    obtain⟨d,hd⟩: ∃d,(e-v.e).toNat=d+1:=⟨(e-v.e).toNat-1,by omega⟩
    have:=U0s v
    rw [e2,hd,Int.natAbs_mul,Int.natAbs_pow,Nat.pow_succ] at this
    have h3:v.m=m.natAbs*2^d*2:=by rw [←this,Nat.mul_assoc];rfl
    omega
 exact bitlen_le_iff.2 (Nat.lt_of_le_of_lt (Nat.le_trans hle h2) (Nat.pow_lt_pow_right (by omega) (by omega)))
theorem J2p (v:Vl) (p:Nat) (up:Bool):y0e p (qV (Z0b v p up)):=by
 cases up
 · exact k1z v p
 · exact U2s v p
theorem y1c {p:Int} (h:Z0a p=true):p.toNat≤256:=by
 unfold Z0a at h
 simp only [Bool.and_eq_true,decide_eq_true_eq] at h
 omega
theorem J3t {L U p:Nat} {v:Vl} (hc:canV v) (h:luQ L U (qV v)) (hf:y0e p (qV v)) (hp:p≤256) (hL:L≤60000) (hU:U≤60000):(numV v).2=0:=by
 have hb:=U2t hc hf
 have h2:bdV 257 65536 v:=by
  rcases k0x hc h with h0 | ⟨h1,h2⟩
  · rcases hc with hm | rfl
    · omega
    · refine⟨?_,?_,?_⟩
      · show Q0f 0≤_;rw [X0e];omega
      · show -((65536:Nat):Int)≤0;omega
      · show(0:Int)≤((65536:Nat):Int);omega
  · exact⟨by omega,by omega,by omega⟩
 exact X1u h2 (by omega) (by omega)
theorem z0y {L U:Nat} {v:Vl} {p:Int} {up:Bool} (hc:canV v) (h:luQ L U (qV v)) (hp:Z0a p=true) (hL:L≤60000) (hU:U+1≤60000):(numV (Z0b v p.toNat up)).2=0:=
 J3t (Q0x hc _ _) (J0c hc h _ (X0u hp) up) (J2p _ _ _) (y1c hp) hL hU
theorem H0k {k L U:Nat} {x y:Nm} {p:Int} {up:Bool} (h:(Q0s k x y p up).2=0) (hq:luQ L U (exQ k (qN x) (qN y))):luQ L (U+1) (qN (Q0s k x y p up).1):=by
 obtain⟨hx,hy,hp⟩:=x0d h
 rw [K0p h]
 exact J0c (j0l k (X0g hx) (X0g hy)) (by rw [w0n];exact hq) _ (X0u hp) up
theorem q3m {k L U:Nat} {a b:Ivl} (hk:k<2) (ha:luI L U a) (hb:luI L U b):luQ L (U+1) (qV (loV k (ofN a.lo) (ofN a.hi) (ofN b.lo) (ofN b.hi)))∧luQ L (U+1) (qV (hiV k (ofN a.lo) (ofN a.hi) (ofN b.lo) (ofN b.hi))):=by
 constructor
 · unfold loV
   split
   · rw [V0k];exact H0u ha.2.1 hb.2.1
   · rw [if_pos (by omega),K0y];exact H0t ha.2.1 hb.2.2
 · unfold hiV
   split
   · rw [V0k];exact H0u ha.2.2 hb.2.2
   · rw [if_pos (by omega),K0y];exact H0t ha.2.2 hb.2.1
theorem y2z {L U L' U':Nat} {a b:Ivl} (ha:luI L U a) (hb:luI L' U' b):luQ (L+L') (U+U') (qV (loV 2 (ofN a.lo) (ofN a.hi) (ofN b.lo) (ofN b.hi)))∧luQ (L+L') (U+U') (qV (hiV 2 (ofN a.lo) (ofN a.hi) (ofN b.lo) (ofN b.hi))):=
 ⟨Q2b ha.2.1 ha.2.2 hb.2.1 hb.2.2,Q2c ha.2.1 ha.2.2 hb.2.1 hb.2.2⟩
theorem Q2s {L U:Nat} {lo hi:Vl} (h1:canV lo) (h2:canV hi) (q1:luQ L U (qV lo)) (q2:luQ L U (qV hi)) (hle:qV lo≤qV hi) (h:(Y0j lo hi).2=0):luI L U (Y0j lo hi).1:=by
 have hr:=H0y h1 h2 hle
 unfold Y0j at h hr⊢
 split at h
 · rename_i hf
   rw [if_pos hf] at hr⊢
   refine⟨hr,?_,?_⟩
   · rw [(J0u h1 hf.1).2];exact q1
   · rw [(J0u h2 hf.2).2];exact q2
 · exact absurd h (by decide)
theorem W2m {k L U:Nat} {a b:Ivl} {p:Int} (hk:k<2) (ha:luI L U a) (hb:luI L U b) (hp:Z0a p=true) (h:(opI k a b p).2=0):luI L (U+2) (opI k a b p).1:=by
 have ca:=canI ha.1
 have cb:=canI hb.1
 have pp:=X0u hp
 obtain⟨hlo,hhi⟩:=q3m hk ha hb
 have c1:=U0b k ca.1 ca.2 cb.1 cb.2
 have c2:=U0d k ca.1 ca.2 cb.1 cb.2
 unfold opI at h⊢
 rw [if_pos ⟨ha.1,hb.1,hp⟩] at h⊢
 exact Q2s (Q0x c1 _ _) (Q0x c2 _ _) (J0c c1 hlo _ pp _) (J0c c2 hhi _ pp _) (Y2x k ha.1 hb.1 _) h
theorem y1l {L U L' U':Nat} {a b:Ivl} {p:Int} (ha:luI L U a) (hb:luI L' U' b) (hp:Z0a p=true) (h:(opI 2 a b p).2=0):luI (L+L') (U+U'+1) (opI 2 a b p).1:=by
 have ca:=canI ha.1
 have cb:=canI hb.1
 have pp:=X0u hp
 obtain⟨hlo,hhi⟩:=y2z ha hb
 have c1:=U0b 2 ca.1 ca.2 cb.1 cb.2
 have c2:=U0d 2 ca.1 ca.2 cb.1 cb.2
 unfold opI at h⊢
 rw [if_pos ⟨ha.1,hb.1,hp⟩] at h⊢
 exact Q2s (Q0x c1 _ _) (Q0x c2 _ _) (J0c c1 hlo _ pp _) (J0c c2 hhi _ pp _) (Y2x 2 ha.1 hb.1 _) h
theorem J3d {k L U:Nat} {a b:Ivl} {p:Int} (hk:k<2) (ha:luI L U a) (hb:luI L U b) (hp:Z0a p=true) (hL:L≤60000) (hU:U+2≤60000):(opI k a b p).2=0:=by
 have ca:=canI ha.1
 have cb:=canI hb.1
 obtain⟨hlo,hhi⟩:=q3m hk ha hb
 have c1:=U0b k ca.1 ca.2 cb.1 cb.2
 have c2:=U0d k ca.1 ca.2 cb.1 cb.2
 unfold opI Y0j
 rw [if_pos ⟨ha.1,hb.1,hp⟩,if_pos ⟨z0y c1 hlo hp hL hU,z0y c2 hhi hp hL hU⟩]
theorem j2a {L U L' U':Nat} {a b:Ivl} {p:Int} (ha:luI L U a) (hb:luI L' U' b) (hp:Z0a p=true) (hL:L+L'≤60000) (hU:U+U'+1≤60000):(opI 2 a b p).2=0:=by
 have ca:=canI ha.1
 have cb:=canI hb.1
 obtain⟨hlo,hhi⟩:=y2z ha hb
 have c1:=U0b 2 ca.1 ca.2 cb.1 cb.2
 have c2:=U0d 2 ca.1 ca.2 cb.1 cb.2
 unfold opI Y0j
 rw [if_pos ⟨ha.1,hb.1,hp⟩,if_pos ⟨z0y c1 hlo hp hL hU,z0y c2 hhi hp hL hU⟩]
theorem G2m {x y:Nat→Ivl} {p:Int} {n:Nat} (h:(dotF x y p (n+1)).2=0):(dotF x y p n).2=0∧(opI 2 (x n) (y n) p).2=0∧(n≠0→(opI 0 (dotF x y p n).1 (opI 2 (x n) (y n) p).1 p).2=0)∧dotF x y p (n+1)=if n=0 then opI 2 (x n) (y n) p else opI 0 (dotF x y p n).1 (opI 2 (x n) (y n) p).1 p:=by
 rw [dotF] at h⊢
 split at h
 · rename_i hc;exact absurd h hc
 rename_i c1
 split at h
 · rename_i hc;exact absurd h hc
 rename_i c2
 have c1':(dotF x y p n).2=0:=Classical.byContradiction fun e=>c1 e
 have c2':(opI 2 (x n) (y n) p).2=0:=Classical.byContradiction fun e=>c2 e
 rw [if_neg c1,if_neg c2]
 split at h
 · rename_i c3
   rw [if_pos c3,if_pos c3]
   exact⟨c1',c2',fun e=>absurd c3 e,rfl⟩
 rename_i c3
 split at h
 · rename_i hc;exact absurd h hc
 rename_i c4
 rw [if_neg c3,if_neg c3,if_neg c4]
 exact⟨c1',c2',fun _=>Classical.byContradiction fun e=>c4 e,rfl⟩
theorem U1t {L U L' U':Nat} {x y:Nat→Ivl} {p:Int} (hp:Z0a p=true): ∀n,(∀k,k<n→luI L U (x k)∧luI L' U' (y k))→(dotF x y p n).2=0→luI (L+L') (U+U'+1+2*n) (dotF x y p n).1
 | 0,_,_=>U1d _ _
 | n+1,h,he=>by
  obtain⟨e1,e2,e3,e4⟩:=G2m he
  have h2:=U1t hp n (fun k hk=>h k (by omega)) e1
  have m2:=y1l (h n (by omega)).1 (h n (by omega)).2 hp e2
  rw [e4]
  split
  · exact m2.mono (by omega) (by omega)
  · rename_i hn
    exact(W2m (k:=0) (by omega) h2 (m2.mono (Nat.le_refl _) (show U+U'+1≤U+U'+1+2*n by omega)) hp (e3 hn)).mono (by omega) (by omega)
theorem Q2u {L U L' U':Nat} {x y:Nat→Ivl} {p:Int} (hp:Z0a p=true): ∀n,(∀k,k<n→luI L U (x k)∧luI L' U' (y k))→L+L'≤60000→U+U'+2*n+4≤60000→(dotF x y p n).2=0
 | 0,_,_,_=>rfl
 | n+1,h,hL,hb=>by
  have h1:=Q2u hp n (fun k hk=>h k (by omega)) hL (by omega)
  have h2:=U1t hp n (fun k hk=>h k (by omega)) h1
  have m1:=j2a (h n (by omega)).1 (h n (by omega)).2 hp hL (by omega)
  have m2:=y1l (h n (by omega)).1 (h n (by omega)).2 hp m1
  rw [dotF,if_neg (by rw [h1];decide),if_neg (by rw [m1];decide)]
  split
  · exact m1
  · have s1:=J3d (k:=0) (by omega) h2 (m2.mono (Nat.le_refl _) (show U+U'+1≤U+U'+1+2*n by omega)) hp hL (by omega)
    rw [if_neg (by rw [s1];decide)]
    exact s1
theorem y1y {L U L' U' n:Nat} {a b:Mx} {p:Int} (ra:rightM a=true) (rb:rightM b=true) (la:a.length=n) (lb:b.length=n) (ha: ∀i j,i<n→j<n→luI L U (atM a i j)) (hb: ∀i j,i<n→j<n→luI L' U' (atM b i j)) (hp:Z0a p=true) (hL:L+L'≤60000) (hU:U+U'+20≤60000):(mulM a b p).2=0:=by
 have:=(X0o ra).2
 rw [mulM,if_pos ⟨ra,rb,by omega,hp⟩]
 refine Q2r fun i j hi hj=> ?_
 rw [la] at hi hj⊢
 exact Q2u hp n (fun k hk=>⟨ha i k hi hk,hb k j hk hj⟩) hL (by omega)
theorem w1l {r:Nat→Ivl} {p:Int} {L U:Nat} : ∀j,(∀k,k≤j→luI L U (r k))→(sumF r p j).2=0→luQ L (U+2*j) (qN (sumF r p j).1)
 | 0,h,_=>Y2s (h 0 (by omega))
 | j+1,h,he=>by
  have h0:(sumF r p j).2=0:=by
   refine Classical.byContradiction fun hne=> ?_
   rw [sumF,if_pos hne] at he
   exact hne he
  have ih:=w1l j (fun k hk=>h k (by omega)) h0
  rw [Z1o h0] at he⊢
  refine(H0k he ?_).up (show U+2*j+1+1≤_ by omega)
  rw [exQ0]
  exact H0u ih ((Y2s (h (j+1) (by omega))).up (by omega))
theorem q1k {m:Mx} {p:Int} {L U:Nat} (hl:1≤m.length∧m.length≤4) (h: ∀i j,i<m.length→j<m.length→luI L U (atM m i j)): ∀i,i≤m.length→(K0e m p i).2=0→luQ L (U+8) (qN (K0e m p i).1)
 | 0,_,_=>by show luQ L (U+8) (qN (default:Nm));rw [W0y];exact U0t _ _
 | i+1,hi,he=>by
  have h0:(K0e m p i).2=0:=by
   refine Classical.byContradiction fun hne=> ?_
   rw [K0e,if_pos hne] at he
   exact hne he
  have hs:(sumF (atM m i) p (m.length-1)).2=0:=by
   refine Classical.byContradiction fun hne=> ?_
   rw [K0e,if_neg (fun e=>e h0),if_pos hne] at he
   exact hne he
  have ih:=q1k hl h i (by omega) h0
  have s:=w1l (m.length-1) (fun k hk=>h i k (by omega) (by omega)) hs
  rw [w0r h0 hs]
  split
  · exact s.up (by omega)
  · exact ih
theorem q1j {m:Mx} {p:Int} {L U:Nat} (h: ∀i j,i<m.length→j<m.length→luI L U (atM m i j)) (he:(X0l m p).2=0):luQ L (U+8) (qN (X0l m p).1):=by
 have hn:=x0f he
 rw [X0l,if_pos ⟨hn.1,hn.2.1⟩] at he⊢
 exact q1k (X0o hn.1) h _ (Nat.le_refl _) he
theorem X3p {La Ua Lb Ub p:Nat} {a b:Vl} (ca:canV a) (cb:canV b) (ha:luQ La Ua (qV a)) (hb:luQ Lb Ub (qV b)) (h0:b.m≠0):luQ (La+Ub+p+3) (Ua+Lb+1) (qV (ratV a b p)):=by
 unfold ratV
 split
 · rw [k0m rfl];exact U0t _ _
 rename_i ha0
 rcases k0x ca ha with h | ⟨a1,a2⟩
 · exact absurd h ha0
 rcases k0x cb hb with h | ⟨b1,b2⟩
 · exact absurd h h0
 have pa:=V0u ha0
 have pb:=V0u h0
 have hA:=Z0d a.m
 have hB:=Y0g h0
 rw [q0g]
 generalize hmore:Y0u a.m b.m p=more
 have hm:more=p+2+Q0f b.m-Q0f a.m:=by rw [←hmore];rfl
 have hq:j0b a.m b.m p<2^(Q0f a.m+more+2-Q0f b.m):=by
  unfold j0b
  rw [hmore]
  have h1:a.m*2^more<2^(Q0f a.m+more):=by rw [Nat.pow_add];exact Nat.mul_lt_mul_of_pos_right hA (Nat.pow_pos (by decide))
  have h2:a.m*2^more/b.m<2^(Q0f a.m+more+1-Q0f b.m):=by
   rw [Nat.div_lt_iff_lt_mul (by omega)]
   refine Nat.lt_of_lt_of_le h1 ?_
   have:2^(Q0f a.m+more)=2^(Q0f a.m+more+1-Q0f b.m)*2^(Q0f b.m-1):=by rw [←Nat.pow_add];congr 1;omega
   rw [this]
   exact Nat.mul_le_mul_left _ hB
  have h3:2^(Q0f a.m+more+2-Q0f b.m)=2*2^(Q0f a.m+more+1-Q0f b.m):=by
   rw [show Q0f a.m+more+2-Q0f b.m=(Q0f a.m+more+1-Q0f b.m)+1 by omega,Nat.pow_succ,Nat.mul_comm]
  rw [h3]
  split<;>omega
 generalize j0b a.m b.m p=M at hq⊢
 have he: -((La+Ub+p+3:Nat):Int)≤a.e-b.e-(more:Int)-1:=by omega
 refine⟨(if (a.neg !=b.neg)=true then -(M:Int) else(M:Int))*2^(a.e-b.e-(more:Int)-1- -((La+Ub+p+3:Nat):Int)).toNat,?_,?_⟩
 · exact K1p _ _ _ he
 · rw [Int.natAbs_mul,Int.natAbs_pow]
   have:(if (a.neg !=b.neg)=true then -(M:Int) else(M:Int)).natAbs=M:=by split<;>omega
   rw [this,show Int.natAbs 2=2 from rfl]
   refine Nat.le_trans (Nat.mul_le_mul_right _ (Nat.le_of_lt hq)) ?_
   rw [←Nat.pow_add]
   exact Nat.pow_le_pow_right (by decide) (by omega)
theorem Q2w {La Ua Lb Ub:Nat} {a b:Nm} {p:Int} {up:Bool} (ra:Q0h a=true) (rb:Q0h b=true) (hp:Z0a p=true) (ha:luQ La Ua (qN a)) (hb:luQ Lb Ub (qN b)) (h0:b.w≠ []) (h:(divN a b p up).2=0):luQ (La+Ub+260) (Ua+Lb+2) (qN (divN a b p up).1):=by
 unfold divN at h⊢
 have cr:=v0x (ofN a) (ofN b) p.toNat
 rw [(J0u (Q0x cr _ _) h).2]
 have h1:=X3p (p:=p.toNat) (X0g ra) (X0g rb) (by rw [Z0g];exact ha) (by rw [Z0g];exact hb) (fun e=>h0 ((X0b rb).1 e))
 have:=y1c hp
 exact(J0c cr h1 _ (X0u hp) up).mono (by omega) (by omega)
end Go.Pv
end
section
/-The inverse:which errors there are,and that with an error nothing is answered. No program in it. -/
namespace Go.Pv
theorem G1p {β:Type} {G:Nat→β×Int} : ∀(k i:Nat) (acc:List β),(tabF G i k acc).2≠0→(tabF G i k acc).1= []
 | 0,i,acc,h=>absurd rfl h
 | k+1,i,acc,h=>by
  unfold tabF at h⊢
  split at h
  · rename_i hc;rw [if_pos hc]
  · rename_i hc;rw [if_neg hc];exact G1p k _ _ h
theorem v2i (lo hi:Vl):(Y0j lo hi).2=0∨(Y0j lo hi).2=2:=by
 unfold Y0j
 split
 · exact .inl rfl
 · exact .inr rfl
theorem W2o {k:Nat} {a b:Ivl} {p:Int} (ha:Q0m a=true) (hb:Q0m b=true) (hp:Z0a p=true):(opI k a b p).2=0∨(opI k a b p).2=2:=by
 unfold opI
 rw [if_pos ⟨ha,hb,hp⟩]
 exact v2i _ _
theorem G2n {x y:Nat→Ivl} {p:Int} (hp:Z0a p=true): ∀n,(∀k,k<n→Q0m (x k)=true∧Q0m (y k)=true)→(dotF x y p n).2=0∨(dotF x y p n).2=2
 | 0,_=> .inl rfl
 | n+1,h=>by
  have ih:=G2n hp n fun k hk=>h k (by omega)
  have h2:=W2o (k:=2) (h n (by omega)).1 (h n (by omega)).2 hp
  have h3:=W2o (k:=0) (H0a x y p n) (W0t 2 (x n) (y n) p) hp
  unfold dotF
  split
  · exact ih
  split
  · exact h2
  split
  · exact h2
  split
  · exact h3
  · exact h3
theorem K2y {r:Nat→Ivl} {p:Int} (hp:Z0a p=true): ∀j,(sumF r p j).2=0∨(sumF r p j).2=2
 | 0=> .inl rfl
 | j+1=>by
  have ih:=K2y (r:=r) hp j
  unfold sumF
  split
  · exact ih
  · exact H0l (G0k r p j) (w0w _) hp
theorem y1v {m:Mx} {p:Int} (hp:Z0a p=true): ∀i,(K0e m p i).2=0∨(K0e m p i).2=2
 | 0=> .inl rfl
 | i+1=>by
  have ih:=y1v (m:=m) hp i
  unfold K0e
  split
  · exact ih
  split
  · exact K2y hp _
  split
  · exact .inl rfl
  · exact .inl rfl
theorem y1t {m:Mx} {p:Int} (hm:rightM m=true) (hp:Z0a p=true):(X0l m p).2=0∨(X0l m p).2=2:=by
 unfold X0l
 rw [if_pos ⟨hm,hp⟩]
 exact y1v hp _
theorem J3p {a b:Mx} {p:Int} (ha:rightM a=true) (hb:rightM b=true) (hl:a.length=b.length) (hp:Z0a p=true):(mulM a b p).2=0∨(mulM a b p).2=2:=by
 unfold mulM
 rw [if_pos ⟨ha,hb,hl,hp⟩]
 exact U1q fun i j hi hj=>G2n hp _ fun k hk=>⟨V0d ha hi hk,V0d hb (by omega) (by omega)⟩
theorem H3x {k:Nat} {a b:Mx} {p:Int} (ha:rightM a=true) (hb:rightM b=true) (hl:a.length=b.length) (hp:Z0a p=true):(opM k a b p).2=0∨(opM k a b p).2=2:=by
 unfold opM
 rw [if_pos ⟨ha,hb,hl,hp⟩]
 exact U1q fun i j hi hj=>W2o (V0d ha hi hj) (V0d hb (by omega) (by omega)) hp
theorem J3o {a b:Mx} {p:Int} (h:(mulM a b p).2=0):rightM (mulM a b p).1=true∧(mulM a b p).1.length=a.length:=by
 obtain⟨⟨r1,r2,r3,r4⟩,m1,m2⟩:=U0q h
 have:=X0o r1
 refine⟨rightM_iff.2 ⟨fun i hi=> ?_,by omega,by omega⟩,m1⟩
 rw [m1] at hi⊢
 refine⟨(m2 i hi).1,X0z (fun j hj=> ?_) (by rw [(m2 i hi).1];omega) (by rw [(m2 i hi).1];omega)⟩
 rw [(m2 i hi).1] at hj
 have:=((m2 i hi).2 j hj).2
 unfold atM at this
 rw [this]
 exact H0a _ _ _ _
theorem H3w {k:Nat} {a b:Mx} {p:Int} (h:(opM k a b p).2=0):rightM (opM k a b p).1=true∧(opM k a b p).1.length=a.length:=by
 obtain⟨⟨r1,r2,r3,r4⟩,m1,m2⟩:=j1w h
 have:=X0o r1
 refine⟨rightM_iff.2 ⟨fun i hi=> ?_,by omega,by omega⟩,m1⟩
 rw [m1] at hi⊢
 refine⟨(m2 i hi).1,X0z (fun j hj=> ?_) (by rw [(m2 i hi).1];omega) (by rw [(m2 i hi).1];omega)⟩
 rw [(m2 i hi).1] at hj
 have:=((m2 i hi).2 j hj).2
 unfold atM at this
 rw [this]
 exact W0t _ _ _ _
theorem X3s {a b:Nm} {p:Int} {up:Bool} :(Y0r a b p up).2=0∨(Y0r a b p up).2=2∨(Y0r a b p up).2=3:=by
 unfold Y0r
 split
 · exact .inr (.inr rfl)
 · unfold divN
   rcases j1z (Z0b (ratV (ofN a) (ofN b) p.toNat) p.toNat up) with h | h
   · exact .inl h
   · exact .inr (.inl h)
def isE (e:Int):Prop:=e=0∨e=2∨e=3
theorem Q2n {p:Int} {k:Nat} {x:GJ} (h:isE x.e): ∀i,isE (J0y p k x i).e
 | 0=>h
 | i+1=>by
  have ih:=Q2n (p:=p) (k:=k) h i
  unfold J0y
  split
  · unfold K1v
    split
    · exact ih
    split
    · exact .inl rfl
    · exact .inr (.inl rfl)
  · exact ih
theorem K3p {p:Int} {n k:Nat} {x:GJ} :isE (x0p p n k x).e:=by
 have hd:isE (q0z p k (y0d n k x)).e:=by
  unfold q0z
  split
  · exact .inl rfl
  · exact .inr (.inl rfl)
 unfold x0p
 split
 · exact .inr (.inr rfl)
 split
 · exact Q2n hd n
 · exact hd
theorem Q2o {p:Int} {n:Nat} {x:GJ} (h:isE x.e): ∀k,isE (X0q p n x k).e
 | 0=>h
 | k+1=>by
  have ih:=Q2o (p:=p) (n:=n) h k
  unfold X0q
  split
  · exact K3p
  · exact ih
theorem H2x {a:List (List Nm)} {p:Int} (ha:rightQ a=true) (hp:Z0a p=true):isE (Q0o a p).2:=by
 unfold Q0o
 rw [if_pos ⟨ha,hp⟩]
 split
 · exact .inl rfl
 · exact Q2o (.inl rfl) _
theorem w0h {a:List (List Nm)} {p:Int} (h:(Z0z a p).2≠0):(Z0z a p).1= []:=by
 unfold Z0z at h⊢
 split
 · rfl
 rename_i c1
 split
 · rfl
 rename_i c2
 split
 · rfl
 rename_i c3
 split
 · rfl
 rename_i c4
 rw [if_neg c1,if_neg c2,if_neg c3,if_neg c4] at h
 exact G1p _ _ _ h
theorem X3c {a:List (List Nm)} {p:Int} (ha:rightQ a=true) (hp:Z0a p=true):isE (Z0z a p).2:=by
 unfold Z0z
 split
 · exact H2x ha hp
 rename_i c1
 have c1':(Q0o a p).2=0:=Classical.byContradiction fun e=>c1 e
 obtain⟨a1,a2,a3,a4,a5,a6, -, -⟩:=z0n c1'
 generalize (Q0o a p).1=X at*
 have rX:=a3.rightM a5 a6
 have ra:=a4.rightM a5 a6
 have lX:(ofM X).length=a.length:=by unfold ofM;rw [List.length_map];exact a3.1
 have la:(ofM a).length=a.length:=by unfold ofM;rw [List.length_map]
 have toE: ∀ {e:Int},e=0∨e=2→isE e:=fun h=>h.elim .inl fun h=> .inr (.inl h)
 have hr:isE (J0i X a p).2:=by
  have m:=J3p rX ra (by omega) hp
  unfold J0i
  split
  · exact toE m
  rename_i d1
  have d1':(mulM (ofM X) (ofM a) p).2=0:=Classical.byContradiction fun e=>d1 e
  obtain⟨w1,w2⟩:=J3o d1'
  obtain⟨si,hil⟩:=y2h a5 a6
  have o:=H3x (k:=1) (a:=idM (X.length:Int)) (by rw [a3.1];exact si.right) w1 (by rw [a3.1,hil,w2,lX]) hp
  split
  · exact toE o
  rename_i d2
  exact toE (y1t (H3w (Classical.byContradiction fun e=>d2 e)).1 hp)
 split
 · exact hr
 rename_i c2
 split
 · exact .inr (.inr rfl)
 generalize hE:(J0i X a p).1=e at*
 have hre:Q0h e=true:=by
  rw [←hE];exact(Y1p a3 a4 a5 a6 (Classical.byContradiction fun e=>c2 e)).2.1
 have hq:isE (radQ X e p).2:=by
  unfold radQ
  split
  · exact toE (H0l G0p hre hp)
  split
  · exact toE (y1t rX hp)
  rename_i n2
  split
  · exact toE (H0l (x0f (Classical.byContradiction fun e=>n2 e)).2.2.2.1 hre hp)
  · exact X3s
 split
 · exact hq
 refine toE (U1q fun i j hi hj=> ?_)
 unfold K0n
 split
 · exact .inr rfl
 · exact .inl rfl
end Go.Pv
end
section
/-The inverse of a matrix of ones in any order is that of the order turned round. No program in it. -/
namespace Go.Pv
def bN (b:Bool):Nm:=if b then oneN else default
theorem z2w {v:Vl} {p:Nat} {up:Bool} (h:Q0f v.m≤p):Z0b v p up=v:=by unfold Z0b;rw [if_pos h]
theorem j2c :canV (ofN oneN):=X0g (by decide)
theorem div_one {x:Bool} {p:Int} {up:Bool} (hp:Z0a p=true):divN (bN x) oneN p up=(bN x,0):=by
 have h8:8≤p.toNat:=by
  unfold Z0a at hp
  simp only [Bool.and_eq_true,decide_eq_true_eq] at hp
  omega
 have hr:ratV (ofN (bN x)) (ofN oneN) p.toNat=ofN (bN x):=by
  cases x with
  | false=>
   unfold ratV
   rw [if_pos (by decide)]
   decide
  | true=>
   refine G1a (v0x _ _ _) j2c ?_
   unfold ratV
   have hm:(ofN (bN true)).m=1:=by decide
   have hm1:(ofN oneN).m=1:=by decide
   rw [if_neg (by decide),q0g,hm,hm1]
   have hb:Q0f 1=1:=by decide+kernel
   have hmore:Y0u 1 1 p.toNat=p.toNat+2:=by unfold Y0u;rw [hb];omega
   have hq:j0b 1 1 p.toNat=2^(p.toNat+3):=by
    unfold j0b
    rw [hmore,Nat.div_one,Nat.mod_one,if_pos rfl,Nat.one_mul,Nat.pow_succ (n:=2) (m:=p.toNat+2)];omega
   rw [hq,hmore]
   have hs:((ofN (bN true)).neg !=(ofN oneN).neg)=false:=by decide
   have he:(ofN (bN true)).e-(ofN oneN).e-((p.toNat+2:Nat):Int)-1= -((p.toNat+3:Nat):Int):=by
    rw [show(ofN (bN true)).e=0 by decide,show(ofN oneN).e=0 by decide];omega
   rw [hs,he,if_neg (by decide)]
   show qM ((2^(p.toNat+3):Nat):Int) _=qN oneN
   rw [U0p,Int.natCast_pow,show((2:Nat):Int)=2 from rfl]
   have:=V0q 1 (p.toNat+3) (-((p.toNat+3:Nat):Int))
   rw [Int.one_mul] at this
   rw [this,show -((p.toNat+3:Nat):Int)+((p.toNat+3:Nat):Int)=0 by omega]
   unfold qM;rw [w0p,Rat.mul_one];rfl
 unfold divN
 rw [hr,z2w (by cases x<;>(refine Nat.le_trans ?_ h8;decide+kernel))]
 cases x<;>decide+kernel
theorem sqR.rightQ {n:Nat} {a:List (List Nm)} (h:sqR n a) (h1:1≤n) (h4:n≤4):rightQ a=true:=by
 refine rightQ_iff.2 ⟨fun j hj=> ?_,by rw [h.1];exact h1,by rw [h.1];exact h4⟩
 rw [h.1] at hj⊢
 have:=h.row hj
 unfold H0j
 rw [Bool.and_eq_true,List.all_eq_true]
 exact⟨this.2,decide_eq_true this.1⟩
end Go.Pv
end
section
/-The inverse for sure:the numbers by which it is widened are not below nought;matrices that are filled. No program in it. -/
namespace Go.Pv
theorem X3q {X:List (List Nm)} {e:Nm} {p:Int} (hp:Z0a p=true) (r1:0≤qN e) (he1:qN e<1) (h:(radQ X e p).2=0):0≤qN (radQ X e p).1∧Q0h (radQ X e p).1=true:=by
 obtain⟨d1,d2,d3,d4⟩:=j1i h
 have hpp:=X0u hp
 obtain⟨n1,n2,n3,n4,n5⟩:=x0f d2
 have v1:=K0p d1
 have v3:=K0p d3
 have g3:=K0c (exV 2 (ofN (X0l (ofM X) p).1) (ofN e)) p.toNat
 rw [w0n,exQ2,Z0g,Z0g,←v3] at g3
 have rd:=Z0j 1 oneN e p false
 have rq:=Z0j 2 (X0l (ofM X) p).1 e p true
 have g0:0≤qN (Q0s 1 oneN e p false).1:=by
  have:=H1a (v:=exV 1 (ofN oneN) (ofN e)) (p:=p.toNat) (up:=false) hpp (by rw [w0n,exQ1,Z0g,Z0g,U0p];grind)
  rw [v1];exact this
 have hdn:=q1p rd g0
 rw [d4] at h⊢
 refine⟨?_,j1k _ _ _ _⟩
 have hqu:=w1v rq rd hpp hdn h
 have hpos:0<qN (Q0s 1 oneN e p false).1:=by
  refine Classical.byContradiction fun hne=> ?_
  have hz:qN (Q0s 1 oneN e p false).1=0:=by grind
  have hdef:(Q0s 1 oneN e p false).1=default:=H1f rd K0a (by rw [hz,W0y])
  rw [hdef] at h
  unfold Y0r at h
  rw [if_pos (show(default:Nm).w= [] from rfl)] at h
  exact absurd h (by decide)
 have hn0:0≤qN (X0l (ofM X) p).1*qN e:=Rat.mul_nonneg n3 r1
 refine Classical.byContradiction fun hne=> ?_
 have hlt:0< -qN (Y0r (Q0s 2 (X0l (ofM X) p).1 e p true).1 (Q0s 1 oneN e p false).1 p true).1:=by grind
 have:=Rat.mul_pos hlt hpos
 grind
theorem Z2t {y q:Nm} {p:Int} (hq:0≤qN q) (h1:(Q0s 1 y q p false).2=0) (h2:(Q0s 0 y q p true).2=0):Q0m ⟨(Q0s 1 y q p false).1,(Q0s 0 y q p true).1⟩=true:=by
 have hs:(K0n y q p).2=0:=by unfold K0n;rw [if_neg (by rw [h1,h2];simp)]
 have hm:=(G1r (X:=qN y) hs ⟨by grind,by grind⟩).1
 have he:(K0n y q p).1=⟨(Q0s 1 y q p false).1,(Q0s 0 y q p true).1⟩:=by unfold K0n;rw [if_neg (by rw [h1,h2];simp)]
 rw [he] at hm
 exact w1q (Z0j _ _ _ _ _) (Z0j _ _ _ _ _) (Rat.le_trans hm.1 hm.2)
def z0b (G:Nat→Nat→Ivl×Int) (n:Nat):Mx:=(List.range n).map fun i=>(List.range n).map fun j=>(G i j).1
theorem v2a {G:Nat→Nat→Ivl×Int} {n:Nat} (h: ∀i j,i<n→j<n→(G i j).2=0):W0z G n=(z0b G n,0):=by
 have h0:=Q2r h
 obtain⟨f1,f2⟩:=G0x h0
 refine Prod.ext ?_ h0
 show(W0z G n).1=z0b G n
 refine List.ext_getElem (by rw [f1];simp [z0b]) fun i h1 h2=> ?_
 have hi:i<n:=by rw [f1] at h1;exact h1
 have e1:(W0z G n).1[i]=(W0z G n).1.getD i []:=by rw [List.getD_eq_getElem?_getD,List.getElem?_eq_getElem h1];rfl
 have e2:(z0b G n)[i]=(List.range n).map fun j=>(G i j).1:=by simp [z0b]
 rw [e1,e2]
 refine List.ext_getElem (by rw [(f2 i hi).1];simp) fun j h3 h4=> ?_
 have hj:j<n:=by rw [(f2 i hi).1] at h3;exact h3
 have e3:=((f2 i hi).2 j hj).2
 unfold atM at e3
 rw [List.getD_eq_getElem?_getD,List.getElem?_eq_getElem h3,Option.getD_some] at e3
 rw [e3,List.getElem_map,List.getElem_range]
theorem U2w {G:Nat→Nat→Ivl×Int} {n i j:Nat} {e:Int} (he:e≠0) (hG: ∀i j,(G i j).2=0∨(G i j).2=e) (hi:i<n) (hj:j<n) (h:(G i j).2=e):W0z G n=([],e):=by
 have hne:(W0z G n).2≠0:=fun h0=>by
  have:=((G0x h0).2 i hi).2 j hj
  rw [this.1] at h
  exact he h.symm
 have key: ∀ {β:Type} (F:Nat→β×Int) (k i:Nat) (acc:List β),(∀j,(F j).2=0∨(F j).2=e)→(tabF F i k acc).2=0∨tabF F i k acc=([],e):=by
  intro β F k
  induction k with
  | zero=>intro i acc _;exact .inl rfl
  | succ k ih=>
   intro i acc hF
   unfold tabF
   split
   · rename_i hc
     exact .inr (by rw [(hF i).resolve_left hc])
   · exact ih _ _ hF
 refine(key _ _ _ _ fun j=> ?_).resolve_left hne
 rcases key (fun j'=>G j j') n 0 [] (hG j) with h | h
 · exact .inl h
 · exact .inr (by rw [h])
end Go.Pv
end
