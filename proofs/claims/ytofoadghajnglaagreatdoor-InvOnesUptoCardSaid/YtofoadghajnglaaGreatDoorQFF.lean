/- Parts of the walk: M85, M86, M87, M88, M90, M91, M92. -/
import Derived.Test.YtofoadghajnglaaGreatDoorQBA
import Derived.Test.YtofoadghajnglaaGreatDoorQFD
import Derived.Test.YtofoadghajnglaaGreatDoorQBR
set_option linter.unusedVariables false
set_option linter.unusedSimpArgs false
section
/-Determinants and cofactors of matrices of rational numbers,up to four rows. No program in it. -/
namespace Go.Pv
def H0u (j k:Nat):Nat:=if k<j then k else k+1
def sgnQ (j:Nat) (x:Rat):Rat:=if j % 2=1 then -x else x
def detS (f:Nat→Nat→Rat) (D:Nat→Rat):Nat→Rat
 | 0=>0
 | j+1=>detS f D j+sgnQ j (f 0 j*D j)
def detQ :Nat→(Nat→Nat→Rat)→Rat
 | 0,_=>1
 | n+1,f=>detS f (fun j=>detQ n fun i k=>f (i+1) (H0u j k)) (n+1)
def cofQ (n:Nat) (f:Nat→Nat→Rat) (i j:Nat):Rat:=sgnQ (i+j) (detQ (n-1) fun a b=>f (H0u j a) (H0u i b))
theorem det1 (f:Nat→Nat→Rat):detQ 1 f=f 0 0:=by
 simp [detQ,detS,sgnQ];try grind
theorem det2 (f:Nat→Nat→Rat):detQ 2 f=f 0 0*f 1 1-f 0 1*f 1 0:=by
 rw [detQ]
 simp [detS,det1,sgnQ,H0u];grind
theorem det3 (f:Nat→Nat→Rat):detQ 3 f=f 0 0*(f 1 1*f 2 2-f 1 2*f 2 1)-f 0 1*(f 1 0*f 2 2-f 1 2*f 2 0)+f 0 2*(f 1 0*f 2 1-f 1 1*f 2 0):=by
 rw [detQ]
 simp [detS,det2,sgnQ,H0u];grind
theorem det4 (f:Nat→Nat→Rat):detQ 4 f=f 0 0*detQ 3 (fun i k=>f (i+1) (H0u 0 k))-f 0 1*detQ 3 (fun i k=>f (i+1) (H0u 1 k))+f 0 2*detQ 3 (fun i k=>f (i+1) (H0u 2 k))-f 0 3*detQ 3 (fun i k=>f (i+1) (H0u 3 k)):=by
 rw [detQ]
 simp [detS,sgnQ];grind
theorem Q2v (n:Nat) (h1:1≤n) (h4:n≤4) (f:Nat→Nat→Rat) (i j:Nat) (hi:i<n) (hj:j<n):dotQ (f i) (fun k=>cofQ n f k j) n=detQ n f*J0p i j:=by
 have hn:n=1∨n=2∨n=3∨n=4:=by omega
 rcases hn with rfl | rfl | rfl | rfl
 · have:i=0:=by omega
   have:j=0:=by omega
   subst_vars
   simp [dotQ,cofQ,J0p,det1,detQ,detS,sgnQ];try grind
 · have:i=0∨i=1:=by omega
   have:j=0∨j=1:=by omega
   rcases ‹i=0∨i=1›with rfl | rfl<;>rcases ‹j=0∨j=1›with rfl | rfl<;>simp [dotQ,cofQ,J0p,det2,det1,sgnQ,H0u]<;>grind
 · have a1:i=0∨i=1∨i=2:=by omega
   have a2:j=0∨j=1∨j=2:=by omega
   rcases a1 with rfl | rfl | rfl<;>rcases a2 with rfl | rfl | rfl<;>simp [dotQ,cofQ,J0p,det3,det2,sgnQ,H0u]<;>grind
 · have a1:i=0∨i=1∨i=2∨i=3:=by omega
   have a2:j=0∨j=1∨j=2∨j=3:=by omega
   rcases a1 with rfl | rfl | rfl | rfl<;>rcases a2 with rfl | rfl | rfl | rfl<;>simp [dotQ,cofQ,J0p,det4,det3,sgnQ,H0u]<;>grind
def kerQ (n:Nat) (f:Nat→Nat→Rat) (x:Nat→Rat):Prop:=(∃i,i<n∧x i≠0)∧ ∀i,i<n→dotQ (f i) x n=0
def z0i (f:Nat→Nat→Rat) (r:Nat):Nat→Nat→Rat:=fun i k=>if i=0 then f r k else if i=r then f 0 k else f i k
theorem W2r (n:Nat) (h4:n≤4) (f:Nat→Nat→Rat) (r:Nat) (h0:0<r) (hr:r<n):detQ n (z0i f r)= -detQ n f:=by
 have hn:n=2∨n=3∨n=4:=by omega
 rcases hn with rfl | rfl | rfl
 · have:r=1:=by omega
   subst this
   simp [det2,z0i];grind
 · have a:r=1∨r=2:=by omega
   rcases a with rfl | rfl<;>simp [det3,z0i]<;>grind
 · have a:r=1∨r=2∨r=3:=by omega
   rcases a with rfl | rfl | rfl<;>simp [det4,det3,z0i,H0u]<;>grind
theorem V2d {n:Nat} {f:Nat→Nat→Rat} {x:Nat→Rat} {r:Nat} (hr:r<n) (h:kerQ n (z0i f r) x):kerQ n f x:=by
 have e0:z0i f r 0=f r:=by funext k;simp [z0i]
 have e1:r≠0→z0i f r r=f 0:=fun hr=>by funext k;simp [z0i,hr]
 have e2: ∀i,i≠0→i≠r→z0i f r i=f i:=fun i h1 h2=>by funext k;simp [z0i,h1,h2]
 refine⟨h.1,fun i hi=> ?_⟩
 by_cases z0:i=0
 · subst z0
   by_cases er:r=0
   · subst er
     rw [←e0];exact h.2 0 hi
   · rw [←e1 er];exact h.2 r hr
 · by_cases er:i=r
   · subst er
     rw [←e0];exact h.2 0 (by omega)
   · rw [←e2 i z0 er];exact h.2 i hi
def k0a (f:Nat→Nat→Rat):Nat→Nat→Rat:=fun i k=>f (i+1) (k+1)-f (i+1) 0/f 0 0*f 0 (k+1)
theorem Q2l (n:Nat) (h4:n≤3) (f:Nat→Nat→Rat) (h:f 0 0≠0):detQ (n+1) f=f 0 0*detQ n (k0a f):=by
 have e1:f 1 0=f 1 0/f 0 0*f 0 0:=by grind
 have e2:f 2 0=f 2 0/f 0 0*f 0 0:=by grind
 have e3:f 3 0=f 3 0/f 0 0*f 0 0:=by grind
 have hn:n=0∨n=1∨n=2∨n=3:=by omega
 rcases hn with rfl | rfl | rfl | rfl
 · rw [det1];simp [detQ];try grind
 · rw [det2,det1]
   simp only [k0a]
   generalize f 1 0/f 0 0=a at*
   rw [e1];grind
 · rw [det3,det2]
   simp only [k0a]
   generalize f 1 0/f 0 0=a at*
   generalize f 2 0/f 0 0=b at*
   rw [e1,e2];grind
 · rw [det4,det3,det3,det3,det3,det3]
   simp only [k0a,H0u]
   simp
   generalize f 1 0/f 0 0=a at*
   generalize f 2 0/f 0 0=b at*
   generalize f 3 0/f 0 0=c at*
   rw [e1,e2,e3];grind
theorem x0a (X Y:Nat→Rat): ∀n,dotQ X Y (n+1)=X 0*Y 0+dotQ (fun k=>X (k+1)) (fun k=>Y (k+1)) n
 | 0=>by simp [dotQ];try grind
 | n+1=>by
  rw [dotQ,x0a X Y n,dotQ];grind
theorem K0q {X X' Y Y':Nat→Rat} : ∀n,(∀k,k<n→X k=X' k∧Y k=Y' k)→dotQ X Y n=dotQ X' Y' n
 | 0,_=>rfl
 | n+1,h=>by rw [dotQ,dotQ,K0q n fun k hk=>h k (by omega),(h n (by omega)).1,(h n (by omega)).2]
theorem j0j (X X' Y:Nat→Rat) (a:Rat): ∀n,dotQ (fun k=>X k+a*X' k) Y n=dotQ X Y n+a*dotQ X' Y n
 | 0=>by simp [dotQ];try grind
 | n+1=>by rw [dotQ,dotQ,dotQ,j0j X X' Y a n];grind
theorem Q1e (X Y:Nat→Rat) (a:Rat): ∀n,dotQ (fun k=>a*X k) Y n=a*dotQ X Y n
 | 0=>by simp [dotQ]
 | n+1=>by rw [dotQ,dotQ,Q1e X Y a n];grind
theorem Q2f (X Y:Nat→Rat) (d:Rat) (n:Nat):dotQ (fun k=>X k/d) Y n=dotQ X Y n/d:=by
 have:=Q1e X Y (1/d) n
 rw [K0q n (X':=fun k=>1/d*X k) (Y':=Y) fun k _=>⟨by grind,rfl⟩,this]
 grind
theorem V1i (a:Nat→Rat) (A:Nat→Nat→Rat) (x:Nat→Rat) (n:Nat): ∀m,dotQ a (fun k=>dotQ (A k) x n) m=dotQ (fun j=>dotQ a (fun k=>A k j) m) x n
 | 0=>by
  rw [dotQ,U0m n fun k _=> ?_]
  simp [dotQ]
 | m+1=>by
  rw [dotQ,V1i a A x n m,←j0j];rfl
theorem y0q : ∀(n:Nat),n≤4→ ∀f:Nat→Nat→Rat,detQ n f=0→ ∃x,kerQ n f x
 | 0,_,f,h=>by rw [detQ] at h;exact absurd h (by decide)
 | n+1,h4,f,h=>by
  have main: ∀f:Nat→Nat→Rat,f 0 0≠0→detQ (n+1) f=0→ ∃x,kerQ (n+1) f x:=fun f h0 h=>by
   rw [Q2l n (by omega) f h0] at h
   have hz:detQ n (k0a f)=0:=by
    rcases Rat.mul_eq_zero.1 h with h | h
    · exact absurd h h0
    · exact h
   obtain⟨y,⟨i,hi,hy⟩,hk⟩:=y0q n (by omega) _ hz
   refine⟨fun k=>if k=0 then -(dotQ (fun k=>f 0 (k+1)) y n)/f 0 0 else y (k-1),⟨i+1,by omega,by simpa using hy⟩,fun r hr=> ?_⟩
   rw [x0a]
   have e:dotQ (fun k=>f r (k+1)) (fun k=>if k+1=0 then -(dotQ (fun k=>f 0 (k+1)) y n)/f 0 0 else y (k+1-1)) n=dotQ (fun k=>f r (k+1)) y n:=K0q n fun k hk=>⟨rfl,by simp⟩
   rw [e,if_pos rfl]
   cases r with
   | zero=>grind
   | succ r=>
    have h2:=hk r (by omega)
    have h3:dotQ (k0a f r) y n=dotQ (fun k=>f (r+1) (k+1)) y n+ -(f (r+1) 0/f 0 0)*dotQ (fun k=>f 0 (k+1)) y n:=by
     rw [←j0j]
     exact K0q n fun k _=>⟨by unfold k0a;grind,rfl⟩
    rw [h3] at h2
    grind
  by_cases ha: ∀i,i<n+1→f i 0=0
  · refine⟨fun k=>if k=0 then 1 else 0,⟨0,by omega,by simp⟩,fun i hi=> ?_⟩
    rw [x0a,ha i hi,U0m n fun k _=>by simp]
    grind
  · obtain⟨r,hr⟩: ∃r,¬(r<n+1→f r 0=0):=Classical.not_forall.1 ha
    have hr1:r<n+1:=Classical.byContradiction fun h=>hr fun h2=>absurd h2 h
    have hr2:f r 0≠0:=fun h=>hr fun _=>h
    by_cases h0:r=0
    · subst h0;exact main f hr2 h
    · obtain⟨x,hx⟩:=main (z0i f r) (by simpa [z0i] using hr2) (by rw [W2r (n+1) h4 f r (by omega) hr1,h];grind)
      exact⟨x,V2d hr1 hx⟩
def absQ (x:Rat):Rat:=if x<0 then -x else x
theorem Z2q (x:Rat):inQ1 (absQ x) x:=by unfold absQ inQ1;split<;>constructor<;>grind
theorem Z2p {a x:Rat} (h:inQ1 a x):absQ x≤a:=by unfold absQ;have:=h.1;have:=h.2;split<;>grind
theorem U1t (x:Rat):0≤absQ x:=by unfold absQ;split<;>grind
theorem Z2o {x:Rat} (h:absQ x=0):x=0:=by unfold absQ at h;split at h<;>grind
theorem Y1l (x:Nat→Rat): ∀n,0<n→ ∃m,m<n∧ ∀k,k<n→absQ (x k)≤absQ (x m)
 | 0,h=>absurd h (by decide)
 | 1,_=>⟨0,by decide,fun k hk=>by have:k=0:=by omega
                                  subst this;exact Rat.le_refl⟩
 | n+2,_=>by
  obtain⟨m,h1,h2⟩:=Y1l x (n+1) (by omega)
  by_cases hc:absQ (x (n+1))≤absQ (x m)
  · exact⟨m,by omega,fun k hk=>if e:k=n+1 then e▸hc else h2 k (by omega)⟩
  · have hc':absQ (x m)≤absQ (x (n+1)):=by grind
    exact⟨n+1,by omega,fun k hk=>if e:k=n+1 then e▸Rat.le_refl else Rat.le_trans (h2 k (by omega)) hc'⟩
theorem v0i {a b x:Rat} (h:inQ1 a x) (hab:a≤b):inQ1 b x:=by
 unfold inQ1 at*;have:=h.1;have:=h.2;constructor<;>grind
section
variable {n:Nat} {A R E:Nat→Nat→Rat} {e:Rat}
theorem ra_x (hE: ∀i j,i<n→j<n→E i j=J0p i j-dotQ (R i) (fun k=>A k j) n) (x:Nat→Rat) {i:Nat} (hi:i<n):dotQ (R i) (fun k=>dotQ (A k) x n) n=x i-dotQ (E i) x n:=by
 rw [V1i]
 have h1:dotQ (E i) x n=dotQ (fun j=>J0p i j+(-1)*dotQ (R i) (fun k=>A k j) n) x n:=K0q n fun k hk=>⟨by rw [hE i k hi hk];grind,rfl⟩
 rw [h1,j0j,x0b n hi];grind
theorem G2q (h4:n≤4) (hE: ∀i j,i<n→j<n→E i j=J0p i j-dotQ (R i) (fun k=>A k j) n) (B:Nat→Nat→Rat) (hB: ∀i j,i<n→j<n→inQ1 (B i j) (E i j)) (he: ∀i,i<n→sumQ (B i) n≤e) (h1:e<1):detQ n A≠0:=by
 intro h
 obtain⟨x,⟨i,hi,hx⟩,hk⟩:=y0q n h4 A h
 obtain⟨m,hm,hmx⟩:=Y1l x n (by omega)
 have hb:inQ1 (sumQ (B m) n*absQ (x m)) (dotQ (E m) x n):=x0c n fun k hk=>⟨hB m k hm hk,v0i (Z2q _) (hmx k hk)⟩
 have hz:=ra_x hE x hm
 rw [U0m n fun k hk2=>by rw [hk k hk2,Rat.mul_zero]] at hz
 have h2:x m=dotQ (E m) x n:=by grind
 rw [←h2] at hb
 have h3:=Z2p hb
 have h4:=U1t (x m)
 have h5:sumQ (B m) n*absQ (x m)≤e*absQ (x m):=Rat.mul_le_mul_of_nonneg_right (he m hm) h4
 have h6:0≤(1-e):=by grind
 have h7:(1-e)*absQ (x m)≤0:=by grind
 have h8:absQ (x m)=0:=by
  refine Classical.byContradiction fun hne=> ?_
  have:0<absQ (x m):=by grind
  have:=Rat.mul_pos (show 0<1-e by grind) this
  grind
 have h9:=hmx i hi
 have h10:=U1t (x i)
 exact hx (Z2o (by grind))
theorem V2m (h4:n≤4) (hE: ∀i j,i<n→j<n→E i j=J0p i j-dotQ (R i) (fun k=>A k j) n) (B:Nat→Nat→Rat) (hB: ∀i j,i<n→j<n→inQ1 (B i j) (E i j)) (he: ∀i,i<n→sumQ (B i) n≤e) (h1:e<1)
 {r q:Rat} (hr: ∀i j,i<n→j<n→inQ1 r (R i j)) (hq:e*r≤q*(1-e)) {i j:Nat} (hi:i<n) (hj:j<n):inQ1 q (cofQ n A i j/detQ n A-R i j):=by
 have hd:=G2q h4 hE B hB he h1
 have h1n:1≤n:=by omega
 let x:Nat→Rat:=fun k=>cofQ n A k j/detQ n A
 have hx: ∀k,k<n→dotQ (A k) x n=J0p k j:=fun k hk=>by
  have c:=Q2v n h1n h4 A k j hk hj
  rw [v0v] at c⊢
  show dotQ (fun l=>cofQ n A l j/detQ n A) (A k) n=_
  rw [Q2f,c];grind
 have hrx: ∀i,i<n→x i-R i j=dotQ (E i) x n:=fun i hi=>by
  have:=ra_x hE x hi
  rw [K0q n (fun k hk=>⟨rfl,hx k hk⟩)] at this
  rw [v0v,show dotQ (fun k=>J0p k j) (R i) n=dotQ (J0p j) (R i) n from K0q n fun k _=>⟨by unfold J0p;split<;>split<;>first | rfl | omega,rfl⟩,x0b n hj] at this
  grind
 obtain⟨m,hm,hmx⟩:=Y1l x n (by omega)
 have hb: ∀i,i<n→inQ1 (e*absQ (x m)) (dotQ (E i) x n):=fun i hi=>v0i (x0c n fun k hk=>⟨hB i k hi hk,v0i (Z2q _) (hmx k hk)⟩) (Rat.mul_le_mul_of_nonneg_right (he i hi) (U1t _))
 have b1:=hb m hm
 rw [←hrx m hm] at b1
 have b2:=hr m j hm hj
 have b3:absQ (x m)≤r+e*absQ (x m):=Z2p (by unfold inQ1 at*;have:=b1.1;have:=b1.2;have:=b2.1;have:=b2.2;constructor<;>grind)
 have e0:0≤e:=by
  have:=he m hm
  have:0≤sumQ (B m) n:=by
   have hs: ∀l,l≤n→0≤sumQ (B m) l:=fun l=>by
    induction l with
    | zero=>intro _;exact Rat.le_refl
    | succ l ih=>
     intro hl
     have:=ih (by omega)
     have hbl:=hB m l hm (by omega)
     unfold inQ1 at hbl
     rw [sumQ];grind
   exact hs n (Nat.le_refl _)
  grind
 have b4:(e*absQ (x m))*(1-e)≤q*(1-e):=by
  have:e*(absQ (x m)*(1-e))≤e*r:=Rat.mul_le_mul_of_nonneg_left (by grind) e0
  grind
 have b5:e*absQ (x m)≤q:=by
  refine Classical.byContradiction fun hne=> ?_
  have hlt:0<e*absQ (x m)-q:=by grind
  have:=Rat.mul_pos hlt (show 0<1-e by grind)
  grind
 have:=hb i hi
 rw [←hrx i hi] at this
 exact v0i this b5
end
end Go.Pv
end
section
/-The inverse for sure:what is answered has it. No program in it. -/
namespace Go.Pv
theorem U0k {G:Nat→Nat→Ivl×Int} {n:Nat} (h:(V0j G n).2=0):(V0j G n).1.length=n∧ ∀i,i<n→((V0j G n).1.getD i []).length=n∧ ∀j,j<n→(G i j).2=0∧atM (V0j G n).1 i j=(G i j).1:=by
 obtain⟨g1,g2,g3⟩:=H0r h
 refine⟨g1,fun i hi=> ?_⟩
 have e:(V0j G n).1.getD i []=(tabF (fun j=>G i j) 0 n []).1:=g3 i hi
 obtain⟨r1,r2,r3⟩:=H0r (g2 i hi)
 refine⟨by rw [e];exact r1,fun j hj=>⟨r2 j hj,?_⟩⟩
 unfold atM
 rw [e];exact r3 j hj
theorem W2b {G:Nat→Nat→Ivl×Int} {n:Nat} (h: ∀i j,i<n→j<n→(G i j).2=0):(V0j G n).2=0:=
 Q1y _ _ _ fun i _ hi=>Q1y _ _ _ fun j _ hj=>h i j (by omega) (by omega)
theorem Z1g {q:List (List Nm)} {i:Nat} (hi:i<q.length):(ofM q).getD i []=(q.getD i []).map fun x=>⟨x,x⟩:=by
 unfold ofM ofB
 rw [List.getD_eq_getElem?_getD,List.getElem?_map,List.getElem?_eq_getElem hi,List.getD_eq_getElem?_getD,List.getElem?_eq_getElem hi];rfl
theorem J1x {q:List (List Nm)} {i j:Nat} (hi:i<q.length) (hj:j<(q.getD i []).length):atM (ofM q) i j=⟨entQ q i j,entQ q i j⟩:=by
 unfold atM entQ
 rw [Z1g hi]
 generalize q.getD i []=r at hj⊢
 rw [List.getD_eq_getElem?_getD,List.getElem?_map,List.getElem?_eq_getElem hj,List.getD_eq_getElem?_getD,List.getElem?_eq_getElem hj];rfl
theorem v1s {q:List (List Nm)} {i:Nat} (hi:i<q.length):((ofM q).getD i []).length=(q.getD i []).length:=by
 rw [Z1g hi,List.length_map]
theorem sqR.rightM {n:Nat} {a:List (List Nm)} (h:sqR n a) (h1:1≤n) (h4:n≤4):rightM (ofM a)=true:=by
 have hl:(ofM a).length=n:=by unfold ofM;rw [List.length_map];exact h.1
 refine rightM_iff.2 ⟨fun i hi=> ?_,by omega,by omega⟩
 rw [hl] at hi⊢
 have h0:i<a.length:=by rw [h.1];exact hi
 have hr:=h.row hi
 refine⟨by rw [v1s h0];exact hr.1,?_⟩
 have hlr:((ofM a).getD i []).length=n:=by rw [v1s h0];exact hr.1
 refine k0i (fun j hj=> ?_) (by omega) (by omega)
 rw [hlr] at hj
 have e:((ofM a).getD i []).getD j default=atM (ofM a) i j:=rfl
 rw [e,J1x h0 (by rw [hr.1];exact hj)]
 exact Y1b (h.ent hi hj)
theorem k1a {r:Nat→Ivl} {p:Int} : ∀j,(sumF r p j).2=0→sumQ (fun k=>qN (magI (r k))) (j+1)≤qN (sumF r p j).1
 | 0,_=>by
  show 0+qN (magI (r 0))≤qN (magI (r 0))
  rw [Rat.zero_add];exact Rat.le_refl
 | j+1,h=>by
  have h0:(sumF r p j).2=0:=by
   refine Classical.byContradiction fun hne=> ?_
   rw [sumF,if_pos hne] at h
   exact hne h
  have ih:=k1a j h0
  rw [X1v h0] at h⊢
  have hv:=V0q h
  have hg:=K0x (exV 0 (ofN (sumF r p j).1) (ofN (magI (r (j+1))))) p.toNat
  rw [Z1d,exQ0,X0l,X0l] at hg
  show sumQ (fun k=>qN (magI (r k))) (j+1)+qN (magI (r (j+1)))≤_
  rw [hv]
  grind
theorem H1f {m:Mx} {p:Int} (hl:1≤m.length): ∀i,(J0s m p i).2=0→0≤qN (J0s m p i).1∧ ∀k,k<i→sumQ (fun j=>qN (magI (atM m k j))) m.length≤qN (J0s m p i).1
 | 0,_=>⟨by show 0≤qN (default:Nm);rw [W1x];exact Rat.le_refl,fun k hk=>by omega⟩
 | i+1,h=>by
  have h0:(J0s m p i).2=0:=by
   refine Classical.byContradiction fun hne=> ?_
   rw [J0s,if_pos hne] at h
   exact hne h
  have hs:(sumF (atM m i) p (m.length-1)).2=0:=by
   refine Classical.byContradiction fun hne=> ?_
   rw [J0s,if_neg (fun e=>e h0),if_pos hne] at h
   exact hne h
  obtain⟨h2,h4⟩:=H1f hl i h0
  have s3:=k1a _ hs
  rw [show m.length-1+1=m.length from by omega] at s3
  have hsr:=U0t (atM m i) p (m.length-1)
  have hnr:=Y0i m p i
  rw [y0f h0 hs,x0d hsr hnr]
  split
  · rename_i hc
    have hc:=cmpN_gt.1 hc
    refine⟨by show 0≤qN (sumF (atM m i) p (m.length-1)).1;grind,fun k hk=> ?_⟩
    show _≤qN (sumF (atM m i) p (m.length-1)).1
    by_cases e:k=i
    · subst e;exact s3
    · have:=h4 k (by omega);grind
  · rename_i hc
    have hc:=cmpN_le.1 (Int.not_lt.1 hc)
    refine⟨h2,fun k hk=> ?_⟩
    show _≤qN (J0s m p i).1
    by_cases e:k=i
    · subst e;grind
    · exact h4 k (by omega)
theorem j0i {m:Mx} {p:Int} (h:(X0a m p).2=0):rightM m=true∧Z0b p=true∧0≤qN (X0a m p).1∧Q0i (X0a m p).1=true∧ ∀k,k<m.length→sumQ (fun j=>qN (magI (atM m k j))) m.length≤qN (X0a m p).1:=by
 have hg:rightM m=true∧Z0b p=true:=by
  refine Classical.byContradiction fun hne=> ?_
  rw [X0a,if_neg hne] at h
  exact absurd h (by decide)
 rw [X0a,if_pos hg] at h⊢
 obtain⟨a,b⟩:=H1f (J0m hg.1).1 _ h
 exact⟨hg.1,hg.2,a,Y0i m p _,b⟩
def X0s (x a:List (List Nm)) (p:Int):Nm×Int:=
 if (mulM (ofM x) (ofM a) p).2≠0 then(default,(mulM (ofM x) (ofM a) p).2) else
 if (opM 1 (idM (x.length:Int)) (mulM (ofM x) (ofM a) p).1 p).2≠0 then(default,(opM 1 (idM (x.length:Int)) (mulM (ofM x) (ofM a) p).1 p).2) else
 X0a (opM 1 (idM (x.length:Int)) (mulM (ofM x) (ofM a) p).1 p).1 p
def radQ (x:List (List Nm)) (e:Nm) (p:Int):Nm×Int:=
 if (Q0p 1 oneN e p false).2≠0 then(default,(Q0p 1 oneN e p false).2) else
 if (X0a (ofM x) p).2≠0 then(default,(X0a (ofM x) p).2) else
 if (Q0p 2 (X0a (ofM x) p).1 e p true).2≠0 then(default,(Q0p 2 (X0a (ofM x) p).1 e p true).2) else
 W0w (Q0p 2 (X0a (ofM x) p).1 e p true).1 (Q0p 1 oneN e p false).1 p true
def X0z (y q:Nm) (p:Int):Ivl×Int:=if (Q0p 1 y q p false).2≠0∨(Q0p 0 y q p true).2≠0 then(default,2) else(⟨(Q0p 1 y q p false).1,(Q0p 0 y q p true).1⟩,0)
def J0d (a:List (List Nm)) (p:Int):Mx×Int:=
 if (Q0n a p).2≠0 then([],(Q0n a p).2) else
 if (X0s (Q0n a p).1 a p).2≠0 then([],(X0s (Q0n a p).1 a p).2) else
 if cmpR (X0s (Q0n a p).1 a p).1 oneN≥0 then([],3) else
 if (radQ (Q0n a p).1 (X0s (Q0n a p).1 a p).1 p).2≠0 then([],(radQ (Q0n a p).1 (X0s (Q0n a p).1 a p).1 p).2) else
 V0j (fun i j=>X0z (entQ (Q0n a p).1 i j) (radQ (Q0n a p).1 (X0s (Q0n a p).1 a p).1 p).1 p) a.length
theorem q2o {k:Nat} {a b:Mx} {p:Int} (h:(opM k a b p).2=0):(rightM a=true∧rightM b=true∧a.length=b.length∧Z0b p=true)∧(opM k a b p).1.length=a.length∧ ∀i,i<a.length→((opM k a b p).1.getD i []).length=a.length∧ ∀j,j<a.length→(opI k (atM a i j) (atM b i j) p).2=0∧atM (opM k a b p).1 i j=(opI k (atM a i j) (atM b i j) p).1:=by
 have hg:rightM a=true∧rightM b=true∧a.length=b.length∧Z0b p=true:=by
  refine Classical.byContradiction fun hne=> ?_
  rw [opM,if_neg hne] at h
  exact absurd h (by decide)
 rw [opM,if_pos hg] at h⊢
 exact⟨hg,U0k h⟩
theorem K2l {a b:Mx} {p:Int} (h:(mulM a b p).2=0):(rightM a=true∧rightM b=true∧a.length=b.length∧Z0b p=true)∧(mulM a b p).1.length=a.length∧ ∀i,i<a.length→((mulM a b p).1.getD i []).length=a.length∧ ∀j,j<a.length→(dotF (atM a i) (fun k=>atM b k j) p a.length).2=0∧atM (mulM a b p).1 i j=(dotF (atM a i) (fun k=>atM b k j) p a.length).1:=by
 have hg:rightM a=true∧rightM b=true∧a.length=b.length∧Z0b p=true:=by
  refine Classical.byContradiction fun hne=> ?_
  rw [mulM,if_neg hne] at h
  exact absurd h (by decide)
 rw [mulM,if_pos hg] at h⊢
 exact⟨hg,U0k h⟩
theorem G0a :Q0i oneN=true:=by decide
theorem G1m {n:Nat} {x a:List (List Nm)} {p:Int} (hx:sqR n x) (ha:sqR n a) (h1:1≤n) (h4:n≤4) (h:(X0s x a p).2=0):
 0≤qN (X0s x a p).1∧Q0i (X0s x a p).1=true∧ ∃B:Nat→Nat→Rat,(∀i j,i<n→j<n→inQ1 (B i j) (J0p i j-dotQ (fun k=>qN (entQ x i k)) (fun k=>qN (entQ a k j)) n))∧ ∀i,i<n→sumQ (B i) n≤qN (X0s x a p).1:=by
 have c1:(mulM (ofM x) (ofM a) p).2=0:=by
  refine Classical.byContradiction fun hne=> ?_
  rw [X0s,if_pos hne] at h
  exact hne h
 have c2:(opM 1 (idM (x.length:Int)) (mulM (ofM x) (ofM a) p).1 p).2=0:=by
  refine Classical.byContradiction fun hne=> ?_
  rw [X0s,if_neg (fun e=>e c1),if_pos hne] at h
  exact hne h
 rw [X0s,if_neg (fun e=>e c1),if_neg (fun e=>e c2)] at h⊢
 obtain⟨-,m1,m2⟩:=K2l c1
 obtain⟨-,o1,o2⟩:=q2o c2
 obtain⟨n1,n2,n3,n4,n5⟩:=j0i h
 have hxl:(ofM x).length=n:=by unfold ofM;rw [List.length_map];exact hx.1
 have hid:=(U2s h1 h4 (show 0<n by omega) (show 0<n by omega)).1
 rw [hxl] at m1 m2
 rw [hx.1,hid] at o1 o2
 rw [hx.1] at n1 n3 n4 n5⊢
 generalize hM:(opM 1 (idM (n:Int)) (mulM (ofM x) (ofM a) p).1 p).1=M at*
 refine⟨n3,n4,fun i j=>qN (magI (atM M i j)),fun i j hi hj=> ?_,fun i hi=> ?_⟩
 · obtain⟨q1,q2⟩:=(o2 i hi).2 j hj
   obtain⟨d1,d2⟩:=(m2 i hi).2 j hj
   have hd:memI (dotQ (fun k=>qN (entQ x i k)) (fun k=>qN (entQ a k j)) n) (atM (mulM (ofM x) (ofM a) p).1 i j):=by
    rw [d2]
    refine H1t n d1 fun k hk=>⟨?_,?_⟩
    · rw [J1x (by rw [hx.1];exact hi) (by rw [(hx.row hi).1];exact hk)];exact⟨Rat.le_refl,Rat.le_refl⟩
    · rw [J1x (by rw [ha.1];exact hk) (by rw [(ha.row hk).1];exact hj)];exact⟨Rat.le_refl,Rat.le_refl⟩
   have ho:=Y1h 1 q1 (w1i h1 h4 hi hj) hd
   rw [exQ1] at ho
   rw [←q2] at ho
   have hr:Q0v (atM M i j)=true:=q0d n1 (by omega) (by omega)
   show inQ1 (qN (magI (atM M i j))) _
   exact(Y1q hr ho).1
 · have:=n5 i (by omega)
   rw [o1] at this
   exact this
theorem G1t {a b:Nm} {p:Int} (ha:Q0i a=true) (hb:Q0i b=true) (hp:1≤p.toNat) (hn:b.neg=false) (h:(W0w a b p true).2=0):qN a≤qN (W0w a b p true).1*qN b:=by
 unfold W0w at h⊢
 split at h
 · exact absurd h (by decide)
 rename_i hw
 rw [if_neg hw]
 unfold divN at h⊢
 have hv:=G0b (J0n (j0l (ofN a) (ofN b) p.toNat) p.toNat true) h
 have h0:0<(ofN b).m:=Nat.pos_of_ne_zero fun e=>hw ((X0h hb).1 e)
 rw [hv.2]
 have hf:=x2d (ratV (ofN a) (ofN b) p.toNat) p.toNat
 have:=(w2w (a:=ofN a) (b:=ofN b) (p:=p.toNat) hn h0 hf).1 (K0x _ _)
 rw [X0l,X0l] at this
 exact this
theorem X1t {y q:Nm} {p:Int} (h:(X0z y q p).2=0) {X:Rat} (hX:inQ1 (qN q) (X-qN y)):memI X (X0z y q p).1∧((X0z y q p).1.lo=(Q0p 1 y q p false).1∧(X0z y q p).1.hi=(Q0p 0 y q p true).1∧(Q0p 1 y q p false).2=0∧(Q0p 0 y q p true).2=0):=by
 unfold X0z at h⊢
 split at h
 · exact absurd h (by decide)
 rename_i hn
 rw [if_neg hn]
 have e1:(Q0p 1 y q p false).2=0:=Classical.byContradiction fun h=>hn (.inl h)
 have e2:(Q0p 0 y q p true).2=0:=Classical.byContradiction fun h=>hn (.inr h)
 have v1:=V0q e1
 have v2:=V0q e2
 have g1:=q0c (exV 1 (ofN y) (ofN q)) p.toNat
 have g2:=K0x (exV 0 (ofN y) (ofN q)) p.toNat
 rw [Z1d,exQ1,X0l,X0l,←v1] at g1
 rw [Z1d,exQ0,X0l,X0l,←v2] at g2
 unfold inQ1 at hX
 have:=hX.1
 have:=hX.2
 exact⟨⟨by show qN (Q0p 1 y q p false).1≤X;grind,by show X≤qN (Q0p 0 y q p true).1;grind⟩,rfl,rfl,e1,e2⟩
end Go.Pv
end
section
/-The inverse for sure:what is answered has it (the whole),and which errors there are. No program in it. -/
namespace Go.Pv
def sqG (n:Nat) (x:GJ):Prop:=sqR n x.a∧sqR n x.r
theorem U1r (x m y:Nm) (p:Int):Q0i (w0v x m y p).1=true:=by
 unfold w0v
 split<;>exact Z0g _ _ _ _ _
theorem x1v (a b:Nm) (p:Int) (up:Bool):Q0i (divN a b p up).1=true:=V0p (v0z (J0n (j0l _ _ _) _ _))
theorem q0t {n:Nat} (m:Nm) (p:Int) (row other:List Nm) (h:row.length=n):(H0c m p row other).length=n∧ ∀c∈H0c m p row other,Q0i c=true:=by
 unfold H0c
 refine⟨by simp [h],fun c hc=> ?_⟩
 simp only [List.mem_map] at hc
 obtain⟨j,_,rfl⟩:=hc
 exact U1r _ _ _ _
theorem G0e {n:Nat} (d:Nm) (p:Int) (row:List Nm) (h:row.length=n):(divL d p row).length=n∧ ∀c∈divL d p row,Q0i c=true:=by
 unfold divL
 refine⟨by simp [h],fun c hc=> ?_⟩
 simp only [List.mem_map] at hc
 obtain⟨j,_,rfl⟩:=hc
 exact x1v _ _ _ _
theorem V2v {n:Nat} {p:Int} {k i:Nat} {x:GJ} (h:sqG n x) (hk:k<n) (hi:i<n):sqG n (x1n p k i x):=by
 unfold x1n
 split
 · exact h
 split
 · exact⟨h.1.set (q0t _ _ _ _ (h.1.row hi).1),h.2.set (q0t _ _ _ _ (h.2.row hi).1)⟩
 · exact h
theorem v0p {n:Nat} {p:Int} {k:Nat} {x:GJ} (h:sqG n x) (hk:k<n): ∀i,i≤n→sqG n (J0h p k x i)
 | 0,_=>h
 | i+1,hi=>by
  have:=v0p (p:=p) h hk i (by omega)
  unfold J0h
  split
  · exact V2v this hk (by omega)
  · exact this
theorem H1p {n k:Nat} {x:GJ} (h:sqG n x) (hk:k<n):sqG n (x1o n k x):=by
 have:=Z1e x.a k (n-(k+1))
 exact⟨h.1.swap hk (by omega),h.2.swap hk (by omega)⟩
theorem H1q {n:Nat} {p:Int} {k:Nat} {x:GJ} (h:sqG n x) (hk:k<n):sqG n (q0x p k x):=by
 unfold q0x
 split
 · exact⟨h.1.set (G0e _ _ _ (h.1.row hk).1),h.2.set (G0e _ _ _ (h.2.row hk).1)⟩
 · exact h
theorem V2w {n:Nat} {p:Int} {k:Nat} {x:GJ} (h:sqG n x) (hk:k<n):sqG n (x0y p n k x):=by
 unfold x0y
 split
 · exact h
 split
 · exact v0p (H1q (H1p h hk) hk) hk n (Nat.le_refl _)
 · exact H1q (H1p h hk) hk
theorem v0r {n:Nat} {p:Int} {x:GJ} (h:sqG n x): ∀k,k≤n→sqG n (X0f p n x k)
 | 0,_=>h
 | k+1,hk=>by
  have:=v0r h k (by omega) (p:=p)
  unfold X0f
  split
  · exact V2w this (by omega)
  · exact this
theorem k1d (n:Nat):sqR n (K0z n):=by
 unfold K0z
 refine⟨by simp,fun r hr=> ?_⟩
 simp only [List.mem_map] at hr
 obtain⟨i,_,rfl⟩:=hr
 refine⟨by simp,fun c hc=> ?_⟩
 simp only [List.mem_map] at hc
 obtain⟨j,_,rfl⟩:=hc
 split<;>decide
theorem J1e {a:List (List Nm)} (h:rightQ a=true):sqR a.length a∧1≤a.length∧a.length≤4:=by
 obtain⟨h1,h2,h3⟩:=rightQ_iff.1 h
 refine⟨⟨rfl,fun r hr=> ?_⟩,h2,h3⟩
 obtain⟨i,hi,rfl⟩:=List.mem_iff_getElem.1 hr
 have:=h1 i hi
 rw [List.getD_eq_getElem?_getD,List.getElem?_eq_getElem hi] at this
 have h5:Y0f a[i] a.length=true:=this
 unfold Y0f at h5
 rw [Bool.and_eq_true,List.all_eq_true] at h5
 exact⟨of_decide_eq_true h5.2,fun c hc=>h5.1 c hc⟩
theorem W1a {a:List (List Nm)} {p:Int} (h:(Q0n a p).2=0):rightQ a=true∧Z0b p=true∧sqR a.length (Q0n a p).1∧sqR a.length a∧1≤a.length∧a.length≤4∧(X0f p a.length ⟨a,K0z a.length,0⟩ a.length).e=0∧(Q0n a p).1=(X0f p a.length ⟨a,K0z a.length,0⟩ a.length).r:=by
 unfold Q0n at h⊢
 split at h
 · rename_i hg
   rw [if_pos hg]
   obtain⟨s1,s2,s3⟩:=J1e hg.1
   split at h
   · rename_i he
     rw [if_pos he]
     exact⟨hg.1,hg.2,(v0r (p:=p) (x:=⟨a,K0z a.length,0⟩) ⟨s1,k1d _⟩ a.length (Nat.le_refl _)).2,s1,s2,s3,he,rfl⟩
   · rename_i he
     exact absurd h he
 · exact absurd h (by decide)
theorem X2o {a:List (List Nm)} {p:Int} (h:(J0d a p).2=0):(Q0n a p).2=0∧(X0s (Q0n a p).1 a p).2=0∧ ¬cmpR (X0s (Q0n a p).1 a p).1 oneN≥0∧(radQ (Q0n a p).1 (X0s (Q0n a p).1 a p).1 p).2=0∧J0d a p=V0j (fun i j=>X0z (entQ (Q0n a p).1 i j) (radQ (Q0n a p).1 (X0s (Q0n a p).1 a p).1 p).1 p) a.length:=by
 unfold J0d at h⊢
 split at h
 · rename_i hc;exact absurd h hc
 rename_i c1
 split at h
 · rename_i hc;exact absurd h hc
 rename_i c2
 split at h
 · exact absurd h (by decide)
 rename_i c3
 split at h
 · rename_i hc;exact absurd h hc
 rename_i c4
 refine⟨Classical.byContradiction fun h=>c1 h,Classical.byContradiction fun h=>c2 h,c3,Classical.byContradiction fun h=>c4 h,?_⟩
 rw [if_neg c1,if_neg c2,if_neg c3,if_neg c4]
theorem k1y {x:List (List Nm)} {e:Nm} {p:Int} (h:(radQ x e p).2=0):(Q0p 1 oneN e p false).2=0∧(X0a (ofM x) p).2=0∧(Q0p 2 (X0a (ofM x) p).1 e p true).2=0∧radQ x e p=W0w (Q0p 2 (X0a (ofM x) p).1 e p true).1 (Q0p 1 oneN e p false).1 p true:=by
 unfold radQ at h⊢
 split at h
 · rename_i hc;exact absurd h hc
 rename_i c1
 split at h
 · rename_i hc;exact absurd h hc
 rename_i c2
 split at h
 · rename_i hc;exact absurd h hc
 rename_i c3
 refine⟨Classical.byContradiction fun h=>c1 h,Classical.byContradiction fun h=>c2 h,Classical.byContradiction fun h=>c3 h,?_⟩
 rw [if_neg c1,if_neg c2,if_neg c3]
theorem j1z (F:Nat→Rat): ∀n,(∀k,k<n→0≤F k)→0≤sumQ F n
 | 0,_=>Rat.le_refl
 | n+1,h=>by
  have:=j1z F n fun k hk=>h k (by omega)
  have:=h n (by omega)
  rw [sumQ];grind
theorem G1f {F:Nat→Rat} : ∀ {n j:Nat},(∀k,k<n→0≤F k)→j<n→F j≤sumQ F n
 | 0,j,_,hj=>absurd hj (Nat.not_lt_zero _)
 | n+1,j,h,hj=>by
  rw [sumQ]
  by_cases e:j=n
  · subst e
    have:=j1z F j fun k hk=>h k (by omega)
    grind
  · have:=G1f (F:=F) (n:=n) (j:=j) (fun k hk=>h k (by omega)) (by omega)
    have:=h n (by omega)
    grind
theorem G1l {lo hi:Nm} (h1:Q0i lo=true) (h2:Q0i hi=true) (h:qN lo≤qN hi):Q0v ⟨lo,hi⟩=true:=k0h h1 h2 (cmpN_le.2 h)
theorem y1n (p:Nat):Z1u p 0:=⟨0,0,(J0f 0).symm,Nat.zero_le _⟩
theorem J1d {v:Vl} {p:Nat} {up:Bool} (hp:1≤p) (h:0≤qV v):0≤qV (Z0l v p up):=by
 cases up with
 | true=>exact Rat.le_trans h (K0x v p)
 | false=>exact z1g hp (y1n p) h
theorem K1f {x:Nm} (hx:Q0i x=true) (h:0≤qN x):x.neg=false:=by
 by_cases hw:x.w= []
 · exact((k1q hx).2.2.2 hw).1
 · cases hn:x.neg
   · rfl
   · exfalso
     have hm:(ofN x).m≠0:=fun e=>hw ((X0h hx).1 e)
     rw [←X0l] at h
     have: ¬qV (ofN x)<0:=by grind
     apply this
     rw [←G1h]
     show G0j (ofN x)<0
     unfold G0j
     rw [if_neg hm,show(ofN x).neg=true from hn];decide
theorem W1m {a:List (List Nm)} {p:Int} (h:(J0d a p).2=0):(sqR a.length a∧1≤a.length∧a.length≤4∧Z0b p=true)∧(J0d a p).1.length=a.length∧detQ a.length (fun i j=>qN (entQ a i j))≠0∧
 ∀i,i<a.length→((J0d a p).1.getD i []).length=a.length∧ ∀j,j<a.length→Q0v (atM (J0d a p).1 i j)=true∧memI (cofQ a.length (fun i j=>qN (entQ a i j)) i j/detQ a.length (fun i j=>qN (entQ a i j))) (atM (J0d a p).1 i j):=by
 obtain⟨s1,s2,s3,s4,s5⟩:=X2o h
 obtain⟨a1,a2,a3,a4,a5,a6, -, -⟩:=W1a s1
 obtain⟨r1,r2,B,r3,r4⟩:=G1m a3 a4 a5 a6 s2
 obtain⟨d1,d2,d3,d4⟩:=k1y s4
 rw [d4] at s4
 rw [s5] at h⊢
 obtain⟨f1,f2⟩:=U0k h
 generalize hX:(Q0n a p).1=X at*
 generalize hE:(X0s X a p).1=e at*
 have hp:=J1u a2
 have he1:qN e<1:=by
  rw [x0d r2 G0a] at s3
  have:=cmpN_lt.1 (Int.not_le.1 s3)
  rwa [x0m] at this
 obtain⟨n1,n2,n3,n4,n5⟩:=j0i d2
 have hXl:(ofM X).length=a.length:=by unfold ofM;rw [List.length_map];exact a3.1
 --the divisor
 have v1:=V0q d1
 have g1:=q0c (exV 1 (ofN oneN) (ofN e)) p.toNat
 rw [Z1d,exQ1,X0l,X0l,x0m,←v1] at g1
 have v3:=V0q d3
 have g3:=K0x (exV 2 (ofN (X0a (ofM X) p).1) (ofN e)) p.toNat
 rw [Z1d,exQ2,X0l,X0l,←v3] at g3
 have rd:=Z0g 1 oneN e p false
 have rq:=Z0g 2 (X0a (ofM X) p).1 e p true
 have g0:0≤qN (Q0p 1 oneN e p false).1:=by
  have:=J1d (v:=exV 1 (ofN oneN) (ofN e)) (p:=p.toNat) (up:=false) hp (by rw [Z1d,exQ1,X0l,X0l,x0m];grind)
  rw [v1];exact this
 have hdn:=K1f rd g0
 rw [←d4] at s4
 rw [d4] at s4
 have hqu:=G1t rq rd hp hdn s4
 rw [←d4] at hqu
 have hq0:0≤qN (radQ X e p).1:=by
  have hpos:0<qN (Q0p 1 oneN e p false).1:=by
   refine Classical.byContradiction fun hne=> ?_
   have hz:qN (Q0p 1 oneN e p false).1=0:=by grind
   have hdef:(Q0p 1 oneN e p false).1=default:=J1g rd J0e (by rw [hz,W1x])
   rw [hdef] at s4
   unfold W0w at s4
   rw [if_pos (show(default:Nm).w= [] from rfl)] at s4
   exact absurd s4 (by decide)
  have hn0:0≤qN (X0a (ofM X) p).1*qN e:=Rat.mul_nonneg n3 r1
  refine Classical.byContradiction fun hne=> ?_
  have hlt:0< -qN (radQ X e p).1:=by grind
  have:=Rat.mul_pos hlt hpos
  grind
 refine⟨⟨a4,a5,a6,a2⟩,f1,?_,fun i hi=>⟨(f2 i hi).1,fun j hj=> ?_⟩⟩
 · exact G2q (R:=fun i k=>qN (entQ X i k)) (A:=fun i j=>qN (entQ a i j)) (E:=fun i j=>J0p i j-dotQ (fun k=>qN (entQ X i k)) (fun k=>qN (entQ a k j)) a.length) a6 (fun i j _ _=>rfl) B r3 r4 he1
 · obtain⟨q1,q2⟩:=(f2 i hi).2 j hj
   have near:=V2m (R:=fun i k=>qN (entQ X i k)) (A:=fun i j=>qN (entQ a i j)) (E:=fun i j=>J0p i j-dotQ (fun k=>qN (entQ X i k)) (fun k=>qN (entQ a k j)) a.length) a6 (fun i j _ _=>rfl) B r3 r4 he1
    (r:=qN (X0a (ofM X) p).1) (q:=qN (radQ X e p).1) (fun i j hi hj=> ?_) ?_ hi hj
   · obtain⟨m1,m2,m3,m4,m5⟩:=X1t q1 near
     refine⟨?_,by rw [q2];exact m1⟩
     rw [q2]
     have hlo:Q0i (X0z (entQ X i j) (radQ X e p).1 p).1.lo=true:=by rw [m2];exact Z0g _ _ _ _ _
     have hhi:Q0i (X0z (entQ X i j) (radQ X e p).1 p).1.hi=true:=by rw [m3];exact Z0g _ _ _ _ _
     exact G1l hlo hhi (Rat.le_trans m1.1 m1.2)
   · have hs:=n5 i (by rw [hXl];exact hi)
     rw [hXl] at hs
     have hin:inQ1 (qN (magI (atM (ofM X) i j))) (qN (entQ X i j)):=by
      have ht:=q0d n1 (show i<(ofM X).length by rw [hXl];exact hi) (show j<(ofM X).length by rw [hXl];exact hj)
      refine(Y1q ht ?_).1
      rw [J1x (by rw [a3.1];exact hi) (by rw [(a3.row hi).1];exact hj)]
      exact⟨Rat.le_refl,Rat.le_refl⟩
     refine v0i hin (Rat.le_trans (G1f (F:=fun k=>qN (magI (atM (ofM X) i k))) (fun k hk=> ?_) hj) hs)
     exact(Y1q (q0d n1 (show i<(ofM X).length by rw [hXl];exact hi) (show k<(ofM X).length by rw [hXl];exact hk)) (y2r (q0d n1 (show i<(ofM X).length by rw [hXl];exact hi) (show k<(ofM X).length by rw [hXl];exact hk)))).2
   · have h1:qN (radQ X e p).1*qN (Q0p 1 oneN e p false).1≤qN (radQ X e p).1*(1-qN e):=Rat.mul_le_mul_of_nonneg_left g1 hq0
     grind
end Go.Pv
end
section
/-The inverse:which errors there are,and that with an error nothing is answered. No program in it. -/
namespace Go.Pv
theorem X1r {β:Type} {G:Nat→β×Int} : ∀(k i:Nat) (acc:List β),(tabF G i k acc).2≠0→(tabF G i k acc).1= []
 | 0,i,acc,h=>absurd rfl h
 | k+1,i,acc,h=>by
  unfold tabF at h⊢
  split at h
  · rename_i hc;rw [if_pos hc]
  · rename_i hc;rw [if_neg hc];exact X1r k _ _ h
theorem q1s {a:List (List Nm)} {p:Int} (h:(J0d a p).2≠0):(J0d a p).1= []:=by
 unfold J0d at h⊢
 split
 · rfl
 rename_i c1
 split
 · rfl
 rename_i c2
 split
 · rfl
 rename_i c3
 split
 · rfl
 rename_i c4
 rw [if_neg c1,if_neg c2,if_neg c3,if_neg c4] at h
 exact X1r _ _ _ h
end Go.Pv
end
section
/-The inverse of a matrix of ones in any order is that of the order turned round. No program in it. -/
namespace Go.Pv
def bN (b:Bool):Nm:=if b then oneN else default
def btQ (m:List (List Bool)):List (List Nm):=m.map fun r=>r.map bN
def bEnt (m:List (List Bool)) (i j:Nat):Bool:=(m.getD i []).getD j false
theorem w0c (m:List (List Bool)) (i:Nat):(btQ m).getD i []=(m.getD i []).map bN:=by
 unfold btQ
 rw [List.getD_eq_getElem?_getD,List.getElem?_map,List.getD_eq_getElem?_getD]
 cases m[i]?<;>rfl
theorem H0j (m:List (List Bool)) (i j:Nat):entQ (btQ m) i j=bN (bEnt m i j):=by
 unfold entQ bEnt
 rw [w0c]
 generalize m.getD i []=r
 rw [List.getD_eq_getElem?_getD,List.getElem?_map,List.getD_eq_getElem?_getD]
 cases r[j]?<;>rfl
theorem Y0q (b:Bool):Q0i (bN b)=true:=by cases b<;>decide
theorem bN_w (b:Bool):(bN b).w= []↔b=false:=by cases b<;>simp [bN,oneN]<;>rfl
theorem j0c {v:Vl} {p:Nat} {up:Bool} (h:Q0g v.m≤p):Z0l v p up=v:=by unfold Z0l;rw [if_pos h]
theorem W1s {k:Nat} {a b:Nm} {p:Int} {up:Bool} (ha:Q0i a=true) (hb:Q0i b=true) (hp:Z0b p=true) (h:Q0g (exV k (ofN a) (ofN b)).m≤8):Q0p k a b p up=numV (exV k (ofN a) (ofN b)):=by
 unfold Q0p
 rw [if_pos ⟨ha,hb,hp⟩,j0c]
 have:8≤p.toNat:=by
  unfold Z0b at hp
  simp only [Bool.and_eq_true,decide_eq_true_eq] at hp
  omega
 omega
theorem G1q {x y:Bool} {p:Int} {up:Bool} (hp:Z0b p=true) (h:y=false):Q0p 1 (bN x) (bN y) p up=(bN x,0):=by
 subst h
 rw [W1s (Y0q _) (Y0q _) hp (by cases x<;>decide+kernel)]
 cases x<;>decide+kernel
theorem G1r {x y:Bool} {p:Int} {up:Bool} (hp:Z0b p=true) (h:(x&&y)=false):Q0p 0 (bN x) (bN y) p up=(bN (x||y),0):=by
 cases x<;>cases y<;>first | (exact absurd h (by decide)) | (rw [W1s (Y0q _) (Y0q _) hp (by decide+kernel)];decide+kernel)
theorem J2h {x y:Bool} {p:Int} {up:Bool} (hp:Z0b p=true):Q0p 2 (bN x) (bN y) p up=(bN (x&&y),0):=by
 cases x<;>cases y<;>(rw [W1s (Y0q _) (Y0q _) hp (by decide+kernel)];decide+kernel)
theorem J2x :canV (ofN oneN):=K0d (by decide)
theorem div_one {x:Bool} {p:Int} {up:Bool} (hp:Z0b p=true):divN (bN x) oneN p up=(bN x,0):=by
 have h8:8≤p.toNat:=by
  unfold Z0b at hp
  simp only [Bool.and_eq_true,decide_eq_true_eq] at hp
  omega
 have hr:ratV (ofN (bN x)) (ofN oneN) p.toNat=ofN (bN x):=by
  cases x with
  | false=>
   unfold ratV
   rw [if_pos (by decide)]
   decide
  | true=>
   refine X1b (j0l _ _ _) J2x ?_
   unfold ratV
   have hm:(ofN (bN true)).m=1:=by decide
   have hm1:(ofN oneN).m=1:=by decide
   rw [if_neg (by decide),q0h,hm,hm1]
   have hb:Q0g 1=1:=by decide+kernel
   have hmore:W0c 1 1 p.toNat=p.toNat+2:=by unfold W0c;rw [hb];omega
   have hq:x0v 1 1 p.toNat=2^(p.toNat+3):=by
    unfold x0v
    rw [hmore,Nat.div_one,Nat.mod_one,if_pos rfl,Nat.one_mul,Nat.pow_succ (n:=2) (m:=p.toNat+2)];omega
   rw [hq,hmore]
   have hs:((ofN (bN true)).neg !=(ofN oneN).neg)=false:=by decide
   have he:(ofN (bN true)).e-(ofN oneN).e-((p.toNat+2:Nat):Int)-1= -((p.toNat+3:Nat):Int):=by
    rw [show(ofN (bN true)).e=0 by decide,show(ofN oneN).e=0 by decide];omega
   rw [hs,he,if_neg (by decide)]
   show qM ((2^(p.toNat+3):Nat):Int) _=qN oneN
   rw [x0m,Int.natCast_pow,show((2:Nat):Int)=2 from rfl]
   have:=Y0t 1 (p.toNat+3) (-((p.toNat+3:Nat):Int))
   rw [Int.one_mul] at this
   rw [this,show -((p.toNat+3:Nat):Int)+((p.toNat+3:Nat):Int)=0 by omega]
   unfold qM;rw [v1i,Rat.mul_one];rfl
 unfold divN
 rw [hr,j0c (by cases x<;>(refine Nat.le_trans ?_ h8;decide+kernel))]
 cases x<;>decide+kernel
theorem q3y (x y:Bool):cmpR (absN (bN x)) (absN (bN y))≤0↔(x=true→y=true):=by
 cases x<;>cases y<;>decide+kernel
def pivB (a:List (List Bool)) (k:Nat):Nat→Nat
 | 0=>k
 | m+1=>if !(bEnt a (k+1+m) k)||bEnt a (pivB a k m) k then pivB a k m else k+1+m
theorem Y1c (a:List (List Bool)) (k:Nat): ∀m,pivN (btQ a) k m=pivB a k m
 | 0=>rfl
 | m+1=>by
  unfold pivN pivB
  rw [Y1c a k m,H0j,H0j]
  have:=q3y (bEnt a (k+1+m) k) (bEnt a (pivB a k m) k)
  by_cases h:(bEnt a (k+1+m) k=true→bEnt a (pivB a k m) k=true)
  · rw [if_pos (this.2 h),if_pos]
    cases h1:bEnt a (k+1+m) k<;>simp_all
  · rw [if_neg fun e=>h (this.1 e),if_neg]
    cases h1:bEnt a (k+1+m) k<;>simp_all
theorem q1c (a:List (List Bool)) (i j:Nat):Z0o [] (btQ a) i j=btQ (Z0o [] a i j):=by
 unfold Z0o
 rw [w0c,w0c]
 unfold btQ
 rw [List.map_set,List.map_set]
def colB (n k:Nat) (x:List (List Bool)×List (List Bool)):Option (List (List Bool)×List (List Bool)):=
 if !(bEnt x.1 (pivB x.1 k (n-(k+1))) k) then none else
 if bEnt (Z0o [] x.1 k (pivB x.1 k (n-(k+1)))) k k&&(List.range n).all fun i=>decide (i=k)|| !(bEnt (Z0o [] x.1 k (pivB x.1 k (n-(k+1)))) i k) then
  some (Z0o [] x.1 k (pivB x.1 k (n-(k+1))),Z0o [] x.2 k (pivB x.1 k (n-(k+1)))) else none
theorem H1v {p:Int} (hp:Z0b p=true) (r:List Bool):divL (bN true) p (r.map bN)=r.map bN∧U0n (bN true) p (r.map bN)=true:=by
 constructor
 · unfold divL
   rw [List.map_map]
   exact List.map_congr_left fun c _=>by show(divN (bN c) oneN p false).1=_;rw [div_one hp]
 · unfold U0n
   rw [List.all_map,List.all_eq_true]
   intro c _
   show((divN (bN c) oneN p false).2==0)=true
   rw [div_one hp];rfl
theorem k1l {a:List (List Nm)} {k:Nat} (h:k<a.length):a.set k (a.getD k [])=a:=by
 rw [List.getD_eq_getElem?_getD,List.getElem?_eq_getElem h]
 exact List.set_getElem_self h
theorem V0n (a:List (List Bool)):(btQ a).length=a.length:=by simp [btQ]
theorem j2i {n k:Nat} {p:Int} {x y:List (List Bool)×List (List Bool)} (hp:Z0b p=true) (hk:k<n) (h1:x.1.length=n) (h2:x.2.length=n) (h:colB n k x=some y):
 x0y p n k ⟨btQ x.1,btQ x.2,0⟩=⟨btQ y.1,btQ y.2,0⟩∧y.1.length=n∧y.2.length=n:=by
 unfold colB at h
 split at h
 · cases h
 rename_i c1
 split at h
 rotate_left
 · cases h
 rename_i c2
 cases h
 rw [Bool.and_eq_true,List.all_eq_true] at c2
 have hpiv:x1o n k ⟨btQ x.1,btQ x.2,0⟩=⟨btQ (Z0o [] x.1 k (pivB x.1 k (n-(k+1)))),btQ (Z0o [] x.2 k (pivB x.1 k (n-(k+1)))),0⟩:=by
  unfold x1o
  rw [Y1c,q1c,q1c]
 have l1:(Z0o [] x.1 k (pivB x.1 k (n-(k+1)))).length=n:=by rw [X0o];exact h1
 have l2:(Z0o [] x.2 k (pivB x.1 k (n-(k+1)))).length=n:=by rw [X0o];exact h2
 refine⟨?_,l1,l2⟩
 unfold x0y
 rw [if_neg (by
  show¬(entQ (btQ x.1) (pivN (btQ x.1) k (n-(k+1))) k).w= []
  rw [Y1c,H0j,bN_w]
  simpa using c1),hpiv]
 generalize Z0o [] x.1 k (pivB x.1 k (n-(k+1)))=u at*
 generalize Z0o [] x.2 k (pivB x.1 k (n-(k+1)))=v at*
 have hd:q0x p k ⟨btQ u,btQ v,0⟩=⟨btQ u,btQ v,0⟩:=by
  unfold q0x
  have e:entQ (btQ u) k k=bN true:=by rw [H0j,c2.1]
  have hu:=H1v hp (u.getD k [])
  have hv:=H1v hp (v.getD k [])
  have su:(btQ u).set k ((btQ u).getD k [])=btQ u:=k1l (by rw [V0n];omega)
  have sv:(btQ v).set k ((btQ v).getD k [])=btQ v:=k1l (by rw [V0n];omega)
  rw [←w0c] at hu hv
  simp only [e,hu.1,hu.2,hv.1,hv.2,su,sv,Bool.and_self,if_true]
 rw [hd,if_pos rfl]
 have hrows: ∀i,i≤n→J0h p k ⟨btQ u,btQ v,0⟩ i=⟨btQ u,btQ v,0⟩:=fun i=>by
  induction i with
  | zero=>intro _;rfl
  | succ i ih=>
   intro hi
   unfold J0h
   rw [ih (by omega),if_pos rfl]
   unfold x1n
   rw [if_pos]
   have:=c2.2 i (List.mem_range.2 (by omega))
   rw [Bool.or_eq_true] at this
   rcases this with h | h
   · exact .inl (of_decide_eq_true h)
   · refine .inr ?_
     show(entQ (btQ u) i k).w= []
     rw [H0j,bN_w]
     simpa using h
 exact hrows n (Nat.le_refl _)
def Q2u (n:Nat) (x:List (List Bool)×List (List Bool)):Nat→Option (List (List Bool)×List (List Bool))
 | 0=>some x
 | k+1=>(Q2u n x k).bind (colB n k)
theorem H1z {n:Nat} {p:Int} {x:List (List Bool)×List (List Bool)} (hp:Z0b p=true) (h1:x.1.length=n) (h2:x.2.length=n): ∀k,k≤n→ ∀y,Q2u n x k=some y→
 X0f p n ⟨btQ x.1,btQ x.2,0⟩ k=⟨btQ y.1,btQ y.2,0⟩∧y.1.length=n∧y.2.length=n
 | 0,_,y,h=>by cases h;exact⟨rfl,h1,h2⟩
 | k+1,hk,y,h=>by
  unfold Q2u at h
  cases hz:Q2u n x k with
  | none=>rw [hz] at h;cases h
  | some z=>
   rw [hz] at h
   obtain⟨e1,e2,e3⟩:=H1z hp h1 h2 k (by omega) z hz
   unfold X0f
   rw [e1,if_pos rfl]
   exact j2i hp (by omega) e2 e3 h
def ordM (s:List Nat):List (List Bool):=(List.range s.length).map fun i=>(List.range s.length).map fun j=>decide (j=s.getD i 0)
def ordT (s:List Nat):List (List Bool):=(List.range s.length).map fun i=>(List.range s.length).map fun j=>decide (i=s.getD j 0)
def q0m (s:List Nat):Bool:=decide (1≤s.length)&&decide (s.length≤4)&&(List.range s.length).all fun i=>decide (s.getD i 0<s.length)&&(List.range s.length).all fun j=>decide (i=j)||decide (s.getD i 0≠s.getD j 0)
def allP (P:List Nat→Bool):Bool:=
 ((List.range 1).all fun a=> !q0m [a]||P [a])&&((List.range 2).all fun a=>(List.range 2).all fun b=> !q0m [a,b]||P [a,b])&&
 ((List.range 3).all fun a=>(List.range 3).all fun b=>(List.range 3).all fun c=> !q0m [a,b,c]||P [a,b,c])&&
 ((List.range 4).all fun a=>(List.range 4).all fun b=>(List.range 4).all fun c=>(List.range 4).all fun d=> !q0m [a,b,c,d]||P [a,b,c,d])
theorem X1e {P:List Nat→Bool} (h:allP P=true) {s:List Nat} (hs:q0m s=true):P s=true:=by
 have h0:=hs
 unfold q0m at h0
 simp only [Bool.and_eq_true,List.all_eq_true,List.mem_range,decide_eq_true_eq] at h0
 obtain⟨⟨h1,h4⟩,hb⟩:=h0
 unfold allP at h
 simp only [Bool.and_eq_true,List.all_eq_true,List.mem_range] at h
 obtain⟨⟨⟨p1,p2⟩,p3⟩,p4⟩:=h
 match s,h1,h4,hb,hs with
 | [a],_,_,hb,hs=>
  have a0:=(hb 0 (by simp)).1
  have:=p1 a (by simpa using a0)
  rwa [hs,Bool.not_true,Bool.false_or] at this
 | [a,b],_,_,hb,hs=>
  have a0:=(hb 0 (by simp)).1
  have a1:=(hb 1 (by simp)).1
  have:=p2 a (by simpa using a0) b (by simpa using a1)
  rwa [hs,Bool.not_true,Bool.false_or] at this
 | [a,b,c],_,_,hb,hs=>
  have a0:=(hb 0 (by simp)).1
  have a1:=(hb 1 (by simp)).1
  have a2:=(hb 2 (by simp)).1
  have:=p3 a (by simpa using a0) b (by simpa using a1) c (by simpa using a2)
  rwa [hs,Bool.not_true,Bool.false_or] at this
 | [a,b,c,d],_,_,hb,hs=>
  have a0:=(hb 0 (by simp)).1
  have a1:=(hb 1 (by simp)).1
  have a2:=(hb 2 (by simp)).1
  have a3:=(hb 3 (by simp)).1
  have:=p4 a (by simpa using a0) b (by simpa using a1) c (by simpa using a2) d (by simpa using a3)
  rwa [hs,Bool.not_true,Bool.false_or] at this
 | [],h1,_,_,_=>exact absurd h1 (by simp)
 | _::_::_::_::_::_,_,h4,_,_=>exact absurd h4 (by simp)
theorem J2v :allP (fun s=>decide (Q2u s.length (ordM s,ordM (List.range s.length)) s.length=some (ordM (List.range s.length),ordT s)))=true:=by decide+kernel
theorem J2z (n:Nat):K0z n=btQ (ordM (List.range n)):=by
 unfold K0z btQ ordM
 rw [List.length_range,List.map_map]
 refine List.map_congr_left fun i hi=> ?_
 show _=List.map bN (List.map _ _)
 rw [List.map_map]
 refine List.map_congr_left fun j hj=> ?_
 rw [List.mem_range] at hi hj
 show _=bN (decide (j=(List.range n).getD i 0))
 rw [List.getD_eq_getElem?_getD,List.getElem?_range hi]
 show _=bN (decide (j=i))
 by_cases e:i=j
 · subst e;rw [if_pos rfl,decide_eq_true rfl];rfl
 · rw [if_neg e,decide_eq_false fun h=>e h.symm];rfl
theorem V0r (s:List Nat):(ordM s).length=s.length:=by simp [ordM]
theorem k0y (s:List Nat):(ordT s).length=s.length:=by simp [ordT]
theorem Z2e {n:Nat} {m:List (List Bool)} (h1:m.length=n) (h2: ∀r∈m,r.length=n):sqR n (btQ m):=by
 refine⟨by rw [V0n,h1],fun r hr=> ?_⟩
 unfold btQ at hr
 simp only [List.mem_map] at hr
 obtain⟨x,hx,rfl⟩:=hr
 refine⟨by rw [List.length_map,h2 x hx],fun c hc=> ?_⟩
 simp only [List.mem_map] at hc
 obtain⟨b,_,rfl⟩:=hc
 exact Y0q b
theorem Y1g (s:List Nat):sqR s.length (btQ (ordM s)):=Z2e (V0r s) fun r hr=>by
 simp only [ordM,List.mem_map] at hr
 obtain⟨i,_,rfl⟩:=hr
 simp
theorem v1m (s:List Nat):sqR s.length (btQ (ordT s)):=Z2e (k0y s) fun r hr=>by
 simp only [ordT,List.mem_map] at hr
 obtain⟨i,_,rfl⟩:=hr
 simp
theorem sqR.rightQ {n:Nat} {a:List (List Nm)} (h:sqR n a) (h1:1≤n) (h4:n≤4):rightQ a=true:=by
 refine rightQ_iff.2 ⟨fun j hj=> ?_,by rw [h.1];exact h1,by rw [h.1];exact h4⟩
 rw [h.1] at hj⊢
 have:=h.row hj
 unfold Y0f
 rw [Bool.and_eq_true,List.all_eq_true]
 exact⟨this.2,decide_eq_true this.1⟩
theorem k0v {s:List Nat} (h:q0m s=true):1≤s.length∧s.length≤4:=by
 unfold q0m at h
 simp only [Bool.and_eq_true,decide_eq_true_eq] at h
 exact h.1
theorem w0g {s:List Nat} {p:Int} (hs:q0m s=true) (hp:Z0b p=true):Q0n (btQ (ordM s)) p=(btQ (ordT s),0):=by
 obtain⟨h1,h4⟩:=k0v hs
 have hc:=of_decide_eq_true (X1e J2v hs)
 have hl:(btQ (ordM s)).length=s.length:=by rw [V0n,V0r]
 obtain⟨e1, -, -⟩:=H1z (n:=s.length) (x:=(ordM s,ordM (List.range s.length))) hp (V0r s) (by rw [V0r,List.length_range]) s.length (Nat.le_refl _) _ hc
 unfold Q0n
 rw [if_pos ⟨(Y1g s).rightQ h1 h4,hp⟩,hl,J2z,e1,if_pos rfl]
end Go.Pv
end
section
/-The inverse for sure:the numbers by which it is widened are not below nought;matrices that are filled. No program in it. -/
namespace Go.Pv
theorem q2a {X:List (List Nm)} {e:Nm} {p:Int} (hp:Z0b p=true) (r1:0≤qN e) (he1:qN e<1) (h:(radQ X e p).2=0):0≤qN (radQ X e p).1∧Q0i (radQ X e p).1=true:=by
 obtain⟨d1,d2,d3,d4⟩:=k1y h
 have hpp:=J1u hp
 obtain⟨n1,n2,n3,n4,n5⟩:=j0i d2
 have v1:=V0q d1
 have v3:=V0q d3
 have g3:=K0x (exV 2 (ofN (X0a (ofM X) p).1) (ofN e)) p.toNat
 rw [Z1d,exQ2,X0l,X0l,←v3] at g3
 have rd:=Z0g 1 oneN e p false
 have rq:=Z0g 2 (X0a (ofM X) p).1 e p true
 have g0:0≤qN (Q0p 1 oneN e p false).1:=by
  have:=J1d (v:=exV 1 (ofN oneN) (ofN e)) (p:=p.toNat) (up:=false) hpp (by rw [Z1d,exQ1,X0l,X0l,x0m];grind)
  rw [v1];exact this
 have hdn:=K1f rd g0
 rw [d4] at h⊢
 refine⟨?_,W1w _ _ _ _⟩
 have hqu:=G1t rq rd hpp hdn h
 have hpos:0<qN (Q0p 1 oneN e p false).1:=by
  refine Classical.byContradiction fun hne=> ?_
  have hz:qN (Q0p 1 oneN e p false).1=0:=by grind
  have hdef:(Q0p 1 oneN e p false).1=default:=J1g rd J0e (by rw [hz,W1x])
  rw [hdef] at h
  unfold W0w at h
  rw [if_pos (show(default:Nm).w= [] from rfl)] at h
  exact absurd h (by decide)
 have hn0:0≤qN (X0a (ofM X) p).1*qN e:=Rat.mul_nonneg n3 r1
 refine Classical.byContradiction fun hne=> ?_
 have hlt:0< -qN (W0w (Q0p 2 (X0a (ofM X) p).1 e p true).1 (Q0p 1 oneN e p false).1 p true).1:=by grind
 have:=Rat.mul_pos hlt hpos
 grind
theorem q1r {y q:Nm} {p:Int} (hq:0≤qN q) (h1:(Q0p 1 y q p false).2=0) (h2:(Q0p 0 y q p true).2=0):Q0v ⟨(Q0p 1 y q p false).1,(Q0p 0 y q p true).1⟩=true:=by
 have hs:(X0z y q p).2=0:=by unfold X0z;rw [if_neg (by rw [h1,h2];simp)]
 have hm:=(X1t (X:=qN y) hs ⟨by grind,by grind⟩).1
 have he:(X0z y q p).1=⟨(Q0p 1 y q p false).1,(Q0p 0 y q p true).1⟩:=by unfold X0z;rw [if_neg (by rw [h1,h2];simp)]
 rw [he] at hm
 exact G1l (Z0g _ _ _ _ _) (Z0g _ _ _ _ _) (Rat.le_trans hm.1 hm.2)
def Y0m (G:Nat→Nat→Ivl×Int) (n:Nat):Mx:=(List.range n).map fun i=>(List.range n).map fun j=>(G i j).1
theorem H1s {G:Nat→Nat→Ivl×Int} {n:Nat} (h: ∀i j,i<n→j<n→(G i j).2=0):V0j G n=(Y0m G n,0):=by
 have h0:=W2b h
 obtain⟨f1,f2⟩:=U0k h0
 refine Prod.ext ?_ h0
 show(V0j G n).1=Y0m G n
 refine List.ext_getElem (by rw [f1];simp [Y0m]) fun i h1 h2=> ?_
 have hi:i<n:=by rw [f1] at h1;exact h1
 have e1:(V0j G n).1[i]=(V0j G n).1.getD i []:=by rw [List.getD_eq_getElem?_getD,List.getElem?_eq_getElem h1];rfl
 have e2:(Y0m G n)[i]=(List.range n).map fun j=>(G i j).1:=by simp [Y0m]
 rw [e1,e2]
 refine List.ext_getElem (by rw [(f2 i hi).1];simp) fun j h3 h4=> ?_
 have hj:j<n:=by rw [(f2 i hi).1] at h3;exact h3
 have e3:=((f2 i hi).2 j hj).2
 unfold atM at e3
 rw [List.getD_eq_getElem?_getD,List.getElem?_eq_getElem h3,Option.getD_some] at e3
 rw [e3,List.getElem_map,List.getElem_range]
theorem y1r {G:Nat→Nat→Ivl×Int} {n i j:Nat} {e:Int} (he:e≠0) (hG: ∀i j,(G i j).2=0∨(G i j).2=e) (hi:i<n) (hj:j<n) (h:(G i j).2=e):V0j G n=([],e):=by
 have hne:(V0j G n).2≠0:=fun h0=>by
  have:=((U0k h0).2 i hi).2 j hj
  rw [this.1] at h
  exact he h.symm
 have key: ∀ {β:Type} (F:Nat→β×Int) (k i:Nat) (acc:List β),(∀j,(F j).2=0∨(F j).2=e)→(tabF F i k acc).2=0∨tabF F i k acc=([],e):=by
  intro β F k
  induction k with
  | zero=>intro i acc _;exact .inl rfl
  | succ k ih=>
   intro i acc hF
   unfold tabF
   split
   · rename_i hc
     exact .inr (by rw [(hF i).resolve_left hc])
   · exact ih _ _ hF
 refine(key _ _ _ _ fun j=> ?_).resolve_left hne
 rcases key (fun j'=>G j j') n 0 [] (hG j) with h | h
 · exact .inl h
 · exact .inr (by rw [h])
end Go.Pv
end
