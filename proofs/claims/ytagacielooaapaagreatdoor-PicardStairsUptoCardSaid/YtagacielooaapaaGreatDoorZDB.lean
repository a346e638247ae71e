/- Parts of the walk: M68, M69, M70, M71, M72. -/
import Derived.Test.YtagacielooaapaaGreatDoorZCG
import Derived.Test.YtagacielooaapaaGreatDoorZBM
import Derived.Test.YtagacielooaapaaGreatDoorZAR
import Derived.Test.YtagacielooaapaaGreatDoorZDA
set_option linter.unusedVariables false
set_option linter.unusedSimpArgs false
section
/-Series of rational numbers:the coefficients reckoned with intervals have those reckoned exactly. No program in it. -/
namespace Go.Pv
theorem v0q (c:Rat) (g:Nat→Rat): ∀n,sumR (fun i=>c*g i) n=c*sumR g n
 | 0=>by rw [sumR,sumR];grind
 | n+1=>by rw [sumR,sumR,v0q c g n];grind
def v0a (a b:Nat→Rat) (k:Nat):Rat:=sumR (fun i=>a i*b (k-i)) (k+1)
def powR (s x:Nat→Rat):Nat→Nat→Rat
 | 0=>s
 | n+1=>fun j=>v0a (powR s x n) x j
def monR (c:Rat) (ks:List Int) (xs:Nat→Nat→Rat):Nat→Nat→Rat
 | 0=>fun j=>if j=0 then c else 0
 | i+1=>powR (monR c ks xs i) (xs i) (ks.getD i 0).toNat
def polR (q:List Mn) (n:Nat) (xs:Nat→Nat→Rat) (k:Nat):Nat→Rat
 | 0=>0
 | i+1=>polR q n xs k i+monR (qN (q.getD i default).c) (q.getD i default).ks xs n k
def memL (k:Nat) (a:Nat→Rat) (l:List Ivl):Prop:= ∀j,j≤k→memI (a j) (l.getD j default)
def memX (k:Nat) (c:Nat→Nat→Rat) (xs:List (List Ivl)):Prop:= ∀i,i<xs.length→memL k (c i) (xs.getD i [])
def serR (f:List (List Mn)) (c:Nat→Nat→Rat) (K:Nat):Prop:= ∀k,k<K→ ∀i,i<f.length→c i (k+1)*((k+1:Nat):Rat)=polR (f.getD i []) f.length c k (f.getD i []).length
def valR (c:Nat→Rat) (t:Rat):Nat→Rat
 | 0=>c 0
 | k+1=>valR c t k+c (k+1)*t^(k+1)
def horR (c:Nat→Rat) (t:Rat) (n:Nat):Nat→Rat
 | 0=>c n
 | i+1=>horR c t n i*t+c (n-1-i)
end Go.Pv
end
section
/-Derivatives of products and polynomials,exactly:each by its factorial is a coefficient of a series;how far down and up they go. No program in it. -/
namespace Go.Pv
def binN (k:Nat):Nat→Nat
 | 0=>1
 | i+1=>binN k i*(k-i)/(i+1)
def fctN :Nat→Nat
 | 0=>1
 | n+1=>(n+1)*fctN n
theorem G3k : ∀k,k<12→ ∀i,i≤k→binN k i*(fctN i*fctN (k-i))=fctN k:=by decide+kernel
theorem X2j : ∀k,k<12→ ∀i,i≤k→binN k i≤512:=by decide+kernel
def v1x (a b:Nat→Rat) (k:Nat):Rat:=sumR (fun i=>(binN k i:Rat)*(a i*b (k-i))) (k+1)
def powL (s x:Nat→Rat):Nat→Nat→Rat
 | 0=>s
 | n+1=>fun j=>v1x (powL s x n) x j
def monL (c:Rat) (ks:List Int) (xs:Nat→Nat→Rat):Nat→Nat→Rat
 | 0=>fun j=>if j=0 then c else 0
 | i+1=>powL (monL c ks xs i) (xs i) (ks.getD i 0).toNat
def polL (q:List Mn) (n:Nat) (xs:Nat→Nat→Rat) (k:Nat):Nat→Rat
 | 0=>0
 | i+1=>polL q n xs k i+monL (qN (q.getD i default).c) (q.getD i default).ks xs n k
def facs (k:Nat) (a α:Nat→Rat):Prop:= ∀j,j≤k→a j=(fctN j:Rat)*α j
theorem H2e {a b α β:Nat→Rat} {k:Nat} (hk:k<12) (ha:facs k a α) (hb:facs k b β):v1x a b k=(fctN k:Rat)*v0a α β k:=by
 unfold v1x v0a
 rw [←v0q]
 refine K0w fun i hi=> ?_
 rw [ha i (by omega),hb (k-i) (by omega),←G3k k hk i (by omega)]
 simp only [Rat.natCast_mul]
 grind
theorem facs.low {k j:Nat} {a α:Nat→Rat} (h:facs k a α) (hj:j≤k):facs j a α:=fun i hi=>h i (by omega)
theorem Q2i {s σ x ξ:Nat→Rat} {k:Nat} (hk:k<12) (hs:facs k s σ) (hx:facs k x ξ): ∀n,facs k (powL s x n) (powR σ ξ n)
 | 0=>hs
 | n+1=>fun j hj=>H2e (by omega) ((Q2i hk hs hx n).low hj) (hx.low hj)
theorem Z2h {c:Rat} {ks:List Int} {xs ξ:Nat→Nat→Rat} {k n:Nat} (hk:k<12) (hx: ∀i,i<n→facs k (xs i) (ξ i)): ∀i,i≤n→facs k (monL c ks xs i) (monR c ks ξ i)
 | 0,_=>fun j hj=>by
  show(if j=0 then c else 0)=_*(if j=0 then c else 0)
  split
  · rename_i e;subst e
    show c=((1:Nat):Rat)*c
    grind
  · grind
 | i+1,hi=>Q2i hk (Z2h hk hx i (by omega)) (hx i (by omega)) _
theorem Q2o {q:List Mn} {xs ξ:Nat→Nat→Rat} {k n:Nat} (hk:k<12) (hx: ∀i,i<n→facs k (xs i) (ξ i)): ∀i,polL q n xs k i=(fctN k:Rat)*polR q n ξ k i
 | 0=>by simp only [polL,polR];grind
 | i+1=>by
  rw [polL,polR,Q2o hk hx i,Z2h hk hx n (Nat.le_refl _) k (Nat.le_refl _)]
  grind
def derR (f:List (List Mn)) (D:Nat→Nat→Rat) (K:Nat):Prop:= ∀k,k<K→ ∀i,i<f.length→D i (k+1)=polL (f.getD i []) f.length D k (f.getD i []).length
theorem w1l : ∀k,0<fctN k
 | 0=>by decide
 | k+1=>Nat.mul_pos (by omega) (w1l k)
theorem j1a (k:Nat):(fctN k:Rat)≠0:=by
 have:=w1l k
 intro e
 have:fctN k=0:=by exact_mod_cast e
 omega
def z0c (D:Nat→Nat→Rat):Nat→Nat→Rat:=fun i k=>D i k/(fctN k:Rat)
theorem J2o (D:Nat→Nat→Rat) (i k:Nat):facs k (D i) (z0c D i):=fun j _=>by
 have:=j1a j
 unfold z0c
 grind
theorem U3q {f:List (List Mn)} {D:Nat→Nat→Rat} {K:Nat} (hK:K≤12) (h:derR f D K):serR f (z0c D) K:=fun k hk i hi=>by
 have e:=h k hk i hi
 rw [Q2o (ξ:=z0c D) (by omega) (fun i _=>J2o D i k)] at e
 have n1:=j1a k
 have n2:=j1a (k+1)
 have n3:(fctN (k+1):Rat)=((k+1:Nat):Rat)*(fctN k:Rat):=by
  show(((k+1)*fctN k:Nat):Rat)=_
  rw [Rat.natCast_mul]
 unfold z0c
 unfold z0c at e
 rw [e,n3]
 rw [n3] at n2
 generalize polR _ _ _ _ _=P
 generalize (fctN k:Rat)=F at*
 generalize ((k+1:Nat):Rat)=N at*
 grind
/-How far down and up. -/
def grQ (a u s r k:Nat) (g:Nat→Rat):Prop:= ∀j,j≤k→luQ (a*j+s) (u*j+r) (g j)
theorem grQ.low {a u s r k j:Nat} {g:Nat→Rat} (h:grQ a u s r k g) (hj:j≤k):grQ a u s r j g:=fun i hi=>h i (by omega)
theorem U0x {m n:Nat} (h:m≤2^n):luQ 0 n (m:Rat):=by
 have:=G2s (z:=(m:Int)) (n:=n) (by simp;omega) 0
 have e:qM (m:Int) 0=(m:Rat):=by
  unfold qM;rw [p2_zero,Rat.mul_one];rfl
 rw [e] at this
 exact this
theorem U1o {L U:Nat} {g:Nat→Rat} : ∀n,(∀i,i<n→luQ L U (g i))→luQ L (U+n) (sumR g n)
 | 0,_=>G0t _ _
 | n+1,h=>x0a (U1o n fun i hi=>h i (by omega)) ((h n (by omega)).up (U':=U+n) (by omega))
theorem x1f {a u s r s' r' k i:Nat} {g h:Nat→Rat} (hk:k<12) (hg:grQ a u s r k g) (hh:grQ a u s' r' k h) (hi:i≤k):luQ (a*k+(s+s')) (u*k+(r+r'+9)) ((binN k i:Rat)*(g i*h (k-i))):=by
 have h1:=U0x (n:=9) (X2j k hk i hi)
 have h2:=W0r h1 (W0r (hg i hi) (hh (k-i) (by omega)))
 have e1:a*i+a*(k-i)=a*k:=by rw [←Nat.mul_add];congr 1;omega
 have e2:u*i+u*(k-i)=u*k:=by rw [←Nat.mul_add];congr 1;omega
 exact h2.mono (by omega) (by omega)
theorem H2d {a u s r s' r' k:Nat} {g h:Nat→Rat} (hk:k<12) (hg:grQ a u s r k g) (hh:grQ a u s' r' k h): ∀n,n≤k+1→luQ (a*k+(s+s')) (u*k+(r+r'+21)) (sumR (fun i=>(binN k i:Rat)*(g i*h (k-i))) n):=fun n hn=>
 (U1o n fun i hi=>x1f hk hg hh (by omega)).up (by omega)
theorem v1e {a u s r s1 r1 k:Nat} {g x:Nat→Rat} (hk:k<12) (hg:grQ a u s r k g) (hx:grQ a u s1 r1 k x): ∀n,grQ a u (s+n*s1) (r+n*(r1+21)) k (powL g x n)
 | 0=>by rw [Nat.zero_mul,Nat.zero_mul];exact hg
 | n+1=>fun j hj=>by
  have:=H2d (by omega) ((v1e hk hg hx n).low hj) (hx.low hj) (j+1) (Nat.le_refl _)
  have q1:(n+1)*s1=n*s1+s1:=Nat.succ_mul _ _
  have q2:(n+1)*(r1+21)=n*(r1+21)+(r1+21):=Nat.succ_mul _ _
  rw [q1,q2]
  exact this.mono (by omega) (by omega)
def sumE (ks:List Int):Nat→Nat
 | 0=>0
 | i+1=>sumE ks i+(ks.getD i 0).toNat
theorem v1s {a u Lc Uc s1 r1 k n:Nat} {c:Rat} {ks:List Int} {xs:Nat→Nat→Rat} (hk:k<12) (hc:luQ Lc Uc c) (hx: ∀i,i<n→grQ a u s1 r1 k (xs i)): ∀i,i≤n→grQ a u (Lc+sumE ks i*s1) (Uc+sumE ks i*(r1+21)) k (monL c ks xs i)
 | 0,_=>fun j hj=>by
  show luQ _ _ (if j=0 then c else 0)
  split
  · exact hc.mono (by omega) (by omega)
  · exact G0t _ _
 | i+1,hi=>fun j hj=>by
  have:=v1e hk (v1s (ks:=ks) hk hc hx i (by omega)) (hx i (by omega)) (ks.getD i 0).toNat j hj
  show luQ _ _ (powL (monL c ks xs i) (xs i) (ks.getD i 0).toNat j)
  rw [show sumE ks (i+1)=sumE ks i+(ks.getD i 0).toNat from rfl,Nat.add_mul,Nat.add_mul,←Nat.add_assoc Lc,←Nat.add_assoc Uc]
  exact this
theorem G1e {a u Lc Uc s1 r1 k n D:Nat} {q:List Mn} {xs:Nat→Nat→Rat} (hk:k<12) (hq: ∀i,i<q.length→luQ Lc Uc (qN (q.getD i default).c)∧sumE (q.getD i default).ks n≤D) (hx: ∀i,i<n→grQ a u s1 r1 k (xs i)):
 ∀i,i≤q.length→luQ (a*k+(Lc+D*s1)) (u*k+(Uc+D*(r1+21))+i) (polL q n xs k i)
 | 0,_=>G0t _ _
 | i+1,hi=>by
  obtain⟨q1,q2⟩:=hq i (by omega)
  have h1:=G1e hk hq hx i (by omega)
  have h2:=v1s (ks:=(q.getD i default).ks) hk q1 hx n (Nat.le_refl _) k (Nat.le_refl _)
  have m1:sumE (q.getD i default).ks n*s1≤D*s1:=Nat.mul_le_mul_right _ q2
  have m2:sumE (q.getD i default).ks n*(r1+21)≤D*(r1+21):=Nat.mul_le_mul_right _ q2
  exact x0a h1 (h2.mono (L':=a*k+(Lc+D*s1)) (U':=u*k+(Uc+D*(r1+21))+i) (by omega) (by omega))
theorem X2a {a u Lc Uc s1 r1 K D M:Nat} {f:List (List Mn)} {X:Nat→Nat→Rat} (hK:K<12) (hX:derR f X K) (hM: ∀i,i<f.length→(f.getD i []).length≤M)
 (hq: ∀i,i<f.length→ ∀j,j<(f.getD i []).length→luQ Lc Uc (qN ((f.getD i []).getD j default).c)∧sumE ((f.getD i []).getD j default).ks f.length≤D) (h0: ∀i,i<f.length→luQ s1 r1 (X i 0))
 (ha:Lc+D*s1≤a+s1) (hu:Uc+D*(r1+21)+M≤u+r1): ∀k,k≤K→ ∀i,i<f.length→grQ a u s1 r1 k (X i)
 | 0,_,i,hi=>fun j hj=>by
  obtain rfl:j=0:=by omega
  exact(h0 i hi).mono (by omega) (by omega)
 | k+1,hk,i,hi=>fun j hj=>by
  by_cases hjk:j≤k
  · exact X2a hK hX hM hq h0 ha hu k (by omega) i hi j hjk
  · obtain rfl:j=k+1:=by omega
    rw [hX k (by omega) i hi]
    have hp:=G1e (by omega) (hq i hi) (fun i hi=>X2a hK hX hM hq h0 ha hu k (by omega) i hi) _ (Nat.le_refl _)
    have:=hM i hi
    have e1:a*(k+1)=a*k+a:=Nat.mul_succ _ _
    have e2:u*(k+1)=u*k+u:=Nat.mul_succ _ _
    exact hp.mono (by omega) (by omega)
end Go.Pv
end
section
/-Values of one form that stand for a number;lists of them. No program in it. -/
namespace Go.Pv
def RV (x:Rat) (v:Vl):Prop:=canV v∧qV v=x
theorem RV.zero :RV 0 ⟨false,0,0⟩:=⟨.inr rfl,by decide+kernel⟩
theorem RV.plus {x y:Rat} {u v:Vl} (h:RV x u) (h':RV y v):RV (x+y) (K0o u v):=⟨Y0l h.1 h'.1,by rw [J0n,h.2,h'.2]⟩
theorem RV.by {x y:Rat} {u v:Vl} (h:RV x u) (h':RV y v):RV (x*y) (byV u v):=⟨v0c h.1 h'.1,by rw [Y0t,h.2,h'.2]⟩
theorem RV.whole (n:Nat):RV (n:Rat) (oddV false n 0):=⟨Y0y _ _ _,X1b n⟩
theorem RV.num {x:Nm} (h:Q0g x=true):RV (qN x) (ofN x):=⟨X0g h,Q0p x⟩
theorem RV.same {x y:Rat} {v:Vl} (h:RV x v) (e:x=y):RV y v:=e▸h
theorem RV.sm {x:Rat} {v:Vl} (h:RV x v) {L U:Nat} (hl:luQ L U x) (hb:L+U≤1000000):smV v:=by
 rw [←h.2] at hl
 have:=Z2l h.1 hl
 exact⟨by have:=this.1;omega,by have:=this.2.1;omega,by have:=this.2.2;omega⟩
def RL (k:Nat) (g:Nat→Rat) (l:List Vl):Prop:=l.length=k+1∧ ∀j,j≤k→RV (g j) (l.getD j default)
theorem RL.snoc {k:Nat} {g:Nat→Rat} {l:List Vl} {v:Vl} (h:RL k g l) (hv:RV (g (k+1)) v):RL (k+1) g (l++ [v]):=by
 refine⟨by rw [List.length_append,h.1];rfl,fun j hj=> ?_⟩
 by_cases e:j≤k
 · rw [Q0s _ _ _ _ (by have:=h.1;omega)];exact h.2 j e
 · obtain rfl:j=k+1:=by omega
   rw [Q0z _ _ _ _ (by have:=h.1;omega),h.1,Nat.sub_self];exact hv
def shN (k:Nat):Nat→Nat
 | 0=>1
 | m+1=>shN k m*(k+m+1)
theorem x3d : ∀K,K<12→ ∀k,k≤K→ ∀m,m≤K-k→shN k m≤2^40:=by decide+kernel
theorem Z3x : ∀K,K<12→ ∀k,k≤K→shN k (K-k)*fctN k=fctN K:=by decide+kernel
def atT (g:Nat→Rat) (t:Rat) (K:Nat):Nat→Rat:=fun k=>(g k*t^k)*(shN k (K-k):Rat)
theorem x2d {g:Nat→Rat} {t:Rat} {K:Nat} (hK:K<12): ∀n,n≤K→sumR (atT g t K) (n+1)=(fctN K:Rat)*valR (fun k=>g k/(fctN k:Rat)) t n
 | 0,_=>by
  have e:=Z3x K hK 0 (by omega)
  have n0:=j1a 0
  rw [sumR,sumR,atT,valR,←e]
  simp only [Rat.natCast_mul]
  have:t^0=1:=by grind
  rw [this]
  generalize (fctN 0:Rat)=F at*
  grind
 | n+1,hn=>by
  have e:=Z3x K hK (n+1) hn
  have n0:=j1a (n+1)
  rw [sumR,x2d hK n (by omega),atT,valR,←e]
  simp only [Rat.natCast_mul]
  generalize (fctN (n+1):Rat)=F at*
  generalize t^(n+1)=T
  grind
theorem G1s {L U:Nat} {t:Rat} (h:luQ L U t): ∀k,luQ (L*k) (U*k) (t^k)
 | 0=>by
  have:=U0x (m:=1) (n:=0) (by decide)
  rw [show t^0=((1:Nat):Rat) by grind]
  exact this
 | k+1=>by
  rw [Rat.pow_succ,Nat.mul_succ,Nat.mul_succ]
  exact W0r (G1s h k) h
theorem x2c {a u s r L U K k:Nat} {g:Nat→Rat} {t:Rat} (hK:K<12) (hg:grQ a u s r K g) (ht:luQ L U t) (hk:k≤K):luQ (a*K+s+L*K) (u*K+r+U*K+40) (atT g t K k)∧luQ (a*K+s+L*K) (u*K+r+U*K) (g k*t^k):=by
 have m1:a*k≤a*K:=Nat.mul_le_mul_left _ hk
 have m2:u*k≤u*K:=Nat.mul_le_mul_left _ hk
 have m3:L*k≤L*K:=Nat.mul_le_mul_left _ hk
 have m4:U*k≤U*K:=Nat.mul_le_mul_left _ hk
 have h1:=W0r (hg k hk) (G1s ht k)
 exact⟨(W0r h1 (U0x (n:=40) (x3d K hK k hk (K-k) (Nat.le_refl _)))).mono (by omega) (by omega),h1.mono (by omega) (by omega)⟩
end Go.Pv
end
section
/-Derivatives depend on what stands ahead alone;a value of one form is one. No program in it. -/
namespace Go.Pv
theorem RV.uniq {x:Rat} {v w:Vl} (h:RV x v) (h':RV x w):v=w:=j0f h.1 h'.1 (by rw [h.2,h'.2])
theorem RV.ex {L U:Nat} {x:Rat} (h:luQ L U x): ∃v,RV x v:=by
 obtain⟨z,e,_⟩:=h
 exact⟨mkV z (-(L:Int)),z2m _ _,by rw [Y2y,e]⟩
theorem v1w {a a' b b':Nat→Rat} {k:Nat} (ha: ∀j,j≤k→a j=a' j) (hb: ∀j,j≤k→b j=b' j):v1x a b k=v1x a' b' k:=
 K0w fun i hi=>by rw [ha i (by omega),hb (k-i) (by omega)]
theorem W1s {s s' x x':Nat→Rat} {k:Nat} (hs: ∀j,j≤k→s j=s' j) (hx: ∀j,j≤k→x j=x' j): ∀n,∀j,j≤k→powL s x n j=powL s' x' n j
 | 0=>hs
 | n+1=>fun j hj=>v1w (fun i hi=>W1s hs hx n i (by omega)) (fun i hi=>hx i (by omega))
theorem Y1a {c:Rat} {ks:List Int} {X Y:Nat→Nat→Rat} {k n:Nat} (h: ∀i,i<n→ ∀j,j≤k→X i j=Y i j): ∀i,i≤n→ ∀j,j≤k→monL c ks X i j=monL c ks Y i j
 | 0,_=>fun _ _=>rfl
 | i+1,hi=>W1s (Y1a h i (by omega)) (h i (by omega)) _
theorem Q1e {q:List Mn} {X Y:Nat→Nat→Rat} {k n:Nat} (h: ∀i,i<n→ ∀j,j≤k→X i j=Y i j): ∀i,polL q n X k i=polL q n Y k i
 | 0=>rfl
 | i+1=>by rw [polL,polL,Q1e h i,Y1a h n (Nat.le_refl _) k (Nat.le_refl _)]
def x1b (X:Nat→Nat→Rat) (k:Nat) (g:Nat→Rat):Nat→Nat→Rat:=fun i j=>if j=k+1 then g i else X i j
theorem z0y (X:Nat→Nat→Rat) (k:Nat) (g:Nat→Rat) {i j:Nat} (h:j≤k):x1b X k g i j=X i j:=by unfold x1b;rw [if_neg (by omega)]
theorem G2j {f:List (List Mn)} {X:Nat→Nat→Rat} {k:Nat} (h:derR f X k):derR f (x1b X k fun i=>polL (f.getD i []) f.length X k (f.getD i []).length) (k+1):=fun j hj i hi=>by
 by_cases e:j=k
 · subst e
   rw [Q1e (Y:=X) fun i _ j hj=>z0y _ _ _ hj]
   unfold x1b
   rw [if_pos rfl]
 · rw [z0y _ _ _ (show j+1≤k by omega),h j (by omega) i hi,Q1e fun i _ m hm=>(z0y _ _ _ (show m≤k by omega)).symm]
theorem v2r {X:Nat→Nat→Rat} {k i:Nat} {g:Nat→Rat} {l:List Vl} {v:Vl} (h:RL k (X i) l) (hv:RV (g i) v):RL (k+1) (x1b X k g i) (l++ [v]):=by
 have h':RL k (x1b X k g i) l:=⟨h.1,fun j hj=>by rw [z0y _ _ _ hj];exact h.2 j hj⟩
 refine h'.snoc ?_
 unfold x1b
 rw [if_pos rfl]
 exact hv
end Go.Pv
end
section
/-Drawn fields:what their derivatives need. No program in it. -/
namespace Go.Pv
theorem Z3v {ks:List Int} (h:K0a ks=true): ∀i,i≤ks.length→(sumE ks i:Int)=(ks.take i).sum
 | 0,_=>by simp [sumE]
 | i+1,hi=>by
  have ih:=Z3v h i (by omega)
  have hk:=V0b h i (by omega)
  have e:(ks.take (i+1)).sum=(ks.take i).sum+ks.getD i 0:=by
   rw [List.take_succ_eq_append_getElem (by omega),List.sum_append]
   simp [List.getD_eq_getElem?_getD,(show i<ks.length by omega)]
  rw [e,←ih,sumE]
  omega
theorem okField.der {n M:Nat} {D:Nat} {f:List (List Mn)} (h:okField n M D f): ∀i,i<f.length→ ∀j,j<(f.getD i []).length→Q0g ((f.getD i []).getD j default).c=true∧luQ 12 (18+M) (qN ((f.getD i []).getD j default).c)∧K0a ((f.getD i []).getD j default).ks=true∧((f.getD i []).getD j default).ks.length=f.length∧sumE ((f.getD i []).getD j default).ks f.length≤D:=fun i hi j hj=>by
 obtain⟨a1,a2,a3,a4,a5,a6⟩:=(h.at hi).at hj
 have hfl:=h.1
 refine⟨a4,a6,a2,by omega,?_⟩
 have h1:=Z3v a2 f.length (by omega)
 rw [List.take_of_length_le (by omega)] at h1
 omega
theorem y2o (k:Nat):(0:Rat)<(fctN k:Rat):=by
 have:=w1l k
 exact_mod_cast this
theorem J2n (X:Nat→Nat→Rat) (i:Nat):z0c X i 0=X i 0:=by
 unfold z0c
 show X i 0/((1:Nat):Rat)=X i 0
 grind
end Go.Pv
end
