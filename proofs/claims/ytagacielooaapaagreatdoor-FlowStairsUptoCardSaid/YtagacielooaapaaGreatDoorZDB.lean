/- Parts of the walk: M68, M69, M70, M71. -/
import Derived.Test.YtagacielooaapaaGreatDoorZCG
import Derived.Test.YtagacielooaapaaGreatDoorZBM
import Derived.Test.YtagacielooaapaaGreatDoorZAR
import Derived.Test.YtagacielooaapaaGreatDoorZDA
set_option linter.unusedVariables false
set_option linter.unusedSimpArgs false
section
/-Series of rational numbers:the coefficients reckoned with intervals have those reckoned exactly. No program in it. -/
namespace Go.Pv
theorem G1p (c:Rat) (g:Nat→Rat): ∀n,sumR (fun i=>c*g i) n=c*sumR g n
 | 0=>by rw [sumR,sumR];grind
 | n+1=>by rw [sumR,sumR,G1p c g n];grind
def K2o (a b:Nat→Rat) (k:Nat):Rat:=sumR (fun i=>a i*b (k-i)) (k+1)
def powR (s x:Nat→Rat):Nat→Nat→Rat
 | 0=>s
 | n+1=>fun j=>K2o (powR s x n) x j
def monR (c:Rat) (ks:List Int) (xs:Nat→Nat→Rat):Nat→Nat→Rat
 | 0=>fun j=>if j=0 then c else 0
 | i+1=>powR (monR c ks xs i) (xs i) (ks.getD i 0).toNat
def polR (q:List Mn) (n:Nat) (xs:Nat→Nat→Rat) (k:Nat):Nat→Rat
 | 0=>0
 | i+1=>polR q n xs k i+monR (qN (q.getD i default).c) (q.getD i default).ks xs n k
def memL (k:Nat) (a:Nat→Rat) (l:List Ivl):Prop:= ∀j,j≤k→memI (a j) (l.getD j default)
theorem x1d {p:Int} (g h:Nat→Rat) (a b:Nat→Ivl): ∀(n m:Nat) (sm:Bool) (s:Ivl) (S:Rat),(∀i,m≤i→i<m+n→memI (g i) (a i)∧memI (h i) (b i))→memI S s→(sm=false→S=0)→
 (j0b p ((List.range' m n).map fun i=>(a i,b i)) sm s).2=0→memI (S+(sumR (fun i=>g i*h i) (m+n)-sumR (fun i=>g i*h i) m)) (j0b p ((List.range' m n).map fun i=>(a i,b i)) sm s).1
 | 0,m,sm,s,S,_,h0,_,_=>by
  have e:S+(sumR (fun i=>g i*h i) (m+0)-sumR (fun i=>g i*h i) m)=S:=by rw [Nat.add_zero];grind
  rw [e];exact h0
 | n+1,m,sm,s,S,hs,h0,hz,hh=>by
  obtain⟨x1,x2⟩:=hs m (by omega) (by omega)
  have ih:=fun sm s S=>x1d (p:=p) g h a b n (m+1) sm s S (fun i h1 h2=>hs i (by omega) (by omega))
  rw [show m+(n+1)=m+1+n by omega]
  rw [List.range'_succ,List.map_cons] at hh⊢
  rw [x0t] at hh⊢
  have es:sumR (fun i=>g i*h i) (m+1)=sumR (fun i=>g i*h i) m+g m*h m:=rfl
  by_cases c:(opI 2 (a m) (b m) p).2=0
  · rw [if_pos c] at hh⊢
    have h2:memI (g m*h m) (opI 2 (a m) (b m) p).1:=J1a 2 c x1 x2
    cases sm with
    | false=>
     rw [if_neg (by decide)] at hh⊢
     have r:=ih true _ _ h2 (fun e=>by cases e) hh
     rw [hz rfl]
     rw [es] at r
     rw [show(0:Rat)+(sumR (fun i=>g i*h i) (m+1+n)-sumR (fun i=>g i*h i) m)=g m*h m+(sumR (fun i=>g i*h i) (m+1+n)-(sumR (fun i=>g i*h i) m+g m*h m)) by grind]
     exact r
    | true=>
     rw [if_pos rfl] at hh⊢
     by_cases d:(opI 0 s (opI 2 (a m) (b m) p).1 p).2=0
     · rw [if_pos d] at hh⊢
       have h3:memI (S+g m*h m) (opI 0 s (opI 2 (a m) (b m) p).1 p).1:=J1a 0 d h0 h2
       have r:=ih true _ _ h3 (fun e=>by cases e) hh
       rw [es] at r
       rw [show S+(sumR (fun i=>g i*h i) (m+1+n)-sumR (fun i=>g i*h i) m)=S+g m*h m+(sumR (fun i=>g i*h i) (m+1+n)-(sumR (fun i=>g i*h i) m+g m*h m)) by grind]
       exact r
     · rw [if_neg d] at hh;exact absurd hh d
  · rw [if_neg c] at hh;exact absurd hh c
theorem J1c :memI 0 default:=by
 show qN default≤0∧0≤qN default
 have e:qN default=0:=by decide+kernel
 rw [e];exact⟨Rat.le_refl,Rat.le_refl⟩
theorem q2w {a b:List Ivl} {k:Nat} {p:Int} {g h:Nat→Rat} (hh:(W0e a b k p).2=0) (ha:memL k g a) (hb:memL k h b):memI (K2o g h k) (W0e a b k p).1:=by
 have n1:=K2p hh
 rw [n1] at hh⊢
 have e:z0i a b k=(List.range' 0 (k+1)).map fun i=>(a.getD i default,b.getD (k-i) default):=by
  unfold z0i;rw [List.range_eq_range']
 rw [e] at hh⊢
 have r:=x1d (p:=p) g (fun i=>h (k-i)) (fun i=>a.getD i default) (fun i=>b.getD (k-i) default) (k+1) 0 false default 0 (fun i _ hi=>⟨ha i (by omega),hb (k-i) (by omega)⟩) J1c (fun _=>rfl) hh
 unfold K2o
 rw [Nat.zero_add] at r
 rw [show(0:Rat)+(sumR (fun i=>g i*h (k-i)) (k+1)-sumR (fun i=>g i*h (k-i)) 0)=sumR (fun i=>g i*h (k-i)) (k+1) by simp only [show sumR (fun i=>g i*h (k-i)) 0=0 from rfl];grind] at r
 exact r
theorem Z2x {a b:List Ivl} {k:Nat} {p:Int} {g h:Nat→Rat} (hh:(G0g a b k p).2=0) (ha:memL k g a) (hb:memL k h b):memL k (fun j=>K2o g h j) (G0g a b k p).1:=by
 obtain⟨x1,x2,x3⟩:=K0v hh
 intro j hj
 show memI _ ((tabF (fun j=>W0e a b j p) 0 (k+1) []).1.getD j default)
 rw [x3 j (by omega)]
 exact q2w (x2 j (by omega)) (fun i hi=>ha i (by omega)) (fun i hi=>hb i (by omega))
theorem H1w {s x:List Ivl} {k:Nat} {p:Int} {g h:Nat→Rat} (hs:memL k g s) (hx:memL k h x): ∀n,(V0k s x k p n).2=0→memL k (powR g h n) (V0k s x k p n).1
 | 0,_=>hs
 | n+1,hh=>by
  rw [V0k] at hh⊢
  by_cases c:(V0k s x k p n).2=0
  · rw [if_neg (by rw [c];decide)] at hh⊢
    exact Z2x hh (H1w hs hx n c) hx
  · rw [if_pos c] at hh;exact absurd hh c
def memX (k:Nat) (c:Nat→Nat→Rat) (xs:List (List Ivl)):Prop:= ∀i,i<xs.length→memL k (c i) (xs.getD i [])
theorem H1u {m:Mn} {xs:List (List Ivl)} {k:Nat} {p:Int} {c:Nat→Nat→Rat} (hx:memX k c xs): ∀i,i≤xs.length→(J0e m xs k p i).2=0→memL k (monR (qN m.c) m.ks c i) (J0e m xs k p i).1
 | 0,_,_=>fun j hj=>by
  show memI _ ((numS m.c k).getD j default)
  unfold numS
  cases j with
  | zero=>exact⟨Rat.le_refl,Rat.le_refl⟩
  | succ j=>
   rw [show(⟨m.c,m.c⟩::List.replicate k (default:Ivl)).getD (j+1) default=default by simp [List.getD_eq_getElem?_getD,List.getElem?_replicate];split<;>rfl]
   exact J1c
 | i+1,hi,hh=>by
  rw [J0e] at hh⊢
  by_cases d:(J0e m xs k p i).2=0
  · rw [if_neg (by rw [d];decide)] at hh⊢
    exact H1w (H1u hx i (by omega) d) (hx i (by omega)) _ hh
  · rw [if_pos d] at hh;exact absurd hh d
theorem U2h {q:List Mn} {xs:List (List Ivl)} {k:Nat} {p:Int} {c:Nat→Nat→Rat} (hx:memX k c xs): ∀i,i≤q.length→(ofS q xs k p i).2=0→memI (polR q xs.length c k i) (ofS q xs k p i).1
 | 0,_,_=>J1c
 | i+1,hi,h=>by
  by_cases d:(ofS q xs k p i).2=0
  · have n1: ¬(ofS q xs k p i).2≠0:=fun x=>x d
    rw [ofS,if_neg n1] at h
    by_cases e:(J0e (q.getD i default) xs k p xs.length).2=0
    · have m1: ¬(J0e (q.getD i default) xs k p xs.length).2≠0:=fun x=>x e
      rw [if_neg m1] at h
      have e1:ofS q xs k p (i+1)=opI 0 (ofS q xs k p i).1 ((J0e (q.getD i default) xs k p xs.length).1.getD k default) p:=by rw [ofS,if_neg n1,if_neg m1]
      rw [e1]
      exact J1a 0 h (U2h hx i (by omega) d) (H1u hx xs.length (Nat.le_refl _) e k (Nat.le_refl _))
    · rw [if_pos e] at h;exact absurd h e
  · rw [ofS,if_pos d] at h;exact absurd h d
theorem K4v : ∀n,n<12→0<n→qN (ptW n)=(n:Rat):=by decide+kernel
theorem U2p {f:List (List Mn)} {xs:List (List Ivl)} {k:Nat} {p:Int} {i:Nat} {c:Nat→Nat→Rat} (hx:memX k c xs) (h:(H0i f xs k p i).2=0) {X:Rat} (hX:X*((k+1:Nat):Rat)=polR (f.getD i []) xs.length c k (f.getD i []).length):memI X (H0i f xs k p i).1:=by
 unfold H0i at h⊢
 by_cases d:(q0y (f.getD i []) xs k p).2=0
 · rw [if_neg (by rw [d];decide)] at h⊢
   obtain⟨v,e⟩:=X2o d
   have hk:k≤10:=by
    unfold K1z at v
    simp only [Bool.and_eq_true,decide_eq_true_eq] at v
    omega
   obtain⟨c1,c2,_⟩:=Z3m (k+1) (by omega) (by omega)
   refine y2f c1 c2 h ?_
   rw [K4v (k+1) (by omega) (by omega),hX]
   rw [e] at d⊢
   rw [Int.toNat_natCast] at*
   exact U2h hx _ (Nat.le_refl _) d
 · rw [if_pos d] at h;exact absurd h d
def serR (f:List (List Mn)) (c:Nat→Nat→Rat) (K:Nat):Prop:= ∀k,k<K→ ∀i,i<f.length→c i (k+1)*((k+1:Nat):Rat)=polR (f.getD i []) f.length c k (f.getD i []).length
theorem z1b {f:List (List Mn)} {x:List Ivl} {p:Int} {c:Nat→Nat→Rat} (hx:x.length=f.length) (wx: ∀a∈x,wI a) (hc: ∀i,i<f.length→memI (c i 0) (x.getD i default)):
 ∀k,serR f c k→(Z0r f x p k).2=0→memX k c (Z0r f x p k).1
 | 0,_,_=>by
  intro i hi j hj
  have hi':i<f.length:=by simpa [Z0r,hx] using hi
  obtain rfl:j=0:=by omega
  have e1:(Z0r f x p 0).1.getD i []= [x.getD i default]:=by simp [Z0r,List.getD_eq_getElem?_getD,(by omega:i<x.length)]
  rw [e1]
  exact hc i hi'
 | k+1,hR,h=>by
  by_cases d:(Z0r f x p k).2=0
  · have ih:=z1b hx wx hc k (fun j hj=>hR j (by omega)) d
    obtain⟨a1,a2⟩:=x0r hx wx k d
    rw [Z0r,if_neg (by rw [d];decide)] at h⊢
    by_cases e:(G1z f (Z0r f x p k).1 k p).2=0
    · rw [if_neg (by rw [e];decide)]
      obtain⟨g1,g2,g3⟩:=K0v e
      intro i hi
      have hi':i<f.length:=by rw [K0k,a1] at hi;omega
      show memL _ _ ((Y0e _ _ _).getD i [])
      rw [z0c _ _ i (by omega),if_pos hi']
      obtain⟨l1,_⟩:=a2 i (by omega)
      intro j hj
      by_cases hjk:j≤k
      · rw [Q0p _ _ _ _ (by omega)]
        exact ih i (by omega) j hjk
      · obtain rfl:j=k+1:=by omega
        rw [Q0s _ _ _ _ (by omega),l1,Nat.sub_self]
        show memI _ ((tabF (H0i f (Z0r f x p k).1 k p) 0 f.length []).1.getD i default)
        rw [g3 i hi']
        exact U2p ih (g2 i hi') (by rw [a1,hx];exact hR k (by omega) i hi')
    · rw [if_pos e] at h;exact absurd h e
  · rw [Z0r,if_pos d] at h;exact absurd h d
def valR (c:Nat→Rat) (t:Rat):Nat→Rat
 | 0=>c 0
 | k+1=>valR c t k+c (k+1)*t^(k+1)
def horR (c:Nat→Rat) (t:Rat) (n:Nat):Nat→Rat
 | 0=>c n
 | i+1=>horR c t n i*t+c (n-1-i)
theorem Q2i (c:Nat→Rat) (t:Rat): ∀n i,i≤n→horR c t n i*t^(n-i)+(if i=n then 0 else valR c t (n-i-1))=valR c t n
 | n,0,_=>by
  cases n with
  | zero=>simp only [horR,valR];grind
  | succ n=>rw [if_neg (by omega)];simp only [horR,valR,Nat.sub_zero,Nat.add_sub_cancel];grind
 | n,i+1,hi=>by
  have ih:=Q2i c t n i (by omega)
  rw [if_neg (by omega)] at ih
  obtain⟨m,rfl⟩: ∃m,n=i+1+m:=⟨n-(i+1),by omega⟩
  rw [←ih,horR]
  have a1:i+1+m-i=m+1:=by omega
  have a2:i+1+m-i-1=m:=by omega
  have a3:i+1+m-1-i=m:=by omega
  have a4:i+1+m-(i+1)=m:=by omega
  rw [a2,a1,a3,a4]
  split
  · obtain rfl:m=0:=by omega
    simp only [valR];grind
  · cases m with
    | zero=>omega
    | succ m=>simp only [valR,Nat.add_sub_cancel];grind
theorem w1k {a:List Ivl} {h:Ivl} {p:Int} {c:Nat→Rat} {t:Rat} (ha:1≤a.length) (hc:memL (a.length-1) c a) (ht:memI t h): ∀i,i<a.length→(sumN a h p i).2=0→memI (horR c t (a.length-1) i) (sumN a h p i).1
 | 0,_,_=>hc _ (Nat.le_refl _)
 | i+1,hi,hh=>by
  by_cases d:(sumN a h p i).2=0
  · rw [sumN,if_neg (by rw [d];decide)] at hh
    by_cases e:(opI 2 (sumN a h p i).1 h p).2=0
    · rw [if_neg (by rw [e];decide)] at hh
      rw [sumN,if_neg (by rw [d];decide),if_neg (by rw [e];decide),horR,show a.length-1-1-i=a.length-2-i by omega]
      exact J1a 0 hh (J1a 2 e (w1k ha hc ht i (by omega) d) ht) (hc _ (by omega))
    · rw [if_pos e] at hh;exact absurd hh e
  · rw [sumN,if_pos d] at hh;exact absurd hh d
theorem X2m {a:List Ivl} {h:Ivl} {p:Int} {c:Nat→Rat} {t:Rat} (hc:memL (a.length-1) c a) (ht:memI t h) (hh:(Z0n a h p).2=0):memI (valR c t (a.length-1)) (Z0n a h p).1:=by
 unfold Z0n at hh⊢
 split
 · rename_i q
   rw [if_pos q] at hh
   have r:=w1k q.1 hc ht (a.length-1) (by have:=q.1;omega) hh
   have e:=Q2i c t (a.length-1) (a.length-1) (Nat.le_refl _)
   rw [if_pos rfl,Nat.sub_self] at e
   rw [←e]
   rw [show horR c t (a.length-1) (a.length-1)*t^0+0=horR c t (a.length-1) (a.length-1) by grind]
   exact r
 · rename_i q
   rw [if_neg q] at hh;cases hh
end Go.Pv
end
section
/-Derivatives of products and polynomials,exactly:each by its factorial is a coefficient of a series;how far down and up they go. No program in it. -/
namespace Go.Pv
def binN (k:Nat):Nat→Nat
 | 0=>1
 | i+1=>binN k i*(k-i)/(i+1)
def fctN :Nat→Nat
 | 0=>1
 | n+1=>(n+1)*fctN n
theorem U3m : ∀k,k<12→ ∀i,i≤k→binN k i*(fctN i*fctN (k-i))=fctN k:=by decide+kernel
theorem Z2d : ∀k,k<12→ ∀i,i≤k→binN k i≤512:=by decide+kernel
def k1p (a b:Nat→Rat) (k:Nat):Rat:=sumR (fun i=>(binN k i:Rat)*(a i*b (k-i))) (k+1)
def powL (s x:Nat→Rat):Nat→Nat→Rat
 | 0=>s
 | n+1=>fun j=>k1p (powL s x n) x j
def monL (c:Rat) (ks:List Int) (xs:Nat→Nat→Rat):Nat→Nat→Rat
 | 0=>fun j=>if j=0 then c else 0
 | i+1=>powL (monL c ks xs i) (xs i) (ks.getD i 0).toNat
def polL (q:List Mn) (n:Nat) (xs:Nat→Nat→Rat) (k:Nat):Nat→Rat
 | 0=>0
 | i+1=>polL q n xs k i+monL (qN (q.getD i default).c) (q.getD i default).ks xs n k
def facs (k:Nat) (a α:Nat→Rat):Prop:= ∀j,j≤k→a j=(fctN j:Rat)*α j
theorem G2p {a b α β:Nat→Rat} {k:Nat} (hk:k<12) (ha:facs k a α) (hb:facs k b β):k1p a b k=(fctN k:Rat)*K2o α β k:=by
 unfold k1p K2o
 rw [←G1p]
 refine w0p fun i hi=> ?_
 rw [ha i (by omega),hb (k-i) (by omega),←U3m k hk i (by omega)]
 simp only [Rat.natCast_mul]
 grind
theorem facs.low {k j:Nat} {a α:Nat→Rat} (h:facs k a α) (hj:j≤k):facs j a α:=fun i hi=>h i (by omega)
theorem y1c {s σ x ξ:Nat→Rat} {k:Nat} (hk:k<12) (hs:facs k s σ) (hx:facs k x ξ): ∀n,facs k (powL s x n) (powR σ ξ n)
 | 0=>hs
 | n+1=>fun j hj=>G2p (by omega) ((y1c hk hs hx n).low hj) (hx.low hj)
theorem Q2b {c:Rat} {ks:List Int} {xs ξ:Nat→Nat→Rat} {k n:Nat} (hk:k<12) (hx: ∀i,i<n→facs k (xs i) (ξ i)): ∀i,i≤n→facs k (monL c ks xs i) (monR c ks ξ i)
 | 0,_=>fun j hj=>by
  show(if j=0 then c else 0)=_*(if j=0 then c else 0)
  split
  · rename_i e;subst e
    show c=((1:Nat):Rat)*c
    grind
  · grind
 | i+1,hi=>y1c hk (Q2b hk hx i (by omega)) (hx i (by omega)) _
theorem y1h {q:List Mn} {xs ξ:Nat→Nat→Rat} {k n:Nat} (hk:k<12) (hx: ∀i,i<n→facs k (xs i) (ξ i)): ∀i,polL q n xs k i=(fctN k:Rat)*polR q n ξ k i
 | 0=>by simp only [polL,polR];grind
 | i+1=>by
  rw [polL,polR,y1h hk hx i,Q2b hk hx n (Nat.le_refl _) k (Nat.le_refl _)]
  grind
def derR (f:List (List Mn)) (D:Nat→Nat→Rat) (K:Nat):Prop:= ∀k,k<K→ ∀i,i<f.length→D i (k+1)=polL (f.getD i []) f.length D k (f.getD i []).length
theorem v1b : ∀k,0<fctN k
 | 0=>by decide
 | k+1=>Nat.mul_pos (by omega) (v1b k)
theorem z1m (k:Nat):(fctN k:Rat)≠0:=by
 have:=v1b k
 intro e
 have:fctN k=0:=by exact_mod_cast e
 omega
def j0d (D:Nat→Nat→Rat):Nat→Nat→Rat:=fun i k=>D i k/(fctN k:Rat)
theorem X2k (D:Nat→Nat→Rat) (i k:Nat):facs k (D i) (j0d D i):=fun j _=>by
 have:=z1m j
 unfold j0d
 grind
theorem Y3s {f:List (List Mn)} {D:Nat→Nat→Rat} {K:Nat} (hK:K≤12) (h:derR f D K):serR f (j0d D) K:=fun k hk i hi=>by
 have e:=h k hk i hi
 rw [y1h (ξ:=j0d D) (by omega) (fun i _=>X2k D i k)] at e
 have n1:=z1m k
 have n2:=z1m (k+1)
 have n3:(fctN (k+1):Rat)=((k+1:Nat):Rat)*(fctN k:Rat):=by
  show(((k+1)*fctN k:Nat):Rat)=_
  rw [Rat.natCast_mul]
 unfold j0d
 unfold j0d at e
 rw [e,n3]
 rw [n3] at n2
 generalize polR _ _ _ _ _=P
 generalize (fctN k:Rat)=F at*
 generalize ((k+1:Nat):Rat)=N at*
 grind
/-How far down and up. -/
def grQ (a u s r k:Nat) (g:Nat→Rat):Prop:= ∀j,j≤k→luQ (a*j+s) (u*j+r) (g j)
theorem grQ.low {a u s r k j:Nat} {g:Nat→Rat} (h:grQ a u s r k g) (hj:j≤k):grQ a u s r j g:=fun i hi=>h i (by omega)
theorem q0l {m n:Nat} (h:m≤2^n):luQ 0 n (m:Rat):=by
 have:=G2a (z:=(m:Int)) (n:=n) (by simp;omega) 0
 have e:qM (m:Int) 0=(m:Rat):=by
  unfold qM;rw [Y1x,Rat.mul_one];rfl
 rw [e] at this
 exact this
theorem Y1k {L U:Nat} {g:Nat→Rat} : ∀n,(∀i,i<n→luQ L U (g i))→luQ L (U+n) (sumR g n)
 | 0,_=>W0r _ _
 | n+1,h=>q0m (Y1k n fun i hi=>h i (by omega)) ((h n (by omega)).up (U':=U+n) (by omega))
theorem q1l {a u s r s' r' k i:Nat} {g h:Nat→Rat} (hk:k<12) (hg:grQ a u s r k g) (hh:grQ a u s' r' k h) (hi:i≤k):luQ (a*k+(s+s')) (u*k+(r+r'+9)) ((binN k i:Rat)*(g i*h (k-i))):=by
 have h1:=q0l (n:=9) (Z2d k hk i hi)
 have h2:=Y0h h1 (Y0h (hg i hi) (hh (k-i) (by omega)))
 have e1:a*i+a*(k-i)=a*k:=by rw [←Nat.mul_add];congr 1;omega
 have e2:u*i+u*(k-i)=u*k:=by rw [←Nat.mul_add];congr 1;omega
 exact h2.mono (by omega) (by omega)
theorem G2o {a u s r s' r' k:Nat} {g h:Nat→Rat} (hk:k<12) (hg:grQ a u s r k g) (hh:grQ a u s' r' k h): ∀n,n≤k+1→luQ (a*k+(s+s')) (u*k+(r+r'+21)) (sumR (fun i=>(binN k i:Rat)*(g i*h (k-i))) n):=fun n hn=>
 (Y1k n fun i hi=>q1l hk hg hh (by omega)).up (by omega)
theorem j1w {a u s r s1 r1 k:Nat} {g x:Nat→Rat} (hk:k<12) (hg:grQ a u s r k g) (hx:grQ a u s1 r1 k x): ∀n,grQ a u (s+n*s1) (r+n*(r1+21)) k (powL g x n)
 | 0=>by rw [Nat.zero_mul,Nat.zero_mul];exact hg
 | n+1=>fun j hj=>by
  have:=G2o (by omega) ((j1w hk hg hx n).low hj) (hx.low hj) (j+1) (Nat.le_refl _)
  have q1:(n+1)*s1=n*s1+s1:=Nat.succ_mul _ _
  have q2:(n+1)*(r1+21)=n*(r1+21)+(r1+21):=Nat.succ_mul _ _
  rw [q1,q2]
  exact this.mono (by omega) (by omega)
def sumE (ks:List Int):Nat→Nat
 | 0=>0
 | i+1=>sumE ks i+(ks.getD i 0).toNat
theorem k1j {a u Lc Uc s1 r1 k n:Nat} {c:Rat} {ks:List Int} {xs:Nat→Nat→Rat} (hk:k<12) (hc:luQ Lc Uc c) (hx: ∀i,i<n→grQ a u s1 r1 k (xs i)): ∀i,i≤n→grQ a u (Lc+sumE ks i*s1) (Uc+sumE ks i*(r1+21)) k (monL c ks xs i)
 | 0,_=>fun j hj=>by
  show luQ _ _ (if j=0 then c else 0)
  split
  · exact hc.mono (by omega) (by omega)
  · exact W0r _ _
 | i+1,hi=>fun j hj=>by
  have:=j1w hk (k1j (ks:=ks) hk hc hx i (by omega)) (hx i (by omega)) (ks.getD i 0).toNat j hj
  show luQ _ _ (powL (monL c ks xs i) (xs i) (ks.getD i 0).toNat j)
  rw [show sumE ks (i+1)=sumE ks i+(ks.getD i 0).toNat from rfl,Nat.add_mul,Nat.add_mul,←Nat.add_assoc Lc,←Nat.add_assoc Uc]
  exact this
theorem Y1u {a u Lc Uc s1 r1 k n D:Nat} {q:List Mn} {xs:Nat→Nat→Rat} (hk:k<12) (hq: ∀i,i<q.length→luQ Lc Uc (qN (q.getD i default).c)∧sumE (q.getD i default).ks n≤D) (hx: ∀i,i<n→grQ a u s1 r1 k (xs i)):
 ∀i,i≤q.length→luQ (a*k+(Lc+D*s1)) (u*k+(Uc+D*(r1+21))+i) (polL q n xs k i)
 | 0,_=>W0r _ _
 | i+1,hi=>by
  obtain⟨q1,q2⟩:=hq i (by omega)
  have h1:=Y1u hk hq hx i (by omega)
  have h2:=k1j (ks:=(q.getD i default).ks) hk q1 hx n (Nat.le_refl _) k (Nat.le_refl _)
  have m1:sumE (q.getD i default).ks n*s1≤D*s1:=Nat.mul_le_mul_right _ q2
  have m2:sumE (q.getD i default).ks n*(r1+21)≤D*(r1+21):=Nat.mul_le_mul_right _ q2
  exact q0m h1 (h2.mono (L':=a*k+(Lc+D*s1)) (U':=u*k+(Uc+D*(r1+21))+i) (by omega) (by omega))
theorem Q2s {a u Lc Uc s1 r1 K D M:Nat} {f:List (List Mn)} {X:Nat→Nat→Rat} (hK:K<12) (hX:derR f X K) (hM: ∀i,i<f.length→(f.getD i []).length≤M)
 (hq: ∀i,i<f.length→ ∀j,j<(f.getD i []).length→luQ Lc Uc (qN ((f.getD i []).getD j default).c)∧sumE ((f.getD i []).getD j default).ks f.length≤D) (h0: ∀i,i<f.length→luQ s1 r1 (X i 0))
 (ha:Lc+D*s1≤a+s1) (hu:Uc+D*(r1+21)+M≤u+r1): ∀k,k≤K→ ∀i,i<f.length→grQ a u s1 r1 k (X i)
 | 0,_,i,hi=>fun j hj=>by
  obtain rfl:j=0:=by omega
  exact(h0 i hi).mono (by omega) (by omega)
 | k+1,hk,i,hi=>fun j hj=>by
  by_cases hjk:j≤k
  · exact Q2s hK hX hM hq h0 ha hu k (by omega) i hi j hjk
  · obtain rfl:j=k+1:=by omega
    rw [hX k (by omega) i hi]
    have hp:=Y1u (by omega) (hq i hi) (fun i hi=>Q2s hK hX hM hq h0 ha hu k (by omega) i hi) _ (Nat.le_refl _)
    have:=hM i hi
    have e1:a*(k+1)=a*k+a:=Nat.mul_succ _ _
    have e2:u*(k+1)=u*k+u:=Nat.mul_succ _ _
    exact hp.mono (by omega) (by omega)
end Go.Pv
end
section
/-Values of one form that stand for a number;lists of them. No program in it. -/
namespace Go.Pv
def RV (x:Rat) (v:Vl):Prop:=canV v∧qV v=x
theorem RV.zero :RV 0 ⟨false,0,0⟩:=⟨.inr rfl,by decide+kernel⟩
theorem RV.plus {x y:Rat} {u v:Vl} (h:RV x u) (h':RV y v):RV (x+y) (K0n u v):=⟨Y0d h.1 h'.1,by rw [K0y,h.2,h'.2]⟩
theorem RV.by {x y:Rat} {u v:Vl} (h:RV x u) (h':RV y v):RV (x*y) (byV u v):=⟨k0i h.1 h'.1,by rw [H0g,h.2,h'.2]⟩
theorem RV.whole (n:Nat):RV (n:Rat) (oddV false n 0):=⟨Y0x _ _ _,Q1y n⟩
theorem RV.num {x:Nm} (h:Q0i x=true):RV (qN x) (ofN x):=⟨X0m h,Z0u x⟩
theorem RV.same {x y:Rat} {v:Vl} (h:RV x v) (e:x=y):RV y v:=e▸h
theorem RV.sm {x:Rat} {v:Vl} (h:RV x v) {L U:Nat} (hl:luQ L U x) (hb:L+U≤1000000):smV v:=by
 rw [←h.2] at hl
 have:=Q2e h.1 hl
 exact⟨by have:=this.1;omega,by have:=this.2.1;omega,by have:=this.2.2;omega⟩
def RL (k:Nat) (g:Nat→Rat) (l:List Vl):Prop:=l.length=k+1∧ ∀j,j≤k→RV (g j) (l.getD j default)
theorem RL.snoc {k:Nat} {g:Nat→Rat} {l:List Vl} {v:Vl} (h:RL k g l) (hv:RV (g (k+1)) v):RL (k+1) g (l++ [v]):=by
 refine⟨by rw [List.length_append,h.1];rfl,fun j hj=> ?_⟩
 by_cases e:j≤k
 · rw [Q0p _ _ _ _ (by have:=h.1;omega)];exact h.2 j e
 · obtain rfl:j=k+1:=by omega
   rw [Q0s _ _ _ _ (by have:=h.1;omega),h.1,Nat.sub_self];exact hv
def shN (k:Nat):Nat→Nat
 | 0=>1
 | m+1=>shN k m*(k+m+1)
theorem z3c : ∀K,K<12→ ∀k,k≤K→ ∀m,m≤K-k→shN k m≤2^40:=by decide+kernel
theorem Z3c : ∀K,K<12→ ∀k,k≤K→shN k (K-k)*fctN k=fctN K:=by decide+kernel
def atT (g:Nat→Rat) (t:Rat) (K:Nat):Nat→Rat:=fun k=>(g k*t^k)*(shN k (K-k):Rat)
theorem z2q {g:Nat→Rat} {t:Rat} {K:Nat} (hK:K<12): ∀n,n≤K→sumR (atT g t K) (n+1)=(fctN K:Rat)*valR (fun k=>g k/(fctN k:Rat)) t n
 | 0,_=>by
  have e:=Z3c K hK 0 (by omega)
  have n0:=z1m 0
  rw [sumR,sumR,atT,valR,←e]
  simp only [Rat.natCast_mul]
  have:t^0=1:=by grind
  rw [this]
  generalize (fctN 0:Rat)=F at*
  grind
 | n+1,hn=>by
  have e:=Z3c K hK (n+1) hn
  have n0:=z1m (n+1)
  rw [sumR,z2q hK n (by omega),atT,valR,←e]
  simp only [Rat.natCast_mul]
  generalize (fctN (n+1):Rat)=F at*
  generalize t^(n+1)=T
  grind
theorem U1g {L U:Nat} {t:Rat} (h:luQ L U t): ∀k,luQ (L*k) (U*k) (t^k)
 | 0=>by
  have:=q0l (m:=1) (n:=0) (by decide)
  rw [show t^0=((1:Nat):Rat) by grind]
  exact this
 | k+1=>by
  rw [Rat.pow_succ,Nat.mul_succ,Nat.mul_succ]
  exact Y0h (U1g h k) h
theorem z2p {a u s r L U K k:Nat} {g:Nat→Rat} {t:Rat} (hK:K<12) (hg:grQ a u s r K g) (ht:luQ L U t) (hk:k≤K):luQ (a*K+s+L*K) (u*K+r+U*K+40) (atT g t K k)∧luQ (a*K+s+L*K) (u*K+r+U*K) (g k*t^k):=by
 have m1:a*k≤a*K:=Nat.mul_le_mul_left _ hk
 have m2:u*k≤u*K:=Nat.mul_le_mul_left _ hk
 have m3:L*k≤L*K:=Nat.mul_le_mul_left _ hk
 have m4:U*k≤U*K:=Nat.mul_le_mul_left _ hk
 have h1:=Y0h (hg k hk) (U1g ht k)
 exact⟨(Y0h h1 (q0l (n:=40) (z3c K hK k hk (K-k) (Nat.le_refl _)))).mono (by omega) (by omega),h1.mono (by omega) (by omega)⟩
end Go.Pv
end
section
/-Derivatives depend on what stands ahead alone;a value of one form is one. No program in it. -/
namespace Go.Pv
theorem RV.uniq {x:Rat} {v w:Vl} (h:RV x v) (h':RV x w):v=w:=Q2z h.1 h'.1 (by rw [h.2,h'.2])
theorem RV.ex {L U:Nat} {x:Rat} (h:luQ L U x): ∃v,RV x v:=by
 obtain⟨z,e,_⟩:=h
 exact⟨mkV z (-(L:Int)),z2e _ _,by rw [j2r,e]⟩
theorem k1o {a a' b b':Nat→Rat} {k:Nat} (ha: ∀j,j≤k→a j=a' j) (hb: ∀j,j≤k→b j=b' j):k1p a b k=k1p a' b' k:=
 w0p fun i hi=>by rw [ha i (by omega),hb (k-i) (by omega)]
theorem V1t {s s' x x':Nat→Rat} {k:Nat} (hs: ∀j,j≤k→s j=s' j) (hx: ∀j,j≤k→x j=x' j): ∀n,∀j,j≤k→powL s x n j=powL s' x' n j
 | 0=>hs
 | n+1=>fun j hj=>k1o (fun i hi=>V1t hs hx n i (by omega)) (fun i hi=>hx i (by omega))
theorem W1a {c:Rat} {ks:List Int} {X Y:Nat→Nat→Rat} {k n:Nat} (h: ∀i,i<n→ ∀j,j≤k→X i j=Y i j): ∀i,i≤n→ ∀j,j≤k→monL c ks X i j=monL c ks Y i j
 | 0,_=>fun _ _=>rfl
 | i+1,hi=>V1t (W1a h i (by omega)) (h i (by omega)) _
theorem w0z {q:List Mn} {X Y:Nat→Nat→Rat} {k n:Nat} (h: ∀i,i<n→ ∀j,j≤k→X i j=Y i j): ∀i,polL q n X k i=polL q n Y k i
 | 0=>rfl
 | i+1=>by rw [polL,polL,w0z h i,W1a h n (Nat.le_refl _) k (Nat.le_refl _)]
def q1i (X:Nat→Nat→Rat) (k:Nat) (g:Nat→Rat):Nat→Nat→Rat:=fun i j=>if j=k+1 then g i else X i j
theorem z0l (X:Nat→Nat→Rat) (k:Nat) (g:Nat→Rat) {i j:Nat} (h:j≤k):q1i X k g i j=X i j:=by unfold q1i;rw [if_neg (by omega)]
theorem U2s {f:List (List Mn)} {X:Nat→Nat→Rat} {k:Nat} (h:derR f X k):derR f (q1i X k fun i=>polL (f.getD i []) f.length X k (f.getD i []).length) (k+1):=fun j hj i hi=>by
 by_cases e:j=k
 · subst e
   rw [w0z (Y:=X) fun i _ j hj=>z0l _ _ _ hj]
   unfold q1i
   rw [if_pos rfl]
 · rw [z0l _ _ _ (show j+1≤k by omega),h j (by omega) i hi,w0z fun i _ m hm=>(z0l _ _ _ (show m≤k by omega)).symm]
theorem v2d {X:Nat→Nat→Rat} {k i:Nat} {g:Nat→Rat} {l:List Vl} {v:Vl} (h:RL k (X i) l) (hv:RV (g i) v):RL (k+1) (q1i X k g i) (l++ [v]):=by
 have h':RL k (q1i X k g i) l:=⟨h.1,fun j hj=>by rw [z0l _ _ _ hj];exact h.2 j hj⟩
 refine h'.snoc ?_
 unfold q1i
 rw [if_pos rfl]
 exact hv
end Go.Pv
end
