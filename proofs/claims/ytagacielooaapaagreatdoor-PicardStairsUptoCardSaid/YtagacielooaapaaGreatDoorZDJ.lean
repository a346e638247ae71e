/- Parts of the walk: M74, M75. -/
import Derived.Test.YtagacielooaapaaGreatDoorZDB
import Derived.Test.YtagacielooaapaaGreatDoorZBV
import Derived.Test.YtagacielooaapaaGreatDoorZDE
set_option linter.unusedVariables false
set_option linter.unusedSimpArgs false
section
/-Series that end:their values;products;the values of polynomials of such;a derivative's mean (seven places,whole weights). No program in it. -/
namespace Go.Pv
def sup (a:Nat→Rat) (A:Nat):Prop:= ∀k,A<k→a k=0
def pv (a:Nat→Rat) (D:Nat) (t:Rat):Rat:=sumR (fun k=>a k*t^k) (D+1)
theorem Z1y {g:Nat→Rat} : ∀n,(∀i,i<n→g i=0)→sumR g n=0
 | 0,_=>rfl
 | n+1,h=>by rw [sumR,Z1y n fun i hi=>h i (by omega),h n (by omega)];grind
theorem y0u (g:Nat→Rat): ∀n,sumR g (n+1)=g 0+sumR (fun i=>g (i+1)) n
 | 0=>by rw [sumR,sumR,sumR];grind
 | n+1=>by rw [sumR,y0u g n,sumR];grind
theorem q1e (f g:Nat→Rat): ∀n,sumR (fun i=>f i+g i) n=sumR f n+sumR g n
 | 0=>by rw [sumR,sumR,sumR];grind
 | n+1=>by rw [sumR,sumR,sumR,q1e f g n];grind
theorem X3d {a:Nat→Rat} {A:Nat} (h:sup a A) (t:Rat): ∀d,pv a (A+d) t=pv a A t
 | 0=>rfl
 | d+1=>by
  have ih:=X3d h t d
  unfold pv at ih⊢
  rw [show A+(d+1)+1=(A+d+1)+1 by omega,sumR,ih,h (A+d+1) (by omega)]
  grind
theorem Q1d {a:Nat→Rat} {A D:Nat} (h:sup a A) (t:Rat) (hd:A≤D):pv a D t=pv a A t:=by
 have:=X3d h t (D-A)
 rwa [show A+(D-A)=D by omega] at this
theorem U1z (a:Nat→Rat) (D:Nat) (t:Rat):pv a (D+1) t=a 0+t*pv (fun k=>a (k+1)) D t:=by
 unfold pv
 rw [y0u,←v0q]
 rw [show a 0*t^0=a 0 by grind]
 congr 1
 refine K0w fun i hi=> ?_
 rw [Rat.pow_succ];grind
theorem Y1t (a b:Nat→Rat):v0a a b 0=a 0*b 0:=by
 unfold v0a
 rw [sumR,sumR];grind
theorem Y1u (a b:Nat→Rat) (k:Nat):v0a a b (k+1)=a 0*b (k+1)+v0a (fun i=>a (i+1)) b k:=by
 unfold v0a
 rw [y0u]
 congr 1
 refine K0w fun i hi=> ?_
 rw [show k+1-(i+1)=k-i by omega]
theorem z2d {a b:Nat→Rat} {A B:Nat} (ha:sup a A) (hb:sup b B):sup (v0a a b) (A+B):=fun k hk=>by
 unfold v0a
 refine Z1y _ fun i hi=> ?_
 by_cases c:A<i
 · rw [ha i c];grind
 · rw [hb (k-i) (by omega)];grind
theorem U2j (c:Rat) (b:Nat→Rat) (D:Nat) (t:Rat):pv (fun k=>c*b k) D t=c*pv b D t:=by
 unfold pv
 rw [←v0q]
 exact K0w fun i hi=>by grind
theorem U2i (a b:Nat→Rat) (D:Nat) (t:Rat):pv (fun k=>a k+b k) D t=pv a D t+pv b D t:=by
 unfold pv
 rw [←q1e]
 exact K0w fun i hi=>by grind
theorem X1e {a b:Nat→Rat} {D:Nat} (t:Rat) (h: ∀k,k≤D→a k=b k):pv a D t=pv b D t:=K0w fun i hi=>by rw [h i (by omega)]
theorem J3o {b:Nat→Rat} {B:Nat} (hb:sup b B) (t:Rat): ∀A (a:Nat→Rat),sup a A→ ∀D,A+B≤D→pv (v0a a b) D t=pv a A t*pv b B t
 | 0,a,ha,D,hD=>by
  have e: ∀k,v0a a b k=a 0*b k:=fun k=>by
   cases k with
   | zero=>exact Y1t a b
   | succ k=>
    rw [Y1u]
    have:v0a (fun i=>a (i+1)) b k=0:=by
     unfold v0a
     refine Z1y _ fun i hi=> ?_
     show a (i+1)*b (k-i)=0
     rw [ha (i+1) (by omega)];grind
    rw [this];grind
  rw [X1e t fun k _=>e k,U2j,Q1d hb t (by omega)]
  have e0:pv a 0 t=a 0:=by
   unfold pv
   rw [sumR,sumR];grind
  rw [e0]
 | A+1,a,ha,D,hD=>by
  obtain⟨D',rfl⟩: ∃D',D=D'+1:=⟨D-1,by omega⟩
  have ha':sup (fun i=>a (i+1)) A:=fun k hk=>ha (k+1) (by omega)
  have ih:=J3o hb t A _ ha' D' (by omega)
  rw [U1z,Y1t,X1e t fun k _=>Y1u a b k,U2i,ih,U2j,U1z a A t,←Q1d hb t (show B≤D'+1 by omega),U1z b D' t]
  grind
theorem X3g {s x:Nat→Rat} {S B:Nat} (hs:sup s S) (hx:sup x B) (t:Rat): ∀n,sup (powR s x n) (S+n*B)∧ ∀D,S+n*B≤D→pv (powR s x n) D t=pv s S t*powQ (pv x B t) n
 | 0=>by
  rw [Nat.zero_mul,Nat.add_zero]
  refine⟨hs,fun D hD=> ?_⟩
  show pv s D t=_*1
  rw [Q1d hs t hD];grind
 | n+1=>by
  obtain⟨h1,h2⟩:=X3g hs hx t n
  have e:S+(n+1)*B=S+n*B+B:=by rw [Nat.succ_mul];omega
  rw [e]
  refine⟨z2d h1 hx,fun D hD=> ?_⟩
  show pv (v0a (powR s x n) x) D t=_*(powQ _ n*_)
  rw [J3o hx t _ _ h1 D hD,h2 _ (Nat.le_refl _)]
  grind
theorem X3n {m:Mn} {c:Nat→Nat→Rat} {n d:Nat} (h: ∀j,j<n→(m.ks.getD j 0).toNat=0∨sup (c j) d) (t:Rat): ∀i,i≤n→sup (monR (qN m.c) m.ks c i) (sumE m.ks i*d)∧ ∀D,sumE m.ks i*d≤D→pv (monR (qN m.c) m.ks c i) D t=v0p m (fun j=>pv (c j) d t) i
 | 0,_=>by
  have hs:sup (monR (qN m.c) m.ks c 0) 0:=fun k hk=>by
   show(if k=0 then qN m.c else 0)=0
   rw [if_neg (by omega)]
  rw [show sumE m.ks 0*d=0 by simp [sumE]]
  refine⟨hs,fun D hD=> ?_⟩
  rw [Q1d hs t hD]
  unfold pv
  rw [sumR,sumR]
  show 0+(if 0=0 then qN m.c else 0)*t^0=qN m.c
  rw [if_pos rfl];grind
 | i+1,hi=>by
  obtain⟨h1,h2⟩:=X3n h t i (by omega)
  have e:sumE m.ks (i+1)*d=sumE m.ks i*d+(m.ks.getD i 0).toNat*d:=by rw [sumE,Nat.add_mul]
  rw [e]
  show sup (powR (monR (qN m.c) m.ks c i) (c i) (m.ks.getD i 0).toNat) _∧ ∀D,_→pv (powR (monR (qN m.c) m.ks c i) (c i) (m.ks.getD i 0).toNat) D t=v0p m _ i*powQ _ (m.ks.getD i 0).toNat
  rcases h i (by omega) with z | z
  · rw [z,Nat.zero_mul,Nat.add_zero]
    refine⟨h1,fun D hD=> ?_⟩
    show pv (monR (qN m.c) m.ks c i) D t=_*1
    rw [h2 D hD];grind
  · obtain⟨p1,p2⟩:=X3g h1 z t (m.ks.getD i 0).toNat
    refine⟨p1,fun D hD=> ?_⟩
    rw [p2 D hD,h2 _ (Nat.le_refl _)]
theorem X3h {q:List Mn} {c:Nat→Nat→Rat} {n d e:Nat} (h: ∀i,i<q.length→sumE (q.getD i default).ks n*d≤e∧ ∀j,j<n→((q.getD i default).ks.getD j 0).toNat=0∨sup (c j) d) (t:Rat): ∀i,i≤q.length→sup (fun k=>polR q n c k i) e∧ ∀D,e≤D→pv (fun k=>polR q n c k i) D t=valQ q (fun j=>pv (c j) d t) n i
 | 0,_=>⟨fun _ _=>rfl,fun D _=>by
  show pv (fun _=>0) D t=0
  exact Z1y _ fun i _=>by grind⟩
 | i+1,hi=>by
  obtain⟨h1,h2⟩:=X3h h t i (by omega)
  obtain⟨q1,q2⟩:=h i (by omega)
  obtain⟨m1,m2⟩:=X3n q2 t n (Nat.le_refl _)
  refine⟨fun k hk=> ?_,fun D hD=> ?_⟩
  · show polR q n c k i+monR _ _ _ n k=0
    have e1:polR q n c k i=0:=h1 k hk
    rw [e1,m1 k (by omega)];grind
  · show pv (fun k=>polR q n c k i+monR (qN (q.getD i default).c) (q.getD i default).ks c n k) D t=valQ q _ n i+v0p _ _ n
    rw [U2i,h2 D hD,m2 D (by omega)]
theorem W1r {s s' x x':Nat→Rat} {k:Nat} (hs: ∀j,j≤k→s j=s' j) (hx: ∀j,j≤k→x j=x' j): ∀n,∀j,j≤k→powR s x n j=powR s' x' n j
 | 0=>hs
 | n+1=>fun j hj=>K0w fun i hi=>by rw [W1r hs hx n i (by omega),hx (j-i) (by omega)]
theorem W1z {c:Rat} {ks:List Int} {X Y:Nat→Nat→Rat} {k n:Nat} (h: ∀i,i<n→ ∀j,j≤k→X i j=Y i j): ∀i,i≤n→ ∀j,j≤k→monR c ks X i j=monR c ks Y i j
 | 0,_=>fun _ _=>rfl
 | i+1,hi=>W1r (W1z h i (by omega)) (h i (by omega)) _
theorem W1t {q:List Mn} {X Y:Nat→Nat→Rat} {k n:Nat} (h: ∀i,i<n→ ∀j,j≤k→X i j=Y i j): ∀i,polR q n X k i=polR q n Y k i
 | 0=>rfl
 | i+1=>by rw [polR,polR,W1t h i,W1z h n (Nat.le_refl _) k (Nat.le_refl _)]
def K2t (g:Rat→Rat) (t:Rat):Rat:=(41*g 0+216*g (t/6)+27*g (t/3)+272*g (t/2)+27*g (2*t/3)+216*g (5*t/6)+41*g t)/840
theorem v2y {g:Rat→Rat} {t lo hi:Rat} (ht:0≤t) (h: ∀s,0≤s→s≤t→lo≤g s∧g s≤hi):lo≤K2t g t∧K2t g t≤hi:=by
 have h0:=h 0 (by grind) (by grind)
 have h1:=h (t/6) (by grind) (by grind)
 have h2:=h (t/3) (by grind) (by grind)
 have h3:=h (t/2) (by grind) (by grind)
 have h4:=h (2*t/3) (by grind) (by grind)
 have h5:=h (5*t/6) (by grind) (by grind)
 have h6:=h t (by grind) (by grind)
 unfold K2t
 generalize g 0=a0 at*
 generalize g (t/6)=a1 at*
 generalize g (t/3)=a2 at*
 generalize g (t/2)=a3 at*
 generalize g (2*t/3)=a4 at*
 generalize g (5*t/6)=a5 at*
 generalize g t=a6 at*
 constructor<;>grind
theorem V3r (c:Nat→Rat) (t:Rat):pv c 7 t=c 0+t*K2t (fun s=>pv (fun k=>c (k+1)*((k+1:Nat):Rat)) 6 s) t:=by
 unfold K2t pv
 simp only [sumR]
 generalize c 0=c0
 generalize c 1=c1
 generalize c 2=c2
 generalize c 3=c3
 generalize c 4=c4
 generalize c 5=c5
 generalize c 6=c6
 generalize c 7=c7
 grind
end Go.Pv
end
section
/-Stairs:the solutions end,and stay in a box that is sure. No program in it. -/
namespace Go.Pv
theorem Z2o {P:List Int→Prop} {t:Tm} (ht:P t.ks): ∀acc:List Tm,(∀o∈acc,P o.ks)→ ∀o∈insT t acc,P o.ks
 | [],_,o,ho=>by
  rw [insT] at ho
  rw [List.mem_singleton.1 ho];exact ht
 | a::r,h,o,ho=>by
  rw [insT] at ho
  split at ho
  · rcases List.mem_cons.1 ho with rfl | ho
    · exact h _ (by simp)
    · exact Z2o ht r (fun o ho=>h o (by simp [ho])) o ho
  · split at ho
    · rcases List.mem_cons.1 ho with rfl | ho
      · exact h a (by simp)
      · exact h o (by simp [ho])
    · rcases List.mem_cons.1 ho with rfl | ho
      · exact ht
      · exact h o ho
theorem Z2t {P:List Int→Prop} : ∀(ts acc:List Tm),(∀t∈ts,P t.ks)→(∀o∈acc,P o.ks)→ ∀o∈gatT ts acc,P o.ks
 | [],_,_,h=>h
 | t::r,acc,ht,h=>Z2t r _ (fun t' h'=>ht t' (by simp [h'])) (Z2o (ht t (by simp)) acc h)
theorem K1i {P:List Int→Prop} : ∀(ts:List Tm) (acc:List Mn),(∀t∈ts,P t.ks)→(∀m∈acc,P m.ks)→ ∀m∈(U0y ts acc).1,P m.ks
 | [],_,_,h=>h
 | t::r,acc,ht,h=>by
  have h': ∀t'∈r,P t'.ks:=fun t' h'=>ht t' (by simp [h'])
  rw [U0y]
  split
  · exact K1i r acc h' h
  · split
    · intro m hm;cases hm
    · refine K1i r _ h' fun m hm=> ?_
      rcases List.mem_append.1 hm with hm | hm
      · exact h m hm
      · rw [List.mem_singleton.1 hm];exact ht t (by simp)
theorem X1w {m:Mn} {X Y:Nat→Rat} {n:Nat} (h: ∀j,j<n→(m.ks.getD j 0).toNat=0∨X j=Y j): ∀i,i≤n→v0p m X i=v0p m Y i
 | 0,_=>rfl
 | i+1,hi=>by
  rw [v0p,v0p,X1w h i (by omega)]
  rcases h i (by omega) with z | z
  · rw [z];rfl
  · rw [z]
theorem V1y {q:List Mn} {X Y:Nat→Rat} {n:Nat} (h: ∀i,i<q.length→ ∀j,j<n→((q.getD i default).ks.getD j 0).toNat=0∨X j=Y j): ∀i,i≤q.length→valQ q X n i=valQ q Y n i
 | 0,_=>rfl
 | i+1,hi=>by rw [valQ,valQ,V1y h i (by omega),X1w (h i (by omega)) n (Nat.le_refl _)]
theorem U1t {j:Nat} : ∀i,j≤i→rchN 2 j≤rchN 2 i
 | 0,h=>by obtain rfl:j=0:=by omega
           exact Nat.le_refl _
 | i+1,h=>by
  by_cases e:j=i+1
  · rw [e];exact Nat.le_refl _
  · have:=U1t i (show j≤i by omega)
    rw [rchN];omega
theorem W2q (c:Nat→Rat) (t:Rat): ∀k,valR c t k=pv c k t
 | 0=>by
  unfold pv
  rw [sumR,sumR]
  show c 0=0+c 0*t^0
  grind
 | k+1=>by
  rw [valR,W2q c t k]
  rfl
theorem sup.up {a:Nat→Rat} {A B:Nat} (h:sup a A) (hb:A≤B):sup a B:=fun k hk=>h k (by omega)
theorem k1r {f:List (List Mn)} {x a:List Ivl} {h:Nm} {p:Int} {n:Nat} {X:Nat→Nat→Rat} (hfl:f.length=n) (hn1:1≤n) (hn3:n≤3) (N:NextOK f x a h p) (hin: ∀j,j<n→subI ((Z0m f x a h p).1.getD j default) (a.getD j default))
 (hra: ∀j,j<n→Q0h (a.getD j default)=true)
 (hx0: ∀i,i<n→memI (X i 0) (x.getD i default)) (hX:derR f X (rchN 2 (n-1)))
 (hst: ∀i,i<n→ ∀m,m<(f.getD i []).length→sumE ((f.getD i []).getD m default).ks n≤2∧ ∀t,i≤t→((f.getD i []).getD m default).ks.getD t 0=0) {τ:Rat} (t0:0≤τ) (t1:τ≤qN h) {i:Nat} (hi:i<n):
 memI (valR (z0c X i) τ (rchN 2 (n-1))) (a.getD i default):=by
 have hK7:rchN 2 (n-1)≤7:=by
  have: ∀i,i<3→rchN 2 i≤7:=by decide
  exact this _ (by omega)
 have hKi: ∀i,i<n→rchN 2 i≤rchN 2 (n-1):=fun i hi=>U1t _ (by omega)
 have hser:=U3q (by omega) hX
 generalize rchN 2 (n-1)=K at*
 obtain⟨c,hc⟩: ∃c:Nat→Nat→Rat,c=fun i k=>if k≤K then z0c X i k else 0:=⟨_,rfl⟩
 have cl: ∀i k,k≤K→c i k=z0c X i k:=fun i k hk=>by rw [hc];exact if_pos hk
 have ch: ∀i k,K<k→c i k=0:=fun i k hk=>by rw [hc];exact if_neg (by omega)
 have serC: ∀k,k<K→ ∀i,i<n→c i (k+1)*((k+1:Nat):Rat)=polR (f.getD i []) n c k (f.getD i []).length:=fun k hk i hi=>by
  have:=hser k hk i (by omega)
  rw [hfl] at this
  rw [cl i (k+1) (by omega),this]
  exact W1t (fun i _ j hj=>(cl i j (by omega)).symm) _
 have key: ∀i,i<n→sup (c i) (rchN 2 i)∧ ∀τ,0≤τ→τ≤qN h→memI (pv (c i) 7 τ) (a.getD i default):=fun i=>by
  induction i using Nat.strongRecOn with
  | _ i ih=>
   intro hi
   have hKi':=hKi i hi
   obtain⟨d,hd,hdj⟩: ∃d,rchN 2 i=2*d+1∧ ∀j,j<i→rchN 2 j≤d:=by
    cases i with
    | zero=>exact⟨0,rfl,fun j hj=>absurd hj (Nat.not_lt_zero _)⟩
    | succ i=>exact⟨rchN 2 i,by rw [rchN];omega,fun j hj=>U1t _ (by omega)⟩
   have hsup: ∀j,j<i→sup (c j) d:=fun j hj=>(ih j hj (by omega)).1.up (hdj j hj)
   have hq: ∀m,m<(f.getD i []).length→sumE ((f.getD i []).getD m default).ks n*d≤2*d∧ ∀j,j<n→(((f.getD i []).getD m default).ks.getD j 0).toNat=0∨sup (c j) d:=fun m hm=>by
    obtain⟨s1,s2⟩:=hst i hi m hm
    refine⟨Nat.mul_le_mul_right _ s1,fun j hj=> ?_⟩
    by_cases e:j<i
    · exact .inr (hsup j e)
    · exact .inl (by rw [s2 j (by omega)];rfl)
   have hpol:=fun t=>X3h (e:=2*d) hq t (f.getD i []).length (Nat.le_refl _)
   have hps:=(hpol 0).1
   have hci:sup (c i) (rchN 2 i):=fun k hk=>by
    by_cases e:k≤K
    · obtain⟨k',rfl⟩: ∃k',k=k'+1:=⟨k-1,by omega⟩
      have h1:=serC k' (by omega) i hi
      have h2:polR (f.getD i []) n c k' (f.getD i []).length=0:=hps k' (by omega)
      rw [h2] at h1
      have h3:((k'+1:Nat):Rat)≠0:=fun e=>by
       have:k'+1=0:=by exact_mod_cast e
       omega
      generalize ((k'+1:Nat):Rat)=F at*
      grind
    · exact ch i k (by omega)
   refine⟨hci,fun τ t0 t1=> ?_⟩
   have A:=N.at (j:=i) (by omega)
   have hla:a.length=n:=by rw [N.la,hfl]
   have hder: ∀s,pv (fun k=>c i (k+1)*((k+1:Nat):Rat)) 6 s=valQ (f.getD i []) (fun j=>pv (c j) d s) n (f.getD i []).length:=fun s=>by
    rw [←(hpol s).2 6 (by omega)]
    refine X1e s fun k hk=> ?_
    by_cases e:k<K
    · exact serC k e i hi
    · have h2:polR (f.getD i []) n c k (f.getD i []).length=0:=hps k (by omega)
      show c i (k+1)*_=polR _ _ _ _ _
      rw [ch i (k+1) (by omega),h2];grind
   have hR: ∀s,0≤s→s≤τ→memI (pv (fun k=>c i (k+1)*((k+1:Nat):Rat)) 6 s) (Z0a (f.getD i []) a p (f.getD i []).length).1:=fun s s0 s1=>by
    rw [hder s]
    have hv:=W1n (q:=f.getD i []) (b:=a) (p:=p) (X:=fun j=>if j<i then pv (c j) d s else qN (a.getD j default).lo) (fun j hj=>by
     by_cases e:j<i
     · show memI (if j<i then _ else _) _
       rw [if_pos e,←Q1d (hsup j e) s (show d≤7 by omega)]
       exact(ih j e (by omega)).2 s s0 (by grind)
     · show memI (if j<i then _ else _) _
       rw [if_neg e]
       exact H0b (hra j (by omega))) _ A.r0
    rw [hla] at hv
    rw [V1y (Y:=fun j=>if j<i then pv (c j) d s else qN (a.getD j default).lo) (fun m hm j hj=>by
     by_cases e:j<i
     · exact .inr (if_pos e).symm
     · exact .inl (by rw [(hst i hi m hm).2 j (by omega)];rfl)) _ (Nat.le_refl _)]
    exact hv
   have hmean:=v2y (g:=fun s=>pv (fun k=>c i (k+1)*((k+1:Nat):Rat)) 6 s) t0 hR
   have e0:c i 0=X i 0:=by rw [cl i 0 (by omega),J2n]
   rw [V3r,e0]
   generalize K2t _ τ=r at hmean
   have m1:memI τ ⟨default,h⟩:=⟨by show qN default≤τ;rw [U0q];exact t0,t1⟩
   have m2:=q0o 2 A.t0 m1 hmean
   have m3:=q0o 0 A.s0 (hx0 i hi) m2
   have hs:=hin i hi
   rw [A.val] at hs
   have e2:exQ 0 (X i 0) (exQ 2 τ r)=X i 0+τ*r:=rfl
   rw [e2] at m3
   exact⟨Rat.le_trans hs.1 m3.1,Rat.le_trans m3.2 hs.2⟩
 have r:=(key i hi).2 τ t0 t1
 rw [W2q,X1e (b:=c i) τ fun k hk=>(cl i k hk).symm]
 rw [Q1d ((key i hi).1.up (hKi i hi)) τ hK7] at r
 exact r
end Go.Pv
end
