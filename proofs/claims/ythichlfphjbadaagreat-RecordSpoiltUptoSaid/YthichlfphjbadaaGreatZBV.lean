/- Parts of the walk: M59, M52, M53, M54. -/
import Derived.Test.YthichlfphjbadaaGreatZAR
import Derived.Test.YthichlfphjbadaaGreatZBM
import Derived.Test.YthichlfphjbadaaGreatZK
import Derived.Test.YthichlfphjbadaaGreatZBR
import Derived.Test.YthichlfphjbadaaGreatZBN
set_option linter.unusedVariables false
set_option linter.unusedSimpArgs false
section
/-Numbers by powers of two;times. No program in it. -/
namespace Go.Pv
theorem x0s {x:Nm} {k:Nat} (h:(X0y x (-(k:Int))).2=0):Q0f x=true∧qN (X0y x (-(k:Int))).1*p2 k=qN x:=by
 unfold X0y at h⊢
 split at h
 · rename_i hr
   rw [if_pos hr]
   refine⟨hr,?_⟩
   split at h
   · rename_i hw
     rw [if_pos hw]
     have h0:qN x=0:=Q3e (by rw [hw];rfl)
     show qN x*p2 k=qN x
     rw [h0,Rat.zero_mul]
   · rename_i hw
     rw [if_neg hw]
     split at h
     · exact absurd h (by decide)
     · rename_i hk
       rw [if_neg hk]
       have hc:canV (⟨x.neg,valW x.w,x.exp+ -(k:Int)⟩:Vl):=by
        rcases X0u hr with h1 | h1
        · exact .inl h1
        · exact absurd ((W0b hr).1 (show valW x.w=0 from congrArg Vl.m h1)) hw
       rw [(J0f hc h).2]
       unfold qV qN qM
       show((Z0w ⟨x.neg,valW x.w,x.exp+ -(k:Int)⟩:Int):Rat)*p2 (x.exp+ -(k:Int))*p2 k=((mant x:Int):Rat)*p2 x.exp
       rw [Rat.mul_assoc,←w0d]
       congr 2
       omega
 · exact absurd h (by decide)
theorem X1u {x:Nm} {L U k:Nat} (hx:Q0f x=true) (h:luQ L U (qN x)) (hk:k≤1000) (hb:L+U+k+1≤4096):(X0y x (-(k:Int))).2=0∧luQ (L+k) U (qN (X0y x (-(k:Int))).1):=by
 have key: ∀y:Rat,y*p2 k=qN x→luQ (L+k) U y:=fun y hy=>by
  obtain⟨z,h1,h2⟩:=h
  refine⟨z,?_,Nat.le_trans h2 (Nat.pow_le_pow_right (by decide) (by omega))⟩
  have hne:=Z4y k
  have e:qM z (-((L+k:Nat):Int))*p2 k=qM z (-(L:Int)):=by
   unfold qM
   rw [Rat.mul_assoc,←w0d]
   congr 2
   omega
  rw [h1,←e] at hy
  have:=congrArg (fun t=>t*(p2 k)⁻¹) hy
  simp only [Rat.mul_assoc,Rat.mul_inv_cancel _ hne,Rat.mul_one] at this
  exact this
 have h0:(X0y x (-(k:Int))).2=0:=by
  unfold X0y
  rw [if_pos hx]
  split
  · rfl
  · rename_i hw
    rw [if_neg (by omega)]
    have hc:canV (⟨x.neg,valW x.w,x.exp+ -(k:Int)⟩:Vl):=by
     rcases X0u hx with h1 | h1
     · exact .inl h1
     · exact absurd ((W0b hx).1 (show valW x.w=0 from congrArg Vl.m h1)) hw
    refine U0o hc (key _ ?_) (by omega)
    unfold qV qN qM
    show((Z0w ⟨x.neg,valW x.w,x.exp+ -(k:Int)⟩:Int):Rat)*p2 (x.exp+ -(k:Int))*p2 k=((mant x:Int):Rat)*p2 x.exp
    rw [Rat.mul_assoc,←w0d]
    congr 2
    omega
 exact⟨h0,key _ (x0s h0).2⟩
theorem X3r {q:Nat} (h0:0<q) (h:q≤64):luQ 3 6 (qN (tq q))∧0<qN (tq q):=by
 have e:qN (tq q)=qM (q:Int) (-3):=by rw [←X0k,(q0i q (by omega)).2,J3r]
 refine⟨⟨(q:Int),e,?_⟩,?_⟩
 · simp only [Int.natAbs_natCast];omega
 · rw [e,←J0p (-3)];exact qM_lt.2 (by omega)
theorem U2i {x y:Rat} {k:Int} (h:y*p2 k=x) (hx:0<x):0<y:=by
 have:=Q1y k
 apply Rat.not_le.1
 intro hy
 have h2:=J0d (a:= -y) (b:=p2 k) (by grind) (by grind)
 grind
end Go.Pv
end
section
/-Boxes taken apart and put together;where solutions go. No program in it. -/
namespace Go.Pv
theorem v1u {k:Nat} {a b:List Ivl} {p:Int} (h:(opB k a b p).2=0):(rightB a=true∧rightB b=true∧a.length=b.length∧Z0t p=true)∧(opB k a b p).1.length=a.length∧
 (∀j,j<a.length→(opI k (a.getD j default) (b.getD j default) p).2=0)∧ ∀j,j<a.length→(opB k a b p).1.getD j default=(opI k (a.getD j default) (b.getD j default) p).1:=by
 unfold opB at h⊢
 by_cases c:rightB a=true∧rightB b=true∧a.length=b.length∧Z0t p=true
 · rw [if_pos c,K0h] at h
   rw [if_pos c,K0h]
   exact⟨c,x0l h⟩
 · rw [if_neg c] at h;exact absurd h (by decide)
theorem K3d {k:Nat} {a b:List Ivl} {p:Int} (c:rightB a=true∧rightB b=true∧a.length=b.length∧Z0t p=true) (h: ∀j,j<a.length→(opI k (a.getD j default) (b.getD j default) p).2=0):(opB k a b p).2=0:=by
 unfold opB
 rw [if_pos c,K0h]
 exact x0m _ _ _ fun j _ hj=>h j (by omega)
theorem W1t {x:Ivl} {b:List Ivl} {p:Int} (h:(G0m x b p).2=0):(rightB b=true∧Q0n x=true∧Z0t p=true)∧(G0m x b p).1.length=b.length∧
 (∀j,j<b.length→(opI 2 x (b.getD j default) p).2=0)∧ ∀j,j<b.length→(G0m x b p).1.getD j default=(opI 2 x (b.getD j default) p).1:=by
 unfold G0m at h⊢
 by_cases c:rightB b=true∧Q0n x=true∧Z0t p=true
 · rw [if_pos c,K0h] at h
   rw [if_pos c,K0h]
   exact⟨c,x0l h⟩
 · rw [if_neg c] at h;exact absurd h (by decide)
theorem X2u {x:Ivl} {b:List Ivl} {p:Int} (c:rightB b=true∧Q0n x=true∧Z0t p=true) (h: ∀j,j<b.length→(opI 2 x (b.getD j default) p).2=0):(G0m x b p).2=0:=by
 unfold G0m
 rw [if_pos c,K0h]
 exact x0m _ _ _ fun j _ hj=>h j (by omega)
theorem q2r {b:List Ivl} {p:Int} (h:(k0x b p).2=0):(rightB b=true∧Z0t p=true)∧(k0x b p).1.length=b.length∧
 (∀j,j<b.length→(H0h (b.getD j default) p).2=0)∧ ∀j,j<b.length→(k0x b p).1.getD j default=(H0h (b.getD j default) p).1:=by
 unfold k0x at h⊢
 by_cases c:rightB b=true∧Z0t p=true
 · rw [if_pos c,K0h] at h
   rw [if_pos c,K0h]
   exact⟨c,x0l h⟩
 · rw [if_neg c] at h;exact absurd h (by decide)
theorem q2s {b:List Ivl} {p:Int} (c:rightB b=true∧Z0t p=true) (h: ∀j,j<b.length→(H0h (b.getD j default) p).2=0):(k0x b p).2=0:=by
 unfold k0x
 rw [if_pos c,K0h]
 exact x0m _ _ _ fun j _ hj=>h j (by omega)
theorem G2y {a b:List Ivl} (ha:rightB a=true) (hb:rightB b=true) (hl:a.length=b.length):(q0y a b).2=0∧(q0y a b).1.length=a.length∧
 ∀j,j<a.length→(q0y a b).1.getD j default=⟨X0j (a.getD j default).lo (b.getD j default).lo,X0h (a.getD j default).hi (b.getD j default).hi⟩:=by
 have hI: ∀j,j<a.length→W1e (a.getD j default) (b.getD j default)=(⟨X0j (a.getD j default).lo (b.getD j default).lo,X0h (a.getD j default).hi (b.getD j default).hi⟩,0):=fun j hj=>Z1w (H0o ha hj) (H0o hb (by omega))
 unfold q0y
 rw [if_pos ⟨ha,hb,hl⟩,K0h]
 have h0:(tabF (fun j=>W1e (a.getD j default) (b.getD j default)) 0 a.length []).2=0:=x0m _ _ _ fun j _ hj=>by show(W1e (a.getD j default) (b.getD j default)).2=0;rw [hI j (by omega)]
 obtain⟨g1,g2,g3⟩:=x0l h0
 refine⟨h0,g1,fun j hj=> ?_⟩
 rw [g3 j hj]
 show(W1e (a.getD j default) (b.getD j default)).1=_
 rw [hI j hj]
theorem G2o (a b:Nm):(qN (X0j a b)=qN a∨qN (X0j a b)=qN b)∧qN (X0j a b)≤qN a∧qN (X0j a b)≤qN b:=by
 unfold X0j
 split
 · rename_i h
   have:=cmpN_lt.1 h
   exact⟨.inr rfl,by grind,Rat.le_refl⟩
 · rename_i h
   have h2: ¬qN b<qN a:=fun e=>h (cmpN_lt.2 e)
   exact⟨.inl rfl,Rat.le_refl,by grind⟩
theorem H2b (a b:Nm):(qN (X0h a b)=qN a∨qN (X0h a b)=qN b)∧qN a≤qN (X0h a b)∧qN b≤qN (X0h a b):=by
 unfold X0h
 split
 · rename_i h
   have:=cmpN_gt.1 h
   exact⟨.inr rfl,by grind,Rat.le_refl⟩
 · rename_i h
   have h2: ¬qN a<qN b:=fun e=>h (cmpN_gt.2 e)
   exact⟨.inl rfl,Rat.le_refl,by grind⟩
theorem inB_sub {a b:List Ivl} :inB a b=true↔rightB a=true∧rightB b=true∧a.length=b.length∧ ∀j,j<a.length→subI (a.getD j default) (b.getD j default):=by
 unfold inB allF
 simp only [Bool.and_eq_true,decide_eq_true_eq,List.all_eq_true,List.mem_range]
 constructor
 · rintro⟨⟨ha,hb⟩,hl,hj⟩
   exact⟨ha,hb,hl,fun j h=>(G2x (H0o ha h) (H0o hb (by omega))).1 (hj j h)⟩
 · rintro⟨ha,hb,hl,hj⟩
   exact⟨⟨ha,hb⟩,hl,fun j h=>(G2x (H0o ha h) (H0o hb (by omega))).2 (hj j h)⟩
theorem G1i {h:Nm} (hr:Q0f h=true):(¬sgnN (ownN h)≤0)↔0<qN h:=by
 unfold ownN
 rw [if_pos hr,←v1a];omega
theorem W1u {h:Nm} (hr:Q0f h=true) (h0:0<qN h):Q0n ⟨default,h⟩=true:=V0h v1d hr (cmpN_le.2 (by rw [H0b];grind))
structure NextOK (f:List (List Mn)) (x a:List Ivl) (h:Nm) (p:Int):Prop where
 rf:W0g f=true
 rx:rightB x=true
 ra:rightB a=true
 lx:x.length=f.length
 la:a.length=f.length
 rh:Q0f h=true
 ph:0<qN h
 pp:Z0t p=true
 e1:(J0o f a p).2=0
 e2:(G0m ⟨default,h⟩ (J0o f a p).1 p).2=0
 e3:(opB 0 x (G0m ⟨default,h⟩ (J0o f a p).1 p).1 p).2=0
theorem nextP_iff {f:List (List Mn)} {x a:List Ivl} {h:Nm} {p:Int} :(U0l f x a h p).2=0↔NextOK f x a h p:=by
 constructor
 · intro e
   unfold U0l at e
   split at e
   · rename_i c
     obtain⟨c1,c2,c3,c4,c5,c6,c7,c8⟩:=c
     split at e
     · rename_i d1
       split at e
       · rename_i d2
         exact⟨c1,c2,c3,c4,c5,c6,(G1i c6).1 c7,c8,d1,d2,e⟩
       · rename_i d2;exact absurd e d2
     · rename_i d1;exact absurd e d1
   · exact absurd e (by decide)
 · rintro⟨c1,c2,c3,c4,c5,c6,c7,c8,d1,d2,e⟩
   unfold U0l
   rw [if_pos ⟨c1,c2,c3,c4,c5,c6,(G1i c6).2 c7,c8⟩,if_pos d1,if_pos d2]
   exact e
theorem NextOK.val {f:List (List Mn)} {x a:List Ivl} {h:Nm} {p:Int} (n:NextOK f x a h p):(U0l f x a h p).1=(opB 0 x (G0m ⟨default,h⟩ (J0o f a p).1 p).1 p).1:=by
 unfold U0l
 rw [if_pos ⟨n.rf,n.rx,n.ra,n.lx,n.la,n.rh,(G1i n.rh).2 n.ph,n.pp⟩,if_pos n.e1,if_pos n.e2]
theorem J1s {f:List (List Mn)} {a:List Ivl} {p:Int} (h:(J0o f a p).2=0):(W0g f=true∧a.length=f.length)∧(J0o f a p).1.length=f.length∧ ∀j,j<f.length→(J0o f a p).1.getD j default=(J0c (f.getD j []) a p (f.getD j []).length).1∧(J0c (f.getD j []) a p (f.getD j []).length).2=0:=by
 unfold J0o at h⊢
 by_cases c:W0g f=true∧a.length=f.length
 · rw [if_pos c] at h⊢
   obtain⟨g1,g2,g3⟩:=x0l h
   refine⟨c,g1,fun j hj=> ?_⟩
   have e:=g2 j hj
   rw [g3 j hj]
   show(v0y (f.getD j []) a p).1=_∧_
   replace e:(v0y (f.getD j []) a p).2=0:=e
   unfold v0y at e⊢
   split at e
   · rename_i d;rw [if_pos d];exact⟨rfl,e⟩
   · exact absurd e (by decide)
 · rw [if_neg c] at h;exact absurd h (by decide)
structure NextAt (f:List (List Mn)) (x a:List Ivl) (h:Nm) (p:Int) (j:Nat):Prop where
 r0:(J0c (f.getD j []) a p (f.getD j []).length).2=0
 t0:(opI 2 ⟨default,h⟩ (J0c (f.getD j []) a p (f.getD j []).length).1 p).2=0
 s0:(opI 0 (x.getD j default) (opI 2 ⟨default,h⟩ (J0c (f.getD j []) a p (f.getD j []).length).1 p).1 p).2=0
 val:(U0l f x a h p).1.getD j default=(opI 0 (x.getD j default) (opI 2 ⟨default,h⟩ (J0c (f.getD j []) a p (f.getD j []).length).1 p).1 p).1
theorem NextOK.len {f:List (List Mn)} {x a:List Ivl} {h:Nm} {p:Int} (n:NextOK f x a h p):(U0l f x a h p).1.length=f.length:=by
 rw [n.val,(v1u n.e3).2.1,n.lx]
theorem NextOK.at {f:List (List Mn)} {x a:List Ivl} {h:Nm} {p:Int} (n:NextOK f x a h p) {j:Nat} (hj:j<f.length):NextAt f x a h p j:=by
 obtain⟨_,r1,r2⟩:=J1s n.e1
 obtain⟨r3,r4⟩:=r2 j hj
 obtain⟨_,t1,t2,t3⟩:=W1t n.e2
 obtain⟨_,s1,s2,s3⟩:=v1u n.e3
 have t2:=t2 j (by omega)
 have t3:=t3 j (by omega)
 have s2:=s2 j (by rw [n.lx];exact hj)
 have s3:=s3 j (by rw [n.lx];exact hj)
 rw [r3] at t2 t3
 rw [t3] at s2 s3
 exact⟨r4,t2,s2,by rw [n.val];exact s3⟩
theorem J2x {k:Nat} {a b:List Ivl} {p:Int} (h:(opB k a b p).2=0):rightB (opB k a b p).1=true:=by
 obtain⟨c,l,_,v⟩:=v1u h
 have:=W0z c.1
 exact J0t (fun j hj=>by rw [v j (by omega)];exact K1b _ _ _ _) (by omega) (by omega)
theorem NextOK.rightB {f:List (List Mn)} {x a:List Ivl} {h:Nm} {p:Int} (n:NextOK f x a h p):Go.Pv.rightB (U0l f x a h p).1=true:=by
 rw [n.val];exact J2x n.e3
theorem k2r {f:List (List Mn)} {x a:List Ivl} {h:Nm} {p:Int} (rf:W0g f=true) (rx:rightB x=true) (ra:rightB a=true) (lx:x.length=f.length) (la:a.length=f.length) (rh:Q0f h=true) (ph:0<qN h) (pp:Z0t p=true) (e1:(J0o f a p).2=0)
 (h2: ∀j,j<f.length→(opI 2 ⟨default,h⟩ (J0c (f.getD j []) a p (f.getD j []).length).1 p).2=0)
 (h3: ∀j,j<f.length→(opI 0 (x.getD j default) (opI 2 ⟨default,h⟩ (J0c (f.getD j []) a p (f.getD j []).length).1 p).1 p).2=0):NextOK f x a h p:=by
 obtain⟨_,r1,r2⟩:=J1s e1
 have hx:=W0z rx
 have rr:rightB (J0o f a p).1=true:=J0t (fun j hj=>by
  obtain⟨q1,q2⟩:=r2 j (by omega)
  have:=h2 j (by omega)
  rw [q1];exact(Z1s this).2.1) (by omega) (by omega)
 have e2:(G0m ⟨default,h⟩ (J0o f a p).1 p).2=0:=X2u ⟨rr,W1u rh ph,pp⟩ fun j hj=>by
  rw [(r2 j (by omega)).1];exact h2 j (by omega)
 obtain⟨_,t1,t2,t3⟩:=W1t e2
 have rt:rightB (G0m ⟨default,h⟩ (J0o f a p).1 p).1=true:=J0t (fun j hj=>by
  rw [t3 j (by omega)];exact K1b _ _ _ _) (by omega) (by omega)
 refine⟨rf,rx,ra,lx,la,rh,ph,pp,e1,e2,K3d ⟨rx,rt,by omega,pp⟩ fun j hj=> ?_⟩
 rw [t3 j (by omega),(r2 j (by omega)).1]
 exact h3 j (by omega)
theorem x0d {a:Ivl} {p:Int} (h:(H0h a p).2=0):(K0m a p).2=0∧(X0y (K0m a p).1 (-2)).2=0∧(U0k 1 a.lo (X0y (K0m a p).1 (-2)).1 p false).2=0∧(U0k 0 a.hi (X0y (K0m a p).1 (-2)).1 p true).2=0∧
 (H0h a p).1=⟨(U0k 1 a.lo (X0y (K0m a p).1 (-2)).1 p false).1,(U0k 0 a.hi (X0y (K0m a p).1 (-2)).1 p true).1⟩:=by
 unfold H0h at h⊢
 split at h
 · rename_i c;exact absurd h c
 · rename_i c
   split at h
   · rename_i d;exact absurd h d
   · rename_i d
     split at h
     · exact absurd h (by decide)
     · rename_i e
       rw [if_neg c,if_neg d,if_neg e]
       have e1: ¬(U0k 1 a.lo (X0y (K0m a p).1 (-2)).1 p false).2≠0:=fun q=>e (.inl q)
       have e2: ¬(U0k 0 a.hi (X0y (K0m a p).1 (-2)).1 p true).2≠0:=fun q=>e (.inr q)
       exact⟨Classical.not_not.1 c,Classical.not_not.1 d,Classical.not_not.1 e1,Classical.not_not.1 e2,rfl⟩
theorem y2c {a:Ivl} {p:Int} (h1:(K0m a p).2=0) (h2:(X0y (K0m a p).1 (-2)).2=0) (h3:(U0k 1 a.lo (X0y (K0m a p).1 (-2)).1 p false).2=0) (h4:(U0k 0 a.hi (X0y (K0m a p).1 (-2)).1 p true).2=0):(H0h a p).2=0:=by
 unfold H0h
 rw [if_neg (by rw [h1];decide),if_neg (by rw [h2];decide),if_neg (by rw [h3,h4];decide)]
theorem y0t {k:Nat} {a b:Nm} {p:Int} {up:Bool} (h:(U0k k a b p up).2=0):Q0f a=true∧Q0f b=true∧Z0t p=true:=by
 unfold U0k at h
 split at h
 · assumption
 · exact absurd h (by decide)
theorem J1i {k:Nat} {a b:Nm} {p:Int} {up:Bool} (h:(U0k k a b p up).2=0):qN (U0k k a b p up).1=qV (Z0k (exV k (ofN a) (ofN b)) p.toNat up):=by
 have c:=y0t h
 unfold U0k at h⊢
 rw [if_pos c] at h⊢
 exact(J0f (Z0c (V1j k (X0u c.1) (X0u c.2.1)) _ _) h).2
theorem x0h {a:Ivl} {p:Int} (h:(K0m a p).2=0):Q0n a=true∧Z0t p=true:=by
 unfold K0m at h
 split at h
 · assumption
 · exact absurd h (by decide)
theorem q1m {a:Ivl} {p:Int} (h:(K0m a p).2=0):qN (K0m a p).1=qV (Z0k (G0a (ofN a.hi) (ofN a.lo)) p.toNat true):=by
 have c:=x0h h
 have hc:=canI c.1
 unfold K0m at h⊢
 rw [if_pos c] at h⊢
 exact(J0f (Z0c (G0i hc.2 hc.1) _ _) h).2
end Go.Pv
end
section
/-How great what is reckoned gets:at most a power of two,which rounding does not pass. No program in it. -/
namespace Go.Pv
theorem x1l (e:Int):p2 e=qM 1 e:=by simp [qM]
theorem K3a {a b:Int} (h:a≤b):p2 a≤p2 b:=by
 rw [x1l,x1l,show b=a+((b-a).toNat:Int) from by omega,←W0v,qM_le]
 have:0<(2:Int)^(b-a).toNat:=Int.pow_pos (by decide)
 omega
theorem v1t (a:Int):p2 (a+1)=p2 a*2:=by
 rw [w0d];congr 1
def magQ (e:Int) (x:Rat):Prop:= -(p2 e)≤x∧x≤p2 e
theorem K1j (e:Int):magQ e 0:=by
 have:=Q1y e
 exact⟨by grind,by grind⟩
theorem magQ.up {e g:Int} {x:Rat} (h:magQ e x) (he:e≤g):magQ g x:=by
 have:=K3a he
 exact⟨by have:=h.1;grind,by have:=h.2;grind⟩
theorem Z1u {e:Int} {x:Rat} (h:magQ e x):magQ e (-x):=⟨by have:=h.2;grind,by have:=h.1;grind⟩
theorem Z1v {e:Int} {x y:Rat} (h:magQ e x) (g:magQ e y):magQ (e+1) (x+y):=by
 obtain⟨a,b⟩:=h
 obtain⟨c,d⟩:=g
 refine⟨?_,?_⟩
 · rw [v1t];grind
 · rw [v1t];grind
theorem Z2c {e g:Int} {x y:Rat} (h:magQ e x) (k:magQ g y):magQ (e+g) (x*y):=by
 obtain⟨a,b⟩:=h
 obtain⟨c,d⟩:=k
 have q1:=J0d (a:=p2 e-x) (b:=p2 g+y) (by grind) (by grind)
 have q2:=J0d (a:=p2 e+x) (b:=p2 g-y) (by grind) (by grind)
 have q3:=J0d (a:=p2 e-x) (b:=p2 g-y) (by grind) (by grind)
 have q4:=J0d (a:=p2 e+x) (b:=p2 g+y) (by grind) (by grind)
 unfold magQ
 rw [w0d]
 exact⟨by grind,by grind⟩
theorem H1f {e:Int} {x:Rat} (h:magQ e x): ∀k:Nat,magQ (e*k) (powQ x k)
 | 0=>by
  show magQ (e*((0:Nat):Int)) 1
  rw [Int.natCast_zero,Int.mul_zero]
  unfold magQ
  rw [v1s]
  exact⟨by decide,Rat.le_refl⟩
 | k+1=>by
  show magQ _ (powQ x k*x)
  rw [show e*((k+1:Nat):Int)=e*k+e from by rw [Int.natCast_add,Int.mul_add];omega]
  exact Z2c (H1f h k) h
theorem G2g {L U:Nat} {x:Rat} (h:luQ L U x):magQ U x:=by
 obtain⟨z,rfl,hz⟩:=h
 have e:p2 (U:Int)=qM (2^(L+U)) (-(L:Int)):=by
  rw [x1l,show(U:Int)= -(L:Int)+((L+U:Nat):Int) from by omega,←W0v,Int.one_mul]
 have hz2:(z.natAbs:Int)≤2^(L+U):=by
  have:((2^(L+U):Nat):Int)=2^(L+U):=by simp
  rw [←this];exact_mod_cast hz
 unfold magQ
 rw [e,←J1u,qM_le,qM_le]
 omega
theorem w2b (p:Nat) (e:Int):V3m p (-(p2 e)):=⟨-1,e,by rw [x1l,J1u],Nat.one_le_two_pow⟩
theorem U0z {e:Int} {v:Vl} {p:Nat} (hp:1≤p) (h:magQ e (qV v)) (up:Bool):magQ e (qV (Z0k v p up)):=by
 have dn: ∀w:Vl,magQ e (qV w)→magQ e (qV (Z0k w p false)):=fun w hw=>⟨W1x hp (w2b p e) hw.1,Rat.le_trans (Y0n w p) hw.2⟩
 cases up with
 | false=>exact dn v h
 | true=>
  rw [y0l]
  refine Z1u (dn _ ?_)
  rw [U0b];exact Z1u h
def ampI (e:Int) (a:Ivl):Prop:=magQ e (qN a.lo)∧magQ e (qN a.hi)
theorem ampI.up {e g:Int} {a:Ivl} (h:ampI e a) (he:e≤g):ampI g a:=⟨h.1.up he,h.2.up he⟩
theorem j0h {e:Int} {a:Ivl} (h:ampI e a) {X:Rat} (hX:memI X a):magQ e X:=⟨Rat.le_trans h.1.1 hX.1,Rat.le_trans hX.2 h.2.2⟩
theorem w1e {L U:Nat} {a:Ivl} (h:luI L U a):ampI U a:=⟨G2g h.2.1,G2g h.2.2⟩
theorem U2t {k:Nat} {a b:Ivl} {p:Int} {g:Int} (h:(opI k a b p).2=0) (hx: ∀X U,memI X a→memI U b→magQ g (exQ k X U)):ampI g (opI k a b p).1:=by
 have r:=Z1s h
 obtain⟨e1,e2⟩:=Q2s h
 have pp:=V0i r.2.2
 obtain⟨X,U,x1,x2,x3⟩:=X4j k r.1 r.2.1
 obtain⟨Y,V,y1,y2,y3⟩:=X4t k r.1 r.2.1
 refine⟨?_,?_⟩
 · rw [e1];exact U0z pp (by rw [x3];exact hx X U x1 x2) _
 · rw [e2];exact U0z pp (by rw [y3];exact hx Y V y1 y2) _
theorem Q2q {a b:Ivl} {p:Int} {e g:Int} (h:(opI 2 a b p).2=0) (ha:ampI e a) (hb:ampI g b):ampI (e+g) (opI 2 a b p).1:=
 U2t h fun X U hX hU=>by rw [exQ2];exact Z2c (j0h ha hX) (j0h hb hU)
theorem Q2r {a b:Ivl} {p:Int} {e:Int} (h:(opI 0 a b p).2=0) (ha:ampI e a) (hb:ampI e b):ampI (e+1) (opI 0 a b p).1:=
 U2t h fun X U hX hU=>by rw [exQ0];exact Z1v (j0h ha hX) (j0h hb hU)
theorem j2v {a:Ivl} {k p:Int} {e:Int} (h:(powI a k p).2=0) (ha:ampI e a):ampI (e*k.toNat) (powI a k p).1:=by
 have r:=x1i h
 obtain⟨e1,e2⟩:=U2h h
 have pp:=V0i r.2.2.2
 obtain⟨X,x1,x3⟩:=j2u r.1 k.toNat
 obtain⟨Y,y1,y3⟩:=j2x r.1 k.toNat
 refine⟨?_,?_⟩
 · rw [e1];exact U0z pp (by rw [x3];exact H1f (j0h ha x1) _) _
 · rw [e2];exact U0z pp (by rw [y3];exact H1f (j0h ha y1) _) _
theorem x1n {m:Mn} {b:List Ivl} {p:Int} {c e:Int} (hc:magQ c (qN m.c)) (hk:U0h m.ks=true): ∀i,i≤m.ks.length→(∀j,j<i→ampI e (b.getD j default))→(Y0w m b p i).2=0→ampI (c+e*sumK m.ks i) (Y0w m b p i).1
 | 0,_,_,_=>by
  have:sumK m.ks 0=0:=rfl
  rw [this,Int.natCast_zero,Int.mul_zero,Int.add_zero]
  exact⟨hc,hc⟩
 | i+1,hi,hb,h=>by
  have ih:=x1n (e:=e) hc hk i (by omega) (fun j hj=>hb j (by omega)) (Y1p h)
  have hs:=V0s hk (i+1) hi
  have hs0:=V0s hk i (by omega)
  have hat:=U0t hk i (by omega)
  have hst:=x0n m.ks i (by omega)
  have hsum:sumK m.ks (i+1)=sumK m.ks i+(m.ks.getD i 0).toNat:=by unfold sumK;omega
  rcases J2w h with ⟨d,q⟩ | ⟨d,d2,q⟩
  · rw [q,hsum,d];exact ih
  · rw [q] at h⊢
    have:=Q2q h ih (j2v d2 (hb i (by omega)))
    rw [hsum,Int.natCast_add,Int.mul_add,←Int.add_assoc]
    exact this
theorem Y1n {q:List Mn} {b:List Ivl} {p:Int} {g:Int} : ∀i,(∀j,j<i→(Y0w (q.getD j default) b p b.length).2=0→ampI g (Y0w (q.getD j default) b p b.length).1)→(J0c q b p i).2=0→ampI (g+i) (J0c q b p i).1
 | 0,_,_=>by
  have e:qN (default:Ivl).lo=0:=J0p 0
  have e2:qN (default:Ivl).hi=0:=J0p 0
  exact⟨by show magQ _ (qN (default:Ivl).lo);rw [e];exact K1j _,by show magQ _ (qN (default:Ivl).hi);rw [e2];exact K1j _⟩
 | i+1,hj,h=>by
  obtain⟨c1,c2,e⟩:=v1i h
  have ih:=Y1n i (fun j hjl=>hj j (by omega)) c1
  rw [e] at h⊢
  have:=Q2r h ih ((hj i (by omega) c2).up (by omega))
  rw [show g+((i+1:Nat):Int)=g+i+1 from by omega]
  exact this
theorem Q1o {a:Ivl} {p:Int} (h:(H0h a p).2=0): ∃s:Rat,qN a.hi-qN a.lo≤s*4∧0≤s∧
 (∃v:Vl,canV v∧qV v=qN a.lo-s∧qN (H0h a p).1.lo=qV (Z0k v p.toNat false))∧(∃v:Vl,canV v∧qV v=qN a.hi+s∧qN (H0h a p).1.hi=qV (Z0k v p.toNat true))∧ ∃w:Vl,canV w∧qV w=qN a.hi-qN a.lo∧s*4=qV (Z0k w p.toNat true):=by
 obtain⟨w0,s0,l0,h0,e⟩:=x0d h
 have hw:=q1m w0
 obtain⟨wn,pp⟩:=x0h w0
 have hs:=(x0s (x:=(K0m a p).1) (k:=2) s0).2
 have hr:=y0t l0
 have hr2:=y0t h0
 rw [show p2 ((2:Nat):Int)=4 from Q3k] at hs
 rw [show -((2:Nat):Int)= -2 from rfl] at hs
 have hge:=H0l (G0a (ofN a.hi) (ofN a.lo)) p.toNat
 rw [←hw,U0c,X0k,X0k] at hge
 have hle:=z0l wn
 rw [X0k,X0k] at hle
 have ca:=canI wn
 refine⟨qN (X0y (K0m a p).1 (-2)).1,by rw [hs];exact hge,by grind,⟨exV 1 (ofN a.lo) (ofN (X0y (K0m a p).1 (-2)).1),V1j 1 ca.1 (X0u hr.2.1),by rw [J3s,exQ1,X0k,X0k],?_⟩,
  ⟨exV 0 (ofN a.hi) (ofN (X0y (K0m a p).1 (-2)).1),V1j 0 ca.2 (X0u hr.2.1),by rw [J3s,exQ0,X0k,X0k],?_⟩,G0a (ofN a.hi) (ofN a.lo),G0i ca.2 ca.1,by rw [U0c,X0k,X0k],by rw [hs,hw]⟩
 · rw [e];exact J1i l0
 · rw [e];exact J1i h0
theorem w1z {a:Ivl} {p:Int} (h:(H0h a p).2=0):Q0n (H0h a p).1=true∧subI a (H0h a p).1:=by
 obtain⟨s,h1,h2,⟨v,_,h3,h4⟩,⟨u,_,h5,h6⟩,_⟩:=Q1o h
 obtain⟨w0,s0,l0,h0,e⟩:=x0d h
 have wn:=(x0h w0).1
 have q1:=Y0n v p.toNat
 have q2:=H0l u p.toNat
 have hle:=z0l wn
 rw [X0k,X0k] at hle
 have hs:subI a (H0h a p).1:=⟨by rw [h4];grind,by rw [h6];grind⟩
 refine⟨V0h ?_ ?_ (cmpN_le.2 ?_),hs⟩
 · rw [e];exact J1j _ _ _ _ _
 · rw [e];exact J1j _ _ _ _ _
 · have:=hs.1
   have:=hs.2
   grind
theorem q2q {a:Ivl} {p:Int} {e:Int} (h:(H0h a p).2=0) (ha:ampI e a):ampI (e+1) (H0h a p).1:=by
 have pp:=V0i (x0h (x0d h).1).2
 obtain⟨s,h1,h2,⟨v,_,h3,h4⟩,⟨u,_,h5,h6⟩,w,_,h7,h8⟩:=Q1o h
 have m1:magQ (e+1) (s*4):=by
  rw [h8]
  refine U0z pp ?_ _
  rw [h7,Rat.sub_eq_add_neg]
  exact Z1v ha.2 (Z1u ha.1)
 have m2:magQ e s:=by
  have:=m1.2
  have:=m1.1
  have e2:=v1t e
  have:=Q1y e
  exact⟨by grind,by grind⟩
 refine⟨?_,?_⟩
 · rw [h4]
   refine U0z pp ?_ _
   rw [h3,Rat.sub_eq_add_neg];exact Z1v ha.1 (Z1u m2)
 · rw [h6]
   refine U0z pp ?_ _
   rw [h5];exact Z1v ha.2 m2
theorem Q2a {k L U:Nat} {x y:Nm} {p:Int} (hk:k<2) (hx:Q0f x=true) (hy:Q0f y=true) (h1:luQ L U (qN x)) (h2:luQ L U (qN y)) (hp:Z0t p=true) (up:Bool) (hb:L+U+3≤4096):(U0k k x y p up).2=0∧luQ L (U+2) (qN (U0k k x y p up).1):=by
 have hc:canV (exV k (ofN x) (ofN y)):=V1j k (X0u hx) (X0u hy)
 have hq:qV (exV k (ofN x) (ofN y))=exQ k (qN x) (qN y):=by rw [J3s];rfl
 have hl:luQ L (U+1) (qV (exV k (ofN x) (ofN y))):=by
  rw [hq]
  unfold exQ
  split
  · exact q0m h1 h2
  · rw [if_pos (by omega)];exact H1g h1 h2
 have hr:=W0k hc hl p.toNat (V0i hp) up
 have hf:(U0k k x y p up).2=0:=by
  unfold U0k
  rw [if_pos ⟨hx,hy,hp⟩]
  exact U0o (Z0c hc _ _) hr (by omega)
 exact⟨hf,by rw [J1i hf];exact hr⟩
theorem y2d {L U:Nat} {a:Ivl} {p:Int} (ha:luI L U a) (hp:Z0t p=true) (hb:L+U+8≤4096):(H0h a p).2=0∧luI (L+2) (U+4) (H0h a p).1:=by
 have ca:=canI ha.1
 have rr:=Z0a ha.1
 have hl:luQ L (U+1) (qV (G0a (ofN a.hi) (ofN a.lo))):=by rw [U0c,X0k,X0k];exact H1g ha.2.2 ha.2.1
 have cl:=G0i ca.2 ca.1
 have hr:=W0k cl hl p.toNat (V0i hp) true
 have w0:(K0m a p).2=0:=by
  unfold K0m
  rw [if_pos ⟨ha.1,hp⟩]
  exact U0o (Z0c cl _ _) hr (by omega)
 rw [←q1m w0] at hr
 obtain⟨s0,s1⟩:=X1u (k:=2) (k1t a p) hr (by omega) (by omega)
 rw [show -((2:Nat):Int)= -2 from rfl] at s0 s1
 have sr:=z0e (K0m a p).1 (-2)
 obtain⟨l0,l1⟩:=Q2a (k:=1) (by omega) rr.1 sr (ha.2.1.mono (L':=L+2) (U':=U+2) (by omega) (by omega)) s1 hp false (by omega)
 obtain⟨h0,h1⟩:=Q2a (k:=0) (by omega) rr.2.1 sr (ha.2.2.mono (L':=L+2) (U':=U+2) (by omega) (by omega)) s1 hp true (by omega)
 have hb0:=y2c w0 s0 l0 h0
 refine⟨hb0,(w1z hb0).1,?_,?_⟩
 · rw [(x0d hb0).2.2.2.2];exact l1
 · rw [(x0d hb0).2.2.2.2];exact h1
end Go.Pv
end
section
/-For a short time a box is found. No program in it. -/
namespace Go.Pv
def K3f (n M:Nat) (D:Int) (p:List Mn):Prop:=V0r p n=true∧p.length≤M∧ ∀m∈p,okMn n 6 (8+M) D m
def okFieldT (n M:Nat) (D:Int) (f:List (List Mn)):Prop:=f.length=n∧ ∀p∈f,K3f n M D p
theorem okFieldT.ok {n M:Nat} {D:Int} {f:List (List Mn)} (h:okFieldT n M D f):okField n M D f:=⟨h.1,fun p hp=>⟨(h.2 p hp).1,(h.2 p hp).2.1,fun m hm=>by
 obtain⟨a1,a2,a3,a4,a5,a6⟩:=(h.2 p hp).2.2 m hm
 exact⟨a1,a2,a3,a4,a5,a6.mono (by omega) (by omega)⟩⟩⟩
theorem okFieldT.at {n M:Nat} {D:Int} {f:List (List Mn)} (h:okFieldT n M D f) {i j:Nat} (hi:i<f.length) (hj:j<(f.getD i []).length):okMn n 6 (8+M) D ((f.getD i []).getD j default):=by
 have e:f.getD i []=f[i]:=by simp [List.getD_eq_getElem?_getD,hi]
 rw [e] at hj⊢
 exact z0w (h.2 _ (List.getElem_mem hi)).2.2 hj
theorem X3z {ks:List Int} {D:Int} (hr:U0h ks=true) (h:ks.sum≤D) {i:Nat} (hi:i≤ks.length):(sumK ks i:Int)≤D:=by
 have h0:=V0s hr i hi
 have h1:(ks.take i).sum≤ks.sum:=by
  have hk:=((V0a ks).1 hr).1
  have: ∀(l:List Int) (n:Nat),(∀j,j<l.length→0≤l.getD j 0)→(l.take n).sum≤l.sum:=by
   intro l
   induction l with
   | nil=>intro n _;simp
   | cons x l ih=>
    intro n hp
    have hx:0≤x:=hp 0 (by simp)
    have hp': ∀j,j<l.length→0≤l.getD j 0:=fun j hj=>by have:=hp (j+1) (by simpa using hj);simpa using this
    cases n with
    | zero=>
     have:=ih 0 hp'
     simp at this⊢;omega
    | succ n=>
     have:=ih n hp'
     simp;omega
  exact this ks i hk
 unfold sumK;omega
theorem J2o {n:Nat} {f:List (List Mn)} {a:List Ivl} {p:Int} {e:Int} (he:0≤e) (hf:okFieldT n 3 3 f) (hl:a.length=n) {i:Nat} (hi:i<n) (ha: ∀j,j<n→ampI e (a.getD j default)) (h0:(J0c (f.getD i []) a p (f.getD i []).length).2=0):
 ampI (14+e*3) (J0c (f.getD i []) a p (f.getD i []).length).1:=by
 have hfl:=hf.1
 have hlen:(f.getD i []).length≤3:=by
  have e:f.getD i []=f[i]'(by omega):=by simp [List.getD_eq_getElem?_getD,(by omega:i<f.length)]
  rw [e];exact(hf.2 _ (List.getElem_mem _)).2.1
 refine(Y1n (g:=11+e*3) _ (fun j hj c=> ?_) h0).up (by omega)
 obtain⟨a1,a2,a3,a4,a5,a6⟩:=hf.at (by omega:i<f.length) hj
 have hs:=X3z a2 a3 (i:=a.length) (by omega)
 have hm:=x1n (c:=11) (e:=e) (p:=p) ((G2g a6).up (by omega)) a2 a.length (by omega) (fun j hj=>ha j (by omega)) c
 refine hm.up ?_
 have:e*(sumK ((f.getD i []).getD j default).ks a.length:Int)≤e*3:=Int.mul_le_mul_of_nonneg_left hs he
 omega
theorem V3c {L U:Nat} {a b:Ivl} (ha:luI L U a) (hb:luI L U b):luI L U ⟨X0j a.lo b.lo,X0h a.hi b.hi⟩∧subI a ⟨X0j a.lo b.lo,X0h a.hi b.hi⟩∧subI b ⟨X0j a.lo b.lo,X0h a.hi b.hi⟩:=by
 have hr:Q0n (⟨X0j a.lo b.lo,X0h a.hi b.hi⟩:Ivl)=true:=by
  have:=w1f ha.1 hb.1
  rw [Z1w ha.1 hb.1] at this;exact this
 obtain⟨q1,q2,q3⟩:=G2o a.lo b.lo
 obtain⟨g1,g2,g3⟩:=H2b a.hi b.hi
 refine⟨⟨hr,?_,?_⟩,⟨q2,g2⟩,⟨q3,g3⟩⟩
 · rcases q1 with q1 | q1
   · show luQ L U (qN (X0j a.lo b.lo));rw [q1];exact ha.2.1
   · show luQ L U (qN (X0j a.lo b.lo));rw [q1];exact hb.2.1
 · rcases g1 with g1 | g1
   · show luQ L U (qN (X0h a.hi b.hi));rw [g1];exact ha.2.2
   · show luQ L U (qN (X0h a.hi b.hi));rw [g1];exact hb.2.2
theorem v2q {e:Int} {a b:Ivl} (ha:ampI e a) (hb:ampI e b):ampI e ⟨X0j a.lo b.lo,X0h a.hi b.hi⟩:=by
 obtain⟨q1,q2,q3⟩:=G2o a.lo b.lo
 obtain⟨g1,g2,g3⟩:=H2b a.hi b.hi
 refine⟨?_,?_⟩
 · rcases q1 with q1 | q1
   · show magQ e (qN (X0j a.lo b.lo));rw [q1];exact ha.1
   · show magQ e (qN (X0j a.lo b.lo));rw [q1];exact hb.1
 · rcases g1 with g1 | g1
   · show magQ e (qN (X0h a.hi b.hi));rw [g1];exact ha.2
   · show magQ e (qN (X0h a.hi b.hi));rw [g1];exact hb.2
def z0v :Nm:=⟨false, -60,[1]⟩
theorem w1h :qN z0v=p2 (-60):=by rw [x1l];rfl
theorem K1p :Q0f z0v=true:=by decide
theorem x1z :0<qN z0v:=by rw [w1h];exact Q1y _
theorem v2v :luI 60 0 ⟨default,z0v⟩:=⟨W1u K1p x1z,by show luQ 60 0 (qN default);rw [H0b];exact q0l _ _,by show luQ 60 0 (qN z0v);rw [w1h];exact⟨1,x1l _,by decide⟩⟩
theorem G2z :ampI (-60) ⟨default,z0v⟩:=⟨by show magQ _ (qN default);rw [H0b];exact K1j _,by show magQ _ (qN z0v);rw [w1h];have:=Q1y (-60);exact⟨by grind,Rat.le_refl⟩⟩
theorem x1r {n:Nat} {f:List (List Mn)} {x a:List Ivl} {p:Int} {L U:Nat} {e:Int} (hf:okFieldT n 3 3 f) (hn1:1≤n) (hn4:n≤4) (hx:x.length=n) (hxl: ∀j,j<n→luI 6 9 (x.getD j default)) (ha:a.length=n) (hal: ∀j,j<n→luI L U (a.getD j default)) (hL:6≤L) (hU:9≤U)
 (hp:Z0t p=true) (hbd:400+8*L+8*U≤4096) (he:0≤e) (he2:14+e*3≤52) (ham: ∀j,j<n→ampI e (a.getD j default)):
 NextOK f x a z0v p∧ ∀j,j<n→luI (72+L*8) (50+U*8) ((U0l f x a z0v p).1.getD j default)∧ampI (-8) (opI 2 ⟨default,z0v⟩ (J0c (f.getD j []) a p (f.getD j []).length).1 p).1:=by
 have hfl:=hf.1
 obtain⟨r1,r2,r3⟩:=G1y (L:=L) (U:=U) hf.ok (by omega) ha hn1 hn4 (fun j hj=>hal j (by omega)) hp (by omega)
 have ht: ∀j,j<n→_:=fun j hj=>U2u v2v (r3 j hj).2.2 hp (by omega)
 have hs: ∀j,j<n→_:=fun j hj=>U2v (k:=0) (by omega) ((hxl j hj).mono (L':=60+(12+L*8)) (U':=0+(26+3+U*8+2*3)+1) (by omega) (by omega)) (ht j hj).2 hp (by omega)
 have hrx:rightB x=true:=J0t (fun j hj=>(hxl j (by omega)).1) (by omega) (by omega)
 have hra:rightB a=true:=J0t (fun j hj=>(hal j (by omega)).1) (by omega) (by omega)
 have N:NextOK f x a z0v p:=k2r (hf.ok.right hn1 hn4) hrx hra (by omega) (by omega) K1p x1z hp r1 (fun j hj=>(ht j (by omega)).1) (fun j hj=>(hs j (by omega)).1)
 refine⟨N,fun j hj=> ?_⟩
 have A:=N.at (j:=j) (by omega)
 refine⟨by rw [A.val];exact(hs j hj).2.mono (by omega) (by omega),?_⟩
 have m:=J2o he hf ha hj ham (r3 j hj).2.1
 exact(Q2q (ht j hj).1 G2z m).up (by omega)
theorem U4i {n:Nat} {f:List (List Mn)} {x:List Ivl} {p:Int} (hf:okFieldT n 3 3 f) (hn1:1≤n) (hn4:n≤4) (hx:x.length=n) (hxl: ∀j,j<n→luI 6 9 (x.getD j default)) (hw: ∀j,j<n→qN (x.getD j default).lo+p2 (-6)≤qN (x.getD j default).hi) (hp:Z0t p=true):
 (boxP f x z0v p).2=true:=by
 have pp:=V0i hp
 obtain⟨N0,H0⟩:=x1r (e:=9) hf hn1 hn4 hx hxl hx hxl (by omega) (by omega) hp (by omega) (by omega) (by omega) (fun j hj=>w1e (hxl j hj))
 have hfl:=hf.1
 have hb0l:(U0l f x x z0v p).1.length=n:=by rw [N0.len,hfl]
 have b0m: ∀j,j<n→ampI 10 ((U0l f x x z0v p).1.getD j default):=fun j hj=>by
  have A:=N0.at (j:=j) (by omega)
  rw [A.val]
  exact Q2r (e:=9) A.s0 (w1e (hxl j hj)) ((H0 j hj).2.up (by omega))
 obtain⟨u1,u2,u3⟩:=G2y N0.rx N0.rightB (by omega)
 have b0lu: ∀j,j<n→luI 120 122 ((U0l f x x z0v p).1.getD j default):=fun j hj=>(H0 j hj).1
 have hB:=N0.rightB
 generalize hb0:(U0l f x x z0v p).1=b0 at*
 have hd: ∀j,j<n→luI 120 122 ((q0y x b0).1.getD j default)∧subI (x.getD j default) ((q0y x b0).1.getD j default)∧ampI 10 ((q0y x b0).1.getD j default):=fun j hj=>by
  rw [u3 j (by omega)]
  obtain⟨h1,h2,_⟩:=V3c ((hxl j hj).mono (L':=120) (U':=122) (by omega) (by omega)) (b0lu j hj)
  exact⟨h1,h2,v2q ((w1e (hxl j hj)).up (by omega)) (b0m j hj)⟩
 have rd:rightB (q0y x b0).1=true:=J0t (fun j hj=>(hd j (by omega)).1.1) (by omega) (by omega)
 have hbl: ∀j,j<n→_:=fun j hj=>y2d (p:=p) (hd j hj).1 hp (by omega)
 have w0:(k0x (q0y x b0).1 p).2=0:=q2s ⟨rd,hp⟩ fun j hj=>(hbl j (by omega)).1
 obtain⟨_,v1,v2,v3⟩:=q2r w0
 have hwid:W1n x b0 p=k0x (q0y x b0).1 p:=by unfold W1n;rw [if_pos u1]
 generalize hd0:(q0y x b0).1=d at*
 have ha1: ∀j,j<n→(k0x d p).1.getD j default=(H0h (d.getD j default) p).1:=fun j hj=>v3 j (by omega)
 have a1l:(k0x d p).1.length=n:=by omega
 have a1lu: ∀j,j<n→luI 122 126 ((k0x d p).1.getD j default):=fun j hj=>by rw [ha1 j hj];exact(hbl j hj).2
 have a1m: ∀j,j<n→ampI 11 ((k0x d p).1.getD j default):=fun j hj=>by rw [ha1 j hj];exact q2q (hbl j hj).1 (hd j hj).2.2
 obtain⟨N1,H1⟩:=x1r (e:=11) hf hn1 hn4 hx hxl a1l a1lu (by omega) (by omega) hp (by omega) (by omega) (by omega) a1m
 have hin:inB (U0l f x (k0x d p).1 z0v p).1 (k0x d p).1=true:=by
  refine inB_sub.2 ⟨N1.rightB,N1.ra,by rw [N1.len,a1l,hfl],fun j hj=> ?_⟩
  have hj:j<n:=by rw [N1.len] at hj;omega
  have A:=N1.at (j:=j) (by omega)
  obtain⟨e1,e2⟩:=Q2s A.s0
  have r:=Z1s A.s0
  obtain⟨s,s1,s2,⟨v,_,v1,v2⟩,⟨u,_,u1,u2⟩,_⟩:=Q1o (hbl j hj).1
  have hm:=(H1 j hj).2
  have hsub:=(hd j hj).2.1
  have hww:=hw j hj
  have q64:p2 (-6)=p2 (-8)*4:=by
   have:=w0d (-8) 2
   rw [Q3k] at this;exact this
  rw [A.val,ha1 j hj]
  refine⟨?_,?_⟩
  · rw [v2,e1]
    refine X1y pp ?_
    rw [v1,loV0,V0e,X0k,X0k]
    have:=hm.1.1
    have:=hsub.1
    have:=hsub.2
    grind
  · rw [u2,e2]
    refine V1x pp ?_
    rw [u1,hiV0,V0e,X0k,X0k]
    have:=hm.2.2
    have:=hsub.1
    have:=hsub.2
    grind
 unfold boxP
 rw [X1p,if_pos (nextP_iff.2 N0),hb0,hwid,if_pos w0,X1p,if_pos (nextP_iff.2 N1)]
 simp only [Bool.false_eq_true,if_false,if_true,List.nil_append,List.cons_append]
 rw [q2o,if_pos hin]
end Go.Pv
end
