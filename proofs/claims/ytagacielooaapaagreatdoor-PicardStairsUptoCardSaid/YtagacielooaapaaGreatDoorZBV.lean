/- Parts of the walk: M59, M52, M53, M54, M55, M56, M57, M58, M60, M61. -/
import Derived.Test.YtagacielooaapaaGreatDoorZAR
import Derived.Test.YtagacielooaapaaGreatDoorZBM
import Derived.Test.YtagacielooaapaaGreatDoorZL
import Derived.Test.YtagacielooaapaaGreatDoorZBR
import Derived.Test.YtagacielooaapaaGreatDoorZBN
set_option linter.unusedVariables false
set_option linter.unusedSimpArgs false
section
/-Numbers by powers of two;times. No program in it. -/
namespace Go.Pv
theorem y0w {x:Nm} {k:Nat} (h:(X0f x (-(k:Int))).2=0):Q0g x=true∧qN (X0f x (-(k:Int))).1*p2 k=qN x:=by
 unfold X0f at h⊢
 split at h
 · rename_i hr
   rw [if_pos hr]
   refine⟨hr,?_⟩
   split at h
   · rename_i hw
     rw [if_pos hw]
     have h0:qN x=0:=X3c (by rw [hw];rfl)
     show qN x*p2 k=qN x
     rw [h0,Rat.zero_mul]
   · rename_i hw
     rw [if_neg hw]
     split at h
     · exact absurd h (by decide)
     · rename_i hk
       rw [if_neg hk]
       have hc:canV (⟨x.neg,valW x.w,x.exp+ -(k:Int)⟩:Vl):=by
        rcases X0g hr with h1 | h1
        · exact .inl h1
        · exact absurd ((Y0r hr).1 (show valW x.w=0 from congrArg Vl.m h1)) hw
       rw [(J0u hc h).2]
       unfold qV qN qM
       show((Z0u ⟨x.neg,valW x.w,x.exp+ -(k:Int)⟩:Int):Rat)*p2 (x.exp+ -(k:Int))*p2 k=((mant x:Int):Rat)*p2 x.exp
       rw [Rat.mul_assoc,←H0u]
       congr 2
       omega
 · exact absurd h (by decide)
theorem q1l {x:Nm} {L U k:Nat} (hx:Q0g x=true) (h:luQ L U (qN x)) (hk:k≤1000) (hb:L+U+k+1≤4096):(X0f x (-(k:Int))).2=0∧luQ (L+k) U (qN (X0f x (-(k:Int))).1):=by
 have key: ∀y:Rat,y*p2 k=qN x→luQ (L+k) U y:=fun y hy=>by
  obtain⟨z,h1,h2⟩:=h
  refine⟨z,?_,Nat.le_trans h2 (Nat.pow_le_pow_right (by decide) (by omega))⟩
  have hne:=V4y k
  have e:qM z (-((L+k:Nat):Int))*p2 k=qM z (-(L:Int)):=by
   unfold qM
   rw [Rat.mul_assoc,←H0u]
   congr 2
   omega
  rw [h1,←e] at hy
  have:=congrArg (fun t=>t*(p2 k)⁻¹) hy
  simp only [Rat.mul_assoc,Rat.mul_inv_cancel _ hne,Rat.mul_one] at this
  exact this
 have h0:(X0f x (-(k:Int))).2=0:=by
  unfold X0f
  rw [if_pos hx]
  split
  · rfl
  · rename_i hw
    rw [if_neg (by omega)]
    have hc:canV (⟨x.neg,valW x.w,x.exp+ -(k:Int)⟩:Vl):=by
     rcases X0g hx with h1 | h1
     · exact .inl h1
     · exact absurd ((Y0r hx).1 (show valW x.w=0 from congrArg Vl.m h1)) hw
    refine q0s hc (key _ ?_) (by omega)
    unfold qV qN qM
    show((Z0u ⟨x.neg,valW x.w,x.exp+ -(k:Int)⟩:Int):Rat)*p2 (x.exp+ -(k:Int))*p2 k=((mant x:Int):Rat)*p2 x.exp
    rw [Rat.mul_assoc,←H0u]
    congr 2
    omega
 exact⟨h0,key _ (y0w h0).2⟩
theorem V4k {q:Nat} (h0:0<q) (h:q≤64):luQ 3 6 (qN (tq q))∧0<qN (tq q):=by
 have e:qN (tq q)=qM (q:Int) (-3):=by rw [←Q0p,(G2c q (by omega)).2,Y2y]
 refine⟨⟨(q:Int),e,?_⟩,?_⟩
 · simp only [Int.natAbs_natCast];omega
 · rw [e,←X0x (-3)];exact qM_lt.2 (by omega)
theorem U2n {x y:Rat} {k:Int} (h:y*p2 k=x) (hx:0<x):0<y:=by
 have:=z0v k
 apply Rat.not_le.1
 intro hy
 have h2:=X0i (a:= -y) (b:=p2 k) (by grind) (by grind)
 grind
end Go.Pv
end
section
/-Boxes taken apart and put together;where solutions go. No program in it. -/
namespace Go.Pv
theorem v1n {k:Nat} {a b:List Ivl} {p:Int} (h:(opB k a b p).2=0):(rightB a=true∧rightB b=true∧a.length=b.length∧Z0l p=true)∧(opB k a b p).1.length=a.length∧
 (∀j,j<a.length→(opI k (a.getD j default) (b.getD j default) p).2=0)∧ ∀j,j<a.length→(opB k a b p).1.getD j default=(opI k (a.getD j default) (b.getD j default) p).1:=by
 unfold opB at h⊢
 by_cases c:rightB a=true∧rightB b=true∧a.length=b.length∧Z0l p=true
 · rw [if_pos c,K0f] at h
   rw [if_pos c,K0f]
   exact⟨c,x0t h⟩
 · rw [if_neg c] at h;exact absurd h (by decide)
theorem W3d {k:Nat} {a b:List Ivl} {p:Int} (c:rightB a=true∧rightB b=true∧a.length=b.length∧Z0l p=true) (h: ∀j,j<a.length→(opI k (a.getD j default) (b.getD j default) p).2=0):(opB k a b p).2=0:=by
 unfold opB
 rw [if_pos c,K0f]
 exact x0u _ _ _ fun j _ hj=>h j (by omega)
theorem W1f {x:Ivl} {b:List Ivl} {p:Int} (h:(J0r x b p).2=0):(rightB b=true∧Q0h x=true∧Z0l p=true)∧(J0r x b p).1.length=b.length∧
 (∀j,j<b.length→(opI 2 x (b.getD j default) p).2=0)∧ ∀j,j<b.length→(J0r x b p).1.getD j default=(opI 2 x (b.getD j default) p).1:=by
 unfold J0r at h⊢
 by_cases c:rightB b=true∧Q0h x=true∧Z0l p=true
 · rw [if_pos c,K0f] at h
   rw [if_pos c,K0f]
   exact⟨c,x0t h⟩
 · rw [if_neg c] at h;exact absurd h (by decide)
theorem J2c {x:Ivl} {b:List Ivl} {p:Int} (c:rightB b=true∧Q0h x=true∧Z0l p=true) (h: ∀j,j<b.length→(opI 2 x (b.getD j default) p).2=0):(J0r x b p).2=0:=by
 unfold J0r
 rw [if_pos c,K0f]
 exact x0u _ _ _ fun j _ hj=>h j (by omega)
theorem k1a {b:List Ivl} {p:Int} (h:(G0i b p).2=0):(rightB b=true∧Z0l p=true)∧(G0i b p).1.length=b.length∧
 (∀j,j<b.length→(V0g (b.getD j default) p).2=0)∧ ∀j,j<b.length→(G0i b p).1.getD j default=(V0g (b.getD j default) p).1:=by
 unfold G0i at h⊢
 by_cases c:rightB b=true∧Z0l p=true
 · rw [if_pos c,K0f] at h
   rw [if_pos c,K0f]
   exact⟨c,x0t h⟩
 · rw [if_neg c] at h;exact absurd h (by decide)
theorem z2y {b:List Ivl} {p:Int} (c:rightB b=true∧Z0l p=true) (h: ∀j,j<b.length→(V0g (b.getD j default) p).2=0):(G0i b p).2=0:=by
 unfold G0i
 rw [if_pos c,K0f]
 exact x0u _ _ _ fun j _ hj=>h j (by omega)
theorem x1k {a b:List Ivl} (ha:rightB a=true) (hb:rightB b=true) (hl:a.length=b.length):(Y0g a b).2=0∧(Y0g a b).1.length=a.length∧
 ∀j,j<a.length→(Y0g a b).1.getD j default=⟨Z0c (a.getD j default).lo (b.getD j default).lo,Z0d (a.getD j default).hi (b.getD j default).hi⟩:=by
 have hI: ∀j,j<a.length→q0t (a.getD j default) (b.getD j default)=(⟨Z0c (a.getD j default).lo (b.getD j default).lo,Z0d (a.getD j default).hi (b.getD j default).hi⟩,0):=fun j hj=>X1i (W0b ha hj) (W0b hb (by omega))
 unfold Y0g
 rw [if_pos ⟨ha,hb,hl⟩,K0f]
 have h0:(tabF (fun j=>q0t (a.getD j default) (b.getD j default)) 0 a.length []).2=0:=x0u _ _ _ fun j _ hj=>by show(q0t (a.getD j default) (b.getD j default)).2=0;rw [hI j (by omega)]
 obtain⟨g1,g2,g3⟩:=x0t h0
 refine⟨h0,g1,fun j hj=> ?_⟩
 rw [g3 j hj]
 show(q0t (a.getD j default) (b.getD j default)).1=_
 rw [hI j hj]
theorem v1y (a b:Nm):(qN (Z0c a b)=qN a∨qN (Z0c a b)=qN b)∧qN (Z0c a b)≤qN a∧qN (Z0c a b)≤qN b:=by
 unfold Z0c
 split
 · rename_i h
   have:=cmpN_lt.1 h
   exact⟨.inr rfl,by grind,Rat.le_refl⟩
 · rename_i h
   have h2: ¬qN b<qN a:=fun e=>h (cmpN_lt.2 e)
   exact⟨.inl rfl,Rat.le_refl,by grind⟩
theorem w1g (a b:Nm):(qN (Z0d a b)=qN a∨qN (Z0d a b)=qN b)∧qN a≤qN (Z0d a b)∧qN b≤qN (Z0d a b):=by
 unfold Z0d
 split
 · rename_i h
   have:=cmpN_gt.1 h
   exact⟨.inr rfl,by grind,Rat.le_refl⟩
 · rename_i h
   have h2: ¬qN a<qN b:=fun e=>h (cmpN_gt.2 e)
   exact⟨.inl rfl,Rat.le_refl,by grind⟩
theorem inB_sub {a b:List Ivl} :inB a b=true↔rightB a=true∧rightB b=true∧a.length=b.length∧ ∀j,j<a.length→subI (a.getD j default) (b.getD j default):=by
 unfold inB allF
 simp only [Bool.and_eq_true,decide_eq_true_eq,List.all_eq_true,List.mem_range]
 constructor
 · rintro⟨⟨ha,hb⟩,hl,hj⟩
   exact⟨ha,hb,hl,fun j h=>(H2r (W0b ha h) (W0b hb (by omega))).1 (hj j h)⟩
 · rintro⟨ha,hb,hl,hj⟩
   exact⟨⟨ha,hb⟩,hl,fun j h=>(H2r (W0b ha h) (W0b hb (by omega))).2 (hj j h)⟩
theorem U1q {h:Nm} (hr:Q0g h=true):(¬sgnN (ownN h)≤0)↔0<qN h:=by
 unfold ownN
 rw [if_pos hr,←k1u];omega
theorem W1g {h:Nm} (hr:Q0g h=true) (h0:0<qN h):Q0h ⟨default,h⟩=true:=V0y k1w hr (cmpN_le.2 (by rw [U0q];grind))
structure NextOK (f:List (List Mn)) (x a:List Ivl) (h:Nm) (p:Int):Prop where
 rf:V0z f=true
 rx:rightB x=true
 ra:rightB a=true
 lx:x.length=f.length
 la:a.length=f.length
 rh:Q0g h=true
 ph:0<qN h
 pp:Z0l p=true
 e1:(Z0p f a p).2=0
 e2:(J0r ⟨default,h⟩ (Z0p f a p).1 p).2=0
 e3:(opB 0 x (J0r ⟨default,h⟩ (Z0p f a p).1 p).1 p).2=0
theorem nextP_iff {f:List (List Mn)} {x a:List Ivl} {h:Nm} {p:Int} :(Z0m f x a h p).2=0↔NextOK f x a h p:=by
 constructor
 · intro e
   unfold Z0m at e
   split at e
   · rename_i c
     obtain⟨c1,c2,c3,c4,c5,c6,c7,c8⟩:=c
     split at e
     · rename_i d1
       split at e
       · rename_i d2
         exact⟨c1,c2,c3,c4,c5,c6,(U1q c6).1 c7,c8,d1,d2,e⟩
       · rename_i d2;exact absurd e d2
     · rename_i d1;exact absurd e d1
   · exact absurd e (by decide)
 · rintro⟨c1,c2,c3,c4,c5,c6,c7,c8,d1,d2,e⟩
   unfold Z0m
   rw [if_pos ⟨c1,c2,c3,c4,c5,c6,(U1q c6).2 c7,c8⟩,if_pos d1,if_pos d2]
   exact e
theorem NextOK.val {f:List (List Mn)} {x a:List Ivl} {h:Nm} {p:Int} (n:NextOK f x a h p):(Z0m f x a h p).1=(opB 0 x (J0r ⟨default,h⟩ (Z0p f a p).1 p).1 p).1:=by
 unfold Z0m
 rw [if_pos ⟨n.rf,n.rx,n.ra,n.lx,n.la,n.rh,(U1q n.rh).2 n.ph,n.pp⟩,if_pos n.e1,if_pos n.e2]
theorem J1j {f:List (List Mn)} {a:List Ivl} {p:Int} (h:(Z0p f a p).2=0):(V0z f=true∧a.length=f.length)∧(Z0p f a p).1.length=f.length∧ ∀j,j<f.length→(Z0p f a p).1.getD j default=(Z0a (f.getD j []) a p (f.getD j []).length).1∧(Z0a (f.getD j []) a p (f.getD j []).length).2=0:=by
 unfold Z0p at h⊢
 by_cases c:V0z f=true∧a.length=f.length
 · rw [if_pos c] at h⊢
   obtain⟨g1,g2,g3⟩:=x0t h
   refine⟨c,g1,fun j hj=> ?_⟩
   have e:=g2 j hj
   rw [g3 j hj]
   show(K0z (f.getD j []) a p).1=_∧_
   replace e:(K0z (f.getD j []) a p).2=0:=e
   unfold K0z at e⊢
   split at e
   · rename_i d;rw [if_pos d];exact⟨rfl,e⟩
   · exact absurd e (by decide)
 · rw [if_neg c] at h;exact absurd h (by decide)
structure NextAt (f:List (List Mn)) (x a:List Ivl) (h:Nm) (p:Int) (j:Nat):Prop where
 r0:(Z0a (f.getD j []) a p (f.getD j []).length).2=0
 t0:(opI 2 ⟨default,h⟩ (Z0a (f.getD j []) a p (f.getD j []).length).1 p).2=0
 s0:(opI 0 (x.getD j default) (opI 2 ⟨default,h⟩ (Z0a (f.getD j []) a p (f.getD j []).length).1 p).1 p).2=0
 val:(Z0m f x a h p).1.getD j default=(opI 0 (x.getD j default) (opI 2 ⟨default,h⟩ (Z0a (f.getD j []) a p (f.getD j []).length).1 p).1 p).1
theorem NextOK.len {f:List (List Mn)} {x a:List Ivl} {h:Nm} {p:Int} (n:NextOK f x a h p):(Z0m f x a h p).1.length=f.length:=by
 rw [n.val,(v1n n.e3).2.1,n.lx]
theorem NextOK.at {f:List (List Mn)} {x a:List Ivl} {h:Nm} {p:Int} (n:NextOK f x a h p) {j:Nat} (hj:j<f.length):NextAt f x a h p j:=by
 obtain⟨_,r1,r2⟩:=J1j n.e1
 obtain⟨r3,r4⟩:=r2 j hj
 obtain⟨_,t1,t2,t3⟩:=W1f n.e2
 obtain⟨_,s1,s2,s3⟩:=v1n n.e3
 have t2:=t2 j (by omega)
 have t3:=t3 j (by omega)
 have s2:=s2 j (by rw [n.lx];exact hj)
 have s3:=s3 j (by rw [n.lx];exact hj)
 rw [r3] at t2 t3
 rw [t3] at s2 s3
 exact⟨r4,t2,s2,by rw [n.val];exact s3⟩
theorem K2m {k:Nat} {a b:List Ivl} {p:Int} (h:(opB k a b p).2=0):rightB (opB k a b p).1=true:=by
 obtain⟨c,l,_,v⟩:=v1n h
 have:=U0b c.1
 exact W0a (fun j hj=>by rw [v j (by omega)];exact w0k _ _ _ _) (by omega) (by omega)
theorem NextOK.rightB {f:List (List Mn)} {x a:List Ivl} {h:Nm} {p:Int} (n:NextOK f x a h p):Go.Pv.rightB (Z0m f x a h p).1=true:=by
 rw [n.val];exact K2m n.e3
theorem v2l {f:List (List Mn)} {x a:List Ivl} {h:Nm} {p:Int} (rf:V0z f=true) (rx:rightB x=true) (ra:rightB a=true) (lx:x.length=f.length) (la:a.length=f.length) (rh:Q0g h=true) (ph:0<qN h) (pp:Z0l p=true) (e1:(Z0p f a p).2=0)
 (h2: ∀j,j<f.length→(opI 2 ⟨default,h⟩ (Z0a (f.getD j []) a p (f.getD j []).length).1 p).2=0)
 (h3: ∀j,j<f.length→(opI 0 (x.getD j default) (opI 2 ⟨default,h⟩ (Z0a (f.getD j []) a p (f.getD j []).length).1 p).1 p).2=0):NextOK f x a h p:=by
 obtain⟨_,r1,r2⟩:=J1j e1
 have hx:=U0b rx
 have rr:rightB (Z0p f a p).1=true:=W0a (fun j hj=>by
  obtain⟨q1,q2⟩:=r2 j (by omega)
  have:=h2 j (by omega)
  rw [q1];exact(V0i this).2.1) (by omega) (by omega)
 have e2:(J0r ⟨default,h⟩ (Z0p f a p).1 p).2=0:=J2c ⟨rr,W1g rh ph,pp⟩ fun j hj=>by
  rw [(r2 j (by omega)).1];exact h2 j (by omega)
 obtain⟨_,t1,t2,t3⟩:=W1f e2
 have rt:rightB (J0r ⟨default,h⟩ (Z0p f a p).1 p).1=true:=W0a (fun j hj=>by
  rw [t3 j (by omega)];exact w0k _ _ _ _) (by omega) (by omega)
 refine⟨rf,rx,ra,lx,la,rh,ph,pp,e1,e2,W3d ⟨rx,rt,by omega,pp⟩ fun j hj=> ?_⟩
 rw [t3 j (by omega),(r2 j (by omega)).1]
 exact h3 j (by omega)
theorem x0o {a:Ivl} {p:Int} (h:(V0g a p).2=0):(J0f a p).2=0∧(X0f (J0f a p).1 (-2)).2=0∧(J0s 1 a.lo (X0f (J0f a p).1 (-2)).1 p false).2=0∧(J0s 0 a.hi (X0f (J0f a p).1 (-2)).1 p true).2=0∧
 (V0g a p).1=⟨(J0s 1 a.lo (X0f (J0f a p).1 (-2)).1 p false).1,(J0s 0 a.hi (X0f (J0f a p).1 (-2)).1 p true).1⟩:=by
 unfold V0g at h⊢
 split at h
 · rename_i c;exact absurd h c
 · rename_i c
   split at h
   · rename_i d;exact absurd h d
   · rename_i d
     split at h
     · exact absurd h (by decide)
     · rename_i e
       rw [if_neg c,if_neg d,if_neg e]
       have e1: ¬(J0s 1 a.lo (X0f (J0f a p).1 (-2)).1 p false).2≠0:=fun q=>e (.inl q)
       have e2: ¬(J0s 0 a.hi (X0f (J0f a p).1 (-2)).1 p true).2≠0:=fun q=>e (.inr q)
       exact⟨Classical.not_not.1 c,Classical.not_not.1 d,Classical.not_not.1 e1,Classical.not_not.1 e2,rfl⟩
theorem Q3z {a:Ivl} {p:Int} (h1:(J0f a p).2=0) (h2:(X0f (J0f a p).1 (-2)).2=0) (h3:(J0s 1 a.lo (X0f (J0f a p).1 (-2)).1 p false).2=0) (h4:(J0s 0 a.hi (X0f (J0f a p).1 (-2)).1 p true).2=0):(V0g a p).2=0:=by
 unfold V0g
 rw [if_neg (by rw [h1];decide),if_neg (by rw [h2];decide),if_neg (by rw [h3,h4];decide)]
theorem Q1b {k:Nat} {a b:Nm} {p:Int} {up:Bool} (h:(J0s k a b p up).2=0):Q0g a=true∧Q0g b=true∧Z0l p=true:=by
 unfold J0s at h
 split at h
 · assumption
 · exact absurd h (by decide)
theorem J1g {k:Nat} {a b:Nm} {p:Int} {up:Bool} (h:(J0s k a b p up).2=0):qN (J0s k a b p up).1=qV (Q0y (exV k (ofN a) (ofN b)) p.toNat up):=by
 have c:=Q1b h
 unfold J0s at h⊢
 rw [if_pos c] at h⊢
 exact(J0u (Z0i (Q1y k (X0g c.1) (X0g c.2.1)) _ _) h).2
theorem x0p {a:Ivl} {p:Int} (h:(J0f a p).2=0):Q0h a=true∧Z0l p=true:=by
 unfold J0f at h
 split at h
 · assumption
 · exact absurd h (by decide)
theorem H1w {a:Ivl} {p:Int} (h:(J0f a p).2=0):qN (J0f a p).1=qV (Q0y (H0c (ofN a.hi) (ofN a.lo)) p.toNat true):=by
 have c:=x0p h
 have hc:=canI c.1
 unfold J0f at h⊢
 rw [if_pos c] at h⊢
 exact(J0u (Z0i (Y0m hc.2 hc.1) _ _) h).2
end Go.Pv
end
section
/-How great what is reckoned gets:at most a power of two,which rounding does not pass. No program in it. -/
namespace Go.Pv
theorem G1g (e:Int):p2 e=qM 1 e:=by simp [qM]
theorem J1u {a b:Int} (h:a≤b):p2 a≤p2 b:=by
 rw [G1g,G1g,show b=a+((b-a).toNat:Int) from by omega,←W0c,qM_le]
 have:0<(2:Int)^(b-a).toNat:=Int.pow_pos (by decide)
 omega
theorem J1t (a:Int):p2 (a+1)=p2 a*2:=by
 rw [H0u];congr 1
def magQ (e:Int) (x:Rat):Prop:= -(p2 e)≤x∧x≤p2 e
theorem J1z (e:Int):magQ e 0:=by
 have:=z0v e
 exact⟨by grind,by grind⟩
theorem magQ.up {e g:Int} {x:Rat} (h:magQ e x) (he:e≤g):magQ g x:=by
 have:=J1u he
 exact⟨by have:=h.1;grind,by have:=h.2;grind⟩
theorem X1g {e:Int} {x:Rat} (h:magQ e x):magQ e (-x):=⟨by have:=h.2;grind,by have:=h.1;grind⟩
theorem X1h {e:Int} {x y:Rat} (h:magQ e x) (g:magQ e y):magQ (e+1) (x+y):=by
 obtain⟨a,b⟩:=h
 obtain⟨c,d⟩:=g
 refine⟨?_,?_⟩
 · rw [J1t];grind
 · rw [J1t];grind
theorem Z2j {e g:Int} {x y:Rat} (h:magQ e x) (k:magQ g y):magQ (e+g) (x*y):=by
 obtain⟨a,b⟩:=h
 obtain⟨c,d⟩:=k
 have q1:=X0i (a:=p2 e-x) (b:=p2 g+y) (by grind) (by grind)
 have q2:=X0i (a:=p2 e+x) (b:=p2 g-y) (by grind) (by grind)
 have q3:=X0i (a:=p2 e-x) (b:=p2 g-y) (by grind) (by grind)
 have q4:=X0i (a:=p2 e+x) (b:=p2 g+y) (by grind) (by grind)
 unfold magQ
 rw [H0u]
 exact⟨by grind,by grind⟩
theorem G1q {e:Int} {x:Rat} (h:magQ e x): ∀k:Nat,magQ (e*k) (powQ x k)
 | 0=>by
  show magQ (e*((0:Nat):Int)) 1
  rw [Int.natCast_zero,Int.mul_zero]
  unfold magQ
  rw [p2_zero]
  exact⟨by decide,Rat.le_refl⟩
 | k+1=>by
  show magQ _ (powQ x k*x)
  rw [show e*((k+1:Nat):Int)=e*k+e from by rw [Int.natCast_add,Int.mul_add];omega]
  exact Z2j (G1q h k) h
theorem G2q {L U:Nat} {x:Rat} (h:luQ L U x):magQ U x:=by
 obtain⟨z,rfl,hz⟩:=h
 have e:p2 (U:Int)=qM (2^(L+U)) (-(L:Int)):=by
  rw [G1g,show(U:Int)= -(L:Int)+((L+U:Nat):Int) from by omega,←W0c,Int.one_mul]
 have hz2:(z.natAbs:Int)≤2^(L+U):=by
  have:((2^(L+U):Nat):Int)=2^(L+U):=by simp
  rw [←this];exact_mod_cast hz
 unfold magQ
 rw [e,←z0p,qM_le,qM_le]
 omega
theorem y2m (p:Nat) (e:Int):q0v p (-(p2 e)):=⟨-1,e,by rw [G1g,z0p],Nat.one_le_two_pow⟩
theorem U0w {e:Int} {v:Vl} {p:Nat} (hp:1≤p) (h:magQ e (qV v)) (up:Bool):magQ e (qV (Q0y v p up)):=by
 have dn: ∀w:Vl,magQ e (qV w)→magQ e (qV (Q0y w p false)):=fun w hw=>⟨y0x hp (y2m p e) hw.1,Rat.le_trans (V0w w p) hw.2⟩
 cases up with
 | false=>exact dn v h
 | true=>
  rw [x0z]
  refine X1g (dn _ ?_)
  rw [W0n];exact X1g h
def ampI (e:Int) (a:Ivl):Prop:=magQ e (qN a.lo)∧magQ e (qN a.hi)
theorem ampI.up {e g:Int} {a:Ivl} (h:ampI e a) (he:e≤g):ampI g a:=⟨h.1.up he,h.2.up he⟩
theorem j0k {e:Int} {a:Ivl} (h:ampI e a) {X:Rat} (hX:memI X a):magQ e X:=⟨Rat.le_trans h.1.1 hX.1,Rat.le_trans hX.2 h.2.2⟩
theorem v1u {L U:Nat} {a:Ivl} (h:luI L U a):ampI U a:=⟨G2q h.2.1,G2q h.2.2⟩
theorem U2u {k:Nat} {a b:Ivl} {p:Int} {g:Int} (h:(opI k a b p).2=0) (hx: ∀X U,memI X a→memI U b→magQ g (exQ k X U)):ampI g (opI k a b p).1:=by
 have r:=V0i h
 obtain⟨e1,e2⟩:=q0p h
 have pp:=X0z r.2.2
 obtain⟨X,U,x1,x2,x3⟩:=j3m k r.1 r.2.1
 obtain⟨Y,V,y1,y2,y3⟩:=k3a k r.1 r.2.1
 refine⟨?_,?_⟩
 · rw [e1];exact U0w pp (by rw [x3];exact hx X U x1 x2) _
 · rw [e2];exact U0w pp (by rw [y3];exact hx Y V y1 y2) _
theorem Q2y {a b:Ivl} {p:Int} {e g:Int} (h:(opI 2 a b p).2=0) (ha:ampI e a) (hb:ampI g b):ampI (e+g) (opI 2 a b p).1:=
 U2u h fun X U hX hU=>by rw [exQ2];exact Z2j (j0k ha hX) (j0k hb hU)
theorem Q2z {a b:Ivl} {p:Int} {e:Int} (h:(opI 0 a b p).2=0) (ha:ampI e a) (hb:ampI e b):ampI (e+1) (opI 0 a b p).1:=
 U2u h fun X U hX hU=>by rw [exQ0];exact X1h (j0k ha hX) (j0k hb hU)
theorem k2t {a:Ivl} {k p:Int} {e:Int} (h:(powI a k p).2=0) (ha:ampI e a):ampI (e*k.toNat) (powI a k p).1:=by
 have r:=U0s h
 obtain⟨e1,e2⟩:=z0s h
 have pp:=X0z r.2.2.2
 obtain⟨X,x1,x3⟩:=Q2k r.1 k.toNat
 obtain⟨Y,y1,y3⟩:=Q2m r.1 k.toNat
 refine⟨?_,?_⟩
 · rw [e1];exact U0w pp (by rw [x3];exact G1q (j0k ha x1) _) _
 · rw [e2];exact U0w pp (by rw [y3];exact G1q (j0k ha y1) _) _
theorem z1t {m:Mn} {b:List Ivl} {p:Int} {c e:Int} (hc:magQ c (qN m.c)) (hk:K0a m.ks=true): ∀i,i≤m.ks.length→(∀j,j<i→ampI e (b.getD j default))→(Z0v m b p i).2=0→ampI (c+e*sumK m.ks i) (Z0v m b p i).1
 | 0,_,_,_=>by
  have:sumK m.ks 0=0:=rfl
  rw [this,Int.natCast_zero,Int.mul_zero,Int.add_zero]
  exact⟨hc,hc⟩
 | i+1,hi,hb,h=>by
  have ih:=z1t (e:=e) hc hk i (by omega) (fun j hj=>hb j (by omega)) (U0d h)
  have hs:=K0d hk (i+1) hi
  have hs0:=K0d hk i (by omega)
  have hat:=V0b hk i (by omega)
  have hst:=Y0s m.ks i (by omega)
  have hsum:sumK m.ks (i+1)=sumK m.ks i+(m.ks.getD i 0).toNat:=by unfold sumK;omega
  rcases H0v h with ⟨d,q⟩ | ⟨d,d2,q⟩
  · rw [q,hsum,d];exact ih
  · rw [q] at h⊢
    have:=Q2y h ih (k2t d2 (hb i (by omega)))
    rw [hsum,Int.natCast_add,Int.mul_add,←Int.add_assoc]
    exact this
theorem W1o {q:List Mn} {b:List Ivl} {p:Int} {g:Int} : ∀i,(∀j,j<i→(Z0v (q.getD j default) b p b.length).2=0→ampI g (Z0v (q.getD j default) b p b.length).1)→(Z0a q b p i).2=0→ampI (g+i) (Z0a q b p i).1
 | 0,_,_=>by
  have e:qN (default:Ivl).lo=0:=X0x 0
  have e2:qN (default:Ivl).hi=0:=X0x 0
  exact⟨by show magQ _ (qN (default:Ivl).lo);rw [e];exact J1z _,by show magQ _ (qN (default:Ivl).hi);rw [e2];exact J1z _⟩
 | i+1,hj,h=>by
  obtain⟨c1,c2,e⟩:=U0p h
  have ih:=W1o i (fun j hjl=>hj j (by omega)) c1
  rw [e] at h⊢
  have:=Q2z h ih ((hj i (by omega) c2).up (by omega))
  rw [show g+((i+1:Nat):Int)=g+i+1 from by omega]
  exact this
theorem j0g {a:Ivl} {p:Int} (h:(V0g a p).2=0): ∃s:Rat,qN a.hi-qN a.lo≤s*4∧0≤s∧
 (∃v:Vl,canV v∧qV v=qN a.lo-s∧qN (V0g a p).1.lo=qV (Q0y v p.toNat false))∧(∃v:Vl,canV v∧qV v=qN a.hi+s∧qN (V0g a p).1.hi=qV (Q0y v p.toNat true))∧ ∃w:Vl,canV w∧qV w=qN a.hi-qN a.lo∧s*4=qV (Q0y w p.toNat true):=by
 obtain⟨w0,s0,l0,h0,e⟩:=x0o h
 have hw:=H1w w0
 obtain⟨wn,pp⟩:=x0p w0
 have hs:=(y0w (x:=(J0f a p).1) (k:=2) s0).2
 have hr:=Q1b l0
 have hr2:=Q1b h0
 rw [show p2 ((2:Nat):Int)=4 from Q2t] at hs
 rw [show -((2:Nat):Int)= -2 from rfl] at hs
 have hge:=U0o (H0c (ofN a.hi) (ofN a.lo)) p.toNat
 rw [←hw,W0o,Q0p,Q0p] at hge
 have hle:=K0m wn
 rw [Q0p,Q0p] at hle
 have ca:=canI wn
 refine⟨qN (X0f (J0f a p).1 (-2)).1,by rw [hs];exact hge,by grind,⟨exV 1 (ofN a.lo) (ofN (X0f (J0f a p).1 (-2)).1),Q1y 1 ca.1 (X0g hr.2.1),by rw [k2b,exQ1,Q0p,Q0p],?_⟩,
  ⟨exV 0 (ofN a.hi) (ofN (X0f (J0f a p).1 (-2)).1),Q1y 0 ca.2 (X0g hr.2.1),by rw [k2b,exQ0,Q0p,Q0p],?_⟩,H0c (ofN a.hi) (ofN a.lo),Y0m ca.2 ca.1,by rw [W0o,Q0p,Q0p],by rw [hs,hw]⟩
 · rw [e];exact J1g l0
 · rw [e];exact J1g h0
theorem y1f {a:Ivl} {p:Int} (h:(V0g a p).2=0):Q0h (V0g a p).1=true∧subI a (V0g a p).1:=by
 obtain⟨s,h1,h2,⟨v,_,h3,h4⟩,⟨u,_,h5,h6⟩,_⟩:=j0g h
 obtain⟨w0,s0,l0,h0,e⟩:=x0o h
 have wn:=(x0p w0).1
 have q1:=V0w v p.toNat
 have q2:=U0o u p.toNat
 have hle:=K0m wn
 rw [Q0p,Q0p] at hle
 have hs:subI a (V0g a p).1:=⟨by rw [h4];grind,by rw [h6];grind⟩
 refine⟨V0y ?_ ?_ (cmpN_le.2 ?_),hs⟩
 · rw [e];exact q0j _ _ _ _ _
 · rw [e];exact q0j _ _ _ _ _
 · have:=hs.1
   have:=hs.2
   grind
theorem z2w {a:Ivl} {p:Int} {e:Int} (h:(V0g a p).2=0) (ha:ampI e a):ampI (e+1) (V0g a p).1:=by
 have pp:=X0z (x0p (x0o h).1).2
 obtain⟨s,h1,h2,⟨v,_,h3,h4⟩,⟨u,_,h5,h6⟩,w,_,h7,h8⟩:=j0g h
 have m1:magQ (e+1) (s*4):=by
  rw [h8]
  refine U0w pp ?_ _
  rw [h7,Rat.sub_eq_add_neg]
  exact X1h ha.2 (X1g ha.1)
 have m2:magQ e s:=by
  have:=m1.2
  have:=m1.1
  have e2:=J1t e
  have:=z0v e
  exact⟨by grind,by grind⟩
 refine⟨?_,?_⟩
 · rw [h4]
   refine U0w pp ?_ _
   rw [h3,Rat.sub_eq_add_neg];exact X1h ha.1 (X1g m2)
 · rw [h6]
   refine U0w pp ?_ _
   rw [h5];exact X1h ha.2 m2
theorem Q2b {k L U:Nat} {x y:Nm} {p:Int} (hk:k<2) (hx:Q0g x=true) (hy:Q0g y=true) (h1:luQ L U (qN x)) (h2:luQ L U (qN y)) (hp:Z0l p=true) (up:Bool) (hb:L+U+3≤4096):(J0s k x y p up).2=0∧luQ L (U+2) (qN (J0s k x y p up).1):=by
 have hc:canV (exV k (ofN x) (ofN y)):=Q1y k (X0g hx) (X0g hy)
 have hq:qV (exV k (ofN x) (ofN y))=exQ k (qN x) (qN y):=by rw [k2b];rfl
 have hl:luQ L (U+1) (qV (exV k (ofN x) (ofN y))):=by
  rw [hq]
  unfold exQ
  split
  · exact x0a h1 h2
  · rw [if_pos (by omega)];exact G1r h1 h2
 have hr:=W0d hc hl p.toNat (X0z hp) up
 have hf:(J0s k x y p up).2=0:=by
  unfold J0s
  rw [if_pos ⟨hx,hy,hp⟩]
  exact q0s (Z0i hc _ _) hr (by omega)
 exact⟨hf,by rw [J1g hf];exact hr⟩
theorem Z3a {L U:Nat} {a:Ivl} {p:Int} (ha:luI L U a) (hp:Z0l p=true) (hb:L+U+8≤4096):(V0g a p).2=0∧luI (L+2) (U+4) (V0g a p).1:=by
 have ca:=canI ha.1
 have rr:=Q0n ha.1
 have hl:luQ L (U+1) (qV (H0c (ofN a.hi) (ofN a.lo))):=by rw [W0o,Q0p,Q0p];exact G1r ha.2.2 ha.2.1
 have cl:=Y0m ca.2 ca.1
 have hr:=W0d cl hl p.toNat (X0z hp) true
 have w0:(J0f a p).2=0:=by
  unfold J0f
  rw [if_pos ⟨ha.1,hp⟩]
  exact q0s (Z0i cl _ _) hr (by omega)
 rw [←H1w w0] at hr
 obtain⟨s0,s1⟩:=q1l (k:=2) (X1r a p) hr (by omega) (by omega)
 rw [show -((2:Nat):Int)= -2 from rfl] at s0 s1
 have sr:=z0n (J0f a p).1 (-2)
 obtain⟨l0,l1⟩:=Q2b (k:=1) (by omega) rr.1 sr (ha.2.1.mono (L':=L+2) (U':=U+2) (by omega) (by omega)) s1 hp false (by omega)
 obtain⟨h0,h1⟩:=Q2b (k:=0) (by omega) rr.2.1 sr (ha.2.2.mono (L':=L+2) (U':=U+2) (by omega) (by omega)) s1 hp true (by omega)
 have hb0:=Q3z w0 s0 l0 h0
 refine⟨hb0,(y1f hb0).1,?_,?_⟩
 · rw [(x0o hb0).2.2.2.2];exact l1
 · rw [(x0o hb0).2.2.2.2];exact h1
end Go.Pv
end
section
/-For a short time a box is found. No program in it. -/
namespace Go.Pv
def W3f (n M:Nat) (D:Int) (p:List Mn):Prop:=J0z p n=true∧p.length≤M∧ ∀m∈p,okMn n 6 (8+M) D m
def okFieldT (n M:Nat) (D:Int) (f:List (List Mn)):Prop:=f.length=n∧ ∀p∈f,W3f n M D p
theorem okFieldT.ok {n M:Nat} {D:Int} {f:List (List Mn)} (h:okFieldT n M D f):okField n M D f:=⟨h.1,fun p hp=>⟨(h.2 p hp).1,(h.2 p hp).2.1,fun m hm=>by
 obtain⟨a1,a2,a3,a4,a5,a6⟩:=(h.2 p hp).2.2 m hm
 exact⟨a1,a2,a3,a4,a5,a6.mono (by omega) (by omega)⟩⟩⟩
theorem okFieldT.at {n M:Nat} {D:Int} {f:List (List Mn)} (h:okFieldT n M D f) {i j:Nat} (hi:i<f.length) (hj:j<(f.getD i []).length):okMn n 6 (8+M) D ((f.getD i []).getD j default):=by
 have e:f.getD i []=f[i]:=by simp [List.getD_eq_getElem?_getD,hi]
 rw [e] at hj⊢
 exact x0f (h.2 _ (List.getElem_mem hi)).2.2 hj
theorem W2y {ks:List Int} {D:Int} (hr:K0a ks=true) (h:ks.sum≤D) {i:Nat} (hi:i≤ks.length):(sumK ks i:Int)≤D:=by
 have h0:=K0d hr i hi
 have h1:(ks.take i).sum≤ks.sum:=by
  have hk:=((J0m ks).1 hr).1
  have: ∀(l:List Int) (n:Nat),(∀j,j<l.length→0≤l.getD j 0)→(l.take n).sum≤l.sum:=by
   intro l
   induction l with
   | nil=>intro n _;simp
   | cons x l ih=>
    intro n hp
    have hx:0≤x:=hp 0 (by simp)
    have hp': ∀j,j<l.length→0≤l.getD j 0:=fun j hj=>by have:=hp (j+1) (by simpa using hj);simpa using this
    cases n with
    | zero=>
     have:=ih 0 hp'
     simp at this⊢;omega
    | succ n=>
     have:=ih n hp'
     simp;omega
  exact this ks i hk
 unfold sumK;omega
theorem J2z {n:Nat} {f:List (List Mn)} {a:List Ivl} {p:Int} {e:Int} (he:0≤e) (hf:okFieldT n 3 3 f) (hl:a.length=n) {i:Nat} (hi:i<n) (ha: ∀j,j<n→ampI e (a.getD j default)) (h0:(Z0a (f.getD i []) a p (f.getD i []).length).2=0):
 ampI (14+e*3) (Z0a (f.getD i []) a p (f.getD i []).length).1:=by
 have hfl:=hf.1
 have hlen:(f.getD i []).length≤3:=by
  have e:f.getD i []=f[i]'(by omega):=by simp [List.getD_eq_getElem?_getD,(by omega:i<f.length)]
  rw [e];exact(hf.2 _ (List.getElem_mem _)).2.1
 refine(W1o (g:=11+e*3) _ (fun j hj c=> ?_) h0).up (by omega)
 obtain⟨a1,a2,a3,a4,a5,a6⟩:=hf.at (by omega:i<f.length) hj
 have hs:=W2y a2 a3 (i:=a.length) (by omega)
 have hm:=z1t (c:=11) (e:=e) (p:=p) ((G2q a6).up (by omega)) a2 a.length (by omega) (fun j hj=>ha j (by omega)) c
 refine hm.up ?_
 have:e*(sumK ((f.getD i []).getD j default).ks a.length:Int)≤e*3:=Int.mul_le_mul_of_nonneg_left hs he
 omega
theorem Y3h {L U:Nat} {a b:Ivl} (ha:luI L U a) (hb:luI L U b):luI L U ⟨Z0c a.lo b.lo,Z0d a.hi b.hi⟩∧subI a ⟨Z0c a.lo b.lo,Z0d a.hi b.hi⟩∧subI b ⟨Z0c a.lo b.lo,Z0d a.hi b.hi⟩:=by
 have hr:Q0h (⟨Z0c a.lo b.lo,Z0d a.hi b.hi⟩:Ivl)=true:=by
  have:=w1c ha.1 hb.1
  rw [X1i ha.1 hb.1] at this;exact this
 obtain⟨q1,q2,q3⟩:=v1y a.lo b.lo
 obtain⟨g1,g2,g3⟩:=w1g a.hi b.hi
 refine⟨⟨hr,?_,?_⟩,⟨q2,g2⟩,⟨q3,g3⟩⟩
 · rcases q1 with q1 | q1
   · show luQ L U (qN (Z0c a.lo b.lo));rw [q1];exact ha.2.1
   · show luQ L U (qN (Z0c a.lo b.lo));rw [q1];exact hb.2.1
 · rcases g1 with g1 | g1
   · show luQ L U (qN (Z0d a.hi b.hi));rw [g1];exact ha.2.2
   · show luQ L U (qN (Z0d a.hi b.hi));rw [g1];exact hb.2.2
theorem w2z {e:Int} {a b:Ivl} (ha:ampI e a) (hb:ampI e b):ampI e ⟨Z0c a.lo b.lo,Z0d a.hi b.hi⟩:=by
 obtain⟨q1,q2,q3⟩:=v1y a.lo b.lo
 obtain⟨g1,g2,g3⟩:=w1g a.hi b.hi
 refine⟨?_,?_⟩
 · rcases q1 with q1 | q1
   · show magQ e (qN (Z0c a.lo b.lo));rw [q1];exact ha.1
   · show magQ e (qN (Z0c a.lo b.lo));rw [q1];exact hb.1
 · rcases g1 with g1 | g1
   · show magQ e (qN (Z0d a.hi b.hi));rw [g1];exact ha.2
   · show magQ e (qN (Z0d a.hi b.hi));rw [g1];exact hb.2
def x0d :Nm:=⟨false, -60,[1]⟩
theorem w1f :qN x0d=p2 (-60):=by rw [G1g];rfl
theorem K1g :Q0g x0d=true:=by decide
theorem x1l :0<qN x0d:=by rw [w1f];exact z0v _
theorem y2g :luI 60 0 ⟨default,x0d⟩:=⟨W1g K1g x1l,by show luQ 60 0 (qN default);rw [U0q];exact G0t _ _,by show luQ 60 0 (qN x0d);rw [w1f];exact⟨1,G1g _,by decide⟩⟩
theorem H2s :ampI (-60) ⟨default,x0d⟩:=⟨by show magQ _ (qN default);rw [U0q];exact J1z _,by show magQ _ (qN x0d);rw [w1f];have:=z0v (-60);exact⟨by grind,Rat.le_refl⟩⟩
theorem z1z {n:Nat} {f:List (List Mn)} {x a:List Ivl} {p:Int} {L U:Nat} {e:Int} (hf:okFieldT n 3 3 f) (hn1:1≤n) (hn4:n≤4) (hx:x.length=n) (hxl: ∀j,j<n→luI 6 9 (x.getD j default)) (ha:a.length=n) (hal: ∀j,j<n→luI L U (a.getD j default)) (hL:6≤L) (hU:9≤U)
 (hp:Z0l p=true) (hbd:400+8*L+8*U≤4096) (he:0≤e) (he2:14+e*3≤52) (ham: ∀j,j<n→ampI e (a.getD j default)):
 NextOK f x a x0d p∧ ∀j,j<n→luI (72+L*8) (50+U*8) ((Z0m f x a x0d p).1.getD j default)∧ampI (-8) (opI 2 ⟨default,x0d⟩ (Z0a (f.getD j []) a p (f.getD j []).length).1 p).1:=by
 have hfl:=hf.1
 obtain⟨r1,r2,r3⟩:=U1u (L:=L) (U:=U) hf.ok (by omega) ha hn1 hn4 (fun j hj=>hal j (by omega)) hp (by omega)
 have ht: ∀j,j<n→_:=fun j hj=>U2v y2g (r3 j hj).2.2 hp (by omega)
 have hs: ∀j,j<n→_:=fun j hj=>X3l (k:=0) (by omega) ((hxl j hj).mono (L':=60+(12+L*8)) (U':=0+(26+3+U*8+2*3)+1) (by omega) (by omega)) (ht j hj).2 hp (by omega)
 have hrx:rightB x=true:=W0a (fun j hj=>(hxl j (by omega)).1) (by omega) (by omega)
 have hra:rightB a=true:=W0a (fun j hj=>(hal j (by omega)).1) (by omega) (by omega)
 have N:NextOK f x a x0d p:=v2l (hf.ok.right hn1 hn4) hrx hra (by omega) (by omega) K1g x1l hp r1 (fun j hj=>(ht j (by omega)).1) (fun j hj=>(hs j (by omega)).1)
 refine⟨N,fun j hj=> ?_⟩
 have A:=N.at (j:=j) (by omega)
 refine⟨by rw [A.val];exact(hs j hj).2.mono (by omega) (by omega),?_⟩
 have m:=J2z he hf ha hj ham (r3 j hj).2.1
 exact(Q2y (ht j hj).1 H2s m).up (by omega)
theorem q4u {n:Nat} {f:List (List Mn)} {x:List Ivl} {p:Int} (hf:okFieldT n 3 3 f) (hn1:1≤n) (hn4:n≤4) (hx:x.length=n) (hxl: ∀j,j<n→luI 6 9 (x.getD j default)) (hw: ∀j,j<n→qN (x.getD j default).lo+p2 (-6)≤qN (x.getD j default).hi) (hp:Z0l p=true):
 (boxP f x x0d p).2=true:=by
 have pp:=X0z hp
 obtain⟨N0,H0⟩:=z1z (e:=9) hf hn1 hn4 hx hxl hx hxl (by omega) (by omega) hp (by omega) (by omega) (by omega) (fun j hj=>v1u (hxl j hj))
 have hfl:=hf.1
 have hb0l:(Z0m f x x x0d p).1.length=n:=by rw [N0.len,hfl]
 have b0m: ∀j,j<n→ampI 10 ((Z0m f x x x0d p).1.getD j default):=fun j hj=>by
  have A:=N0.at (j:=j) (by omega)
  rw [A.val]
  exact Q2z (e:=9) A.s0 (v1u (hxl j hj)) ((H0 j hj).2.up (by omega))
 obtain⟨u1,u2,u3⟩:=x1k N0.rx N0.rightB (by omega)
 have b0lu: ∀j,j<n→luI 120 122 ((Z0m f x x x0d p).1.getD j default):=fun j hj=>(H0 j hj).1
 have hB:=N0.rightB
 generalize hb0:(Z0m f x x x0d p).1=b0 at*
 have hd: ∀j,j<n→luI 120 122 ((Y0g x b0).1.getD j default)∧subI (x.getD j default) ((Y0g x b0).1.getD j default)∧ampI 10 ((Y0g x b0).1.getD j default):=fun j hj=>by
  rw [u3 j (by omega)]
  obtain⟨h1,h2,_⟩:=Y3h ((hxl j hj).mono (L':=120) (U':=122) (by omega) (by omega)) (b0lu j hj)
  exact⟨h1,h2,w2z ((v1u (hxl j hj)).up (by omega)) (b0m j hj)⟩
 have rd:rightB (Y0g x b0).1=true:=W0a (fun j hj=>(hd j (by omega)).1.1) (by omega) (by omega)
 have hbl: ∀j,j<n→_:=fun j hj=>Z3a (p:=p) (hd j hj).1 hp (by omega)
 have w0:(G0i (Y0g x b0).1 p).2=0:=z2y ⟨rd,hp⟩ fun j hj=>(hbl j (by omega)).1
 obtain⟨_,v1,v2,v3⟩:=k1a w0
 have hwid:X0b x b0 p=G0i (Y0g x b0).1 p:=by unfold X0b;rw [if_pos u1]
 generalize hd0:(Y0g x b0).1=d at*
 have ha1: ∀j,j<n→(G0i d p).1.getD j default=(V0g (d.getD j default) p).1:=fun j hj=>v3 j (by omega)
 have a1l:(G0i d p).1.length=n:=by omega
 have a1lu: ∀j,j<n→luI 122 126 ((G0i d p).1.getD j default):=fun j hj=>by rw [ha1 j hj];exact(hbl j hj).2
 have a1m: ∀j,j<n→ampI 11 ((G0i d p).1.getD j default):=fun j hj=>by rw [ha1 j hj];exact z2w (hbl j hj).1 (hd j hj).2.2
 obtain⟨N1,H1⟩:=z1z (e:=11) hf hn1 hn4 hx hxl a1l a1lu (by omega) (by omega) hp (by omega) (by omega) (by omega) a1m
 have hin:inB (Z0m f x (G0i d p).1 x0d p).1 (G0i d p).1=true:=by
  refine inB_sub.2 ⟨N1.rightB,N1.ra,by rw [N1.len,a1l,hfl],fun j hj=> ?_⟩
  have hj:j<n:=by rw [N1.len] at hj;omega
  have A:=N1.at (j:=j) (by omega)
  obtain⟨e1,e2⟩:=q0p A.s0
  have r:=V0i A.s0
  obtain⟨s,s1,s2,⟨v,_,v1,v2⟩,⟨u,_,u1,u2⟩,_⟩:=j0g (hbl j hj).1
  have hm:=(H1 j hj).2
  have hsub:=(hd j hj).2.1
  have hww:=hw j hj
  have q64:p2 (-6)=p2 (-8)*4:=by
   have:=H0u (-8) 2
   rw [Q2t] at this;exact this
  rw [A.val,ha1 j hj]
  refine⟨?_,?_⟩
  · rw [v2,e1]
    refine J1c pp ?_
    rw [v1,loV0,J0n,Q0p,Q0p]
    have:=hm.1.1
    have:=hsub.1
    have:=hsub.2
    grind
  · rw [u2,e2]
    refine V1o pp ?_
    rw [u1,hiV0,J0n,Q0p,Q0p]
    have:=hm.2.2
    have:=hsub.1
    have:=hsub.2
    grind
 unfold boxP
 rw [U0m,if_pos (nextP_iff.2 N0),hb0,hwid,if_pos w0,U0m,if_pos (nextP_iff.2 N1)]
 simp only [Bool.false_eq_true,if_false,if_true,List.nil_append,List.cons_append]
 rw [x0n,if_pos hin]
end Go.Pv
end
section
/-Multiples of powers of two,values of few bits,rounding by what it is. No program in it. -/
namespace Go.Pv
def mulQ (L:Nat) (x:Rat):Prop:= ∃z:Int,x=qM z (-(L:Int))
theorem luQ.mul {L U:Nat} {x:Rat} (h:luQ L U x):mulQ L x:=by
 obtain⟨z,h1,_⟩:=h
 exact⟨z,h1⟩
theorem mulQ.lu {L:Nat} {x:Rat} (h:mulQ L x): ∃U,luQ L U x:=by
 obtain⟨z,h1⟩:=h
 exact⟨z.natAbs,z,h1,Nat.le_trans (Nat.le_of_lt Nat.lt_two_pow_self) (Nat.pow_le_pow_right (by decide) (by omega))⟩
theorem w0o (L:Nat):mulQ L 0:=⟨0,(X0x _).symm⟩
theorem mulQ.down {L L':Nat} {x:Rat} (h:mulQ L x) (hl:L≤L'):mulQ L' x:=by
 obtain⟨U,h⟩:=h.lu
 exact(h.down hl).mul
theorem J0v {L:Nat} {x:Rat} (h:mulQ L x):mulQ L (-x):=by
 obtain⟨z,rfl⟩:=h
 exact⟨-z,(z0p _ _).symm⟩
theorem w0q {L:Nat} {x y:Rat} (h:mulQ L x) (k:mulQ L y):mulQ L (x+y):=by
 obtain⟨z,rfl⟩:=h
 obtain⟨w,rfl⟩:=k
 exact⟨z+w,(W1q _ _ _).symm⟩
theorem w0p {L:Nat} {x y:Rat} (h:mulQ L x) (k:mulQ L y):mulQ L (x-y):=by
 rw [Rat.sub_eq_add_neg];exact w0q h (J0v k)
theorem Y0v {L L':Nat} {x y:Rat} (h:mulQ L x) (k:mulQ L' y):mulQ (L+L') (x*y):=by
 obtain⟨z,rfl⟩:=h
 obtain⟨w,rfl⟩:=k
 exact⟨z*w,by rw [show -((L+L':Nat):Int)= -(L:Int)+ -(L':Int) from by omega,Q2g]⟩
theorem G1n {L:Nat} {x:Rat} (h:mulQ L x): ∀k:Nat,mulQ (L*k) (powQ x k)
 | 0=>⟨1,by show(1:Rat)=_;rw [Nat.mul_zero,←G1g];exact p2_zero.symm⟩
 | k+1=>by
  show mulQ _ (powQ x k*x)
  rw [Nat.mul_succ];exact Y0v (G1n h k) h
theorem Z1j {L:Nat} {x:Rat} (h:mulQ L (x*4)):mulQ (L+2) x:=by
 obtain⟨z,hz⟩:=h
 refine⟨z,?_⟩
 have e:qM z (-((L+2:Nat):Int))*4=qM z (-(L:Int)):=by
  unfold qM
  rw [Rat.mul_assoc,←Q2t,←H0u]
  congr 2
  omega
 rw [←e] at hz
 grind
theorem G1o {L:Nat} {x:Rat} (h:mulQ L x) (h0:0<x):p2 (-(L:Int))≤x:=by
 obtain⟨z,rfl⟩:=h
 rw [G1g,qM_le]
 rw [←X0x (-(L:Int)),qM_lt] at h0
 omega
theorem W0q {L:Nat} {v:Vl} (hc:canV v) (h:mulQ L (qV v)) {p:Nat} (hp:1≤p) (up:Bool):mulQ L (qV (Q0y v p up)):=by
 obtain⟨U,h⟩:=h.lu
 exact(W0d hc h p hp up).mul
theorem V4z {a b:Int} (h:p2 a≤p2 b):a≤b:=by
 apply Int.not_lt.1
 intro hlt
 have h1:=J1u (show b+1≤a by omega)
 rw [J1t] at h1
 have:=z0v b
 grind
theorem y0f {p:Nat} {x:Rat} (h:q0v p x):q0v p (-x):=by
 obtain⟨m,e,rfl,hm⟩:=h
 exact⟨-m,e,(z0p _ _).symm,by rw [Int.natAbs_neg];exact hm⟩
theorem x1w (p:Nat):q0v p 0:=⟨0,0,(X0x 0).symm,Nat.zero_le _⟩
theorem x3p {p:Nat} {z e:Int} (h:z.natAbs≤2^p):magQ (p+e) (qM z e):=by
 have hz:(z.natAbs:Int)≤2^p:=by
  have:((2^p:Nat):Int)=2^p:=by simp
  rw [←this];exact_mod_cast h
 have q:p2 ((p:Int)+e)=qM (2^p) e:=by
  rw [G1g,Int.add_comm,←W0c,Int.one_mul]
 unfold magQ
 rw [q,←z0p,qM_le,qM_le]
 omega
theorem X1k {p m:Nat} {x:Rat} (h:q0v p x) (hm:p2 (-(m:Int))≤x∨x≤ -(p2 (-(m:Int)))):mulQ (m+p) x:=by
 obtain⟨z,e,rfl,hz⟩:=h
 have hg:=x3p (e:=e) hz
 have he:p2 (-(m:Int))≤p2 ((p:Int)+e):=by
  rcases hm with hm | hm
  · exact Rat.le_trans hm hg.2
  · have:=hg.1;grind
 have:=V4z he
 refine⟨z*2^(e+m+p).toNat,?_⟩
 rw [W0c];congr 1;omega
structure RndDn (p:Nat) (v r:Rat):Prop where
 le:r≤v
 fits:q0v p r
 most: ∀y,q0v p y→y≤v→y≤r
 mul: ∀L,mulQ L v→mulQ L r
theorem RndDn.ex {p:Nat} {v r:Rat} (h:RndDn p v r) (hv:q0v p v):r=v:=Rat.le_antisymm h.le (h.most v hv Rat.le_refl)
theorem RndDn.mono {p:Nat} {v r w q:Rat} (h:RndDn p v r) (k:RndDn p w q) (hle:v≤w):r≤q:=k.most r h.fits (Rat.le_trans h.le hle)
theorem q1q {v:Vl} (hc:canV v) {p:Nat} (hp:1≤p):RndDn p (qV v) (qV (Q0y v p false)):=⟨V0w v p,H1d v p,fun y hy hle=>y0x hp hy hle,fun L hL=>W0q hc hL hp _⟩
theorem q1p {v:Vl} (hc:canV v) {p:Nat} (hp:1≤p):RndDn p (-(qV v)) (-(qV (Q0y v p true))):=by
 rw [x0z,Rat.neg_neg,←W0n]
 exact q1q (x0l hc) hp
def mulI (L:Nat) (a:Ivl):Prop:=mulQ L (qN a.lo)∧mulQ L (qN a.hi)
theorem mulI.down {L L':Nat} {a:Ivl} (h:mulI L a) (hl:L≤L'):mulI L' a:=⟨h.1.down hl,h.2.down hl⟩
theorem G1i {a b:Ivl} {p:Int} {L M:Nat} (h:(opI 2 a b p).2=0) (ha:mulI L a) (hb:mulI M b):mulI (L+M) (opI 2 a b p).1:=by
 have r:=V0i h
 obtain⟨e1,e2⟩:=q0p h
 have pp:=X0z r.2.2
 have ca:=canI r.1
 have cb:=canI r.2.1
 refine⟨?_,?_⟩
 · rw [e1]
   refine W0q (H0j 2 ca.1 ca.2 cb.1 cb.2) ?_ pp _
   show mulQ _ (qV (V0q (ofN a.lo) (ofN a.hi) (ofN b.lo) (ofN b.hi)))
   rcases U0f (ofN a.lo) (ofN a.hi) (ofN b.lo) (ofN b.hi) with q | q | q | q
   · rw [q,Y0t];exact Y0v ha.1 hb.1
   · rw [q,Y0t];exact Y0v ha.1 hb.2
   · rw [q,Y0t];exact Y0v ha.2 hb.1
   · rw [q,Y0t];exact Y0v ha.2 hb.2
 · rw [e2]
   refine W0q (H0k 2 ca.1 ca.2 cb.1 cb.2) ?_ pp _
   show mulQ _ (qV (H0y (ofN a.lo) (ofN a.hi) (ofN b.lo) (ofN b.hi)))
   rcases j0d (ofN a.lo) (ofN a.hi) (ofN b.lo) (ofN b.hi) with q | q | q | q
   · rw [q];exact Y0v ha.1 hb.1
   · rw [q];exact Y0v ha.1 hb.2
   · rw [q];exact Y0v ha.2 hb.1
   · rw [q];exact Y0v ha.2 hb.2
theorem Q2x {a b:Ivl} {p:Int} {L:Nat} (h:(opI 0 a b p).2=0) (ha:mulI L a) (hb:mulI L b):mulI L (opI 0 a b p).1:=by
 have r:=V0i h
 obtain⟨e1,e2⟩:=q0p h
 have pp:=X0z r.2.2
 have ca:=canI r.1
 have cb:=canI r.2.1
 refine⟨?_,?_⟩
 · rw [e1]
   refine W0q (H0j 0 ca.1 ca.2 cb.1 cb.2) ?_ pp _
   rw [loV0,J0n];exact w0q ha.1 hb.1
 · rw [e2]
   refine W0q (H0k 0 ca.1 ca.2 cb.1 cb.2) ?_ pp _
   rw [hiV0,J0n];exact w0q ha.2 hb.2
theorem k2s {a:Ivl} {k p:Int} {L:Nat} (h:(powI a k p).2=0) (ha:mulI L a):mulI (L*k.toNat) (powI a k p).1:=by
 have r:=U0s h
 obtain⟨e1,e2⟩:=z0s h
 have pp:=X0z r.2.2.2
 have h1:=G1n ha.1 k.toNat
 have h2:=G1n ha.2 k.toNat
 refine⟨?_,?_⟩
 · rw [e1]
   refine W0q (U0i r.1 _) ?_ pp _
   unfold z0i
   split
   · rw [show qV ⟨false,0,0⟩=0 from z0h rfl];exact w0o _
   · obtain⟨Y,hY,e,_,_⟩:=G1a a k.toNat
     rw [e]
     rcases hY with rfl | rfl
     · exact h1
     · exact h2
 · rw [e2]
   refine W0q (U0j r.1 _) ?_ pp _
   obtain⟨Y,hY,e,_,_⟩:=G1b a k.toNat
   rw [e]
   rcases hY with rfl | rfl
   · exact h1
   · exact h2
theorem z1r {m:Mn} {b:List Ivl} {p:Int} {c L:Nat} (hc:mulQ c (qN m.c)) (hk:K0a m.ks=true): ∀i,i≤m.ks.length→(∀j,j<i→mulI L (b.getD j default))→(Z0v m b p i).2=0→mulI (c+L*sumK m.ks i) (Z0v m b p i).1
 | 0,_,_,_=>by
  have:sumK m.ks 0=0:=rfl
  rw [this]
  exact⟨hc,hc⟩
 | i+1,hi,hb,h=>by
  have ih:=z1r hc hk i (by omega) (fun j hj=>hb j (by omega)) (U0d h)
  have hs:=K0d hk (i+1) hi
  have hs0:=K0d hk i (by omega)
  have hat:=V0b hk i (by omega)
  have hst:=Y0s m.ks i (by omega)
  have hsum:sumK m.ks (i+1)=sumK m.ks i+(m.ks.getD i 0).toNat:=by unfold sumK;omega
  rcases H0v h with ⟨d,q⟩ | ⟨d,d2,q⟩
  · rw [q,hsum,d];exact ih
  · rw [q] at h⊢
    have:=G1i h ih (k2s d2 (hb i (by omega)))
    rw [hsum,Nat.mul_add,←Nat.add_assoc]
    exact this
theorem W1m {q:List Mn} {b:List Ivl} {p:Int} {g:Nat} : ∀i,(∀j,j<i→(Z0v (q.getD j default) b p b.length).2=0→mulI g (Z0v (q.getD j default) b p b.length).1)→(Z0a q b p i).2=0→mulI g (Z0a q b p i).1
 | 0,_,_=>by
  have e:qN (default:Ivl).lo=0:=X0x 0
  have e2:qN (default:Ivl).hi=0:=X0x 0
  exact⟨by show mulQ _ (qN (default:Ivl).lo);rw [e];exact w0o _,by show mulQ _ (qN (default:Ivl).hi);rw [e2];exact w0o _⟩
 | i+1,hj,h=>by
  obtain⟨c1,c2,e⟩:=U0p h
  have ih:=W1m i (fun j hjl=>hj j (by omega)) c1
  rw [e] at h⊢
  exact Q2x h ih (hj i (by omega) c2)
theorem W1p {n:Nat} {f:List (List Mn)} {a:List Ivl} {p:Int} {L:Nat} (hf:okField n 3 3 f) (hl:a.length=n) {i:Nat} (hi:i<n) (ha: ∀j,j<n→mulI L (a.getD j default)) (h0:(Z0a (f.getD i []) a p (f.getD i []).length).2=0):
 mulI (12+L*3) (Z0a (f.getD i []) a p (f.getD i []).length).1:=by
 have hfl:=hf.1
 refine W1m _ (fun j hj c=> ?_) h0
 obtain⟨a1,a2,a3,a4,a5,a6⟩:=(hf.at (by omega:i<f.length)).at hj
 have hs:=W2y a2 a3 (i:=a.length) (by omega)
 have hm:=z1r (L:=L) (p:=p) a6.mul a2 a.length (by omega) (fun j hj=>ha j (by omega)) c
 refine hm.down ?_
 have:L*sumK ((f.getD i []).getD j default).ks a.length≤L*3:=Nat.mul_le_mul_left _ (by omega)
 omega
end Go.Pv
end
section
/-A range that is nought stays nought,while the same components are points. No program in it. -/
namespace Go.Pv
def ptI (x:Rat) (a:Ivl):Prop:=qN a.lo=x∧qN a.hi=x
theorem U0r {x X:Rat} {a:Ivl} (h:ptI x a) (hX:memI X a):X=x:=Rat.le_antisymm (by rw [←h.2];exact hX.2) (by rw [←h.1];exact hX.1)
def simI (a b:Ivl):Prop:=(∃x,ptI x a∧ptI x b)∨(qN a.lo<qN a.hi∧qN b.lo<qN b.hi)
theorem X3k {k:Nat} {a b:Ivl} {p:Int} {x:Rat} (h:(opI k a b p).2=0) (hx:ptI x (opI k a b p).1):(∀X U,memI X a→memI U b→exQ k X U=x)∧q0v p.toNat x:=by
 refine⟨fun X U hX hU=>U0r hx (q0o k h hX hU),?_⟩
 rw [←hx.1,(q0p h).1];exact H1d _ _
theorem J1v {k:Nat} {a b:Ivl} {p:Int} {x:Rat} (h:(opI k a b p).2=0) (hx: ∀X U,memI X a→memI U b→exQ k X U=x) (hf:q0v p.toNat x):ptI x (opI k a b p).1:=by
 have r:=V0i h
 obtain⟨e1,e2⟩:=q0p h
 have pp:=X0z r.2.2
 have ca:=canI r.1
 have cb:=canI r.2.1
 obtain⟨X,U,x1,x2,x3⟩:=j3m k r.1 r.2.1
 obtain⟨Y,V,y1,y2,y3⟩:=k3a k r.1 r.2.1
 have hl:qV (loV k (ofN a.lo) (ofN a.hi) (ofN b.lo) (ofN b.hi))=x:=by rw [x3];exact hx _ _ x1 x2
 have hh:qV (hiV k (ofN a.lo) (ofN a.hi) (ofN b.lo) (ofN b.hi))=x:=by rw [y3];exact hx _ _ y1 y2
 refine⟨?_,?_⟩
 · rw [e1,(q1q (H0j k ca.1 ca.2 cb.1 cb.2) pp).ex (by rw [hl];exact hf),hl]
 · have:=(q1p (H0k k ca.1 ca.2 cb.1 cb.2) pp).ex (by rw [hh];exact y0f hf)
   rw [e2]
   rw [hh] at this
   grind
theorem V3u {a:Ivl} {k p:Int} {x:Rat} (h:(powI a k p).2=0) (hx:ptI x (powI a k p).1):(∀X,memI X a→powQ X k.toNat=x)∧q0v p.toNat x:=by
 refine⟨fun X hX=>U0r hx (Q2l h hX),?_⟩
 rw [←hx.1,(z0s h).1];exact H1d _ _
theorem k2r {a:Ivl} {k p:Int} {x:Rat} (h:(powI a k p).2=0) (hx: ∀X,memI X a→powQ X k.toNat=x) (hf:q0v p.toNat x):ptI x (powI a k p).1:=by
 have r:=U0s h
 obtain⟨e1,e2⟩:=z0s h
 have pp:=X0z r.2.2.2
 obtain⟨X,x1,x3⟩:=Q2k r.1 k.toNat
 obtain⟨Y,y1,y3⟩:=Q2m r.1 k.toNat
 have hl:qV (z0i a k.toNat)=x:=by rw [x3];exact hx _ x1
 have hh:qV (j0p a k.toNat)=x:=by rw [y3];exact hx _ y1
 refine⟨?_,?_⟩
 · rw [e1,(q1q (U0i r.1 _) pp).ex (by rw [hl];exact hf),hl]
 · have:=(q1p (U0j r.1 k.toNat) pp).ex (by rw [hh];exact y0f hf)
   rw [e2]
   rw [hh] at this
   grind
theorem w0n {a b:Rat} (h:a*b=0):a=0∨b=0:=by
 by_cases ha:a=0
 · exact .inl ha
 · refine .inr ?_
   have:=congrArg (fun t=>a⁻¹*t) h
   simp only [←Rat.mul_assoc,Rat.inv_mul_cancel _ ha,Rat.one_mul,Rat.mul_zero] at this
   exact this
theorem w0d {u:Rat} : ∀k:Nat,powQ u k=0→u=0
 | 0,h=>absurd (show(1:Rat)=0 from h) (by decide)
 | k+1,h=>by
  rcases w0n (show powQ u k*u=0 from h) with h | h
  · exact w0d k h
  · exact h
theorem k0j {v u:Rat} (h0:0≤v) (h:v<u): ∀k:Nat,1≤k→powQ v k<powQ u k
 | 0,hk=>by omega
 | k+1,_=>by
  obtain⟨a1,a2⟩:=H0a h0 (Rat.le_of_lt h) k
  show powQ v k*v<powQ u k*u
  have hu:0<u:=by grind
  have hne:powQ u k≠0:=fun e=>by
   have:=w0d k e
   grind
  have hp:0<powQ u k:=by grind
  have p1:=X0i (a:=powQ u k-powQ v k) (b:=v) (by grind) h0
  have p2:=Rat.mul_pos hp (show 0<u-v by grind)
  grind
theorem k2o {a:Ivl} {k:Nat} {y:Rat} (hk:1≤k) (hle:qN a.lo≤qN a.hi) (h: ∀X,memI X a→powQ X k=y):qN a.lo=qN a.hi:=by
 by_cases he:qN a.lo=qN a.hi
 · exact he
 exfalso
 have hlt:qN a.lo<qN a.hi:=Rat.lt_of_le_of_ne hle he
 by_cases hp:0<qN a.hi
 · by_cases hl:0≤qN a.lo
   · have:=k0j hl hlt k hk
     rw [h _ ⟨Rat.le_refl,hle⟩,h _ ⟨hle,Rat.le_refl⟩] at this
     grind
   · have:=k0j (v:=0) (u:=qN a.hi) Rat.le_refl hp k hk
     rw [h 0 ⟨by grind,by grind⟩,h _ ⟨hle,Rat.le_refl⟩] at this
     grind
 · have:=k0j (v:= -(qN a.hi)) (u:= -(qN a.lo)) (by grind) (by grind) k hk
   rw [Y0u,Y0u,h _ ⟨Rat.le_refl,hle⟩,h _ ⟨hle,Rat.le_refl⟩] at this
   grind
theorem z1q {m:Mn} {b c:List Ivl} {p:Int} : ∀i,(∀j,j<i→simI (b.getD j default) (c.getD j default))→(Z0v m b p i).2=0→(Z0v m c p i).2=0→ ∀x,ptI x (Z0v m b p i).1→ptI x (Z0v m c p i).1
 | 0,_,_,_,x,hx=>hx
 | i+1,hs,h,h',x,hx=>by
  have ih:=z1q (m:=m) (p:=p) i (fun j hj=>hs j (by omega)) (U0d h) (U0d h')
  have hsi:=hs i (by omega)
  rcases H0v h with ⟨d,e⟩ | ⟨d,d2,e⟩<;>rcases H0v h' with ⟨d',e'⟩ | ⟨d',d2',e'⟩
  · rw [e] at hx;rw [e'];exact ih x hx
  · exact absurd d d'
  · exact absurd d' d
  · rw [e] at h hx
    rw [e'] at h'⊢
    have r:=V0i h
    have hk:=(U0s d2).2.1
    have hk1:1≤(m.ks.getD i 0).toNat:=by omega
    have hb:=(U0s d2).1
    have hbl:=K0m hb
    rw [Q0p,Q0p] at hbl
    generalize (Z0v m b p i).1=X at*
    generalize (Z0v m c p i).1=X' at*
    have d2k:=d2
    obtain⟨hall,hfit⟩:=X3k h hx
    have hXl:=K0m r.1
    have hYl:=K0m r.2.1
    rw [Q0p,Q0p] at hXl hYl
    have two: ∀U,memI U (powI (b.getD i default) (m.ks.getD i 0) p).1→qN X.lo*U=x∧qN X.hi*U=x:=fun U hU=>by
     have h1:=hall _ U ⟨Rat.le_refl,hXl⟩ hU
     have h2:=hall _ U ⟨hXl,Rat.le_refl⟩ hU
     rw [exQ2] at h1 h2
     exact⟨h1,h2⟩
    --the argument is a point,and the other one is the same
    have same: ∀y,ptI y (powI (b.getD i default) (m.ks.getD i 0) p).1→ptI y (powI (c.getD i default) (m.ks.getD i 0) p).1:=fun y hy=>by
     obtain⟨q1,q2⟩:=V3u d2 hy
     have hpt:=k2o hk1 hbl q1
     rcases hsi with ⟨z,z1,z2⟩ | ⟨z1,_⟩
     · refine k2r d2' (fun U hU=> ?_) q2
       rw [U0r z2 hU,←z1.1]
       exact q1 _ ⟨Rat.le_refl,hbl⟩
     · rw [hpt] at z1
       exact absurd z1 (by grind)
    by_cases hX:qN X.lo=qN X.hi
    · have hx0:ptI (qN X.lo) X:=⟨rfl,hX.symm⟩
      have hx0':=ih _ hx0
      by_cases h0:qN X.lo=0
      · refine J1v h' (fun U V hU hV=> ?_) hfit
        rw [exQ2,U0r hx0' hU,h0]
        have:=(two _ ⟨Rat.le_refl,hYl⟩).1
        rw [h0] at this
        rw [←this];grind
      · have hy:ptI (qN (powI (b.getD i default) (m.ks.getD i 0) p).1.lo) (powI (b.getD i default) (m.ks.getD i 0) p).1:=by
         refine⟨rfl,?_⟩
         have h1:=(two _ ⟨Rat.le_refl,hYl⟩).1
         have h2:=(two _ ⟨hYl,Rat.le_refl⟩).1
         have h3:qN X.lo*(qN (powI (b.getD i default) (m.ks.getD i 0) p).1.hi-qN (powI (b.getD i default) (m.ks.getD i 0) p).1.lo)=0:=by grind
         rcases w0n h3 with h3 | h3
         · exact absurd h3 h0
         · grind
        have hy':=same _ hy
        refine J1v h' (fun U V hU hV=> ?_) hfit
        rw [exQ2,U0r hx0' hU,U0r hy' hV]
        exact(two _ ⟨Rat.le_refl,hYl⟩).1
    · have hz: ∀U,memI U (powI (b.getD i default) (m.ks.getD i 0) p).1→U=0:=fun U hU=>by
       obtain⟨h1,h2⟩:=two U hU
       have h3:(qN X.hi-qN X.lo)*U=0:=by grind
       rcases w0n h3 with h3 | h3
       · exact absurd (show qN X.lo=qN X.hi by grind) hX
       · exact h3
      have hy:ptI 0 (powI (b.getD i default) (m.ks.getD i 0) p).1:=⟨hz _ ⟨Rat.le_refl,hYl⟩,hz _ ⟨hYl,Rat.le_refl⟩⟩
      have hy':=same _ hy
      have hx0:x=0:=by
       have:=(two _ ⟨Rat.le_refl,hYl⟩).1
       rw [hy.1] at this
       rw [←this];grind
      refine J1v h' (fun U V hU hV=> ?_) hfit
      rw [exQ2,U0r hy' hV,hx0];grind
theorem W1l {q:List Mn} {b c:List Ivl} {p:Int} (hl:c.length=b.length) (hs: ∀j,j<b.length→simI (b.getD j default) (c.getD j default)): ∀i,(Z0a q b p i).2=0→(Z0a q c p i).2=0→ ∀x,ptI x (Z0a q b p i).1→ptI x (Z0a q c p i).1
 | 0,_,_,x,hx=>hx
 | i+1,h,h',x,hx=>by
  obtain⟨c1,c2,e⟩:=U0p h
  obtain⟨c1',c2',e'⟩:=U0p h'
  have ih:=W1l hl hs i c1 c1'
  rw [hl] at c2' e'
  have ho:=z1q (m:=q.getD i default) (p:=p) b.length hs c2 c2'
  rw [e] at h hx
  rw [e'] at h'⊢
  have r:=V0i h
  generalize (Z0a q b p i).1=X at*
  generalize (Z0a q c p i).1=X' at*
  generalize (Z0v (q.getD i default) b p b.length).1=Y at*
  generalize (Z0v (q.getD i default) c p b.length).1=Y' at*
  obtain⟨hall,hfit⟩:=X3k h hx
  have hXl:=K0m r.1
  have hYl:=K0m r.2.1
  rw [Q0p,Q0p] at hXl hYl
  have s1:=hall _ _ ⟨Rat.le_refl,hXl⟩ ⟨Rat.le_refl,hYl⟩
  have s2:=hall _ _ ⟨hXl,Rat.le_refl⟩ ⟨Rat.le_refl,hYl⟩
  have s3:=hall _ _ ⟨Rat.le_refl,hXl⟩ ⟨hYl,Rat.le_refl⟩
  rw [exQ0] at s1 s2 s3
  have h1:=ih (qN X.lo) ⟨rfl,by grind⟩
  have h2:=ho (qN Y.lo) ⟨rfl,by grind⟩
  refine J1v h' (fun U V hU hV=> ?_) hfit
  rw [exQ0,U0r h1 hU,U0r h2 hV];exact s1
end Go.Pv
end
section
/-The boxes that are tried:how fine their ends get. No program in it. -/
namespace Go.Pv
def J0q (a:List Ivl) (j:Nat):Bool:=decide (qN (a.getD j default).lo<qN (a.getD j default).hi)
theorem wideAt_t {a:List Ivl} {j:Nat} :J0q a j=true↔qN (a.getD j default).lo<qN (a.getD j default).hi:=by unfold J0q;exact decide_eq_true_iff
def cntW (a:List Ivl):Nat→Nat
 | 0=>0
 | n+1=>cntW a n+if J0q a n=true then 1 else 0
theorem z2f (a:List Ivl): ∀n,cntW a n≤n
 | 0=>Nat.le_refl _
 | n+1=>by
  have:=z2f a n
  rw [cntW];split<;>omega
theorem z2e {a b:List Ivl} : ∀n,(∀j,j<n→J0q a j=true→J0q b j=true)→cntW a n≤cntW b n∧((∀j,j<n→J0q b j=J0q a j)∨cntW a n+1≤cntW b n)
 | 0,_=>⟨Nat.le_refl _,.inl fun j hj=>absurd hj (by omega)⟩
 | n+1,h=>by
  obtain⟨i1,i2⟩:=z2e n fun j hj=>h j (by omega)
  have hn:=h n (by omega)
  rw [cntW,cntW]
  cases ha:J0q a n with
  | true=>
   rw [hn ha,if_pos rfl]
   refine⟨by omega,?_⟩
   rcases i2 with i2 | i2
   · refine .inl fun j hj=> ?_
     by_cases e:j=n
     · rw [e,ha];exact hn ha
     · exact i2 j (by omega)
   · exact .inr (by omega)
  | false=>
   rw [if_neg (by simp)]
   cases hb:J0q b n with
   | true=>rw [if_pos rfl];exact⟨by omega,.inr (by omega)⟩
   | false=>
    rw [if_neg (by simp)]
    refine⟨by omega,?_⟩
    rcases i2 with i2 | i2
    · refine .inl fun j hj=> ?_
      by_cases e:j=n
      · rw [e,ha];exact hb
      · exact i2 j (by omega)
    · exact .inr (by omega)
structure CS (p:Nat) (xl xh al ah Hl Hh bl bh dl dh s rl rh:Rat):Prop where
 b1:RndDn p (xl+Hl) bl
 b2:RndDn p (-(xh+Hh)) (-bh)
 d1:dl=al∨dl=bl
 d2:dl≤al
 d3:dl≤bl
 e1:dh=ah∨dh=bh
 e2:ah≤dh
 e3:bh≤dh
 w:RndDn p (-(dh-dl)) (-(s*4))
 r1:RndDn p (dl-s) rl
 r2:RndDn p (-(dh+s)) (-rh)
theorem CS.turn {p:Nat} {xl xh al ah Hl Hh bl bh dl dh s rl rh:Rat} (c:CS p xl xh al ah Hl Hh bl bh dl dh s rl rh):CS p (-xh) (-xl) (-ah) (-al) (-Hh) (-Hl) (-bh) (-bl) (-dh) (-dl) s (-rh) (-rl):=by
 refine⟨?_,?_,?_,?_,?_,?_,?_,?_,?_,?_,?_⟩
 · rw [show -xh+ -Hh= -(xh+Hh) by grind];exact c.b2
 · rw [show -(-xl+ -Hl)=xl+Hl by grind,Rat.neg_neg];exact c.b1
 · rcases c.e1 with h | h
   · exact .inl (by rw [h])
   · exact .inr (by rw [h])
 · have:=c.e2;grind
 · have:=c.e3;grind
 · rcases c.d1 with h | h
   · exact .inl (by rw [h])
   · exact .inr (by rw [h])
 · have:=c.d2;grind
 · have:=c.d3;grind
 · rw [show -(-dl- -dh)= -(dh-dl) by grind];exact c.w
 · rw [show -dh-s= -(dh+s) by grind];exact c.r2
 · rw [show -(-dl+s)=dl-s by grind,Rat.neg_neg];exact c.r1
theorem CS.s_ge {p:Nat} {xl xh al ah Hl Hh bl bh dl dh s rl rh:Rat} (c:CS p xl xh al ah Hl Hh bl bh dl dh s rl rh):dh-dl≤s*4:=by
 have:=c.w.le;grind
theorem CS.rl_le {p:Nat} {xl xh al ah Hl Hh bl bh dl dh s rl rh:Rat} (c:CS p xl xh al ah Hl Hh bl bh dl dh s rl rh) (h:al≤ah):rl≤dl:=by
 have:=c.s_ge
 have:=c.d2
 have:=c.e2
 have:=c.r1.le
 grind
theorem CS.wide_lo {p:Nat} {xl xh al ah Hl Hh bl bh dl dh s rl rh:Rat} (c:CS p xl xh al ah Hl Hh bl bh dl dh s rl rh) {m:Nat} (hx:xl≤xh) (ha:al≤xl) (hb:xh≤ah) (hH:Hl≤0) (hm:16≤m) (hxl:mulQ 12 xl) (hwid:p2 (-(m:Int))≤ah-al) (hal:mulQ (m+p+2) al):mulQ (m+p+2) rl:=by
 have hs:=c.s_ge
 have d2:=c.d2
 have e2:=c.e2
 have hr:=c.r1.le
 have q2:p2 (-(m:Int))=p2 (-((m+2:Nat):Int))*4:=by
  rw [←Q2t,←H0u];congr 1;omega
 have hpos:=z0v (-((m+2:Nat):Int))
 by_cases h1:p2 (-((m+2:Nat):Int))≤rl
 · exact(X1k c.r1.fits (.inl h1)).down (by omega)
 by_cases h2:rl≤ -(p2 (-((m+2:Nat):Int)))
 · exact(X1k c.r1.fits (.inr h2)).down (by omega)
 --near nought:so the hull's lower end is above it,and not near it
 have hsm:p2 (-((m+2:Nat):Int))≤s:=by grind
 have hd0:0<dl:=by
  by_cases hz:dl-s≤ -(p2 (-((m+2:Nat):Int)))
  · exfalso;exact h2 (Rat.le_trans hr hz)
  · grind
 have hxl0:0<xl:=by grind
 have hx12:=G1o hxl hxl0
 have hge: -(p2 (-((m+2:Nat):Int)))<dl-s:=by
  apply Rat.not_le.1
  intro hz
  exact h2 (Rat.le_trans hr hz)
 have hbig:xl-p2 (-(m:Int))≤dl*5:=by grind
 have hm13:p2 (-(m:Int))≤p2 (-(13:Int)):=J1u (by omega)
 have h13:p2 (-(12:Int))=p2 (-(13:Int))*2:=by
  have:=J1t (-13);exact this
 have h16:p2 (-(13:Int))=p2 (-(16:Int))*8:=by
  rw [←Q2u,←H0u];rfl
 have h12:p2 (-((12:Nat):Int))=p2 (-(12:Int)):=rfl
 have hp16:=z0v (-(16:Int))
 have hdl16:p2 (-((16:Nat):Int))≤dl:=by
  show p2 (-(16:Int))≤dl
  grind
 have hdm:mulQ (m+p+2) dl:=by
  rcases c.d1 with e | e
  · rw [e];exact hal
  · have hf:q0v p dl:=by rw [e];exact c.b1.fits
    exact(X1k hf (.inl hdl16)).down (by omega)
 have hsf:q0v p (s*4):=by
  have:=y0f c.w.fits
  rw [Rat.neg_neg] at this;exact this
 have hs4:mulQ (m+p) (s*4):=X1k hsf (.inl (by grind))
 exact c.r1.mul _ (w0p hdm (Z1j hs4))
theorem CS.crude_lo {p:Nat} {xl xh al ah Hl Hh bl bh dl dh s rl rh:Rat} (c:CS p xl xh al ah Hl Hh bl bh dl dh s rl rh) {K:Nat} (h1:mulQ K xl) (h2:mulQ K xh) (h3:mulQ K al) (h4:mulQ K ah) (h5:mulQ K Hl) (h6:mulQ K Hh):mulQ (K+2) rl:=by
 have hb1:=c.b1.mul K (w0q h1 h5)
 have hb2:mulQ K bh:=by
  have:=J0v (c.b2.mul K (J0v (w0q h2 h6)))
  rw [Rat.neg_neg] at this;exact this
 have hd:mulQ K dl:=by rcases c.d1 with e | e<;>rw [e]<;>assumption
 have hd2:mulQ K dh:=by rcases c.e1 with e | e<;>rw [e]<;>assumption
 have hs:mulQ K (s*4):=by
  have:=J0v (c.w.mul K (J0v (w0p hd2 hd)))
  rw [Rat.neg_neg] at this;exact this
 exact c.r1.mul _ (w0p (hd.down (by omega)) (Z1j hs))
theorem CS.point {p:Nat} {x bl bh dl dh s rl rh:Rat} (c:CS p x x x x 0 0 bl bh dl dh s rl rh) (hf:q0v p x):rl=x∧rh=x:=by
 have hb1:bl=x:=by
  have:=c.b1.ex (by rw [Rat.add_zero];exact hf)
  rw [Rat.add_zero] at this;exact this
 have hb2:bh=x:=by
  have:=c.b2.ex (by rw [Rat.add_zero];exact y0f hf)
  rw [Rat.add_zero] at this;grind
 have hd:dl=x:=by rcases c.d1 with e | e<;>rw [e]<;>assumption
 have hd2:dh=x:=by rcases c.e1 with e | e<;>rw [e]<;>assumption
 have hs:s=0:=by
  have h0: -(dh-dl)=0:=by rw [hd,hd2];grind
  have:=c.w.ex (by rw [h0];exact x1w p)
  rw [h0] at this;grind
 refine⟨?_,?_⟩
 · have h0:dl-s=x:=by rw [hd,hs];grind
   have:=c.r1.ex (by rw [h0];exact hf)
   rw [this,h0]
 · have h0: -(dh+s)= -x:=by rw [hd2,hs];grind
   have:=c.r2.ex (by rw [h0];exact y0f hf)
   rw [h0] at this;grind
def hI (f:List (List Mn)) (a:List Ivl) (h:Nm) (p:Int) (j:Nat):Ivl:=(opI 2 ⟨default,h⟩ (Z0a (f.getD j []) a p (f.getD j []).length).1 p).1
theorem w1e {f:List (List Mn)} {x a:List Ivl} {h:Nm} {p:Int} {j:Nat} (A:NextAt f x a h p j) (hh:0<qN h):qN (hI f a h p j).lo≤0∧0≤qN (hI f a h p j).hi:=by
 have r:=V0i A.t0
 have hl:=K0m r.2.1
 rw [Q0p,Q0p] at hl
 have hm:=q0o 2 A.t0 (X:=0) (U:=qN (Z0a (f.getD j []) a p (f.getD j []).length).1.lo) ⟨by show qN default≤0;rw [U0q];exact Rat.le_refl,by show 0≤qN h;grind⟩ ⟨Rat.le_refl,hl⟩
 rw [exQ2,Rat.zero_mul] at hm
 exact hm
theorem z0m {f:List (List Mn)} {x a:List Ivl} {h:Nm} {p:Int} (N:NextOK f x a h p) (hw:(X0b a (Z0m f x a h p).1 p).2=0) {j:Nat} (hj:j<f.length):
 ∃bl bh dl dh s,CS p.toNat (qN (x.getD j default).lo) (qN (x.getD j default).hi) (qN (a.getD j default).lo) (qN (a.getD j default).hi) (qN (hI f a h p j).lo) (qN (hI f a h p j).hi) bl bh dl dh s
  (qN ((X0b a (Z0m f x a h p).1 p).1.getD j default).lo) (qN ((X0b a (Z0m f x a h p).1 p).1.getD j default).hi):=by
 have A:=N.at hj
 have pp:=X0z N.pp
 have r:=V0i A.s0
 have ca:=canI r.1
 have cb:=canI r.2.1
 obtain⟨e1,e2⟩:=q0p A.s0
 obtain⟨u1,u2,u3⟩:=x1k N.ra N.rightB (by rw [N.len,N.la])
 have hwd:X0b a (Z0m f x a h p).1 p=G0i (Y0g a (Z0m f x a h p).1).1 p:=by unfold X0b;rw [if_pos u1]
 rw [hwd] at hw⊢
 obtain⟨_,v1,v2,v3⟩:=k1a hw
 have hja:j<a.length:=by rw [N.la];exact hj
 have hjd:j<(Y0g a (Z0m f x a h p).1).1.length:=by rw [u2];exact hja
 have hbl:=v2 j hjd
 rw [v3 j hjd]
 obtain⟨s,s1,s2,⟨v,cv,w1,w2⟩,⟨u,cu,w3,w4⟩,w,cw,w5,w6⟩:=j0g hbl
 rw [u3 j hja] at w1 w3 w5
 obtain⟨q1,q2,q3⟩:=v1y (a.getD j default).lo ((Z0m f x a h p).1.getD j default).lo
 obtain⟨g1,g2,g3⟩:=w1g (a.getD j default).hi ((Z0m f x a h p).1.getD j default).hi
 refine⟨qN ((Z0m f x a h p).1.getD j default).lo,qN ((Z0m f x a h p).1.getD j default).hi,qN (Z0c (a.getD j default).lo ((Z0m f x a h p).1.getD j default).lo),qN (Z0d (a.getD j default).hi ((Z0m f x a h p).1.getD j default).hi),s,?_,?_,q1,q2,q3,g1,g2,g3,?_,?_,?_⟩
 · have:=q1q (H0j 0 ca.1 ca.2 cb.1 cb.2) pp
   rw [←e1,loV0,J0n,Q0p,Q0p,←A.val] at this
   exact this
 · have:=q1p (H0k 0 ca.1 ca.2 cb.1 cb.2) pp
   rw [←e2,hiV0,J0n,Q0p,Q0p,←A.val] at this
   exact this
 · have:=q1p cw pp
   rw [←w6,w5] at this
   exact this
 · have:=q1q cv pp
   rw [←w2,w1] at this
   exact this
 · have:=q1p cu pp
   rw [←w4,w3] at this
   exact this
end Go.Pv
end
section
/-All boxes that are tried are fine enough. No program in it. -/
namespace Go.Pv
def K1n :Nat→Nat
 | 0=>12
 | k+1=>3*K1n k+40
theorem Z2v {k:Nat} (h:k≤4):12≤K1n k∧K1n k≤2572:=by
 match k,h with
 | 0,_=>decide
 | 1,_=>decide
 | 2,_=>decide
 | 3,_=>decide
 | 4,_=>decide
structure Seek (f:List (List Mn)) (x:List Ivl) (h:Nm) (p:Int) (n:Nat):Prop where
 hf:okField n 3 3 f
 n1:1≤n
 n4:n≤4
 hx:x.length=n
 xr: ∀j,j<n→Q0h (x.getD j default)=true
 xm: ∀j,j<n→mulI 12 (x.getD j default)
 xf: ∀j,j<n→q0v p.toNat (qN (x.getD j default).lo)
 hh:0<qN h
 hr:Q0g h=true
 hm:mulQ 26 (qN h)
 pp:Z0l p=true
def conB (x a:List Ivl) (n:Nat):Prop:= ∀j,j<n→qN (a.getD j default).lo≤qN (x.getD j default).lo∧qN (x.getD j default).hi≤qN (a.getD j default).hi
def invA (a:List Ivl) (n k:Nat):Prop:=k≤4∧k≤cntW a n∧ ∀j,j<n→mulI (K1n k) (a.getD j default)
def invB (f:List (List Mn)) (x a:List Ivl) (h:Nm) (p:Int) (n:Nat):Prop:=
 (∃a0,NextOK f x a0 h p∧conB x a0 n∧(∀j,j<n→J0q a j=J0q a0 j)∧ ∀j,j<n→J0q a0 j=false→ptI 0 (Z0a (f.getD j []) a0 p (f.getD j []).length).1)∧
 (∀j,j<n→mulI (2572+p.toNat+2) (a.getD j default))∧ ∀j,j<n→J0q a j=true→p2 (-((2572:Nat):Int))≤qN (a.getD j default).hi-qN (a.getD j default).lo
theorem X3m {h:Nm} {L:Nat} (hm:mulQ L (qN h)):mulI L ⟨default,h⟩:=⟨by show mulQ L (qN default);rw [U0q];exact w0o _,hm⟩
theorem Q1k {a:List Ivl} {j:Nat} (h:J0q a j=false):qN (a.getD j default).hi≤qN (a.getD j default).lo:=by
 apply Rat.not_lt.1
 intro hlt
 rw [wideAt_t.2 hlt] at h;cases h
theorem X2c {f:List (List Mn)} {x a:List Ivl} {h:Nm} {p:Int} {n:Nat} (S:Seek f x h p n) (N:NextOK f x a h p) (hw:(X0b a (Z0m f x a h p).1 p).2=0) (hc:conB x a n):
 conB x (X0b a (Z0m f x a h p).1 p).1 n∧ ∀j,j<n→qN ((X0b a (Z0m f x a h p).1 p).1.getD j default).lo≤qN (a.getD j default).lo∧qN (a.getD j default).hi≤qN ((X0b a (Z0m f x a h p).1 p).1.getD j default).hi:=by
 have key: ∀j,j<n→qN ((X0b a (Z0m f x a h p).1 p).1.getD j default).lo≤qN (a.getD j default).lo∧qN (a.getD j default).hi≤qN ((X0b a (Z0m f x a h p).1 p).1.getD j default).hi:=fun j hj=>by
  have hjf:j<f.length:=by rw [S.hf.1];exact hj
  obtain⟨bl,bh,dl,dh,s,c⟩:=z0m N hw hjf
  have hle:=K0m (W0b N.ra (by rw [N.la];exact hjf))
  rw [Q0p,Q0p] at hle
  have h1:=c.rl_le hle
  have h2:=c.turn.rl_le (by grind)
  have:=c.d2
  have:=c.e2
  exact⟨by grind,by grind⟩
 exact⟨fun j hj=>⟨Rat.le_trans (key j hj).1 (hc j hj).1,Rat.le_trans (hc j hj).2 (key j hj).2⟩,key⟩
theorem W2j {f:List (List Mn)} {x a:List Ivl} {h:Nm} {p:Int} {n:Nat} (S:Seek f x h p n) (N:NextOK f x a h p) (hw:(X0b a (Z0m f x a h p).1 p).2=0) (hc:conB x a n) {j:Nat} (hj:j<n)
 (hwid:p2 (-((2572:Nat):Int))≤qN (a.getD j default).hi-qN (a.getD j default).lo) (hm:mulI (2572+p.toNat+2) (a.getD j default)):mulI (2572+p.toNat+2) ((X0b a (Z0m f x a h p).1 p).1.getD j default):=by
 have hjf:j<f.length:=by rw [S.hf.1];exact hj
 obtain⟨bl,bh,dl,dh,s,c⟩:=z0m N hw hjf
 obtain⟨s1,s2⟩:=w1e (N.at hjf) N.ph
 obtain⟨c1,c2⟩:=hc j hj
 have hle:=K0m (S.xr j hj)
 rw [Q0p,Q0p] at hle
 refine⟨c.wide_lo hle c1 c2 s1 (by omega) (S.xm j hj).1 hwid hm.1,?_⟩
 have:=c.turn.wide_lo (m:=2572) (by grind) (by grind) (by grind) (by grind) (by omega) (J0v (S.xm j hj).2) (by grind) (J0v hm.2)
 have:=J0v this
 rw [Rat.neg_neg] at this;exact this
theorem x3b {x a b:List Ivl} {n:Nat} (hx: ∀j,j<n→qN (x.getD j default).lo≤qN (x.getD j default).hi) (ha:conB x a n) (hb:conB x b n) (hw: ∀j,j<n→J0q b j=J0q a j): ∀j,j<n→simI (a.getD j default) (b.getD j default):=fun j hj=>by
 have h1:=hw j hj
 have hxj:=hx j hj
 obtain⟨a1,a2⟩:=ha j hj
 obtain⟨b1,b2⟩:=hb j hj
 cases h2:J0q a j with
 | true=>
  rw [h2] at h1
  exact .inr ⟨wideAt_t.1 h2,wideAt_t.1 h1⟩
 | false=>
  rw [h2] at h1
  have q1:=Q1k h2
  have q2:=Q1k h1
  exact .inl ⟨qN (x.getD j default).lo,⟨by grind,by grind⟩,by grind,by grind⟩
theorem w2v {f:List (List Mn)} {x a:List Ivl} {h:Nm} {p:Int} {n:Nat} (S:Seek f x h p n) (N:NextOK f x a h p) (hw:(X0b a (Z0m f x a h p).1 p).2=0) (hc:conB x a n) (hi:(∃k,invA a n k)∨invB f x a h p n):
 (∃k,invA (X0b a (Z0m f x a h p).1 p).1 n k)∨invB f x (X0b a (Z0m f x a h p).1 p).1 h p n:=by
 obtain⟨hc',hgrow⟩:=X2c S N hw hc
 have hxl: ∀j,j<n→qN (x.getD j default).lo≤qN (x.getD j default).hi:=fun j hj=>by
  have:=K0m (S.xr j hj)
  rw [Q0p,Q0p] at this;exact this
 have hfl:=S.hf.1
 have hal:a.length=n:=by rw [N.la,hfl]
 have keepw: ∀j,j<n→J0q a j=true→J0q (X0b a (Z0m f x a h p).1 p).1 j=true:=fun j hj hwj=>by
  have:=hgrow j hj
  have:=wideAt_t.1 hwj
  exact wideAt_t.2 (by grind)
 have hwide: ∀j,j<n→p2 (-((2572:Nat):Int))≤qN (a.getD j default).hi-qN (a.getD j default).lo→mulI (2572+p.toNat+2) (a.getD j default)→mulI (2572+p.toNat+2) ((X0b a (Z0m f x a h p).1 p).1.getD j default):=fun j hj=>W2j S N hw hc hj
 rcases hi with ⟨k,k4,kc,km⟩ | ⟨⟨a0,N0,hc0,hs0,hz0⟩,hm,hd⟩
 · obtain⟨f1,f2⟩:=Z2v k4
   rcases (z2e n keepw).2 with hsame | hmore
   · refine .inr ⟨⟨a,N,hc,hsame,fun j hj hnw=> ?_⟩,fun j hj=> ?_,fun j hj hwj=> ?_⟩
     · --no width came:nothing came
       have hjf:j<f.length:=by omega
       have A:=N.at hjf
       obtain⟨bl,bh,dl,dh,s,c⟩:=z0m N hw hjf
       obtain⟨s1,s2⟩:=w1e A N.ph
       have hnw':=hsame j hj
       rw [hnw] at hnw'
       have q1:=Q1k hnw
       have q2:=Q1k hnw'
       obtain⟨c1,c2⟩:=hc j hj
       have hle:qN (a.getD j default).lo≤qN (a.getD j default).hi:=by
        have:=K0m (W0b N.ra (by omega:j<a.length))
        rw [Q0p,Q0p] at this;exact this
       have r1:=c.rl_le hle
       have r2:=c.turn.rl_le (by grind)
       have d3:=c.d3
       have e3:=c.e3
       have t1:=c.b1.le
       have t2:=c.b2.le
       have hx':=hxl j hj
       have hz1:qN (hI f a h p j).lo=0:=by grind
       have hz2:qN (hI f a h p j).hi=0:=by grind
       have rr:=V0i A.t0
       have hBl:=K0m rr.2.1
       rw [Q0p,Q0p] at hBl
       have all0: ∀U,memI U (Z0a (f.getD j []) a p (f.getD j []).length).1→U=0:=fun U hU=>by
        have:=q0o 2 A.t0 (X:=qN h) (U:=U) ⟨by show qN default≤_;rw [U0q];have:=N.ph;grind,Rat.le_refl⟩ hU
        have h0:=U0r (a:=hI f a h p j) ⟨hz1,hz2⟩ this
        rw [exQ2] at h0
        rcases w0n h0 with h0 | h0
        · have:=N.ph;grind
        · exact h0
       exact⟨all0 _ ⟨Rat.le_refl,hBl⟩,all0 _ ⟨hBl,Rat.le_refl⟩⟩
     · cases hwj:J0q a j with
       | true=>
        have hlt:=wideAt_t.1 hwj
        have hp:=G1o (w0p (km j hj).2 (km j hj).1) (by grind)
        exact hwide j hj (Rat.le_trans (J1u (by omega)) hp) ((km j hj).down (by omega))
       | false=>
        have h2:=hsame j hj
        rw [hwj] at h2
        have q2:=Q1k h2
        obtain⟨c1,c2⟩:=hc' j hj
        have hx':=hxl j hj
        have e1:qN ((X0b a (Z0m f x a h p).1 p).1.getD j default).lo=qN (x.getD j default).lo:=by grind
        have e2:qN ((X0b a (Z0m f x a h p).1 p).1.getD j default).hi=qN (x.getD j default).hi:=by grind
        exact⟨by rw [e1];exact(S.xm j hj).1.down (by omega),by rw [e2];exact(S.xm j hj).2.down (by omega)⟩
     · have hwa:=hsame j hj
       rw [hwj] at hwa
       have hlt:=wideAt_t.1 hwa.symm
       have hp:=G1o (w0p (km j hj).2 (km j hj).1) (by grind)
       have:=hgrow j hj
       have hq:p2 (-((2572:Nat):Int))≤p2 (-((K1n k:Nat):Int)):=J1u (by omega)
       grind
   · have hn4:=S.n4
     have hle:=z2f (X0b a (Z0m f x a h p).1 p).1 n
     refine .inl ⟨k+1,by omega,by omega,fun j hj=> ?_⟩
     have hjf:j<f.length:=by omega
     have A:=N.at hjf
     obtain⟨bl,bh,dl,dh,s,c⟩:=z0m N hw hjf
     have hB:=W1p S.hf hal hj km A.r0
     have hH:mulI (26+(12+K1n k*3)) (hI f a h p j):=G1i A.t0 (X3m S.hm) hB
     have hx1:=(S.xm j hj).down (L':=26+(12+K1n k*3)) (by omega)
     have ha1:=(km j hj).down (L':=26+(12+K1n k*3)) (by omega)
     have hk:K1n (k+1)=26+(12+K1n k*3)+2:=by show 3*K1n k+40=_;omega
     rw [hk]
     refine⟨c.crude_lo hx1.1 hx1.2 ha1.1 ha1.2 hH.1 hH.2,?_⟩
     have:=J0v (c.turn.crude_lo (J0v hx1.2) (J0v hx1.1) (J0v ha1.2) (J0v ha1.1) (J0v hH.2) (J0v hH.1))
     rw [Rat.neg_neg] at this;exact this
 · have ha0l:a0.length=n:=by rw [N0.la,hfl]
   have hpt: ∀j,j<n→J0q a j=false→qN ((X0b a (Z0m f x a h p).1 p).1.getD j default).lo=qN (x.getD j default).lo∧qN ((X0b a (Z0m f x a h p).1 p).1.getD j default).hi=qN (x.getD j default).lo:=fun j hj hnw=>by
    have hjf:j<f.length:=by omega
    have A:=N.at hjf
    have hB:=W1l (q:=f.getD j []) (p:=p) (by omega:a.length=a0.length) (fun i hi=>x3b hxl hc0 hc hs0 i (by omega)) _ (N0.at hjf).r0 A.r0 0 (hz0 j hj (by rw [←hs0 j hj];exact hnw))
    have hH:ptI 0 (hI f a h p j):=J1v A.t0 (fun X U _ hU=>by rw [exQ2,U0r hB hU,Rat.mul_zero]) (x1w _)
    obtain⟨bl,bh,dl,dh,s,c⟩:=z0m N hw hjf
    rw [hH.1,hH.2] at c
    have q1:=Q1k hnw
    obtain⟨c1,c2⟩:=hc j hj
    have hx':=hxl j hj
    have e1:qN (a.getD j default).lo=qN (x.getD j default).lo:=by grind
    have e2:qN (a.getD j default).hi=qN (x.getD j default).lo:=by grind
    have e3:qN (x.getD j default).hi=qN (x.getD j default).lo:=by grind
    rw [e1,e2,e3] at c
    exact c.point (S.xf j hj)
   have hsame: ∀j,j<n→J0q (X0b a (Z0m f x a h p).1 p).1 j=J0q a j:=fun j hj=>by
    cases hwj:J0q a j with
    | true=>exact keepw j hj hwj
    | false=>
     obtain⟨e1,e2⟩:=hpt j hj hwj
     unfold J0q
     rw [e1,e2]
     exact decide_eq_false (by grind)
   refine .inr ⟨⟨a0,N0,hc0,fun j hj=>by rw [hsame j hj];exact hs0 j hj,hz0⟩,fun j hj=> ?_,fun j hj hwj=> ?_⟩
   · cases hwj:J0q a j with
     | true=>exact hwide j hj (hd j hj hwj) (hm j hj)
     | false=>
      obtain⟨e1,e2⟩:=hpt j hj hwj
      exact⟨by rw [e1];exact(S.xm j hj).1.down (by omega),by rw [e2];exact(S.xm j hj).1.down (by omega)⟩
   · rw [hsame j hj] at hwj
     have:=hd j hj hwj
     have:=hgrow j hj
     grind
theorem W1e {f:List (List Mn)} {x:List Ivl} {h:Nm} {p:Int} {n:Nat} (S:Seek f x h p n): ∀(m:Nat) (yl:Bool) (a:List Ivl),conB x a n→((∃k,invA a n k)∨invB f x a h p n)→ ∀e∈W0i f x h p m yl a,
 (∀j,j<n→mulI 2830 (e.1.getD j default))∧conB x e.1 n∧NextOK f x e.1 h p∧e.2=(Z0m f x e.1 h p).1
 | 0,_,_,_,_,e,he=>by cases he
 | m+1,yl,a,hc,hi,e,he=>by
  rw [U0m] at he
  split at he
  · rename_i h0
    have N:=nextP_iff.1 h0
    rcases List.mem_append.1 he with he | he
    · split at he
      · have e1:e=(a,(Z0m f x a h p).1):=by simpa using he
        rw [e1]
        refine⟨fun j hj=> ?_,hc,N,rfl⟩
        have hp:p.toNat≤256:=by
         have:=S.pp
         unfold Z0l at this
         simp only [Bool.and_eq_true,decide_eq_true_eq] at this
         omega
        rcases hi with ⟨k,k4,_,km⟩ | ⟨_,hm,_⟩
        · have:=Z2v k4
          exact(km j hj).down (by omega)
        · exact(hm j hj).down (by omega)
      · cases he
    · split at he
      · rename_i hw
        exact W1e S m true _ (X2c S N hw hc).1 (w2v S N hw hc hi) e he
      · cases he
  · cases he
theorem Y1z {f:List (List Mn)} {x:List Ivl} {h:Nm} {p:Int} : ∀l:List (List Ivl×List Ivl),(boxL f x h p l).2=true→ ∃e∈l,inB e.2 e.1=true∧(boxL f x h p l).1=if U1m f x e.2 h p=true then e.2 else e.1
 | [],h=>by cases h
 | e::l,hb=>by
  rw [x0n] at hb⊢
  split at hb
  · rename_i hin
    rw [if_pos hin]
    exact⟨e,by simp,hin,rfl⟩
  · rename_i hin
    rw [if_neg hin]
    obtain⟨e',h1,h2,h3⟩:=Y1z l hb
    exact⟨e',by simp [h1],h2,h3⟩
theorem z2o {f:List (List Mn)} {x:List Ivl} {h:Nm} {p:Int} {n:Nat} (S:Seek f x h p n) (hb:(boxP f x h p).2=true):
 NextOK f x (boxP f x h p).1 h p∧inB (Z0m f x (boxP f x h p).1 h p).1 (boxP f x h p).1=true∧conB x (boxP f x h p).1 n∧ ∀j,j<n→mulI 8528 ((boxP f x h p).1.getD j default):=by
 obtain⟨e,he,hin,hv⟩:=Y1z _ hb
 obtain⟨m1,c1,N,e2⟩:=W1e S 9 false x (fun j hj=>⟨Rat.le_refl,Rat.le_refl⟩) (.inl ⟨0,by omega,by omega,fun j hj=>S.xm j hj⟩) e he
 unfold boxP
 rw [hv]
 split
 · rename_i hs
   have hs':=hs
   unfold U1m at hs'
   simp only [Bool.and_eq_true,decide_eq_true_eq] at hs'
   refine⟨nextP_iff.1 hs'.1,hs'.2,fun j hj=> ?_,fun j hj=> ?_⟩
   · have A:=N.at (j:=j) (by rw [S.hf.1];exact hj)
     obtain⟨s1,s2⟩:=w1e A N.ph
     have m:=q0o 0 A.s0 (X:=qN (x.getD j default).lo) (U:=0) ⟨Rat.le_refl,by have:=K0m (S.xr j hj);rw [Q0p,Q0p] at this;exact this⟩ ⟨s1,s2⟩
     have m2:=q0o 0 A.s0 (X:=qN (x.getD j default).hi) (U:=0) ⟨by have:=K0m (S.xr j hj);rw [Q0p,Q0p] at this;exact this,Rat.le_refl⟩ ⟨s1,s2⟩
     rw [exQ0,Rat.add_zero] at m m2
     rw [e2,A.val]
     exact⟨m.1,m2.2⟩
   · have hjf:j<f.length:=by rw [S.hf.1];exact hj
     have A:=N.at hjf
     have hB:=W1p S.hf (by rw [N.la,S.hf.1]) hj m1 A.r0
     have hH:=G1i A.t0 (X3m S.hm) hB
     rw [e2,A.val]
     exact Q2x A.s0 ((S.xm j hj).down (by omega)) (hH.down (by omega))
 · refine⟨N,by rw [←e2];exact hin,c1,fun j hj=>(m1 j hj).down (by omega)⟩
end Go.Pv
end
