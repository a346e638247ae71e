/- Parts of the walk: M59, M52, M53, M54. -/
import Derived.Test.YtagacielooaapaaGreatDoorZAR
import Derived.Test.YtagacielooaapaaGreatDoorZBM
import Derived.Test.YtagacielooaapaaGreatDoorZL
import Derived.Test.YtagacielooaapaaGreatDoorZBR
import Derived.Test.YtagacielooaapaaGreatDoorZBN
set_option linter.unusedVariables false
set_option linter.unusedSimpArgs false
section
/-Numbers by powers of two;times. No program in it. -/
namespace Go.Pv
theorem Y1w {x:Nm} {k:Nat} (h:(X0f x (-(k:Int))).2=0):Q0j x=true∧qN (X0f x (-(k:Int))).1*p2 k=qN x:=by
 unfold X0f at h⊢
 split at h
 · rename_i hr
   rw [if_pos hr]
   refine⟨hr,?_⟩
   split at h
   · rename_i hw
     rw [if_pos hw]
     have h0:qN x=0:=U2y (by rw [hw];rfl)
     show qN x*p2 k=qN x
     rw [h0,Rat.zero_mul]
   · rename_i hw
     rw [if_neg hw]
     split at h
     · exact absurd h (by decide)
     · rename_i hk
       rw [if_neg hk]
       have hc:canV (⟨x.neg,valW x.w,x.exp+ -(k:Int)⟩:Vl):=by
        rcases J0g hr with h1 | h1
        · exact .inl h1
        · exact absurd ((U0e hr).1 (show valW x.w=0 from congrArg Vl.m h1)) hw
       rw [(K0c hc h).2]
       unfold qV qN qM
       show((X0b ⟨x.neg,valW x.w,x.exp+ -(k:Int)⟩:Int):Rat)*p2 (x.exp+ -(k:Int))*p2 k=((mant x:Int):Rat)*p2 x.exp
       rw [Rat.mul_assoc,←k0f]
       congr 2
       omega
 · exact absurd h (by decide)
theorem U2i {x:Nm} {L U k:Nat} (hx:Q0j x=true) (h:luQ L U (qN x)) (hk:k≤1000) (hb:L+U+k+1≤4096):(X0f x (-(k:Int))).2=0∧luQ (L+k) U (qN (X0f x (-(k:Int))).1):=by
 have key: ∀y:Rat,y*p2 k=qN x→luQ (L+k) U y:=fun y hy=>by
  obtain⟨z,h1,h2⟩:=h
  refine⟨z,?_,Nat.le_trans h2 (Nat.pow_le_pow_right (by decide) (by omega))⟩
  have hne:=J4u k
  have e:qM z (-((L+k:Nat):Int))*p2 k=qM z (-(L:Int)):=by
   unfold qM
   rw [Rat.mul_assoc,←k0f]
   congr 2
   omega
  rw [h1,←e] at hy
  have:=congrArg (fun t=>t*(p2 k)⁻¹) hy
  simp only [Rat.mul_assoc,Rat.mul_inv_cancel _ hne,Rat.mul_one] at this
  exact this
 have h0:(X0f x (-(k:Int))).2=0:=by
  unfold X0f
  rw [if_pos hx]
  split
  · rfl
  · rename_i hw
    rw [if_neg (by omega)]
    have hc:canV (⟨x.neg,valW x.w,x.exp+ -(k:Int)⟩:Vl):=by
     rcases J0g hx with h1 | h1
     · exact .inl h1
     · exact absurd ((U0e hx).1 (show valW x.w=0 from congrArg Vl.m h1)) hw
    refine U0o hc (key _ ?_) (by omega)
    unfold qV qN qM
    show((X0b ⟨x.neg,valW x.w,x.exp+ -(k:Int)⟩:Int):Rat)*p2 (x.exp+ -(k:Int))*p2 k=((mant x:Int):Rat)*p2 x.exp
    rw [Rat.mul_assoc,←k0f]
    congr 2
    omega
 exact⟨h0,key _ (Y1w h0).2⟩
end Go.Pv
end
section
/-Boxes taken apart and put together;where solutions go. No program in it. -/
namespace Go.Pv
theorem w1r {k:Nat} {a b:List Ivl} {p:Int} (h:(opB k a b p).2=0):(rightB a=true∧rightB b=true∧a.length=b.length∧Z0b p=true)∧(opB k a b p).1.length=a.length∧
 (∀j,j<a.length→(opI k (a.getD j default) (b.getD j default) p).2=0)∧ ∀j,j<a.length→(opB k a b p).1.getD j default=(opI k (a.getD j default) (b.getD j default) p).1:=by
 unfold opB at h⊢
 by_cases c:rightB a=true∧rightB b=true∧a.length=b.length∧Z0b p=true
 · rw [if_pos c,K0n] at h
   rw [if_pos c,K0n]
   exact⟨c,K0r h⟩
 · rw [if_neg c] at h;exact absurd h (by decide)
theorem V3f {k:Nat} {a b:List Ivl} {p:Int} (c:rightB a=true∧rightB b=true∧a.length=b.length∧Z0b p=true) (h: ∀j,j<a.length→(opI k (a.getD j default) (b.getD j default) p).2=0):(opB k a b p).2=0:=by
 unfold opB
 rw [if_pos c,K0n]
 exact H0f _ _ _ fun j _ hj=>h j (by omega)
theorem Y1q {x:Ivl} {b:List Ivl} {p:Int} (h:(H0d x b p).2=0):(rightB b=true∧Q0i x=true∧Z0b p=true)∧(H0d x b p).1.length=b.length∧
 (∀j,j<b.length→(opI 2 x (b.getD j default) p).2=0)∧ ∀j,j<b.length→(H0d x b p).1.getD j default=(opI 2 x (b.getD j default) p).1:=by
 unfold H0d at h⊢
 by_cases c:rightB b=true∧Q0i x=true∧Z0b p=true
 · rw [if_pos c,K0n] at h
   rw [if_pos c,K0n]
   exact⟨c,K0r h⟩
 · rw [if_neg c] at h;exact absurd h (by decide)
theorem K2c {x:Ivl} {b:List Ivl} {p:Int} (c:rightB b=true∧Q0i x=true∧Z0b p=true) (h: ∀j,j<b.length→(opI 2 x (b.getD j default) p).2=0):(H0d x b p).2=0:=by
 unfold H0d
 rw [if_pos c,K0n]
 exact H0f _ _ _ fun j _ hj=>h j (by omega)
theorem x2j {b:List Ivl} {p:Int} (h:(v0n b p).2=0):(rightB b=true∧Z0b p=true)∧(v0n b p).1.length=b.length∧
 (∀j,j<b.length→(H0w (b.getD j default) p).2=0)∧ ∀j,j<b.length→(v0n b p).1.getD j default=(H0w (b.getD j default) p).1:=by
 unfold v0n at h⊢
 by_cases c:rightB b=true∧Z0b p=true
 · rw [if_pos c,K0n] at h
   rw [if_pos c,K0n]
   exact⟨c,K0r h⟩
 · rw [if_neg c] at h;exact absurd h (by decide)
theorem x2k {b:List Ivl} {p:Int} (c:rightB b=true∧Z0b p=true) (h: ∀j,j<b.length→(H0w (b.getD j default) p).2=0):(v0n b p).2=0:=by
 unfold v0n
 rw [if_pos c,K0n]
 exact H0f _ _ _ fun j _ hj=>h j (by omega)
theorem q2n {a b:List Ivl} (ha:rightB a=true) (hb:rightB b=true) (hl:a.length=b.length):(v0b a b).2=0∧(v0b a b).1.length=a.length∧
 ∀j,j<a.length→(v0b a b).1.getD j default=⟨Z0r (a.getD j default).lo (b.getD j default).lo,Z0q (a.getD j default).hi (b.getD j default).hi⟩:=by
 have hI: ∀j,j<a.length→y1e (a.getD j default) (b.getD j default)=(⟨Z0r (a.getD j default).lo (b.getD j default).lo,Z0q (a.getD j default).hi (b.getD j default).hi⟩,0):=fun j hj=>H1t (q0e ha hj) (q0e hb (by omega))
 unfold v0b
 rw [if_pos ⟨ha,hb,hl⟩,K0n]
 have h0:(tabF (fun j=>y1e (a.getD j default) (b.getD j default)) 0 a.length []).2=0:=H0f _ _ _ fun j _ hj=>by show(y1e (a.getD j default) (b.getD j default)).2=0;rw [hI j (by omega)]
 obtain⟨g1,g2,g3⟩:=K0r h0
 refine⟨h0,g1,fun j hj=> ?_⟩
 rw [g3 j hj]
 show(y1e (a.getD j default) (b.getD j default)).1=_
 rw [hI j hj]
theorem q2c (a b:Nm):(qN (Z0r a b)=qN a∨qN (Z0r a b)=qN b)∧qN (Z0r a b)≤qN a∧qN (Z0r a b)≤qN b:=by
 unfold Z0r
 split
 · rename_i h
   have:=cmpN_lt.1 h
   exact⟨.inr rfl,by grind,Rat.le_refl⟩
 · rename_i h
   have h2: ¬qN b<qN a:=fun e=>h (cmpN_lt.2 e)
   exact⟨.inl rfl,Rat.le_refl,by grind⟩
theorem q2q (a b:Nm):(qN (Z0q a b)=qN a∨qN (Z0q a b)=qN b)∧qN a≤qN (Z0q a b)∧qN b≤qN (Z0q a b):=by
 unfold Z0q
 split
 · rename_i h
   have:=cmpN_gt.1 h
   exact⟨.inr rfl,by grind,Rat.le_refl⟩
 · rename_i h
   have h2: ¬qN a<qN b:=fun e=>h (cmpN_gt.2 e)
   exact⟨.inl rfl,Rat.le_refl,by grind⟩
theorem inB_sub {a b:List Ivl} :inB a b=true↔rightB a=true∧rightB b=true∧a.length=b.length∧ ∀j,j<a.length→subI (a.getD j default) (b.getD j default):=by
 unfold inB allF
 simp only [Bool.and_eq_true,decide_eq_true_eq,List.all_eq_true,List.mem_range]
 constructor
 · rintro⟨⟨ha,hb⟩,hl,hj⟩
   exact⟨ha,hb,hl,fun j h=>(H1s (q0e ha h) (q0e hb (by omega))).1 (hj j h)⟩
 · rintro⟨ha,hb,hl,hj⟩
   exact⟨⟨ha,hb⟩,hl,fun j h=>(H1s (q0e ha h) (q0e hb (by omega))).2 (hj j h)⟩
theorem G1s {h:Nm} (hr:Q0j h=true):(¬sgnN (ownN h)≤0)↔0<qN h:=by
 unfold ownN
 rw [if_pos hr,←U2c];omega
theorem Y1r {h:Nm} (hr:Q0j h=true) (h0:0<qN h):Q0i ⟨default,h⟩=true:=K0v v1r hr (cmpN_le.2 (by rw [K1d];grind))
structure NextOK (f:List (List Mn)) (x a:List Ivl) (h:Nm) (p:Int):Prop where
 rf:K0h f=true
 rx:rightB x=true
 ra:rightB a=true
 lx:x.length=f.length
 la:a.length=f.length
 rh:Q0j h=true
 ph:0<qN h
 pp:Z0b p=true
 e1:(J0q f a p).2=0
 e2:(H0d ⟨default,h⟩ (J0q f a p).1 p).2=0
 e3:(opB 0 x (H0d ⟨default,h⟩ (J0q f a p).1 p).1 p).2=0
theorem nextP_iff {f:List (List Mn)} {x a:List Ivl} {h:Nm} {p:Int} :(U0m f x a h p).2=0↔NextOK f x a h p:=by
 constructor
 · intro e
   unfold U0m at e
   split at e
   · rename_i c
     obtain⟨c1,c2,c3,c4,c5,c6,c7,c8⟩:=c
     split at e
     · rename_i d1
       split at e
       · rename_i d2
         exact⟨c1,c2,c3,c4,c5,c6,(G1s c6).1 c7,c8,d1,d2,e⟩
       · rename_i d2;exact absurd e d2
     · rename_i d1;exact absurd e d1
   · exact absurd e (by decide)
 · rintro⟨c1,c2,c3,c4,c5,c6,c7,c8,d1,d2,e⟩
   unfold U0m
   rw [if_pos ⟨c1,c2,c3,c4,c5,c6,(G1s c6).2 c7,c8⟩,if_pos d1,if_pos d2]
   exact e
theorem NextOK.val {f:List (List Mn)} {x a:List Ivl} {h:Nm} {p:Int} (n:NextOK f x a h p):(U0m f x a h p).1=(opB 0 x (H0d ⟨default,h⟩ (J0q f a p).1 p).1 p).1:=by
 unfold U0m
 rw [if_pos ⟨n.rf,n.rx,n.ra,n.lx,n.la,n.rh,(G1s n.rh).2 n.ph,n.pp⟩,if_pos n.e1,if_pos n.e2]
theorem K1c {f:List (List Mn)} {a:List Ivl} {p:Int} (h:(J0q f a p).2=0):(K0h f=true∧a.length=f.length)∧(J0q f a p).1.length=f.length∧ ∀j,j<f.length→(J0q f a p).1.getD j default=(J0c (f.getD j []) a p (f.getD j []).length).1∧(J0c (f.getD j []) a p (f.getD j []).length).2=0:=by
 unfold J0q at h⊢
 by_cases c:K0h f=true∧a.length=f.length
 · rw [if_pos c] at h⊢
   obtain⟨g1,g2,g3⟩:=K0r h
   refine⟨c,g1,fun j hj=> ?_⟩
   have e:=g2 j hj
   rw [g3 j hj]
   show(w0k (f.getD j []) a p).1=_∧_
   replace e:(w0k (f.getD j []) a p).2=0:=e
   unfold w0k at e⊢
   split at e
   · rename_i d;rw [if_pos d];exact⟨rfl,e⟩
   · exact absurd e (by decide)
 · rw [if_neg c] at h;exact absurd h (by decide)
structure NextAt (f:List (List Mn)) (x a:List Ivl) (h:Nm) (p:Int) (j:Nat):Prop where
 r0:(J0c (f.getD j []) a p (f.getD j []).length).2=0
 t0:(opI 2 ⟨default,h⟩ (J0c (f.getD j []) a p (f.getD j []).length).1 p).2=0
 s0:(opI 0 (x.getD j default) (opI 2 ⟨default,h⟩ (J0c (f.getD j []) a p (f.getD j []).length).1 p).1 p).2=0
 val:(U0m f x a h p).1.getD j default=(opI 0 (x.getD j default) (opI 2 ⟨default,h⟩ (J0c (f.getD j []) a p (f.getD j []).length).1 p).1 p).1
theorem NextOK.len {f:List (List Mn)} {x a:List Ivl} {h:Nm} {p:Int} (n:NextOK f x a h p):(U0m f x a h p).1.length=f.length:=by
 rw [n.val,(w1r n.e3).2.1,n.lx]
theorem NextOK.at {f:List (List Mn)} {x a:List Ivl} {h:Nm} {p:Int} (n:NextOK f x a h p) {j:Nat} (hj:j<f.length):NextAt f x a h p j:=by
 obtain⟨_,r1,r2⟩:=K1c n.e1
 obtain⟨r3,r4⟩:=r2 j hj
 obtain⟨_,t1,t2,t3⟩:=Y1q n.e2
 obtain⟨_,s1,s2,s3⟩:=w1r n.e3
 have t2:=t2 j (by omega)
 have t3:=t3 j (by omega)
 have s2:=s2 j (by rw [n.lx];exact hj)
 have s3:=s3 j (by rw [n.lx];exact hj)
 rw [r3] at t2 t3
 rw [t3] at s2 s3
 exact⟨r4,t2,s2,by rw [n.val];exact s3⟩
theorem V2n {k:Nat} {a b:List Ivl} {p:Int} (h:(opB k a b p).2=0):rightB (opB k a b p).1=true:=by
 obtain⟨c,l,_,v⟩:=w1r h
 have:=Q1d c.1
 exact V0k (fun j hj=>by rw [v j (by omega)];exact Y0q _ _ _ _) (by omega) (by omega)
theorem NextOK.rightB {f:List (List Mn)} {x a:List Ivl} {h:Nm} {p:Int} (n:NextOK f x a h p):Go.Pv.rightB (U0m f x a h p).1=true:=by
 rw [n.val];exact V2n n.e3
theorem v2s {f:List (List Mn)} {x a:List Ivl} {h:Nm} {p:Int} (rf:K0h f=true) (rx:rightB x=true) (ra:rightB a=true) (lx:x.length=f.length) (la:a.length=f.length) (rh:Q0j h=true) (ph:0<qN h) (pp:Z0b p=true) (e1:(J0q f a p).2=0)
 (h2: ∀j,j<f.length→(opI 2 ⟨default,h⟩ (J0c (f.getD j []) a p (f.getD j []).length).1 p).2=0)
 (h3: ∀j,j<f.length→(opI 0 (x.getD j default) (opI 2 ⟨default,h⟩ (J0c (f.getD j []) a p (f.getD j []).length).1 p).1 p).2=0):NextOK f x a h p:=by
 obtain⟨_,r1,r2⟩:=K1c e1
 have hx:=Q1d rx
 have rr:rightB (J0q f a p).1=true:=V0k (fun j hj=>by
  obtain⟨q1,q2⟩:=r2 j (by omega)
  have:=h2 j (by omega)
  rw [q1];exact(j0n this).2.1) (by omega) (by omega)
 have e2:(H0d ⟨default,h⟩ (J0q f a p).1 p).2=0:=K2c ⟨rr,Y1r rh ph,pp⟩ fun j hj=>by
  rw [(r2 j (by omega)).1];exact h2 j (by omega)
 obtain⟨_,t1,t2,t3⟩:=Y1q e2
 have rt:rightB (H0d ⟨default,h⟩ (J0q f a p).1 p).1=true:=V0k (fun j hj=>by
  rw [t3 j (by omega)];exact Y0q _ _ _ _) (by omega) (by omega)
 refine⟨rf,rx,ra,lx,la,rh,ph,pp,e1,e2,V3f ⟨rx,rt,by omega,pp⟩ fun j hj=> ?_⟩
 rw [t3 j (by omega),(r2 j (by omega)).1]
 exact h3 j (by omega)
theorem x0x {a:Ivl} {p:Int} (h:(H0w a p).2=0):(K0u a p).2=0∧(X0f (K0u a p).1 (-2)).2=0∧(U0j 1 a.lo (X0f (K0u a p).1 (-2)).1 p false).2=0∧(U0j 0 a.hi (X0f (K0u a p).1 (-2)).1 p true).2=0∧
 (H0w a p).1=⟨(U0j 1 a.lo (X0f (K0u a p).1 (-2)).1 p false).1,(U0j 0 a.hi (X0f (K0u a p).1 (-2)).1 p true).1⟩:=by
 unfold H0w at h⊢
 split at h
 · rename_i c;exact absurd h c
 · rename_i c
   split at h
   · rename_i d;exact absurd h d
   · rename_i d
     split at h
     · exact absurd h (by decide)
     · rename_i e
       rw [if_neg c,if_neg d,if_neg e]
       have e1: ¬(U0j 1 a.lo (X0f (K0u a p).1 (-2)).1 p false).2≠0:=fun q=>e (.inl q)
       have e2: ¬(U0j 0 a.hi (X0f (K0u a p).1 (-2)).1 p true).2≠0:=fun q=>e (.inr q)
       exact⟨Classical.not_not.1 c,Classical.not_not.1 d,Classical.not_not.1 e1,Classical.not_not.1 e2,rfl⟩
theorem Q3p {a:Ivl} {p:Int} (h1:(K0u a p).2=0) (h2:(X0f (K0u a p).1 (-2)).2=0) (h3:(U0j 1 a.lo (X0f (K0u a p).1 (-2)).1 p false).2=0) (h4:(U0j 0 a.hi (X0f (K0u a p).1 (-2)).1 p true).2=0):(H0w a p).2=0:=by
 unfold H0w
 rw [if_neg (by rw [h1];decide),if_neg (by rw [h2];decide),if_neg (by rw [h3,h4];decide)]
theorem Q1h {k:Nat} {a b:Nm} {p:Int} {up:Bool} (h:(U0j k a b p up).2=0):Q0j a=true∧Q0j b=true∧Z0b p=true:=by
 unfold U0j at h
 split at h
 · assumption
 · exact absurd h (by decide)
theorem J1y {k:Nat} {a b:Nm} {p:Int} {up:Bool} (h:(U0j k a b p up).2=0):qN (U0j k a b p up).1=qV (Q0r (exV k (ofN a) (ofN b)) p.toNat up):=by
 have c:=Q1h h
 unfold U0j at h⊢
 rw [if_pos c] at h⊢
 exact(K0c (Z0j (Z1g k (J0g c.1) (J0g c.2.1)) _ _) h).2
theorem j0a {a:Ivl} {p:Int} (h:(K0u a p).2=0):Q0i a=true∧Z0b p=true:=by
 unfold K0u at h
 split at h
 · assumption
 · exact absurd h (by decide)
theorem q1t {a:Ivl} {p:Int} (h:(K0u a p).2=0):qN (K0u a p).1=qV (Q0r (q0i (ofN a.hi) (ofN a.lo)) p.toNat true):=by
 have c:=j0a h
 have hc:=canI c.1
 unfold K0u at h⊢
 rw [if_pos c] at h⊢
 exact(K0c (Z0j (G0x hc.2 hc.1) _ _) h).2
end Go.Pv
end
section
/-How great what is reckoned gets:at most a power of two,which rounding does not pass. No program in it. -/
namespace Go.Pv
theorem V2k (e:Int):p2 e=qM 1 e:=by simp [qM]
theorem V3d {a b:Int} (h:a≤b):p2 a≤p2 b:=by
 rw [V2k,V2k,show b=a+((b-a).toNat:Int) from by omega,←W0h,qM_le]
 have:0<(2:Int)^(b-a).toNat:=Int.pow_pos (by decide)
 omega
theorem w1m (a:Int):p2 (a+1)=p2 a*2:=by
 rw [k0f];congr 1
def magQ (e:Int) (x:Rat):Prop:= -(p2 e)≤x∧x≤p2 e
theorem K1v (e:Int):magQ e 0:=by
 have:=K1o e
 exact⟨by grind,by grind⟩
theorem magQ.up {e g:Int} {x:Rat} (h:magQ e x) (he:e≤g):magQ g x:=by
 have:=V3d he
 exact⟨by have:=h.1;grind,by have:=h.2;grind⟩
theorem X1x {e:Int} {x:Rat} (h:magQ e x):magQ e (-x):=⟨by have:=h.2;grind,by have:=h.1;grind⟩
theorem X1y {e:Int} {x y:Rat} (h:magQ e x) (g:magQ e y):magQ (e+1) (x+y):=by
 obtain⟨a,b⟩:=h
 obtain⟨c,d⟩:=g
 refine⟨?_,?_⟩
 · rw [w1m];grind
 · rw [w1m];grind
theorem X2j {e g:Int} {x y:Rat} (h:magQ e x) (k:magQ g y):magQ (e+g) (x*y):=by
 obtain⟨a,b⟩:=h
 obtain⟨c,d⟩:=k
 have q1:=J0d (a:=p2 e-x) (b:=p2 g+y) (by grind) (by grind)
 have q2:=J0d (a:=p2 e+x) (b:=p2 g-y) (by grind) (by grind)
 have q3:=J0d (a:=p2 e-x) (b:=p2 g-y) (by grind) (by grind)
 have q4:=J0d (a:=p2 e+x) (b:=p2 g+y) (by grind) (by grind)
 unfold magQ
 rw [k0f]
 exact⟨by grind,by grind⟩
theorem H1g {e:Int} {x:Rat} (h:magQ e x): ∀k:Nat,magQ (e*k) (powQ x k)
 | 0=>by
  show magQ (e*((0:Nat):Int)) 1
  rw [Int.natCast_zero,Int.mul_zero]
  unfold magQ
  rw [w1l]
  exact⟨by decide,Rat.le_refl⟩
 | k+1=>by
  show magQ _ (powQ x k*x)
  rw [show e*((k+1:Nat):Int)=e*k+e from by rw [Int.natCast_add,Int.mul_add];omega]
  exact X2j (H1g h k) h
theorem H2l {L U:Nat} {x:Rat} (h:luQ L U x):magQ U x:=by
 obtain⟨z,rfl,hz⟩:=h
 have e:p2 (U:Int)=qM (2^(L+U)) (-(L:Int)):=by
  rw [V2k,show(U:Int)= -(L:Int)+((L+U:Nat):Int) from by omega,←W0h,Int.one_mul]
 have hz2:(z.natAbs:Int)≤2^(L+U):=by
  have:((2^(L+U):Nat):Int)=2^(L+U):=by simp
  rw [←this];exact_mod_cast hz
 unfold magQ
 rw [e,←w0n,qM_le,qM_le]
 omega
theorem y2g (p:Nat) (e:Int):Y1f p (-(p2 e)):=⟨-1,e,by rw [V2k,w0n],Nat.one_le_two_pow⟩
theorem G0k {e:Int} {v:Vl} {p:Nat} (hp:1≤p) (h:magQ e (qV v)) (up:Bool):magQ e (qV (Q0r v p up)):=by
 have dn: ∀w:Vl,magQ e (qV w)→magQ e (qV (Q0r w p false)):=fun w hw=>⟨j0k hp (y2g p e) hw.1,Rat.le_trans (Y0m w p) hw.2⟩
 cases up with
 | false=>exact dn v h
 | true=>
  rw [q0c]
  refine X1x (dn _ ?_)
  rw [W0p];exact X1x h
def ampI (e:Int) (a:Ivl):Prop:=magQ e (qN a.lo)∧magQ e (qN a.hi)
theorem ampI.up {e g:Int} {a:Ivl} (h:ampI e a) (he:e≤g):ampI g a:=⟨h.1.up he,h.2.up he⟩
theorem j0u {e:Int} {a:Ivl} (h:ampI e a) {X:Rat} (hX:memI X a):magQ e X:=⟨Rat.le_trans h.1.1 hX.1,Rat.le_trans hX.2 h.2.2⟩
theorem w1x {L U:Nat} {a:Ivl} (h:luI L U a):ampI U a:=⟨H2l h.2.1,H2l h.2.2⟩
theorem G2s {k:Nat} {a b:Ivl} {p:Int} {g:Int} (h:(opI k a b p).2=0) (hx: ∀X U,memI X a→memI U b→magQ g (exQ k X U)):ampI g (opI k a b p).1:=by
 have r:=j0n h
 obtain⟨e1,e2⟩:=X1r h
 have pp:=K0i r.2.2
 obtain⟨X,U,x1,x2,x3⟩:=z3y k r.1 r.2.1
 obtain⟨Y,V,y1,y2,y3⟩:=x3k k r.1 r.2.1
 refine⟨?_,?_⟩
 · rw [e1];exact G0k pp (by rw [x3];exact hx X U x1 x2) _
 · rw [e2];exact G0k pp (by rw [y3];exact hx Y V y1 y2) _
theorem Z2s {a b:Ivl} {p:Int} {e g:Int} (h:(opI 2 a b p).2=0) (ha:ampI e a) (hb:ampI g b):ampI (e+g) (opI 2 a b p).1:=
 G2s h fun X U hX hU=>by rw [exQ2];exact X2j (j0u ha hX) (j0u hb hU)
theorem Z2t {a b:Ivl} {p:Int} {e:Int} (h:(opI 0 a b p).2=0) (ha:ampI e a) (hb:ampI e b):ampI (e+1) (opI 0 a b p).1:=
 G2s h fun X U hX hU=>by rw [exQ0];exact X1y (j0u ha hX) (j0u hb hU)
theorem v2f {a:Ivl} {k p:Int} {e:Int} (h:(powI a k p).2=0) (ha:ampI e a):ampI (e*k.toNat) (powI a k p).1:=by
 have r:=x1e h
 obtain⟨e1,e2⟩:=G2l h
 have pp:=K0i r.2.2.2
 obtain⟨X,x1,x3⟩:=v2e r.1 k.toNat
 obtain⟨Y,y1,y3⟩:=v2h r.1 k.toNat
 refine⟨?_,?_⟩
 · rw [e1];exact G0k pp (by rw [x3];exact H1g (j0u ha x1) _) _
 · rw [e2];exact G0k pp (by rw [y3];exact H1g (j0u ha y1) _) _
theorem x1j {m:Mn} {b:List Ivl} {p:Int} {c e:Int} (hc:magQ c (qN m.c)) (hk:V0g m.ks=true): ∀i,i≤m.ks.length→(∀j,j<i→ampI e (b.getD j default))→(Y0p m b p i).2=0→ampI (c+e*sumK m.ks i) (Y0p m b p i).1
 | 0,_,_,_=>by
  have:sumK m.ks 0=0:=rfl
  rw [this,Int.natCast_zero,Int.mul_zero,Int.add_zero]
  exact⟨hc,hc⟩
 | i+1,hi,hb,h=>by
  have ih:=x1j (e:=e) hc hk i (by omega) (fun j hj=>hb j (by omega)) (U1e h)
  have hs:=K0l hk (i+1) hi
  have hs0:=K0l hk i (by omega)
  have hat:=V0j hk i (by omega)
  have hst:=U0i m.ks i (by omega)
  have hsum:sumK m.ks (i+1)=sumK m.ks i+(m.ks.getD i 0).toNat:=by unfold sumK;omega
  rcases V2m h with ⟨d,q⟩ | ⟨d,d2,q⟩
  · rw [q,hsum,d];exact ih
  · rw [q] at h⊢
    have:=Z2s h ih (v2f d2 (hb i (by omega)))
    rw [hsum,Int.natCast_add,Int.mul_add,←Int.add_assoc]
    exact this
theorem U1b {q:List Mn} {b:List Ivl} {p:Int} {g:Int} : ∀i,(∀j,j<i→(Y0p (q.getD j default) b p b.length).2=0→ampI g (Y0p (q.getD j default) b p b.length).1)→(J0c q b p i).2=0→ampI (g+i) (J0c q b p i).1
 | 0,_,_=>by
  have e:qN (default:Ivl).lo=0:=K0b 0
  have e2:qN (default:Ivl).hi=0:=K0b 0
  exact⟨by show magQ _ (qN (default:Ivl).lo);rw [e];exact K1v _,by show magQ _ (qN (default:Ivl).hi);rw [e2];exact K1v _⟩
 | i+1,hj,h=>by
  obtain⟨c1,c2,e⟩:=v1x h
  have ih:=U1b i (fun j hjl=>hj j (by omega)) c1
  rw [e] at h⊢
  have:=Z2t h ih ((hj i (by omega) c2).up (by omega))
  rw [show g+((i+1:Nat):Int)=g+i+1 from by omega]
  exact this
theorem Z1j {a:Ivl} {p:Int} (h:(H0w a p).2=0): ∃s:Rat,qN a.hi-qN a.lo≤s*4∧0≤s∧
 (∃v:Vl,canV v∧qV v=qN a.lo-s∧qN (H0w a p).1.lo=qV (Q0r v p.toNat false))∧(∃v:Vl,canV v∧qV v=qN a.hi+s∧qN (H0w a p).1.hi=qV (Q0r v p.toNat true))∧ ∃w:Vl,canV w∧qV w=qN a.hi-qN a.lo∧s*4=qV (Q0r w p.toNat true):=by
 obtain⟨w0,s0,l0,h0,e⟩:=x0x h
 have hw:=q1t w0
 obtain⟨wn,pp⟩:=j0a w0
 have hs:=(Y1w (x:=(K0u a p).1) (k:=2) s0).2
 have hr:=Q1h l0
 have hr2:=Q1h h0
 rw [show p2 ((2:Nat):Int)=4 from Z3x] at hs
 rw [show -((2:Nat):Int)= -2 from rfl] at hs
 have hge:=G0d (q0i (ofN a.hi) (ofN a.lo)) p.toNat
 rw [←hw,Y0w,Z0w,Z0w] at hge
 have hle:=G0e wn
 rw [Z0w,Z0w] at hle
 have ca:=canI wn
 refine⟨qN (X0f (K0u a p).1 (-2)).1,by rw [hs];exact hge,by grind,⟨exV 1 (ofN a.lo) (ofN (X0f (K0u a p).1 (-2)).1),Z1g 1 ca.1 (J0g hr.2.1),by rw [k2q,exQ1,Z0w,Z0w],?_⟩,
  ⟨exV 0 (ofN a.hi) (ofN (X0f (K0u a p).1 (-2)).1),Z1g 0 ca.2 (J0g hr.2.1),by rw [k2q,exQ0,Z0w,Z0w],?_⟩,q0i (ofN a.hi) (ofN a.lo),G0x ca.2 ca.1,by rw [Y0w,Z0w,Z0w],by rw [hs,hw]⟩
 · rw [e];exact J1y l0
 · rw [e];exact J1y h0
theorem Q2e {a:Ivl} {p:Int} (h:(H0w a p).2=0):Q0i (H0w a p).1=true∧subI a (H0w a p).1:=by
 obtain⟨s,h1,h2,⟨v,_,h3,h4⟩,⟨u,_,h5,h6⟩,_⟩:=Z1j h
 obtain⟨w0,s0,l0,h0,e⟩:=x0x h
 have wn:=(j0a w0).1
 have q1:=Y0m v p.toNat
 have q2:=G0d u p.toNat
 have hle:=G0e wn
 rw [Z0w,Z0w] at hle
 have hs:subI a (H0w a p).1:=⟨by rw [h4];grind,by rw [h6];grind⟩
 refine⟨K0v ?_ ?_ (cmpN_le.2 ?_),hs⟩
 · rw [e];exact J1z _ _ _ _ _
 · rw [e];exact J1z _ _ _ _ _
 · have:=hs.1
   have:=hs.2
   grind
theorem x2i {a:Ivl} {p:Int} {e:Int} (h:(H0w a p).2=0) (ha:ampI e a):ampI (e+1) (H0w a p).1:=by
 have pp:=K0i (j0a (x0x h).1).2
 obtain⟨s,h1,h2,⟨v,_,h3,h4⟩,⟨u,_,h5,h6⟩,w,_,h7,h8⟩:=Z1j h
 have m1:magQ (e+1) (s*4):=by
  rw [h8]
  refine G0k pp ?_ _
  rw [h7,Rat.sub_eq_add_neg]
  exact X1y ha.2 (X1x ha.1)
 have m2:magQ e s:=by
  have:=m1.2
  have:=m1.1
  have e2:=w1m e
  have:=K1o e
  exact⟨by grind,by grind⟩
 refine⟨?_,?_⟩
 · rw [h4]
   refine G0k pp ?_ _
   rw [h3,Rat.sub_eq_add_neg];exact X1y ha.1 (X1x m2)
 · rw [h6]
   refine G0k pp ?_ _
   rw [h5];exact X1y ha.2 m2
theorem Z2b {k L U:Nat} {x y:Nm} {p:Int} (hk:k<2) (hx:Q0j x=true) (hy:Q0j y=true) (h1:luQ L U (qN x)) (h2:luQ L U (qN y)) (hp:Z0b p=true) (up:Bool) (hb:L+U+3≤4096):(U0j k x y p up).2=0∧luQ L (U+2) (qN (U0j k x y p up).1):=by
 have hc:canV (exV k (ofN x) (ofN y)):=Z1g k (J0g hx) (J0g hy)
 have hq:qV (exV k (ofN x) (ofN y))=exQ k (qN x) (qN y):=by rw [k2q];rfl
 have hl:luQ L (U+1) (qV (exV k (ofN x) (ofN y))):=by
  rw [hq]
  unfold exQ
  split
  · exact k0v h1 h2
  · rw [if_pos (by omega)];exact K1w h1 h2
 have hr:=V0o hc hl p.toNat (K0i hp) up
 have hf:(U0j k x y p up).2=0:=by
  unfold U0j
  rw [if_pos ⟨hx,hy,hp⟩]
  exact U0o (Z0j hc _ _) hr (by omega)
 exact⟨hf,by rw [J1y hf];exact hr⟩
theorem Q3q {L U:Nat} {a:Ivl} {p:Int} (ha:luI L U a) (hp:Z0b p=true) (hb:L+U+8≤4096):(H0w a p).2=0∧luI (L+2) (U+4) (H0w a p).1:=by
 have ca:=canI ha.1
 have rr:=Q0p ha.1
 have hl:luQ L (U+1) (qV (q0i (ofN a.hi) (ofN a.lo))):=by rw [Y0w,Z0w,Z0w];exact K1w ha.2.2 ha.2.1
 have cl:=G0x ca.2 ca.1
 have hr:=V0o cl hl p.toNat (K0i hp) true
 have w0:(K0u a p).2=0:=by
  unfold K0u
  rw [if_pos ⟨ha.1,hp⟩]
  exact U0o (Z0j cl _ _) hr (by omega)
 rw [←q1t w0] at hr
 obtain⟨s0,s1⟩:=U2i (k:=2) (v1a a p) hr (by omega) (by omega)
 rw [show -((2:Nat):Int)= -2 from rfl] at s0 s1
 have sr:=z1f (K0u a p).1 (-2)
 obtain⟨l0,l1⟩:=Z2b (k:=1) (by omega) rr.1 sr (ha.2.1.mono (L':=L+2) (U':=U+2) (by omega) (by omega)) s1 hp false (by omega)
 obtain⟨h0,h1⟩:=Z2b (k:=0) (by omega) rr.2.1 sr (ha.2.2.mono (L':=L+2) (U':=U+2) (by omega) (by omega)) s1 hp true (by omega)
 have hb0:=Q3p w0 s0 l0 h0
 refine⟨hb0,(Q2e hb0).1,?_,?_⟩
 · rw [(x0x hb0).2.2.2.2];exact l1
 · rw [(x0x hb0).2.2.2.2];exact h1
end Go.Pv
end
section
/-For a short time a box is found. No program in it. -/
namespace Go.Pv
def V3i (n M:Nat) (D:Int) (p:List Mn):Prop:=X0m p n=true∧p.length≤M∧ ∀m∈p,okMn n 6 (8+M) D m
def okFieldT (n M:Nat) (D:Int) (f:List (List Mn)):Prop:=f.length=n∧ ∀p∈f,V3i n M D p
theorem okFieldT.ok {n M:Nat} {D:Int} {f:List (List Mn)} (h:okFieldT n M D f):okField n M D f:=⟨h.1,fun p hp=>⟨(h.2 p hp).1,(h.2 p hp).2.1,fun m hm=>by
 obtain⟨a1,a2,a3,a4,a5,a6⟩:=(h.2 p hp).2.2 m hm
 exact⟨a1,a2,a3,a4,a5,a6.mono (by omega) (by omega)⟩⟩⟩
theorem okFieldT.at {n M:Nat} {D:Int} {f:List (List Mn)} (h:okFieldT n M D f) {i j:Nat} (hi:i<f.length) (hj:j<(f.getD i []).length):okMn n 6 (8+M) D ((f.getD i []).getD j default):=by
 have e:f.getD i []=f[i]:=by simp [List.getD_eq_getElem?_getD,hi]
 rw [e] at hj⊢
 exact x0m (h.2 _ (List.getElem_mem hi)).2.2 hj
theorem v1n {ks:List Int} {D:Int} (hr:V0g ks=true) (h:ks.sum≤D) {i:Nat} (hi:i≤ks.length):(sumK ks i:Int)≤D:=by
 have h0:=K0l hr i hi
 have h1:(ks.take i).sum≤ks.sum:=by
  have hk:=((J0v ks).1 hr).1
  have: ∀(l:List Int) (n:Nat),(∀j,j<l.length→0≤l.getD j 0)→(l.take n).sum≤l.sum:=by
   intro l
   induction l with
   | nil=>intro n _;simp
   | cons x l ih=>
    intro n hp
    have hx:0≤x:=hp 0 (by simp)
    have hp': ∀j,j<l.length→0≤l.getD j 0:=fun j hj=>by have:=hp (j+1) (by simpa using hj);simpa using this
    cases n with
    | zero=>
     have:=ih 0 hp'
     simp at this⊢;omega
    | succ n=>
     have:=ih n hp'
     simp;omega
  exact this ks i hk
 unfold sumK;omega
theorem K2z {n:Nat} {f:List (List Mn)} {a:List Ivl} {p:Int} {e:Int} (he:0≤e) (hf:okFieldT n 3 3 f) (hl:a.length=n) {i:Nat} (hi:i<n) (ha: ∀j,j<n→ampI e (a.getD j default)) (h0:(J0c (f.getD i []) a p (f.getD i []).length).2=0):
 ampI (14+e*3) (J0c (f.getD i []) a p (f.getD i []).length).1:=by
 have hfl:=hf.1
 have hlen:(f.getD i []).length≤3:=by
  have e:f.getD i []=f[i]'(by omega):=by simp [List.getD_eq_getElem?_getD,(by omega:i<f.length)]
  rw [e];exact(hf.2 _ (List.getElem_mem _)).2.1
 refine(U1b (g:=11+e*3) _ (fun j hj c=> ?_) h0).up (by omega)
 obtain⟨a1,a2,a3,a4,a5,a6⟩:=hf.at (by omega:i<f.length) hj
 have hs:=v1n a2 a3 (i:=a.length) (by omega)
 have hm:=x1j (c:=11) (e:=e) (p:=p) ((H2l a6).up (by omega)) a2 a.length (by omega) (fun j hj=>ha j (by omega)) c
 refine hm.up ?_
 have:e*(sumK ((f.getD i []).getD j default).ks a.length:Int)≤e*3:=Int.mul_le_mul_of_nonneg_left hs he
 omega
theorem W3k {L U:Nat} {a b:Ivl} (ha:luI L U a) (hb:luI L U b):luI L U ⟨Z0r a.lo b.lo,Z0q a.hi b.hi⟩∧subI a ⟨Z0r a.lo b.lo,Z0q a.hi b.hi⟩∧subI b ⟨Z0r a.lo b.lo,Z0q a.hi b.hi⟩:=by
 have hr:Q0i (⟨Z0r a.lo b.lo,Z0q a.hi b.hi⟩:Ivl)=true:=by
  have:=y1d ha.1 hb.1
  rw [H1t ha.1 hb.1] at this;exact this
 obtain⟨q1,q2,q3⟩:=q2c a.lo b.lo
 obtain⟨g1,g2,g3⟩:=q2q a.hi b.hi
 refine⟨⟨hr,?_,?_⟩,⟨q2,g2⟩,⟨q3,g3⟩⟩
 · rcases q1 with q1 | q1
   · show luQ L U (qN (Z0r a.lo b.lo));rw [q1];exact ha.2.1
   · show luQ L U (qN (Z0r a.lo b.lo));rw [q1];exact hb.2.1
 · rcases g1 with g1 | g1
   · show luQ L U (qN (Z0q a.hi b.hi));rw [g1];exact ha.2.2
   · show luQ L U (qN (Z0q a.hi b.hi));rw [g1];exact hb.2.2
theorem w2t {e:Int} {a b:Ivl} (ha:ampI e a) (hb:ampI e b):ampI e ⟨Z0r a.lo b.lo,Z0q a.hi b.hi⟩:=by
 obtain⟨q1,q2,q3⟩:=q2c a.lo b.lo
 obtain⟨g1,g2,g3⟩:=q2q a.hi b.hi
 refine⟨?_,?_⟩
 · rcases q1 with q1 | q1
   · show magQ e (qN (Z0r a.lo b.lo));rw [q1];exact ha.1
   · show magQ e (qN (Z0r a.lo b.lo));rw [q1];exact hb.1
 · rcases g1 with g1 | g1
   · show magQ e (qN (Z0q a.hi b.hi));rw [g1];exact ha.2
   · show magQ e (qN (Z0q a.hi b.hi));rw [g1];exact hb.2
def x0k :Nm:=⟨false, -60,[1]⟩
theorem y1g :qN x0k=p2 (-60):=by rw [V2k];rfl
theorem V1e :Q0j x0k=true:=by decide
theorem x1x :0<qN x0k:=by rw [y1g];exact K1o _
theorem w2x :luI 60 0 ⟨default,x0k⟩:=⟨Y1r V1e x1x,by show luQ 60 0 (qN default);rw [K1d];exact z0h _ _,by show luQ 60 0 (qN x0k);rw [y1g];exact⟨1,V2k _,by decide⟩⟩
theorem q2o :ampI (-60) ⟨default,x0k⟩:=⟨by show magQ _ (qN default);rw [K1d];exact K1v _,by show magQ _ (qN x0k);rw [y1g];have:=K1o (-60);exact⟨by grind,Rat.le_refl⟩⟩
theorem x1s {n:Nat} {f:List (List Mn)} {x a:List Ivl} {p:Int} {L U:Nat} {e:Int} (hf:okFieldT n 3 3 f) (hn1:1≤n) (hn4:n≤4) (hx:x.length=n) (hxl: ∀j,j<n→luI 6 9 (x.getD j default)) (ha:a.length=n) (hal: ∀j,j<n→luI L U (a.getD j default)) (hL:6≤L) (hU:9≤U)
 (hp:Z0b p=true) (hbd:400+8*L+8*U≤4096) (he:0≤e) (he2:14+e*3≤52) (ham: ∀j,j<n→ampI e (a.getD j default)):
 NextOK f x a x0k p∧ ∀j,j<n→luI (72+L*8) (50+U*8) ((U0m f x a x0k p).1.getD j default)∧ampI (-8) (opI 2 ⟨default,x0k⟩ (J0c (f.getD j []) a p (f.getD j []).length).1 p).1:=by
 have hfl:=hf.1
 obtain⟨r1,r2,r3⟩:=G1x (L:=L) (U:=U) hf.ok (by omega) ha hn1 hn4 (fun j hj=>hal j (by omega)) hp (by omega)
 have ht: ∀j,j<n→_:=fun j hj=>w1p w2x (r3 j hj).2.2 hp (by omega)
 have hs: ∀j,j<n→_:=fun j hj=>Z2u (k:=0) (by omega) ((hxl j hj).mono (L':=60+(12+L*8)) (U':=0+(26+3+U*8+2*3)+1) (by omega) (by omega)) (ht j hj).2 hp (by omega)
 have hrx:rightB x=true:=V0k (fun j hj=>(hxl j (by omega)).1) (by omega) (by omega)
 have hra:rightB a=true:=V0k (fun j hj=>(hal j (by omega)).1) (by omega) (by omega)
 have N:NextOK f x a x0k p:=v2s (hf.ok.right hn1 hn4) hrx hra (by omega) (by omega) V1e x1x hp r1 (fun j hj=>(ht j (by omega)).1) (fun j hj=>(hs j (by omega)).1)
 refine⟨N,fun j hj=> ?_⟩
 have A:=N.at (j:=j) (by omega)
 refine⟨by rw [A.val];exact(hs j hj).2.mono (by omega) (by omega),?_⟩
 have m:=K2z he hf ha hj ham (r3 j hj).2.1
 exact(Z2s (ht j hj).1 q2o m).up (by omega)
theorem G4k {n:Nat} {f:List (List Mn)} {x:List Ivl} {p:Int} (hf:okFieldT n 3 3 f) (hn1:1≤n) (hn4:n≤4) (hx:x.length=n) (hxl: ∀j,j<n→luI 6 9 (x.getD j default)) (hw: ∀j,j<n→qN (x.getD j default).lo+p2 (-6)≤qN (x.getD j default).hi) (hp:Z0b p=true):
 (boxP f x x0k p).2=true:=by
 have pp:=K0i hp
 obtain⟨N0,H0⟩:=x1s (e:=9) hf hn1 hn4 hx hxl hx hxl (by omega) (by omega) hp (by omega) (by omega) (by omega) (fun j hj=>w1x (hxl j hj))
 have hfl:=hf.1
 have hb0l:(U0m f x x x0k p).1.length=n:=by rw [N0.len,hfl]
 have b0m: ∀j,j<n→ampI 10 ((U0m f x x x0k p).1.getD j default):=fun j hj=>by
  have A:=N0.at (j:=j) (by omega)
  rw [A.val]
  exact Z2t (e:=9) A.s0 (w1x (hxl j hj)) ((H0 j hj).2.up (by omega))
 obtain⟨u1,u2,u3⟩:=q2n N0.rx N0.rightB (by omega)
 have b0lu: ∀j,j<n→luI 120 122 ((U0m f x x x0k p).1.getD j default):=fun j hj=>(H0 j hj).1
 have hB:=N0.rightB
 generalize hb0:(U0m f x x x0k p).1=b0 at*
 have hd: ∀j,j<n→luI 120 122 ((v0b x b0).1.getD j default)∧subI (x.getD j default) ((v0b x b0).1.getD j default)∧ampI 10 ((v0b x b0).1.getD j default):=fun j hj=>by
  rw [u3 j (by omega)]
  obtain⟨h1,h2,_⟩:=W3k ((hxl j hj).mono (L':=120) (U':=122) (by omega) (by omega)) (b0lu j hj)
  exact⟨h1,h2,w2t ((w1x (hxl j hj)).up (by omega)) (b0m j hj)⟩
 have rd:rightB (v0b x b0).1=true:=V0k (fun j hj=>(hd j (by omega)).1.1) (by omega) (by omega)
 have hbl: ∀j,j<n→_:=fun j hj=>Q3q (p:=p) (hd j hj).1 hp (by omega)
 have w0:(v0n (v0b x b0).1 p).2=0:=x2k ⟨rd,hp⟩ fun j hj=>(hbl j (by omega)).1
 obtain⟨_,v1,v2,v3⟩:=x2j w0
 have hwid:Y1k x b0 p=v0n (v0b x b0).1 p:=by unfold Y1k;rw [if_pos u1]
 generalize hd0:(v0b x b0).1=d at*
 have ha1: ∀j,j<n→(v0n d p).1.getD j default=(H0w (d.getD j default) p).1:=fun j hj=>v3 j (by omega)
 have a1l:(v0n d p).1.length=n:=by omega
 have a1lu: ∀j,j<n→luI 122 126 ((v0n d p).1.getD j default):=fun j hj=>by rw [ha1 j hj];exact(hbl j hj).2
 have a1m: ∀j,j<n→ampI 11 ((v0n d p).1.getD j default):=fun j hj=>by rw [ha1 j hj];exact x2i (hbl j hj).1 (hd j hj).2.2
 obtain⟨N1,H1⟩:=x1s (e:=11) hf hn1 hn4 hx hxl a1l a1lu (by omega) (by omega) hp (by omega) (by omega) (by omega) a1m
 have hin:inB (U0m f x (v0n d p).1 x0k p).1 (v0n d p).1=true:=by
  refine inB_sub.2 ⟨N1.rightB,N1.ra,by rw [N1.len,a1l,hfl],fun j hj=> ?_⟩
  have hj:j<n:=by rw [N1.len] at hj;omega
  have A:=N1.at (j:=j) (by omega)
  obtain⟨e1,e2⟩:=X1r A.s0
  have r:=j0n A.s0
  obtain⟨s,s1,s2,⟨v,_,v1,v2⟩,⟨u,_,u1,u2⟩,_⟩:=Z1j (hbl j hj).1
  have hm:=(H1 j hj).2
  have hsub:=(hd j hj).2.1
  have hww:=hw j hj
  have q64:p2 (-6)=p2 (-8)*4:=by
   have:=k0f (-8) 2
   rw [Z3x] at this;exact this
  rw [A.val,ha1 j hj]
  refine⟨?_,?_⟩
  · rw [v2,e1]
    refine k0r pp ?_
    rw [v1,loV0,V0w,Z0w,Z0w]
    have:=hm.1.1
    have:=hsub.1
    have:=hsub.2
    grind
  · rw [u2,e2]
    refine k0c pp ?_
    rw [u1,hiV0,V0w,Z0w,Z0w]
    have:=hm.2.2
    have:=hsub.1
    have:=hsub.2
    grind
 unfold boxP
 rw [J1m,if_pos (nextP_iff.2 N0),hb0,hwid,if_pos w0,J1m,if_pos (nextP_iff.2 N1)]
 simp only [Bool.false_eq_true,if_false,if_true,List.nil_append,List.cons_append]
 rw [x2h,if_pos hin]
end Go.Pv
end
