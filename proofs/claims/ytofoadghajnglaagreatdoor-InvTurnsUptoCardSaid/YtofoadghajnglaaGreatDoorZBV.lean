/- Parts of the walk: M59, M52, M53, M54, M65, M66. -/
import Derived.Test.YtofoadghajnglaaGreatDoorZAR
import Derived.Test.YtofoadghajnglaaGreatDoorZBE
import Derived.Test.YtofoadghajnglaaGreatDoorZK
import Derived.Test.YtofoadghajnglaaGreatDoorZBR
import Derived.Test.YtofoadghajnglaaGreatDoorZBN
set_option linter.unusedVariables false
set_option linter.unusedSimpArgs false
section
/-Numbers by powers of two;times. No program in it. -/
namespace Go.Pv
theorem V1n {x:Nm} {k:Nat} (h:(J0q x (-(k:Int))).2=0):Q0h x=true∧qN (J0q x (-(k:Int))).1*p2 k=qN x:=by
 unfold J0q at h⊢
 split at h
 · rename_i hr
   rw [if_pos hr]
   refine⟨hr,?_⟩
   split at h
   · rename_i hw
     rw [if_pos hw]
     have h0:qN x=0:=H3l (by rw [hw];rfl)
     show qN x*p2 k=qN x
     rw [h0,Rat.zero_mul]
   · rename_i hw
     rw [if_neg hw]
     split at h
     · exact absurd h (by decide)
     · rename_i hk
       rw [if_neg hk]
       have hc:canV (⟨x.neg,valW x.w,x.exp+ -(k:Int)⟩:Vl):=by
        rcases X0g hr with h1 | h1
        · exact .inl h1
        · exact absurd ((X0b hr).1 (show valW x.w=0 from congrArg Vl.m h1)) hw
       rw [(J0u hc h).2]
       unfold qV qN qM
       show((X0i ⟨x.neg,valW x.w,x.exp+ -(k:Int)⟩:Int):Rat)*p2 (x.exp+ -(k:Int))*p2 k=((mant x:Int):Rat)*p2 x.exp
       rw [Rat.mul_assoc,←y0y]
       congr 2
       omega
 · exact absurd h (by decide)
theorem V2i {x:Nm} {L U k:Nat} (hx:Q0h x=true) (h:luQ L U (qN x)) (hk:k≤1000) (hb:L+U+k+1≤4096):(J0q x (-(k:Int))).2=0∧luQ (L+k) U (qN (J0q x (-(k:Int))).1):=by
 have key: ∀y:Rat,y*p2 k=qN x→luQ (L+k) U y:=fun y hy=>by
  obtain⟨z,h1,h2⟩:=h
  refine⟨z,?_,Nat.le_trans h2 (Nat.pow_le_pow_right (by decide) (by omega))⟩
  have hne:=X4u k
  have e:qM z (-((L+k:Nat):Int))*p2 k=qM z (-(L:Int)):=by
   unfold qM
   rw [Rat.mul_assoc,←y0y]
   congr 2
   omega
  rw [h1,←e] at hy
  have:=congrArg (fun t=>t*(p2 k)⁻¹) hy
  simp only [Rat.mul_assoc,Rat.mul_inv_cancel _ hne,Rat.mul_one] at this
  exact this
 have h0:(J0q x (-(k:Int))).2=0:=by
  unfold J0q
  rw [if_pos hx]
  split
  · rfl
  · rename_i hw
    rw [if_neg (by omega)]
    have hc:canV (⟨x.neg,valW x.w,x.exp+ -(k:Int)⟩:Vl):=by
     rcases X0g hx with h1 | h1
     · exact .inl h1
     · exact absurd ((X0b hx).1 (show valW x.w=0 from congrArg Vl.m h1)) hw
    refine k0w hc (key _ ?_) (by omega)
    unfold qV qN qM
    show((X0i ⟨x.neg,valW x.w,x.exp+ -(k:Int)⟩:Int):Rat)*p2 (x.exp+ -(k:Int))*p2 k=((mant x:Int):Rat)*p2 x.exp
    rw [Rat.mul_assoc,←y0y]
    congr 2
    omega
 exact⟨h0,key _ (V1n h0).2⟩
theorem X4k {q:Nat} (h0:0<q) (h:q≤64):luQ 3 6 (qN (tq q))∧0<qN (tq q):=by
 have e:qN (tq q)=qM (q:Int) (-3):=by rw [←Z0g,(J3k q (by omega)).2,x2j]
 refine⟨⟨(q:Int),e,?_⟩,?_⟩
 · simp only [Int.natAbs_natCast];omega
 · rw [e,←J0b (-3)];exact qM_lt.2 (by omega)
end Go.Pv
end
section
/-Boxes taken apart and put together;where solutions go. No program in it. -/
namespace Go.Pv
theorem j1y {k:Nat} {a b:List Ivl} {p:Int} (h:(opB k a b p).2=0):(rightB a=true∧rightB b=true∧a.length=b.length∧Z0a p=true)∧(opB k a b p).1.length=a.length∧
 (∀j,j<a.length→(opI k (a.getD j default) (b.getD j default) p).2=0)∧ ∀j,j<a.length→(opB k a b p).1.getD j default=(opI k (a.getD j default) (b.getD j default) p).1:=by
 unfold opB at h⊢
 by_cases c:rightB a=true∧rightB b=true∧a.length=b.length∧Z0a p=true
 · rw [if_pos c,K0j] at h
   rw [if_pos c,K0j]
   exact⟨c,U0n h⟩
 · rw [if_neg c] at h;exact absurd h (by decide)
theorem J3e {k:Nat} {a b:List Ivl} {p:Int} (c:rightB a=true∧rightB b=true∧a.length=b.length∧Z0a p=true) (h: ∀j,j<a.length→(opI k (a.getD j default) (b.getD j default) p).2=0):(opB k a b p).2=0:=by
 unfold opB
 rw [if_pos c,K0j]
 exact U0o _ _ _ fun j _ hj=>h j (by omega)
theorem V1i {x:Ivl} {b:List Ivl} {p:Int} (h:(U0m x b p).2=0):(rightB b=true∧Q0m x=true∧Z0a p=true)∧(U0m x b p).1.length=b.length∧
 (∀j,j<b.length→(opI 2 x (b.getD j default) p).2=0)∧ ∀j,j<b.length→(U0m x b p).1.getD j default=(opI 2 x (b.getD j default) p).1:=by
 unfold U0m at h⊢
 by_cases c:rightB b=true∧Q0m x=true∧Z0a p=true
 · rw [if_pos c,K0j] at h
   rw [if_pos c,K0j]
   exact⟨c,U0n h⟩
 · rw [if_neg c] at h;exact absurd h (by decide)
theorem Z2s {x:Ivl} {b:List Ivl} {p:Int} (c:rightB b=true∧Q0m x=true∧Z0a p=true) (h: ∀j,j<b.length→(opI 2 x (b.getD j default) p).2=0):(U0m x b p).2=0:=by
 unfold U0m
 rw [if_pos c,K0j]
 exact U0o _ _ _ fun j _ hj=>h j (by omega)
theorem H2o {b:List Ivl} {p:Int} (h:(j0n b p).2=0):(rightB b=true∧Z0a p=true)∧(j0n b p).1.length=b.length∧
 (∀j,j<b.length→(G0f (b.getD j default) p).2=0)∧ ∀j,j<b.length→(j0n b p).1.getD j default=(G0f (b.getD j default) p).1:=by
 unfold j0n at h⊢
 by_cases c:rightB b=true∧Z0a p=true
 · rw [if_pos c,K0j] at h
   rw [if_pos c,K0j]
   exact⟨c,U0n h⟩
 · rw [if_neg c] at h;exact absurd h (by decide)
theorem H2p {b:List Ivl} {p:Int} (c:rightB b=true∧Z0a p=true) (h: ∀j,j<b.length→(G0f (b.getD j default) p).2=0):(j0n b p).2=0:=by
 unfold j0n
 rw [if_pos c,K0j]
 exact U0o _ _ _ fun j _ hj=>h j (by omega)
theorem U2m {a b:List Ivl} (ha:rightB a=true) (hb:rightB b=true) (hl:a.length=b.length):(v0g a b).2=0∧(v0g a b).1.length=a.length∧
 ∀j,j<a.length→(v0g a b).1.getD j default=⟨Z0t (a.getD j default).lo (b.getD j default).lo,Z0r (a.getD j default).hi (b.getD j default).hi⟩:=by
 have hI: ∀j,j<a.length→k1s (a.getD j default) (b.getD j default)=(⟨Z0t (a.getD j default).lo (b.getD j default).lo,Z0r (a.getD j default).hi (b.getD j default).hi⟩,0):=fun j hj=>U1l (Y0q ha hj) (Y0q hb (by omega))
 unfold v0g
 rw [if_pos ⟨ha,hb,hl⟩,K0j]
 have h0:(tabF (fun j=>k1s (a.getD j default) (b.getD j default)) 0 a.length []).2=0:=U0o _ _ _ fun j _ hj=>by show(k1s (a.getD j default) (b.getD j default)).2=0;rw [hI j (by omega)]
 obtain⟨g1,g2,g3⟩:=U0n h0
 refine⟨h0,g1,fun j hj=> ?_⟩
 rw [g3 j hj]
 show(k1s (a.getD j default) (b.getD j default)).1=_
 rw [hI j hj]
theorem U2c (a b:Nm):(qN (Z0t a b)=qN a∨qN (Z0t a b)=qN b)∧qN (Z0t a b)≤qN a∧qN (Z0t a b)≤qN b:=by
 unfold Z0t
 split
 · rename_i h
   have:=cmpN_lt.1 h
   exact⟨.inr rfl,by grind,Rat.le_refl⟩
 · rename_i h
   have h2: ¬qN b<qN a:=fun e=>h (cmpN_lt.2 e)
   exact⟨.inl rfl,Rat.le_refl,by grind⟩
theorem U2o (a b:Nm):(qN (Z0r a b)=qN a∨qN (Z0r a b)=qN b)∧qN a≤qN (Z0r a b)∧qN b≤qN (Z0r a b):=by
 unfold Z0r
 split
 · rename_i h
   have:=cmpN_gt.1 h
   exact⟨.inr rfl,by grind,Rat.le_refl⟩
 · rename_i h
   have h2: ¬qN a<qN b:=fun e=>h (cmpN_gt.2 e)
   exact⟨.inl rfl,Rat.le_refl,by grind⟩
theorem inB_sub {a b:List Ivl} :inB a b=true↔rightB a=true∧rightB b=true∧a.length=b.length∧ ∀j,j<a.length→subI (a.getD j default) (b.getD j default):=by
 unfold inB allF
 simp only [Bool.and_eq_true,decide_eq_true_eq,List.all_eq_true,List.mem_range]
 constructor
 · rintro⟨⟨ha,hb⟩,hl,hj⟩
   exact⟨ha,hb,hl,fun j h=>(U2l (Y0q ha h) (Y0q hb (by omega))).1 (hj j h)⟩
 · rintro⟨ha,hb,hl,hj⟩
   exact⟨⟨ha,hb⟩,hl,fun j h=>(U2l (Y0q ha h) (Y0q hb (by omega))).2 (hj j h)⟩
theorem Y1n {h:Nm} (hr:Q0h h=true):(¬sgnN (ownN h)≤0)↔0<qN h:=by
 unfold ownN
 rw [if_pos hr,←X3j];omega
theorem V1j {h:Nm} (hr:Q0h h=true) (h0:0<qN h):Q0m ⟨default,h⟩=true:=G0m K0a hr (cmpN_le.2 (by rw [W0y];grind))
structure NextOK (f:List (List Mn)) (x a:List Ivl) (h:Nm) (p:Int):Prop where
 rf:x0r f=true
 rx:rightB x=true
 ra:rightB a=true
 lx:x.length=f.length
 la:a.length=f.length
 rh:Q0h h=true
 ph:0<qN h
 pp:Z0a p=true
 e1:(J0n f a p).2=0
 e2:(U0m ⟨default,h⟩ (J0n f a p).1 p).2=0
 e3:(opB 0 x (U0m ⟨default,h⟩ (J0n f a p).1 p).1 p).2=0
theorem nextP_iff {f:List (List Mn)} {x a:List Ivl} {h:Nm} {p:Int} :(Y0h f x a h p).2=0↔NextOK f x a h p:=by
 constructor
 · intro e
   unfold Y0h at e
   split at e
   · rename_i c
     obtain⟨c1,c2,c3,c4,c5,c6,c7,c8⟩:=c
     split at e
     · rename_i d1
       split at e
       · rename_i d2
         exact⟨c1,c2,c3,c4,c5,c6,(Y1n c6).1 c7,c8,d1,d2,e⟩
       · rename_i d2;exact absurd e d2
     · rename_i d1;exact absurd e d1
   · exact absurd e (by decide)
 · rintro⟨c1,c2,c3,c4,c5,c6,c7,c8,d1,d2,e⟩
   unfold Y0h
   rw [if_pos ⟨c1,c2,c3,c4,c5,c6,(Y1n c6).2 c7,c8⟩,if_pos d1,if_pos d2]
   exact e
theorem NextOK.val {f:List (List Mn)} {x a:List Ivl} {h:Nm} {p:Int} (n:NextOK f x a h p):(Y0h f x a h p).1=(opB 0 x (U0m ⟨default,h⟩ (J0n f a p).1 p).1 p).1:=by
 unfold Y0h
 rw [if_pos ⟨n.rf,n.rx,n.ra,n.lx,n.la,n.rh,(Y1n n.rh).2 n.ph,n.pp⟩,if_pos n.e1,if_pos n.e2]
theorem X1j {f:List (List Mn)} {a:List Ivl} {p:Int} (h:(J0n f a p).2=0):(x0r f=true∧a.length=f.length)∧(J0n f a p).1.length=f.length∧ ∀j,j<f.length→(J0n f a p).1.getD j default=(J0a (f.getD j []) a p (f.getD j []).length).1∧(J0a (f.getD j []) a p (f.getD j []).length).2=0:=by
 unfold J0n at h⊢
 by_cases c:x0r f=true∧a.length=f.length
 · rw [if_pos c] at h⊢
   obtain⟨g1,g2,g3⟩:=U0n h
   refine⟨c,g1,fun j hj=> ?_⟩
   have e:=g2 j hj
   rw [g3 j hj]
   show(k0k (f.getD j []) a p).1=_∧_
   replace e:(k0k (f.getD j []) a p).2=0:=e
   unfold k0k at e⊢
   split at e
   · rename_i d;rw [if_pos d];exact⟨rfl,e⟩
   · exact absurd e (by decide)
 · rw [if_neg c] at h;exact absurd h (by decide)
structure NextAt (f:List (List Mn)) (x a:List Ivl) (h:Nm) (p:Int) (j:Nat):Prop where
 r0:(J0a (f.getD j []) a p (f.getD j []).length).2=0
 t0:(opI 2 ⟨default,h⟩ (J0a (f.getD j []) a p (f.getD j []).length).1 p).2=0
 s0:(opI 0 (x.getD j default) (opI 2 ⟨default,h⟩ (J0a (f.getD j []) a p (f.getD j []).length).1 p).1 p).2=0
 val:(Y0h f x a h p).1.getD j default=(opI 0 (x.getD j default) (opI 2 ⟨default,h⟩ (J0a (f.getD j []) a p (f.getD j []).length).1 p).1 p).1
theorem NextOK.len {f:List (List Mn)} {x a:List Ivl} {h:Nm} {p:Int} (n:NextOK f x a h p):(Y0h f x a h p).1.length=f.length:=by
 rw [n.val,(j1y n.e3).2.1,n.lx]
theorem NextOK.at {f:List (List Mn)} {x a:List Ivl} {h:Nm} {p:Int} (n:NextOK f x a h p) {j:Nat} (hj:j<f.length):NextAt f x a h p j:=by
 obtain⟨_,r1,r2⟩:=X1j n.e1
 obtain⟨r3,r4⟩:=r2 j hj
 obtain⟨_,t1,t2,t3⟩:=V1i n.e2
 obtain⟨_,s1,s2,s3⟩:=j1y n.e3
 have t2:=t2 j (by omega)
 have t3:=t3 j (by omega)
 have s2:=s2 j (by rw [n.lx];exact hj)
 have s3:=s3 j (by rw [n.lx];exact hj)
 rw [r3] at t2 t3
 rw [t3] at s2 s3
 exact⟨r4,t2,s2,by rw [n.val];exact s3⟩
theorem X2y {k:Nat} {a b:List Ivl} {p:Int} (h:(opB k a b p).2=0):rightB (opB k a b p).1=true:=by
 obtain⟨c,l,_,v⟩:=j1y h
 have:=x0b c.1
 exact X0z (fun j hj=>by rw [v j (by omega)];exact W0t _ _ _ _) (by omega) (by omega)
theorem NextOK.rightB {f:List (List Mn)} {x a:List Ivl} {h:Nm} {p:Int} (n:NextOK f x a h p):Go.Pv.rightB (Y0h f x a h p).1=true:=by
 rw [n.val];exact X2y n.e3
theorem j2m {f:List (List Mn)} {x a:List Ivl} {h:Nm} {p:Int} (rf:x0r f=true) (rx:rightB x=true) (ra:rightB a=true) (lx:x.length=f.length) (la:a.length=f.length) (rh:Q0h h=true) (ph:0<qN h) (pp:Z0a p=true) (e1:(J0n f a p).2=0)
 (h2: ∀j,j<f.length→(opI 2 ⟨default,h⟩ (J0a (f.getD j []) a p (f.getD j []).length).1 p).2=0)
 (h3: ∀j,j<f.length→(opI 0 (x.getD j default) (opI 2 ⟨default,h⟩ (J0a (f.getD j []) a p (f.getD j []).length).1 p).1 p).2=0):NextOK f x a h p:=by
 obtain⟨_,r1,r2⟩:=X1j e1
 have hx:=x0b rx
 have rr:rightB (J0n f a p).1=true:=X0z (fun j hj=>by
  obtain⟨q1,q2⟩:=r2 j (by omega)
  have:=h2 j (by omega)
  rw [q1];exact(Q1w this).2.1) (by omega) (by omega)
 have e2:(U0m ⟨default,h⟩ (J0n f a p).1 p).2=0:=Z2s ⟨rr,V1j rh ph,pp⟩ fun j hj=>by
  rw [(r2 j (by omega)).1];exact h2 j (by omega)
 obtain⟨_,t1,t2,t3⟩:=V1i e2
 have rt:rightB (U0m ⟨default,h⟩ (J0n f a p).1 p).1=true:=X0z (fun j hj=>by
  rw [t3 j (by omega)];exact W0t _ _ _ _) (by omega) (by omega)
 refine⟨rf,rx,ra,lx,la,rh,ph,pp,e1,e2,J3e ⟨rx,rt,by omega,pp⟩ fun j hj=> ?_⟩
 rw [t3 j (by omega),(r2 j (by omega)).1]
 exact h3 j (by omega)
theorem z0m {a:Ivl} {p:Int} (h:(G0f a p).2=0):(K0v a p).2=0∧(J0q (K0v a p).1 (-2)).2=0∧(Q0s 1 a.lo (J0q (K0v a p).1 (-2)).1 p false).2=0∧(Q0s 0 a.hi (J0q (K0v a p).1 (-2)).1 p true).2=0∧
 (G0f a p).1=⟨(Q0s 1 a.lo (J0q (K0v a p).1 (-2)).1 p false).1,(Q0s 0 a.hi (J0q (K0v a p).1 (-2)).1 p true).1⟩:=by
 unfold G0f at h⊢
 split at h
 · rename_i c;exact absurd h c
 · rename_i c
   split at h
   · rename_i d;exact absurd h d
   · rename_i d
     split at h
     · exact absurd h (by decide)
     · rename_i e
       rw [if_neg c,if_neg d,if_neg e]
       have e1: ¬(Q0s 1 a.lo (J0q (K0v a p).1 (-2)).1 p false).2≠0:=fun q=>e (.inl q)
       have e2: ¬(Q0s 0 a.hi (J0q (K0v a p).1 (-2)).1 p true).2≠0:=fun q=>e (.inr q)
       exact⟨Classical.not_not.1 c,Classical.not_not.1 d,Classical.not_not.1 e1,Classical.not_not.1 e2,rfl⟩
theorem w2h {a:Ivl} {p:Int} (h1:(K0v a p).2=0) (h2:(J0q (K0v a p).1 (-2)).2=0) (h3:(Q0s 1 a.lo (J0q (K0v a p).1 (-2)).1 p false).2=0) (h4:(Q0s 0 a.hi (J0q (K0v a p).1 (-2)).1 p true).2=0):(G0f a p).2=0:=by
 unfold G0f
 rw [if_neg (by rw [h1];decide),if_neg (by rw [h2];decide),if_neg (by rw [h3,h4];decide)]
theorem x0d {k:Nat} {a b:Nm} {p:Int} {up:Bool} (h:(Q0s k a b p up).2=0):Q0h a=true∧Q0h b=true∧Z0a p=true:=by
 unfold Q0s at h
 split at h
 · assumption
 · exact absurd h (by decide)
theorem K0p {k:Nat} {a b:Nm} {p:Int} {up:Bool} (h:(Q0s k a b p up).2=0):qN (Q0s k a b p up).1=qV (Z0b (exV k (ofN a) (ofN b)) p.toNat up):=by
 have c:=x0d h
 unfold Q0s at h⊢
 rw [if_pos c] at h⊢
 exact(J0u (Q0x (j0l k (X0g c.1) (X0g c.2.1)) _ _) h).2
theorem z0o {a:Ivl} {p:Int} (h:(K0v a p).2=0):Q0m a=true∧Z0a p=true:=by
 unfold K0v at h
 split at h
 · assumption
 · exact absurd h (by decide)
theorem G1j {a:Ivl} {p:Int} (h:(K0v a p).2=0):qN (K0v a p).1=qV (Z0b (U0h (ofN a.hi) (ofN a.lo)) p.toNat true):=by
 have c:=z0o h
 have hc:=canI c.1
 unfold K0v at h⊢
 rw [if_pos c] at h⊢
 exact(J0u (Q0x (U0c hc.2 hc.1) _ _) h).2
end Go.Pv
end
section
/-How great what is reckoned gets:at most a power of two,which rounding does not pass. No program in it. -/
namespace Go.Pv
theorem X2v (e:Int):p2 e=qM 1 e:=by simp [qM]
theorem J3b {a b:Int} (h:a≤b):p2 a≤p2 b:=by
 rw [X2v,X2v,show b=a+((b-a).toNat:Int) from by omega,←V0q,qM_le]
 have:0<(2:Int)^(b-a).toNat:=Int.pow_pos (by decide)
 omega
theorem j1u (a:Int):p2 (a+1)=p2 a*2:=by
 rw [y0y];congr 1
def magQ (e:Int) (x:Rat):Prop:= -(p2 e)≤x∧x≤p2 e
theorem J1c (e:Int):magQ e 0:=by
 have:=X1q e
 exact⟨by grind,by grind⟩
theorem magQ.up {e g:Int} {x:Rat} (h:magQ e x) (he:e≤g):magQ g x:=by
 have:=J3b he
 exact⟨by have:=h.1;grind,by have:=h.2;grind⟩
theorem Q1y {e:Int} {x:Rat} (h:magQ e x):magQ e (-x):=⟨by have:=h.2;grind,by have:=h.1;grind⟩
theorem Q1z {e:Int} {x y:Rat} (h:magQ e x) (g:magQ e y):magQ (e+1) (x+y):=by
 obtain⟨a,b⟩:=h
 obtain⟨c,d⟩:=g
 refine⟨?_,?_⟩
 · rw [j1u];grind
 · rw [j1u];grind
theorem Q2a {e g:Int} {x y:Rat} (h:magQ e x) (k:magQ g y):magQ (e+g) (x*y):=by
 obtain⟨a,b⟩:=h
 obtain⟨c,d⟩:=k
 have q1:=X0r (a:=p2 e-x) (b:=p2 g+y) (by grind) (by grind)
 have q2:=X0r (a:=p2 e+x) (b:=p2 g-y) (by grind) (by grind)
 have q3:=X0r (a:=p2 e-x) (b:=p2 g-y) (by grind) (by grind)
 have q4:=X0r (a:=p2 e+x) (b:=p2 g+y) (by grind) (by grind)
 unfold magQ
 rw [y0y]
 exact⟨by grind,by grind⟩
theorem U1b {e:Int} {x:Rat} (h:magQ e x): ∀k:Nat,magQ (e*k) (powQ x k)
 | 0=>by
  show magQ (e*((0:Nat):Int)) 1
  rw [Int.natCast_zero,Int.mul_zero]
  unfold magQ
  rw [w0p]
  exact⟨by decide,Rat.le_refl⟩
 | k+1=>by
  show magQ _ (powQ x k*x)
  rw [show e*((k+1:Nat):Int)=e*k+e from by rw [Int.natCast_add,Int.mul_add];omega]
  exact Q2a (U1b h k) h
theorem Y2t {L U:Nat} {x:Rat} (h:luQ L U x):magQ U x:=by
 obtain⟨z,rfl,hz⟩:=h
 have e:p2 (U:Int)=qM (2^(L+U)) (-(L:Int)):=by
  rw [X2v,show(U:Int)= -(L:Int)+((L+U:Nat):Int) from by omega,←V0q,Int.one_mul]
 have hz2:(z.natAbs:Int)≤2^(L+U):=by
  have:((2^(L+U):Nat):Int)=2^(L+U):=by simp
  rw [←this];exact_mod_cast hz
 unfold magQ
 rw [e,←q0h,qM_le,qM_le]
 omega
theorem k2y (p:Nat) (e:Int):y0e p (-(p2 e)):=⟨-1,e,by rw [X2v,q0h],Nat.one_le_two_pow⟩
theorem Y0w {e:Int} {v:Vl} {p:Nat} (hp:1≤p) (h:magQ e (qV v)) (up:Bool):magQ e (qV (Z0b v p up)):=by
 have dn: ∀w:Vl,magQ e (qV w)→magQ e (qV (Z0b w p false)):=fun w hw=>⟨w0k hp (k2y p e) hw.1,Rat.le_trans (V0w w p) hw.2⟩
 cases up with
 | false=>exact dn v h
 | true=>
  rw [z0x]
  refine Q1y (dn _ ?_)
  rw [V0x];exact Q1y h
def ampI (e:Int) (a:Ivl):Prop:=magQ e (qN a.lo)∧magQ e (qN a.hi)
theorem ampI.up {e g:Int} {a:Ivl} (h:ampI e a) (he:e≤g):ampI g a:=⟨h.1.up he,h.2.up he⟩
theorem x0m {e:Int} {a:Ivl} (h:ampI e a) {X:Rat} (hX:memI X a):magQ e X:=⟨Rat.le_trans h.1.1 hX.1,Rat.le_trans hX.2 h.2.2⟩
theorem k1m {L U:Nat} {a:Ivl} (h:luI L U a):ampI U a:=⟨Y2t h.2.1,Y2t h.2.2⟩
theorem W2l {k:Nat} {a b:Ivl} {p:Int} {g:Int} (h:(opI k a b p).2=0) (hx: ∀X U,memI X a→memI U b→magQ g (exQ k X U)):ampI g (opI k a b p).1:=by
 have r:=Q1w h
 obtain⟨e1,e2⟩:=y1m h
 have pp:=X0u r.2.2
 obtain⟨X,U,x1,x2,x3⟩:=J4f k r.1 r.2.1
 obtain⟨Y,V,y1,y2,y3⟩:=J4r k r.1 r.2.1
 refine⟨?_,?_⟩
 · rw [e1];exact Y0w pp (by rw [x3];exact hx X U x1 x2) _
 · rw [e2];exact Y0w pp (by rw [y3];exact hx Y V y1 y2) _
theorem y1j {a b:Ivl} {p:Int} {e g:Int} (h:(opI 2 a b p).2=0) (ha:ampI e a) (hb:ampI g b):ampI (e+g) (opI 2 a b p).1:=
 W2l h fun X U hX hU=>by rw [exQ2];exact Q2a (x0m ha hX) (x0m hb hU)
theorem y1k {a b:Ivl} {p:Int} {e:Int} (h:(opI 0 a b p).2=0) (ha:ampI e a) (hb:ampI e b):ampI (e+1) (opI 0 a b p).1:=
 W2l h fun X U hX hU=>by rw [exQ0];exact Q1z (x0m ha hX) (x0m hb hU)
theorem x2u {a:Ivl} {k p:Int} {e:Int} (h:(powI a k p).2=0) (ha:ampI e a):ampI (e*k.toNat) (powI a k p).1:=by
 have r:=H1z h
 obtain⟨e1,e2⟩:=W2g h
 have pp:=X0u r.2.2.2
 obtain⟨X,x1,x3⟩:=x2t r.1 k.toNat
 obtain⟨Y,y1,y3⟩:=x2w r.1 k.toNat
 refine⟨?_,?_⟩
 · rw [e1];exact Y0w pp (by rw [x3];exact U1b (x0m ha x1) _) _
 · rw [e2];exact Y0w pp (by rw [y3];exact U1b (x0m ha y1) _) _
theorem q1d {m:Mn} {b:List Ivl} {p:Int} {c e:Int} (hc:magQ c (qN m.c)) (hk:q0f m.ks=true): ∀i,i≤m.ks.length→(∀j,j<i→ampI e (b.getD j default))→(W0s m b p i).2=0→ampI (c+e*sumK m.ks i) (W0s m b p i).1
 | 0,_,_,_=>by
  have:sumK m.ks 0=0:=rfl
  rw [this,Int.natCast_zero,Int.mul_zero,Int.add_zero]
  exact⟨hc,hc⟩
 | i+1,hi,hb,h=>by
  have ih:=q1d (e:=e) hc hk i (by omega) (fun j hj=>hb j (by omega)) (V1s h)
  have hs:=V0p hk (i+1) hi
  have hs0:=V0p hk i (by omega)
  have hat:=H1h hk i (by omega)
  have hst:=j0v m.ks i (by omega)
  have hsum:sumK m.ks (i+1)=sumK m.ks i+(m.ks.getD i 0).toNat:=by unfold sumK;omega
  rcases X2x h with ⟨d,q⟩ | ⟨d,d2,q⟩
  · rw [q,hsum,d];exact ih
  · rw [q] at h⊢
    have:=y1j h ih (x2u d2 (hb i (by omega)))
    rw [hsum,Int.natCast_add,Int.mul_add,←Int.add_assoc]
    exact this
theorem V1q {q:List Mn} {b:List Ivl} {p:Int} {g:Int} : ∀i,(∀j,j<i→(W0s (q.getD j default) b p b.length).2=0→ampI g (W0s (q.getD j default) b p b.length).1)→(J0a q b p i).2=0→ampI (g+i) (J0a q b p i).1
 | 0,_,_=>by
  have e:qN (default:Ivl).lo=0:=J0b 0
  have e2:qN (default:Ivl).hi=0:=J0b 0
  exact⟨by show magQ _ (qN (default:Ivl).lo);rw [e];exact J1c _,by show magQ _ (qN (default:Ivl).hi);rw [e2];exact J1c _⟩
 | i+1,hj,h=>by
  obtain⟨c1,c2,e⟩:=j1h h
  have ih:=V1q i (fun j hjl=>hj j (by omega)) c1
  rw [e] at h⊢
  have:=y1k h ih ((hj i (by omega) c2).up (by omega))
  rw [show g+((i+1:Nat):Int)=g+i+1 from by omega]
  exact this
theorem y0q {a:Ivl} {p:Int} (h:(G0f a p).2=0): ∃s:Rat,qN a.hi-qN a.lo≤s*4∧0≤s∧
 (∃v:Vl,canV v∧qV v=qN a.lo-s∧qN (G0f a p).1.lo=qV (Z0b v p.toNat false))∧(∃v:Vl,canV v∧qV v=qN a.hi+s∧qN (G0f a p).1.hi=qV (Z0b v p.toNat true))∧ ∃w:Vl,canV w∧qV w=qN a.hi-qN a.lo∧s*4=qV (Z0b w p.toNat true):=by
 obtain⟨w0,s0,l0,h0,e⟩:=z0m h
 have hw:=G1j w0
 obtain⟨wn,pp⟩:=z0o w0
 have hs:=(V1n (x:=(K0v a p).1) (k:=2) s0).2
 have hr:=x0d l0
 have hr2:=x0d h0
 rw [show p2 ((2:Nat):Int)=4 from y2p] at hs
 rw [show -((2:Nat):Int)= -2 from rfl] at hs
 have hge:=K0c (U0h (ofN a.hi) (ofN a.lo)) p.toNat
 rw [←hw,K0y,Z0g,Z0g] at hge
 have hle:=G0c wn
 rw [Z0g,Z0g] at hle
 have ca:=canI wn
 refine⟨qN (J0q (K0v a p).1 (-2)).1,by rw [hs];exact hge,by grind,⟨exV 1 (ofN a.lo) (ofN (J0q (K0v a p).1 (-2)).1),j0l 1 ca.1 (X0g hr.2.1),by rw [w0n,exQ1,Z0g,Z0g],?_⟩,
  ⟨exV 0 (ofN a.hi) (ofN (J0q (K0v a p).1 (-2)).1),j0l 0 ca.2 (X0g hr.2.1),by rw [w0n,exQ0,Z0g,Z0g],?_⟩,U0h (ofN a.hi) (ofN a.lo),U0c ca.2 ca.1,by rw [K0y,Z0g,Z0g],by rw [hs,hw]⟩
 · rw [e];exact K0p l0
 · rw [e];exact K0p h0
theorem v1q {a:Ivl} {p:Int} (h:(G0f a p).2=0):Q0m (G0f a p).1=true∧subI a (G0f a p).1:=by
 obtain⟨s,h1,h2,⟨v,_,h3,h4⟩,⟨u,_,h5,h6⟩,_⟩:=y0q h
 obtain⟨w0,s0,l0,h0,e⟩:=z0m h
 have wn:=(z0o w0).1
 have q1:=V0w v p.toNat
 have q2:=K0c u p.toNat
 have hle:=G0c wn
 rw [Z0g,Z0g] at hle
 have hs:subI a (G0f a p).1:=⟨by rw [h4];grind,by rw [h6];grind⟩
 refine⟨G0m ?_ ?_ (cmpN_le.2 ?_),hs⟩
 · rw [e];exact Z0j _ _ _ _ _
 · rw [e];exact Z0j _ _ _ _ _
 · have:=hs.1
   have:=hs.2
   grind
theorem H2n {a:Ivl} {p:Int} {e:Int} (h:(G0f a p).2=0) (ha:ampI e a):ampI (e+1) (G0f a p).1:=by
 have pp:=X0u (z0o (z0m h).1).2
 obtain⟨s,h1,h2,⟨v,_,h3,h4⟩,⟨u,_,h5,h6⟩,w,_,h7,h8⟩:=y0q h
 have m1:magQ (e+1) (s*4):=by
  rw [h8]
  refine Y0w pp ?_ _
  rw [h7,Rat.sub_eq_add_neg]
  exact Q1z ha.2 (Q1y ha.1)
 have m2:magQ e s:=by
  have:=m1.2
  have:=m1.1
  have e2:=j1u e
  have:=X1q e
  exact⟨by grind,by grind⟩
 refine⟨?_,?_⟩
 · rw [h4]
   refine Y0w pp ?_ _
   rw [h3,Rat.sub_eq_add_neg];exact Q1z ha.1 (Q1y m2)
 · rw [h6]
   refine Y0w pp ?_ _
   rw [h5];exact Q1z ha.2 m2
theorem w1u {k L U:Nat} {x y:Nm} {p:Int} (hk:k<2) (hx:Q0h x=true) (hy:Q0h y=true) (h1:luQ L U (qN x)) (h2:luQ L U (qN y)) (hp:Z0a p=true) (up:Bool) (hb:L+U+3≤4096):(Q0s k x y p up).2=0∧luQ L (U+2) (qN (Q0s k x y p up).1):=by
 have hc:canV (exV k (ofN x) (ofN y)):=j0l k (X0g hx) (X0g hy)
 have hq:qV (exV k (ofN x) (ofN y))=exQ k (qN x) (qN y):=by rw [w0n];rfl
 have hl:luQ L (U+1) (qV (exV k (ofN x) (ofN y))):=by
  rw [hq]
  unfold exQ
  split
  · exact H0u h1 h2
  · rw [if_pos (by omega)];exact H0t h1 h2
 have hr:=J0c hc hl p.toNat (X0u hp) up
 have hf:(Q0s k x y p up).2=0:=by
  unfold Q0s
  rw [if_pos ⟨hx,hy,hp⟩]
  exact k0w (Q0x hc _ _) hr (by omega)
 exact⟨hf,by rw [K0p hf];exact hr⟩
theorem w2i {L U:Nat} {a:Ivl} {p:Int} (ha:luI L U a) (hp:Z0a p=true) (hb:L+U+8≤4096):(G0f a p).2=0∧luI (L+2) (U+4) (G0f a p).1:=by
 have ca:=canI ha.1
 have rr:=Q0y ha.1
 have hl:luQ L (U+1) (qV (U0h (ofN a.hi) (ofN a.lo))):=by rw [K0y,Z0g,Z0g];exact H0t ha.2.2 ha.2.1
 have cl:=U0c ca.2 ca.1
 have hr:=J0c cl hl p.toNat (X0u hp) true
 have w0:(K0v a p).2=0:=by
  unfold K0v
  rw [if_pos ⟨ha.1,hp⟩]
  exact k0w (Q0x cl _ _) hr (by omega)
 rw [←G1j w0] at hr
 obtain⟨s0,s1⟩:=V2i (k:=2) (x1p a p) hr (by omega) (by omega)
 rw [show -((2:Nat):Int)= -2 from rfl] at s0 s1
 have sr:=G1w (K0v a p).1 (-2)
 obtain⟨l0,l1⟩:=w1u (k:=1) (by omega) rr.1 sr (ha.2.1.mono (L':=L+2) (U':=U+2) (by omega) (by omega)) s1 hp false (by omega)
 obtain⟨h0,h1⟩:=w1u (k:=0) (by omega) rr.2.1 sr (ha.2.2.mono (L':=L+2) (U':=U+2) (by omega) (by omega)) s1 hp true (by omega)
 have hb0:=w2h w0 s0 l0 h0
 refine⟨hb0,(v1q hb0).1,?_,?_⟩
 · rw [(z0m hb0).2.2.2.2];exact l1
 · rw [(z0m hb0).2.2.2.2];exact h1
end Go.Pv
end
section
/-For a short time a box is found. No program in it. -/
namespace Go.Pv
def J3g (n M:Nat) (D:Int) (p:List Mn):Prop:=H1c p n=true∧p.length≤M∧ ∀m∈p,okMn n 6 (8+M) D m
def okFieldT (n M:Nat) (D:Int) (f:List (List Mn)):Prop:=f.length=n∧ ∀p∈f,J3g n M D p
theorem okFieldT.ok {n M:Nat} {D:Int} {f:List (List Mn)} (h:okFieldT n M D f):okField n M D f:=⟨h.1,fun p hp=>⟨(h.2 p hp).1,(h.2 p hp).2.1,fun m hm=>by
 obtain⟨a1,a2,a3,a4,a5,a6⟩:=(h.2 p hp).2.2 m hm
 exact⟨a1,a2,a3,a4,a5,a6.mono (by omega) (by omega)⟩⟩⟩
theorem okFieldT.at {n M:Nat} {D:Int} {f:List (List Mn)} (h:okFieldT n M D f) {i j:Nat} (hi:i<f.length) (hj:j<(f.getD i []).length):okMn n 6 (8+M) D ((f.getD i []).getD j default):=by
 have e:f.getD i []=f[i]:=by simp [List.getD_eq_getElem?_getD,hi]
 rw [e] at hj⊢
 exact z1a (h.2 _ (List.getElem_mem hi)).2.2 hj
theorem X3d {ks:List Int} {D:Int} (hr:q0f ks=true) (h:ks.sum≤D) {i:Nat} (hi:i≤ks.length):(sumK ks i:Int)≤D:=by
 have h0:=V0p hr i hi
 have h1:(ks.take i).sum≤ks.sum:=by
  have hk:=((x0a ks).1 hr).1
  have: ∀(l:List Int) (n:Nat),(∀j,j<l.length→0≤l.getD j 0)→(l.take n).sum≤l.sum:=by
   intro l
   induction l with
   | nil=>intro n _;simp
   | cons x l ih=>
    intro n hp
    have hx:0≤x:=hp 0 (by simp)
    have hp': ∀j,j<l.length→0≤l.getD j 0:=fun j hj=>by have:=hp (j+1) (by simpa using hj);simpa using this
    cases n with
    | zero=>
     have:=ih 0 hp'
     simp at this⊢;omega
    | succ n=>
     have:=ih n hp'
     simp;omega
  exact this ks i hk
 unfold sumK;omega
theorem X2o {n:Nat} {f:List (List Mn)} {a:List Ivl} {p:Int} {e:Int} (he:0≤e) (hf:okFieldT n 3 3 f) (hl:a.length=n) {i:Nat} (hi:i<n) (ha: ∀j,j<n→ampI e (a.getD j default)) (h0:(J0a (f.getD i []) a p (f.getD i []).length).2=0):
 ampI (14+e*3) (J0a (f.getD i []) a p (f.getD i []).length).1:=by
 have hfl:=hf.1
 have hlen:(f.getD i []).length≤3:=by
  have e:f.getD i []=f[i]'(by omega):=by simp [List.getD_eq_getElem?_getD,(by omega:i<f.length)]
  rw [e];exact(hf.2 _ (List.getElem_mem _)).2.1
 refine(V1q (g:=11+e*3) _ (fun j hj c=> ?_) h0).up (by omega)
 obtain⟨a1,a2,a3,a4,a5,a6⟩:=hf.at (by omega:i<f.length) hj
 have hs:=X3d a2 a3 (i:=a.length) (by omega)
 have hm:=q1d (c:=11) (e:=e) (p:=p) ((Y2t a6).up (by omega)) a2 a.length (by omega) (fun j hj=>ha j (by omega)) c
 refine hm.up ?_
 have:e*(sumK ((f.getD i []).getD j default).ks a.length:Int)≤e*3:=Int.mul_le_mul_of_nonneg_left hs he
 omega
theorem K3k {L U:Nat} {a b:Ivl} (ha:luI L U a) (hb:luI L U b):luI L U ⟨Z0t a.lo b.lo,Z0r a.hi b.hi⟩∧subI a ⟨Z0t a.lo b.lo,Z0r a.hi b.hi⟩∧subI b ⟨Z0t a.lo b.lo,Z0r a.hi b.hi⟩:=by
 have hr:Q0m (⟨Z0t a.lo b.lo,Z0r a.hi b.hi⟩:Ivl)=true:=by
  have:=k1r ha.1 hb.1
  rw [U1l ha.1 hb.1] at this;exact this
 obtain⟨q1,q2,q3⟩:=U2c a.lo b.lo
 obtain⟨g1,g2,g3⟩:=U2o a.hi b.hi
 refine⟨⟨hr,?_,?_⟩,⟨q2,g2⟩,⟨q3,g3⟩⟩
 · rcases q1 with q1 | q1
   · show luQ L U (qN (Z0t a.lo b.lo));rw [q1];exact ha.2.1
   · show luQ L U (qN (Z0t a.lo b.lo));rw [q1];exact hb.2.1
 · rcases g1 with g1 | g1
   · show luQ L U (qN (Z0r a.hi b.hi));rw [g1];exact ha.2.2
   · show luQ L U (qN (Z0r a.hi b.hi));rw [g1];exact hb.2.2
theorem k2m {e:Int} {a b:Ivl} (ha:ampI e a) (hb:ampI e b):ampI e ⟨Z0t a.lo b.lo,Z0r a.hi b.hi⟩:=by
 obtain⟨q1,q2,q3⟩:=U2c a.lo b.lo
 obtain⟨g1,g2,g3⟩:=U2o a.hi b.hi
 refine⟨?_,?_⟩
 · rcases q1 with q1 | q1
   · show magQ e (qN (Z0t a.lo b.lo));rw [q1];exact ha.1
   · show magQ e (qN (Z0t a.lo b.lo));rw [q1];exact hb.1
 · rcases g1 with g1 | g1
   · show magQ e (qN (Z0r a.hi b.hi));rw [g1];exact ha.2
   · show magQ e (qN (Z0r a.hi b.hi));rw [g1];exact hb.2
def q0x :Nm:=⟨false, -60,[1]⟩
theorem k1t :qN q0x=p2 (-60):=by rw [X2v];rfl
theorem J1n :Q0h q0x=true:=by decide
theorem q1x :0<qN q0x:=by rw [k1t];exact X1q _
theorem k2q :luI 60 0 ⟨default,q0x⟩:=⟨V1j J1n q1x,by show luQ 60 0 (qN default);rw [W0y];exact U0t _ _,by show luQ 60 0 (qN q0x);rw [k1t];exact⟨1,X2v _,by decide⟩⟩
theorem U2n :ampI (-60) ⟨default,q0x⟩:=⟨by show magQ _ (qN default);rw [W0y];exact J1c _,by show magQ _ (qN q0x);rw [k1t];have:=X1q (-60);exact⟨by grind,Rat.le_refl⟩⟩
theorem q1m {n:Nat} {f:List (List Mn)} {x a:List Ivl} {p:Int} {L U:Nat} {e:Int} (hf:okFieldT n 3 3 f) (hn1:1≤n) (hn4:n≤4) (hx:x.length=n) (hxl: ∀j,j<n→luI 6 9 (x.getD j default)) (ha:a.length=n) (hal: ∀j,j<n→luI L U (a.getD j default)) (hL:6≤L) (hU:9≤U)
 (hp:Z0a p=true) (hbd:400+8*L+8*U≤4096) (he:0≤e) (he2:14+e*3≤52) (ham: ∀j,j<n→ampI e (a.getD j default)):
 NextOK f x a q0x p∧ ∀j,j<n→luI (72+L*8) (50+U*8) ((Y0h f x a q0x p).1.getD j default)∧ampI (-8) (opI 2 ⟨default,q0x⟩ (J0a (f.getD j []) a p (f.getD j []).length).1 p).1:=by
 have hfl:=hf.1
 obtain⟨r1,r2,r3⟩:=Y1q (L:=L) (U:=U) hf.ok (by omega) ha hn1 hn4 (fun j hj=>hal j (by omega)) hp (by omega)
 have ht: ∀j,j<n→_:=fun j hj=>W2n k2q (r3 j hj).2.2 hp (by omega)
 have hs: ∀j,j<n→_:=fun j hj=>y2s (k:=0) (by omega) ((hxl j hj).mono (L':=60+(12+L*8)) (U':=0+(26+3+U*8+2*3)+1) (by omega) (by omega)) (ht j hj).2 hp (by omega)
 have hrx:rightB x=true:=X0z (fun j hj=>(hxl j (by omega)).1) (by omega) (by omega)
 have hra:rightB a=true:=X0z (fun j hj=>(hal j (by omega)).1) (by omega) (by omega)
 have N:NextOK f x a q0x p:=j2m (hf.ok.right hn1 hn4) hrx hra (by omega) (by omega) J1n q1x hp r1 (fun j hj=>(ht j (by omega)).1) (fun j hj=>(hs j (by omega)).1)
 refine⟨N,fun j hj=> ?_⟩
 have A:=N.at (j:=j) (by omega)
 refine⟨by rw [A.val];exact(hs j hj).2.mono (by omega) (by omega),?_⟩
 have m:=X2o he hf ha hj ham (r3 j hj).2.1
 exact(y1j (ht j hj).1 U2n m).up (by omega)
theorem U4s {n:Nat} {f:List (List Mn)} {x:List Ivl} {p:Int} (hf:okFieldT n 3 3 f) (hn1:1≤n) (hn4:n≤4) (hx:x.length=n) (hxl: ∀j,j<n→luI 6 9 (x.getD j default)) (hw: ∀j,j<n→qN (x.getD j default).lo+p2 (-6)≤qN (x.getD j default).hi) (hp:Z0a p=true):
 (boxP f x q0x p).2=true:=by
 have pp:=X0u hp
 obtain⟨N0,H0⟩:=q1m (e:=9) hf hn1 hn4 hx hxl hx hxl (by omega) (by omega) hp (by omega) (by omega) (by omega) (fun j hj=>k1m (hxl j hj))
 have hfl:=hf.1
 have hb0l:(Y0h f x x q0x p).1.length=n:=by rw [N0.len,hfl]
 have b0m: ∀j,j<n→ampI 10 ((Y0h f x x q0x p).1.getD j default):=fun j hj=>by
  have A:=N0.at (j:=j) (by omega)
  rw [A.val]
  exact y1k (e:=9) A.s0 (k1m (hxl j hj)) ((H0 j hj).2.up (by omega))
 obtain⟨u1,u2,u3⟩:=U2m N0.rx N0.rightB (by omega)
 have b0lu: ∀j,j<n→luI 120 122 ((Y0h f x x q0x p).1.getD j default):=fun j hj=>(H0 j hj).1
 have hB:=N0.rightB
 generalize hb0:(Y0h f x x q0x p).1=b0 at*
 have hd: ∀j,j<n→luI 120 122 ((v0g x b0).1.getD j default)∧subI (x.getD j default) ((v0g x b0).1.getD j default)∧ampI 10 ((v0g x b0).1.getD j default):=fun j hj=>by
  rw [u3 j (by omega)]
  obtain⟨h1,h2,_⟩:=K3k ((hxl j hj).mono (L':=120) (U':=122) (by omega) (by omega)) (b0lu j hj)
  exact⟨h1,h2,k2m ((k1m (hxl j hj)).up (by omega)) (b0m j hj)⟩
 have rd:rightB (v0g x b0).1=true:=X0z (fun j hj=>(hd j (by omega)).1.1) (by omega) (by omega)
 have hbl: ∀j,j<n→_:=fun j hj=>w2i (p:=p) (hd j hj).1 hp (by omega)
 have w0:(j0n (v0g x b0).1 p).2=0:=H2p ⟨rd,hp⟩ fun j hj=>(hbl j (by omega)).1
 obtain⟨_,v1,v2,v3⟩:=H2o w0
 have hwid:V1b x b0 p=j0n (v0g x b0).1 p:=by unfold V1b;rw [if_pos u1]
 generalize hd0:(v0g x b0).1=d at*
 have ha1: ∀j,j<n→(j0n d p).1.getD j default=(G0f (d.getD j default) p).1:=fun j hj=>v3 j (by omega)
 have a1l:(j0n d p).1.length=n:=by omega
 have a1lu: ∀j,j<n→luI 122 126 ((j0n d p).1.getD j default):=fun j hj=>by rw [ha1 j hj];exact(hbl j hj).2
 have a1m: ∀j,j<n→ampI 11 ((j0n d p).1.getD j default):=fun j hj=>by rw [ha1 j hj];exact H2n (hbl j hj).1 (hd j hj).2.2
 obtain⟨N1,H1⟩:=q1m (e:=11) hf hn1 hn4 hx hxl a1l a1lu (by omega) (by omega) hp (by omega) (by omega) (by omega) a1m
 have hin:inB (Y0h f x (j0n d p).1 q0x p).1 (j0n d p).1=true:=by
  refine inB_sub.2 ⟨N1.rightB,N1.ra,by rw [N1.len,a1l,hfl],fun j hj=> ?_⟩
  have hj:j<n:=by rw [N1.len] at hj;omega
  have A:=N1.at (j:=j) (by omega)
  obtain⟨e1,e2⟩:=y1m A.s0
  have r:=Q1w A.s0
  obtain⟨s,s1,s2,⟨v,_,v1,v2⟩,⟨u,_,u1,u2⟩,_⟩:=y0q (hbl j hj).1
  have hm:=(H1 j hj).2
  have hsub:=(hd j hj).2.1
  have hww:=hw j hj
  have q64:p2 (-6)=p2 (-8)*4:=by
   have:=y0y (-8) 2
   rw [y2p] at this;exact this
  rw [A.val,ha1 j hj]
  refine⟨?_,?_⟩
  · rw [v2,e1]
    refine X1a pp ?_
    rw [v1,loV0,V0k,Z0g,Z0g]
    have:=hm.1.1
    have:=hsub.1
    have:=hsub.2
    grind
  · rw [u2,e2]
    refine K1n pp ?_
    rw [u1,hiV0,V0k,Z0g,Z0g]
    have:=hm.2.2
    have:=hsub.1
    have:=hsub.2
    grind
 unfold boxP
 rw [Z1n,if_pos (nextP_iff.2 N0),hb0,hwid,if_pos w0,Z1n,if_pos (nextP_iff.2 N1)]
 simp only [Bool.false_eq_true,if_false,if_true,List.nil_append,List.cons_append]
 rw [H2m,if_pos hin]
end Go.Pv
end
section
/-Quotients rounded:the greatest value of p bits that is not above the quotient,the least that is not below it. No program in it. -/
namespace Go.Pv
theorem x2h {N B:Nat} (hB:0<B) (j:Int):2*j≤((2*(N/B)+(if N % B=0 then 0 else 1):Nat):Int)↔j*B≤(N:Int):=by
 have h3:j≤((N/B:Nat):Int)↔j*B≤(N:Int):=by
  rw [Int.natCast_ediv]
  exact Int.le_ediv_iff_mul_le (by omega)
 rw [←h3]
 generalize N/B=F
 split<;>omega
theorem x2g {N B:Nat} (hB:0<B) (j:Int):2*j≤ -((2*(N/B)+(if N % B=0 then 0 else 1):Nat):Int)↔j*B≤ -(N:Int):=by
 have h1:=Nat.div_add_mod N B
 have h2:=Nat.mod_lt N hB
 generalize N/B=F at*
 generalize N % B=r at*
 have hB':(0:Int)<B:=by exact_mod_cast hB
 have h1':(B:Int)*F+r=N:=by exact_mod_cast h1
 have h2':(r:Int)<B:=by exact_mod_cast h2
 clear h1 h2
 have up: ∀i:Int,i≤j→i*B≤j*B:=fun i hi=>Int.mul_le_mul_of_nonneg_right hi (Int.le_of_lt hB')
 have dn: ∀i:Int,j≤i→j*B≤i*B:=fun i hi=>Int.mul_le_mul_of_nonneg_right hi (Int.le_of_lt hB')
 have e0: -(F:Int)*B= -((B:Int)*F):=by rw [Int.neg_mul,Int.mul_comm]
 have e1:(-(F:Int)-1)*B= -((B:Int)*F)-B:=by rw [Int.sub_mul,e0,Int.one_mul]
 have e2:(-(F:Int)+1)*B= -((B:Int)*F)+B:=by rw [Int.add_mul,e0,Int.one_mul]
 generalize (B:Int)*F=Z at*
 have u0:=up (-(F:Int))
 have u2:=up (-(F:Int)+1)
 have d0:=dn (-(F:Int))
 have d1:=dn (-(F:Int)-1)
 rw [e0] at u0 d0
 rw [e1] at d1
 rw [e2] at u2
 generalize j*(B:Int)=W at*
 clear up dn e0 e1 e2
 split
 · constructor
   · intro h;have:=d0 (by omega);omega
   · intro h
     refine Int.not_lt.1 fun hn=> ?_
     have:=u2 (by omega);omega
 · constructor
   · intro h;have:=d1 (by omega);omega
   · intro h
     refine Int.not_lt.1 fun hn=> ?_
     have:=u0 (by omega);omega
theorem K3u {p:Nat} {x:Rat} (h:y0e p x) (g:Int):(∃j:Int,x=qM j g)∨(qM (-((2^p:Nat):Int)) g≤x∧x≤qM ((2^p:Nat):Int) g):=by
 obtain⟨m,e,rfl,hm⟩:=h
 by_cases he:g≤e
 · exact .inl ⟨_,K1p m e g he⟩
 · right
   have hpos:(1:Int)≤2^(g-e).toNat:=by
    have:0<2^(g-e).toNat:=Nat.two_pow_pos _
    exact_mod_cast this
   rw [K1p _ g e (by omega),K1p _ g e (by omega),qM_le,qM_le,Int.neg_mul]
   generalize 2^p=P at*
   have h1:(P:Int)≤P*2^(g-e).toNat:=by
    calc (P:Int)=P*1:=(Int.mul_one _).symm
     _≤_:=Int.mul_le_mul_of_nonneg_left hpos (Int.natCast_nonneg _)
   generalize (P:Int)*2^(g-e).toNat=Z at*
   omega
theorem j2s {A B p:Nat} (hA:A≠0):2^(p+1)*B≤A*2^Y0u A B p:=by
 have h1:=Y0g hA
 have h2:=Nat.le_of_lt (Z0d B)
 have h0:1≤Q0f A:=by unfold Q0f;rw [if_neg hA];omega
 unfold Y0u
 calc 2^(p+1)*B≤2^(p+1)*2^Q0f B:=Nat.mul_le_mul_left _ h2
  _=2^(p+1+Q0f B):=by rw [←Nat.pow_add]
  _≤2^((Q0f A-1)+(p+2+Q0f B-Q0f A)):=Nat.pow_le_pow_right (by decide) (by omega)
  _=2^(Q0f A-1)*2^(p+2+Q0f B-Q0f A):=Nat.pow_add ..
  _≤A*2^(p+2+Q0f B-Q0f A):=Nat.mul_le_mul_right _ h1
theorem H3h {a b:Vl} {p:Nat} (hb:b.neg=false) (hB:0<b.m) {x:Rat} (hx:y0e p x):x≤qV (ratV a b p)↔x*qV b≤qV a:=by
 have hqb:qV b=qM (b.m:Int) b.e:=by unfold qV X0i;rw [hb];rfl
 have hb0:0<qV b:=by
  rw [hqb,←J0b b.e,qM_lt];omega
 by_cases hA:a.m=0
 · have e1:qV (ratV a b p)=0:=by unfold ratV;rw [if_pos hA];exact J0b 0
   rw [e1,k0m hA]
   constructor
   · intro h;have:=Rat.mul_le_mul_of_nonneg_right h (Rat.le_of_lt hb0);rwa [Rat.zero_mul] at this
   · intro h;exact Rat.le_of_mul_le_mul_right (by rwa [Rat.zero_mul]) hb0
 · obtain⟨t,ht⟩: ∃t,Y0u a.m b.m p=t:=⟨_,rfl⟩
   have big:=j2s (B:=b.m) (p:=p) hA
   rw [ht] at big
   have hv:qV (ratV a b p)=qM (if a.neg=true then -((2*(a.m*2^t/b.m)+(if a.m*2^t % b.m=0 then 0 else 1):Nat):Int) else((2*(a.m*2^t/b.m)+(if a.m*2^t % b.m=0 then 0 else 1):Nat):Int)) (a.e-b.e-(t:Int)-1):=by
    unfold ratV j0b
    rw [if_neg hA,q0g,hb,ht,Bool.bne_false]
   have ha:qV a=qM (if a.neg=true then -((a.m*2^t:Nat):Int) else((a.m*2^t:Nat):Int)) (a.e-(t:Int)):=by
    have e1:(if a.neg=true then -((a.m*2^t:Nat):Int) else((a.m*2^t:Nat):Int))=X0i a*2^t:=by
     unfold X0i;cases a.neg<;>simp [Int.neg_mul]
    rw [e1,V0q]
    unfold qV;congr 1;omega
   rw [hqb] at hb0
   rw [hv,ha,hqb]
   generalize a.m*2^t=N at*
   have hg: ∀j:Int,qM j (a.e-b.e-(t:Int))*qM (b.m:Int) b.e=qM (j*b.m) (a.e-(t:Int)):=fun j=>by rw [←w1z];congr 1;omega
   have hg2: ∀j:Int,qM j (a.e-b.e-(t:Int))=qM (2*j) (a.e-b.e-(t:Int)-1):=fun j=>by
    rw [Int.mul_comm,show(2:Int)=2^1 from rfl,V0q];congr 1;omega
   rcases K3u hx (a.e-b.e-(t:Int)) with ⟨j,rfl⟩ | ⟨l1,l2⟩
   · rw [hg,hg2,qM_le,qM_le]
     cases a.neg
     · exact x2h hB j
     · exact x2g hB j
   · have hF:2^(p+1)≤N/b.m:=(Nat.le_div_iff_mul_le hB).2 big
     have hP:=Nat.two_pow_pos p
     rw [Nat.pow_succ] at hF big
     generalize 2^p=P at*
     have big2:2*((P:Int)*b.m)≤N:=by
      have:P*2*b.m≤N:=big
      have e:P*2*b.m=2*(P*b.m):=by rw [Nat.mul_comm P 2,Nat.mul_assoc]
      rw [e] at this
      exact_mod_cast this
     have hPB:(0:Int)<(P:Int)*b.m:=by
      have:=Nat.mul_pos hP hB
      exact_mod_cast this
     cases hn:a.neg
     · rw [if_neg Bool.false_ne_true,if_neg Bool.false_ne_true]
       refine⟨fun _=> ?_,fun _=> ?_⟩
       · refine Rat.le_trans (Rat.mul_le_mul_of_nonneg_right l2 (Rat.le_of_lt hb0)) ?_
         rw [hg,qM_le];omega
       · refine Rat.le_trans l2 ?_
         rw [hg2,qM_le];omega
     · rw [if_pos rfl,if_pos rfl]
       constructor
       · intro h;exfalso
         have:=Rat.le_trans l1 h
         rw [hg2,qM_le] at this
         omega
       · intro h;exfalso
         have:=Rat.le_trans (Rat.mul_le_mul_of_nonneg_right l1 (Rat.le_of_lt hb0)) h
         rw [hg,qM_le,Int.neg_mul] at this
         omega
theorem z2d (a:Vl) {b:Vl} (p:Nat) (hb:b.neg=false):qV (ratV (J0r a) b p)= -qV (ratV a b p):=by
 by_cases h0:a.m=0
 · have e:J0r a=a:=by unfold J0r;rw [if_pos h0]
   have e1:qV (ratV a b p)=0:=by unfold ratV;rw [if_pos h0];exact J0b 0
   rw [e,e1];rfl
 · have e3:(J0r a).neg= !a.neg:=by unfold J0r;rw [if_neg h0]
   unfold ratV
   rw [Z1k,Z1l,e3,if_neg h0,if_neg h0,q0g,q0g,←q0h,hb]
   congr 1
   cases a.neg<;>simp
theorem z1d {p:Nat} {x:Rat} (hx:y0e p x):y0e p (-x):=by
 obtain⟨m,e,rfl,h⟩:=hx
 exact⟨-m,e,(q0h _ _).symm,by rw [Int.natAbs_neg];exact h⟩
theorem H3i {a b:Vl} {p:Nat} (hb:b.neg=false) (hB:0<b.m) {x:Rat} (hx:y0e p x):qV (ratV a b p)≤x↔qV a≤x*qV b:=by
 have:=H3h (a:=J0r a) hb hB (z1d hx)
 rw [z2d a p hb,V0x,Rat.neg_mul] at this
 constructor
 · intro h;have:=this.1 (by grind);grind
 · intro h;have:=this.2 (by grind);grind
theorem U2s (v:Vl) (p:Nat):y0e p (qV (Z0b v p true)):=by rw [z0x];exact z1d (k1z _ _)
end Go.Pv
end
