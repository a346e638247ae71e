/- Parts of the walk: M59, M52, M53, M54. -/
import Derived.Test.YthichlfphjbadaaGreatZAR
import Derived.Test.YthichlfphjbadaaGreatZBM
import Derived.Test.YthichlfphjbadaaGreatZK
import Derived.Test.YthichlfphjbadaaGreatZBR
import Derived.Test.YthichlfphjbadaaGreatZBN
set_option linter.unusedVariables false
set_option linter.unusedSimpArgs false
section
/-Numbers by powers of two;times. No program in it. -/
namespace Go.Pv
theorem x0c {x:Nm} {k:Nat} (h:(X0w x (-(k:Int))).2=0):Q0f x=true∧qN (X0w x (-(k:Int))).1*p2 k=qN x:=by
 unfold X0w at h⊢
 split at h
 · rename_i hr
   rw [if_pos hr]
   refine⟨hr,?_⟩
   split at h
   · rename_i hw
     rw [if_pos hw]
     have h0:qN x=0:=v2t (by rw [hw];rfl)
     show qN x*p2 k=qN x
     rw [h0,Rat.zero_mul]
   · rename_i hw
     rw [if_neg hw]
     split at h
     · exact absurd h (by decide)
     · rename_i hk
       rw [if_neg hk]
       have hc:canV (⟨x.neg,valW x.w,x.exp+ -(k:Int)⟩:Vl):=by
        rcases X0u hr with h1 | h1
        · exact .inl h1
        · exact absurd ((V0s hr).1 (show valW x.w=0 from congrArg Vl.m h1)) hw
       rw [(J0f hc h).2]
       unfold qV qN qM
       show((Z0x ⟨x.neg,valW x.w,x.exp+ -(k:Int)⟩:Int):Rat)*p2 (x.exp+ -(k:Int))*p2 k=((mant x:Int):Rat)*p2 x.exp
       rw [Rat.mul_assoc,←v0g]
       congr 2
       omega
 · exact absurd h (by decide)
theorem Z1m {x:Nm} {L U k:Nat} (hx:Q0f x=true) (h:luQ L U (qN x)) (hk:k≤1000) (hb:L+U+k+1≤4096):(X0w x (-(k:Int))).2=0∧luQ (L+k) U (qN (X0w x (-(k:Int))).1):=by
 have key: ∀y:Rat,y*p2 k=qN x→luQ (L+k) U y:=fun y hy=>by
  obtain⟨z,h1,h2⟩:=h
  refine⟨z,?_,Nat.le_trans h2 (Nat.pow_le_pow_right (by decide) (by omega))⟩
  have hne:=y3q k
  have e:qM z (-((L+k:Nat):Int))*p2 k=qM z (-(L:Int)):=by
   unfold qM
   rw [Rat.mul_assoc,←v0g]
   congr 2
   omega
  rw [h1,←e] at hy
  have:=congrArg (fun t=>t*(p2 k)⁻¹) hy
  simp only [Rat.mul_assoc,Rat.mul_inv_cancel _ hne,Rat.mul_one] at this
  exact this
 have h0:(X0w x (-(k:Int))).2=0:=by
  unfold X0w
  rw [if_pos hx]
  split
  · rfl
  · rename_i hw
    rw [if_neg (by omega)]
    have hc:canV (⟨x.neg,valW x.w,x.exp+ -(k:Int)⟩:Vl):=by
     rcases X0u hx with h1 | h1
     · exact .inl h1
     · exact absurd ((V0s hx).1 (show valW x.w=0 from congrArg Vl.m h1)) hw
    refine U0f hc (key _ ?_) (by omega)
    unfold qV qN qM
    show((Z0x ⟨x.neg,valW x.w,x.exp+ -(k:Int)⟩:Int):Rat)*p2 (x.exp+ -(k:Int))*p2 k=((mant x:Int):Rat)*p2 x.exp
    rw [Rat.mul_assoc,←v0g]
    congr 2
    omega
 exact⟨h0,key _ (x0c h0).2⟩
theorem Q3i {q:Nat} (h0:0<q) (h:q≤64):luQ 3 6 (qN (tq q))∧0<qN (tq q):=by
 have e:qN (tq q)=qM (q:Int) (-3):=by rw [←X0g,(W2q q (by omega)).2,Z3f]
 refine⟨⟨(q:Int),e,?_⟩,?_⟩
 · simp only [Int.natAbs_natCast];omega
 · rw [e,←J0m (-3)];exact qM_lt.2 (by omega)
theorem W2a {x y:Rat} {k:Int} (h:y*p2 k=x) (hx:0<x):0<y:=by
 have:=y0v k
 apply Rat.not_le.1
 intro hy
 have h2:=J0b (a:= -y) (b:=p2 k) (by grind) (by grind)
 grind
end Go.Pv
end
section
/-Boxes taken apart and put together;where solutions go. No program in it. -/
namespace Go.Pv
theorem j1v {k:Nat} {a b:List Ivl} {p:Int} (h:(opB k a b p).2=0):(rightB a=true∧rightB b=true∧a.length=b.length∧Z0q p=true)∧(opB k a b p).1.length=a.length∧
 (∀j,j<a.length→(opI k (a.getD j default) (b.getD j default) p).2=0)∧ ∀j,j<a.length→(opB k a b p).1.getD j default=(opI k (a.getD j default) (b.getD j default) p).1:=by
 unfold opB at h⊢
 by_cases c:rightB a=true∧rightB b=true∧a.length=b.length∧Z0q p=true
 · rw [if_pos c,K0d] at h
   rw [if_pos c,K0d]
   exact⟨c,z0v h⟩
 · rw [if_neg c] at h;exact absurd h (by decide)
theorem Z3t {k:Nat} {a b:List Ivl} {p:Int} (c:rightB a=true∧rightB b=true∧a.length=b.length∧Z0q p=true) (h: ∀j,j<a.length→(opI k (a.getD j default) (b.getD j default) p).2=0):(opB k a b p).2=0:=by
 unfold opB
 rw [if_pos c,K0d]
 exact z0w _ _ _ fun j _ hj=>h j (by omega)
theorem V1d {x:Ivl} {b:List Ivl} {p:Int} (h:(G0c x b p).2=0):(rightB b=true∧Q0l x=true∧Z0q p=true)∧(G0c x b p).1.length=b.length∧
 (∀j,j<b.length→(opI 2 x (b.getD j default) p).2=0)∧ ∀j,j<b.length→(G0c x b p).1.getD j default=(opI 2 x (b.getD j default) p).1:=by
 unfold G0c at h⊢
 by_cases c:rightB b=true∧Q0l x=true∧Z0q p=true
 · rw [if_pos c,K0d] at h
   rw [if_pos c,K0d]
   exact⟨c,z0v h⟩
 · rw [if_neg c] at h;exact absurd h (by decide)
theorem Q2u {x:Ivl} {b:List Ivl} {p:Int} (c:rightB b=true∧Q0l x=true∧Z0q p=true) (h: ∀j,j<b.length→(opI 2 x (b.getD j default) p).2=0):(G0c x b p).2=0:=by
 unfold G0c
 rw [if_pos c,K0d]
 exact z0w _ _ _ fun j _ hj=>h j (by omega)
theorem G2l {b:List Ivl} {p:Int} (h:(k0b b p).2=0):(rightB b=true∧Z0q p=true)∧(k0b b p).1.length=b.length∧
 (∀j,j<b.length→(G0u (b.getD j default) p).2=0)∧ ∀j,j<b.length→(k0b b p).1.getD j default=(G0u (b.getD j default) p).1:=by
 unfold k0b at h⊢
 by_cases c:rightB b=true∧Z0q p=true
 · rw [if_pos c,K0d] at h
   rw [if_pos c,K0d]
   exact⟨c,z0v h⟩
 · rw [if_neg c] at h;exact absurd h (by decide)
theorem G2m {b:List Ivl} {p:Int} (c:rightB b=true∧Z0q p=true) (h: ∀j,j<b.length→(G0u (b.getD j default) p).2=0):(k0b b p).2=0:=by
 unfold k0b
 rw [if_pos c,K0d]
 exact z0w _ _ _ fun j _ hj=>h j (by omega)
theorem Y2v {a b:List Ivl} (ha:rightB a=true) (hb:rightB b=true) (hl:a.length=b.length):(q0h a b).2=0∧(q0h a b).1.length=a.length∧
 ∀j,j<a.length→(q0h a b).1.getD j default=⟨X0e (a.getD j default).lo (b.getD j default).lo,X0d (a.getD j default).hi (b.getD j default).hi⟩:=by
 have hI: ∀j,j<a.length→K1q (a.getD j default) (b.getD j default)=(⟨X0e (a.getD j default).lo (b.getD j default).lo,X0d (a.getD j default).hi (b.getD j default).hi⟩,0):=fun j hj=>Q1r (G0z ha hj) (G0z hb (by omega))
 unfold q0h
 rw [if_pos ⟨ha,hb,hl⟩,K0d]
 have h0:(tabF (fun j=>K1q (a.getD j default) (b.getD j default)) 0 a.length []).2=0:=z0w _ _ _ fun j _ hj=>by show(K1q (a.getD j default) (b.getD j default)).2=0;rw [hI j (by omega)]
 obtain⟨g1,g2,g3⟩:=z0v h0
 refine⟨h0,g1,fun j hj=> ?_⟩
 rw [g3 j hj]
 show(K1q (a.getD j default) (b.getD j default)).1=_
 rw [hI j hj]
theorem Y2j (a b:Nm):(qN (X0e a b)=qN a∨qN (X0e a b)=qN b)∧qN (X0e a b)≤qN a∧qN (X0e a b)≤qN b:=by
 unfold X0e
 split
 · rename_i h
   have:=cmpN_lt.1 h
   exact⟨.inr rfl,by grind,Rat.le_refl⟩
 · rename_i h
   have h2: ¬qN b<qN a:=fun e=>h (cmpN_lt.2 e)
   exact⟨.inl rfl,Rat.le_refl,by grind⟩
theorem Y2y (a b:Nm):(qN (X0d a b)=qN a∨qN (X0d a b)=qN b)∧qN a≤qN (X0d a b)∧qN b≤qN (X0d a b):=by
 unfold X0d
 split
 · rename_i h
   have:=cmpN_gt.1 h
   exact⟨.inr rfl,by grind,Rat.le_refl⟩
 · rename_i h
   have h2: ¬qN a<qN b:=fun e=>h (cmpN_gt.2 e)
   exact⟨.inl rfl,Rat.le_refl,by grind⟩
theorem inB_sub {a b:List Ivl} :inB a b=true↔rightB a=true∧rightB b=true∧a.length=b.length∧ ∀j,j<a.length→subI (a.getD j default) (b.getD j default):=by
 unfold inB allF
 simp only [Bool.and_eq_true,decide_eq_true_eq,List.all_eq_true,List.mem_range]
 constructor
 · rintro⟨⟨ha,hb⟩,hl,hj⟩
   exact⟨ha,hb,hl,fun j h=>(Y2u (G0z ha h) (G0z hb (by omega))).1 (hj j h)⟩
 · rintro⟨ha,hb,hl,hj⟩
   exact⟨⟨ha,hb⟩,hl,fun j h=>(Y2u (G0z ha h) (G0z hb (by omega))).2 (hj j h)⟩
theorem Y1t {h:Nm} (hr:Q0f h=true):(¬sgnN (ownN h)≤0)↔0<qN h:=by
 unfold ownN
 rw [if_pos hr,←j1b];omega
theorem V1e {h:Nm} (hr:Q0f h=true) (h0:0<qN h):Q0l ⟨default,h⟩=true:=Y0g j1f hr (cmpN_le.2 (by rw [G0o];grind))
structure NextOK (f:List (List Mn)) (x a:List Ivl) (h:Nm) (p:Int):Prop where
 rf:V0x f=true
 rx:rightB x=true
 ra:rightB a=true
 lx:x.length=f.length
 la:a.length=f.length
 rh:Q0f h=true
 ph:0<qN h
 pp:Z0q p=true
 e1:(J0l f a p).2=0
 e2:(G0c ⟨default,h⟩ (J0l f a p).1 p).2=0
 e3:(opB 0 x (G0c ⟨default,h⟩ (J0l f a p).1 p).1 p).2=0
theorem nextP_iff {f:List (List Mn)} {x a:List Ivl} {h:Nm} {p:Int} :(U0c f x a h p).2=0↔NextOK f x a h p:=by
 constructor
 · intro e
   unfold U0c at e
   split at e
   · rename_i c
     obtain⟨c1,c2,c3,c4,c5,c6,c7,c8⟩:=c
     split at e
     · rename_i d1
       split at e
       · rename_i d2
         exact⟨c1,c2,c3,c4,c5,c6,(Y1t c6).1 c7,c8,d1,d2,e⟩
       · rename_i d2;exact absurd e d2
     · rename_i d1;exact absurd e d1
   · exact absurd e (by decide)
 · rintro⟨c1,c2,c3,c4,c5,c6,c7,c8,d1,d2,e⟩
   unfold U0c
   rw [if_pos ⟨c1,c2,c3,c4,c5,c6,(Y1t c6).2 c7,c8⟩,if_pos d1,if_pos d2]
   exact e
theorem NextOK.val {f:List (List Mn)} {x a:List Ivl} {h:Nm} {p:Int} (n:NextOK f x a h p):(U0c f x a h p).1=(opB 0 x (G0c ⟨default,h⟩ (J0l f a p).1 p).1 p).1:=by
 unfold U0c
 rw [if_pos ⟨n.rf,n.rx,n.ra,n.lx,n.la,n.rh,(Y1t n.rh).2 n.ph,n.pp⟩,if_pos n.e1,if_pos n.e2]
theorem X1f {f:List (List Mn)} {a:List Ivl} {p:Int} (h:(J0l f a p).2=0):(V0x f=true∧a.length=f.length)∧(J0l f a p).1.length=f.length∧ ∀j,j<f.length→(J0l f a p).1.getD j default=(J0a (f.getD j []) a p (f.getD j []).length).1∧(J0a (f.getD j []) a p (f.getD j []).length).2=0:=by
 unfold J0l at h⊢
 by_cases c:V0x f=true∧a.length=f.length
 · rw [if_pos c] at h⊢
   obtain⟨g1,g2,g3⟩:=z0v h
   refine⟨c,g1,fun j hj=> ?_⟩
   have e:=g2 j hj
   rw [g3 j hj]
   show(v0b (f.getD j []) a p).1=_∧_
   replace e:(v0b (f.getD j []) a p).2=0:=e
   unfold v0b at e⊢
   split at e
   · rename_i d;rw [if_pos d];exact⟨rfl,e⟩
   · exact absurd e (by decide)
 · rw [if_neg c] at h;exact absurd h (by decide)
structure NextAt (f:List (List Mn)) (x a:List Ivl) (h:Nm) (p:Int) (j:Nat):Prop where
 r0:(J0a (f.getD j []) a p (f.getD j []).length).2=0
 t0:(opI 2 ⟨default,h⟩ (J0a (f.getD j []) a p (f.getD j []).length).1 p).2=0
 s0:(opI 0 (x.getD j default) (opI 2 ⟨default,h⟩ (J0a (f.getD j []) a p (f.getD j []).length).1 p).1 p).2=0
 val:(U0c f x a h p).1.getD j default=(opI 0 (x.getD j default) (opI 2 ⟨default,h⟩ (J0a (f.getD j []) a p (f.getD j []).length).1 p).1 p).1
theorem NextOK.len {f:List (List Mn)} {x a:List Ivl} {h:Nm} {p:Int} (n:NextOK f x a h p):(U0c f x a h p).1.length=f.length:=by
 rw [n.val,(j1v n.e3).2.1,n.lx]
theorem NextOK.at {f:List (List Mn)} {x a:List Ivl} {h:Nm} {p:Int} (n:NextOK f x a h p) {j:Nat} (hj:j<f.length):NextAt f x a h p j:=by
 obtain⟨_,r1,r2⟩:=X1f n.e1
 obtain⟨r3,r4⟩:=r2 j hj
 obtain⟨_,t1,t2,t3⟩:=V1d n.e2
 obtain⟨_,s1,s2,s3⟩:=j1v n.e3
 have t2:=t2 j (by omega)
 have t3:=t3 j (by omega)
 have s2:=s2 j (by rw [n.lx];exact hj)
 have s3:=s3 j (by rw [n.lx];exact hj)
 rw [r3] at t2 t3
 rw [t3] at s2 s3
 exact⟨r4,t2,s2,by rw [n.val];exact s3⟩
theorem Z2v {k:Nat} {a b:List Ivl} {p:Int} (h:(opB k a b p).2=0):rightB (opB k a b p).1=true:=by
 obtain⟨c,l,_,v⟩:=j1v h
 have:=W0r c.1
 exact K0a (fun j hj=>by rw [v j (by omega)];exact X1q _ _ _ _) (by omega) (by omega)
theorem NextOK.rightB {f:List (List Mn)} {x a:List Ivl} {h:Nm} {p:Int} (n:NextOK f x a h p):Go.Pv.rightB (U0c f x a h p).1=true:=by
 rw [n.val];exact Z2v n.e3
theorem x2e {f:List (List Mn)} {x a:List Ivl} {h:Nm} {p:Int} (rf:V0x f=true) (rx:rightB x=true) (ra:rightB a=true) (lx:x.length=f.length) (la:a.length=f.length) (rh:Q0f h=true) (ph:0<qN h) (pp:Z0q p=true) (e1:(J0l f a p).2=0)
 (h2: ∀j,j<f.length→(opI 2 ⟨default,h⟩ (J0a (f.getD j []) a p (f.getD j []).length).1 p).2=0)
 (h3: ∀j,j<f.length→(opI 0 (x.getD j default) (opI 2 ⟨default,h⟩ (J0a (f.getD j []) a p (f.getD j []).length).1 p).1 p).2=0):NextOK f x a h p:=by
 obtain⟨_,r1,r2⟩:=X1f e1
 have hx:=W0r rx
 have rr:rightB (J0l f a p).1=true:=K0a (fun j hj=>by
  obtain⟨q1,q2⟩:=r2 j (by omega)
  have:=h2 j (by omega)
  rw [q1];exact(Q1o this).2.1) (by omega) (by omega)
 have e2:(G0c ⟨default,h⟩ (J0l f a p).1 p).2=0:=Q2u ⟨rr,V1e rh ph,pp⟩ fun j hj=>by
  rw [(r2 j (by omega)).1];exact h2 j (by omega)
 obtain⟨_,t1,t2,t3⟩:=V1d e2
 have rt:rightB (G0c ⟨default,h⟩ (J0l f a p).1 p).1=true:=K0a (fun j hj=>by
  rw [t3 j (by omega)];exact X1q _ _ _ _) (by omega) (by omega)
 refine⟨rf,rx,ra,lx,la,rh,ph,pp,e1,e2,Z3t ⟨rx,rt,by omega,pp⟩ fun j hj=> ?_⟩
 rw [t3 j (by omega),(r2 j (by omega)).1]
 exact h3 j (by omega)
theorem z0l {a:Ivl} {p:Int} (h:(G0u a p).2=0):(K0k a p).2=0∧(X0w (K0k a p).1 (-2)).2=0∧(U0b 1 a.lo (X0w (K0k a p).1 (-2)).1 p false).2=0∧(U0b 0 a.hi (X0w (K0k a p).1 (-2)).1 p true).2=0∧
 (G0u a p).1=⟨(U0b 1 a.lo (X0w (K0k a p).1 (-2)).1 p false).1,(U0b 0 a.hi (X0w (K0k a p).1 (-2)).1 p true).1⟩:=by
 unfold G0u at h⊢
 split at h
 · rename_i c;exact absurd h c
 · rename_i c
   split at h
   · rename_i d;exact absurd h d
   · rename_i d
     split at h
     · exact absurd h (by decide)
     · rename_i e
       rw [if_neg c,if_neg d,if_neg e]
       have e1: ¬(U0b 1 a.lo (X0w (K0k a p).1 (-2)).1 p false).2≠0:=fun q=>e (.inl q)
       have e2: ¬(U0b 0 a.hi (X0w (K0k a p).1 (-2)).1 p true).2≠0:=fun q=>e (.inr q)
       exact⟨Classical.not_not.1 c,Classical.not_not.1 d,Classical.not_not.1 e1,Classical.not_not.1 e2,rfl⟩
theorem k2q {a:Ivl} {p:Int} (h1:(K0k a p).2=0) (h2:(X0w (K0k a p).1 (-2)).2=0) (h3:(U0b 1 a.lo (X0w (K0k a p).1 (-2)).1 p false).2=0) (h4:(U0b 0 a.hi (X0w (K0k a p).1 (-2)).1 p true).2=0):(G0u a p).2=0:=by
 unfold G0u
 rw [if_neg (by rw [h1];decide),if_neg (by rw [h2];decide),if_neg (by rw [h3,h4];decide)]
theorem w0n {k:Nat} {a b:Nm} {p:Int} {up:Bool} (h:(U0b k a b p up).2=0):Q0f a=true∧Q0f b=true∧Z0q p=true:=by
 unfold U0b at h
 split at h
 · assumption
 · exact absurd h (by decide)
theorem Z1w {k:Nat} {a b:Nm} {p:Int} {up:Bool} (h:(U0b k a b p up).2=0):qN (U0b k a b p up).1=qV (Z0h (exV k (ofN a) (ofN b)) p.toNat up):=by
 have c:=w0n h
 unfold U0b at h⊢
 rw [if_pos c] at h⊢
 exact(J0f (Z0a (J1w k (X0u c.1) (X0u c.2.1)) _ _) h).2
theorem z0r {a:Ivl} {p:Int} (h:(K0k a p).2=0):Q0l a=true∧Z0q p=true:=by
 unfold K0k at h
 split at h
 · assumption
 · exact absurd h (by decide)
theorem G1x {a:Ivl} {p:Int} (h:(K0k a p).2=0):qN (K0k a p).1=qV (Z0h (U0r (ofN a.hi) (ofN a.lo)) p.toNat true):=by
 have c:=z0r h
 have hc:=canI c.1
 unfold K0k at h⊢
 rw [if_pos c] at h⊢
 exact(J0f (Z0a (U0z hc.2 hc.1) _ _) h).2
end Go.Pv
end
section
/-How great what is reckoned gets:at most a power of two,which rounding does not pass. No program in it. -/
namespace Go.Pv
theorem q1r (e:Int):p2 e=qM 1 e:=by simp [qM]
theorem Z3q {a b:Int} (h:a≤b):p2 a≤p2 b:=by
 rw [q1r,q1r,show b=a+((b-a).toNat:Int) from by omega,←W0m,qM_le]
 have:0<(2:Int)^(b-a).toNat:=Int.pow_pos (by decide)
 omega
theorem j1u (a:Int):p2 (a+1)=p2 a*2:=by
 rw [v0g];congr 1
def magQ (e:Int) (x:Rat):Prop:= -(p2 e)≤x∧x≤p2 e
theorem X1z (e:Int):magQ e 0:=by
 have:=y0v e
 exact⟨by grind,by grind⟩
theorem magQ.up {e g:Int} {x:Rat} (h:magQ e x) (he:e≤g):magQ g x:=by
 have:=Z3q he
 exact⟨by have:=h.1;grind,by have:=h.2;grind⟩
theorem Q1p {e:Int} {x:Rat} (h:magQ e x):magQ e (-x):=⟨by have:=h.2;grind,by have:=h.1;grind⟩
theorem Q1q {e:Int} {x y:Rat} (h:magQ e x) (g:magQ e y):magQ (e+1) (x+y):=by
 obtain⟨a,b⟩:=h
 obtain⟨c,d⟩:=g
 refine⟨?_,?_⟩
 · rw [j1u];grind
 · rw [j1u];grind
theorem y1d {e g:Int} {x y:Rat} (h:magQ e x) (k:magQ g y):magQ (e+g) (x*y):=by
 obtain⟨a,b⟩:=h
 obtain⟨c,d⟩:=k
 have q1:=J0b (a:=p2 e-x) (b:=p2 g+y) (by grind) (by grind)
 have q2:=J0b (a:=p2 e+x) (b:=p2 g-y) (by grind) (by grind)
 have q3:=J0b (a:=p2 e-x) (b:=p2 g-y) (by grind) (by grind)
 have q4:=J0b (a:=p2 e+x) (b:=p2 g+y) (by grind) (by grind)
 unfold magQ
 rw [v0g]
 exact⟨by grind,by grind⟩
theorem U1p {e:Int} {x:Rat} (h:magQ e x): ∀k:Nat,magQ (e*k) (powQ x k)
 | 0=>by
  show magQ (e*((0:Nat):Int)) 1
  rw [Int.natCast_zero,Int.mul_zero]
  unfold magQ
  rw [j1t]
  exact⟨by decide,Rat.le_refl⟩
 | k+1=>by
  show magQ _ (powQ x k*x)
  rw [show e*((k+1:Nat):Int)=e*k+e from by rw [Int.natCast_add,Int.mul_add];omega]
  exact y1d (U1p h k) h
theorem W2z {L U:Nat} {x:Rat} (h:luQ L U x):magQ U x:=by
 obtain⟨z,rfl,hz⟩:=h
 have e:p2 (U:Int)=qM (2^(L+U)) (-(L:Int)):=by
  rw [q1r,show(U:Int)= -(L:Int)+((L+U:Nat):Int) from by omega,←W0m,Int.one_mul]
 have hz2:(z.natAbs:Int)≤2^(L+U):=by
  have:((2^(L+U):Nat):Int)=2^(L+U):=by simp
  rw [←this];exact_mod_cast hz
 unfold magQ
 rw [e,←X1h,qM_le,qM_le]
 omega
theorem j2o (p:Nat) (e:Int):J3c p (-(p2 e)):=⟨-1,e,by rw [q1r,X1h],Nat.one_le_two_pow⟩
theorem U0q {e:Int} {v:Vl} {p:Nat} (hp:1≤p) (h:magQ e (qV v)) (up:Bool):magQ e (qV (Z0h v p up)):=by
 have dn: ∀w:Vl,magQ e (qV w)→magQ e (qV (Z0h w p false)):=fun w hw=>⟨V1i hp (j2o p e) hw.1,Rat.le_trans (Y0e w p) hw.2⟩
 cases up with
 | false=>exact dn v h
 | true=>
  rw [w0f]
  refine Q1p (dn _ ?_)
  rw [Y0s];exact Q1p h
def ampI (e:Int) (a:Ivl):Prop:=magQ e (qN a.lo)∧magQ e (qN a.hi)
theorem ampI.up {e g:Int} {a:Ivl} (h:ampI e a) (he:e≤g):ampI g a:=⟨h.1.up he,h.2.up he⟩
theorem x0p {e:Int} {a:Ivl} (h:ampI e a) {X:Rat} (hX:memI X a):magQ e X:=⟨Rat.le_trans h.1.1 hX.1,Rat.le_trans hX.2 h.2.2⟩
theorem k1f {L U:Nat} {a:Ivl} (h:luI L U a):ampI U a:=⟨W2z h.2.1,W2z h.2.2⟩
theorem W2k {k:Nat} {a b:Ivl} {p:Int} {g:Int} (h:(opI k a b p).2=0) (hx: ∀X U,memI X a→memI U b→magQ g (exQ k X U)):ampI g (opI k a b p).1:=by
 have r:=Q1o h
 obtain⟨e1,e2⟩:=w1r h
 have pp:=V0c r.2.2
 obtain⟨X,U,x1,x2,x3⟩:=Q4b k r.1 r.2.1
 obtain⟨Y,V,y1,y2,y3⟩:=Q4l k r.1 r.2.1
 refine⟨?_,?_⟩
 · rw [e1];exact U0q pp (by rw [x3];exact hx X U x1 x2) _
 · rw [e2];exact U0q pp (by rw [y3];exact hx Y V y1 y2) _
theorem w1p {a b:Ivl} {p:Int} {e g:Int} (h:(opI 2 a b p).2=0) (ha:ampI e a) (hb:ampI g b):ampI (e+g) (opI 2 a b p).1:=
 W2k h fun X U hX hU=>by rw [exQ2];exact y1d (x0p ha hX) (x0p hb hU)
theorem w1q {a b:Ivl} {p:Int} {e:Int} (h:(opI 0 a b p).2=0) (ha:ampI e a) (hb:ampI e b):ampI (e+1) (opI 0 a b p).1:=
 W2k h fun X U hX hU=>by rw [exQ0];exact Q1q (x0p ha hX) (x0p hb hU)
theorem z2j {a:Ivl} {k p:Int} {e:Int} (h:(powI a k p).2=0) (ha:ampI e a):ampI (e*k.toNat) (powI a k p).1:=by
 have r:=q1n h
 obtain⟨e1,e2⟩:=V2z h
 have pp:=V0c r.2.2.2
 obtain⟨X,x1,x3⟩:=z2i r.1 k.toNat
 obtain⟨Y,y1,y3⟩:=z2l r.1 k.toNat
 refine⟨?_,?_⟩
 · rw [e1];exact U0q pp (by rw [x3];exact U1p (x0p ha x1) _) _
 · rw [e2];exact U0q pp (by rw [y3];exact U1p (x0p ha y1) _) _
theorem q1s {m:Mn} {b:List Ivl} {p:Int} {c e:Int} (hc:magQ c (qN m.c)) (hk:Y0y m.ks=true): ∀i,i≤m.ks.length→(∀j,j<i→ampI e (b.getD j default))→(Y0m m b p i).2=0→ampI (c+e*sumK m.ks i) (Y0m m b p i).1
 | 0,_,_,_=>by
  have:sumK m.ks 0=0:=rfl
  rw [this,Int.natCast_zero,Int.mul_zero,Int.add_zero]
  exact⟨hc,hc⟩
 | i+1,hi,hb,h=>by
  have ih:=q1s (e:=e) hc hk i (by omega) (fun j hj=>hb j (by omega)) (W1a h)
  have hs:=V0l hk (i+1) hi
  have hs0:=V0l hk i (by omega)
  have hat:=U0l hk i (by omega)
  have hst:=z0x m.ks i (by omega)
  have hsum:sumK m.ks (i+1)=sumK m.ks i+(m.ks.getD i 0).toNat:=by unfold sumK;omega
  rcases Z2u h with ⟨d,q⟩ | ⟨d,d2,q⟩
  · rw [q,hsum,d];exact ih
  · rw [q] at h⊢
    have:=w1p h ih (z2j d2 (hb i (by omega)))
    rw [hsum,Int.natCast_add,Int.mul_add,←Int.add_assoc]
    exact this
theorem V1y {q:List Mn} {b:List Ivl} {p:Int} {g:Int} : ∀i,(∀j,j<i→(Y0m (q.getD j default) b p b.length).2=0→ampI g (Y0m (q.getD j default) b p b.length).1)→(J0a q b p i).2=0→ampI (g+i) (J0a q b p i).1
 | 0,_,_=>by
  have e:qN (default:Ivl).lo=0:=J0m 0
  have e2:qN (default:Ivl).hi=0:=J0m 0
  exact⟨by show magQ _ (qN (default:Ivl).lo);rw [e];exact X1z _,by show magQ _ (qN (default:Ivl).hi);rw [e2];exact X1z _⟩
 | i+1,hj,h=>by
  obtain⟨c1,c2,e⟩:=j1j h
  have ih:=V1y i (fun j hjl=>hj j (by omega)) c1
  rw [e] at h⊢
  have:=w1q h ih ((hj i (by omega) c2).up (by omega))
  rw [show g+((i+1:Nat):Int)=g+i+1 from by omega]
  exact this
theorem y0h {a:Ivl} {p:Int} (h:(G0u a p).2=0): ∃s:Rat,qN a.hi-qN a.lo≤s*4∧0≤s∧
 (∃v:Vl,canV v∧qV v=qN a.lo-s∧qN (G0u a p).1.lo=qV (Z0h v p.toNat false))∧(∃v:Vl,canV v∧qV v=qN a.hi+s∧qN (G0u a p).1.hi=qV (Z0h v p.toNat true))∧ ∃w:Vl,canV w∧qV w=qN a.hi-qN a.lo∧s*4=qV (Z0h w p.toNat true):=by
 obtain⟨w0,s0,l0,h0,e⟩:=z0l h
 have hw:=G1x w0
 obtain⟨wn,pp⟩:=z0r w0
 have hs:=(x0c (x:=(K0k a p).1) (k:=2) s0).2
 have hr:=w0n l0
 have hr2:=w0n h0
 rw [show p2 ((2:Nat):Int)=4 from v2z] at hs
 rw [show -((2:Nat):Int)= -2 from rfl] at hs
 have hge:=G0x (U0r (ofN a.hi) (ofN a.lo)) p.toNat
 rw [←hw,Y0t,X0g,X0g] at hge
 have hle:=q0t wn
 rw [X0g,X0g] at hle
 have ca:=canI wn
 refine⟨qN (X0w (K0k a p).1 (-2)).1,by rw [hs];exact hge,by grind,⟨exV 1 (ofN a.lo) (ofN (X0w (K0k a p).1 (-2)).1),J1w 1 ca.1 (X0u hr.2.1),by rw [Z3g,exQ1,X0g,X0g],?_⟩,
  ⟨exV 0 (ofN a.hi) (ofN (X0w (K0k a p).1 (-2)).1),J1w 0 ca.2 (X0u hr.2.1),by rw [Z3g,exQ0,X0g,X0g],?_⟩,U0r (ofN a.hi) (ofN a.lo),U0z ca.2 ca.1,by rw [Y0t,X0g,X0g],by rw [hs,hw]⟩
 · rw [e];exact Z1w l0
 · rw [e];exact Z1w h0
theorem v1d {a:Ivl} {p:Int} (h:(G0u a p).2=0):Q0l (G0u a p).1=true∧subI a (G0u a p).1:=by
 obtain⟨s,h1,h2,⟨v,_,h3,h4⟩,⟨u,_,h5,h6⟩,_⟩:=y0h h
 obtain⟨w0,s0,l0,h0,e⟩:=z0l h
 have wn:=(z0r w0).1
 have q1:=Y0e v p.toNat
 have q2:=G0x u p.toNat
 have hle:=q0t wn
 rw [X0g,X0g] at hle
 have hs:subI a (G0u a p).1:=⟨by rw [h4];grind,by rw [h6];grind⟩
 refine⟨Y0g ?_ ?_ (cmpN_le.2 ?_),hs⟩
 · rw [e];exact Z1x _ _ _ _ _
 · rw [e];exact Z1x _ _ _ _ _
 · have:=hs.1
   have:=hs.2
   grind
theorem G2k {a:Ivl} {p:Int} {e:Int} (h:(G0u a p).2=0) (ha:ampI e a):ampI (e+1) (G0u a p).1:=by
 have pp:=V0c (z0r (z0l h).1).2
 obtain⟨s,h1,h2,⟨v,_,h3,h4⟩,⟨u,_,h5,h6⟩,w,_,h7,h8⟩:=y0h h
 have m1:magQ (e+1) (s*4):=by
  rw [h8]
  refine U0q pp ?_ _
  rw [h7,Rat.sub_eq_add_neg]
  exact Q1q ha.2 (Q1p ha.1)
 have m2:magQ e s:=by
  have:=m1.2
  have:=m1.1
  have e2:=j1u e
  have:=y0v e
  exact⟨by grind,by grind⟩
 refine⟨?_,?_⟩
 · rw [h4]
   refine U0q pp ?_ _
   rw [h3,Rat.sub_eq_add_neg];exact Q1q ha.1 (Q1p m2)
 · rw [h6]
   refine U0q pp ?_ _
   rw [h5];exact Q1q ha.2 m2
theorem w1a {k L U:Nat} {x y:Nm} {p:Int} (hk:k<2) (hx:Q0f x=true) (hy:Q0f y=true) (h1:luQ L U (qN x)) (h2:luQ L U (qN y)) (hp:Z0q p=true) (up:Bool) (hb:L+U+3≤4096):(U0b k x y p up).2=0∧luQ L (U+2) (qN (U0b k x y p up).1):=by
 have hc:canV (exV k (ofN x) (ofN y)):=J1w k (X0u hx) (X0u hy)
 have hq:qV (exV k (ofN x) (ofN y))=exQ k (qN x) (qN y):=by rw [Z3g];rfl
 have hl:luQ L (U+1) (qV (exV k (ofN x) (ofN y))):=by
  rw [hq]
  unfold exQ
  split
  · exact H0v h1 h2
  · rw [if_pos (by omega)];exact U1q h1 h2
 have hr:=W0a hc hl p.toNat (V0c hp) up
 have hf:(U0b k x y p up).2=0:=by
  unfold U0b
  rw [if_pos ⟨hx,hy,hp⟩]
  exact U0f (Z0a hc _ _) hr (by omega)
 exact⟨hf,by rw [Z1w hf];exact hr⟩
theorem k2r {L U:Nat} {a:Ivl} {p:Int} (ha:luI L U a) (hp:Z0q p=true) (hb:L+U+8≤4096):(G0u a p).2=0∧luI (L+2) (U+4) (G0u a p).1:=by
 have ca:=canI ha.1
 have rr:=Q0x ha.1
 have hl:luQ L (U+1) (qV (U0r (ofN a.hi) (ofN a.lo))):=by rw [Y0t,X0g,X0g];exact U1q ha.2.2 ha.2.1
 have cl:=U0z ca.2 ca.1
 have hr:=W0a cl hl p.toNat (V0c hp) true
 have w0:(K0k a p).2=0:=by
  unfold K0k
  rw [if_pos ⟨ha.1,hp⟩]
  exact U0f (Z0a cl _ _) hr (by omega)
 rw [←G1x w0] at hr
 obtain⟨s0,s1⟩:=Z1m (k:=2) (x1v a p) hr (by omega) (by omega)
 rw [show -((2:Nat):Int)= -2 from rfl] at s0 s1
 have sr:=q0n (K0k a p).1 (-2)
 obtain⟨l0,l1⟩:=w1a (k:=1) (by omega) rr.1 sr (ha.2.1.mono (L':=L+2) (U':=U+2) (by omega) (by omega)) s1 hp false (by omega)
 obtain⟨h0,h1⟩:=w1a (k:=0) (by omega) rr.2.1 sr (ha.2.2.mono (L':=L+2) (U':=U+2) (by omega) (by omega)) s1 hp true (by omega)
 have hb0:=k2q w0 s0 l0 h0
 refine⟨hb0,(v1d hb0).1,?_,?_⟩
 · rw [(z0l hb0).2.2.2.2];exact l1
 · rw [(z0l hb0).2.2.2.2];exact h1
end Go.Pv
end
section
/-For a short time a box is found. No program in it. -/
namespace Go.Pv
def Z3v (n M:Nat) (D:Int) (p:List Mn):Prop:=V0k p n=true∧p.length≤M∧ ∀m∈p,okMn n 6 (8+M) D m
def okFieldT (n M:Nat) (D:Int) (f:List (List Mn)):Prop:=f.length=n∧ ∀p∈f,Z3v n M D p
theorem okFieldT.ok {n M:Nat} {D:Int} {f:List (List Mn)} (h:okFieldT n M D f):okField n M D f:=⟨h.1,fun p hp=>⟨(h.2 p hp).1,(h.2 p hp).2.1,fun m hm=>by
 obtain⟨a1,a2,a3,a4,a5,a6⟩:=(h.2 p hp).2.2 m hm
 exact⟨a1,a2,a3,a4,a5,a6.mono (by omega) (by omega)⟩⟩⟩
theorem okFieldT.at {n M:Nat} {D:Int} {f:List (List Mn)} (h:okFieldT n M D f) {i j:Nat} (hi:i<f.length) (hj:j<(f.getD i []).length):okMn n 6 (8+M) D ((f.getD i []).getD j default):=by
 have e:f.getD i []=f[i]:=by simp [List.getD_eq_getElem?_getD,hi]
 rw [e] at hj⊢
 exact z0e (h.2 _ (List.getElem_mem hi)).2.2 hj
theorem Q3q {ks:List Int} {D:Int} (hr:Y0y ks=true) (h:ks.sum≤D) {i:Nat} (hi:i≤ks.length):(sumK ks i:Int)≤D:=by
 have h0:=V0l hr i hi
 have h1:(ks.take i).sum≤ks.sum:=by
  have hk:=((K0v ks).1 hr).1
  have: ∀(l:List Int) (n:Nat),(∀j,j<l.length→0≤l.getD j 0)→(l.take n).sum≤l.sum:=by
   intro l
   induction l with
   | nil=>intro n _;simp
   | cons x l ih=>
    intro n hp
    have hx:0≤x:=hp 0 (by simp)
    have hp': ∀j,j<l.length→0≤l.getD j 0:=fun j hj=>by have:=hp (j+1) (by simpa using hj);simpa using this
    cases n with
    | zero=>
     have:=ih 0 hp'
     simp at this⊢;omega
    | succ n=>
     have:=ih n hp'
     simp;omega
  exact this ks i hk
 unfold sumK;omega
theorem Z2l {n:Nat} {f:List (List Mn)} {a:List Ivl} {p:Int} {e:Int} (he:0≤e) (hf:okFieldT n 3 3 f) (hl:a.length=n) {i:Nat} (hi:i<n) (ha: ∀j,j<n→ampI e (a.getD j default)) (h0:(J0a (f.getD i []) a p (f.getD i []).length).2=0):
 ampI (14+e*3) (J0a (f.getD i []) a p (f.getD i []).length).1:=by
 have hfl:=hf.1
 have hlen:(f.getD i []).length≤3:=by
  have e:f.getD i []=f[i]'(by omega):=by simp [List.getD_eq_getElem?_getD,(by omega:i<f.length)]
  rw [e];exact(hf.2 _ (List.getElem_mem _)).2.1
 refine(V1y (g:=11+e*3) _ (fun j hj c=> ?_) h0).up (by omega)
 obtain⟨a1,a2,a3,a4,a5,a6⟩:=hf.at (by omega:i<f.length) hj
 have hs:=Q3q a2 a3 (i:=a.length) (by omega)
 have hm:=q1s (c:=11) (e:=e) (p:=p) ((W2z a6).up (by omega)) a2 a.length (by omega) (fun j hj=>ha j (by omega)) c
 refine hm.up ?_
 have:e*(sumK ((f.getD i []).getD j default).ks a.length:Int)≤e*3:=Int.mul_le_mul_of_nonneg_left hs he
 omega
theorem X3s {L U:Nat} {a b:Ivl} (ha:luI L U a) (hb:luI L U b):luI L U ⟨X0e a.lo b.lo,X0d a.hi b.hi⟩∧subI a ⟨X0e a.lo b.lo,X0d a.hi b.hi⟩∧subI b ⟨X0e a.lo b.lo,X0d a.hi b.hi⟩:=by
 have hr:Q0l (⟨X0e a.lo b.lo,X0d a.hi b.hi⟩:Ivl)=true:=by
  have:=k1h ha.1 hb.1
  rw [Q1r ha.1 hb.1] at this;exact this
 obtain⟨q1,q2,q3⟩:=Y2j a.lo b.lo
 obtain⟨g1,g2,g3⟩:=Y2y a.hi b.hi
 refine⟨⟨hr,?_,?_⟩,⟨q2,g2⟩,⟨q3,g3⟩⟩
 · rcases q1 with q1 | q1
   · show luQ L U (qN (X0e a.lo b.lo));rw [q1];exact ha.2.1
   · show luQ L U (qN (X0e a.lo b.lo));rw [q1];exact hb.2.1
 · rcases g1 with g1 | g1
   · show luQ L U (qN (X0d a.hi b.hi));rw [g1];exact ha.2.2
   · show luQ L U (qN (X0d a.hi b.hi));rw [g1];exact hb.2.2
theorem j2d {e:Int} {a b:Ivl} (ha:ampI e a) (hb:ampI e b):ampI e ⟨X0e a.lo b.lo,X0d a.hi b.hi⟩:=by
 obtain⟨q1,q2,q3⟩:=Y2j a.lo b.lo
 obtain⟨g1,g2,g3⟩:=Y2y a.hi b.hi
 refine⟨?_,?_⟩
 · rcases q1 with q1 | q1
   · show magQ e (qN (X0e a.lo b.lo));rw [q1];exact ha.1
   · show magQ e (qN (X0e a.lo b.lo));rw [q1];exact hb.1
 · rcases g1 with g1 | g1
   · show magQ e (qN (X0d a.hi b.hi));rw [g1];exact ha.2
   · show magQ e (qN (X0d a.hi b.hi));rw [g1];exact hb.2
def z0d :Nm:=⟨false, -60,[1]⟩
theorem k1j :qN z0d=p2 (-60):=by rw [q1r];rfl
theorem J1e :Q0f z0d=true:=by decide
theorem z1f :0<qN z0d:=by rw [k1j];exact y0v _
theorem j2i :luI 60 0 ⟨default,z0d⟩:=⟨V1e J1e z1f,by show luQ 60 0 (qN default);rw [G0o];exact H0u _ _,by show luQ 60 0 (qN z0d);rw [k1j];exact⟨1,q1r _,by decide⟩⟩
theorem Y2w :ampI (-60) ⟨default,z0d⟩:=⟨by show magQ _ (qN default);rw [G0o];exact X1z _,by show magQ _ (qN z0d);rw [k1j];have:=y0v (-60);exact⟨by grind,Rat.le_refl⟩⟩
theorem q1y {n:Nat} {f:List (List Mn)} {x a:List Ivl} {p:Int} {L U:Nat} {e:Int} (hf:okFieldT n 3 3 f) (hn1:1≤n) (hn4:n≤4) (hx:x.length=n) (hxl: ∀j,j<n→luI 6 9 (x.getD j default)) (ha:a.length=n) (hal: ∀j,j<n→luI L U (a.getD j default)) (hL:6≤L) (hU:9≤U)
 (hp:Z0q p=true) (hbd:400+8*L+8*U≤4096) (he:0≤e) (he2:14+e*3≤52) (ham: ∀j,j<n→ampI e (a.getD j default)):
 NextOK f x a z0d p∧ ∀j,j<n→luI (72+L*8) (50+U*8) ((U0c f x a z0d p).1.getD j default)∧ampI (-8) (opI 2 ⟨default,z0d⟩ (J0a (f.getD j []) a p (f.getD j []).length).1 p).1:=by
 have hfl:=hf.1
 obtain⟨r1,r2,r3⟩:=U1h (L:=L) (U:=U) hf.ok (by omega) ha hn1 hn4 (fun j hj=>hal j (by omega)) hp (by omega)
 have ht: ∀j,j<n→_:=fun j hj=>W2l j2i (r3 j hj).2.2 hp (by omega)
 have hs: ∀j,j<n→_:=fun j hj=>W2m (k:=0) (by omega) ((hxl j hj).mono (L':=60+(12+L*8)) (U':=0+(26+3+U*8+2*3)+1) (by omega) (by omega)) (ht j hj).2 hp (by omega)
 have hrx:rightB x=true:=K0a (fun j hj=>(hxl j (by omega)).1) (by omega) (by omega)
 have hra:rightB a=true:=K0a (fun j hj=>(hal j (by omega)).1) (by omega) (by omega)
 have N:NextOK f x a z0d p:=x2e (hf.ok.right hn1 hn4) hrx hra (by omega) (by omega) J1e z1f hp r1 (fun j hj=>(ht j (by omega)).1) (fun j hj=>(hs j (by omega)).1)
 refine⟨N,fun j hj=> ?_⟩
 have A:=N.at (j:=j) (by omega)
 refine⟨by rw [A.val];exact(hs j hj).2.mono (by omega) (by omega),?_⟩
 have m:=Z2l he hf ha hj ham (r3 j hj).2.1
 exact(w1p (ht j hj).1 Y2w m).up (by omega)
theorem W4a {n:Nat} {f:List (List Mn)} {x:List Ivl} {p:Int} (hf:okFieldT n 3 3 f) (hn1:1≤n) (hn4:n≤4) (hx:x.length=n) (hxl: ∀j,j<n→luI 6 9 (x.getD j default)) (hw: ∀j,j<n→qN (x.getD j default).lo+p2 (-6)≤qN (x.getD j default).hi) (hp:Z0q p=true):
 (boxP f x z0d p).2=true:=by
 have pp:=V0c hp
 obtain⟨N0,H0⟩:=q1y (e:=9) hf hn1 hn4 hx hxl hx hxl (by omega) (by omega) hp (by omega) (by omega) (by omega) (fun j hj=>k1f (hxl j hj))
 have hfl:=hf.1
 have hb0l:(U0c f x x z0d p).1.length=n:=by rw [N0.len,hfl]
 have b0m: ∀j,j<n→ampI 10 ((U0c f x x z0d p).1.getD j default):=fun j hj=>by
  have A:=N0.at (j:=j) (by omega)
  rw [A.val]
  exact w1q (e:=9) A.s0 (k1f (hxl j hj)) ((H0 j hj).2.up (by omega))
 obtain⟨u1,u2,u3⟩:=Y2v N0.rx N0.rightB (by omega)
 have b0lu: ∀j,j<n→luI 120 122 ((U0c f x x z0d p).1.getD j default):=fun j hj=>(H0 j hj).1
 have hB:=N0.rightB
 generalize hb0:(U0c f x x z0d p).1=b0 at*
 have hd: ∀j,j<n→luI 120 122 ((q0h x b0).1.getD j default)∧subI (x.getD j default) ((q0h x b0).1.getD j default)∧ampI 10 ((q0h x b0).1.getD j default):=fun j hj=>by
  rw [u3 j (by omega)]
  obtain⟨h1,h2,_⟩:=X3s ((hxl j hj).mono (L':=120) (U':=122) (by omega) (by omega)) (b0lu j hj)
  exact⟨h1,h2,j2d ((k1f (hxl j hj)).up (by omega)) (b0m j hj)⟩
 have rd:rightB (q0h x b0).1=true:=K0a (fun j hj=>(hd j (by omega)).1.1) (by omega) (by omega)
 have hbl: ∀j,j<n→_:=fun j hj=>k2r (p:=p) (hd j hj).1 hp (by omega)
 have w0:(k0b (q0h x b0).1 p).2=0:=G2m ⟨rd,hp⟩ fun j hj=>(hbl j (by omega)).1
 obtain⟨_,v1,v2,v3⟩:=G2l w0
 have hwid:K1y x b0 p=k0b (q0h x b0).1 p:=by unfold K1y;rw [if_pos u1]
 generalize hd0:(q0h x b0).1=d at*
 have ha1: ∀j,j<n→(k0b d p).1.getD j default=(G0u (d.getD j default) p).1:=fun j hj=>v3 j (by omega)
 have a1l:(k0b d p).1.length=n:=by omega
 have a1lu: ∀j,j<n→luI 122 126 ((k0b d p).1.getD j default):=fun j hj=>by rw [ha1 j hj];exact(hbl j hj).2
 have a1m: ∀j,j<n→ampI 11 ((k0b d p).1.getD j default):=fun j hj=>by rw [ha1 j hj];exact G2k (hbl j hj).1 (hd j hj).2.2
 obtain⟨N1,H1⟩:=q1y (e:=11) hf hn1 hn4 hx hxl a1l a1lu (by omega) (by omega) hp (by omega) (by omega) (by omega) a1m
 have hin:inB (U0c f x (k0b d p).1 z0d p).1 (k0b d p).1=true:=by
  refine inB_sub.2 ⟨N1.rightB,N1.ra,by rw [N1.len,a1l,hfl],fun j hj=> ?_⟩
  have hj:j<n:=by rw [N1.len] at hj;omega
  have A:=N1.at (j:=j) (by omega)
  obtain⟨e1,e2⟩:=w1r A.s0
  have r:=Q1o A.s0
  obtain⟨s,s1,s2,⟨v,_,v1,v2⟩,⟨u,_,u1,u2⟩,_⟩:=y0h (hbl j hj).1
  have hm:=(H1 j hj).2
  have hsub:=(hd j hj).2.1
  have hww:=hw j hj
  have q64:p2 (-6)=p2 (-8)*4:=by
   have:=v0g (-8) 2
   rw [v2z] at this;exact this
  rw [A.val,ha1 j hj]
  refine⟨?_,?_⟩
  · rw [v2,e1]
    refine Z1p pp ?_
    rw [v1,loV0,K0z,X0g,X0g]
    have:=hm.1.1
    have:=hsub.1
    have:=hsub.2
    grind
  · rw [u2,e2]
    refine K1j pp ?_
    rw [u1,hiV0,K0z,X0g,X0g]
    have:=hm.2.2
    have:=hsub.1
    have:=hsub.2
    grind
 unfold boxP
 rw [Z1i,if_pos (nextP_iff.2 N0),hb0,hwid,if_pos w0,Z1i,if_pos (nextP_iff.2 N1)]
 simp only [Bool.false_eq_true,if_false,if_true,List.nil_append,List.cons_append]
 rw [G2j,if_pos hin]
end Go.Pv
end
