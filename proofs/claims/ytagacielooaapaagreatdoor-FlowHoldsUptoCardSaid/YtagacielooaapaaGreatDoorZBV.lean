/- Parts of the walk: M59, M52, M53, M54. -/
import Derived.Test.YtagacielooaapaaGreatDoorZAR
import Derived.Test.YtagacielooaapaaGreatDoorZBM
import Derived.Test.YtagacielooaapaaGreatDoorZL
import Derived.Test.YtagacielooaapaaGreatDoorZBR
import Derived.Test.YtagacielooaapaaGreatDoorZBN
set_option linter.unusedVariables false
set_option linter.unusedSimpArgs false
section
/-Numbers by powers of two;times. No program in it. -/
namespace Go.Pv
theorem V1b {x:Nm} {k:Nat} (h:(X0b x (-(k:Int))).2=0):Q0i x=true∧qN (X0b x (-(k:Int))).1*p2 k=qN x:=by
 unfold X0b at h⊢
 split at h
 · rename_i hr
   rw [if_pos hr]
   refine⟨hr,?_⟩
   split at h
   · rename_i hw
     rw [if_pos hw]
     have h0:qN x=0:=W2a (by rw [hw];rfl)
     show qN x*p2 k=qN x
     rw [h0,Rat.zero_mul]
   · rename_i hw
     rw [if_neg hw]
     split at h
     · exact absurd h (by decide)
     · rename_i hk
       rw [if_neg hk]
       have hc:canV (⟨x.neg,valW x.w,x.exp+ -(k:Int)⟩:Vl):=by
        rcases X0k hr with h1 | h1
        · exact .inl h1
        · exact absurd ((Y0j hr).1 (show valW x.w=0 from congrArg Vl.m h1)) hw
       rw [(J0g hc h).2]
       unfold qV qN qM
       show((Z0v ⟨x.neg,valW x.w,x.exp+ -(k:Int)⟩:Int):Rat)*p2 (x.exp+ -(k:Int))*p2 k=((mant x:Int):Rat)*p2 x.exp
       rw [Rat.mul_assoc,←x0x]
       congr 2
       omega
 · exact absurd h (by decide)
theorem V2k {x:Nm} {L U k:Nat} (hx:Q0i x=true) (h:luQ L U (qN x)) (hk:k≤1000) (hb:L+U+k+1≤4096):(X0b x (-(k:Int))).2=0∧luQ (L+k) U (qN (X0b x (-(k:Int))).1):=by
 have key: ∀y:Rat,y*p2 k=qN x→luQ (L+k) U y:=fun y hy=>by
  obtain⟨z,h1,h2⟩:=h
  refine⟨z,?_,Nat.le_trans h2 (Nat.pow_le_pow_right (by decide) (by omega))⟩
  have hne:=X4y k
  have e:qM z (-((L+k:Nat):Int))*p2 k=qM z (-(L:Int)):=by
   unfold qM
   rw [Rat.mul_assoc,←x0x]
   congr 2
   omega
  rw [h1,←e] at hy
  have:=congrArg (fun t=>t*(p2 k)⁻¹) hy
  simp only [Rat.mul_assoc,Rat.mul_inv_cancel _ hne,Rat.mul_one] at this
  exact this
 have h0:(X0b x (-(k:Int))).2=0:=by
  unfold X0b
  rw [if_pos hx]
  split
  · rfl
  · rename_i hw
    rw [if_neg (by omega)]
    have hc:canV (⟨x.neg,valW x.w,x.exp+ -(k:Int)⟩:Vl):=by
     rcases X0k hx with h1 | h1
     · exact .inl h1
     · exact absurd ((Y0j hx).1 (show valW x.w=0 from congrArg Vl.m h1)) hw
    refine Y0q hc (key _ ?_) (by omega)
    unfold qV qN qM
    show((Z0v ⟨x.neg,valW x.w,x.exp+ -(k:Int)⟩:Int):Rat)*p2 (x.exp+ -(k:Int))*p2 k=((mant x:Int):Rat)*p2 x.exp
    rw [Rat.mul_assoc,←x0x]
    congr 2
    omega
 exact⟨h0,key _ (V1b h0).2⟩
end Go.Pv
end
section
/-Boxes taken apart and put together;where solutions go. No program in it. -/
namespace Go.Pv
theorem j1f {k:Nat} {a b:List Ivl} {p:Int} (h:(opB k a b p).2=0):(rightB a=true∧rightB b=true∧a.length=b.length∧Z0j p=true)∧(opB k a b p).1.length=a.length∧
 (∀j,j<a.length→(opI k (a.getD j default) (b.getD j default) p).2=0)∧ ∀j,j<a.length→(opB k a b p).1.getD j default=(opI k (a.getD j default) (b.getD j default) p).1:=by
 unfold opB at h⊢
 by_cases c:rightB a=true∧rightB b=true∧a.length=b.length∧Z0j p=true
 · rw [if_pos c,K0f] at h
   rw [if_pos c,K0f]
   exact⟨c,V0e h⟩
 · rw [if_neg c] at h;exact absurd h (by decide)
theorem J3n {k:Nat} {a b:List Ivl} {p:Int} (c:rightB a=true∧rightB b=true∧a.length=b.length∧Z0j p=true) (h: ∀j,j<a.length→(opI k (a.getD j default) (b.getD j default) p).2=0):(opB k a b p).2=0:=by
 unfold opB
 rw [if_pos c,K0f]
 exact G0c _ _ _ fun j _ hj=>h j (by omega)
theorem K1x {x:Ivl} {b:List Ivl} {p:Int} (h:(G0b x b p).2=0):(rightB b=true∧Q0j x=true∧Z0j p=true)∧(G0b x b p).1.length=b.length∧
 (∀j,j<b.length→(opI 2 x (b.getD j default) p).2=0)∧ ∀j,j<b.length→(G0b x b p).1.getD j default=(opI 2 x (b.getD j default) p).1:=by
 unfold G0b at h⊢
 by_cases c:rightB b=true∧Q0j x=true∧Z0j p=true
 · rw [if_pos c,K0f] at h
   rw [if_pos c,K0f]
   exact⟨c,V0e h⟩
 · rw [if_neg c] at h;exact absurd h (by decide)
theorem Z2a {x:Ivl} {b:List Ivl} {p:Int} (c:rightB b=true∧Q0j x=true∧Z0j p=true) (h: ∀j,j<b.length→(opI 2 x (b.getD j default) p).2=0):(G0b x b p).2=0:=by
 unfold G0b
 rw [if_pos c,K0f]
 exact G0c _ _ _ fun j _ hj=>h j (by omega)
theorem q2a {b:List Ivl} {p:Int} (h:(j0z b p).2=0):(rightB b=true∧Z0j p=true)∧(j0z b p).1.length=b.length∧
 (∀j,j<b.length→(G0s (b.getD j default) p).2=0)∧ ∀j,j<b.length→(j0z b p).1.getD j default=(G0s (b.getD j default) p).1:=by
 unfold j0z at h⊢
 by_cases c:rightB b=true∧Z0j p=true
 · rw [if_pos c,K0f] at h
   rw [if_pos c,K0f]
   exact⟨c,V0e h⟩
 · rw [if_neg c] at h;exact absurd h (by decide)
theorem q2b {b:List Ivl} {p:Int} (c:rightB b=true∧Z0j p=true) (h: ∀j,j<b.length→(G0s (b.getD j default) p).2=0):(j0z b p).2=0:=by
 unfold j0z
 rw [if_pos c,K0f]
 exact G0c _ _ _ fun j _ hj=>h j (by omega)
theorem U2x {a b:List Ivl} (ha:rightB a=true) (hb:rightB b=true) (hl:a.length=b.length):(j0o a b).2=0∧(j0o a b).1.length=a.length∧
 ∀j,j<a.length→(j0o a b).1.getD j default=⟨Z0n (a.getD j default).lo (b.getD j default).lo,Z0m (a.getD j default).hi (b.getD j default).hi⟩:=by
 have hI: ∀j,j<a.length→j1u (a.getD j default) (b.getD j default)=(⟨Z0n (a.getD j default).lo (b.getD j default).lo,Z0m (a.getD j default).hi (b.getD j default).hi⟩,0):=fun j hj=>Y1r (G0x ha hj) (G0x hb (by omega))
 unfold j0o
 rw [if_pos ⟨ha,hb,hl⟩,K0f]
 have h0:(tabF (fun j=>j1u (a.getD j default) (b.getD j default)) 0 a.length []).2=0:=G0c _ _ _ fun j _ hj=>by show(j1u (a.getD j default) (b.getD j default)).2=0;rw [hI j (by omega)]
 obtain⟨g1,g2,g3⟩:=V0e h0
 refine⟨h0,g1,fun j hj=> ?_⟩
 rw [g3 j hj]
 show(j1u (a.getD j default) (b.getD j default)).1=_
 rw [hI j hj]
theorem U2j (a b:Nm):(qN (Z0n a b)=qN a∨qN (Z0n a b)=qN b)∧qN (Z0n a b)≤qN a∧qN (Z0n a b)≤qN b:=by
 unfold Z0n
 split
 · rename_i h
   have:=cmpN_lt.1 h
   exact⟨.inr rfl,by grind,Rat.le_refl⟩
 · rename_i h
   have h2: ¬qN b<qN a:=fun e=>h (cmpN_lt.2 e)
   exact⟨.inl rfl,Rat.le_refl,by grind⟩
theorem G2b (a b:Nm):(qN (Z0m a b)=qN a∨qN (Z0m a b)=qN b)∧qN a≤qN (Z0m a b)∧qN b≤qN (Z0m a b):=by
 unfold Z0m
 split
 · rename_i h
   have:=cmpN_gt.1 h
   exact⟨.inr rfl,by grind,Rat.le_refl⟩
 · rename_i h
   have h2: ¬qN a<qN b:=fun e=>h (cmpN_gt.2 e)
   exact⟨.inl rfl,Rat.le_refl,by grind⟩
theorem inB_sub {a b:List Ivl} :inB a b=true↔rightB a=true∧rightB b=true∧a.length=b.length∧ ∀j,j<a.length→subI (a.getD j default) (b.getD j default):=by
 unfold inB allF
 simp only [Bool.and_eq_true,decide_eq_true_eq,List.all_eq_true,List.mem_range]
 constructor
 · rintro⟨⟨ha,hb⟩,hl,hj⟩
   exact⟨ha,hb,hl,fun j h=>(U2w (G0x ha h) (G0x hb (by omega))).1 (hj j h)⟩
 · rintro⟨ha,hb,hl,hj⟩
   exact⟨⟨ha,hb⟩,hl,fun j h=>(U2w (G0x ha h) (G0x hb (by omega))).2 (hj j h)⟩
theorem W1v {h:Nm} (hr:Q0i h=true):(¬sgnN (ownN h)≤0)↔0<qN h:=by
 unfold ownN
 rw [if_pos hr,←V2f];omega
theorem K1y {h:Nm} (hr:Q0i h=true) (h0:0<qN h):Q0j ⟨default,h⟩=true:=V0y x1j hr (cmpN_le.2 (by rw [Y1a];grind))
structure NextOK (f:List (List Mn)) (x a:List Ivl) (h:Nm) (p:Int):Prop where
 rf:W0i f=true
 rx:rightB x=true
 ra:rightB a=true
 lx:x.length=f.length
 la:a.length=f.length
 rh:Q0i h=true
 ph:0<qN h
 pp:Z0j p=true
 e1:(J0i f a p).2=0
 e2:(G0b ⟨default,h⟩ (J0i f a p).1 p).2=0
 e3:(opB 0 x (G0b ⟨default,h⟩ (J0i f a p).1 p).1 p).2=0
theorem nextP_iff {f:List (List Mn)} {x a:List Ivl} {h:Nm} {p:Int} :(Y0o f x a h p).2=0↔NextOK f x a h p:=by
 constructor
 · intro e
   unfold Y0o at e
   split at e
   · rename_i c
     obtain⟨c1,c2,c3,c4,c5,c6,c7,c8⟩:=c
     split at e
     · rename_i d1
       split at e
       · rename_i d2
         exact⟨c1,c2,c3,c4,c5,c6,(W1v c6).1 c7,c8,d1,d2,e⟩
       · rename_i d2;exact absurd e d2
     · rename_i d1;exact absurd e d1
   · exact absurd e (by decide)
 · rintro⟨c1,c2,c3,c4,c5,c6,c7,c8,d1,d2,e⟩
   unfold Y0o
   rw [if_pos ⟨c1,c2,c3,c4,c5,c6,(W1v c6).2 c7,c8⟩,if_pos d1,if_pos d2]
   exact e
theorem NextOK.val {f:List (List Mn)} {x a:List Ivl} {h:Nm} {p:Int} (n:NextOK f x a h p):(Y0o f x a h p).1=(opB 0 x (G0b ⟨default,h⟩ (J0i f a p).1 p).1 p).1:=by
 unfold Y0o
 rw [if_pos ⟨n.rf,n.rx,n.ra,n.lx,n.la,n.rh,(W1v n.rh).2 n.ph,n.pp⟩,if_pos n.e1,if_pos n.e2]
theorem X1d {f:List (List Mn)} {a:List Ivl} {p:Int} (h:(J0i f a p).2=0):(W0i f=true∧a.length=f.length)∧(J0i f a p).1.length=f.length∧ ∀j,j<f.length→(J0i f a p).1.getD j default=(X0v (f.getD j []) a p (f.getD j []).length).1∧(X0v (f.getD j []) a p (f.getD j []).length).2=0:=by
 unfold J0i at h⊢
 by_cases c:W0i f=true∧a.length=f.length
 · rw [if_pos c] at h⊢
   obtain⟨g1,g2,g3⟩:=V0e h
   refine⟨c,g1,fun j hj=> ?_⟩
   have e:=g2 j hj
   rw [g3 j hj]
   show(k0s (f.getD j []) a p).1=_∧_
   replace e:(k0s (f.getD j []) a p).2=0:=e
   unfold k0s at e⊢
   split at e
   · rename_i d;rw [if_pos d];exact⟨rfl,e⟩
   · exact absurd e (by decide)
 · rw [if_neg c] at h;exact absurd h (by decide)
structure NextAt (f:List (List Mn)) (x a:List Ivl) (h:Nm) (p:Int) (j:Nat):Prop where
 r0:(X0v (f.getD j []) a p (f.getD j []).length).2=0
 t0:(opI 2 ⟨default,h⟩ (X0v (f.getD j []) a p (f.getD j []).length).1 p).2=0
 s0:(opI 0 (x.getD j default) (opI 2 ⟨default,h⟩ (X0v (f.getD j []) a p (f.getD j []).length).1 p).1 p).2=0
 val:(Y0o f x a h p).1.getD j default=(opI 0 (x.getD j default) (opI 2 ⟨default,h⟩ (X0v (f.getD j []) a p (f.getD j []).length).1 p).1 p).1
theorem NextOK.len {f:List (List Mn)} {x a:List Ivl} {h:Nm} {p:Int} (n:NextOK f x a h p):(Y0o f x a h p).1.length=f.length:=by
 rw [n.val,(j1f n.e3).2.1,n.lx]
theorem NextOK.at {f:List (List Mn)} {x a:List Ivl} {h:Nm} {p:Int} (n:NextOK f x a h p) {j:Nat} (hj:j<f.length):NextAt f x a h p j:=by
 obtain⟨_,r1,r2⟩:=X1d n.e1
 obtain⟨r3,r4⟩:=r2 j hj
 obtain⟨_,t1,t2,t3⟩:=K1x n.e2
 obtain⟨_,s1,s2,s3⟩:=j1f n.e3
 have t2:=t2 j (by omega)
 have t3:=t3 j (by omega)
 have s2:=s2 j (by rw [n.lx];exact hj)
 have s3:=s3 j (by rw [n.lx];exact hj)
 rw [r3] at t2 t3
 rw [t3] at s2 s3
 exact⟨r4,t2,s2,by rw [n.val];exact s3⟩
theorem X2q {k:Nat} {a b:List Ivl} {p:Int} (h:(opB k a b p).2=0):rightB (opB k a b p).1=true:=by
 obtain⟨c,l,_,v⟩:=j1f h
 have:=w0j c.1
 exact K0w (fun j hj=>by rw [v j (by omega)];exact W0x _ _ _ _) (by omega) (by omega)
theorem NextOK.rightB {f:List (List Mn)} {x a:List Ivl} {h:Nm} {p:Int} (n:NextOK f x a h p):Go.Pv.rightB (Y0o f x a h p).1=true:=by
 rw [n.val];exact X2q n.e3
theorem j2j {f:List (List Mn)} {x a:List Ivl} {h:Nm} {p:Int} (rf:W0i f=true) (rx:rightB x=true) (ra:rightB a=true) (lx:x.length=f.length) (la:a.length=f.length) (rh:Q0i h=true) (ph:0<qN h) (pp:Z0j p=true) (e1:(J0i f a p).2=0)
 (h2: ∀j,j<f.length→(opI 2 ⟨default,h⟩ (X0v (f.getD j []) a p (f.getD j []).length).1 p).2=0)
 (h3: ∀j,j<f.length→(opI 0 (x.getD j default) (opI 2 ⟨default,h⟩ (X0v (f.getD j []) a p (f.getD j []).length).1 p).1 p).2=0):NextOK f x a h p:=by
 obtain⟨_,r1,r2⟩:=X1d e1
 have hx:=w0j rx
 have rr:rightB (J0i f a p).1=true:=K0w (fun j hj=>by
  obtain⟨q1,q2⟩:=r2 j (by omega)
  have:=h2 j (by omega)
  rw [q1];exact(Q1t this).2.1) (by omega) (by omega)
 have e2:(G0b ⟨default,h⟩ (J0i f a p).1 p).2=0:=Z2a ⟨rr,K1y rh ph,pp⟩ fun j hj=>by
  rw [(r2 j (by omega)).1];exact h2 j (by omega)
 obtain⟨_,t1,t2,t3⟩:=K1x e2
 have rt:rightB (G0b ⟨default,h⟩ (J0i f a p).1 p).1=true:=K0w (fun j hj=>by
  rw [t3 j (by omega)];exact W0x _ _ _ _) (by omega) (by omega)
 refine⟨rf,rx,ra,lx,la,rh,ph,pp,e1,e2,J3n ⟨rx,rt,by omega,pp⟩ fun j hj=> ?_⟩
 rw [t3 j (by omega),(r2 j (by omega)).1]
 exact h3 j (by omega)
theorem z0u {a:Ivl} {p:Int} (h:(G0s a p).2=0):(K0j a p).2=0∧(X0b (K0j a p).1 (-2)).2=0∧(Y0m 1 a.lo (X0b (K0j a p).1 (-2)).1 p false).2=0∧(Y0m 0 a.hi (X0b (K0j a p).1 (-2)).1 p true).2=0∧
 (G0s a p).1=⟨(Y0m 1 a.lo (X0b (K0j a p).1 (-2)).1 p false).1,(Y0m 0 a.hi (X0b (K0j a p).1 (-2)).1 p true).1⟩:=by
 unfold G0s at h⊢
 split at h
 · rename_i c;exact absurd h c
 · rename_i c
   split at h
   · rename_i d;exact absurd h d
   · rename_i d
     split at h
     · exact absurd h (by decide)
     · rename_i e
       rw [if_neg c,if_neg d,if_neg e]
       have e1: ¬(Y0m 1 a.lo (X0b (K0j a p).1 (-2)).1 p false).2≠0:=fun q=>e (.inl q)
       have e2: ¬(Y0m 0 a.hi (X0b (K0j a p).1 (-2)).1 p true).2≠0:=fun q=>e (.inr q)
       exact⟨Classical.not_not.1 c,Classical.not_not.1 d,Classical.not_not.1 e1,Classical.not_not.1 e2,rfl⟩
theorem w2o {a:Ivl} {p:Int} (h1:(K0j a p).2=0) (h2:(X0b (K0j a p).1 (-2)).2=0) (h3:(Y0m 1 a.lo (X0b (K0j a p).1 (-2)).1 p false).2=0) (h4:(Y0m 0 a.hi (X0b (K0j a p).1 (-2)).1 p true).2=0):(G0s a p).2=0:=by
 unfold G0s
 rw [if_neg (by rw [h1];decide),if_neg (by rw [h2];decide),if_neg (by rw [h3,h4];decide)]
theorem w0m {k:Nat} {a b:Nm} {p:Int} {up:Bool} (h:(Y0m k a b p up).2=0):Q0i a=true∧Q0i b=true∧Z0j p=true:=by
 unfold Y0m at h
 split at h
 · assumption
 · exact absurd h (by decide)
theorem Z1z {k:Nat} {a b:Nm} {p:Int} {up:Bool} (h:(Y0m k a b p up).2=0):qN (Y0m k a b p up).1=qV (Q0v (exV k (ofN a) (ofN b)) p.toNat up):=by
 have c:=w0m h
 unfold Y0m at h⊢
 rw [if_pos c] at h⊢
 exact(J0g (Q0x (y0n k (X0k c.1) (X0k c.2.1)) _ _) h).2
theorem z0w {a:Ivl} {p:Int} (h:(K0j a p).2=0):Q0j a=true∧Z0j p=true:=by
 unfold K0j at h
 split at h
 · assumption
 · exact absurd h (by decide)
theorem U1l {a:Ivl} {p:Int} (h:(K0j a p).2=0):qN (K0j a p).1=qV (Q0v (H0c (ofN a.hi) (ofN a.lo)) p.toNat true):=by
 have c:=z0w h
 have hc:=canI c.1
 unfold K0j at h⊢
 rw [if_pos c] at h⊢
 exact(J0g (Q0x (U0u hc.2 hc.1) _ _) h).2
end Go.Pv
end
section
/-How great what is reckoned gets:at most a power of two,which rounding does not pass. No program in it. -/
namespace Go.Pv
theorem X2n (e:Int):p2 e=qM 1 e:=by simp [qM]
theorem J3l {a b:Int} (h:a≤b):p2 a≤p2 b:=by
 rw [X2n,X2n,show b=a+((b-a).toNat:Int) from by omega,←V0o,qM_le]
 have:0<(2:Int)^(b-a).toNat:=Int.pow_pos (by decide)
 omega
theorem j1b (a:Int):p2 (a+1)=p2 a*2:=by
 rw [x0x];congr 1
def magQ (e:Int) (x:Rat):Prop:= -(p2 e)≤x∧x≤p2 e
theorem X1u (e:Int):magQ e 0:=by
 have:=X1p e
 exact⟨by grind,by grind⟩
theorem magQ.up {e g:Int} {x:Rat} (h:magQ e x) (he:e≤g):magQ g x:=by
 have:=J3l he
 exact⟨by have:=h.1;grind,by have:=h.2;grind⟩
theorem Q1w {e:Int} {x:Rat} (h:magQ e x):magQ e (-x):=⟨by have:=h.2;grind,by have:=h.1;grind⟩
theorem Q1x {e:Int} {x y:Rat} (h:magQ e x) (g:magQ e y):magQ (e+1) (x+y):=by
 obtain⟨a,b⟩:=h
 obtain⟨c,d⟩:=g
 refine⟨?_,?_⟩
 · rw [j1b];grind
 · rw [j1b];grind
theorem y1g {e g:Int} {x y:Rat} (h:magQ e x) (k:magQ g y):magQ (e+g) (x*y):=by
 obtain⟨a,b⟩:=h
 obtain⟨c,d⟩:=k
 have q1:=X0w (a:=p2 e-x) (b:=p2 g+y) (by grind) (by grind)
 have q2:=X0w (a:=p2 e+x) (b:=p2 g-y) (by grind) (by grind)
 have q3:=X0w (a:=p2 e-x) (b:=p2 g-y) (by grind) (by grind)
 have q4:=X0w (a:=p2 e+x) (b:=p2 g+y) (by grind) (by grind)
 unfold magQ
 rw [x0x]
 exact⟨by grind,by grind⟩
theorem Y1l {e:Int} {x:Rat} (h:magQ e x): ∀k:Nat,magQ (e*k) (powQ x k)
 | 0=>by
  show magQ (e*((0:Nat):Int)) 1
  rw [Int.natCast_zero,Int.mul_zero]
  unfold magQ
  rw [Y1f]
  exact⟨by decide,Rat.le_refl⟩
 | k+1=>by
  show magQ _ (powQ x k*x)
  rw [show e*((k+1:Nat):Int)=e*k+e from by rw [Int.natCast_add,Int.mul_add];omega]
  exact y1g (Y1l h k) h
theorem Y2q {L U:Nat} {x:Rat} (h:luQ L U x):magQ U x:=by
 obtain⟨z,rfl,hz⟩:=h
 have e:p2 (U:Int)=qM (2^(L+U)) (-(L:Int)):=by
  rw [X2n,show(U:Int)= -(L:Int)+((L+U:Nat):Int) from by omega,←V0o,Int.one_mul]
 have hz2:(z.natAbs:Int)≤2^(L+U):=by
  have:((2^(L+U):Nat):Int)=2^(L+U):=by simp
  rw [←this];exact_mod_cast hz
 unfold magQ
 rw [e,←k0v,qM_le,qM_le]
 omega
theorem v2c (p:Nat) (e:Int):Y1x p (-(p2 e)):=⟨-1,e,by rw [X2n,k0v],Nat.one_le_two_pow⟩
theorem U0i {e:Int} {v:Vl} {p:Nat} (hp:1≤p) (h:magQ e (qV v)) (up:Bool):magQ e (qV (Q0v v p up)):=by
 have dn: ∀w:Vl,magQ e (qV w)→magQ e (qV (Q0v w p false)):=fun w hw=>⟨V1d hp (v2c p e) hw.1,Rat.le_trans (V0v w p) hw.2⟩
 cases up with
 | false=>exact dn v h
 | true=>
  rw [x0f]
  refine Q1w (dn _ ?_)
  rw [W0k];exact Q1w h
def ampI (e:Int) (a:Ivl):Prop:=magQ e (qN a.lo)∧magQ e (qN a.hi)
theorem ampI.up {e g:Int} {a:Ivl} (h:ampI e a) (he:e≤g):ampI g a:=⟨h.1.up he,h.2.up he⟩
theorem x0o {e:Int} {a:Ivl} (h:ampI e a) {X:Rat} (hX:memI X a):magQ e X:=⟨Rat.le_trans h.1.1 hX.1,Rat.le_trans hX.2 h.2.2⟩
theorem j1m {L U:Nat} {a:Ivl} (h:luI L U a):ampI U a:=⟨Y2q h.2.1,Y2q h.2.2⟩
theorem W2v {k:Nat} {a b:Ivl} {p:Int} {g:Int} (h:(opI k a b p).2=0) (hx: ∀X U,memI X a→memI U b→magQ g (exQ k X U)):ampI g (opI k a b p).1:=by
 have r:=Q1t h
 obtain⟨e1,e2⟩:=w1u h
 have pp:=K0y r.2.2
 obtain⟨X,U,x1,x2,x3⟩:=J4h k r.1 r.2.1
 obtain⟨Y,V,y1,y2,y3⟩:=J4t k r.1 r.2.1
 refine⟨?_,?_⟩
 · rw [e1];exact U0i pp (by rw [x3];exact hx X U x1 x2) _
 · rw [e2];exact U0i pp (by rw [y3];exact hx Y V y1 y2) _
theorem w1r {a b:Ivl} {p:Int} {e g:Int} (h:(opI 2 a b p).2=0) (ha:ampI e a) (hb:ampI g b):ampI (e+g) (opI 2 a b p).1:=
 W2v h fun X U hX hU=>by rw [exQ2];exact y1g (x0o ha hX) (x0o hb hU)
theorem w1s {a b:Ivl} {p:Int} {e:Int} (h:(opI 0 a b p).2=0) (ha:ampI e a) (hb:ampI e b):ampI (e+1) (opI 0 a b p).1:=
 W2v h fun X U hX hU=>by rw [exQ0];exact Q1x (x0o ha hX) (x0o hb hU)
theorem x2u {a:Ivl} {k p:Int} {e:Int} (h:(powI a k p).2=0) (ha:ampI e a):ampI (e*k.toNat) (powI a k p).1:=by
 have r:=G1x h
 obtain⟨e1,e2⟩:=W2m h
 have pp:=K0y r.2.2.2
 obtain⟨X,x1,x3⟩:=x2t r.1 k.toNat
 obtain⟨Y,y1,y3⟩:=x2w r.1 k.toNat
 refine⟨?_,?_⟩
 · rw [e1];exact U0i pp (by rw [x3];exact Y1l (x0o ha x1) _) _
 · rw [e2];exact U0i pp (by rw [y3];exact Y1l (x0o ha y1) _) _
theorem H1c {m:Mn} {b:List Ivl} {p:Int} {c e:Int} (hc:magQ c (qN m.c)) (hk:J0t m.ks=true): ∀i,i≤m.ks.length→(∀j,j<i→ampI e (b.getD j default))→(W0w m b p i).2=0→ampI (c+e*sumK m.ks i) (W0w m b p i).1
 | 0,_,_,_=>by
  have:sumK m.ks 0=0:=rfl
  rw [this,Int.natCast_zero,Int.mul_zero,Int.add_zero]
  exact⟨hc,hc⟩
 | i+1,hi,hb,h=>by
  have ih:=H1c (e:=e) hc hk i (by omega) (fun j hj=>hb j (by omega)) (V1k h)
  have hs:=K0d hk (i+1) hi
  have hs0:=K0d hk i (by omega)
  have hat:=K0l hk i (by omega)
  have hst:=Y0l m.ks i (by omega)
  have hsum:sumK m.ks (i+1)=sumK m.ks i+(m.ks.getD i 0).toNat:=by unfold sumK;omega
  rcases X2p h with ⟨d,q⟩ | ⟨d,d2,q⟩
  · rw [q,hsum,d];exact ih
  · rw [q] at h⊢
    have:=w1r h ih (x2u d2 (hb i (by omega)))
    rw [hsum,Int.natCast_add,Int.mul_add,←Int.add_assoc]
    exact this
theorem V1h {q:List Mn} {b:List Ivl} {p:Int} {g:Int} : ∀i,(∀j,j<i→(W0w (q.getD j default) b p b.length).2=0→ampI g (W0w (q.getD j default) b p b.length).1)→(X0v q b p i).2=0→ampI (g+i) (X0v q b p i).1
 | 0,_,_=>by
  have e:qN (default:Ivl).lo=0:=J0r 0
  have e2:qN (default:Ivl).hi=0:=J0r 0
  exact⟨by show magQ _ (qN (default:Ivl).lo);rw [e];exact X1u _,by show magQ _ (qN (default:Ivl).hi);rw [e2];exact X1u _⟩
 | i+1,hj,h=>by
  obtain⟨c1,c2,e⟩:=x1o h
  have ih:=V1h i (fun j hjl=>hj j (by omega)) c1
  rw [e] at h⊢
  have:=w1s h ih ((hj i (by omega) c2).up (by omega))
  rw [show g+((i+1:Nat):Int)=g+i+1 from by omega]
  exact this
theorem y0o {a:Ivl} {p:Int} (h:(G0s a p).2=0): ∃s:Rat,qN a.hi-qN a.lo≤s*4∧0≤s∧
 (∃v:Vl,canV v∧qV v=qN a.lo-s∧qN (G0s a p).1.lo=qV (Q0v v p.toNat false))∧(∃v:Vl,canV v∧qV v=qN a.hi+s∧qN (G0s a p).1.hi=qV (Q0v v p.toNat true))∧ ∃w:Vl,canV w∧qV w=qN a.hi-qN a.lo∧s*4=qV (Q0v w p.toNat true):=by
 obtain⟨w0,s0,l0,h0,e⟩:=z0u h
 have hw:=U1l w0
 obtain⟨wn,pp⟩:=z0w w0
 have hs:=(V1b (x:=(K0j a p).1) (k:=2) s0).2
 have hr:=w0m l0
 have hr2:=w0m h0
 rw [show p2 ((2:Nat):Int)=4 from Q3b] at hs
 rw [show -((2:Nat):Int)= -2 from rfl] at hs
 have hge:=W0u (H0c (ofN a.hi) (ofN a.lo)) p.toNat
 rw [←hw,Y0d,Z0s,Z0s] at hge
 have hle:=U0d wn
 rw [Z0s,Z0s] at hle
 have ca:=canI wn
 refine⟨qN (X0b (K0j a p).1 (-2)).1,by rw [hs];exact hge,by grind,⟨exV 1 (ofN a.lo) (ofN (X0b (K0j a p).1 (-2)).1),y0n 1 ca.1 (X0k hr.2.1),by rw [x2e,exQ1,Z0s,Z0s],?_⟩,
  ⟨exV 0 (ofN a.hi) (ofN (X0b (K0j a p).1 (-2)).1),y0n 0 ca.2 (X0k hr.2.1),by rw [x2e,exQ0,Z0s,Z0s],?_⟩,H0c (ofN a.hi) (ofN a.lo),U0u ca.2 ca.1,by rw [Y0d,Z0s,Z0s],by rw [hs,hw]⟩
 · rw [e];exact Z1z l0
 · rw [e];exact Z1z h0
theorem k1y {a:Ivl} {p:Int} (h:(G0s a p).2=0):Q0j (G0s a p).1=true∧subI a (G0s a p).1:=by
 obtain⟨s,h1,h2,⟨v,_,h3,h4⟩,⟨u,_,h5,h6⟩,_⟩:=y0o h
 obtain⟨w0,s0,l0,h0,e⟩:=z0u h
 have wn:=(z0w w0).1
 have q1:=V0v v p.toNat
 have q2:=W0u u p.toNat
 have hle:=U0d wn
 rw [Z0s,Z0s] at hle
 have hs:subI a (G0s a p).1:=⟨by rw [h4];grind,by rw [h6];grind⟩
 refine⟨V0y ?_ ?_ (cmpN_le.2 ?_),hs⟩
 · rw [e];exact X1a _ _ _ _ _
 · rw [e];exact X1a _ _ _ _ _
 · have:=hs.1
   have:=hs.2
   grind
theorem H2z {a:Ivl} {p:Int} {e:Int} (h:(G0s a p).2=0) (ha:ampI e a):ampI (e+1) (G0s a p).1:=by
 have pp:=K0y (z0w (z0u h).1).2
 obtain⟨s,h1,h2,⟨v,_,h3,h4⟩,⟨u,_,h5,h6⟩,w,_,h7,h8⟩:=y0o h
 have m1:magQ (e+1) (s*4):=by
  rw [h8]
  refine U0i pp ?_ _
  rw [h7,Rat.sub_eq_add_neg]
  exact Q1x ha.2 (Q1w ha.1)
 have m2:magQ e s:=by
  have:=m1.2
  have:=m1.1
  have e2:=j1b e
  have:=X1p e
  exact⟨by grind,by grind⟩
 refine⟨?_,?_⟩
 · rw [h4]
   refine U0i pp ?_ _
   rw [h3,Rat.sub_eq_add_neg];exact Q1x ha.1 (Q1w m2)
 · rw [h6]
   refine U0i pp ?_ _
   rw [h5];exact Q1x ha.2 m2
theorem v1y {k L U:Nat} {x y:Nm} {p:Int} (hk:k<2) (hx:Q0i x=true) (hy:Q0i y=true) (h1:luQ L U (qN x)) (h2:luQ L U (qN y)) (hp:Z0j p=true) (up:Bool) (hb:L+U+3≤4096):(Y0m k x y p up).2=0∧luQ L (U+2) (qN (Y0m k x y p up).1):=by
 have hc:canV (exV k (ofN x) (ofN y)):=y0n k (X0k hx) (X0k hy)
 have hq:qV (exV k (ofN x) (ofN y))=exQ k (qN x) (qN y):=by rw [x2e];rfl
 have hl:luQ L (U+1) (qV (exV k (ofN x) (ofN y))):=by
  rw [hq]
  unfold exQ
  split
  · exact q0d h1 h2
  · rw [if_pos (by omega)];exact X1v h1 h2
 have hr:=V0a hc hl p.toNat (K0y hp) up
 have hf:(Y0m k x y p up).2=0:=by
  unfold Y0m
  rw [if_pos ⟨hx,hy,hp⟩]
  exact Y0q (Q0x hc _ _) hr (by omega)
 exact⟨hf,by rw [Z1z hf];exact hr⟩
theorem w2p {L U:Nat} {a:Ivl} {p:Int} (ha:luI L U a) (hp:Z0j p=true) (hb:L+U+8≤4096):(G0s a p).2=0∧luI (L+2) (U+4) (G0s a p).1:=by
 have ca:=canI ha.1
 have rr:=Q0w ha.1
 have hl:luQ L (U+1) (qV (H0c (ofN a.hi) (ofN a.lo))):=by rw [Y0d,Z0s,Z0s];exact X1v ha.2.2 ha.2.1
 have cl:=U0u ca.2 ca.1
 have hr:=V0a cl hl p.toNat (K0y hp) true
 have w0:(K0j a p).2=0:=by
  unfold K0j
  rw [if_pos ⟨ha.1,hp⟩]
  exact Y0q (Q0x cl _ _) hr (by omega)
 rw [←U1l w0] at hr
 obtain⟨s0,s1⟩:=V2k (k:=2) (z1t a p) hr (by omega) (by omega)
 rw [show -((2:Nat):Int)= -2 from rfl] at s0 s1
 have sr:=G1b (K0j a p).1 (-2)
 obtain⟨l0,l1⟩:=v1y (k:=1) (by omega) rr.1 sr (ha.2.1.mono (L':=L+2) (U':=U+2) (by omega) (by omega)) s1 hp false (by omega)
 obtain⟨h0,h1⟩:=v1y (k:=0) (by omega) rr.2.1 sr (ha.2.2.mono (L':=L+2) (U':=U+2) (by omega) (by omega)) s1 hp true (by omega)
 have hb0:=w2o w0 s0 l0 h0
 refine⟨hb0,(k1y hb0).1,?_,?_⟩
 · rw [(z0u hb0).2.2.2.2];exact l1
 · rw [(z0u hb0).2.2.2.2];exact h1
end Go.Pv
end
section
/-For a short time a box is found. No program in it. -/
namespace Go.Pv
def J3q (n M:Nat) (D:Int) (p:List Mn):Prop:=J0z p n=true∧p.length≤M∧ ∀m∈p,okMn n 6 (8+M) D m
def okFieldT (n M:Nat) (D:Int) (f:List (List Mn)):Prop:=f.length=n∧ ∀p∈f,J3q n M D p
theorem okFieldT.ok {n M:Nat} {D:Int} {f:List (List Mn)} (h:okFieldT n M D f):okField n M D f:=⟨h.1,fun p hp=>⟨(h.2 p hp).1,(h.2 p hp).2.1,fun m hm=>by
 obtain⟨a1,a2,a3,a4,a5,a6⟩:=(h.2 p hp).2.2 m hm
 exact⟨a1,a2,a3,a4,a5,a6.mono (by omega) (by omega)⟩⟩⟩
theorem okFieldT.at {n M:Nat} {D:Int} {f:List (List Mn)} (h:okFieldT n M D f) {i j:Nat} (hi:i<f.length) (hj:j<(f.getD i []).length):okMn n 6 (8+M) D ((f.getD i []).getD j default):=by
 have e:f.getD i []=f[i]:=by simp [List.getD_eq_getElem?_getD,hi]
 rw [e] at hj⊢
 exact z0l (h.2 _ (List.getElem_mem hi)).2.2 hj
theorem x1d {ks:List Int} {D:Int} (hr:J0t ks=true) (h:ks.sum≤D) {i:Nat} (hi:i≤ks.length):(sumK ks i:Int)≤D:=by
 have h0:=K0d hr i hi
 have h1:(ks.take i).sum≤ks.sum:=by
  have hk:=((J0p ks).1 hr).1
  have: ∀(l:List Int) (n:Nat),(∀j,j<l.length→0≤l.getD j 0)→(l.take n).sum≤l.sum:=by
   intro l
   induction l with
   | nil=>intro n _;simp
   | cons x l ih=>
    intro n hp
    have hx:0≤x:=hp 0 (by simp)
    have hp': ∀j,j<l.length→0≤l.getD j 0:=fun j hj=>by have:=hp (j+1) (by simpa using hj);simpa using this
    cases n with
    | zero=>
     have:=ih 0 hp'
     simp at this⊢;omega
    | succ n=>
     have:=ih n hp'
     simp;omega
  exact this ks i hk
 unfold sumK;omega
theorem X2b {n:Nat} {f:List (List Mn)} {a:List Ivl} {p:Int} {e:Int} (he:0≤e) (hf:okFieldT n 3 3 f) (hl:a.length=n) {i:Nat} (hi:i<n) (ha: ∀j,j<n→ampI e (a.getD j default)) (h0:(X0v (f.getD i []) a p (f.getD i []).length).2=0):
 ampI (14+e*3) (X0v (f.getD i []) a p (f.getD i []).length).1:=by
 have hfl:=hf.1
 have hlen:(f.getD i []).length≤3:=by
  have e:f.getD i []=f[i]'(by omega):=by simp [List.getD_eq_getElem?_getD,(by omega:i<f.length)]
  rw [e];exact(hf.2 _ (List.getElem_mem _)).2.1
 refine(V1h (g:=11+e*3) _ (fun j hj c=> ?_) h0).up (by omega)
 obtain⟨a1,a2,a3,a4,a5,a6⟩:=hf.at (by omega:i<f.length) hj
 have hs:=x1d a2 a3 (i:=a.length) (by omega)
 have hm:=H1c (c:=11) (e:=e) (p:=p) ((Y2q a6).up (by omega)) a2 a.length (by omega) (fun j hj=>ha j (by omega)) c
 refine hm.up ?_
 have:e*(sumK ((f.getD i []).getD j default).ks a.length:Int)≤e*3:=Int.mul_le_mul_of_nonneg_left hs he
 omega
theorem K3s {L U:Nat} {a b:Ivl} (ha:luI L U a) (hb:luI L U b):luI L U ⟨Z0n a.lo b.lo,Z0m a.hi b.hi⟩∧subI a ⟨Z0n a.lo b.lo,Z0m a.hi b.hi⟩∧subI b ⟨Z0n a.lo b.lo,Z0m a.hi b.hi⟩:=by
 have hr:Q0j (⟨Z0n a.lo b.lo,Z0m a.hi b.hi⟩:Ivl)=true:=by
  have:=j1t ha.1 hb.1
  rw [Y1r ha.1 hb.1] at this;exact this
 obtain⟨q1,q2,q3⟩:=U2j a.lo b.lo
 obtain⟨g1,g2,g3⟩:=G2b a.hi b.hi
 refine⟨⟨hr,?_,?_⟩,⟨q2,g2⟩,⟨q3,g3⟩⟩
 · rcases q1 with q1 | q1
   · show luQ L U (qN (Z0n a.lo b.lo));rw [q1];exact ha.2.1
   · show luQ L U (qN (Z0n a.lo b.lo));rw [q1];exact hb.2.1
 · rcases g1 with g1 | g1
   · show luQ L U (qN (Z0m a.hi b.hi));rw [g1];exact ha.2.2
   · show luQ L U (qN (Z0m a.hi b.hi));rw [g1];exact hb.2.2
theorem k2s {e:Int} {a b:Ivl} (ha:ampI e a) (hb:ampI e b):ampI e ⟨Z0n a.lo b.lo,Z0m a.hi b.hi⟩:=by
 obtain⟨q1,q2,q3⟩:=U2j a.lo b.lo
 obtain⟨g1,g2,g3⟩:=G2b a.hi b.hi
 refine⟨?_,?_⟩
 · rcases q1 with q1 | q1
   · show magQ e (qN (Z0n a.lo b.lo));rw [q1];exact ha.1
   · show magQ e (qN (Z0n a.lo b.lo));rw [q1];exact hb.1
 · rcases g1 with g1 | g1
   · show magQ e (qN (Z0m a.hi b.hi));rw [g1];exact ha.2
   · show magQ e (qN (Z0m a.hi b.hi));rw [g1];exact hb.2
def z0j :Nm:=⟨false, -60,[1]⟩
theorem j1w :qN z0j=p2 (-60):=by rw [X2n];rfl
theorem J1c :Q0i z0j=true:=by decide
theorem H1u :0<qN z0j:=by rw [j1w];exact X1p _
theorem k2x :luI 60 0 ⟨default,z0j⟩:=⟨K1y J1c H1u,by show luQ 60 0 (qN default);rw [Y1a];exact W0p _ _,by show luQ 60 0 (qN z0j);rw [j1w];exact⟨1,X2n _,by decide⟩⟩
theorem U2z :ampI (-60) ⟨default,z0j⟩:=⟨by show magQ _ (qN default);rw [Y1a];exact X1u _,by show magQ _ (qN z0j);rw [j1w];have:=X1p (-60);exact⟨by grind,Rat.le_refl⟩⟩
theorem H1k {n:Nat} {f:List (List Mn)} {x a:List Ivl} {p:Int} {L U:Nat} {e:Int} (hf:okFieldT n 3 3 f) (hn1:1≤n) (hn4:n≤4) (hx:x.length=n) (hxl: ∀j,j<n→luI 6 9 (x.getD j default)) (ha:a.length=n) (hal: ∀j,j<n→luI L U (a.getD j default)) (hL:6≤L) (hU:9≤U)
 (hp:Z0j p=true) (hbd:400+8*L+8*U≤4096) (he:0≤e) (he2:14+e*3≤52) (ham: ∀j,j<n→ampI e (a.getD j default)):
 NextOK f x a z0j p∧ ∀j,j<n→luI (72+L*8) (50+U*8) ((Y0o f x a z0j p).1.getD j default)∧ampI (-8) (opI 2 ⟨default,z0j⟩ (X0v (f.getD j []) a p (f.getD j []).length).1 p).1:=by
 have hfl:=hf.1
 obtain⟨r1,r2,r3⟩:=W1y (L:=L) (U:=U) hf.ok (by omega) ha hn1 hn4 (fun j hj=>hal j (by omega)) hp (by omega)
 have ht: ∀j,j<n→_:=fun j hj=>j1e k2x (r3 j hj).2.2 hp (by omega)
 have hs: ∀j,j<n→_:=fun j hj=>w1t (k:=0) (by omega) ((hxl j hj).mono (L':=60+(12+L*8)) (U':=0+(26+3+U*8+2*3)+1) (by omega) (by omega)) (ht j hj).2 hp (by omega)
 have hrx:rightB x=true:=K0w (fun j hj=>(hxl j (by omega)).1) (by omega) (by omega)
 have hra:rightB a=true:=K0w (fun j hj=>(hal j (by omega)).1) (by omega) (by omega)
 have N:NextOK f x a z0j p:=j2j (hf.ok.right hn1 hn4) hrx hra (by omega) (by omega) J1c H1u hp r1 (fun j hj=>(ht j (by omega)).1) (fun j hj=>(hs j (by omega)).1)
 refine⟨N,fun j hj=> ?_⟩
 have A:=N.at (j:=j) (by omega)
 refine⟨by rw [A.val];exact(hs j hj).2.mono (by omega) (by omega),?_⟩
 have m:=X2b he hf ha hj ham (r3 j hj).2.1
 exact(w1r (ht j hj).1 U2z m).up (by omega)
theorem U4s {n:Nat} {f:List (List Mn)} {x:List Ivl} {p:Int} (hf:okFieldT n 3 3 f) (hn1:1≤n) (hn4:n≤4) (hx:x.length=n) (hxl: ∀j,j<n→luI 6 9 (x.getD j default)) (hw: ∀j,j<n→qN (x.getD j default).lo+p2 (-6)≤qN (x.getD j default).hi) (hp:Z0j p=true):
 (boxP f x z0j p).2=true:=by
 have pp:=K0y hp
 obtain⟨N0,H0⟩:=H1k (e:=9) hf hn1 hn4 hx hxl hx hxl (by omega) (by omega) hp (by omega) (by omega) (by omega) (fun j hj=>j1m (hxl j hj))
 have hfl:=hf.1
 have hb0l:(Y0o f x x z0j p).1.length=n:=by rw [N0.len,hfl]
 have b0m: ∀j,j<n→ampI 10 ((Y0o f x x z0j p).1.getD j default):=fun j hj=>by
  have A:=N0.at (j:=j) (by omega)
  rw [A.val]
  exact w1s (e:=9) A.s0 (j1m (hxl j hj)) ((H0 j hj).2.up (by omega))
 obtain⟨u1,u2,u3⟩:=U2x N0.rx N0.rightB (by omega)
 have b0lu: ∀j,j<n→luI 120 122 ((Y0o f x x z0j p).1.getD j default):=fun j hj=>(H0 j hj).1
 have hB:=N0.rightB
 generalize hb0:(Y0o f x x z0j p).1=b0 at*
 have hd: ∀j,j<n→luI 120 122 ((j0o x b0).1.getD j default)∧subI (x.getD j default) ((j0o x b0).1.getD j default)∧ampI 10 ((j0o x b0).1.getD j default):=fun j hj=>by
  rw [u3 j (by omega)]
  obtain⟨h1,h2,_⟩:=K3s ((hxl j hj).mono (L':=120) (U':=122) (by omega) (by omega)) (b0lu j hj)
  exact⟨h1,h2,k2s ((j1m (hxl j hj)).up (by omega)) (b0m j hj)⟩
 have rd:rightB (j0o x b0).1=true:=K0w (fun j hj=>(hd j (by omega)).1.1) (by omega) (by omega)
 have hbl: ∀j,j<n→_:=fun j hj=>w2p (p:=p) (hd j hj).1 hp (by omega)
 have w0:(j0z (j0o x b0).1 p).2=0:=q2b ⟨rd,hp⟩ fun j hj=>(hbl j (by omega)).1
 obtain⟨_,v1,v2,v3⟩:=q2a w0
 have hwid:K1p x b0 p=j0z (j0o x b0).1 p:=by unfold K1p;rw [if_pos u1]
 generalize hd0:(j0o x b0).1=d at*
 have ha1: ∀j,j<n→(j0z d p).1.getD j default=(G0s (d.getD j default) p).1:=fun j hj=>v3 j (by omega)
 have a1l:(j0z d p).1.length=n:=by omega
 have a1lu: ∀j,j<n→luI 122 126 ((j0z d p).1.getD j default):=fun j hj=>by rw [ha1 j hj];exact(hbl j hj).2
 have a1m: ∀j,j<n→ampI 11 ((j0z d p).1.getD j default):=fun j hj=>by rw [ha1 j hj];exact H2z (hbl j hj).1 (hd j hj).2.2
 obtain⟨N1,H1⟩:=H1k (e:=11) hf hn1 hn4 hx hxl a1l a1lu (by omega) (by omega) hp (by omega) (by omega) (by omega) a1m
 have hin:inB (Y0o f x (j0z d p).1 z0j p).1 (j0z d p).1=true:=by
  refine inB_sub.2 ⟨N1.rightB,N1.ra,by rw [N1.len,a1l,hfl],fun j hj=> ?_⟩
  have hj:j<n:=by rw [N1.len] at hj;omega
  have A:=N1.at (j:=j) (by omega)
  obtain⟨e1,e2⟩:=w1u A.s0
  have r:=Q1t A.s0
  obtain⟨s,s1,s2,⟨v,_,v1,v2⟩,⟨u,_,u1,u2⟩,_⟩:=y0o (hbl j hj).1
  have hm:=(H1 j hj).2
  have hsub:=(hd j hj).2.1
  have hww:=hw j hj
  have q64:p2 (-6)=p2 (-8)*4:=by
   have:=x0x (-8) 2
   rw [Q3b] at this;exact this
  rw [A.val,ha1 j hj]
  refine⟨?_,?_⟩
  · rw [v2,e1]
    refine Z1v pp ?_
    rw [v1,loV0,K0u,Z0s,Z0s]
    have:=hm.1.1
    have:=hsub.1
    have:=hsub.2
    grind
  · rw [u2,e2]
    refine K1i pp ?_
    rw [u1,hiV0,K0u,Z0s,Z0s]
    have:=hm.2.2
    have:=hsub.1
    have:=hsub.2
    grind
 unfold boxP
 rw [Z1l,if_pos (nextP_iff.2 N0),hb0,hwid,if_pos w0,Z1l,if_pos (nextP_iff.2 N1)]
 simp only [Bool.false_eq_true,if_false,if_true,List.nil_append,List.cons_append]
 rw [H2y,if_pos hin]
end Go.Pv
end
