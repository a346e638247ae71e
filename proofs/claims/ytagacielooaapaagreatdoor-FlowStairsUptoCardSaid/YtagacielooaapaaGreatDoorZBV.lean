/- Parts of the walk: M59, M52, M53, M54. -/
import Derived.Test.YtagacielooaapaaGreatDoorZAR
import Derived.Test.YtagacielooaapaaGreatDoorZBM
import Derived.Test.YtagacielooaapaaGreatDoorZL
import Derived.Test.YtagacielooaapaaGreatDoorZBR
import Derived.Test.YtagacielooaapaaGreatDoorZBN
set_option linter.unusedVariables false
set_option linter.unusedSimpArgs false
section
/-Numbers by powers of two;times. No program in it. -/
namespace Go.Pv
theorem V1l {x:Nm} {k:Nat} (h:(X0e x (-(k:Int))).2=0):Q0i x=true∧qN (X0e x (-(k:Int))).1*p2 k=qN x:=by
 unfold X0e at h⊢
 split at h
 · rename_i hr
   rw [if_pos hr]
   refine⟨hr,?_⟩
   split at h
   · rename_i hw
     rw [if_pos hw]
     have h0:qN x=0:=Y2i (by rw [hw];rfl)
     show qN x*p2 k=qN x
     rw [h0,Rat.zero_mul]
   · rename_i hw
     rw [if_neg hw]
     split at h
     · exact absurd h (by decide)
     · rename_i hk
       rw [if_neg hk]
       have hc:canV (⟨x.neg,valW x.w,x.exp+ -(k:Int)⟩:Vl):=by
        rcases X0m hr with h1 | h1
        · exact .inl h1
        · exact absurd ((Y0m hr).1 (show valW x.w=0 from congrArg Vl.m h1)) hw
       rw [(J0g hc h).2]
       unfold qV qN qM
       show((Z0w ⟨x.neg,valW x.w,x.exp+ -(k:Int)⟩:Int):Rat)*p2 (x.exp+ -(k:Int))*p2 k=((mant x:Int):Rat)*p2 x.exp
       rw [Rat.mul_assoc,←j0g]
       congr 2
       omega
 · exact absurd h (by decide)
theorem W2s {x:Nm} {L U k:Nat} (hx:Q0i x=true) (h:luQ L U (qN x)) (hk:k≤1000) (hb:L+U+k+1≤4096):(X0e x (-(k:Int))).2=0∧luQ (L+k) U (qN (X0e x (-(k:Int))).1):=by
 have key: ∀y:Rat,y*p2 k=qN x→luQ (L+k) U y:=fun y hy=>by
  obtain⟨z,h1,h2⟩:=h
  refine⟨z,?_,Nat.le_trans h2 (Nat.pow_le_pow_right (by decide) (by omega))⟩
  have hne:=K4y k
  have e:qM z (-((L+k:Nat):Int))*p2 k=qM z (-(L:Int)):=by
   unfold qM
   rw [Rat.mul_assoc,←j0g]
   congr 2
   omega
  rw [h1,←e] at hy
  have:=congrArg (fun t=>t*(p2 k)⁻¹) hy
  simp only [Rat.mul_assoc,Rat.mul_inv_cancel _ hne,Rat.mul_one] at this
  exact this
 have h0:(X0e x (-(k:Int))).2=0:=by
  unfold X0e
  rw [if_pos hx]
  split
  · rfl
  · rename_i hw
    rw [if_neg (by omega)]
    have hc:canV (⟨x.neg,valW x.w,x.exp+ -(k:Int)⟩:Vl):=by
     rcases X0m hx with h1 | h1
     · exact .inl h1
     · exact absurd ((Y0m hx).1 (show valW x.w=0 from congrArg Vl.m h1)) hw
    refine Y0v hc (key _ ?_) (by omega)
    unfold qV qN qM
    show((Z0w ⟨x.neg,valW x.w,x.exp+ -(k:Int)⟩:Int):Rat)*p2 (x.exp+ -(k:Int))*p2 k=((mant x:Int):Rat)*p2 x.exp
    rw [Rat.mul_assoc,←j0g]
    congr 2
    omega
 exact⟨h0,key _ (V1l h0).2⟩
end Go.Pv
end
section
/-Boxes taken apart and put together;where solutions go. No program in it. -/
namespace Go.Pv
theorem k1e {k:Nat} {a b:List Ivl} {p:Int} (h:(opB k a b p).2=0):(rightB a=true∧rightB b=true∧a.length=b.length∧Z0h p=true)∧(opB k a b p).1.length=a.length∧
 (∀j,j<a.length→(opI k (a.getD j default) (b.getD j default) p).2=0)∧ ∀j,j<a.length→(opB k a b p).1.getD j default=(opI k (a.getD j default) (b.getD j default) p).1:=by
 unfold opB at h⊢
 by_cases c:rightB a=true∧rightB b=true∧a.length=b.length∧Z0h p=true
 · rw [if_pos c,K0g] at h
   rw [if_pos c,K0g]
   exact⟨c,K0v h⟩
 · rw [if_neg c] at h;exact absurd h (by decide)
theorem V3f {k:Nat} {a b:List Ivl} {p:Int} (c:rightB a=true∧rightB b=true∧a.length=b.length∧Z0h p=true) (h: ∀j,j<a.length→(opI k (a.getD j default) (b.getD j default) p).2=0):(opB k a b p).2=0:=by
 unfold opB
 rw [if_pos c,K0g]
 exact Y0o _ _ _ fun j _ hj=>h j (by omega)
theorem V1g {x:Ivl} {b:List Ivl} {p:Int} (h:(G0h x b p).2=0):(rightB b=true∧Q0j x=true∧Z0h p=true)∧(G0h x b p).1.length=b.length∧
 (∀j,j<b.length→(opI 2 x (b.getD j default) p).2=0)∧ ∀j,j<b.length→(G0h x b p).1.getD j default=(opI 2 x (b.getD j default) p).1:=by
 unfold G0h at h⊢
 by_cases c:rightB b=true∧Q0j x=true∧Z0h p=true
 · rw [if_pos c,K0g] at h
   rw [if_pos c,K0g]
   exact⟨c,K0v h⟩
 · rw [if_neg c] at h;exact absurd h (by decide)
theorem Z2z {x:Ivl} {b:List Ivl} {p:Int} (c:rightB b=true∧Q0j x=true∧Z0h p=true) (h: ∀j,j<b.length→(opI 2 x (b.getD j default) p).2=0):(G0h x b p).2=0:=by
 unfold G0h
 rw [if_pos c,K0g]
 exact Y0o _ _ _ fun j _ hj=>h j (by omega)
theorem z2k {b:List Ivl} {p:Int} (h:(k0k b p).2=0):(rightB b=true∧Z0h p=true)∧(k0k b p).1.length=b.length∧
 (∀j,j<b.length→(G0z (b.getD j default) p).2=0)∧ ∀j,j<b.length→(k0k b p).1.getD j default=(G0z (b.getD j default) p).1:=by
 unfold k0k at h⊢
 by_cases c:rightB b=true∧Z0h p=true
 · rw [if_pos c,K0g] at h
   rw [if_pos c,K0g]
   exact⟨c,K0v h⟩
 · rw [if_neg c] at h;exact absurd h (by decide)
theorem z2l {b:List Ivl} {p:Int} (c:rightB b=true∧Z0h p=true) (h: ∀j,j<b.length→(G0z (b.getD j default) p).2=0):(k0k b p).2=0:=by
 unfold k0k
 rw [if_pos c,K0g]
 exact Y0o _ _ _ fun j _ hj=>h j (by omega)
theorem H2f {a b:List Ivl} (ha:rightB a=true) (hb:rightB b=true) (hl:a.length=b.length):(j0y a b).2=0∧(j0y a b).1.length=a.length∧
 ∀j,j<a.length→(j0y a b).1.getD j default=⟨Z0o (a.getD j default).lo (b.getD j default).lo,Z0m (a.getD j default).hi (b.getD j default).hi⟩:=by
 have hI: ∀j,j<a.length→k1u (a.getD j default) (b.getD j default)=(⟨Z0o (a.getD j default).lo (b.getD j default).lo,Z0m (a.getD j default).hi (b.getD j default).hi⟩,0):=fun j hj=>U1l (H0f ha hj) (H0f hb (by omega))
 unfold j0y
 rw [if_pos ⟨ha,hb,hl⟩,K0g]
 have h0:(tabF (fun j=>k1u (a.getD j default) (b.getD j default)) 0 a.length []).2=0:=Y0o _ _ _ fun j _ hj=>by show(k1u (a.getD j default) (b.getD j default)).2=0;rw [hI j (by omega)]
 obtain⟨g1,g2,g3⟩:=K0v h0
 refine⟨h0,g1,fun j hj=> ?_⟩
 rw [g3 j hj]
 show(k1u (a.getD j default) (b.getD j default)).1=_
 rw [hI j hj]
theorem G2r (a b:Nm):(qN (Z0o a b)=qN a∨qN (Z0o a b)=qN b)∧qN (Z0o a b)≤qN a∧qN (Z0o a b)≤qN b:=by
 unfold Z0o
 split
 · rename_i h
   have:=cmpN_lt.1 h
   exact⟨.inr rfl,by grind,Rat.le_refl⟩
 · rename_i h
   have h2: ¬qN b<qN a:=fun e=>h (cmpN_lt.2 e)
   exact⟨.inl rfl,Rat.le_refl,by grind⟩
theorem H2j (a b:Nm):(qN (Z0m a b)=qN a∨qN (Z0m a b)=qN b)∧qN a≤qN (Z0m a b)∧qN b≤qN (Z0m a b):=by
 unfold Z0m
 split
 · rename_i h
   have:=cmpN_gt.1 h
   exact⟨.inr rfl,by grind,Rat.le_refl⟩
 · rename_i h
   have h2: ¬qN a<qN b:=fun e=>h (cmpN_gt.2 e)
   exact⟨.inl rfl,Rat.le_refl,by grind⟩
theorem inB_sub {a b:List Ivl} :inB a b=true↔rightB a=true∧rightB b=true∧a.length=b.length∧ ∀j,j<a.length→subI (a.getD j default) (b.getD j default):=by
 unfold inB allF
 simp only [Bool.and_eq_true,decide_eq_true_eq,List.all_eq_true,List.mem_range]
 constructor
 · rintro⟨⟨ha,hb⟩,hl,hj⟩
   exact⟨ha,hb,hl,fun j h=>(H2e (H0f ha h) (H0f hb (by omega))).1 (hj j h)⟩
 · rintro⟨ha,hb,hl,hj⟩
   exact⟨⟨ha,hb⟩,hl,fun j h=>(H2e (H0f ha h) (H0f hb (by omega))).2 (hj j h)⟩
theorem Y1n {h:Nm} (hr:Q0i h=true):(¬sgnN (ownN h)≤0)↔0<qN h:=by
 unfold ownN
 rw [if_pos hr,←W2l];omega
theorem V1h {h:Nm} (hr:Q0i h=true) (h0:0<qN h):Q0j ⟨default,h⟩=true:=W0a j1j hr (cmpN_le.2 (by rw [Y1s];grind))
structure NextOK (f:List (List Mn)) (x a:List Ivl) (h:Nm) (p:Int):Prop where
 rf:W0k f=true
 rx:rightB x=true
 ra:rightB a=true
 lx:x.length=f.length
 la:a.length=f.length
 rh:Q0i h=true
 ph:0<qN h
 pp:Z0h p=true
 e1:(J0i f a p).2=0
 e2:(G0h ⟨default,h⟩ (J0i f a p).1 p).2=0
 e3:(opB 0 x (G0h ⟨default,h⟩ (J0i f a p).1 p).1 p).2=0
theorem nextP_iff {f:List (List Mn)} {x a:List Ivl} {h:Nm} {p:Int} :(Y0t f x a h p).2=0↔NextOK f x a h p:=by
 constructor
 · intro e
   unfold Y0t at e
   split at e
   · rename_i c
     obtain⟨c1,c2,c3,c4,c5,c6,c7,c8⟩:=c
     split at e
     · rename_i d1
       split at e
       · rename_i d2
         exact⟨c1,c2,c3,c4,c5,c6,(Y1n c6).1 c7,c8,d1,d2,e⟩
       · rename_i d2;exact absurd e d2
     · rename_i d1;exact absurd e d1
   · exact absurd e (by decide)
 · rintro⟨c1,c2,c3,c4,c5,c6,c7,c8,d1,d2,e⟩
   unfold Y0t
   rw [if_pos ⟨c1,c2,c3,c4,c5,c6,(Y1n c6).2 c7,c8⟩,if_pos d1,if_pos d2]
   exact e
theorem NextOK.val {f:List (List Mn)} {x a:List Ivl} {h:Nm} {p:Int} (n:NextOK f x a h p):(Y0t f x a h p).1=(opB 0 x (G0h ⟨default,h⟩ (J0i f a p).1 p).1 p).1:=by
 unfold Y0t
 rw [if_pos ⟨n.rf,n.rx,n.ra,n.lx,n.la,n.rh,(Y1n n.rh).2 n.ph,n.pp⟩,if_pos n.e1,if_pos n.e2]
theorem X1n {f:List (List Mn)} {a:List Ivl} {p:Int} (h:(J0i f a p).2=0):(W0k f=true∧a.length=f.length)∧(J0i f a p).1.length=f.length∧ ∀j,j<f.length→(J0i f a p).1.getD j default=(X0y (f.getD j []) a p (f.getD j []).length).1∧(X0y (f.getD j []) a p (f.getD j []).length).2=0:=by
 unfold J0i at h⊢
 by_cases c:W0k f=true∧a.length=f.length
 · rw [if_pos c] at h⊢
   obtain⟨g1,g2,g3⟩:=K0v h
   refine⟨c,g1,fun j hj=> ?_⟩
   have e:=g2 j hj
   rw [g3 j hj]
   show(v0e (f.getD j []) a p).1=_∧_
   replace e:(v0e (f.getD j []) a p).2=0:=e
   unfold v0e at e⊢
   split at e
   · rename_i d;rw [if_pos d];exact⟨rfl,e⟩
   · exact absurd e (by decide)
 · rw [if_neg c] at h;exact absurd h (by decide)
structure NextAt (f:List (List Mn)) (x a:List Ivl) (h:Nm) (p:Int) (j:Nat):Prop where
 r0:(X0y (f.getD j []) a p (f.getD j []).length).2=0
 t0:(opI 2 ⟨default,h⟩ (X0y (f.getD j []) a p (f.getD j []).length).1 p).2=0
 s0:(opI 0 (x.getD j default) (opI 2 ⟨default,h⟩ (X0y (f.getD j []) a p (f.getD j []).length).1 p).1 p).2=0
 val:(Y0t f x a h p).1.getD j default=(opI 0 (x.getD j default) (opI 2 ⟨default,h⟩ (X0y (f.getD j []) a p (f.getD j []).length).1 p).1 p).1
theorem NextOK.len {f:List (List Mn)} {x a:List Ivl} {h:Nm} {p:Int} (n:NextOK f x a h p):(Y0t f x a h p).1.length=f.length:=by
 rw [n.val,(k1e n.e3).2.1,n.lx]
theorem NextOK.at {f:List (List Mn)} {x a:List Ivl} {h:Nm} {p:Int} (n:NextOK f x a h p) {j:Nat} (hj:j<f.length):NextAt f x a h p j:=by
 obtain⟨_,r1,r2⟩:=X1n n.e1
 obtain⟨r3,r4⟩:=r2 j hj
 obtain⟨_,t1,t2,t3⟩:=V1g n.e2
 obtain⟨_,s1,s2,s3⟩:=k1e n.e3
 have t2:=t2 j (by omega)
 have t3:=t3 j (by omega)
 have s2:=s2 j (by rw [n.lx];exact hj)
 have s3:=s3 j (by rw [n.lx];exact hj)
 rw [r3] at t2 t3
 rw [t3] at s2 s3
 exact⟨r4,t2,s2,by rw [n.val];exact s3⟩
theorem J2p {k:Nat} {a b:List Ivl} {p:Int} (h:(opB k a b p).2=0):rightB (opB k a b p).1=true:=by
 obtain⟨c,l,_,v⟩:=k1e h
 have:=w0t c.1
 exact V0a (fun j hj=>by rw [v j (by omega)];exact W0z _ _ _ _) (by omega) (by omega)
theorem NextOK.rightB {f:List (List Mn)} {x a:List Ivl} {h:Nm} {p:Int} (n:NextOK f x a h p):Go.Pv.rightB (Y0t f x a h p).1=true:=by
 rw [n.val];exact J2p n.e3
theorem k2v {f:List (List Mn)} {x a:List Ivl} {h:Nm} {p:Int} (rf:W0k f=true) (rx:rightB x=true) (ra:rightB a=true) (lx:x.length=f.length) (la:a.length=f.length) (rh:Q0i h=true) (ph:0<qN h) (pp:Z0h p=true) (e1:(J0i f a p).2=0)
 (h2: ∀j,j<f.length→(opI 2 ⟨default,h⟩ (X0y (f.getD j []) a p (f.getD j []).length).1 p).2=0)
 (h3: ∀j,j<f.length→(opI 0 (x.getD j default) (opI 2 ⟨default,h⟩ (X0y (f.getD j []) a p (f.getD j []).length).1 p).1 p).2=0):NextOK f x a h p:=by
 obtain⟨_,r1,r2⟩:=X1n e1
 have hx:=w0t rx
 have rr:rightB (J0i f a p).1=true:=V0a (fun j hj=>by
  obtain⟨q1,q2⟩:=r2 j (by omega)
  have:=h2 j (by omega)
  rw [q1];exact(Z1c this).2.1) (by omega) (by omega)
 have e2:(G0h ⟨default,h⟩ (J0i f a p).1 p).2=0:=Z2z ⟨rr,V1h rh ph,pp⟩ fun j hj=>by
  rw [(r2 j (by omega)).1];exact h2 j (by omega)
 obtain⟨_,t1,t2,t3⟩:=V1g e2
 have rt:rightB (G0h ⟨default,h⟩ (J0i f a p).1 p).1=true:=V0a (fun j hj=>by
  rw [t3 j (by omega)];exact W0z _ _ _ _) (by omega) (by omega)
 refine⟨rf,rx,ra,lx,la,rh,ph,pp,e1,e2,V3f ⟨rx,rt,by omega,pp⟩ fun j hj=> ?_⟩
 rw [t3 j (by omega),(r2 j (by omega)).1]
 exact h3 j (by omega)
theorem x0c {a:Ivl} {p:Int} (h:(G0z a p).2=0):(K0j a p).2=0∧(X0e (K0j a p).1 (-2)).2=0∧(Y0q 1 a.lo (X0e (K0j a p).1 (-2)).1 p false).2=0∧(Y0q 0 a.hi (X0e (K0j a p).1 (-2)).1 p true).2=0∧
 (G0z a p).1=⟨(Y0q 1 a.lo (X0e (K0j a p).1 (-2)).1 p false).1,(Y0q 0 a.hi (X0e (K0j a p).1 (-2)).1 p true).1⟩:=by
 unfold G0z at h⊢
 split at h
 · rename_i c;exact absurd h c
 · rename_i c
   split at h
   · rename_i d;exact absurd h d
   · rename_i d
     split at h
     · exact absurd h (by decide)
     · rename_i e
       rw [if_neg c,if_neg d,if_neg e]
       have e1: ¬(Y0q 1 a.lo (X0e (K0j a p).1 (-2)).1 p false).2≠0:=fun q=>e (.inl q)
       have e2: ¬(Y0q 0 a.hi (X0e (K0j a p).1 (-2)).1 p true).2≠0:=fun q=>e (.inr q)
       exact⟨Classical.not_not.1 c,Classical.not_not.1 d,Classical.not_not.1 e1,Classical.not_not.1 e2,rfl⟩
theorem Q3b {a:Ivl} {p:Int} (h1:(K0j a p).2=0) (h2:(X0e (K0j a p).1 (-2)).2=0) (h3:(Y0q 1 a.lo (X0e (K0j a p).1 (-2)).1 p false).2=0) (h4:(Y0q 0 a.hi (X0e (K0j a p).1 (-2)).1 p true).2=0):(G0z a p).2=0:=by
 unfold G0z
 rw [if_neg (by rw [h1];decide),if_neg (by rw [h2];decide),if_neg (by rw [h3,h4];decide)]
theorem w0w {k:Nat} {a b:Nm} {p:Int} {up:Bool} (h:(Y0q k a b p up).2=0):Q0i a=true∧Q0i b=true∧Z0h p=true:=by
 unfold Y0q at h
 split at h
 · assumption
 · exact absurd h (by decide)
theorem X1j {k:Nat} {a b:Nm} {p:Int} {up:Bool} (h:(Y0q k a b p up).2=0):qN (Y0q k a b p up).1=qV (Q0w (exV k (ofN a) (ofN b)) p.toNat up):=by
 have c:=w0w h
 unfold Y0q at h⊢
 rw [if_pos c] at h⊢
 exact(J0g (Q0y (y0y k (X0m c.1) (X0m c.2.1)) _ _) h).2
theorem x0e {a:Ivl} {p:Int} (h:(K0j a p).2=0):Q0j a=true∧Z0h p=true:=by
 unfold K0j at h
 split at h
 · assumption
 · exact absurd h (by decide)
theorem G1g {a:Ivl} {p:Int} (h:(K0j a p).2=0):qN (K0j a p).1=qV (Q0w (H0k (ofN a.hi) (ofN a.lo)) p.toNat true):=by
 have c:=x0e h
 have hc:=canI c.1
 unfold K0j at h⊢
 rw [if_pos c] at h⊢
 exact(J0g (Q0y (U0z hc.2 hc.1) _ _) h).2
end Go.Pv
end
section
/-How great what is reckoned gets:at most a power of two,which rounding does not pass. No program in it. -/
namespace Go.Pv
theorem J2m (e:Int):p2 e=qM 1 e:=by simp [qM]
theorem V3d {a b:Int} (h:a≤b):p2 a≤p2 b:=by
 rw [J2m,J2m,show b=a+((b-a).toNat:Int) from by omega,←V0q,qM_le]
 have:0<(2:Int)^(b-a).toNat:=Int.pow_pos (by decide)
 omega
theorem k1c (a:Int):p2 (a+1)=p2 a*2:=by
 rw [j0g];congr 1
def magQ (e:Int) (x:Rat):Prop:= -(p2 e)≤x∧x≤p2 e
theorem J1f (e:Int):magQ e 0:=by
 have:=X1z e
 exact⟨by grind,by grind⟩
theorem magQ.up {e g:Int} {x:Rat} (h:magQ e x) (he:e≤g):magQ g x:=by
 have:=V3d he
 exact⟨by have:=h.1;grind,by have:=h.2;grind⟩
theorem Z1f {e:Int} {x:Rat} (h:magQ e x):magQ e (-x):=⟨by have:=h.2;grind,by have:=h.1;grind⟩
theorem Z1g {e:Int} {x y:Rat} (h:magQ e x) (g:magQ e y):magQ (e+1) (x+y):=by
 obtain⟨a,b⟩:=h
 obtain⟨c,d⟩:=g
 refine⟨?_,?_⟩
 · rw [k1c];grind
 · rw [k1c];grind
theorem Q2d {e g:Int} {x y:Rat} (h:magQ e x) (k:magQ g y):magQ (e+g) (x*y):=by
 obtain⟨a,b⟩:=h
 obtain⟨c,d⟩:=k
 have q1:=X0z (a:=p2 e-x) (b:=p2 g+y) (by grind) (by grind)
 have q2:=X0z (a:=p2 e+x) (b:=p2 g-y) (by grind) (by grind)
 have q3:=X0z (a:=p2 e-x) (b:=p2 g-y) (by grind) (by grind)
 have q4:=X0z (a:=p2 e+x) (b:=p2 g+y) (by grind) (by grind)
 unfold magQ
 rw [j0g]
 exact⟨by grind,by grind⟩
theorem U1e {e:Int} {x:Rat} (h:magQ e x): ∀k:Nat,magQ (e*k) (powQ x k)
 | 0=>by
  show magQ (e*((0:Nat):Int)) 1
  rw [Int.natCast_zero,Int.mul_zero]
  unfold magQ
  rw [Y1x]
  exact⟨by decide,Rat.le_refl⟩
 | k+1=>by
  show magQ _ (powQ x k*x)
  rw [show e*((k+1:Nat):Int)=e*k+e from by rw [Int.natCast_add,Int.mul_add];omega]
  exact Q2d (U1e h k) h
theorem U2y {L U:Nat} {x:Rat} (h:luQ L U x):magQ U x:=by
 obtain⟨z,rfl,hz⟩:=h
 have e:p2 (U:Int)=qM (2^(L+U)) (-(L:Int)):=by
  rw [J2m,show(U:Int)= -(L:Int)+((L+U:Nat):Int) from by omega,←V0q,Int.one_mul]
 have hz2:(z.natAbs:Int)≤2^(L+U):=by
  have:((2^(L+U):Nat):Int)=2^(L+U):=by simp
  rw [←this];exact_mod_cast hz
 unfold magQ
 rw [e,←v0h,qM_le,qM_le]
 omega
theorem w2p (p:Nat) (e:Int):U1q p (-(p2 e)):=⟨-1,e,by rw [J2m,v0h],Nat.one_le_two_pow⟩
theorem U0n {e:Int} {v:Vl} {p:Nat} (hp:1≤p) (h:magQ e (qV v)) (up:Bool):magQ e (qV (Q0w v p up)):=by
 have dn: ∀w:Vl,magQ e (qV w)→magQ e (qV (Q0w w p false)):=fun w hw=>⟨V1n hp (w2p p e) hw.1,Rat.le_trans (V0x w p) hw.2⟩
 cases up with
 | false=>exact dn v h
 | true=>
  rw [x0n]
  refine Z1f (dn _ ?_)
  rw [W0m];exact Z1f h
def ampI (e:Int) (a:Ivl):Prop:=magQ e (qN a.lo)∧magQ e (qN a.hi)
theorem ampI.up {e g:Int} {a:Ivl} (h:ampI e a) (he:e≤g):ampI g a:=⟨h.1.up he,h.2.up he⟩
theorem x0x {e:Int} {a:Ivl} (h:ampI e a) {X:Rat} (hX:memI X a):magQ e X:=⟨Rat.le_trans h.1.1 hX.1,Rat.le_trans hX.2 h.2.2⟩
theorem k1m {L U:Nat} {a:Ivl} (h:luI L U a):ampI U a:=⟨U2y h.2.1,U2y h.2.2⟩
theorem U2e {k:Nat} {a b:Ivl} {p:Int} {g:Int} (h:(opI k a b p).2=0) (hx: ∀X U,memI X a→memI U b→magQ g (exQ k X U)):ampI g (opI k a b p).1:=by
 have r:=Z1c h
 obtain⟨e1,e2⟩:=y1s h
 have pp:=V0b r.2.2
 obtain⟨X,U,x1,x2,x3⟩:=V4h k r.1 r.2.1
 obtain⟨Y,V,y1,y2,y3⟩:=V4s k r.1 r.2.1
 refine⟨?_,?_⟩
 · rw [e1];exact U0n pp (by rw [x3];exact hx X U x1 x2) _
 · rw [e2];exact U0n pp (by rw [y3];exact hx Y V y1 y2) _
theorem y1p {a b:Ivl} {p:Int} {e g:Int} (h:(opI 2 a b p).2=0) (ha:ampI e a) (hb:ampI g b):ampI (e+g) (opI 2 a b p).1:=
 U2e h fun X U hX hU=>by rw [exQ2];exact Q2d (x0x ha hX) (x0x hb hU)
theorem y1r {a b:Ivl} {p:Int} {e:Int} (h:(opI 0 a b p).2=0) (ha:ampI e a) (hb:ampI e b):ampI (e+1) (opI 0 a b p).1:=
 U2e h fun X U hX hU=>by rw [exQ0];exact Z1g (x0x ha hX) (x0x hb hU)
theorem k2g {a:Ivl} {k p:Int} {e:Int} (h:(powI a k p).2=0) (ha:ampI e a):ampI (e*k.toNat) (powI a k p).1:=by
 have r:=H1t h
 obtain⟨e1,e2⟩:=Y2v h
 have pp:=V0b r.2.2.2
 obtain⟨X,x1,x3⟩:=k2f r.1 k.toNat
 obtain⟨Y,y1,y3⟩:=k2i r.1 k.toNat
 refine⟨?_,?_⟩
 · rw [e1];exact U0n pp (by rw [x3];exact U1e (x0x ha x1) _) _
 · rw [e2];exact U0n pp (by rw [y3];exact U1e (x0x ha y1) _) _
theorem H1x {m:Mn} {b:List Ivl} {p:Int} {c e:Int} (hc:magQ c (qN m.c)) (hk:J0v m.ks=true): ∀i,i≤m.ks.length→(∀j,j<i→ampI e (b.getD j default))→(W0y m b p i).2=0→ampI (c+e*sumK m.ks i) (W0y m b p i).1
 | 0,_,_,_=>by
  have:sumK m.ks 0=0:=rfl
  rw [this,Int.natCast_zero,Int.mul_zero,Int.add_zero]
  exact⟨hc,hc⟩
 | i+1,hi,hb,h=>by
  have ih:=H1x (e:=e) hc hk i (by omega) (fun j hj=>hb j (by omega)) (V1v h)
  have hs:=K0e hk (i+1) hi
  have hs0:=K0e hk i (by omega)
  have hat:=K0l hk i (by omega)
  have hst:=Y0p m.ks i (by omega)
  have hsum:sumK m.ks (i+1)=sumK m.ks i+(m.ks.getD i 0).toNat:=by unfold sumK;omega
  rcases J2o h with ⟨d,q⟩ | ⟨d,d2,q⟩
  · rw [q,hsum,d];exact ih
  · rw [q] at h⊢
    have:=y1p h ih (k2g d2 (hb i (by omega)))
    rw [hsum,Int.natCast_add,Int.mul_add,←Int.add_assoc]
    exact this
theorem V1r {q:List Mn} {b:List Ivl} {p:Int} {g:Int} : ∀i,(∀j,j<i→(W0y (q.getD j default) b p b.length).2=0→ampI g (W0y (q.getD j default) b p b.length).1)→(X0y q b p i).2=0→ampI (g+i) (X0y q b p i).1
 | 0,_,_=>by
  have e:qN (default:Ivl).lo=0:=J0s 0
  have e2:qN (default:Ivl).hi=0:=J0s 0
  exact⟨by show magQ _ (qN (default:Ivl).lo);rw [e];exact J1f _,by show magQ _ (qN (default:Ivl).hi);rw [e2];exact J1f _⟩
 | i+1,hj,h=>by
  obtain⟨c1,c2,e⟩:=j1o h
  have ih:=V1r i (fun j hjl=>hj j (by omega)) c1
  rw [e] at h⊢
  have:=y1r h ih ((hj i (by omega) c2).up (by omega))
  rw [show g+((i+1:Nat):Int)=g+i+1 from by omega]
  exact this
theorem y0z {a:Ivl} {p:Int} (h:(G0z a p).2=0): ∃s:Rat,qN a.hi-qN a.lo≤s*4∧0≤s∧
 (∃v:Vl,canV v∧qV v=qN a.lo-s∧qN (G0z a p).1.lo=qV (Q0w v p.toNat false))∧(∃v:Vl,canV v∧qV v=qN a.hi+s∧qN (G0z a p).1.hi=qV (Q0w v p.toNat true))∧ ∃w:Vl,canV w∧qV w=qN a.hi-qN a.lo∧s*4=qV (Q0w w p.toNat true):=by
 obtain⟨w0,s0,l0,h0,e⟩:=x0c h
 have hw:=G1g w0
 obtain⟨wn,pp⟩:=x0e w0
 have hs:=(V1l (x:=(K0j a p).1) (k:=2) s0).2
 have hr:=w0w l0
 have hr2:=w0w h0
 rw [show p2 ((2:Nat):Int)=4 from Z3o] at hs
 rw [show -((2:Nat):Int)= -2 from rfl] at hs
 have hge:=W0w (H0k (ofN a.hi) (ofN a.lo)) p.toNat
 rw [←hw,Y0f,Z0u,Z0u] at hge
 have hle:=U0i wn
 rw [Z0u,Z0u] at hle
 have ca:=canI wn
 refine⟨qN (X0e (K0j a p).1 (-2)).1,by rw [hs];exact hge,by grind,⟨exV 1 (ofN a.lo) (ofN (X0e (K0j a p).1 (-2)).1),y0y 1 ca.1 (X0m hr.2.1),by rw [j2s,exQ1,Z0u,Z0u],?_⟩,
  ⟨exV 0 (ofN a.hi) (ofN (X0e (K0j a p).1 (-2)).1),y0y 0 ca.2 (X0m hr.2.1),by rw [j2s,exQ0,Z0u,Z0u],?_⟩,H0k (ofN a.hi) (ofN a.lo),U0z ca.2 ca.1,by rw [Y0f,Z0u,Z0u],by rw [hs,hw]⟩
 · rw [e];exact X1j l0
 · rw [e];exact X1j h0
theorem v1v {a:Ivl} {p:Int} (h:(G0z a p).2=0):Q0j (G0z a p).1=true∧subI a (G0z a p).1:=by
 obtain⟨s,h1,h2,⟨v,_,h3,h4⟩,⟨u,_,h5,h6⟩,_⟩:=y0z h
 obtain⟨w0,s0,l0,h0,e⟩:=x0c h
 have wn:=(x0e w0).1
 have q1:=V0x v p.toNat
 have q2:=W0w u p.toNat
 have hle:=U0i wn
 rw [Z0u,Z0u] at hle
 have hs:subI a (G0z a p).1:=⟨by rw [h4];grind,by rw [h6];grind⟩
 refine⟨W0a ?_ ?_ (cmpN_le.2 ?_),hs⟩
 · rw [e];exact X1k _ _ _ _ _
 · rw [e];exact X1k _ _ _ _ _
 · have:=hs.1
   have:=hs.2
   grind
theorem z2j {a:Ivl} {p:Int} {e:Int} (h:(G0z a p).2=0) (ha:ampI e a):ampI (e+1) (G0z a p).1:=by
 have pp:=V0b (x0e (x0c h).1).2
 obtain⟨s,h1,h2,⟨v,_,h3,h4⟩,⟨u,_,h5,h6⟩,w,_,h7,h8⟩:=y0z h
 have m1:magQ (e+1) (s*4):=by
  rw [h8]
  refine U0n pp ?_ _
  rw [h7,Rat.sub_eq_add_neg]
  exact Z1g ha.2 (Z1f ha.1)
 have m2:magQ e s:=by
  have:=m1.2
  have:=m1.1
  have e2:=k1c e
  have:=X1z e
  exact⟨by grind,by grind⟩
 refine⟨?_,?_⟩
 · rw [h4]
   refine U0n pp ?_ _
   rw [h3,Rat.sub_eq_add_neg];exact Z1g ha.1 (Z1f m2)
 · rw [h6]
   refine U0n pp ?_ _
   rw [h5];exact Z1g ha.2 m2
theorem w1u {k L U:Nat} {x y:Nm} {p:Int} (hk:k<2) (hx:Q0i x=true) (hy:Q0i y=true) (h1:luQ L U (qN x)) (h2:luQ L U (qN y)) (hp:Z0h p=true) (up:Bool) (hb:L+U+3≤4096):(Y0q k x y p up).2=0∧luQ L (U+2) (qN (Y0q k x y p up).1):=by
 have hc:canV (exV k (ofN x) (ofN y)):=y0y k (X0m hx) (X0m hy)
 have hq:qV (exV k (ofN x) (ofN y))=exQ k (qN x) (qN y):=by rw [j2s];rfl
 have hl:luQ L (U+1) (qV (exV k (ofN x) (ofN y))):=by
  rw [hq]
  unfold exQ
  split
  · exact q0m h1 h2
  · rw [if_pos (by omega)];exact J1g h1 h2
 have hr:=V0d hc hl p.toNat (V0b hp) up
 have hf:(Y0q k x y p up).2=0:=by
  unfold Y0q
  rw [if_pos ⟨hx,hy,hp⟩]
  exact Y0v (Q0y hc _ _) hr (by omega)
 exact⟨hf,by rw [X1j hf];exact hr⟩
theorem Q3c {L U:Nat} {a:Ivl} {p:Int} (ha:luI L U a) (hp:Z0h p=true) (hb:L+U+8≤4096):(G0z a p).2=0∧luI (L+2) (U+4) (G0z a p).1:=by
 have ca:=canI ha.1
 have rr:=Q0x ha.1
 have hl:luQ L (U+1) (qV (H0k (ofN a.hi) (ofN a.lo))):=by rw [Y0f,Z0u,Z0u];exact J1g ha.2.2 ha.2.1
 have cl:=U0z ca.2 ca.1
 have hr:=V0d cl hl p.toNat (V0b hp) true
 have w0:(K0j a p).2=0:=by
  unfold K0j
  rw [if_pos ⟨ha.1,hp⟩]
  exact Y0v (Q0y cl _ _) hr (by omega)
 rw [←G1g w0] at hr
 obtain⟨s0,s1⟩:=W2s (k:=2) (x1u a p) hr (by omega) (by omega)
 rw [show -((2:Nat):Int)= -2 from rfl] at s0 s1
 have sr:=G1w (K0j a p).1 (-2)
 obtain⟨l0,l1⟩:=w1u (k:=1) (by omega) rr.1 sr (ha.2.1.mono (L':=L+2) (U':=U+2) (by omega) (by omega)) s1 hp false (by omega)
 obtain⟨h0,h1⟩:=w1u (k:=0) (by omega) rr.2.1 sr (ha.2.2.mono (L':=L+2) (U':=U+2) (by omega) (by omega)) s1 hp true (by omega)
 have hb0:=Q3b w0 s0 l0 h0
 refine⟨hb0,(v1v hb0).1,?_,?_⟩
 · rw [(x0c hb0).2.2.2.2];exact l1
 · rw [(x0c hb0).2.2.2.2];exact h1
end Go.Pv
end
section
/-For a short time a box is found. No program in it. -/
namespace Go.Pv
def V3i (n M:Nat) (D:Int) (p:List Mn):Prop:=K0a p n=true∧p.length≤M∧ ∀m∈p,okMn n 6 (8+M) D m
def okFieldT (n M:Nat) (D:Int) (f:List (List Mn)):Prop:=f.length=n∧ ∀p∈f,V3i n M D p
theorem okFieldT.ok {n M:Nat} {D:Int} {f:List (List Mn)} (h:okFieldT n M D f):okField n M D f:=⟨h.1,fun p hp=>⟨(h.2 p hp).1,(h.2 p hp).2.1,fun m hm=>by
 obtain⟨a1,a2,a3,a4,a5,a6⟩:=(h.2 p hp).2.2 m hm
 exact⟨a1,a2,a3,a4,a5,a6.mono (by omega) (by omega)⟩⟩⟩
theorem okFieldT.at {n M:Nat} {D:Int} {f:List (List Mn)} (h:okFieldT n M D f) {i j:Nat} (hi:i<f.length) (hj:j<(f.getD i []).length):okMn n 6 (8+M) D ((f.getD i []).getD j default):=by
 have e:f.getD i []=f[i]:=by simp [List.getD_eq_getElem?_getD,hi]
 rw [e] at hj⊢
 exact z0s (h.2 _ (List.getElem_mem hi)).2.2 hj
theorem j1e {ks:List Int} {D:Int} (hr:J0v ks=true) (h:ks.sum≤D) {i:Nat} (hi:i≤ks.length):(sumK ks i:Int)≤D:=by
 have h0:=K0e hr i hi
 have h1:(ks.take i).sum≤ks.sum:=by
  have hk:=((J0q ks).1 hr).1
  have: ∀(l:List Int) (n:Nat),(∀j,j<l.length→0≤l.getD j 0)→(l.take n).sum≤l.sum:=by
   intro l
   induction l with
   | nil=>intro n _;simp
   | cons x l ih=>
    intro n hp
    have hx:0≤x:=hp 0 (by simp)
    have hp': ∀j,j<l.length→0≤l.getD j 0:=fun j hj=>by have:=hp (j+1) (by simpa using hj);simpa using this
    cases n with
    | zero=>
     have:=ih 0 hp'
     simp at this⊢;omega
    | succ n=>
     have:=ih n hp'
     simp;omega
  exact this ks i hk
 unfold sumK;omega
theorem J2a {n:Nat} {f:List (List Mn)} {a:List Ivl} {p:Int} {e:Int} (he:0≤e) (hf:okFieldT n 3 3 f) (hl:a.length=n) {i:Nat} (hi:i<n) (ha: ∀j,j<n→ampI e (a.getD j default)) (h0:(X0y (f.getD i []) a p (f.getD i []).length).2=0):
 ampI (14+e*3) (X0y (f.getD i []) a p (f.getD i []).length).1:=by
 have hfl:=hf.1
 have hlen:(f.getD i []).length≤3:=by
  have e:f.getD i []=f[i]'(by omega):=by simp [List.getD_eq_getElem?_getD,(by omega:i<f.length)]
  rw [e];exact(hf.2 _ (List.getElem_mem _)).2.1
 refine(V1r (g:=11+e*3) _ (fun j hj c=> ?_) h0).up (by omega)
 obtain⟨a1,a2,a3,a4,a5,a6⟩:=hf.at (by omega:i<f.length) hj
 have hs:=j1e a2 a3 (i:=a.length) (by omega)
 have hm:=H1x (c:=11) (e:=e) (p:=p) ((U2y a6).up (by omega)) a2 a.length (by omega) (fun j hj=>ha j (by omega)) c
 refine hm.up ?_
 have:e*(sumK ((f.getD i []).getD j default).ks a.length:Int)≤e*3:=Int.mul_le_mul_of_nonneg_left hs he
 omega
theorem W3j {L U:Nat} {a b:Ivl} (ha:luI L U a) (hb:luI L U b):luI L U ⟨Z0o a.lo b.lo,Z0m a.hi b.hi⟩∧subI a ⟨Z0o a.lo b.lo,Z0m a.hi b.hi⟩∧subI b ⟨Z0o a.lo b.lo,Z0m a.hi b.hi⟩:=by
 have hr:Q0j (⟨Z0o a.lo b.lo,Z0m a.hi b.hi⟩:Ivl)=true:=by
  have:=k1t ha.1 hb.1
  rw [U1l ha.1 hb.1] at this;exact this
 obtain⟨q1,q2,q3⟩:=G2r a.lo b.lo
 obtain⟨g1,g2,g3⟩:=H2j a.hi b.hi
 refine⟨⟨hr,?_,?_⟩,⟨q2,g2⟩,⟨q3,g3⟩⟩
 · rcases q1 with q1 | q1
   · show luQ L U (qN (Z0o a.lo b.lo));rw [q1];exact ha.2.1
   · show luQ L U (qN (Z0o a.lo b.lo));rw [q1];exact hb.2.1
 · rcases g1 with g1 | g1
   · show luQ L U (qN (Z0m a.hi b.hi));rw [g1];exact ha.2.2
   · show luQ L U (qN (Z0m a.hi b.hi));rw [g1];exact hb.2.2
theorem w2f {e:Int} {a b:Ivl} (ha:ampI e a) (hb:ampI e b):ampI e ⟨Z0o a.lo b.lo,Z0m a.hi b.hi⟩:=by
 obtain⟨q1,q2,q3⟩:=G2r a.lo b.lo
 obtain⟨g1,g2,g3⟩:=H2j a.hi b.hi
 refine⟨?_,?_⟩
 · rcases q1 with q1 | q1
   · show magQ e (qN (Z0o a.lo b.lo));rw [q1];exact ha.1
   · show magQ e (qN (Z0o a.lo b.lo));rw [q1];exact hb.1
 · rcases g1 with g1 | g1
   · show magQ e (qN (Z0m a.hi b.hi));rw [g1];exact ha.2
   · show magQ e (qN (Z0m a.hi b.hi));rw [g1];exact hb.2
def z0q :Nm:=⟨false, -60,[1]⟩
theorem k1w :qN z0q=p2 (-60):=by rw [J2m];rfl
theorem J1m :Q0i z0q=true:=by decide
theorem q1q :0<qN z0q:=by rw [k1w];exact X1z _
theorem w2k :luI 60 0 ⟨default,z0q⟩:=⟨V1h J1m q1q,by show luQ 60 0 (qN default);rw [Y1s];exact W0r _ _,by show luQ 60 0 (qN z0q);rw [k1w];exact⟨1,J2m _,by decide⟩⟩
theorem H2h :ampI (-60) ⟨default,z0q⟩:=⟨by show magQ _ (qN default);rw [Y1s];exact J1f _,by show magQ _ (qN z0q);rw [k1w];have:=X1z (-60);exact⟨by grind,Rat.le_refl⟩⟩
theorem q1g {n:Nat} {f:List (List Mn)} {x a:List Ivl} {p:Int} {L U:Nat} {e:Int} (hf:okFieldT n 3 3 f) (hn1:1≤n) (hn4:n≤4) (hx:x.length=n) (hxl: ∀j,j<n→luI 6 9 (x.getD j default)) (ha:a.length=n) (hal: ∀j,j<n→luI L U (a.getD j default)) (hL:6≤L) (hU:9≤U)
 (hp:Z0h p=true) (hbd:400+8*L+8*U≤4096) (he:0≤e) (he2:14+e*3≤52) (ham: ∀j,j<n→ampI e (a.getD j default)):
 NextOK f x a z0q p∧ ∀j,j<n→luI (72+L*8) (50+U*8) ((Y0t f x a z0q p).1.getD j default)∧ampI (-8) (opI 2 ⟨default,z0q⟩ (X0y (f.getD j []) a p (f.getD j []).length).1 p).1:=by
 have hfl:=hf.1
 obtain⟨r1,r2,r3⟩:=Y1q (L:=L) (U:=U) hf.ok (by omega) ha hn1 hn4 (fun j hj=>hal j (by omega)) hp (by omega)
 have ht: ∀j,j<n→_:=fun j hj=>Y1z w2k (r3 j hj).2.2 hp (by omega)
 have hs: ∀j,j<n→_:=fun j hj=>q1c (k:=0) (by omega) ((hxl j hj).mono (L':=60+(12+L*8)) (U':=0+(26+3+U*8+2*3)+1) (by omega) (by omega)) (ht j hj).2 hp (by omega)
 have hrx:rightB x=true:=V0a (fun j hj=>(hxl j (by omega)).1) (by omega) (by omega)
 have hra:rightB a=true:=V0a (fun j hj=>(hal j (by omega)).1) (by omega) (by omega)
 have N:NextOK f x a z0q p:=k2v (hf.ok.right hn1 hn4) hrx hra (by omega) (by omega) J1m q1q hp r1 (fun j hj=>(ht j (by omega)).1) (fun j hj=>(hs j (by omega)).1)
 refine⟨N,fun j hj=> ?_⟩
 have A:=N.at (j:=j) (by omega)
 refine⟨by rw [A.val];exact(hs j hj).2.mono (by omega) (by omega),?_⟩
 have m:=J2a he hf ha hj ham (r3 j hj).2.1
 exact(y1p (ht j hj).1 H2h m).up (by omega)
theorem H4t {n:Nat} {f:List (List Mn)} {x:List Ivl} {p:Int} (hf:okFieldT n 3 3 f) (hn1:1≤n) (hn4:n≤4) (hx:x.length=n) (hxl: ∀j,j<n→luI 6 9 (x.getD j default)) (hw: ∀j,j<n→qN (x.getD j default).lo+p2 (-6)≤qN (x.getD j default).hi) (hp:Z0h p=true):
 (boxP f x z0q p).2=true:=by
 have pp:=V0b hp
 obtain⟨N0,H0⟩:=q1g (e:=9) hf hn1 hn4 hx hxl hx hxl (by omega) (by omega) hp (by omega) (by omega) (by omega) (fun j hj=>k1m (hxl j hj))
 have hfl:=hf.1
 have hb0l:(Y0t f x x z0q p).1.length=n:=by rw [N0.len,hfl]
 have b0m: ∀j,j<n→ampI 10 ((Y0t f x x z0q p).1.getD j default):=fun j hj=>by
  have A:=N0.at (j:=j) (by omega)
  rw [A.val]
  exact y1r (e:=9) A.s0 (k1m (hxl j hj)) ((H0 j hj).2.up (by omega))
 obtain⟨u1,u2,u3⟩:=H2f N0.rx N0.rightB (by omega)
 have b0lu: ∀j,j<n→luI 120 122 ((Y0t f x x z0q p).1.getD j default):=fun j hj=>(H0 j hj).1
 have hB:=N0.rightB
 generalize hb0:(Y0t f x x z0q p).1=b0 at*
 have hd: ∀j,j<n→luI 120 122 ((j0y x b0).1.getD j default)∧subI (x.getD j default) ((j0y x b0).1.getD j default)∧ampI 10 ((j0y x b0).1.getD j default):=fun j hj=>by
  rw [u3 j (by omega)]
  obtain⟨h1,h2,_⟩:=W3j ((hxl j hj).mono (L':=120) (U':=122) (by omega) (by omega)) (b0lu j hj)
  exact⟨h1,h2,w2f ((k1m (hxl j hj)).up (by omega)) (b0m j hj)⟩
 have rd:rightB (j0y x b0).1=true:=V0a (fun j hj=>(hd j (by omega)).1.1) (by omega) (by omega)
 have hbl: ∀j,j<n→_:=fun j hj=>Q3c (p:=p) (hd j hj).1 hp (by omega)
 have w0:(k0k (j0y x b0).1 p).2=0:=z2l ⟨rd,hp⟩ fun j hj=>(hbl j (by omega)).1
 obtain⟨_,v1,v2,v3⟩:=z2k w0
 have hwid:K1x x b0 p=k0k (j0y x b0).1 p:=by unfold K1x;rw [if_pos u1]
 generalize hd0:(j0y x b0).1=d at*
 have ha1: ∀j,j<n→(k0k d p).1.getD j default=(G0z (d.getD j default) p).1:=fun j hj=>v3 j (by omega)
 have a1l:(k0k d p).1.length=n:=by omega
 have a1lu: ∀j,j<n→luI 122 126 ((k0k d p).1.getD j default):=fun j hj=>by rw [ha1 j hj];exact(hbl j hj).2
 have a1m: ∀j,j<n→ampI 11 ((k0k d p).1.getD j default):=fun j hj=>by rw [ha1 j hj];exact z2j (hbl j hj).1 (hd j hj).2.2
 obtain⟨N1,H1⟩:=q1g (e:=11) hf hn1 hn4 hx hxl a1l a1lu (by omega) (by omega) hp (by omega) (by omega) (by omega) a1m
 have hin:inB (Y0t f x (k0k d p).1 z0q p).1 (k0k d p).1=true:=by
  refine inB_sub.2 ⟨N1.rightB,N1.ra,by rw [N1.len,a1l,hfl],fun j hj=> ?_⟩
  have hj:j<n:=by rw [N1.len] at hj;omega
  have A:=N1.at (j:=j) (by omega)
  obtain⟨e1,e2⟩:=y1s A.s0
  have r:=Z1c A.s0
  obtain⟨s,s1,s2,⟨v,_,v1,v2⟩,⟨u,_,u1,u2⟩,_⟩:=y0z (hbl j hj).1
  have hm:=(H1 j hj).2
  have hsub:=(hd j hj).2.1
  have hww:=hw j hj
  have q64:p2 (-6)=p2 (-8)*4:=by
   have:=j0g (-8) 2
   rw [Z3o] at this;exact this
  rw [A.val,ha1 j hj]
  refine⟨?_,?_⟩
  · rw [v2,e1]
    refine X1f pp ?_
    rw [v1,loV0,K0y,Z0u,Z0u]
    have:=hm.1.1
    have:=hsub.1
    have:=hsub.2
    grind
  · rw [u2,e2]
    refine K1s pp ?_
    rw [u1,hiV0,K0y,Z0u,Z0u]
    have:=hm.2.2
    have:=hsub.1
    have:=hsub.2
    grind
 unfold boxP
 rw [Z1t,if_pos (nextP_iff.2 N0),hb0,hwid,if_pos w0,Z1t,if_pos (nextP_iff.2 N1)]
 simp only [Bool.false_eq_true,if_false,if_true,List.nil_append,List.cons_append]
 rw [z2i,if_pos hin]
end Go.Pv
end
