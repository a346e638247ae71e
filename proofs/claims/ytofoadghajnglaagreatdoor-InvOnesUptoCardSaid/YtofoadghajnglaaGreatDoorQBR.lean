/- Parts of the walk: N66, N67, N68, N69, N70, N71, M59, M52, M65. -/
import Derived.Test.YtofoadghajnglaaGreatDoorQBQ
import Derived.Test.YtofoadghajnglaaGreatDoorQAD
import Derived.Test.YtofoadghajnglaaGreatDoorQAH
import Derived.Test.YtofoadghajnglaaGreatDoorQBE
import Derived.Test.YtofoadghajnglaaGreatDoorQAE
import Derived.Test.YtofoadghajnglaaGreatDoorQH
import Derived.Test.YtofoadghajnglaaGreatDoorQBD
import Derived.Test.YtofoadghajnglaaGreatDoorQAQ
set_option linter.unusedVariables false
set_option linter.unusedSimpArgs false
section
/-picard.Next,Sure,wider,next. -/
set_option maxRecDepth 100000
namespace Go.Pv
open Go.Proofs
def K2g (f:List (List Mn)) (x a:List Ivl) (h:Nm) (p:Int):List Ivl×Int:=
 if J1i f=true∧rightB x=true∧rightB a=true∧x.length=f.length∧a.length=f.length∧Q0i h=true∧ ¬sgnN (ownN h)≤0∧Z0b p=true then
  if (K0k f a p).2=0 then
   if (G0n ⟨default,h⟩ (K0k f a p).1 p).2=0 then opB 0 x (G0n ⟨default,h⟩ (K0k f a p).1 p).1 p else([],(G0n ⟨default,h⟩ (K0k f a p).1 p).2)
  else([],(K0k f a p).2)
 else([],1)
end Go.Pv
end
section
/-Boxes taken apart and put together;where solutions go. No program in it. -/
namespace Go.Pv
theorem v1p {k:Nat} {a b:List Ivl} {p:Int} (h:(opB k a b p).2=0):(rightB a=true∧rightB b=true∧a.length=b.length∧Z0b p=true)∧(opB k a b p).1.length=a.length∧
 (∀j,j<a.length→(opI k (a.getD j default) (b.getD j default) p).2=0)∧ ∀j,j<a.length→(opB k a b p).1.getD j default=(opI k (a.getD j default) (b.getD j default) p).1:=by
 unfold opB at h⊢
 by_cases c:rightB a=true∧rightB b=true∧a.length=b.length∧Z0b p=true
 · rw [if_pos c,G0d] at h
   rw [if_pos c,G0d]
   exact⟨c,H0r h⟩
 · rw [if_neg c] at h;exact absurd h (by decide)
theorem q1q {x:Ivl} {b:List Ivl} {p:Int} (h:(G0n x b p).2=0):(rightB b=true∧Q0v x=true∧Z0b p=true)∧(G0n x b p).1.length=b.length∧
 (∀j,j<b.length→(opI 2 x (b.getD j default) p).2=0)∧ ∀j,j<b.length→(G0n x b p).1.getD j default=(opI 2 x (b.getD j default) p).1:=by
 unfold G0n at h⊢
 by_cases c:rightB b=true∧Q0v x=true∧Z0b p=true
 · rw [if_pos c,G0d] at h
   rw [if_pos c,G0d]
   exact⟨c,H0r h⟩
 · rw [if_neg c] at h;exact absurd h (by decide)
theorem X2y {h:Nm} (hr:Q0i h=true):(¬sgnN (ownN h)≤0)↔0<qN h:=by
 unfold ownN
 rw [if_pos hr,←H2r];omega
structure NextOK (f:List (List Mn)) (x a:List Ivl) (h:Nm) (p:Int):Prop where
 rf:J1i f=true
 rx:rightB x=true
 ra:rightB a=true
 lx:x.length=f.length
 la:a.length=f.length
 rh:Q0i h=true
 ph:0<qN h
 pp:Z0b p=true
 e1:(K0k f a p).2=0
 e2:(G0n ⟨default,h⟩ (K0k f a p).1 p).2=0
 e3:(opB 0 x (G0n ⟨default,h⟩ (K0k f a p).1 p).1 p).2=0
theorem NextOK.val {f:List (List Mn)} {x a:List Ivl} {h:Nm} {p:Int} (n:NextOK f x a h p):(K2g f x a h p).1=(opB 0 x (G0n ⟨default,h⟩ (K0k f a p).1 p).1 p).1:=by
 unfold K2g
 rw [if_pos ⟨n.rf,n.rx,n.ra,n.lx,n.la,n.rh,(X2y n.rh).2 n.ph,n.pp⟩,if_pos n.e1,if_pos n.e2]
theorem W1u {f:List (List Mn)} {a:List Ivl} {p:Int} (h:(K0k f a p).2=0):(J1i f=true∧a.length=f.length)∧(K0k f a p).1.length=f.length∧ ∀j,j<f.length→(K0k f a p).1.getD j default=(G0p (f.getD j []) a p (f.getD j []).length).1∧(G0p (f.getD j []) a p (f.getD j []).length).2=0:=by
 unfold K0k at h⊢
 by_cases c:J1i f=true∧a.length=f.length
 · rw [if_pos c] at h⊢
   obtain⟨g1,g2,g3⟩:=H0r h
   refine⟨c,g1,fun j hj=> ?_⟩
   have e:=g2 j hj
   rw [g3 j hj]
   show(G1s (f.getD j []) a p).1=_∧_
   replace e:(G1s (f.getD j []) a p).2=0:=e
   unfold G1s at e⊢
   split at e
   · rename_i d;rw [if_pos d];exact⟨rfl,e⟩
   · exact absurd e (by decide)
 · rw [if_neg c] at h;exact absurd h (by decide)
structure NextAt (f:List (List Mn)) (x a:List Ivl) (h:Nm) (p:Int) (j:Nat):Prop where
 r0:(G0p (f.getD j []) a p (f.getD j []).length).2=0
 t0:(opI 2 ⟨default,h⟩ (G0p (f.getD j []) a p (f.getD j []).length).1 p).2=0
 s0:(opI 0 (x.getD j default) (opI 2 ⟨default,h⟩ (G0p (f.getD j []) a p (f.getD j []).length).1 p).1 p).2=0
 val:(K2g f x a h p).1.getD j default=(opI 0 (x.getD j default) (opI 2 ⟨default,h⟩ (G0p (f.getD j []) a p (f.getD j []).length).1 p).1 p).1
theorem NextOK.at {f:List (List Mn)} {x a:List Ivl} {h:Nm} {p:Int} (n:NextOK f x a h p) {j:Nat} (hj:j<f.length):NextAt f x a h p j:=by
 obtain⟨_,r1,r2⟩:=W1u n.e1
 obtain⟨r3,r4⟩:=r2 j hj
 obtain⟨_,t1,t2,t3⟩:=q1q n.e2
 obtain⟨_,s1,s2,s3⟩:=v1p n.e3
 have t2:=t2 j (by omega)
 have t3:=t3 j (by omega)
 have s2:=s2 j (by rw [n.lx];exact hj)
 have s3:=s3 j (by rw [n.lx];exact hj)
 rw [r3] at t2 t3
 rw [t3] at s2 s3
 exact⟨r4,t2,s2,by rw [n.val];exact s3⟩
theorem z1u {k:Nat} {a b:List Ivl} {p:Int} (h:(opB k a b p).2=0):rightB (opB k a b p).1=true:=by
 obtain⟨c,l,_,v⟩:=v1p h
 have:=z0n c.1
 exact k0i (fun j hj=>by rw [v j (by omega)];exact U0b _ _ _ _) (by omega) (by omega)
theorem NextOK.rightB {f:List (List Mn)} {x a:List Ivl} {h:Nm} {p:Int} (n:NextOK f x a h p):Go.Pv.rightB (K2g f x a h p).1=true:=by
 rw [n.val];exact z1u n.e3
theorem z1n {k:Nat} {a b:Nm} {p:Int} {up:Bool} (h:(Q0p k a b p up).2=0):Q0i a=true∧Q0i b=true∧Z0b p=true:=by
 unfold Q0p at h
 split at h
 · assumption
 · exact absurd h (by decide)
theorem V0q {k:Nat} {a b:Nm} {p:Int} {up:Bool} (h:(Q0p k a b p up).2=0):qN (Q0p k a b p up).1=qV (Z0l (exV k (ofN a) (ofN b)) p.toNat up):=by
 have c:=z1n h
 unfold Q0p at h⊢
 rw [if_pos c] at h⊢
 exact(G0b (J0n (U1m k (K0d c.1) (K0d c.2.1)) _ _) h).2
end Go.Pv
end
section
/-Quotients rounded:the greatest value of p bits that is not above the quotient,the least that is not below it. No program in it. -/
namespace Go.Pv
theorem J2l {N B:Nat} (hB:0<B) (j:Int):2*j≤((2*(N/B)+(if N % B=0 then 0 else 1):Nat):Int)↔j*B≤(N:Int):=by
 have h3:j≤((N/B:Nat):Int)↔j*B≤(N:Int):=by
  rw [Int.natCast_ediv]
  exact Int.le_ediv_iff_mul_le (by omega)
 rw [←h3]
 generalize N/B=F
 split<;>omega
theorem J2k {N B:Nat} (hB:0<B) (j:Int):2*j≤ -((2*(N/B)+(if N % B=0 then 0 else 1):Nat):Int)↔j*B≤ -(N:Int):=by
 have h1:=Nat.div_add_mod N B
 have h2:=Nat.mod_lt N hB
 generalize N/B=F at*
 generalize N % B=r at*
 have hB':(0:Int)<B:=by exact_mod_cast hB
 have h1':(B:Int)*F+r=N:=by exact_mod_cast h1
 have h2':(r:Int)<B:=by exact_mod_cast h2
 clear h1 h2
 have up: ∀i:Int,i≤j→i*B≤j*B:=fun i hi=>Int.mul_le_mul_of_nonneg_right hi (Int.le_of_lt hB')
 have dn: ∀i:Int,j≤i→j*B≤i*B:=fun i hi=>Int.mul_le_mul_of_nonneg_right hi (Int.le_of_lt hB')
 have e0: -(F:Int)*B= -((B:Int)*F):=by rw [Int.neg_mul,Int.mul_comm]
 have e1:(-(F:Int)-1)*B= -((B:Int)*F)-B:=by rw [Int.sub_mul,e0,Int.one_mul]
 have e2:(-(F:Int)+1)*B= -((B:Int)*F)+B:=by rw [Int.add_mul,e0,Int.one_mul]
 generalize (B:Int)*F=Z at*
 have u0:=up (-(F:Int))
 have u2:=up (-(F:Int)+1)
 have d0:=dn (-(F:Int))
 have d1:=dn (-(F:Int)-1)
 rw [e0] at u0 d0
 rw [e1] at d1
 rw [e2] at u2
 generalize j*(B:Int)=W at*
 clear up dn e0 e1 e2
 split
 · constructor
   · intro h;have:=d0 (by omega);omega
   · intro h
     refine Int.not_lt.1 fun hn=> ?_
     have:=u2 (by omega);omega
 · constructor
   · intro h;have:=d1 (by omega);omega
   · intro h
     refine Int.not_lt.1 fun hn=> ?_
     have:=u0 (by omega);omega
theorem x2f {p:Nat} {x:Rat} (h:Z1u p x) (g:Int):(∃j:Int,x=qM j g)∨(qM (-((2^p:Nat):Int)) g≤x∧x≤qM ((2^p:Nat):Int) g):=by
 obtain⟨m,e,rfl,hm⟩:=h
 by_cases he:g≤e
 · exact .inl ⟨_,W1y m e g he⟩
 · right
   have hpos:(1:Int)≤2^(g-e).toNat:=by
    have:0<2^(g-e).toNat:=Nat.two_pow_pos _
    exact_mod_cast this
   rw [W1y _ g e (by omega),W1y _ g e (by omega),qM_le,qM_le,Int.neg_mul]
   generalize 2^p=P at*
   have h1:(P:Int)≤P*2^(g-e).toNat:=by
    calc (P:Int)=P*1:=(Int.mul_one _).symm
     _≤_:=Int.mul_le_mul_of_nonneg_left hpos (Int.natCast_nonneg _)
   generalize (P:Int)*2^(g-e).toNat=Z at*
   omega
theorem K2m {A B p:Nat} (hA:A≠0):2^(p+1)*B≤A*2^W0c A B p:=by
 have h1:=q0l hA
 have h2:=Nat.le_of_lt (Z0p B)
 have h0:1≤Q0g A:=by unfold Q0g;rw [if_neg hA];omega
 unfold W0c
 calc 2^(p+1)*B≤2^(p+1)*2^Q0g B:=Nat.mul_le_mul_left _ h2
  _=2^(p+1+Q0g B):=by rw [←Nat.pow_add]
  _≤2^((Q0g A-1)+(p+2+Q0g B-Q0g A)):=Nat.pow_le_pow_right (by decide) (by omega)
  _=2^(Q0g A-1)*2^(p+2+Q0g B-Q0g A):=Nat.pow_add ..
  _≤A*2^(p+2+Q0g B-Q0g A):=Nat.mul_le_mul_right _ h1
theorem w2v {a b:Vl} {p:Nat} (hb:b.neg=false) (hB:0<b.m) {x:Rat} (hx:Z1u p x):x≤qV (ratV a b p)↔x*qV b≤qV a:=by
 have hqb:qV b=qM (b.m:Int) b.e:=by unfold qV J0g;rw [hb];rfl
 have hb0:0<qV b:=by
  rw [hqb,←J0f b.e,qM_lt];omega
 by_cases hA:a.m=0
 · have e1:qV (ratV a b p)=0:=by unfold ratV;rw [if_pos hA];exact J0f 0
   rw [e1,J1q hA]
   constructor
   · intro h;have:=Rat.mul_le_mul_of_nonneg_right h (Rat.le_of_lt hb0);rwa [Rat.zero_mul] at this
   · intro h;exact Rat.le_of_mul_le_mul_right (by rwa [Rat.zero_mul]) hb0
 · obtain⟨t,ht⟩: ∃t,W0c a.m b.m p=t:=⟨_,rfl⟩
   have big:=K2m (B:=b.m) (p:=p) hA
   rw [ht] at big
   have hv:qV (ratV a b p)=qM (if a.neg=true then -((2*(a.m*2^t/b.m)+(if a.m*2^t % b.m=0 then 0 else 1):Nat):Int) else((2*(a.m*2^t/b.m)+(if a.m*2^t % b.m=0 then 0 else 1):Nat):Int)) (a.e-b.e-(t:Int)-1):=by
    unfold ratV x0v
    rw [if_neg hA,q0h,hb,ht,Bool.bne_false]
   have ha:qV a=qM (if a.neg=true then -((a.m*2^t:Nat):Int) else((a.m*2^t:Nat):Int)) (a.e-(t:Int)):=by
    have e1:(if a.neg=true then -((a.m*2^t:Nat):Int) else((a.m*2^t:Nat):Int))=J0g a*2^t:=by
     unfold J0g;cases a.neg<;>simp [Int.neg_mul]
    rw [e1,Y0t]
    unfold qV;congr 1;omega
   rw [hqb] at hb0
   rw [hv,ha,hqb]
   generalize a.m*2^t=N at*
   have hg: ∀j:Int,qM j (a.e-b.e-(t:Int))*qM (b.m:Int) b.e=qM (j*b.m) (a.e-(t:Int)):=fun j=>by rw [←v1d];congr 1;omega
   have hg2: ∀j:Int,qM j (a.e-b.e-(t:Int))=qM (2*j) (a.e-b.e-(t:Int)-1):=fun j=>by
    rw [Int.mul_comm,show(2:Int)=2^1 from rfl,Y0t];congr 1;omega
   rcases x2f hx (a.e-b.e-(t:Int)) with ⟨j,rfl⟩ | ⟨l1,l2⟩
   · rw [hg,hg2,qM_le,qM_le]
     cases a.neg
     · exact J2l hB j
     · exact J2k hB j
   · have hF:2^(p+1)≤N/b.m:=(Nat.le_div_iff_mul_le hB).2 big
     have hP:=Nat.two_pow_pos p
     rw [Nat.pow_succ] at hF big
     generalize 2^p=P at*
     have big2:2*((P:Int)*b.m)≤N:=by
      have:P*2*b.m≤N:=big
      have e:P*2*b.m=2*(P*b.m):=by rw [Nat.mul_comm P 2,Nat.mul_assoc]
      rw [e] at this
      exact_mod_cast this
     have hPB:(0:Int)<(P:Int)*b.m:=by
      have:=Nat.mul_pos hP hB
      exact_mod_cast this
     cases hn:a.neg
     · rw [if_neg Bool.false_ne_true,if_neg Bool.false_ne_true]
       refine⟨fun _=> ?_,fun _=> ?_⟩
       · refine Rat.le_trans (Rat.mul_le_mul_of_nonneg_right l2 (Rat.le_of_lt hb0)) ?_
         rw [hg,qM_le];omega
       · refine Rat.le_trans l2 ?_
         rw [hg2,qM_le];omega
     · rw [if_pos rfl,if_pos rfl]
       constructor
       · intro h;exfalso
         have:=Rat.le_trans l1 h
         rw [hg2,qM_le] at this
         omega
       · intro h;exfalso
         have:=Rat.le_trans (Rat.mul_le_mul_of_nonneg_right l1 (Rat.le_of_lt hb0)) h
         rw [hg,qM_le,Int.neg_mul] at this
         omega
theorem X2h (a:Vl) {b:Vl} (p:Nat) (hb:b.neg=false):qV (ratV (K0a a) b p)= -qV (ratV a b p):=by
 by_cases h0:a.m=0
 · have e:K0a a=a:=by unfold K0a;rw [if_pos h0]
   have e1:qV (ratV a b p)=0:=by unfold ratV;rw [if_pos h0];exact J0f 0
   rw [e,e1];rfl
 · have e3:(K0a a).neg= !a.neg:=by unfold K0a;rw [if_neg h0]
   unfold ratV
   rw [Q1q,Q1r,e3,if_neg h0,if_neg h0,q0h,q0h,←x0n,hb]
   congr 1
   cases a.neg<;>simp
theorem K1t {p:Nat} {x:Rat} (hx:Z1u p x):Z1u p (-x):=by
 obtain⟨m,e,rfl,h⟩:=hx
 exact⟨-m,e,(x0n _ _).symm,by rw [Int.natAbs_neg];exact h⟩
theorem w2w {a b:Vl} {p:Nat} (hb:b.neg=false) (hB:0<b.m) {x:Rat} (hx:Z1u p x):qV (ratV a b p)≤x↔qV a≤x*qV b:=by
 have:=w2v (a:=K0a a) hb hB (K1t hx)
 rw [X2h a p hb,W0k,Rat.neg_mul] at this
 constructor
 · intro h;have:=this.1 (by grind);grind
 · intro h;have:=this.2 (by grind);grind
theorem x2d (v:Vl) (p:Nat):Z1u p (qV (Z0l v p true)):=by rw [z1f];exact K1t (x2e _ _)
end Go.Pv
end
