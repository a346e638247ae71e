/- Parts of the walk: M65, M66. -/
import Derived.Test.YtagacielooaapaaGreatDoorZCB
import Derived.Test.YtagacielooaapaaGreatDoorZCC
import Derived.Test.YtagacielooaapaaGreatDoorZBM
import Derived.Test.YtagacielooaapaaGreatDoorZBV
import Derived.Test.YtagacielooaapaaGreatDoorZBN
set_option linter.unusedVariables false
set_option linter.unusedSimpArgs false
section
/-Quotients rounded:the greatest value of p bits that is not above the quotient,the least that is not below it. No program in it. -/
namespace Go.Pv
theorem j2p {N B:Nat} (hB:0<B) (j:Int):2*j≤((2*(N/B)+(if N % B=0 then 0 else 1):Nat):Int)↔j*B≤(N:Int):=by
 have h3:j≤((N/B:Nat):Int)↔j*B≤(N:Int):=by
  rw [Int.natCast_ediv]
  exact Int.le_ediv_iff_mul_le (by omega)
 rw [←h3]
 generalize N/B=F
 split<;>omega
theorem j2o {N B:Nat} (hB:0<B) (j:Int):2*j≤ -((2*(N/B)+(if N % B=0 then 0 else 1):Nat):Int)↔j*B≤ -(N:Int):=by
 have h1:=Nat.div_add_mod N B
 have h2:=Nat.mod_lt N hB
 generalize N/B=F at*
 generalize N % B=r at*
 have hB':(0:Int)<B:=by exact_mod_cast hB
 have h1':(B:Int)*F+r=N:=by exact_mod_cast h1
 have h2':(r:Int)<B:=by exact_mod_cast h2
 clear h1 h2
 have up: ∀i:Int,i≤j→i*B≤j*B:=fun i hi=>Int.mul_le_mul_of_nonneg_right hi (Int.le_of_lt hB')
 have dn: ∀i:Int,j≤i→j*B≤i*B:=fun i hi=>Int.mul_le_mul_of_nonneg_right hi (Int.le_of_lt hB')
 have e0: -(F:Int)*B= -((B:Int)*F):=by rw [Int.neg_mul,Int.mul_comm]
 have e1:(-(F:Int)-1)*B= -((B:Int)*F)-B:=by rw [Int.sub_mul,e0,Int.one_mul]
 have e2:(-(F:Int)+1)*B= -((B:Int)*F)+B:=by rw [Int.add_mul,e0,Int.one_mul]
 generalize (B:Int)*F=Z at*
 have u0:=up (-(F:Int))
 have u2:=up (-(F:Int)+1)
 have d0:=dn (-(F:Int))
 have d1:=dn (-(F:Int)-1)
 rw [e0] at u0 d0
 rw [e1] at d1
 rw [e2] at u2
 generalize j*(B:Int)=W at*
 clear up dn e0 e1 e2
 split
 · constructor
   · intro h;have:=d0 (by omega);omega
   · intro h
     refine Int.not_lt.1 fun hn=> ?_
     have:=u2 (by omega);omega
 · constructor
   · intro h;have:=d1 (by omega);omega
   · intro h
     refine Int.not_lt.1 fun hn=> ?_
     have:=u0 (by omega);omega
theorem W3u {p:Nat} {x:Rat} (h:U1q p x) (g:Int):(∃j:Int,x=qM j g)∨(qM (-((2^p:Nat):Int)) g≤x∧x≤qM ((2^p:Nat):Int) g):=by
 obtain⟨m,e,rfl,hm⟩:=h
 by_cases he:g≤e
 · exact .inl ⟨_,j1q m e g he⟩
 · right
   have hpos:(1:Int)≤2^(g-e).toNat:=by
    have:0<2^(g-e).toNat:=Nat.two_pow_pos _
    exact_mod_cast this
   rw [j1q _ g e (by omega),j1q _ g e (by omega),qM_le,qM_le,Int.neg_mul]
   generalize 2^p=P at*
   have h1:(P:Int)≤P*2^(g-e).toNat:=by
    calc (P:Int)=P*1:=(Int.mul_one _).symm
     _≤_:=Int.mul_le_mul_of_nonneg_left hpos (Int.natCast_nonneg _)
   generalize (P:Int)*2^(g-e).toNat=Z at*
   omega
theorem v2c {A B p:Nat} (hA:A≠0):2^(p+1)*B≤A*2^G0c A B p:=by
 have h1:=q0d hA
 have h2:=Nat.le_of_lt (Z0c B)
 have h0:1≤Q0g A:=by unfold Q0g;rw [if_neg hA];omega
 unfold G0c
 calc 2^(p+1)*B≤2^(p+1)*2^Q0g B:=Nat.mul_le_mul_left _ h2
  _=2^(p+1+Q0g B):=by rw [←Nat.pow_add]
  _≤2^((Q0g A-1)+(p+2+Q0g B-Q0g A)):=Nat.pow_le_pow_right (by decide) (by omega)
  _=2^(Q0g A-1)*2^(p+2+Q0g B-Q0g A):=Nat.pow_add ..
  _≤A*2^(p+2+Q0g B-Q0g A):=Nat.mul_le_mul_right _ h1
theorem Y2b {a b:Vl} {p:Nat} (hb:b.neg=false) (hB:0<b.m) {x:Rat} (hx:U1q p x):x≤qV (ratV a b p)↔x*qV b≤qV a:=by
 have hqb:qV b=qM (b.m:Int) b.e:=by unfold qV Z0w;rw [hb];rfl
 have hb0:0<qV b:=by
  rw [hqb,←J0s b.e,qM_lt];omega
 by_cases hA:a.m=0
 · have e1:qV (ratV a b p)=0:=by unfold ratV;rw [if_pos hA];exact J0s 0
   rw [e1,v0g hA]
   constructor
   · intro h;have:=Rat.mul_le_mul_of_nonneg_right h (Rat.le_of_lt hb0);rwa [Rat.zero_mul] at this
   · intro h;exact Rat.le_of_mul_le_mul_right (by rwa [Rat.zero_mul]) hb0
 · obtain⟨t,ht⟩: ∃t,G0c a.m b.m p=t:=⟨_,rfl⟩
   have big:=v2c (B:=b.m) (p:=p) hA
   rw [ht] at big
   have hv:qV (ratV a b p)=qM (if a.neg=true then -((2*(a.m*2^t/b.m)+(if a.m*2^t % b.m=0 then 0 else 1):Nat):Int) else((2*(a.m*2^t/b.m)+(if a.m*2^t % b.m=0 then 0 else 1):Nat):Int)) (a.e-b.e-(t:Int)-1):=by
    unfold ratV G0u
    rw [if_neg hA,z0g,hb,ht,Bool.bne_false]
   have ha:qV a=qM (if a.neg=true then -((a.m*2^t:Nat):Int) else((a.m*2^t:Nat):Int)) (a.e-(t:Int)):=by
    have e1:(if a.neg=true then -((a.m*2^t:Nat):Int) else((a.m*2^t:Nat):Int))=Z0w a*2^t:=by
     unfold Z0w;cases a.neg<;>simp [Int.neg_mul]
    rw [e1,V0q]
    unfold qV;congr 1;omega
   rw [hqb] at hb0
   rw [hv,ha,hqb]
   generalize a.m*2^t=N at*
   have hg: ∀j:Int,qM j (a.e-b.e-(t:Int))*qM (b.m:Int) b.e=qM (j*b.m) (a.e-(t:Int)):=fun j=>by rw [←w1w];congr 1;omega
   have hg2: ∀j:Int,qM j (a.e-b.e-(t:Int))=qM (2*j) (a.e-b.e-(t:Int)-1):=fun j=>by
    rw [Int.mul_comm,show(2:Int)=2^1 from rfl,V0q];congr 1;omega
   rcases W3u hx (a.e-b.e-(t:Int)) with ⟨j,rfl⟩ | ⟨l1,l2⟩
   · rw [hg,hg2,qM_le,qM_le]
     cases a.neg
     · exact j2p hB j
     · exact j2o hB j
   · have hF:2^(p+1)≤N/b.m:=(Nat.le_div_iff_mul_le hB).2 big
     have hP:=Nat.two_pow_pos p
     rw [Nat.pow_succ] at hF big
     generalize 2^p=P at*
     have big2:2*((P:Int)*b.m)≤N:=by
      have:P*2*b.m≤N:=big
      have e:P*2*b.m=2*(P*b.m):=by rw [Nat.mul_comm P 2,Nat.mul_assoc]
      rw [e] at this
      exact_mod_cast this
     have hPB:(0:Int)<(P:Int)*b.m:=by
      have:=Nat.mul_pos hP hB
      exact_mod_cast this
     cases hn:a.neg
     · rw [if_neg Bool.false_ne_true,if_neg Bool.false_ne_true]
       refine⟨fun _=> ?_,fun _=> ?_⟩
       · refine Rat.le_trans (Rat.mul_le_mul_of_nonneg_right l2 (Rat.le_of_lt hb0)) ?_
         rw [hg,qM_le];omega
       · refine Rat.le_trans l2 ?_
         rw [hg2,qM_le];omega
     · rw [if_pos rfl,if_pos rfl]
       constructor
       · intro h;exfalso
         have:=Rat.le_trans l1 h
         rw [hg2,qM_le] at this
         omega
       · intro h;exfalso
         have:=Rat.le_trans (Rat.mul_le_mul_of_nonneg_right l1 (Rat.le_of_lt hb0)) h
         rw [hg,qM_le,Int.neg_mul] at this
         omega
theorem x2r (a:Vl) {b:Vl} (p:Nat) (hb:b.neg=false):qV (ratV (K0i a) b p)= -qV (ratV a b p):=by
 by_cases h0:a.m=0
 · have e:K0i a=a:=by unfold K0i;rw [if_pos h0]
   have e1:qV (ratV a b p)=0:=by unfold ratV;rw [if_pos h0];exact J0s 0
   rw [e,e1];rfl
 · have e3:(K0i a).neg= !a.neg:=by unfold K0i;rw [if_neg h0]
   unfold ratV
   rw [Z1r,Z1s,e3,if_neg h0,if_neg h0,z0g,z0g,←v0h,hb]
   congr 1
   cases a.neg<;>simp
theorem Q2p {p:Nat} {x:Rat} (hx:U1q p x):U1q p (-x):=by
 obtain⟨m,e,rfl,h⟩:=hx
 exact⟨-m,e,(v0h _ _).symm,by rw [Int.natAbs_neg];exact h⟩
theorem Z3h {a b:Vl} {p:Nat} (hb:b.neg=false) (hB:0<b.m) {x:Rat} (hx:U1q p x):qV (ratV a b p)≤x↔qV a≤x*qV b:=by
 have:=Y2b (a:=K0i a) hb hB (Q2p hx)
 rw [x2r a p hb,W0m,Rat.neg_mul] at this
 constructor
 · intro h;have:=this.1 (by grind);grind
 · intro h;have:=this.2 (by grind);grind
theorem H2q (v:Vl) (p:Nat):U1q p (qV (Q0w v p true)):=by rw [x0n];exact Q2p (U1p _ _)
theorem q2m {a:Ivl} {c:Nm} {p:Int} (h:(divI a c p).2=0):Q0j a=true∧Z0h p=true:=by
 unfold divI at h
 split at h
 · assumption
 · cases h
theorem q2n {a:Ivl} {c:Nm} {p:Int} (h:(divI a c p).2=0):qN (divI a c p).1.lo=qV (Q0w (ratV (ofN a.lo) (ofN c) p.toNat) p.toNat false)∧qN (divI a c p).1.hi=qV (Q0w (ratV (ofN a.hi) (ofN c) p.toNat) p.toNat true):=by
 have hr:=q2m h
 unfold divI at h⊢
 rw [if_pos hr] at h⊢
 exact U1s (Q0y (x0u _ _ _) _ _) (Q0y (x0u _ _ _) _ _) h
theorem y2f {a:Ivl} {c:Nm} {p:Int} (hc:c.neg=false) (h0:0<valW c.w) (h:(divI a c p).2=0) {X:Rat} (hX:memI (X*qN c) a):memI X (divI a c p).1:=by
 obtain⟨e1,e2⟩:=q2n h
 have hq:0<qV (ofN c):=by
  unfold qV
  rw [←J0s (ofN c).e,qM_lt]
  show 0<mant c
  unfold mant;rw [hc,if_neg (by simp)];omega
 have r1:=(Y2b (a:=ofN a.lo) (b:=ofN c) hc h0 (U1p (ratV (ofN a.lo) (ofN c) p.toNat) p.toNat)).1 (V0x _ _)
 have r2:=(Z3h (a:=ofN a.hi) (b:=ofN c) hc h0 (H2q (ratV (ofN a.hi) (ofN c) p.toNat) p.toNat)).1 (W0w _ _)
 rw [Z0u,Z0u] at r1 r2
 rw [Z0u] at hq
 rw [←e1] at r1
 rw [←e2] at r2
 exact⟨Rat.le_of_mul_le_mul_right (Rat.le_trans r1 hX.1) hq,Rat.le_of_mul_le_mul_right (Rat.le_trans hX.2 r2) hq⟩
theorem Z3m : ∀n,n<12→0<n→(ptW n).neg=false∧0<valW (ptW n).w∧0≤(ptW n).exp∧(ptW n).exp+(Q0g (valW (ptW n).w):Int)≤4:=by decide+kernel
theorem Z3g {L U:Nat} {a b:Vl} {p:Nat} (ha:canV a) (h:luQ L U (qV a)) (hb:b.neg=false) (hB:0<b.m) (he:0≤b.e) (he':b.e+(Q0g b.m:Int)≤4):luQ (L+p+8) (U+2) (qV (ratV a b p)):=by
 by_cases hA:a.m=0
 · have e1:qV (ratV a b p)=0:=by unfold ratV;rw [if_pos hA];exact J0s 0
   rw [e1];exact W0r _ _
 · rcases U1f ha h with h1 | ⟨h1,h2⟩
   · exact absurd h1 hA
   · obtain⟨t,ht⟩: ∃t,G0c a.m b.m p=t:=⟨_,rfl⟩
     have htl:t≤p+2+Q0g b.m:=by rw [←ht];unfold G0c;omega
     have hv:qV (ratV a b p)=qM (if a.neg=true then -((G0u a.m b.m p:Nat):Int) else((G0u a.m b.m p:Nat):Int)) (a.e-b.e-(t:Int)-1):=by
      unfold ratV
      rw [if_neg hA,z0g,hb,ht,Bool.bne_false]
     have hq:G0u a.m b.m p≤2^(2+Q0g a.m+t):=by
      unfold G0u
      rw [ht]
      have h3:a.m*2^t/b.m≤a.m*2^t:=Nat.div_le_self _ _
      have h4:1≤a.m*2^t:=Nat.mul_pos (by omega) (Nat.two_pow_pos t)
      have h5:a.m*2^t≤2^Q0g a.m*2^t:=Nat.mul_le_mul_right _ (Nat.le_of_lt (Z0c a.m))
      rw [Nat.pow_add,Nat.pow_add,Nat.mul_assoc]
      generalize a.m*2^t=N at*
      generalize 2^Q0g a.m*2^t=M at*
      split<;>omega
     rw [hv]
     refine⟨(if a.neg=true then -((G0u a.m b.m p:Nat):Int) else((G0u a.m b.m p:Nat):Int))*2^(a.e-b.e-(t:Int)-1+((L+p+8:Nat):Int)).toNat,?_,?_⟩
     · rw [V0q];congr 1;omega
     · have e3:((if a.neg=true then -((G0u a.m b.m p:Nat):Int) else((G0u a.m b.m p:Nat):Int))*2^(a.e-b.e-(t:Int)-1+((L+p+8:Nat):Int)).toNat).natAbs=G0u a.m b.m p*2^(a.e-b.e-(t:Int)-1+((L+p+8:Nat):Int)).toNat:=by
        rw [Int.natAbs_mul,Int.natAbs_pow]
        generalize G0u a.m b.m p=M
        split
        · rw [Int.natAbs_neg];rfl
        · rfl
       rw [e3]
       calc G0u a.m b.m p*2^(a.e-b.e-(t:Int)-1+((L+p+8:Nat):Int)).toNat≤2^(2+Q0g a.m+t)*2^(a.e-b.e-(t:Int)-1+((L+p+8:Nat):Int)).toNat:=Nat.mul_le_mul_right _ hq
        _=2^(2+Q0g a.m+t+(a.e-b.e-(t:Int)-1+((L+p+8:Nat):Int)).toNat):=(Nat.pow_add ..).symm
        _≤_:=Nat.pow_le_pow_right (by decide) (by omega)
theorem Y3o {L U n:Nat} {a:Ivl} {p:Int} (ha:luI L U a) (hn:0<n) (hn2:n<12) (hp:Z0h p=true) (hbd:L+U+p.toNat+12≤4096):(divI a (ptW n) p).2=0∧luI (L+p.toNat+8) (U+3) (divI a (ptW n) p).1:=by
 obtain⟨c1,c2,c3,c4⟩:=Z3m n hn2 hn
 have pp:=V0b hp
 have ca:=canI ha.1
 have l1:luQ (L+p.toNat+8) (U+2) (qV (ratV (ofN a.lo) (ofN (ptW n)) p.toNat)):=Z3g ca.1 ha.2.1 c1 c2 c3 c4
 have l2:luQ (L+p.toNat+8) (U+2) (qV (ratV (ofN a.hi) (ofN (ptW n)) p.toNat)):=Z3g ca.2 ha.2.2 c1 c2 c3 c4
 have r1:=(Y2b (a:=ofN a.lo) (b:=ofN (ptW n)) c1 c2 (U1p (ratV (ofN a.lo) (ofN (ptW n)) p.toNat) p.toNat)).1 (V0x _ _)
 have r2:=(Z3h (a:=ofN a.hi) (b:=ofN (ptW n)) c1 c2 (H2q (ratV (ofN a.hi) (ofN (ptW n)) p.toNat) p.toNat)).1 (W0w _ _)
 have hq:0<qV (ofN (ptW n)):=by rw [Z0u];exact(Z3l n hn2 hn).2.1
 have hle:qV (ofN a.lo)≤qV (ofN a.hi):=U0i ha.1
 unfold divI
 rw [if_pos ⟨ha.1,hp⟩]
 exact Z1k (Q0y (x0u _ _ _) _ _) (Q0y (x0u _ _ _) _ _) (V0d (x0u _ _ _) l1 _ pp _) (V0d (x0u _ _ _) l2 _ pp _) (by omega) (Rat.le_of_mul_le_mul_right (Rat.le_trans r1 (Rat.le_trans hle r2)) hq)
end Go.Pv
end
section
/-Coefficients of a solution:of parts of the boxes they are parts,and of small boxes nothing fails. No program in it. -/
namespace Go.Pv
theorem Q2v {p:Int} {L U:Nat} (hp:Z0h p=true): ∀(l:List (Ivl×Ivl)) (sm:Bool) (s:Ivl) (U0:Nat),(∀x∈l,∃L1 U1 L2 U2,luI L1 U1 x.1∧luI L2 U2 x.2∧L1+L2≤L∧U1+U2+1≤U)→U≤U0→luI L U0 s→L+U0+2*l.length+3≤4096→
 (j0b p l sm s).2=0∧luI L (U0+2*l.length) (j0b p l sm s).1
 | [],sm,s,U0,_,_,hs,_=>⟨rfl,hs⟩
 | x::l,sm,s,U0,h,hU,hs,hb=>by
  obtain⟨L1,U1,L2,U2,a1,a2,a3,a4⟩:=h x (List.mem_cons_self ..)
  simp only [List.length_cons] at hb⊢
  obtain⟨c,d⟩:=Y1z a1 a2 hp (by omega)
  have d':=d.mono a3 (show U1+U2+1≤U0 by omega)
  have ih:=fun s U0=>Q2v hp l true s U0 (fun y hy=>h y (List.mem_cons_of_mem _ hy))
  rw [x0t,if_pos c]
  cases sm with
  | false=>
   rw [if_neg (by decide)]
   obtain⟨e1,e2⟩:=ih _ U0 hU d' (by omega)
   exact⟨e1,e2.mono (Nat.le_refl _) (by omega)⟩
  | true=>
   rw [if_pos rfl]
   obtain⟨f1,f2⟩:=q1c (k:=0) (by decide) hs d' hp (by omega)
   rw [if_pos f1]
   obtain⟨e1,e2⟩:=ih _ (U0+2) (by omega) f2 (by omega)
   exact⟨e1,e2.mono (Nat.le_refl _) (by omega)⟩
def subL (k:Nat) (a b:List Ivl):Prop:= ∀j,j≤k→subI (a.getD j default) (b.getD j default)
def grI (a u s r k:Nat) (l:List Ivl):Prop:=k<l.length∧ ∀j,j≤k→luI (a*j+s) (u*j+r) (l.getD j default)
theorem K2p {a b:List Ivl} {k:Nat} {p:Int} (h:(W0e a b k p).2=0):W0e a b k p=j0b p (z0i a b k) false default:=by
 unfold W0e at h⊢
 split
 · rfl
 · rename_i c;rw [if_neg c] at h;cases h
theorem y2j {a u s r s' r' k:Nat} {l l':List Ivl} {p:Int} (hp:Z0h p=true) (h:grI a u s r k l) (h':grI a u s' r' k l') (hb:a*k+(s+s')+(u*k+(r+r'+1))+2*k+5≤4096):
 (W0e l l' k p).2=0∧luI (a*k+(s+s')) (u*k+(r+r'+2*k+3)) (W0e l l' k p).1:=by
 have u1:Y0b l k=true:=Z1j h.1 fun j hj=>(h.2 j hj).1
 have u2:Y0b l' k=true:=Z1j h'.1 fun j hj=>(h'.2 j hj).1
 unfold W0e
 rw [if_pos ⟨hp,u1,u2⟩]
 have hl:(z0i l l' k).length=k+1:=by simp [z0i]
 have key:=Q2v (L:=a*k+(s+s')) (U:=u*k+(r+r'+1)) hp (z0i l l' k) false default (u*k+(r+r'+1)) (fun x hx=> ?_) (Nat.le_refl _) (Z1h _ _) (by rw [hl];omega)
 · refine⟨key.1,key.2.mono (Nat.le_refl _) ?_⟩
   rw [hl];omega
 · obtain⟨i,hi,rfl⟩:=List.mem_map.1 hx
   have hi:=List.mem_range.1 hi
   refine⟨_,_,_,_,h.2 i (by omega),h'.2 (k-i) (by omega),?_,?_⟩
   · have:a*i+a*(k-i)=a*k:=by rw [←Nat.mul_add];congr 1;omega
     omega
   · have:u*i+u*(k-i)=u*k:=by rw [←Nat.mul_add];congr 1;omega
     omega
theorem grI.low {a u s r k j:Nat} {l:List Ivl} (h:grI a u s r k l) (hj:j≤k):grI a u s r j l:=⟨by have:=h.1;omega,fun i hi=>h.2 i (by omega)⟩
theorem V2s {a u s r s' r' k K:Nat} {l l':List Ivl} {p:Int} (hp:Z0h p=true) (h:grI a u s r k l) (h':grI a u s' r' k l') (hk:k≤K) (hb:a*k+(s+s')+(u*k+(r+r'+1))+2*k+5≤4096):
 (G0g l l' k p).2=0∧grI a u (s+s') (r+r'+2*K+3) k (G0g l l' k p).1:=by
 have mono: ∀j,j≤k→a*j≤a*k∧u*j≤u*k:=fun j hj=>⟨Nat.mul_le_mul_left _ hj,Nat.mul_le_mul_left _ hj⟩
 have key: ∀j,j≤k→_:=fun j hj=>y2j hp (h.low hj) (h'.low hj) (by have:=mono j hj;omega)
 have h0:(tabF (fun j=>W0e l l' j p) 0 (k+1) []).2=0:=Y0o _ _ _ fun j _ hj=>(key j (by omega)).1
 obtain⟨x1,x2,x3⟩:=K0v h0
 refine⟨h0,by unfold G0g;omega,fun j hj=> ?_⟩
 show luI _ _ ((tabF (fun j=>W0e l l' j p) 0 (k+1) []).1.getD j default)
 rw [x3 j (by omega)]
 exact(key j hj).2.mono (Nat.le_refl _) (by omega)
theorem y1n {a u s r s1 r1 k K N:Nat} {l x:List Ivl} {p:Int} (hp:Z0h p=true) (hl:grI a u s r k l) (hx:grI a u s1 r1 k x) (hk:k≤K) (hb:a*k+(s+N*s1)+(u*k+(r+N*(r1+2*K+3)))+2*k+5≤4096):
 ∀n,n≤N→(V0k l x k p n).2=0∧grI a u (s+n*s1) (r+n*(r1+2*K+3)) k (V0k l x k p n).1
 | 0,_=>⟨rfl,by rw [Nat.zero_mul,Nat.zero_mul];exact hl⟩
 | n+1,hn=>by
  obtain⟨e1,e2⟩:=y1n hp hl hx hk hb n (by omega)
  rw [V0k,if_neg (by rw [e1];decide)]
  have m1:(n+1)*s1≤N*s1:=Nat.mul_le_mul_right _ hn
  have m2:(n+1)*(r1+2*K+3)≤N*(r1+2*K+3):=Nat.mul_le_mul_right _ hn
  have q1:(n+1)*s1=n*s1+s1:=Nat.succ_mul _ _
  have q2:(n+1)*(r1+2*K+3)=n*(r1+2*K+3)+(r1+2*K+3):=Nat.succ_mul _ _
  obtain⟨f1,f2⟩:=V2s hp e2 hx hk (by omega)
  refine⟨f1,?_⟩
  rw [show s+(n+1)*s1=s+n*s1+s1 by omega,show r+(n+1)*(r1+2*K+3)=r+n*(r1+2*K+3)+r1+2*K+3 by omega]
  exact f2
def subX (k:Nat) (xs ys:List (List Ivl)):Prop:=xs.length=ys.length∧ ∀i,i<xs.length→subL k (xs.getD i []) (ys.getD i [])
theorem V3n {a u Lc Uc k:Nat} {c:Nm} (hr:Q0i c=true) (hc:luQ Lc Uc (qN c)):grI a u Lc Uc k (numS c k):=by
 refine⟨by simp [numS],fun j hj=> ?_⟩
 cases j with
 | zero=>
  show luI _ _ (⟨c,c⟩:Ivl)
  exact(show luI Lc Uc ⟨c,c⟩ from⟨q0g hr,hc,hc⟩).mono (by omega) (by omega)
 | succ j=>
  have:(numS c k).getD (j+1) default=default:=by
   show(List.replicate k (default:Ivl)).getD j default=default
   simp [List.getD_eq_getElem?_getD,(by omega:j<k)]
  rw [this]
  exact Z1h _ _
theorem y1l {m:Mn} {xs:List (List Ivl)} {p:Int} {a u Lc Uc s1 r1 k K D:Nat} (hp:Z0h p=true) (hm:Q0i m.c=true∧luQ Lc Uc (qN m.c)) (hr:J0v m.ks=true) (hD:m.ks.sum≤D) (hlen:m.ks.length=xs.length) (hx: ∀i,i<xs.length→grI a u s1 r1 k (xs.getD i [])) (hk:k≤K)
 (hb:a*k+(Lc+D*s1)+(u*k+(Uc+D*(r1+2*K+3)))+2*k+5≤4096):
 ∀i,i≤xs.length→(J0e m xs k p i).2=0∧grI a u (Lc+sumK m.ks i*s1) (Uc+sumK m.ks i*(r1+2*K+3)) k (J0e m xs k p i).1
 | 0,_=>⟨rfl,by
  have e:sumK m.ks 0=0:=by simp [sumK]
  rw [e,Nat.zero_mul,Nat.zero_mul];exact V3n hm.1 hm.2⟩
 | i+1,hi=>by
  obtain⟨e1,e2⟩:=y1l hp hm hr hD hlen hx hk hb i (by omega)
  have hs:=K0e hr (i+1) (by omega)
  have hs0:=K0e hr i (by omega)
  have hat:=K0l hr i (by omega)
  have hst:=Y0p m.ks i (by omega)
  have hsum:sumK m.ks (i+1)=sumK m.ks i+(m.ks.getD i 0).toNat:=by unfold sumK;omega
  have hle:(sumK m.ks (i+1):Int)≤D:=j1e hr hD (by omega)
  have hle':sumK m.ks (i+1)≤D:=by omega
  rw [J0e,if_neg (by rw [e1];decide),hsum]
  rw [hsum] at hle'
  generalize (m.ks.getD i 0).toNat=n at*
  generalize sumK m.ks i=t at*
  have m1:(t+n)*s1≤D*s1:=Nat.mul_le_mul_right _ hle'
  have m2:(t+n)*(r1+2*K+3)≤D*(r1+2*K+3):=Nat.mul_le_mul_right _ hle'
  rw [Nat.add_mul] at m1 m2
  obtain⟨f1,f2⟩:=y1n hp e2 (hx i (by omega)) hk (N:=n) (by omega) n (Nat.le_refl _)
  refine⟨f1,?_⟩
  rw [Nat.add_mul,Nat.add_mul,←Nat.add_assoc,←Nat.add_assoc]
  exact f2
theorem Z3q {q:List Mn} {xs:List (List Ivl)} {p:Int} {a u Lc Uc s1 r1 k K D:Nat} (hp:Z0h p=true)
 (hq: ∀j,j<q.length→Q0i (q.getD j default).c=true∧luQ Lc Uc (qN (q.getD j default).c)∧J0v (q.getD j default).ks=true∧(q.getD j default).ks.sum≤D∧(q.getD j default).ks.length=xs.length)
 (hx: ∀i,i<xs.length→grI a u s1 r1 k (xs.getD i [])) (hk:k≤K) (hb:a*k+(Lc+D*s1)+(u*k+(Uc+D*(r1+2*K+3)))+2*k+2*q.length+5≤4096):
 ∀i,i≤q.length→(ofS q xs k p i).2=0∧luI (a*k+(Lc+D*s1)) (u*k+(Uc+D*(r1+2*K+3))+2*i) (ofS q xs k p i).1
 | 0,_=>⟨rfl,Z1h _ _⟩
 | i+1,hi=>by
  obtain⟨e1,e2⟩:=Z3q hp hq hx hk hb i (by omega)
  obtain⟨q1,q2,q3,q4,q5⟩:=hq i (by omega)
  obtain⟨f1,f2⟩:=y1l hp ⟨q1,q2⟩ q3 q4 q5 hx hk (by omega) xs.length (Nat.le_refl _)
  have hle:(sumK (q.getD i default).ks xs.length:Int)≤D:=j1e q3 q4 (by omega)
  have hle':sumK (q.getD i default).ks xs.length≤D:=by omega
  have m1:sumK (q.getD i default).ks xs.length*s1≤D*s1:=Nat.mul_le_mul_right _ hle'
  have m2:sumK (q.getD i default).ks xs.length*(r1+2*K+3)≤D*(r1+2*K+3):=Nat.mul_le_mul_right _ hle'
  have f3:=(f2.2 k (Nat.le_refl _)).mono (L':=a*k+(Lc+D*s1)) (U':=u*k+(Uc+D*(r1+2*K+3))+2*i) (by omega) (by omega)
  rw [ofS,if_neg (by rw [e1];decide),if_neg (by rw [f1];decide)]
  obtain⟨g1,g2⟩:=q1c (k:=0) (by decide) e2 f3 hp (by omega)
  exact⟨g1,g2.mono (Nat.le_refl _) (by omega)⟩
theorem X2o {q:List Mn} {xs:List (List Ivl)} {k p:Int} (h:(q0y q xs k p).2=0):K1z k p=true∧q0y q xs k p=ofS q xs k.toNat p q.length:=by
 unfold q0y at h⊢
 split
 · rename_i c;exact⟨c.1,rfl⟩
 · rename_i c;rw [if_neg c] at h;cases h
end Go.Pv
end
