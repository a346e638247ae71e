/- Parts of the walk: M65. -/
import Derived.Test.YtofoadghajnglaaGreatDoorZCB
import Derived.Test.YtofoadghajnglaaGreatDoorZBR
import Derived.Test.YtofoadghajnglaaGreatDoorZAQ
import Derived.Test.YtofoadghajnglaaGreatDoorZBE
set_option linter.unusedVariables false
set_option linter.unusedSimpArgs false
section
/-Quotients rounded:the greatest value of p bits that is not above the quotient,the least that is not below it. No program in it. -/
namespace Go.Pv
theorem U2w {N B:Nat} (hB:0<B) (j:Int):2*j≤((2*(N/B)+(if N % B=0 then 0 else 1):Nat):Int)↔j*B≤(N:Int):=by
 have h3:j≤((N/B:Nat):Int)↔j*B≤(N:Int):=by
  rw [Int.natCast_ediv]
  exact Int.le_ediv_iff_mul_le (by omega)
 rw [←h3]
 generalize N/B=F
 split<;>omega
theorem U2v {N B:Nat} (hB:0<B) (j:Int):2*j≤ -((2*(N/B)+(if N % B=0 then 0 else 1):Nat):Int)↔j*B≤ -(N:Int):=by
 have h1:=Nat.div_add_mod N B
 have h2:=Nat.mod_lt N hB
 generalize N/B=F at*
 generalize N % B=r at*
 have hB':(0:Int)<B:=by exact_mod_cast hB
 have h1':(B:Int)*F+r=N:=by exact_mod_cast h1
 have h2':(r:Int)<B:=by exact_mod_cast h2
 clear h1 h2
 have up: ∀i:Int,i≤j→i*B≤j*B:=fun i hi=>Int.mul_le_mul_of_nonneg_right hi (Int.le_of_lt hB')
 have dn: ∀i:Int,j≤i→j*B≤i*B:=fun i hi=>Int.mul_le_mul_of_nonneg_right hi (Int.le_of_lt hB')
 have e0: -(F:Int)*B= -((B:Int)*F):=by rw [Int.neg_mul,Int.mul_comm]
 have e1:(-(F:Int)-1)*B= -((B:Int)*F)-B:=by rw [Int.sub_mul,e0,Int.one_mul]
 have e2:(-(F:Int)+1)*B= -((B:Int)*F)+B:=by rw [Int.add_mul,e0,Int.one_mul]
 generalize (B:Int)*F=Z at*
 have u0:=up (-(F:Int))
 have u2:=up (-(F:Int)+1)
 have d0:=dn (-(F:Int))
 have d1:=dn (-(F:Int)-1)
 rw [e0] at u0 d0
 rw [e1] at d1
 rw [e2] at u2
 generalize j*(B:Int)=W at*
 clear up dn e0 e1 e2
 split
 · constructor
   · intro h;have:=d0 (by omega);omega
   · intro h
     refine Int.not_lt.1 fun hn=> ?_
     have:=u2 (by omega);omega
 · constructor
   · intro h;have:=d1 (by omega);omega
   · intro h
     refine Int.not_lt.1 fun hn=> ?_
     have:=u0 (by omega);omega
theorem Q3d {p:Nat} {x:Rat} (h:Y1a p x) (g:Int):(∃j:Int,x=qM j g)∨(qM (-((2^p:Nat):Int)) g≤x∧x≤qM ((2^p:Nat):Int) g):=by
 obtain⟨m,e,rfl,hm⟩:=h
 by_cases he:g≤e
 · exact .inl ⟨_,z1i m e g he⟩
 · right
   have hpos:(1:Int)≤2^(g-e).toNat:=by
    have:0<2^(g-e).toNat:=Nat.two_pow_pos _
    exact_mod_cast this
   rw [z1i _ g e (by omega),z1i _ g e (by omega),qM_le,qM_le,Int.neg_mul]
   generalize 2^p=P at*
   have h1:(P:Int)≤P*2^(g-e).toNat:=by
    calc (P:Int)=P*1:=(Int.mul_one _).symm
     _≤_:=Int.mul_le_mul_of_nonneg_left hpos (Int.natCast_nonneg _)
   generalize (P:Int)*2^(g-e).toNat=Z at*
   omega
theorem G2z {A B p:Nat} (hA:A≠0):2^(p+1)*B≤A*2^J0s A B p:=by
 have h1:=k0s hA
 have h2:=Nat.le_of_lt (Q0z B)
 have h0:1≤Q0g A:=by unfold Q0g;rw [if_neg hA];omega
 unfold J0s
 calc 2^(p+1)*B≤2^(p+1)*2^Q0g B:=Nat.mul_le_mul_left _ h2
  _=2^(p+1+Q0g B):=by rw [←Nat.pow_add]
  _≤2^((Q0g A-1)+(p+2+Q0g B-Q0g A)):=Nat.pow_le_pow_right (by decide) (by omega)
  _=2^(Q0g A-1)*2^(p+2+Q0g B-Q0g A):=Nat.pow_add ..
  _≤A*2^(p+2+Q0g B-Q0g A):=Nat.mul_le_mul_right _ h1
theorem V3d {a b:Vl} {p:Nat} (hb:b.neg=false) (hB:0<b.m) {x:Rat} (hx:Y1a p x):x≤qV (ratV a b p)↔x*qV b≤qV a:=by
 have hqb:qV b=qM (b.m:Int) b.e:=by unfold qV X0w;rw [hb];rfl
 have hb0:0<qV b:=by
  rw [hqb,←K0q b.e,qM_lt];omega
 by_cases hA:a.m=0
 · have e1:qV (ratV a b p)=0:=by unfold ratV;rw [if_pos hA];exact K0q 0
   rw [e1,U1z hA]
   constructor
   · intro h;have:=Rat.mul_le_mul_of_nonneg_right h (Rat.le_of_lt hb0);rwa [Rat.zero_mul] at this
   · intro h;exact Rat.le_of_mul_le_mul_right (by rwa [Rat.zero_mul]) hb0
 · obtain⟨t,ht⟩: ∃t,J0s a.m b.m p=t:=⟨_,rfl⟩
   have big:=G2z (B:=b.m) (p:=p) hA
   rw [ht] at big
   have hv:qV (ratV a b p)=qM (if a.neg=true then -((2*(a.m*2^t/b.m)+(if a.m*2^t % b.m=0 then 0 else 1):Nat):Int) else((2*(a.m*2^t/b.m)+(if a.m*2^t % b.m=0 then 0 else 1):Nat):Int)) (a.e-b.e-(t:Int)-1):=by
    unfold ratV q0n
    rw [if_neg hA,k0o,hb,ht,Bool.bne_false]
   have ha:qV a=qM (if a.neg=true then -((a.m*2^t:Nat):Int) else((a.m*2^t:Nat):Int)) (a.e-(t:Int)):=by
    have e1:(if a.neg=true then -((a.m*2^t:Nat):Int) else((a.m*2^t:Nat):Int))=X0w a*2^t:=by
     unfold X0w;cases a.neg<;>simp [Int.neg_mul]
    rw [e1,H0w]
    unfold qV;congr 1;omega
   rw [hqb] at hb0
   rw [hv,ha,hqb]
   generalize a.m*2^t=N at*
   have hg: ∀j:Int,qM j (a.e-b.e-(t:Int))*qM (b.m:Int) b.e=qM (j*b.m) (a.e-(t:Int)):=fun j=>by rw [←X2t];congr 1;omega
   have hg2: ∀j:Int,qM j (a.e-b.e-(t:Int))=qM (2*j) (a.e-b.e-(t:Int)-1):=fun j=>by
    rw [Int.mul_comm,show(2:Int)=2^1 from rfl,H0w];congr 1;omega
   rcases Q3d hx (a.e-b.e-(t:Int)) with ⟨j,rfl⟩ | ⟨l1,l2⟩
   · rw [hg,hg2,qM_le,qM_le]
     cases a.neg
     · exact U2w hB j
     · exact U2v hB j
   · have hF:2^(p+1)≤N/b.m:=(Nat.le_div_iff_mul_le hB).2 big
     have hP:=Nat.two_pow_pos p
     rw [Nat.pow_succ] at hF big
     generalize 2^p=P at*
     have big2:2*((P:Int)*b.m)≤N:=by
      have:P*2*b.m≤N:=big
      have e:P*2*b.m=2*(P*b.m):=by rw [Nat.mul_comm P 2,Nat.mul_assoc]
      rw [e] at this
      exact_mod_cast this
     have hPB:(0:Int)<(P:Int)*b.m:=by
      have:=Nat.mul_pos hP hB
      exact_mod_cast this
     cases hn:a.neg
     · rw [if_neg Bool.false_ne_true,if_neg Bool.false_ne_true]
       refine⟨fun _=> ?_,fun _=> ?_⟩
       · refine Rat.le_trans (Rat.mul_le_mul_of_nonneg_right l2 (Rat.le_of_lt hb0)) ?_
         rw [hg,qM_le];omega
       · refine Rat.le_trans l2 ?_
         rw [hg2,qM_le];omega
     · rw [if_pos rfl,if_pos rfl]
       constructor
       · intro h;exfalso
         have:=Rat.le_trans l1 h
         rw [hg2,qM_le] at this
         omega
       · intro h;exfalso
         have:=Rat.le_trans (Rat.mul_le_mul_of_nonneg_right l1 (Rat.le_of_lt hb0)) h
         rw [hg,qM_le,Int.neg_mul] at this
         omega
theorem Y2s (a:Vl) {b:Vl} (p:Nat) (hb:b.neg=false):qV (ratV (K0j a) b p)= -qV (ratV a b p):=by
 by_cases h0:a.m=0
 · have e:K0j a=a:=by unfold K0j;rw [if_pos h0]
   have e1:qV (ratV a b p)=0:=by unfold ratV;rw [if_pos h0];exact K0q 0
   rw [e,e1];rfl
 · have e3:(K0j a).neg= !a.neg:=by unfold K0j;rw [if_neg h0]
   unfold ratV
   rw [w0a,w0b,e3,if_neg h0,if_neg h0,k0o,k0o,←y0l,hb]
   congr 1
   cases a.neg<;>simp
theorem G1x {p:Nat} {x:Rat} (hx:Y1a p x):Y1a p (-x):=by
 obtain⟨m,e,rfl,h⟩:=hx
 exact⟨-m,e,(y0l _ _).symm,by rw [Int.natAbs_neg];exact h⟩
theorem V3e {a b:Vl} {p:Nat} (hb:b.neg=false) (hB:0<b.m) {x:Rat} (hx:Y1a p x):qV (ratV a b p)≤x↔qV a≤x*qV b:=by
 have:=V3d (a:=K0j a) hb hB (G1x hx)
 rw [Y2s a p hb,G0e,Rat.neg_mul] at this
 constructor
 · intro h;have:=this.1 (by grind);grind
 · intro h;have:=this.2 (by grind);grind
theorem Q3b (v:Vl) (p:Nat):Y1a p (qV (Z0f v p true)):=by rw [w1w];exact G1x (Q3c _ _)
end Go.Pv
end
