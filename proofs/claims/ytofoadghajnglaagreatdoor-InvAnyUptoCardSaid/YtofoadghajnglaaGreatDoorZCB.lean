/- Parts of the walk: M62, N81, N82, N83, N85, N86. -/
import Derived.Test.YtofoadghajnglaaGreatDoorZY
import Derived.Test.YtofoadghajnglaaGreatDoorZAB
import Derived.Test.YtofoadghajnglaaGreatDoorZF
import Derived.Test.YtofoadghajnglaaGreatDoorZL
import Derived.Test.YtofoadghajnglaaGreatDoorZAE
import Derived.Test.YtofoadghajnglaaGreatDoorZG
import Derived.Test.YtofoadghajnglaaGreatDoorZAF
import Derived.Test.YtofoadghajnglaaGreatDoorZBE
set_option linter.unusedVariables false
set_option linter.unusedSimpArgs false
section
/-Quotients,with a bit more that says whether something was left. No program in it. -/
namespace Go.Pv
def J0s (a b:Nat) (p:Nat):Nat:=p+2+Q0g b-Q0g a
def q0n (a b:Nat) (p:Nat):Nat:=2*(a*2^J0s a b p/b)+if a*2^J0s a b p % b=0 then 0 else 1
def ratV (a b:Vl) (p:Nat):Vl:=if a.m=0 then⟨false,0,0⟩ else oddV (a.neg !=b.neg) (q0n a.m b.m p) (a.e-b.e-(J0s a.m b.m p:Int)-1)
theorem Q1g (a b:Vl) (p:Nat):canV (ratV a b p):=by
 unfold ratV
 split
 · exact .inr rfl
 · exact Q1h _ _ _
def divN (a b:Nm) (p:Int) (up:Bool):Nm×Int:=numV (Z0f (ratV (ofN a) (ofN b) p.toNat) p.toNat up)
end Go.Pv
end
section
/-math/bits.LeadingZeros64;Div64 by what has half a word. -/
set_option maxRecDepth 100000
namespace Go.Pv
open Go.Proofs
theorem j2k (v:Nat) (hv:v<18446744073709551616) (st:Q0f):PCalls Tryz.prog 277 [.sc (.int .u64 v)] st (fun r st'=>r= .sc (.int .i64 ((64-Q0g v:Nat):Int))∧st'=st):=by
 refine Q0b none Tryz.func277 rfl fun E=>Q0a ?_
 simp -dsimp only [go_sem]
 refine(K2d v hv st).mono ?_
 rintro r st ⟨rfl,rfl⟩
 have hb:Q0g v≤64:=bitlen_le_iff.2 (by omega)
 have e:IntKind.i64.wrap (64-(Q0g v:Int))=((64-Q0g v:Nat):Int):=by rw [Q0t _ (by omega) (by omega)];omega
 simp -dsimp only [go_sem,e]
theorem U0o (x:Int):IntKind.u64.wrap x=x % 18446744073709551616:=by
 simp [IntKind.wrap,IntKind.bits,IntKind.signed]
end Go.Pv
end
section
/-nat.byWord,nat.Div by what has half a word. -/
set_option maxRecDepth 100000
namespace Go.Pv
open Go.Proofs
theorem j1e (a:List UInt64) (d k:Nat) (hd:0<d) (h0:0<k):
 valW (a.drop (k-1))/d=(valW (a.drop k) % d*18446744073709551616+(a.getD (k-1) 0).toNat)/d+18446744073709551616*(valW (a.drop k)/d)∧
 valW (a.drop (k-1)) % d=(valW (a.drop k) % d*18446744073709551616+(a.getD (k-1) 0).toNat) % d:=by
 have h:=G0j a (k-1)
 rw [show k-1+1=k by omega] at h
 have e:valW (a.drop (k-1))=d*(18446744073709551616*(valW (a.drop k)/d))+(valW (a.drop k) % d*18446744073709551616+(a.getD (k-1) 0).toNat):=by
  rw [h]
  have:=Nat.div_add_mod (valW (a.drop k)) d
  generalize valW (a.drop k)/d=q at*
  generalize valW (a.drop k) % d=r at*
  rw [←this]
  grind
 rw [e]
 refine⟨?_,?_⟩
 · rw [Nat.mul_add_div hd,Nat.add_comm]
 · rw [Nat.mul_add_mod]
theorem W2g {r d x:Nat} (hr:r<d) (hx:x<18446744073709551616):(r*18446744073709551616+x)/d<18446744073709551616:=by
 rw [Nat.div_lt_iff_lt_mul (by omega)]
 have:(r+1)*18446744073709551616≤d*18446744073709551616:=Nat.mul_le_mul_right _ hr
 rw [Nat.mul_comm 18446744073709551616 d]
 omega
theorem q1n {d:Nat} (h0:0<d) (h:d<18446744073709551616):Q0l d= [UInt64.ofNat d]:=by
 unfold Q0l
 rw [digs,dif_neg (by omega),Nat.mod_eq_of_lt h,Nat.div_eq_of_lt h,K0w]
 rfl
end Go.Pv
end
section
/-round.quotient,round.Div by what has half a word. -/
set_option maxRecDepth 100000
namespace Go.Pv
open Go.Proofs
theorem Y0g (m s:Nat):Q0g (m*2^s)≤Q0g m+s:=bitlen_le_iff.2 (by
 rw [Nat.pow_add];exact Nat.mul_lt_mul_of_pos_right (Q0z m) (Nat.two_pow_pos _))
def X2r (a b:Nm) (p:Nat):Nm:=⟨a.neg !=b.neg,a.exp-b.exp-(J0s (valW a.w) (valW b.w) p:Int)-1,Q0l (q0n (valW a.w) (valW b.w) p)⟩
theorem X2p {a b:Nm} {p:Nat} (h:valW a.w≠0):ofX (X2r a b p)=ratV (ofN a) (ofN b) p:=by
 unfold ratV
 rw [if_neg (show¬(ofN a).m=0 from h)]
 show oddV (a.neg !=b.neg) (valW (Q0l (q0n (valW a.w) (valW b.w) p))) _=_
 rw [Q0y]
 rfl
end Go.Pv
end
section
/-The document's Div,bit by bit. -/
set_option maxRecDepth 100000
namespace Go.Pv
open Go.Proofs
theorem k2l (l:List UInt32) (j:Nat) (hj:j<l.length):(l.getD j 0).toNat=valD l/4294967296^j % 4294967296:=by
 rw [z0e l j (by omega),v0y]
 have:=UInt32.toNat_lt (l.getD j 0)
 omega
theorem bitD (m i:Nat) (hi:i/32<(Q0c m).length):((Q0c m).getD (i/32) 0).toNat/2^(i % 32) % 2=m/2^i % 2:=by
 rw [k2l _ _ hi,Q0x,y0q]
 have h1:m/2^i=m/2^(32*(i/32))/2^(i % 32):=by
  rw [Nat.div_div_eq_div_mul,←Nat.pow_add];congr 2;omega
 rw [h1]
 generalize m/2^(32*(i/32))=x
 have hs:i % 32<32:=Nat.mod_lt _ (by decide)
 generalize i % 32=s at*
 have t:=Nat.testBit_mod_two_pow x 32 s
 rw [decide_eq_true hs,Bool.true_and,Nat.testBit_eq_decide_div_mod_eq,Nat.testBit_eq_decide_div_mod_eq] at t
 have t2:=decide_eq_decide.1 t
 rw [show(4294967296:Nat)=2^32 from rfl]
 have a1:=Nat.mod_lt (x % 2^32/2^s) (show 0<2 by decide)
 have a2:=Nat.mod_lt (x/2^s) (show 0<2 by decide)
 omega
theorem V2q (m n k:Nat) (hn:0<n) (h0:0<k):m/2^(k-1)=2*(m/2^k)+m/2^(k-1) % 2:=by
 have e:m/2^k=m/2^(k-1)/2:=by
  rw [Nat.div_div_eq_div_mul,←Nat.pow_succ];congr 2;omega
 rw [e];omega
theorem U3q (x n b:Nat) (hn:0<n) (hb:b<2):(2*x+b)/n=2*(x/n)+(if n≤2*(x % n)+b then 1 else 0)∧(2*x+b) % n=2*(x % n)+b-(if n≤2*(x % n)+b then n else 0):=by
 have h1:=Nat.div_add_mod x n
 have h2:=Nat.mod_lt x hn
 generalize hq:x/n=q at*
 generalize hr:x % n=r at*
 have e:2*x+b=n*(2*q)+(2*r+b):=by rw [←h1];grind
 rw [e,Nat.mul_add_div hn,Nat.mul_add_mod]
 split
 · rename_i hle
   have e2:2*r+b=n*1+(2*r+b-n):=by omega
   rw [e2,Nat.mul_add_div hn,Nat.mul_add_mod,Nat.div_eq_of_lt (by omega),Nat.mod_eq_of_lt (by omega)]
   omega
 · rename_i hle
   rw [Nat.div_eq_of_lt (by omega),Nat.mod_eq_of_lt (by omega)]
   omega
theorem setB (o:List UInt32) (i Q:Nat) (hi:i/32<o.length) (hv:valD o=Q*2^(i+1)):
 ((o.getD (i/32) 0).toNat|||2^(i % 32))<4294967296∧valD (o.set (i/32) (UInt32.ofNat ((o.getD (i/32) 0).toNat|||2^(i % 32))))=(2*Q+1)*2^i:=by
 have hd:=k2l o (i/32) hi
 have hs:i % 32<32:=Nat.mod_lt _ (by decide)
 have hdiv:valD o/4294967296^(i/32)=Q*2^(i % 32+1):=by
  rw [hv,y0q,show i+1=(i % 32+1)+32*(i/32) by omega,Nat.pow_add,←Nat.mul_assoc,Nat.mul_div_cancel _ (Nat.two_pow_pos _)]
 rw [hdiv] at hd
 have hm:(o.getD (i/32) 0).toNat % 2^(i % 32+1)=0:=by
  rw [hd,show(4294967296:Nat)=2^(i % 32+1)*2^(31-i % 32) by rw [←Nat.pow_add,show i % 32+1+(31-i % 32)=32 by omega],Nat.mod_mul_right_mod,Nat.mul_mod_left]
 have hor:(o.getD (i/32) 0).toNat|||2^(i % 32)=2^(i % 32)+(o.getD (i/32) 0).toNat:=by
  rw [Nat.or_comm]
  exact Z1u _ _ (i % 32+1) (Nat.pow_lt_pow_right (by decide) (by omega)) hm
 have hlt:(o.getD (i/32) 0).toNat|||2^(i % 32)<4294967296:=by
  rw [show(4294967296:Nat)=2^32 from rfl]
  exact Nat.or_lt_two_pow (by have:=UInt32.toNat_lt (o.getD (i/32) 0);exact this) (Nat.pow_lt_pow_right (by decide) hs)
 refine⟨hlt,?_⟩
 have hset:=j0u o (i/32) (UInt32.ofNat ((o.getD (i/32) 0).toNat|||2^(i % 32))) hi
 rw [X0h _ hlt,hor,Nat.mul_add] at hset
 rw [hor]
 have hp:4294967296^(i/32)*2^(i % 32)=2^i:=by rw [y0q,←Nat.pow_add];congr 1;omega
 rw [hp,hv] at hset
 rw [Nat.add_mul,Nat.one_mul,Nat.mul_comm 2 Q,Nat.mul_assoc,show 2*2^i=2^(i+1) by rw [Nat.pow_succ];omega]
 omega
theorem U2t (m n:Nat) (st:Q0f) (hm:(Q0c m).length≤1000000000) (hn0:0<n) (hn:(Q0c n).length≤1000000000):PCalls Tryz.prog 245 [.sl .no (encD (Q0c m)),.sl .no (encD (Q0c n))] st
 (fun r st'=>r= .tup [.sl .no (encD (Q0c (m/n))),.sl .no (encD (Q0c (m % n)))]∧st'=st):=by
 have hbl:Q0g m≤32*(Q0c m).length:=bitlen_le_iff.2 (by
  have:=q0e (Q0c m)
  rw [Q0x,y0q] at this
  exact this)
 refine Q0b none Tryz.func245 rfl fun E=>Q0a ?_
 simp -dsimp only [go_sem]
 refine⟨by omega,?_⟩
 refine(k0n m st (by omega)).mono ?_
 rintro r st ⟨rfl,rfl⟩
 have e1:IntKind.i64.wrap ((Q0g m:Int)-1)=(Q0g m:Int)-1:=Q0t _ (by omega) (by omega)
 simp -dsimp only [go_sem,e1]
 refine Z1o [false,false,false,false,false,false,false,true] ?_
 simp -dsimp only [go_sem]
 refine Q0e [true,true,false,false,false,false,true,true,true] 1 0
  (fun c s'=> ∃(k:Nat) (o:List UInt32),k=c∧k≤Q0g m∧o.length=(Q0c m).length∧valD o=m/2^k/n*2^k∧
   s'=⟨[.sl .no (encD (Q0c m)),.sl .no (encD (Q0c n)),.junk,.junk,.junk,.junk,.ms false 0 0 (Q0c m).length,.sl .no (encD (Q0c (m/2^k % n))),.sc (.int .i64 ((k:Int)-1))]++List.replicate 45 .junk,[encD o],[],st⟩) (Q0g m) ?_ ?_
 · simp -dsimp only [go_sem]
   have h0:m/2^Q0g m=0:=Nat.div_eq_of_lt (Q0z m)
   refine⟨Q0g m,List.replicate (Q0c m).length 0,rfl,Nat.le_refl _,by simp,by rw [h0,v0x];simp,?_⟩
   rw [h0,Nat.zero_mod,Z0h]
   rfl
 · rintro c s' ⟨k,o,rfl,hk,ho,hv,rfl⟩
   simp -dsimp only [go_sem]
   refine ck (fun h=> ?_) (fun h=> ?_)
   · have h0:0<k:=by have:=of_decide_eq_true h;omega
     have e2:(k:Int)-1=((k-1:Nat):Int):=by omega
     have hki:(k-1)/32<(Q0c m).length:=by omega
     have hs32:(k-1) % 32<32:=Nat.mod_lt _ (by decide)
     have q1:IntKind.i64.wrap (((k-1:Nat):Int).tdiv 32)=(((k-1)/32:Nat):Int):=by
      rw [show(32:Int)=((32:Nat):Int) from rfl,U0t,Q0k _ (by omega)]
     have q2:((k-1:Nat):Int).tmod 32=(((k-1) % 32:Nat):Int):=by
      rw [show(32:Int)=((32:Nat):Int) from rfl,z0l]
     have g1:=X0q (Q0c m) ((k-1)/32) hki
     have s1:=Y1m ((Q0c m).getD ((k-1)/32) 0).toNat ((k-1) % 32) (by omega)
     have hbit:=bitD m (k-1) hki
     have hdl:=UInt32.toNat_lt ((Q0c m).getD ((k-1)/32) 0)
     have s2:bAnd .u32 ((((Q0c m).getD ((k-1)/32) 0).toNat/2^((k-1) % 32):Nat):Int) 1=((m/2^(k-1) % 2:Nat):Int):=by
      have:=Y1n (((Q0c m).getD ((k-1)/32) 0).toNat/2^((k-1) % 32)) 1 (Nat.lt_of_le_of_lt (Nat.div_le_self _ _) hdl) (by decide)
      rw [Nat.and_one_is_mod,hbit] at this
      exact this
     obtain⟨d1,d2⟩:=U3q (m/2^k) n (m/2^(k-1) % 2) hn0 (Nat.mod_lt _ (by decide))
     rw [←V2q m n k hn0 h0] at d1 d2
     have hrl:m/2^k % n<n:=Nat.mod_lt _ hn0
     have hb2:m/2^(k-1) % 2<2:=Nat.mod_lt _ (by decide)
     have hlr: ∀x,x≤2*n→(Q0c x).length≤1000000001:=fun x hx=>by
      have h1:=G0b (n:=x) (k:=(Q0c n).length+1) (by
       have h2:=q0e (Q0c n)
       rw [Q0x] at h2
       rw [Nat.pow_succ];omega)
      omega
     generalize hr:m/2^k % n=r at*
     generalize hb:m/2^(k-1) % 2=b at*
     simp -dsimp only [go_sem,e2]
     refine(q0m r 1 _ (by have:=hlr r (by omega);omega) (by omega)).mono ?_
     rintro rr st ⟨rfl,rfl⟩
     rw [Nat.pow_one]
     simp -dsimp only [go_sem,q1,q2,g1,s1,s2]
     refine⟨⟨by omega,by omega⟩,by omega,?_⟩
     obtain⟨t,ht⟩: ∃t,t=2*r+b:=⟨_,rfl⟩
     rw [←ht] at d1 d2
     have hto:(k-1)/32<o.length:=by omega
     have e4:IntKind.i64.wrap (((k-1:Nat):Int)-1)=((k-1:Nat):Int)-1:=Q0t _ (by omega) (by omega)
     have b01:b=0∨b=1:=by omega
     rcases b01 with hb0 | hb1
     have f1:((b:Int)==1)=false:=beq_eq_false_iff_ne.2 (by omega)
     simp -dsimp only [go_sem,f1]
     rw [show r*2=t by omega]
     rotate_left
     have f1:((b:Int)==1)=true:=by rw [hb1];rfl
     simp -dsimp only [go_sem,f1]
     have a1:=y0z (r*2) 1 st (by have:=hlr (r*2) (by omega);omega) (by have:=hlr 1 (by omega);omega)
     rw [show Q0c 1= [1] from by decide+kernel,show r*2+1=t by omega] at a1
     refine a1.mono ?_
     rintro rr st ⟨rfl,rfl⟩
     simp -dsimp only [go_sem]
     all_goals
      refine(k1g t n _ (by have:=hlr t (by omega);omega) (by omega)).mono ?_
      rintro rr st ⟨rfl,rfl⟩
      by_cases hge:n≤t
      · have c1:decide (cmpW t n≥0)=true:=decide_eq_true (by unfold cmpW cmpI;split<;>(try split)<;>omega)
        rw [if_pos hge] at d1 d2
        simp -dsimp only [go_sem,c1]
        refine(W1h t n _ (by have:=hlr t (by omega);omega) hge).mono ?_
        rintro rr st ⟨rfl,rfl⟩
        have hvk:valD o=m/2^k/n*2^(k-1+1):=by rw [hv];congr 2;omega
        obtain⟨b1,b2⟩:=setB o (k-1) (m/2^k/n) hto hvk
        have g2:=X0q o ((k-1)/32) hto
        have hp32:2^((k-1) % 32)<4294967296:=by rw [show(4294967296:Nat)=2^32 from rfl];exact Nat.pow_lt_pow_right (by decide) hs32
        have sh1:bShl .u32 1 (((k-1) % 32:Nat):Int)=((2^((k-1) % 32):Nat):Int):=by
         have:=v1x 1 ((k-1) % 32) (by omega)
         rw [Nat.one_mul,Nat.mod_eq_of_lt hp32] at this
         exact this
        have or1:bOr .u32 (((o.getD ((k-1)/32) 0).toNat:Nat):Int) ((2^((k-1) % 32):Nat):Int)=(((UInt32.ofNat ((o.getD ((k-1)/32) 0).toNat|||2^((k-1) % 32))).toNat:Nat):Int):=by
         rw [W2q _ _ (UInt32.toNat_lt _) hp32,X0h _ b1]
        have o1:=z0c o ((k-1)/32) (UInt32.ofNat ((o.getD ((k-1)/32) 0).toNat|||2^((k-1) % 32))) hto
        simp -dsimp only [go_sem]
        refine Q0j Z0g 54 (.step 0 [] (.step 1 [] (.step 2 [] (.step 3 [] (.step 4 [] (.step 5 [] (.step 6 [] (.step 7 [] (.step 8 [] (.step 9 [] (.step 10 [] (.done)))))))))))) (by decide+kernel) (by simp) ?_
        simp -dsimp only [go_sem,q1,q2,g2,sh1,or1,o1,e4]
        refine⟨⟨by omega,by omega⟩,by omega,by omega,⟨by omega,by omega⟩,⟨by omega,by omega⟩,k-1,by omega,k-1,o.set ((k-1)/32) (UInt32.ofNat ((o.getD ((k-1)/32) 0).toNat|||2^((k-1) % 32))),rfl,by omega,by rw [List.length_set];exact ho,?_,by rw [d2]⟩
        rw [b2,d1]
      · have c1:decide (cmpW t n≥0)=false:=decide_eq_false (by unfold cmpW cmpI;split<;>(try split)<;>omega)
        rw [if_neg hge] at d1 d2
        simp -dsimp only [go_sem,c1,e4]
        refine⟨k-1,by omega,k-1,o,rfl,by omega,ho,?_,by rw [d2,Nat.sub_zero]⟩
        rw [hv,d1,Nat.add_zero,Nat.mul_comm 2,Nat.mul_assoc]
        congr 1
        rw [show k=k-1+1 by omega,Nat.pow_succ];simp [Nat.mul_comm]
   · have hz:k=0:=by have:=of_decide_eq_false h;omega
     subst hz
     have ht:o.take (Q0c m).length=o:=List.take_of_length_le (by omega)
     have hle:(Q0c m).length≤o.length:=by omega
     rw [Nat.pow_zero,Nat.div_one,Nat.mul_one] at hv
     rw [Nat.pow_zero,Nat.div_one]
     simp -dsimp only [go_sem]
     refine Z0u 0 ?_ ?_
     · simp -dsimp only [go_sem]
     refine Q0a ?_
     simp -dsimp only [go_sem,ht,hle]
     refine(Q1q o st (by omega)).mono ?_
     rintro rr st ⟨rfl,rfl⟩
     simp -dsimp only [go_sem]
     rw [←J0g o,hv]
end Go.Pv
end
section
/-The document's Ratio,quot,Op:quotients by a number above nought. -/
set_option maxRecDepth 100000
namespace Go.Pv
open Go.Proofs
theorem V0h (m s:Nat):Q0g (m*2^s)≤Q0g m+s:=bitlen_le_iff.2 (by
 rw [Nat.pow_add];exact Nat.mul_lt_mul_of_pos_right (Q0z m) (Nat.two_pow_pos _))
theorem W2o {a b:Vl} {p:Nat} (ha:bdV 4096 65536 a) (hb:bdV 4096 65536 b) (hp:p≤256):bdV 10000 1000000 (ratV a b p):=by
 unfold ratV
 split
 · refine⟨?_,?_,?_⟩
   · show Q0g 0≤_;rw [X0l];omega
   · show -((1000000:Nat):Int)≤0;omega
   · show(0:Int)≤((1000000:Nat):Int);omega
 · have h1:=ha.1
   have h2:=hb.1
   have hm:J0s a.m b.m p≤4400:=by unfold J0s;omega
   have hq:Q0g (q0n a.m b.m p)≤10000:=by
    have q1:q0n a.m b.m p≤a.m*2^J0s a.m b.m p*2^2:=by
     unfold q0n
     have:=Nat.div_le_self (a.m*2^J0s a.m b.m p) b.m
     have:=Nat.mod_le (a.m*2^J0s a.m b.m p) b.m
     split
     · omega
     · rename_i hne
       have:a.m*2^J0s a.m b.m p≠0:=fun e=>by rw [e,Nat.zero_mod] at hne;exact hne rfl
       omega
    have h3:=X0x q1
    have h4:=V0h (a.m*2^J0s a.m b.m p) 2
    have h5:=V0h a.m (J0s a.m b.m p)
    omega
   exact(j1g (neg:=a.neg !=b.neg) (n:=10000) (k:=900000) hq (by have:=ha.2;have:=hb.2;omega) (by have:=ha.2;have:=hb.2;omega)).mono (by omega) (by omega)
set_option maxHeartbeats 4000000 in
theorem w2d (a b:Vl) (p:Nat) (up:Bool) (st:Q0f) (ha:bdV 4096 65536 a) (hb:bdV 4096 65536 b) (hb0:0<b.m) (hp:p≤256):
 PCalls Tryz.prog 189 [.agg (encV a),.agg (encV b),.sc (.int .i64 p),.sc (.bool up)] st (fun r st'=>r= .agg (encV (Z0f (ratV a b p) p up))∧st'=st):=by
 have dga:=J0b ha (by omega)
 have dgb:=J0b hb (by omega)
 have la:(Q0c a.m).length≤200:=by have:=Z0o a.m;have:=ha.1;omega
 have lb:(Q0c b.m).length≤200:=by have:=Z0o b.m;have:=hb.1;omega
 have hbd:=W2o ha hb hp
 refine Q0b none Tryz.func189 rfl fun E=>Q0a ?_
 by_cases h0:a.m=0
 · have f1:(((Q0c a.m).length:Int)==0)=true:=by rw [h0,Z0h];rfl
   simp -dsimp only [go_sem,f1]
   unfold ratV
   rw [if_pos h0]
   unfold Z0f
   rw [if_pos (by show Q0g 0≤p;rw [X0l];omega)]
   rw [Z0h]
   rfl
 · have hne:Q0c a.m≠ []:=fun e=>h0 (digitsOf_nil.1 e)
   have f1:(((Q0c a.m).length:Int)==0)=false:=beq_eq_false_iff_ne.2 (fun e=>hne (List.eq_nil_of_length_eq_zero (by omega)))
   have h1:=ha.1
   have h2:=hb.1
   have e1:IntKind.i64.wrap ((p:Int)+2)=((p+2:Nat):Int):=by rw [Q0t _ (by omega) (by omega)];omega
   have e2:IntKind.i64.wrap (((p+2:Nat):Int)+(Q0g b.m:Int))=((p+2+Q0g b.m:Nat):Int):=by rw [Q0t _ (by omega) (by omega)];omega
   have e3:IntKind.i64.wrap (((p+2+Q0g b.m:Nat):Int)-(Q0g a.m:Int))=((p+2+Q0g b.m:Nat):Int)-(Q0g a.m:Int):=Q0t _ (by omega) (by omega)
   have mx:(if 0>((p+2+Q0g b.m:Nat):Int)-(Q0g a.m:Int) then 0 else((p+2+Q0g b.m:Nat):Int)-(Q0g a.m:Int))=((J0s a.m b.m p:Nat):Int):=by
    unfold J0s;split<;>omega
   have hs:J0s a.m b.m p≤4400:=by unfold J0s;omega
   have hrat:ratV a b p=oddV (a.neg !=b.neg) (q0n a.m b.m p) (a.e-b.e-(J0s a.m b.m p:Int)-1):=by unfold ratV;rw [if_neg h0]
   have hqm:q0n a.m b.m p=2*(a.m*2^J0s a.m b.m p/b.m)+if a.m*2^J0s a.m b.m p % b.m=0 then 0 else 1:=rfl
   have hshl:=V0h a.m (J0s a.m b.m p)
   have hdl:=Z0o (a.m*2^J0s a.m b.m p)
   rw [hqm] at hrat
   generalize J0s a.m b.m p=s at*
   have hqb:=X0x (Nat.div_le_self (a.m*2^s) b.m)
   have hmod:(Q0c (a.m*2^s % b.m)).length=0↔a.m*2^s % b.m=0:=by
    constructor
    · intro h;exact digitsOf_nil.1 (List.eq_nil_of_length_eq_zero h)
    · intro h;rw [h,Z0h];rfl
   simp -dsimp only [go_sem,f1]
   refine Q0j Z0g 66 (.step 0 [] (.step 1 [] (.step 2 [] (.step 3 [] (.step 6 [] (.step 7 [] (.step 4 [7] (.step 5 [] (.step 8 [] (.step 9 [] (.step 10 [] (.step 11 [] (.done))))))))))))) (by decide+kernel) (by simp) ?_
   simp -dsimp only [go_sem]
   refine(k0n b.m _ (by omega)).mono ?_
   rintro r st ⟨rfl,rfl⟩
   simp -dsimp only [go_sem]
   refine(k0n a.m _ (by omega)).mono ?_
   rintro r st ⟨rfl,rfl⟩
   simp -dsimp only [go_sem,e1,e2,e3,mx]
   refine Q0j Z0g 66 (.step 0 [] (.step 1 [] (.step 2 [] (.step 4 [] (.step 5 [] (.step 3 [5] (.step 6 [] (.step 7 [] (.step 8 [] (.step 9 [] (.step 10 [] (.step 11 [] (.done))))))))))))) (by decide+kernel) (by simp) ?_
   simp -dsimp only [go_sem]
   refine(q0m a.m s _ (by omega) (by omega)).mono ?_
   rintro r st ⟨rfl,rfl⟩
   simp -dsimp only [go_sem]
   refine(U2t (a.m*2^s) b.m _ (by omega) hb0 (by omega)).mono ?_
   rintro r st ⟨rfl,rfl⟩
   have e4:IntKind.i64.wrap (a.e-b.e)=a.e-b.e:=Q0t _ (by have:=ha.2;have:=hb.2;omega) (by have:=ha.2;have:=hb.2;omega)
   have e5:IntKind.i64.wrap (a.e-b.e-(s:Int))=a.e-b.e-(s:Int):=Q0t _ (by have:=ha.2;have:=hb.2;omega) (by have:=ha.2;have:=hb.2;omega)
   have e6:IntKind.i64.wrap (a.e-b.e-(s:Int)-1)=a.e-b.e-(s:Int)-1:=Q0t _ (by have:=ha.2;have:=hb.2;omega) (by have:=ha.2;have:=hb.2;omega)
   have hneg:(!(a.neg==b.neg))=(a.neg !=b.neg):=rfl
   have hq2: ∀q:Nat,q*2=2*q:=fun q=>Nat.mul_comm _ _
   have hqd:(Q0c (a.m*2^s/b.m)).length≤1000:=by have:=Z0o (a.m*2^s/b.m);omega
   have hb2:=V0h (a.m*2^s/b.m) 1
   have hb3:Q0g (a.m*2^s/b.m*2^1+1)≤10000:=by
    have h3:a.m*2^s/b.m*2^1+1≤(a.m*2^s/b.m+1)*2^1:=by omega
    have h4:=X0x h3
    have h5:=V0h (a.m*2^s/b.m+1) 1
    have h6:Q0g (a.m*2^s/b.m+1)≤Q0g (a.m*2^s/b.m)+1:=bitlen_le_iff.2 (by
     have:=Q0z (a.m*2^s/b.m)
     rw [Nat.pow_succ];omega)
    omega
   generalize a.m*2^s/b.m=q at*
   generalize a.m*2^s % b.m=rr at*
   by_cases hz:rr=0
   · have f2:decide (((Q0c rr).length:Int)>0)=false:=decide_eq_false (by have:=hmod.2 hz;omega)
     rw [if_pos hz,Nat.add_zero] at hrat
     have hodd:oddV (a.neg !=b.neg) q (a.e-b.e-(s:Int))=ratV a b p:=by
      rw [hrat,←hq2,←Nat.pow_one 2,Q1c];congr 1;omega
     simp -dsimp only [go_sem,f2,e4,e5]
     refine(G1g (!(a.neg==b.neg)) q (a.e-b.e-(s:Int)) _ (by omega) (by have:=ha.2;have:=hb.2;omega) (by have:=ha.2;have:=hb.2;omega)).mono ?_
     rintro r st ⟨rfl,rfl⟩
     rw [hneg,hodd]
     simp -dsimp only [go_sem]
     refine(Y0v (ratV a b p) p up _ (X0m hbd (by omega) (by omega)) (by omega)).mono ?_
     rintro r st ⟨rfl,rfl⟩
     simp -dsimp only [go_sem]
   · have f2:decide (((Q0c rr).length:Int)>0)=true:=decide_eq_true (by have:=fun h=>hz (hmod.1 h);omega)
     rw [if_neg hz,←hq2,←Nat.pow_one 2] at hrat
     simp -dsimp only [go_sem,f2,e4,e5]
     refine(q0m q 1 _ (by omega) (by omega)).mono ?_
     rintro r st ⟨rfl,rfl⟩
     simp -dsimp only [go_sem]
     have hone:(Q0c 1).length≤1000000000000:=by rw [show Q0c 1= [1] from by decide+kernel];simp
     have a1:=y0z (q*2^1) 1 st (by have:=Z0o (q*2^1);omega) hone
     rw [show Q0c 1= [1] from by decide+kernel] at a1
     refine a1.mono ?_
     rintro r st ⟨rfl,rfl⟩
     simp -dsimp only [go_sem,e4,e5,e6]
     refine(G1g (!(a.neg==b.neg)) (q*2^1+1) (a.e-b.e-(s:Int)-1) _ (by omega) (by have:=ha.2;have:=hb.2;omega) (by have:=ha.2;have:=hb.2;omega)).mono ?_
     rintro r st ⟨rfl,rfl⟩
     rw [hneg,←hrat]
     simp -dsimp only [go_sem]
     refine(Y0v (ratV a b p) p up _ (X0m hbd (by omega) (by omega)) (by omega)).mono ?_
     rintro r st ⟨rfl,rfl⟩
     simp -dsimp only [go_sem]
end Go.Pv
end
