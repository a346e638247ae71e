/- Parts of the walk: N15, N16. -/
import Derived.Test.YtagacielooaapaaGreatDoorZAD
import Derived.Test.YtagacielooaapaaGreatDoorZE
import Derived.Test.YtagacielooaapaaGreatDoorZM
import Derived.Test.YtagacielooaapaaGreatDoorZY
set_option linter.unusedVariables false
set_option linter.unusedSimpArgs false
section
/-Boxes:Of,Has,widths,Wide,blown,Blow,with,Halve. -/
set_option maxRecDepth 100000
namespace Go.Pv
open Go.Proofs
def wNs (l:List Nm):Prop:=l.length≤100000000000∧ ∀i,i<l.length→wN (l.getD i default)
theorem G3j (a:Ivl) (p:Int) (st:Q0e) (ha:wI a):PCalls Tryz.prog 234 [.agg (encI a),.sc (.int .i64 p)] st (fun r st'=>r= .tup [.agg (encI (V0g a p).1),.sc (.int .i64 (V0g a p).2)]∧st'=st):=by
 refine Q0b none Tryz.func234 rfl fun E=>Q0a ?_
 unfold V0g
 simp -dsimp only [go_sem]
 refine(w2t a p _ ha).mono ?_
 rintro r st ⟨rfl,rfl⟩
 simp -dsimp only [go_sem]
 refine ck (fun h=> ?_) (fun h=> ?_)
 · have h1:=V0p h
   simp -dsimp only [go_sem]
   rw [if_pos h1];rfl
 · have h1:=W0y h
   have hr:=X1r a p
   have hap:Q0h a=true∧Z0l p=true:=by
    unfold J0f at h1
    split at h1
    · assumption
    · cases h1
   rw [if_neg (fun e=>e h1)]
   generalize (J0f a p).1=w at*
   simp -dsimp only [go_sem]
   refine(W1x w (-2) _ (q0h (Q0u hr))).mono ?_
   rintro r st ⟨rfl,rfl⟩
   simp -dsimp only [go_sem]
   refine ck (fun h=> ?_) (fun h=> ?_)
   · have h2:=V0p h
     simp -dsimp only [go_sem]
     rw [if_pos h2];rfl
   · have h2:=W0y h
     have hs:=z0n w (-2)
     rw [if_neg (fun e=>e h2)]
     generalize (X0f w (-2)).1=v at*
     have ra:=Q0n hap.1
     have k1:=Q2c (k:=1) (up:=false) ra.1 hs hap.2
     have k2:=Q2c (k:=0) (up:=true) ra.2.1 hs hap.2
     simp -dsimp only [go_sem]
     refine(j2t a.lo v p false _ ha.1 (q0h (Q0u hs))).mono ?_
     rintro r st ⟨rfl,rfl⟩
     simp -dsimp only [go_sem]
     refine ck (fun h=> ?_) (fun h=> ?_)
     · have h3:=V0p h
       rw [if_pos (.inl h3)]
       have e3:(J0s 1 a.lo v p false).2=2:=by rcases k1 with k | k;exact absurd k h3;exact k
       simp -dsimp only [go_sem]
       rw [e3];rfl
     · have h3:=W0y h
       simp -dsimp only [go_sem]
       refine(j2u a.hi v p true _ ha.2 (q0h (Q0u hs))).mono ?_
       rintro r st ⟨rfl,rfl⟩
       simp -dsimp only [go_sem]
       refine ck (fun h=> ?_) (fun h=> ?_)
       · have h4:=V0p h
         rw [if_pos (.inr h4)]
         have e3:(J0s 0 a.hi v p true).2=2:=by rcases k2 with k | k;exact absurd k h4;exact k
         simp -dsimp only [go_sem]
         rw [e3];rfl
       · have h4:=W0y h
         rw [if_neg (fun e=>e.elim (fun e=>e h3) (fun e=>e h4))]
         simp -dsimp only [go_sem]
         try rfl
theorem V2u (i:Int) (a:Ivl) (p:Int) (st:Q0e) (ha:wI a):PCalls Tryz.prog 233 ([.sc (.int .i64 i),.agg (encI a)]++ [.ep [.sc (.int .i64 p)] 0]) st (fun r st'=>r= .tup [.agg (encI (V0g a p).1),.sc (.int .i64 (V0g a p).2)]∧st'=st):=by
 refine Q0b none Tryz.func233 rfl fun E=>Q0a ?_
 simp -dsimp only [go_sem]
 refine(G3j a p _ ha).mono ?_
 rintro r st ⟨rfl,rfl⟩
 simp -dsimp only [go_sem]
theorem Z3b (b:List Ivl) (p:Int) (h:rightB b=true):G0i b p=W0e (fun _ a=>V0g a p) 0 b []:=by
 unfold G0i
 cases hp:Z0l p with
 | true=>rw [if_pos ⟨h,rfl⟩]
 | false=>rw [if_neg (fun hh=>by simp at hh),k0z _ b (U0b h).1 1 (by decide) (fun i x=>by simp only [z2x hp])]
theorem z2t (b:List Ivl) (p:Int) (st:Q0e) (hb:wB b):PCalls Tryz.prog 192 [.sl .no (Q0m b),.sc (.int .i64 p)] st (fun r st'=>r= .tup [.sl .no (Q0m (G0i b p).1),.sc (.int .i64 (G0i b p).2)]∧st'=st):=by
 refine Q0b none Tryz.func192 rfl fun E=>Q0v (Q0a ?_)
 simp -dsimp only [go_sem]
 refine Z0w 0 ?_ ?_
 · simp -dsimp only [go_sem]
 refine Q0a ?_
 simp -dsimp only [go_sem]
 refine(K0g b st hb).mono ?_
 rintro r st ⟨rfl,rfl⟩
 cases r1:rightB b with
 | false=>
  simp -dsimp only [go_sem]
  rw [G0i,if_neg (by simp [r1])];rfl
 | true=>
  rw [Z3b b p r1]
  simp -dsimp only [go_sem]
  refine(q2r _ [.ep [.sc (.int .i64 p)] 0] (fun _ a=>V0g a p) b st rfl hb.1 rfl rfl rfl rfl rfl fun i hi=>V2u _ _ p st (hb.2 i hi)).mono ?_
  rintro r st ⟨rfl,rfl⟩
  simp -dsimp only [go_sem]
theorem U1g {x:Ivl} (h:Q0h x=true):wI x:=⟨q0h (Q0u (Q0n h).1),q0h (Q0u (Q0n h).2.1)⟩
end Go.Pv
end
section
/-The document's Bits,Mul,By,Whole,Round,Exact. -/
set_option maxRecDepth 100000
namespace Go.Pv
open Go.Proofs
theorem W0z (n:Nat) (h:n<18446744073709551616):IntKind.u64.wrap (n:Int)=(n:Int):=by rw [H0m,Nat.mod_eq_of_lt h]
theorem H1v (n:Nat) (h:n<4294967296):IntKind.u32.wrap (n:Int)=(n:Int):=by rw [J0j,Nat.mod_eq_of_lt h]
theorem w1x (o:List UInt32) (i:Nat) (z:UInt32) (c c' y S:Nat) (hi:i<o.length) (hz:z.toNat+4294967296*c'=(o.getD i 0).toNat+y+c) (hv:valD o+4294967296^i*c=S):
 valD (o.set i z)+4294967296^(i+1)*c'=S+4294967296^i*y:=by
 have e1:=Z1v o i z hi
 have h:=congrArg (4294967296^i* ·) hz
 simp only [Nat.mul_add] at h
 rw [Nat.pow_succ,Nat.mul_assoc]
 omega
theorem G2i (b:List UInt32) (i j x V S:Nat) (hj:j<b.length) (hS:S=V+4294967296^i*(x*valD (b.take j))):
 S+4294967296^(i+j)*(x*(b.getD j 0).toNat)=V+4294967296^i*(x*valD (b.take (j+1))):=by
 rw [hS,K0b b j hj,Nat.pow_add]
 grind
theorem v2q (a b o:List UInt32) (i:Nat) (c:UInt32) (hi:i<a.length) (hn:i+b.length<o.length) (h0:o.getD (i+b.length) 0=0)
 (hv:valD o+4294967296^(i+b.length)*c.toNat=valD (a.take i)*valD b+4294967296^i*((a.getD i 0).toNat*valD b)):
 valD (o.set (i+b.length) c)=valD (a.take (i+1))*valD b:=by
 have h1:=Z1v o (i+b.length) c hn
 rw [h0,show(0:UInt32).toNat=0 from rfl,Nat.mul_zero,Nat.add_zero] at h1
 rw [h1,hv,K0b a i hi,Nat.add_mul,Nat.mul_assoc]
theorem X2z (x y w c:Nat) (hx:x<4294967296) (hy:y<4294967296) (hw:w<4294967296) (hc:c<4294967296):
 x*y<18446744073709551616∧x*y+w<18446744073709551616∧c+(x*y+w)<18446744073709551616∧(c+(x*y+w))/4294967296<4294967296:=by
 have p:x*y≤4294967295*4294967295:=Nat.mul_le_mul (by omega) (by omega)
 generalize x*y=q at*
 refine⟨by omega,by omega,by omega,by omega⟩
set_option maxHeartbeats 1000000 in
theorem j2x (m n:Nat) (st:Q0e) (hm:(Q0d m).length≤1000000000000) (hn:(Q0d n).length≤1000000000000):PCalls Tryz.prog 70 [.sl .no (encD (Q0d m)),.sl .no (encD (Q0d n))] st (fun r st'=>r= .sl .no (encD (Q0d (m*n)))∧st'=st):=by
 refine Q0b none Tryz.func70 rfl fun E=>Q0a ?_
 obtain⟨P,hP⟩: ∃P,P=m*n:=⟨_,rfl⟩
 have hP2:P=valD (Q0d m)*valD (Q0d n):=by rw [Z0e,Z0e];exact hP
 rw [←hP]
 generalize Q0d m=a at*
 generalize Q0d n=b at*
 obtain⟨m0,hm0⟩: ∃m0,m0=a.length+b.length:=⟨_,rfl⟩
 have e1:IntKind.i64.wrap ((a.length:Int)+(b.length:Int))=((m0:Nat):Int):=by
  rw [←Int.natCast_add,Q0k _ (by omega),hm0]
 simp -dsimp only [go_sem,e1]
 refine⟨⟨by omega,by omega,by omega⟩,?_⟩
 refine Q0f [true,true,false,false,false,true,true] 1 0
  (fun k s'=> ∃i o,k=a.length-i∧i≤a.length∧o.length=m0∧valD o=valD (a.take i)*valD b∧(∀q,i+b.length≤q→o.getD q 0=0)∧
   s'=⟨[.sl .no (encD a),.sl .no (encD b),.junk,.junk,.junk,.ms false 0 0 m0,.sc (.int .i64 (i:Nat))]++List.replicate 61 .junk,[encD o],[],st⟩) a.length ?_ ?_
 · simp -dsimp only [go_sem]
   refine⟨0,List.replicate m0 0,by omega,by omega,by simp,by simp [V1z,G0n],fun q _=>K0e _ _ _,rfl⟩
 · rintro k s' ⟨i,o,rfl,hi,ho,hv,hz,rfl⟩
   simp -dsimp only [go_sem]
   refine ck (fun h=> ?_) (fun h=> ?_)
   · have hlt:i<a.length:=by have:=of_decide_eq_true h;omega
     have g1:=J0i a i hlt
     have x4:IntKind.i64.wrap ((i:Int)+1)=((i+1:Nat):Int):=by
      rw [show((i:Int)+1)=((i+1:Nat):Int) from rfl,Q0k _ (by omega)]
     simp -dsimp only [go_sem]
     refine Q0f [true,true,false,false,false,true,true,true,true] 1 0
      (fun k s'=> ∃(j:Nat) (o:List UInt32) (c:UInt32),k=b.length-j∧j≤b.length∧o.length=m0∧valD o+4294967296^(i+j)*c.toNat=valD (a.take i)*valD b+4294967296^i*((a.getD i 0).toNat*valD (b.take j))∧(∀q,i+b.length≤q→o.getD q 0=0)∧
       s'=⟨[.sl .no (encD a),.sl .no (encD b),.junk,.junk,.junk,.ms false 0 0 m0,.sc (.int .i64 (i:Nat)),.sc (.int .u64 c.toNat),.sc (.int .i64 (j:Nat))]++List.replicate 59 .junk,[encD o],[],st⟩) b.length ?_ ?_
     · simp -dsimp only [go_sem]
       refine⟨0,o,0,by omega,by omega,ho,?_,hz,rfl⟩
       rw [hv];simp [G0n]
     · clear hv hz ho h
       clear o
       rintro k s' ⟨j,o,c,rfl,hj,ho,hv,hz,rfl⟩
       simp -dsimp only [go_sem]
       refine ck (fun h=> ?_) (fun h=> ?_)
       · have hjt:j<b.length:=by have:=of_decide_eq_true h;omega
         have g2:=J0i b j hjt
         have g3:=J0i o (i+j) (by omega)
         have q1:(a.getD i 0).toNat<4294967296:=UInt32.toNat_lt _
         have q2:(b.getD j 0).toNat<4294967296:=UInt32.toNat_lt _
         have q3:(o.getD (i+j) 0).toNat<4294967296:=UInt32.toNat_lt _
         have q4:c.toNat<4294967296:=UInt32.toNat_lt _
         have hs:=w1x o (i+j) (UInt32.ofNat ((c.toNat+((a.getD i 0).toNat*(b.getD j 0).toNat+(o.getD (i+j) 0).toNat)) % 4294967296)) c.toNat ((c.toNat+((a.getD i 0).toNat*(b.getD j 0).toNat+(o.getD (i+j) 0).toNat))/4294967296) ((a.getD i 0).toNat*(b.getD j 0).toNat) _ (by omega) (by rw [X0v _ (Nat.mod_lt _ (by decide)),Nat.mod_add_div];omega) hv
         have hmm:=G2i b i j (a.getD i 0).toNat (valD (a.take i)*valD b) _ hjt rfl
         have o1:=y0h o (i+j) (UInt32.ofNat ((c.toNat+((a.getD i 0).toNat*(b.getD j 0).toNat+(o.getD (i+j) 0).toNat)) % 4294967296)) (by omega)
         rw [X0v _ (Nat.mod_lt _ (by decide))] at o1
         have bd:=X2z _ _ _ _ q1 q2 q3 q4
         have b1:=bd.1
         have b2:=bd.2.1
         have b3:=bd.2.2.1
         have b4:=bd.2.2.2
         have y1:=W0z (a.getD i 0).toNat (by omega)
         have y2:=W0z (b.getD j 0).toNat (by omega)
         have y3:=W0z (o.getD (i+j) 0).toNat (by omega)
         have x1:IntKind.i64.wrap ((i:Int)+(j:Int))=((i+j:Nat):Int):=by
          rw [←Int.natCast_add,Q0k _ (by omega)]
         have x2:IntKind.i64.wrap ((j:Int)+1)=((j+1:Nat):Int):=by
          rw [show((j:Int)+1)=((j+1:Nat):Int) from rfl,Q0k _ (by omega)]
         have y4:IntKind.u64.wrap (((a.getD i 0).toNat:Int)*((b.getD j 0).toNat:Int))=(((a.getD i 0).toNat*(b.getD j 0).toNat:Nat):Int):=by rw [←Int.natCast_mul,W0z _ b1]
         have y5:IntKind.u64.wrap ((((a.getD i 0).toNat*(b.getD j 0).toNat:Nat):Int)+((o.getD (i+j) 0).toNat:Int))=(((a.getD i 0).toNat*(b.getD j 0).toNat+(o.getD (i+j) 0).toNat:Nat):Int):=by rw [←Int.natCast_add,W0z _ b2]
         have y6:IntKind.u64.wrap ((c.toNat:Int)+(((a.getD i 0).toNat*(b.getD j 0).toNat+(o.getD (i+j) 0).toNat:Nat):Int))=((c.toNat+((a.getD i 0).toNat*(b.getD j 0).toNat+(o.getD (i+j) 0).toNat):Nat):Int):=by rw [←Int.natCast_add,W0z _ b3]
         generalize c.toNat+((a.getD i 0).toNat*(b.getD j 0).toNat+(o.getD (i+j) 0).toNat)=t at*
         have y7:bAnd .u64 (t:Int) 4294967295=((t % 4294967296:Nat):Int):=by
          have h:=j0i t 4294967295 b3 (by omega)
          rw [show(4294967295:Nat)=2^32-1 from rfl,Nat.and_two_pow_sub_one_eq_mod] at h
          exact h
         have y8:=H1v (t % 4294967296) (Nat.mod_lt _ (by decide))
         have y9:bShr .u64 (t:Int) 32=(((UInt32.ofNat (t/4294967296)).toNat:Nat):Int):=by rw [X0v _ b4];exact W0x t 32 (by omega)
         simp -dsimp only [go_sem]
         refine Q0l Z0x 68 (.step 0 [] (.step 1 [] (.step 2 [] (.step 3 [] (.step 4 [] (.step 5 [] (.step 6 [] (.step 7 [] (.step 8 [] (.step 9 [] (.step 10 [] (.step 11 [] (.step 12 [] (.step 13 [] (.step 14 [] (.step 15 [] (.step 16 [] (.step 17 [] (.step 18 [] (.step 19 [] (.step 20 [] (.step 21 [] (.done))))))))))))))))))))))) (by decide+kernel) (by simp) ?_
         simp -dsimp only [go_sem,x1,x2,g1,g2,g3,y1,y2,y3,y4,y5,y6,y7,y8,y9,o1]
         refine⟨⟨by omega,hlt⟩,⟨by omega,hjt⟩,⟨by omega,by omega⟩,by omega,⟨by omega,by omega⟩,⟨by omega,by omega⟩,b.length-(j+1),by omega,j+1,_,UInt32.ofNat (t/4294967296),rfl,by omega,by rw [List.length_set];exact ho,?_,fun q hq=> ?_,rfl⟩
         · rw [X0v _ b4,←hmm,←hs,←Nat.add_assoc i j 1]
         · rw [K0k,if_neg (by omega)];exact hz q hq
       · have hge:j=b.length:=by have:=of_decide_eq_false h;omega
         have x3:IntKind.i64.wrap ((i:Int)+(b.length:Int))=((i+b.length:Nat):Int):=by
          rw [←Int.natCast_add,Q0k _ (by omega)]
         have o1:=y0h o (i+b.length) c (by omega)
         have y8:=H1v c.toNat (UInt32.toNat_lt c)
         rw [hge,List.take_length] at hv
         have hr:=v2q a b o i c hlt (by omega) (hz _ (Nat.le_refl _)) hv
         simp -dsimp only [go_sem]
         refine Q0a ?_
         simp -dsimp only [go_sem,x3,o1,y8]
         refine⟨⟨by omega,by omega⟩,⟨by omega,by omega⟩,?_⟩
         refine Q0a ?_
         simp -dsimp only [go_sem,x4]
         refine⟨a.length-(i+1),by omega,i+1,_,rfl,by omega,by rw [List.length_set];exact ho,hr,fun q hq=> ?_,rfl⟩
         rw [K0k,if_neg (by omega)];exact hz q (by omega)
   · have hge:i=a.length:=by have:=of_decide_eq_false h;omega
     have ht:o.take m0=o:=List.take_of_length_le (by omega)
     have hle:m0≤o.length:=by omega
     rw [hge,List.take_length] at hv
     simp -dsimp only [go_sem]
     refine Z0w 0 ?_ ?_
     · simp -dsimp only [go_sem]
     · refine Q0a ?_
       simp -dsimp only [go_sem,ht,hle]
       refine(W1d o st (by omega)).mono ?_
       rintro r st ⟨rfl,rfl⟩
       simp -dsimp only [go_sem]
       rw [←J0x o,hv,←hP2]
theorem by_c (a b:Vl) (st:Q0e) (ha:smV a) (hb:smV b):PCalls Tryz.prog 26 [.agg (encV a),.agg (encV b)] st (fun r st'=>r= .agg (encV (byV a b))∧st'=st):=by
 obtain⟨a1,a2,a3⟩:=ha
 obtain⟨b1,b2,b3⟩:=hb
 have la:=X0s a.m
 have lb:=X0s b.m
 refine Q0b none Tryz.func26 rfl fun E=>Q0a ?_
 unfold byV
 cases c1:decide (a.m=0) with
 | true=>
  have h0:a.m=0:=of_decide_eq_true c1
  rw [if_pos (.inl h0)]
  simp -dsimp only [go_sem,lenV,c1]
  rw [Z0f];rfl
 | false=>
  have h0:a.m≠0:=of_decide_eq_false c1
  cases c2:decide (b.m=0) with
  | true=>
   have h1:b.m=0:=of_decide_eq_true c2
   rw [if_pos (.inr h1)]
   simp -dsimp only [go_sem,lenV,c1,c2]
   rw [Z0f];rfl
  | false=>
   have h1:b.m≠0:=of_decide_eq_false c2
   have x1:IntKind.i64.wrap (a.e+b.e)=a.e+b.e:=Q0j _ (by omega) (by omega)
   rw [if_neg (by omega)]
   simp -dsimp only [go_sem,lenV,c1,c2]
   refine Q0l Z0x 32 (.step 0 [] (.step 1 [] (.step 2 [] (.step 3 [] (.step 4 [] (.step 5 [] (.step 6 [] (.step 7 [] (.step 8 [] (.step 10 [] (.step 11 [] (.step 12 [] (.step 13 [] (.step 14 [] (.step 9 [1,3,11,13] (.step 15 [] (.step 16 [] (.done)))))))))))))))))) (by decide+kernel) (by simp) ?_
   simp -dsimp only [go_sem,x1]
   refine(j2x a.m b.m _ (by omega) (by omega)).mono ?_
   rintro r st ⟨rfl,rfl⟩
   simp -dsimp only [go_sem,x1]
   try rfl
theorem q0g (n:Nat) (st:Q0e) (hn:n<4294967296):PCalls Tryz.prog 28 [.sc (.int .i64 n)] st (fun r st'=>r= .agg (encV (oddV false n 0))∧st'=st):=by
 refine Q0b none Tryz.func28 rfl fun E=>Q0a ?_
 have y1:=W0z n (by omega)
 have f1:decide ((n:Int)<0)=false:=decide_eq_false (by omega)
 have e1: [PV.sc (.int .u64 (n:Nat))]=encW [UInt64.ofNat n]:=by
  show _= [PV.sc (.int .u64 ((UInt64.ofNat n).toNat:Nat))]
  rw [Z0z _ (by omega)]
 have v1:valW [UInt64.ofNat n]=n:=by
  show(UInt64.ofNat n).toNat+18446744073709551616*0=n
  rw [Z0z _ (by omega)];rfl
 simp -dsimp only [go_sem,y1,f1]
 rw [e1]
 refine(U2p [UInt64.ofNat n] _ (by simp)).mono ?_
 rintro r st ⟨rfl,rfl⟩
 rw [v1]
 simp -dsimp only [go_sem]
 refine(K2p false n 0 _ (by have:=V1h n (by omega);omega) (by omega) (by omega)).mono ?_
 rintro r st ⟨rfl,rfl⟩
 simp -dsimp only [go_sem]
end Go.Pv
end
