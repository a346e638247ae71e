/- Parts of the walk: N15, N16, M38. -/
import Derived.Test.YtofoadghajnglaaGreatDoorZAD
import Derived.Test.YtofoadghajnglaaGreatDoorZE
import Derived.Test.YtofoadghajnglaaGreatDoorZM
import Derived.Test.YtofoadghajnglaaGreatDoorZY
set_option linter.unusedVariables false
set_option linter.unusedSimpArgs false
section
/-Boxes:Of,Has,widths,Wide,blown,Blow,with,Halve. -/
set_option maxRecDepth 100000
namespace Go.Pv
open Go.Proofs
def wNs (l:List Nm):Prop:=l.length≤100000000000∧ ∀i,i<l.length→wN (l.getD i default)
theorem y1o (q:List Nm) (i:Nat) (h:i<q.length):ofB (q.take (i+1))=ofB (q.take i)++ [⟨q.getD i default,q.getD i default⟩]:=by
 unfold ofB
 rw [q0p q i default h,List.map_append];rfl
theorem W3n (q:List Nm) (st:Q0d) (hq:wNs q):PCalls Tryz.prog 83 [.sl .no (Z0n q)] st (fun r st'=>r= .sl (.fresh 6) (Z0q (ofB q))∧st'=st):=by
 obtain⟨hl,hw⟩:=hq
 refine Q0b none Tryz.func83 rfl fun E=>Q0a ?_
 simp -dsimp only [go_sem]
 refine J0j 3 6 ?_
 simp -dsimp only [go_sem]
 refine Q0e [false,false,false,true,false,false,true,true,true] 0 1
  (fun n s=> ∃i,n=q.length-i∧i≤q.length∧s=⟨[.junk,.junk,.junk,.sl (.own 0) (Z0q (ofB (q.take i))),.junk,.junk,.sl .no (Z0n q),.sc (.int .i64 q.length),.sc (.int .i64 (i:Nat))]++List.replicate 10 .junk,[],[((ofB (q.take i)).length,6)],st⟩) q.length ?_ ?_
 · simp -dsimp only [go_sem]
   exact⟨0,by omega,by omega,rfl⟩
 · rintro n s ⟨i,rfl,hi,rfl⟩
   simp -dsimp only [go_sem]
   refine ck (fun h'=> ?_) (fun h'=> ?_)
   · have hlt:i<q.length:=by have:=of_decide_eq_true h';omega
     have e1:=G0z q i hlt
     have e3:IntKind.i64.wrap ((i:Int)+1)=((i+1:Nat):Int):=by rw [Q0v _ (by omega) (by omega)];omega
     simp -dsimp only [go_sem,e1]
     refine⟨by omega,?_⟩
     refine(Q2l _ _ (hw i hlt)).mono ?_
     rintro r st ⟨rfl,rfl⟩
     simp -dsimp only [go_sem,e3]
     have ll:(ofB (q.take i)).length=i:=by simp [ofB];omega
     refine⟨⟨by omega,by omega⟩,q.length-(i+1),by omega,i+1,rfl,by omega,?_⟩
     rw [y1o q i hlt]
     simp [Z0q,encI]
   · have hge:i=q.length:=by have:=of_decide_eq_false h';omega
     simp -dsimp only [go_sem]
     refine Q0a ?_
     simp -dsimp only [go_sem]
     rw [hge,List.take_length]
theorem z0p {x:Ivl} (h:Q0m x=true):wI x:=⟨Z1r (Z0f (Q0y h).1),Z1r (Z0f (Q0y h).2.1)⟩
end Go.Pv
end
section
/-The document's Bits,Mul,By,Whole,Round,Exact. -/
set_option maxRecDepth 100000
namespace Go.Pv
open Go.Proofs
theorem W0q (n:Nat) (h:n<18446744073709551616):IntKind.u64.wrap (n:Int)=(n:Int):=by rw [Z0x,Nat.mod_eq_of_lt h]
theorem G1i (n:Nat) (h:n<4294967296):IntKind.u32.wrap (n:Int)=(n:Int):=by rw [J0w,Nat.mod_eq_of_lt h]
theorem v1n (o:List UInt32) (i:Nat) (z:UInt32) (c c' y S:Nat) (hi:i<o.length) (hz:z.toNat+4294967296*c'=(o.getD i 0).toNat+y+c) (hv:valD o+4294967296^i*c=S):
 valD (o.set i z)+4294967296^(i+1)*c'=S+4294967296^i*y:=by
 have e1:=Q1p o i z hi
 have h:=congrArg (4294967296^i* ·) hz
 simp only [Nat.mul_add] at h
 rw [Nat.pow_succ,Nat.mul_assoc]
 omega
theorem Y2f (b:List UInt32) (i j x V S:Nat) (hj:j<b.length) (hS:S=V+4294967296^i*(x*valD (b.take j))):
 S+4294967296^(i+j)*(x*(b.getD j 0).toNat)=V+4294967296^i*(x*valD (b.take (j+1))):=by
 rw [hS,K0g b j hj,Nat.pow_add]
 grind
theorem j2r (a b o:List UInt32) (i:Nat) (c:UInt32) (hi:i<a.length) (hn:i+b.length<o.length) (h0:o.getD (i+b.length) 0=0)
 (hv:valD o+4294967296^(i+b.length)*c.toNat=valD (a.take i)*valD b+4294967296^i*((a.getD i 0).toNat*valD b)):
 valD (o.set (i+b.length) c)=valD (a.take (i+1))*valD b:=by
 have h1:=Q1p o (i+b.length) c hn
 rw [h0,show(0:UInt32).toNat=0 from rfl,Nat.mul_zero,Nat.add_zero] at h1
 rw [h1,hv,K0g a i hi,Nat.add_mul,Nat.mul_assoc]
theorem Z2p (x y w c:Nat) (hx:x<4294967296) (hy:y<4294967296) (hw:w<4294967296) (hc:c<4294967296):
 x*y<18446744073709551616∧x*y+w<18446744073709551616∧c+(x*y+w)<18446744073709551616∧(c+(x*y+w))/4294967296<4294967296:=by
 have p:x*y≤4294967295*4294967295:=Nat.mul_le_mul (by omega) (by omega)
 generalize x*y=q at*
 refine⟨by omega,by omega,by omega,by omega⟩
set_option maxHeartbeats 1000000 in
theorem x2c (m n:Nat) (st:Q0d) (hm:(Q0g m).length≤1000000000000) (hn:(Q0g n).length≤1000000000000):PCalls Tryz.prog 142 [.sl .no (encD (Q0g m)),.sl .no (encD (Q0g n))] st (fun r st'=>r= .sl .no (encD (Q0g (m*n)))∧st'=st):=by
 refine Q0b none Tryz.func142 rfl fun E=>Q0a ?_
 obtain⟨P,hP⟩: ∃P,P=m*n:=⟨_,rfl⟩
 have hP2:P=valD (Q0g m)*valD (Q0g n):=by rw [Z0i,Z0i];exact hP
 rw [←hP]
 generalize Q0g m=a at*
 generalize Q0g n=b at*
 obtain⟨m0,hm0⟩: ∃m0,m0=a.length+b.length:=⟨_,rfl⟩
 have e1:IntKind.i64.wrap ((a.length:Int)+(b.length:Int))=((m0:Nat):Int):=by
  rw [←Int.natCast_add,Q0j _ (by omega),hm0]
 simp -dsimp only [go_sem,e1]
 refine⟨⟨by omega,by omega,by omega⟩,?_⟩
 refine Q0e [true,true,false,false,false,true,true] 1 0
  (fun k s'=> ∃i o,k=a.length-i∧i≤a.length∧o.length=m0∧valD o=valD (a.take i)*valD b∧(∀q,i+b.length≤q→o.getD q 0=0)∧
   s'=⟨[.sl .no (encD a),.sl .no (encD b),.junk,.junk,.junk,.ms false 0 0 m0,.sc (.int .i64 (i:Nat))]++List.replicate 61 .junk,[encD o],[],st⟩) a.length ?_ ?_
 · simp -dsimp only [go_sem]
   refine⟨0,List.replicate m0 0,by omega,by omega,by simp,by simp [V1d,U0k],fun q _=>K0i _ _ _,rfl⟩
 · rintro k s' ⟨i,o,rfl,hi,ho,hv,hz,rfl⟩
   simp -dsimp only [go_sem]
   refine ck (fun h=> ?_) (fun h=> ?_)
   · have hlt:i<a.length:=by have:=of_decide_eq_true h;omega
     have g1:=J0v a i hlt
     have x4:IntKind.i64.wrap ((i:Int)+1)=((i+1:Nat):Int):=by
      rw [show((i:Int)+1)=((i+1:Nat):Int) from rfl,Q0j _ (by omega)]
     simp -dsimp only [go_sem]
     refine Q0e [true,true,false,false,false,true,true,true,true] 1 0
      (fun k s'=> ∃(j:Nat) (o:List UInt32) (c:UInt32),k=b.length-j∧j≤b.length∧o.length=m0∧valD o+4294967296^(i+j)*c.toNat=valD (a.take i)*valD b+4294967296^i*((a.getD i 0).toNat*valD (b.take j))∧(∀q,i+b.length≤q→o.getD q 0=0)∧
       s'=⟨[.sl .no (encD a),.sl .no (encD b),.junk,.junk,.junk,.ms false 0 0 m0,.sc (.int .i64 (i:Nat)),.sc (.int .u64 c.toNat),.sc (.int .i64 (j:Nat))]++List.replicate 59 .junk,[encD o],[],st⟩) b.length ?_ ?_
     · simp -dsimp only [go_sem]
       refine⟨0,o,0,by omega,by omega,ho,?_,hz,rfl⟩
       rw [hv];simp [U0k]
     · clear hv hz ho h
       clear o
       rintro k s' ⟨j,o,c,rfl,hj,ho,hv,hz,rfl⟩
       simp -dsimp only [go_sem]
       refine ck (fun h=> ?_) (fun h=> ?_)
       · have hjt:j<b.length:=by have:=of_decide_eq_true h;omega
         have g2:=J0v b j hjt
         have g3:=J0v o (i+j) (by omega)
         have q1:(a.getD i 0).toNat<4294967296:=UInt32.toNat_lt _
         have q2:(b.getD j 0).toNat<4294967296:=UInt32.toNat_lt _
         have q3:(o.getD (i+j) 0).toNat<4294967296:=UInt32.toNat_lt _
         have q4:c.toNat<4294967296:=UInt32.toNat_lt _
         have hs:=v1n o (i+j) (UInt32.ofNat ((c.toNat+((a.getD i 0).toNat*(b.getD j 0).toNat+(o.getD (i+j) 0).toNat)) % 4294967296)) c.toNat ((c.toNat+((a.getD i 0).toNat*(b.getD j 0).toNat+(o.getD (i+j) 0).toNat))/4294967296) ((a.getD i 0).toNat*(b.getD j 0).toNat) _ (by omega) (by rw [X0y _ (Nat.mod_lt _ (by decide)),Nat.mod_add_div];omega) hv
         have hmm:=Y2f b i j (a.getD i 0).toNat (valD (a.take i)*valD b) _ hjt rfl
         have o1:=v0p o (i+j) (UInt32.ofNat ((c.toNat+((a.getD i 0).toNat*(b.getD j 0).toNat+(o.getD (i+j) 0).toNat)) % 4294967296)) (by omega)
         rw [X0y _ (Nat.mod_lt _ (by decide))] at o1
         have bd:=Z2p _ _ _ _ q1 q2 q3 q4
         have b1:=bd.1
         have b2:=bd.2.1
         have b3:=bd.2.2.1
         have b4:=bd.2.2.2
         have y1:=W0q (a.getD i 0).toNat (by omega)
         have y2:=W0q (b.getD j 0).toNat (by omega)
         have y3:=W0q (o.getD (i+j) 0).toNat (by omega)
         have x1:IntKind.i64.wrap ((i:Int)+(j:Int))=((i+j:Nat):Int):=by
          rw [←Int.natCast_add,Q0j _ (by omega)]
         have x2:IntKind.i64.wrap ((j:Int)+1)=((j+1:Nat):Int):=by
          rw [show((j:Int)+1)=((j+1:Nat):Int) from rfl,Q0j _ (by omega)]
         have y4:IntKind.u64.wrap (((a.getD i 0).toNat:Int)*((b.getD j 0).toNat:Int))=(((a.getD i 0).toNat*(b.getD j 0).toNat:Nat):Int):=by rw [←Int.natCast_mul,W0q _ b1]
         have y5:IntKind.u64.wrap ((((a.getD i 0).toNat*(b.getD j 0).toNat:Nat):Int)+((o.getD (i+j) 0).toNat:Int))=(((a.getD i 0).toNat*(b.getD j 0).toNat+(o.getD (i+j) 0).toNat:Nat):Int):=by rw [←Int.natCast_add,W0q _ b2]
         have y6:IntKind.u64.wrap ((c.toNat:Int)+(((a.getD i 0).toNat*(b.getD j 0).toNat+(o.getD (i+j) 0).toNat:Nat):Int))=((c.toNat+((a.getD i 0).toNat*(b.getD j 0).toNat+(o.getD (i+j) 0).toNat):Nat):Int):=by rw [←Int.natCast_add,W0q _ b3]
         generalize c.toNat+((a.getD i 0).toNat*(b.getD j 0).toNat+(o.getD (i+j) 0).toNat)=t at*
         have y7:bAnd .u64 (t:Int) 4294967295=((t % 4294967296:Nat):Int):=by
          have h:=w0a t 4294967295 b3 (by omega)
          rw [show(4294967295:Nat)=2^32-1 from rfl,Nat.and_two_pow_sub_one_eq_mod] at h
          exact h
         have y8:=G1i (t % 4294967296) (Nat.mod_lt _ (by decide))
         have y9:bShr .u64 (t:Int) 32=(((UInt32.ofNat (t/4294967296)).toNat:Nat):Int):=by rw [X0y _ b4];exact V0i t 32 (by omega)
         simp -dsimp only [go_sem]
         refine Q0p Z0y 68 (.step 0 [] (.step 1 [] (.step 2 [] (.step 3 [] (.step 4 [] (.step 5 [] (.step 6 [] (.step 7 [] (.step 8 [] (.step 9 [] (.step 10 [] (.step 11 [] (.step 12 [] (.step 13 [] (.step 14 [] (.step 15 [] (.step 16 [] (.step 17 [] (.step 18 [] (.step 19 [] (.step 20 [] (.step 21 [] (.done))))))))))))))))))))))) (by decide+kernel) (by simp) ?_
         simp -dsimp only [go_sem,x1,x2,g1,g2,g3,y1,y2,y3,y4,y5,y6,y7,y8,y9,o1]
         refine⟨⟨by omega,hlt⟩,⟨by omega,hjt⟩,⟨by omega,by omega⟩,by omega,⟨by omega,by omega⟩,⟨by omega,by omega⟩,b.length-(j+1),by omega,j+1,_,UInt32.ofNat (t/4294967296),rfl,by omega,by rw [List.length_set];exact ho,?_,fun q hq=> ?_,rfl⟩
         · rw [X0y _ b4,←hmm,←hs,←Nat.add_assoc i j 1]
         · rw [J0k,if_neg (by omega)];exact hz q hq
       · have hge:j=b.length:=by have:=of_decide_eq_false h;omega
         have x3:IntKind.i64.wrap ((i:Int)+(b.length:Int))=((i+b.length:Nat):Int):=by
          rw [←Int.natCast_add,Q0j _ (by omega)]
         have o1:=v0p o (i+b.length) c (by omega)
         have y8:=G1i c.toNat (UInt32.toNat_lt c)
         rw [hge,List.take_length] at hv
         have hr:=j2r a b o i c hlt (by omega) (hz _ (Nat.le_refl _)) hv
         simp -dsimp only [go_sem]
         refine Q0a ?_
         simp -dsimp only [go_sem,x3,o1,y8]
         refine⟨⟨by omega,by omega⟩,⟨by omega,by omega⟩,?_⟩
         refine Q0a ?_
         simp -dsimp only [go_sem,x4]
         refine⟨a.length-(i+1),by omega,i+1,_,rfl,by omega,by rw [List.length_set];exact ho,hr,fun q hq=> ?_,rfl⟩
         rw [J0k,if_neg (by omega)];exact hz q (by omega)
   · have hge:i=a.length:=by have:=of_decide_eq_false h;omega
     have ht:o.take m0=o:=List.take_of_length_le (by omega)
     have hle:m0≤o.length:=by omega
     rw [hge,List.take_length] at hv
     simp -dsimp only [go_sem]
     refine Z0w 0 ?_ ?_
     · simp -dsimp only [go_sem]
     · refine Q0a ?_
       simp -dsimp only [go_sem,ht,hle]
       refine(V1h o st (by omega)).mono ?_
       rintro r st ⟨rfl,rfl⟩
       simp -dsimp only [go_sem]
       rw [←K0b o,hv,←hP2]
theorem by_c (a b:Vl) (st:Q0d) (ha:smV a) (hb:smV b):PCalls Tryz.prog 72 [.agg (encV a),.agg (encV b)] st (fun r st'=>r= .agg (encV (byV a b))∧st'=st):=by
 obtain⟨a1,a2,a3⟩:=ha
 obtain⟨b1,b2,b3⟩:=hb
 have la:=J0l a.m
 have lb:=J0l b.m
 refine Q0b none Tryz.func72 rfl fun E=>Q0a ?_
 unfold byV
 cases c1:decide (a.m=0) with
 | true=>
  have h0:a.m=0:=of_decide_eq_true c1
  rw [if_pos (.inl h0)]
  simp -dsimp only [go_sem,lenV,c1]
  rw [X0a];rfl
 | false=>
  have h0:a.m≠0:=of_decide_eq_false c1
  cases c2:decide (b.m=0) with
  | true=>
   have h1:b.m=0:=of_decide_eq_true c2
   rw [if_pos (.inr h1)]
   simp -dsimp only [go_sem,lenV,c1,c2]
   rw [X0a];rfl
  | false=>
   have h1:b.m≠0:=of_decide_eq_false c2
   have x1:IntKind.i64.wrap (a.e+b.e)=a.e+b.e:=Q0v _ (by omega) (by omega)
   rw [if_neg (by omega)]
   simp -dsimp only [go_sem,lenV,c1,c2]
   refine Q0p Z0y 32 (.step 0 [] (.step 1 [] (.step 2 [] (.step 3 [] (.step 4 [] (.step 5 [] (.step 6 [] (.step 7 [] (.step 8 [] (.step 10 [] (.step 11 [] (.step 12 [] (.step 13 [] (.step 14 [] (.step 9 [1,3,11,13] (.step 15 [] (.step 16 [] (.done)))))))))))))))))) (by decide+kernel) (by simp) ?_
   simp -dsimp only [go_sem,x1]
   refine(x2c a.m b.m _ (by omega) (by omega)).mono ?_
   rintro r st ⟨rfl,rfl⟩
   simp -dsimp only [go_sem,x1]
   try rfl
theorem Z3t (n:Nat) (st:Q0d) (hn:n<4294967296):PCalls Tryz.prog 71 [.sc (.int .i64 n)] st (fun r st'=>r= .agg (encV (oddV false n 0))∧st'=st):=by
 refine Q0b none Tryz.func71 rfl fun E=>Q0a ?_
 have y1:=W0q n (by omega)
 have f1:decide ((n:Int)<0)=false:=decide_eq_false (by omega)
 have e1: [PV.sc (.int .u64 (n:Nat))]=encW [UInt64.ofNat n]:=by
  show _= [PV.sc (.int .u64 ((UInt64.ofNat n).toNat:Nat))]
  rw [Z0m _ (by omega)]
 have v1:valW [UInt64.ofNat n]=n:=by
  show(UInt64.ofNat n).toNat+18446744073709551616*0=n
  rw [Z0m _ (by omega)];rfl
 simp -dsimp only [go_sem,y1,f1]
 rw [e1]
 refine(W2j [UInt64.ofNat n] _ (by simp)).mono ?_
 rintro r st ⟨rfl,rfl⟩
 rw [v1]
 simp -dsimp only [go_sem]
 refine(W2v false n 0 _ (by have:=K1g n (by omega);omega) (by omega) (by omega)).mono ?_
 rintro r st ⟨rfl,rfl⟩
 simp -dsimp only [go_sem]
end Go.Pv
end
section
/-Lists of small intervals. No program in it. -/
namespace Go.Pv
def smB (b:List Ivl):Prop:=1≤b.length∧b.length≤4∧ ∀i,i<b.length→smI (b.getD i default)
theorem smB.right {b:List Ivl} (h:smB b):rightB b=true:=X0z (fun i hi=>(h.2.2 i hi).1) h.1 h.2.1
theorem v0m {β:Type} [Inhabited β] (f:Nat→β) (n i:Nat) (h:i<n):((List.range n).map f).getD i default=f i:=by
 simp [List.getD_eq_getElem?_getD,h]
theorem w0o {p:Nat} (h1:8≤p) (h2:p≤256):Z0a (p:Int)=true:=by
 unfold Z0a
 simp only [Bool.and_eq_true,decide_eq_true_eq]
 omega
end Go.Pv
end
