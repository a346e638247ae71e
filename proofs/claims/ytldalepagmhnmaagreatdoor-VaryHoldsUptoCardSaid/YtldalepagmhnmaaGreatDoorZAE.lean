/- Parts of the walk: N15, N16, M38. -/
import Derived.Test.YtldalepagmhnmaaGreatDoorZAD
import Derived.Test.YtldalepagmhnmaaGreatDoorZM
set_option linter.unusedVariables false
set_option linter.unusedSimpArgs false
section
set_option maxRecDepth 100000
namespace Go.Pv
open Go.Proofs
theorem K0p {x:Ivl}(h:Q0p x=true):wI x:=⟨v1d (K0f (Z0s h).1),v1d (K0f (Z0s h).2.1)⟩
theorem Y0n (n:Nat)(h:n<18446744073709551616):IntKind.u64.wrap (n:Int)=(n:Int):=by rw[J0s,Nat.mod_eq_of_lt h]
theorem H1k (n:Nat)(h:n<4294967296):IntKind.u32.wrap (n:Int)=(n:Int):=by rw[K0c,Nat.mod_eq_of_lt h]
theorem y1o (o:List UInt32)(i:Nat)(z:UInt32)(c c' y S:Nat)(hi:i<o.length)(hz:z.toNat+4294967296*c'=(o.getD i 0).toNat+y+c)(hv:valD o+4294967296^i*c=S):
 valD (o.set i z)+4294967296^(i+1)*c'=S+4294967296^i*y:=by
 have e1:=v0u o i z hi;have h:=congrArg (4294967296^i* ·) hz;simp only[Nat.mul_add] at h;rw[Nat.pow_succ,Nat.mul_assoc];omega
theorem H2q (b:List UInt32)(i j x V S:Nat)(hj:j<b.length)(hS:S=V+4294967296^i*(x*valD (b.take j))):
 S+4294967296^(i+j)*(x*(b.getD j 0).toNat)=V+4294967296^i*(x*valD (b.take (j+1))):=by
 rw[hS,K0v b j hj,Nat.pow_add];grind
theorem y2u (a b o:List UInt32)(i:Nat)(c:UInt32)(hi:i<a.length)(hn:i+b.length<o.length)(h0:o.getD (i+b.length) 0=0)
 (hv:valD o+4294967296^(i+b.length)*c.toNat=valD (a.take i)*valD b+4294967296^i*((a.getD i 0).toNat*valD b)):
 valD (o.set (i+b.length) c)=valD (a.take (i+1))*valD b:=by
 have h1:=v0u o (i+b.length) c hn;rw[h0,show(0:UInt32).toNat=0 from rfl,Nat.mul_zero,Nat.add_zero] at h1;rw[h1,hv,K0v a i hi,Nat.add_mul,Nat.mul_assoc]
theorem J2h (x y w c:Nat)(hx:x<4294967296)(hy:y<4294967296)(hw:w<4294967296)(hc:c<4294967296):
 x*y<18446744073709551616/\x*y+w<18446744073709551616/\c+(x*y+w)<18446744073709551616/\(c+(x*y+w))/4294967296<4294967296:=by
 have p:x*y<=4294967295*4294967295:=Nat.mul_le_mul (by omega) (by omega);generalize x*y=q at*
 refine⟨by omega,by omega,by omega,by omega⟩
set_option maxHeartbeats 1000000 in
theorem w2d (m n:Nat)(st:Q0f)(hm:(Q0e m).length<=1000000000000)(hn:(Q0e n).length<=1000000000000):PCalls Tryz.prog 118 [.sl .no (encD (Q0e m)),.sl .no (encD (Q0e n))] st (fun r st'=>r= .sl .no (encD (Q0e (m*n)))/\st'=st):=by
 refine Q0b none Tryz.func118 rfl fun E=>Q0a ?_;obtain⟨P,hP⟩: ∃P,P=m*n:=⟨_,rfl⟩;have hP2:P=valD (Q0e m)*valD (Q0e n):=(by rw[Z0f,Z0f];exact hP);rw[<-hP];generalize Q0e m=a at*
 generalize Q0e n=b at*
 obtain⟨m0,hm0⟩: ∃m0,m0=a.length+b.length:=⟨_,rfl⟩;have e1:IntKind.i64.wrap ((a.length:Int)+(b.length:Int))=((m0:Nat):Int):=(by rw[<-Int.natCast_add,Q0n _ (by omega),hm0]);simp-dsimp only[go_sem,e1];refine⟨⟨by omega,by omega,by omega⟩,?_⟩;refine Q0d [true,true,false,false,false,true,true] 1 0
  (fun k s'=> ∃i o,k=a.length-i/\i<=a.length/\o.length=m0/\valD o=valD (a.take i)*valD b/\(∀q,i+b.length<=q->o.getD q 0=0)/\
   s'=⟨[.sl .no (encD a),.sl .no (encD b),.junk,.junk,.junk,.ms false 0 0 m0,.sc (.int .i64 (i:Nat))]++List.replicate 61 .junk,[encD o],[],st⟩) a.length ?_ ?_
 simp-dsimp only[go_sem];refine⟨0,List.replicate m0 0,by omega,by omega,by simp,by simp[W1m,G0z],fun q _=>K0x _ _ _,rfl⟩;rintro k s' ⟨i,o,rfl,hi,ho,hv,hz,rfl⟩;simp-dsimp only[go_sem];refine ck (fun h=> ?_) (fun h=> ?_);have hlt:i<a.length:=(by have:=q_b h;omega);have g1:=K0b a i hlt;have x4:IntKind.i64.wrap ((i:Int)+1)=((i+1:Nat):Int):=(by rw[show((i:Int)+1)=((i+1:Nat):Int) from rfl,Q0n _ (by omega)]);simp-dsimp only[go_sem];refine Q0d [true,true,false,false,false,true,true,true,true] 1 0
  (fun k s'=> ∃(j:Nat) (o:List UInt32) (c:UInt32),k=b.length-j/\j<=b.length/\o.length=m0/\valD o+4294967296^(i+j)*c.toNat=valD (a.take i)*valD b+4294967296^i*((a.getD i 0).toNat*valD (b.take j))/\(∀q,i+b.length<=q->o.getD q 0=0)/\
   s'=⟨[.sl .no (encD a),.sl .no (encD b),.junk,.junk,.junk,.ms false 0 0 m0,.sc (.int .i64 (i:Nat)),.sc (.int .u64 c.toNat),.sc (.int .i64 (j:Nat))]++List.replicate 59 .junk,[encD o],[],st⟩) b.length ?_ ?_
 simp-dsimp only[go_sem];refine⟨0,o,0,by omega,by omega,ho,?_,hz,rfl⟩;rw[hv];simp[G0z];clear hv hz ho h;clear o;rintro k s' ⟨j,o,c,rfl,hj,ho,hv,hz,rfl⟩;simp-dsimp only[go_sem];refine ck (fun h=> ?_) (fun h=> ?_);have hjt:j<b.length:=(by have:=q_b h;omega);have g2:=K0b b j hjt;have g3:=K0b o (i+j) (by omega);have q1:(a.getD i 0).toNat<4294967296:=UInt32.toNat_lt _;have q2:(b.getD j 0).toNat<4294967296:=UInt32.toNat_lt _;have q3:(o.getD (i+j) 0).toNat<4294967296:=UInt32.toNat_lt _;have q4:c.toNat<4294967296:=UInt32.toNat_lt _;have hs:=y1o o (i+j) (UInt32.ofNat ((c.toNat+((a.getD i 0).toNat*(b.getD j 0).toNat+(o.getD (i+j) 0).toNat)) % 4294967296)) c.toNat ((c.toNat+((a.getD i 0).toNat*(b.getD j 0).toNat+(o.getD (i+j) 0).toNat))/4294967296) ((a.getD i 0).toNat*(b.getD j 0).toNat) _ (by omega) (by rw[X0y _ (Nat.mod_lt _ (by decide)),Nat.mod_add_div];omega) hv;have hmm:=H2q b i j (a.getD i 0).toNat (valD (a.take i)*valD b) _ hjt rfl;have o1:=y0b o (i+j) (UInt32.ofNat ((c.toNat+((a.getD i 0).toNat*(b.getD j 0).toNat+(o.getD (i+j) 0).toNat)) % 4294967296)) (by omega);rw[X0y _ (Nat.mod_lt _ (by decide))] at o1;have bd:=J2h _ _ _ _ q1 q2 q3 q4;have b1:=bd.1;have b2:=bd.2.1;have b3:=bd.2.2.1;have b4:=bd.2.2.2;have y1:=Y0n (a.getD i 0).toNat (by omega);have y2:=Y0n (b.getD j 0).toNat (by omega);have y3:=Y0n (o.getD (i+j) 0).toNat (by omega);have x1:IntKind.i64.wrap ((i:Int)+(j:Int))=((i+j:Nat):Int):=(by rw[<-Int.natCast_add,Q0n _ (by omega)]);have x2:IntKind.i64.wrap ((j:Int)+1)=((j+1:Nat):Int):=(by rw[show((j:Int)+1)=((j+1:Nat):Int) from rfl,Q0n _ (by omega)]);have y4:IntKind.u64.wrap (((a.getD i 0).toNat:Int)*((b.getD j 0).toNat:Int))=(((a.getD i 0).toNat*(b.getD j 0).toNat:Nat):Int):=(by rw[<-Int.natCast_mul,Y0n _ b1]);have y5:IntKind.u64.wrap ((((a.getD i 0).toNat*(b.getD j 0).toNat:Nat):Int)+((o.getD (i+j) 0).toNat:Int))=(((a.getD i 0).toNat*(b.getD j 0).toNat+(o.getD (i+j) 0).toNat:Nat):Int):=(by rw[<-Int.natCast_add,Y0n _ b2]);have y6:IntKind.u64.wrap ((c.toNat:Int)+(((a.getD i 0).toNat*(b.getD j 0).toNat+(o.getD (i+j) 0).toNat:Nat):Int))=((c.toNat+((a.getD i 0).toNat*(b.getD j 0).toNat+(o.getD (i+j) 0).toNat):Nat):Int):=(by rw[<-Int.natCast_add,Y0n _ b3]);generalize c.toNat+((a.getD i 0).toNat*(b.getD j 0).toNat+(o.getD (i+j) 0).toNat)=t at*
 have y7:bAnd .u64 (t:Int) 4294967295=((t % 4294967296:Nat):Int):=by have h:=y0l t 4294967295 b3 (by omega);rw[show(4294967295:Nat)=2^32-1 from rfl,Nat.and_two_pow_sub_one_eq_mod] at h;exact h
 have y8:=H1k (t % 4294967296) (Nat.mod_lt _ (by decide));have y9:bShr .u64 (t:Int) 32=(((UInt32.ofNat (t/4294967296)).toNat:Nat):Int):=(by rw[X0y _ b4];exact W0d t 32 (by omega));simp-dsimp only[go_sem];refine Q0o Z0m 68 (.step 0 [] (.step 1 [] (.step 2 [] (.step 3 [] (.step 4 [] (.step 5 [] (.step 6 [] (.step 7 [] (.step 8 [] (.step 9 [] (.step 10 [] (.step 11 [] (.step 12 [] (.step 13 [] (.step 14 [] (.step 15 [] (.step 16 [] (.step 17 [] (.step 18 [] (.step 19 [] (.step 20 [] (.step 21 [] (.done))))))))))))))))))))))) (by decide+kernel) (by simp) ?_;simp-dsimp only[go_sem,x1,x2,g1,g2,g3,y1,y2,y3,y4,y5,y6,y7,y8,y9,o1];refine⟨⟨by omega,hlt⟩,⟨by omega,hjt⟩,⟨by omega,by omega⟩,by omega,⟨by omega,by omega⟩,⟨by omega,by omega⟩,b.length-(j+1),by omega,j+1,_,UInt32.ofNat (t/4294967296),rfl,by omega,by rw[List.length_set];exact ho,?_,fun q hq=> ?_,rfl⟩;rw[X0y _ b4,<-hmm,<-hs,<-Nat.add_assoc i j 1];rw[K0q,if_neg (by omega)];exact hz q hq;have hge:j=b.length:=(by have:=q_c h;omega);have x3:IntKind.i64.wrap ((i:Int)+(b.length:Int))=((i+b.length:Nat):Int):=(by rw[<-Int.natCast_add,Q0n _ (by omega)]);have o1:=y0b o (i+b.length) c (by omega);have y8:=H1k c.toNat (UInt32.toNat_lt c);rw[hge,List.take_length] at hv;have hr:=y2u a b o i c hlt (by omega) (hz _ (Nat.le_refl _)) hv;simp-dsimp only[go_sem];refine Q0a ?_;simp-dsimp only[go_sem,x3,o1,y8];refine⟨⟨by omega,by omega⟩,⟨by omega,by omega⟩,?_⟩;refine Q0a ?_;simp-dsimp only[go_sem,x4];refine⟨a.length-(i+1),by omega,i+1,_,rfl,by omega,by rw[List.length_set];exact ho,hr,fun q hq=> ?_,rfl⟩;rw[K0q,if_neg (by omega)];exact hz q (by omega);have hge:i=a.length:=(by have:=q_c h;omega);have ht:o.take m0=o:=List.take_of_length_le (by omega);have hle:m0<=o.length:=(by omega);rw[hge,List.take_length] at hv;simp-dsimp only[go_sem];refine Z0w 0 ?_ ?_;simp-dsimp only[go_sem];refine Q0a ?_;simp-dsimp only[go_sem,ht,hle];refine(W1o o st (by omega)).mono ?_;rintro r st ⟨rfl,rfl⟩;simp-dsimp only[go_sem];rw[<-K0s o,hv,<-hP2]
theorem by_c (a b:Vl)(st:Q0f)(ha:smV a)(hb:smV b):PCalls Tryz.prog 48 [.agg (encV a),.agg (encV b)] st (fun r st'=>r= .agg (encV (byV a b))/\st'=st):=by
 obtain⟨a1,a2,a3⟩:=ha;obtain⟨b1,b2,b3⟩:=hb;have la:=J0d a.m;have lb:=J0d b.m;refine Q0b none Tryz.func48 rfl fun E=>Q0a ?_;unfold byV;cases c1:decide (a.m=0) with
 | true=>
  have h0:a.m=0:=q_b c1;rw[if_pos (.inl h0)];simp-dsimp only[go_sem,lenV,c1];rw[Z0b];rfl
 | false=>
  have h0:a.m≠0:=q_c c1;cases c2:decide (b.m=0) with
  | true=>
   have h1:b.m=0:=q_b c2;rw[if_pos (.inr h1)];simp-dsimp only[go_sem,lenV,c1,c2];rw[Z0b];rfl
  | false=>
   have h1:b.m≠0:=q_c c2;have x1:IntKind.i64.wrap (a.e+b.e)=a.e+b.e:=Q0l _ (by omega) (by omega);rw[if_neg (by omega)];simp-dsimp only[go_sem,lenV,c1,c2];refine Q0o Z0m 32 (.step 0 [] (.step 1 [] (.step 2 [] (.step 3 [] (.step 4 [] (.step 5 [] (.step 6 [] (.step 7 [] (.step 8 [] (.step 10 [] (.step 11 [] (.step 12 [] (.step 13 [] (.step 14 [] (.step 9 [1,3,11,13] (.step 15 [] (.step 16 [] (.done)))))))))))))))))) (by decide+kernel) (by simp) ?_;simp-dsimp only[go_sem,x1];refine(w2d a.m b.m _ (by omega) (by omega)).mono ?_;rintro r st ⟨rfl,rfl⟩;simp-dsimp only[go_sem,x1]
   try rfl
theorem k0j (n:Nat)(st:Q0f)(hn:n<4294967296):PCalls Tryz.prog 59 [.sc (.int .i64 n)] st (fun r st'=>r= .agg (encV (oddV false n 0))/\st'=st):=by
 refine Q0b none Tryz.func59 rfl fun E=>Q0a ?_;have y1:=Y0n n (by omega);have f1:decide ((n:Int)<0)=false:=q_g (by omega);have e1: [PV.sc (.int .u64 (n:Nat))]=encW [UInt64.ofNat n]:=by show _= [PV.sc (.int .u64 ((UInt64.ofNat n).toNat:Nat))];rw[Z0r _ (by omega)]
 have v1:valW [UInt64.ofNat n]=n:=by show(UInt64.ofNat n).toNat+18446744073709551616*0=n;rw[Z0r _ (by omega)];rfl
 simp-dsimp only[go_sem,y1,f1];rw[e1];refine(G2s [UInt64.ofNat n] _ (by simp)).mono ?_;rintro r st ⟨rfl,rfl⟩;rw[v1];simp-dsimp only[go_sem];refine(H2f false n 0 _ (by have:=V1q n (by omega);omega) (by omega) (by omega)).mono ?_;rintro r st ⟨rfl,rfl⟩;simp-dsimp only[go_sem]
theorem Y4g {a:Ivl}{n:Nat}(ha:smI a)(hn:n<=8):Q0q (inN a n)=true/\memI (qN (inN a n)) a/\bdV 43 62 (ofN (inN a n)):=⟨z2e n ha.1,G3f ha.1 hn,v3l ha.1 ha.2.1 ha.2.2 hn⟩
end Go.Pv
end
