/- Parts of the walk: N15, N16, M38. -/
import Derived.Test.YtldalepagmhnmaaGreatDoorZAD
import Derived.Test.YtldalepagmhnmaaGreatDoorZM
set_option linter.unusedVariables false
set_option linter.unusedSimpArgs false
section
set_option maxRecDepth 100000
namespace Go.Pv
open Go.Proofs
theorem J0p {x:Ivl}(h:Q0o x=true):wI x:=⟨v1g (K0b (Z0s h).1),v1g (K0b (Z0s h).2.1)⟩
theorem Y0h (n:Nat)(h:n<18446744073709551616):IntKind.u64.wrap (n:Int)=(n:Int):=by rw[J0o,Nat.mod_eq_of_lt h]
theorem H1s (n:Nat)(h:n<4294967296):IntKind.u32.wrap (n:Int)=(n:Int):=by rw[J0y,Nat.mod_eq_of_lt h]
theorem y1t (o:List UInt32)(i:Nat)(z:UInt32)(c c' y S:Nat)(hi:i<o.length)(hz:z.toNat+4294967296*c'=(o.getD i 0).toNat+y+c)(hv:valD o+4294967296^i*c=S):
 valD (o.set i z)+4294967296^(i+1)*c'=S+4294967296^i*y:=by
 have e1:=Z1y o i z hi;have h:=congrArg (4294967296^i* ·) hz;simp only[Nat.mul_add] at h;rw[Nat.pow_succ,Nat.mul_assoc];omega
theorem H2z (b:List UInt32)(i j x V S:Nat)(hj:j<b.length)(hS:S=V+4294967296^i*(x*valD (b.take j))):
 S+4294967296^(i+j)*(x*(b.getD j 0).toNat)=V+4294967296^i*(x*valD (b.take (j+1))):=by
 rw[hS,K0r b j hj,Nat.pow_add];grind
theorem y2y (a b o:List UInt32)(i:Nat)(c:UInt32)(hi:i<a.length)(hn:i+b.length<o.length)(h0:o.getD (i+b.length) 0=0)
 (hv:valD o+4294967296^(i+b.length)*c.toNat=valD (a.take i)*valD b+4294967296^i*((a.getD i 0).toNat*valD b)):
 valD (o.set (i+b.length) c)=valD (a.take (i+1))*valD b:=by
 have h1:=Z1y o (i+b.length) c hn;rw[h0,show(0:UInt32).toNat=0 from rfl,Nat.mul_zero,Nat.add_zero] at h1;rw[h1,hv,K0r a i hi,Nat.add_mul,Nat.mul_assoc]
theorem J2s (x y w c:Nat)(hx:x<4294967296)(hy:y<4294967296)(hw:w<4294967296)(hc:c<4294967296):
 x*y<18446744073709551616/\x*y+w<18446744073709551616/\c+(x*y+w)<18446744073709551616/\(c+(x*y+w))/4294967296<4294967296:=by
 have p:x*y<=4294967295*4294967295:=Nat.mul_le_mul (by omega) (by omega);generalize x*y=q at*
 refine⟨by omega,by omega,by omega,by omega⟩
set_option maxHeartbeats 1000000 in
theorem w2i (m n:Nat)(st:Q0e)(hm:(Q0f m).length<=1000000000000)(hn:(Q0f n).length<=1000000000000):PCalls Tryz.prog 118 [.sl .no (encD (Q0f m)),.sl .no (encD (Q0f n))] st (fun r st'=>r= .sl .no (encD (Q0f (m*n)))/\st'=st):=by
 refine Q0b none Tryz.func118 rfl fun E=>Q0a ?_;obtain⟨P,hP⟩: ∃P,P=m*n:=⟨_,rfl⟩;have hP2:P=valD (Q0f m)*valD (Q0f n):=(by rw[Z0b,Z0b];exact hP);rw[<-hP];generalize Q0f m=a at*
 generalize Q0f n=b at*
 obtain⟨m0,hm0⟩: ∃m0,m0=a.length+b.length:=⟨_,rfl⟩;have e1:IntKind.i64.wrap ((a.length:Int)+(b.length:Int))=((m0:Nat):Int):=(by rw[<-Int.natCast_add,Q0m _ (by omega),hm0]);simp-dsimp only[go_sem,e1];refine⟨⟨by omega,by omega,by omega⟩,?_⟩;refine Q0d [true,true,false,false,false,true,true] 1 0
  (fun k s'=> ∃i o,k=a.length-i/\i<=a.length/\o.length=m0/\valD o=valD (a.take i)*valD b/\(∀q,i+b.length<=q->o.getD q 0=0)/\
   s'=⟨[.sl .no (encD a),.sl .no (encD b),.junk,.junk,.junk,.ms false 0 0 m0,.sc (.int .i64 (i:Nat))]++List.replicate 61 .junk,[encD o],[],st⟩) a.length ?_ ?_
 simp-dsimp only[go_sem];refine⟨0,List.replicate m0 0,by omega,by omega,by simp,by simp[W1k,G0t],fun q _=>K0t _ _ _,rfl⟩;rintro k s' ⟨i,o,rfl,hi,ho,hv,hz,rfl⟩;simp-dsimp only[go_sem];refine ck (fun h=> ?_) (fun h=> ?_);have hlt:i<a.length:=(by have:=q_b h;omega);have g1:=J0x a i hlt;have x4:IntKind.i64.wrap ((i:Int)+1)=((i+1:Nat):Int):=(by rw[show((i:Int)+1)=((i+1:Nat):Int) from rfl,Q0m _ (by omega)]);simp-dsimp only[go_sem];refine Q0d [true,true,false,false,false,true,true,true,true] 1 0
  (fun k s'=> ∃(j:Nat) (o:List UInt32) (c:UInt32),k=b.length-j/\j<=b.length/\o.length=m0/\valD o+4294967296^(i+j)*c.toNat=valD (a.take i)*valD b+4294967296^i*((a.getD i 0).toNat*valD (b.take j))/\(∀q,i+b.length<=q->o.getD q 0=0)/\
   s'=⟨[.sl .no (encD a),.sl .no (encD b),.junk,.junk,.junk,.ms false 0 0 m0,.sc (.int .i64 (i:Nat)),.sc (.int .u64 c.toNat),.sc (.int .i64 (j:Nat))]++List.replicate 59 .junk,[encD o],[],st⟩) b.length ?_ ?_
 simp-dsimp only[go_sem];refine⟨0,o,0,by omega,by omega,ho,?_,hz,rfl⟩;rw[hv];simp[G0t];clear hv hz ho h;clear o;rintro k s' ⟨j,o,c,rfl,hj,ho,hv,hz,rfl⟩;simp-dsimp only[go_sem];refine ck (fun h=> ?_) (fun h=> ?_);have hjt:j<b.length:=(by have:=q_b h;omega);have g2:=J0x b j hjt;have g3:=J0x o (i+j) (by omega);have q1:(a.getD i 0).toNat<4294967296:=UInt32.toNat_lt _;have q2:(b.getD j 0).toNat<4294967296:=UInt32.toNat_lt _;have q3:(o.getD (i+j) 0).toNat<4294967296:=UInt32.toNat_lt _;have q4:c.toNat<4294967296:=UInt32.toNat_lt _;have hs:=y1t o (i+j) (UInt32.ofNat ((c.toNat+((a.getD i 0).toNat*(b.getD j 0).toNat+(o.getD (i+j) 0).toNat)) % 4294967296)) c.toNat ((c.toNat+((a.getD i 0).toNat*(b.getD j 0).toNat+(o.getD (i+j) 0).toNat))/4294967296) ((a.getD i 0).toNat*(b.getD j 0).toNat) _ (by omega) (by rw[J0e _ (Nat.mod_lt _ (by decide)),Nat.mod_add_div];omega) hv;have hmm:=H2z b i j (a.getD i 0).toNat (valD (a.take i)*valD b) _ hjt rfl;have o1:=w0r o (i+j) (UInt32.ofNat ((c.toNat+((a.getD i 0).toNat*(b.getD j 0).toNat+(o.getD (i+j) 0).toNat)) % 4294967296)) (by omega);rw[J0e _ (Nat.mod_lt _ (by decide))] at o1;have bd:=J2s _ _ _ _ q1 q2 q3 q4;have b1:=bd.1;have b2:=bd.2.1;have b3:=bd.2.2.1;have b4:=bd.2.2.2;have y1:=Y0h (a.getD i 0).toNat (by omega);have y2:=Y0h (b.getD j 0).toNat (by omega);have y3:=Y0h (o.getD (i+j) 0).toNat (by omega);have x1:IntKind.i64.wrap ((i:Int)+(j:Int))=((i+j:Nat):Int):=(by rw[<-Int.natCast_add,Q0m _ (by omega)]);have x2:IntKind.i64.wrap ((j:Int)+1)=((j+1:Nat):Int):=(by rw[show((j:Int)+1)=((j+1:Nat):Int) from rfl,Q0m _ (by omega)]);have y4:IntKind.u64.wrap (((a.getD i 0).toNat:Int)*((b.getD j 0).toNat:Int))=(((a.getD i 0).toNat*(b.getD j 0).toNat:Nat):Int):=(by rw[<-Int.natCast_mul,Y0h _ b1]);have y5:IntKind.u64.wrap ((((a.getD i 0).toNat*(b.getD j 0).toNat:Nat):Int)+((o.getD (i+j) 0).toNat:Int))=(((a.getD i 0).toNat*(b.getD j 0).toNat+(o.getD (i+j) 0).toNat:Nat):Int):=(by rw[<-Int.natCast_add,Y0h _ b2]);have y6:IntKind.u64.wrap ((c.toNat:Int)+(((a.getD i 0).toNat*(b.getD j 0).toNat+(o.getD (i+j) 0).toNat:Nat):Int))=((c.toNat+((a.getD i 0).toNat*(b.getD j 0).toNat+(o.getD (i+j) 0).toNat):Nat):Int):=(by rw[<-Int.natCast_add,Y0h _ b3]);generalize c.toNat+((a.getD i 0).toNat*(b.getD j 0).toNat+(o.getD (i+j) 0).toNat)=t at*
 have y7:bAnd .u64 (t:Int) 4294967295=((t % 4294967296:Nat):Int):=by have h:=y0e t 4294967295 b3 (by omega);rw[show(4294967295:Nat)=2^32-1 from rfl,Nat.and_two_pow_sub_one_eq_mod] at h;exact h
 have y8:=H1s (t % 4294967296) (Nat.mod_lt _ (by decide));have y9:bShr .u64 (t:Int) 32=(((UInt32.ofNat (t/4294967296)).toNat:Nat):Int):=(by rw[J0e _ b4];exact V0t t 32 (by omega));simp-dsimp only[go_sem];refine Q0p Z0n 68 (.step 0 [] (.step 1 [] (.step 2 [] (.step 3 [] (.step 4 [] (.step 5 [] (.step 6 [] (.step 7 [] (.step 8 [] (.step 9 [] (.step 10 [] (.step 11 [] (.step 12 [] (.step 13 [] (.step 14 [] (.step 15 [] (.step 16 [] (.step 17 [] (.step 18 [] (.step 19 [] (.step 20 [] (.step 21 [] (.done))))))))))))))))))))))) (by decide+kernel) (by simp) ?_;simp-dsimp only[go_sem,x1,x2,g1,g2,g3,y1,y2,y3,y4,y5,y6,y7,y8,y9,o1];refine⟨⟨by omega,hlt⟩,⟨by omega,hjt⟩,⟨by omega,by omega⟩,by omega,⟨by omega,by omega⟩,⟨by omega,by omega⟩,b.length-(j+1),by omega,j+1,_,UInt32.ofNat (t/4294967296),rfl,by omega,by rw[List.length_set];exact ho,?_,fun q hq=> ?_,rfl⟩;rw[J0e _ b4,<-hmm,<-hs,<-Nat.add_assoc i j 1];rw[K0l,if_neg (by omega)];exact hz q hq;have hge:j=b.length:=(by have:=q_c h;omega);have x3:IntKind.i64.wrap ((i:Int)+(b.length:Int))=((i+b.length:Nat):Int):=(by rw[<-Int.natCast_add,Q0m _ (by omega)]);have o1:=w0r o (i+b.length) c (by omega);have y8:=H1s c.toNat (UInt32.toNat_lt c);rw[hge,List.take_length] at hv;have hr:=y2y a b o i c hlt (by omega) (hz _ (Nat.le_refl _)) hv;simp-dsimp only[go_sem];refine Q0a ?_;simp-dsimp only[go_sem,x3,o1,y8];refine⟨⟨by omega,by omega⟩,⟨by omega,by omega⟩,?_⟩;refine Q0a ?_;simp-dsimp only[go_sem,x4];refine⟨a.length-(i+1),by omega,i+1,_,rfl,by omega,by rw[List.length_set];exact ho,hr,fun q hq=> ?_,rfl⟩;rw[K0l,if_neg (by omega)];exact hz q (by omega);have hge:i=a.length:=(by have:=q_c h;omega);have ht:o.take m0=o:=List.take_of_length_le (by omega);have hle:m0<=o.length:=(by omega);rw[hge,List.take_length] at hv;simp-dsimp only[go_sem];refine Z0q 0 ?_ ?_;simp-dsimp only[go_sem];refine Q0a ?_;simp-dsimp only[go_sem,ht,hle];refine(W1n o st (by omega)).mono ?_;rintro r st ⟨rfl,rfl⟩;simp-dsimp only[go_sem];rw[<-K0o o,hv,<-hP2]
theorem by_c (a b:Vl)(st:Q0e)(ha:smV a)(hb:smV b):PCalls Tryz.prog 48 [.agg (encV a),.agg (encV b)] st (fun r st'=>r= .agg (encV (byV a b))/\st'=st):=by
 obtain⟨a1,a2,a3⟩:=ha;obtain⟨b1,b2,b3⟩:=hb;have la:=J0a a.m;have lb:=J0a b.m;refine Q0b none Tryz.func48 rfl fun E=>Q0a ?_;unfold byV;cases c1:decide (a.m=0) with
 | true=>
  have h0:a.m=0:=q_b c1;rw[if_pos (.inl h0)];simp-dsimp only[go_sem,lenV,c1];rw[Z0g];rfl
 | false=>
  have h0:a.m≠0:=q_c c1;cases c2:decide (b.m=0) with
  | true=>
   have h1:b.m=0:=q_b c2;rw[if_pos (.inr h1)];simp-dsimp only[go_sem,lenV,c1,c2];rw[Z0g];rfl
  | false=>
   have h1:b.m≠0:=q_c c2;have x1:IntKind.i64.wrap (a.e+b.e)=a.e+b.e:=Q0j _ (by omega) (by omega);rw[if_neg (by omega)];simp-dsimp only[go_sem,lenV,c1,c2];refine Q0p Z0n 32 (.step 0 [] (.step 1 [] (.step 2 [] (.step 3 [] (.step 4 [] (.step 5 [] (.step 6 [] (.step 7 [] (.step 8 [] (.step 10 [] (.step 11 [] (.step 12 [] (.step 13 [] (.step 14 [] (.step 9 [1,3,11,13] (.step 15 [] (.step 16 [] (.done)))))))))))))))))) (by decide+kernel) (by simp) ?_;simp-dsimp only[go_sem,x1];refine(w2i a.m b.m _ (by omega) (by omega)).mono ?_;rintro r st ⟨rfl,rfl⟩;simp-dsimp only[go_sem,x1]
   try rfl
theorem X1p (n:Nat)(st:Q0e)(hn:n<4294967296):PCalls Tryz.prog 59 [.sc (.int .i64 n)] st (fun r st'=>r= .agg (encV (oddV false n 0))/\st'=st):=by
 refine Q0b none Tryz.func59 rfl fun E=>Q0a ?_;have y1:=Y0h n (by omega);have f1:decide ((n:Int)<0)=false:=q_g (by omega);have e1: [PV.sc (.int .u64 (n:Nat))]=encW [UInt64.ofNat n]:=by show _= [PV.sc (.int .u64 ((UInt64.ofNat n).toNat:Nat))];rw[Z0r _ (by omega)]
 have v1:valW [UInt64.ofNat n]=n:=by show(UInt64.ofNat n).toNat+18446744073709551616*0=n;rw[Z0r _ (by omega)];rfl
 simp-dsimp only[go_sem,y1,f1];rw[e1];refine(H2c [UInt64.ofNat n] _ (by simp)).mono ?_;rintro r st ⟨rfl,rfl⟩;rw[v1];simp-dsimp only[go_sem];refine(H2p false n 0 _ (by have:=V1s n (by omega);omega) (by omega) (by omega)).mono ?_;rintro r st ⟨rfl,rfl⟩;simp-dsimp only[go_sem]
theorem Y4p {a:Ivl}{n:Nat}(ha:smI a)(hn:n<=8):Q0n (inN a n)=true/\memI (qN (inN a n)) a/\bdV 43 62 (ofN (inN a n)):=⟨z2p n ha.1,G3s ha.1 hn,v3w ha.1 ha.2.1 ha.2.2 hn⟩
end Go.Pv
end
