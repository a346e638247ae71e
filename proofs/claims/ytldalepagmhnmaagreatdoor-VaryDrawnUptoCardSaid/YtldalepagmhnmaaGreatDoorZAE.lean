/- Parts of the walk: N15, N16. -/
import Derived.Test.YtldalepagmhnmaaGreatDoorZAD
import Derived.Test.YtldalepagmhnmaaGreatDoorZM
set_option linter.unusedVariables false
set_option linter.unusedSimpArgs false
section
set_option maxRecDepth 100000
namespace Go.Pv
open Go.Proofs
def wNs (l:List Nm):Prop:=l.length<=100000000000/\ ∀i,i<l.length->wN (l.getD i default)
theorem k2r (q:List Nm)(i:Nat)(h:i<q.length):ofB (q.take (i+1))=ofB (q.take i)++ [⟨q.getD i default,q.getD i default⟩]:=by unfold ofB;rw[z0s q i default h,List.map_append];rfl
theorem X0x {x:Ivl}(h:Q0m x=true):wI x:=⟨U1j (J0p (Z0n h).1),U1j (J0p (Z0n h).2.1)⟩
theorem Y0x (n:Nat)(h:n<18446744073709551616):IntKind.u64.wrap (n:Int)=(n:Int):=by rw[J0x,Nat.mod_eq_of_lt h]
theorem G1y (n:Nat)(h:n<4294967296):IntKind.u32.wrap (n:Int)=(n:Int):=by rw[K0h,Nat.mod_eq_of_lt h]
theorem q2s (x n:Nat)(hx:0<x):Q0g x=Q0g (x/2)+1:=by by_cases h:x/2=0;have:x=1:=(by omega);subst this;rfl;exact x0s x 1 (by simpa using h)
theorem q2v (m:Nat)(h:(Q0c m).length≠0):Q0g m=32*((Q0c m).length-1)+Q0g ((Q0c m).getD ((Q0c m).length-1) 0).toNat:=by
 have h0:m≠0:=fun e=>h (by rw[e,Z0i];rfl);have hv:=Q0y m;have hsp:=Y0t (Q0c m) ((Q0c m).length-1) (by omega);have hd:valD ((Q0c m).drop ((Q0c m).length-1))=((Q0c m).getD ((Q0c m).length-1) 0).toNat:=by rw[v0w _ _ (by omega),z0o _ _ (by omega)];rfl
 rw[hd,hv] at hsp;have hl:=z0n ((Q0c m).take ((Q0c m).length-1));rw[List.length_take,Nat.min_eq_left (by omega)] at hl;have hne:((Q0c m).getD ((Q0c m).length-1) 0).toNat≠0:=by have hc:cutD (Q0c m)=Q0c m:=z0a m;have:=(x1f (Q0c m) (fun e=>h (by rw[e];rfl))).1 (by rw[hc]);exact fun e=>this ((x0w _).2 e)
 rw[Z1k] at hsp hl
 conv=>lhs;rw[hsp]
 exact Y1w _ _ _ hl hne
theorem w0i (m:Nat)(st:Q0f)(hm:(Q0c m).length<=1000000000000):PCalls Tryz.prog 259 [.sl .no (encD (Q0c m))] st (fun r st'=>r= .sc (.int .i64 (Q0g m:Nat))/\st'=st):=by
 refine Q0b none Tryz.func259 rfl fun E=>Q0a ?_;simp-dsimp only[go_sem];refine ck (fun h=> ?_) (fun h=> ?_);have h0:(Q0c m).length=0:=H0g (b:=0) h;have hm0:m=0:=digitsOf_nil.1 (List.length_eq_zero_iff.1 h0);simp-dsimp only[go_sem];rw[hm0];rfl;have h0:(Q0c m).length≠0:=x0b (b:=0) h;have hb:=q2v m h0;have g1:=J0i (Q0c m) ((Q0c m).length-1) (by omega);generalize Q0c m=l at*
 have x1:IntKind.i64.wrap ((l.length:Int)-1)=((l.length-1:Nat):Int):=(by rw[show(l.length:Int)-1=((l.length-1:Nat):Int) from by omega,Q0o _ (by omega)]);have x2:IntKind.i64.wrap (32*((l.length-1:Nat):Int))=((32*(l.length-1):Nat):Int):=(by rw[show 32*((l.length-1:Nat):Int)=((32*(l.length-1):Nat):Int) from by omega,Q0o _ (by omega)]);have w:=UInt32.toNat_lt (l.getD (l.length-1) 0);simp-dsimp only[go_sem,x1,x2,g1];refine⟨⟨by omega,by omega⟩,?_⟩;generalize (l.getD (l.length-1) 0).toNat=x0 at*
 refine Q0e [false,false,false,true,true] 0 0
  (fun n s'=> ∃(k:Nat),n<4294967296/\k+Q0g n=Q0g m/\s'=⟨[.junk,.junk,.junk,.sc (.int .i64 (k:Nat)),.sc (.int .u32 (n:Nat))]++List.replicate 20 .junk,[],[],st⟩) x0 ?_ ?_
 simp-dsimp only[go_sem];exact⟨32*(l.length-1),by omega,hb.symm,rfl⟩;have hbm:Q0g m<=32*1000000000000:=by have:=x1s x0 (by omega);omega
 rintro n s' ⟨k,hx,hk,rfl⟩;simp-dsimp only[go_sem];refine ck (fun h=> ?_) (fun h=> ?_);have hp:0<n:=(by have:=q_b h;omega);have hs:=q2s n 0 hp;have x3:IntKind.i64.wrap ((k:Int)+1)=((k+1:Nat):Int):=(by rw[show((k:Int)+1)=((k+1:Nat):Int) from rfl,Q0o _ (by omega)]);have x4:bShr .u32 (n:Int) 1=((n/2:Nat):Int):=G1r n 1 (by omega);simp-dsimp only[go_sem,x3,x4];exact⟨n/2,by omega,k+1,by omega,by omega,rfl⟩;have hz:n=0:=(by have:=q_c h;omega);simp-dsimp only[go_sem];refine Q0a ?_;simp-dsimp only[go_sem];rw[hz,X0n] at hk;rw[<-hk];rfl
theorem v1t (o:List UInt32)(i:Nat)(z:UInt32)(c c' y S:Nat)(hi:i<o.length)(hz:z.toNat+4294967296*c'=(o.getD i 0).toNat+y+c)(hv:valD o+4294967296^i*c=S):
 valD (o.set i z)+4294967296^(i+1)*c'=S+4294967296^i*y:=by
 have e1:=v0v o i z hi;have h:=congrArg (4294967296^i* ·) hz;simp only[Nat.mul_add] at h;rw[Nat.pow_succ,Nat.mul_assoc];omega
theorem U2c (b:List UInt32)(i j x V S:Nat)(hj:j<b.length)(hS:S=V+4294967296^i*(x*valD (b.take j))):
 S+4294967296^(i+j)*(x*(b.getD j 0).toNat)=V+4294967296^i*(x*valD (b.take (j+1))):=by
 rw[hS,V0a b j hj,Nat.pow_add];grind
theorem v2b (a b o:List UInt32)(i:Nat)(c:UInt32)(hi:i<a.length)(hn:i+b.length<o.length)(h0:o.getD (i+b.length) 0=0)
 (hv:valD o+4294967296^(i+b.length)*c.toNat=valD (a.take i)*valD b+4294967296^i*((a.getD i 0).toNat*valD b)):
 valD (o.set (i+b.length) c)=valD (a.take (i+1))*valD b:=by
 have h1:=v0v o (i+b.length) c hn;rw[h0,show(0:UInt32).toNat=0 from rfl,Nat.mul_zero,Nat.add_zero] at h1;rw[h1,hv,V0a a i hi,Nat.add_mul,Nat.mul_assoc]
theorem Z2f (x y w c:Nat)(hx:x<4294967296)(hy:y<4294967296)(hw:w<4294967296)(hc:c<4294967296):
 x*y<18446744073709551616/\x*y+w<18446744073709551616/\c+(x*y+w)<18446744073709551616/\(c+(x*y+w))/4294967296<4294967296:=by
 have p:x*y<=4294967295*4294967295:=Nat.mul_le_mul (by omega) (by omega);generalize x*y=q at*
 refine⟨by omega,by omega,by omega,by omega⟩
set_option maxHeartbeats 1000000 in
theorem j2j (m n:Nat)(st:Q0f)(hm:(Q0c m).length<=1000000000000)(hn:(Q0c n).length<=1000000000000):PCalls Tryz.prog 118 [.sl .no (encD (Q0c m)),.sl .no (encD (Q0c n))] st (fun r st'=>r= .sl .no (encD (Q0c (m*n)))/\st'=st):=by
 refine Q0b none Tryz.func118 rfl fun E=>Q0a ?_;obtain⟨P,hP⟩: ∃P,P=m*n:=⟨_,rfl⟩;have hP2:P=valD (Q0c m)*valD (Q0c n):=(by rw[Q0y,Q0y];exact hP);rw[<-hP];generalize Q0c m=a at*
 generalize Q0c n=b at*
 obtain⟨m0,hm0⟩: ∃m0,m0=a.length+b.length:=⟨_,rfl⟩;have e1:IntKind.i64.wrap ((a.length:Int)+(b.length:Int))=((m0:Nat):Int):=(by rw[<-Int.natCast_add,Q0o _ (by omega),hm0]);simp-dsimp only[go_sem,e1];refine⟨⟨by omega,by omega,by omega⟩,?_⟩;refine Q0e [true,true,false,false,false,true,true] 1 0
  (fun k s'=> ∃i o,k=a.length-i/\i<=a.length/\o.length=m0/\valD o=valD (a.take i)*valD b/\(∀q,i+b.length<=q->o.getD q 0=0)/\
   s'=⟨[.sl .no (encD a),.sl .no (encD b),.junk,.junk,.junk,.ms false 0 0 m0,.sc (.int .i64 (i:Nat))]++List.replicate 61 .junk,[encD o],[],st⟩) a.length ?_ ?_
 simp-dsimp only[go_sem];refine⟨0,List.replicate m0 0,by omega,by omega,by simp,by simp[y0m,H0c],fun q _=>V0c _ _ _,rfl⟩;rintro k s' ⟨i,o,rfl,hi,ho,hv,hz,rfl⟩;simp-dsimp only[go_sem];refine ck (fun h=> ?_) (fun h=> ?_);have hlt:i<a.length:=(by have:=q_b h;omega);have g1:=J0i a i hlt;have x4:IntKind.i64.wrap ((i:Int)+1)=((i+1:Nat):Int):=(by rw[show((i:Int)+1)=((i+1:Nat):Int) from rfl,Q0o _ (by omega)]);simp-dsimp only[go_sem];refine Q0e [true,true,false,false,false,true,true,true,true] 1 0
  (fun k s'=> ∃(j:Nat) (o:List UInt32) (c:UInt32),k=b.length-j/\j<=b.length/\o.length=m0/\valD o+4294967296^(i+j)*c.toNat=valD (a.take i)*valD b+4294967296^i*((a.getD i 0).toNat*valD (b.take j))/\(∀q,i+b.length<=q->o.getD q 0=0)/\
   s'=⟨[.sl .no (encD a),.sl .no (encD b),.junk,.junk,.junk,.ms false 0 0 m0,.sc (.int .i64 (i:Nat)),.sc (.int .u64 c.toNat),.sc (.int .i64 (j:Nat))]++List.replicate 59 .junk,[encD o],[],st⟩) b.length ?_ ?_
 simp-dsimp only[go_sem];refine⟨0,o,0,by omega,by omega,ho,?_,hz,rfl⟩;rw[hv];simp[H0c];clear hv hz ho h;clear o;rintro k s' ⟨j,o,c,rfl,hj,ho,hv,hz,rfl⟩;simp-dsimp only[go_sem];refine ck (fun h=> ?_) (fun h=> ?_);have hjt:j<b.length:=(by have:=q_b h;omega);have g2:=J0i b j hjt;have g3:=J0i o (i+j) (by omega);have q1:(a.getD i 0).toNat<4294967296:=UInt32.toNat_lt _;have q2:(b.getD j 0).toNat<4294967296:=UInt32.toNat_lt _;have q3:(o.getD (i+j) 0).toNat<4294967296:=UInt32.toNat_lt _;have q4:c.toNat<4294967296:=UInt32.toNat_lt _;have hs:=v1t o (i+j) (UInt32.ofNat ((c.toNat+((a.getD i 0).toNat*(b.getD j 0).toNat+(o.getD (i+j) 0).toNat)) % 4294967296)) c.toNat ((c.toNat+((a.getD i 0).toNat*(b.getD j 0).toNat+(o.getD (i+j) 0).toNat))/4294967296) ((a.getD i 0).toNat*(b.getD j 0).toNat) _ (by omega) (by rw[X0p _ (Nat.mod_lt _ (by decide)),Nat.mod_add_div];omega) hv;have hmm:=U2c b i j (a.getD i 0).toNat (valD (a.take i)*valD b) _ hjt rfl;have o1:=x0j o (i+j) (UInt32.ofNat ((c.toNat+((a.getD i 0).toNat*(b.getD j 0).toNat+(o.getD (i+j) 0).toNat)) % 4294967296)) (by omega);rw[X0p _ (Nat.mod_lt _ (by decide))] at o1;have bd:=Z2f _ _ _ _ q1 q2 q3 q4;have b1:=bd.1;have b2:=bd.2.1;have b3:=bd.2.2.1;have b4:=bd.2.2.2;have y1:=Y0x (a.getD i 0).toNat (by omega);have y2:=Y0x (b.getD j 0).toNat (by omega);have y3:=Y0x (o.getD (i+j) 0).toNat (by omega);have x1:IntKind.i64.wrap ((i:Int)+(j:Int))=((i+j:Nat):Int):=(by rw[<-Int.natCast_add,Q0o _ (by omega)]);have x2:IntKind.i64.wrap ((j:Int)+1)=((j+1:Nat):Int):=(by rw[show((j:Int)+1)=((j+1:Nat):Int) from rfl,Q0o _ (by omega)]);have y4:IntKind.u64.wrap (((a.getD i 0).toNat:Int)*((b.getD j 0).toNat:Int))=(((a.getD i 0).toNat*(b.getD j 0).toNat:Nat):Int):=(by rw[<-Int.natCast_mul,Y0x _ b1]);have y5:IntKind.u64.wrap ((((a.getD i 0).toNat*(b.getD j 0).toNat:Nat):Int)+((o.getD (i+j) 0).toNat:Int))=(((a.getD i 0).toNat*(b.getD j 0).toNat+(o.getD (i+j) 0).toNat:Nat):Int):=(by rw[<-Int.natCast_add,Y0x _ b2]);have y6:IntKind.u64.wrap ((c.toNat:Int)+(((a.getD i 0).toNat*(b.getD j 0).toNat+(o.getD (i+j) 0).toNat:Nat):Int))=((c.toNat+((a.getD i 0).toNat*(b.getD j 0).toNat+(o.getD (i+j) 0).toNat):Nat):Int):=(by rw[<-Int.natCast_add,Y0x _ b3]);generalize c.toNat+((a.getD i 0).toNat*(b.getD j 0).toNat+(o.getD (i+j) 0).toNat)=t at*
 have y7:bAnd .u64 (t:Int) 4294967295=((t % 4294967296:Nat):Int):=by have h:=y0h t 4294967295 b3 (by omega);rw[show(4294967295:Nat)=2^32-1 from rfl,Nat.and_two_pow_sub_one_eq_mod] at h;exact h
 have y8:=G1y (t % 4294967296) (Nat.mod_lt _ (by decide));have y9:bShr .u64 (t:Int) 32=(((UInt32.ofNat (t/4294967296)).toNat:Nat):Int):=(by rw[X0p _ b4];exact W0f t 32 (by omega));simp-dsimp only[go_sem];refine Q0j Z0a 68 (.step 0 [] (.step 1 [] (.step 2 [] (.step 3 [] (.step 4 [] (.step 5 [] (.step 6 [] (.step 7 [] (.step 8 [] (.step 9 [] (.step 10 [] (.step 11 [] (.step 12 [] (.step 13 [] (.step 14 [] (.step 15 [] (.step 16 [] (.step 17 [] (.step 18 [] (.step 19 [] (.step 20 [] (.step 21 [] (.done))))))))))))))))))))))) (by decide+kernel) (by simp) ?_;simp-dsimp only[go_sem,x1,x2,g1,g2,g3,y1,y2,y3,y4,y5,y6,y7,y8,y9,o1];refine⟨⟨by omega,hlt⟩,⟨by omega,hjt⟩,⟨by omega,by omega⟩,by omega,⟨by omega,by omega⟩,⟨by omega,by omega⟩,b.length-(j+1),by omega,j+1,_,UInt32.ofNat (t/4294967296),rfl,by omega,by rw[List.length_set];exact ho,?_,fun q hq=> ?_,rfl⟩;rw[X0p _ b4,<-hmm,<-hs,<-Nat.add_assoc i j 1];rw[K0u,if_neg (by omega)];exact hz q hq;have hge:j=b.length:=(by have:=q_c h;omega);have x3:IntKind.i64.wrap ((i:Int)+(b.length:Int))=((i+b.length:Nat):Int):=(by rw[<-Int.natCast_add,Q0o _ (by omega)]);have o1:=x0j o (i+b.length) c (by omega);have y8:=G1y c.toNat (UInt32.toNat_lt c);rw[hge,List.take_length] at hv;have hr:=v2b a b o i c hlt (by omega) (hz _ (Nat.le_refl _)) hv;simp-dsimp only[go_sem];refine Q0a ?_;simp-dsimp only[go_sem,x3,o1,y8];refine⟨⟨by omega,by omega⟩,⟨by omega,by omega⟩,?_⟩;refine Q0a ?_;simp-dsimp only[go_sem,x4];refine⟨a.length-(i+1),by omega,i+1,_,rfl,by omega,by rw[List.length_set];exact ho,hr,fun q hq=> ?_,rfl⟩;rw[K0u,if_neg (by omega)];exact hz q (by omega);have hge:i=a.length:=(by have:=q_c h;omega);have ht:o.take m0=o:=List.take_of_length_le (by omega);have hle:m0<=o.length:=(by omega);rw[hge,List.take_length] at hv;simp-dsimp only[go_sem];refine Z0r 0 ?_ ?_;simp-dsimp only[go_sem];refine Q0a ?_;simp-dsimp only[go_sem,ht,hle];refine(X1q o st (by omega)).mono ?_;rintro r st ⟨rfl,rfl⟩;simp-dsimp only[go_sem];rw[<-J0z o,hv,<-hP2]
theorem by_c (a b:Vl)(st:Q0f)(ha:smV a)(hb:smV b):PCalls Tryz.prog 48 [.agg (encV a),.agg (encV b)] st (fun r st'=>r= .agg (encV (byV a b))/\st'=st):=by
 obtain⟨a1,a2,a3⟩:=ha;obtain⟨b1,b2,b3⟩:=hb;have la:=Z0o a.m;have lb:=Z0o b.m;refine Q0b none Tryz.func48 rfl fun E=>Q0a ?_;unfold byV;cases c1:decide (a.m=0) with
 | true=>
  have h0:a.m=0:=q_b c1;rw[if_pos (.inl h0)];simp-dsimp only[go_sem,lenV,c1];rw[Z0i];rfl
 | false=>
  have h0:a.m≠0:=q_c c1;cases c2:decide (b.m=0) with
  | true=>
   have h1:b.m=0:=q_b c2;rw[if_pos (.inr h1)];simp-dsimp only[go_sem,lenV,c1,c2];rw[Z0i];rfl
  | false=>
   have h1:b.m≠0:=q_c c2;have x1:IntKind.i64.wrap (a.e+b.e)=a.e+b.e:=Q0i _ (by omega) (by omega);rw[if_neg (by omega)];simp-dsimp only[go_sem,lenV,c1,c2];refine Q0j Z0a 32 (.step 0 [] (.step 1 [] (.step 2 [] (.step 3 [] (.step 4 [] (.step 5 [] (.step 6 [] (.step 7 [] (.step 8 [] (.step 10 [] (.step 11 [] (.step 12 [] (.step 13 [] (.step 14 [] (.step 9 [1,3,11,13] (.step 15 [] (.step 16 [] (.done)))))))))))))))))) (by decide+kernel) (by simp) ?_;simp-dsimp only[go_sem,x1];refine(j2j a.m b.m _ (by omega) (by omega)).mono ?_;rintro r st ⟨rfl,rfl⟩;simp-dsimp only[go_sem,x1]
   try rfl
theorem K2u (n:Nat)(st:Q0f)(hn:n<4294967296):PCalls Tryz.prog 59 [.sc (.int .i64 n)] st (fun r st'=>r= .agg (encV (oddV false n 0))/\st'=st):=by
 refine Q0b none Tryz.func59 rfl fun E=>Q0a ?_;have y1:=Y0x n (by omega);have f1:decide ((n:Int)<0)=false:=q_g (by omega);have e1: [PV.sc (.int .u64 (n:Nat))]=encW [UInt64.ofNat n]:=by show _= [PV.sc (.int .u64 ((UInt64.ofNat n).toNat:Nat))];rw[Z0s _ (by omega)]
 have v1:valW [UInt64.ofNat n]=n:=by show(UInt64.ofNat n).toNat+18446744073709551616*0=n;rw[Z0s _ (by omega)];rfl
 simp-dsimp only[go_sem,y1,f1];rw[e1];refine(Y2g [UInt64.ofNat n] _ (by simp)).mono ?_;rintro r st ⟨rfl,rfl⟩;rw[v1];simp-dsimp only[go_sem];refine(V1q false n 0 _ (by have:=V1a n (by omega);omega) (by omega) (by omega)).mono ?_;rintro r st ⟨rfl,rfl⟩;simp-dsimp only[go_sem]
theorem y0w (v:Vl)(p:Nat)(up:Bool)(st:Q0f)(hv:smV v)(hp:p<=1000000000):PCalls Tryz.prog 205 [.agg (encV v),.sc (.int .i64 p),.sc (.bool up)] st (fun r st'=>r= .agg (encV (Z0e v p up))/\st'=st):=by
 obtain⟨v1,v2,v3⟩:=hv;have lv:=Z0o v.m;have x1:IntKind.i64.wrap ((Q0g v.m:Int)-(p:Int))=(Q0g v.m:Int)-(p:Int):=Q0i _ (by omega) (by omega);refine Q0b none Tryz.func205 rfl fun E=>Q0a ?_;simp-dsimp only[go_sem];refine(w0i v.m _ (by omega)).mono ?_;rintro r st ⟨rfl,rfl⟩;simp-dsimp only[go_sem,x1];refine ck (fun h=> ?_) (fun h=> ?_);have hle:Q0g v.m<=p:=(by have:=q_b h;omega);simp-dsimp only[go_sem];rw[Z0e,if_pos hle];have hgt:p<Q0g v.m:=(by have:=q_c h;omega);have x2:(Q0g v.m:Int)-(p:Int)=((Q0g v.m-p:Nat):Int):=(by omega);rw[Z0e,if_neg (by omega)];obtain⟨d,hd⟩: ∃d,d=Q0g v.m-p:=⟨_,rfl⟩;rw[x2,<-hd];have x3:IntKind.i64.wrap (v.e+((d:Nat):Int))=v.e+((d:Nat):Int):=Q0i _ (by omega) (by omega);have lq:=J0b (Nat.div_le_self v.m (2^d));have lq2:=Z0o (v.m/2^d);have lq3:=U0t (v.m/2^d) 1;have b1:Q0g 1=1:=rfl;simp-dsimp only[go_sem];refine(q1i v.m d _ (by omega) (by omega)).mono ?_;rintro r st ⟨rfl,rfl⟩;cases hc:decide (v.m % 2^d≠0) with
 | false=>
  have hz: ¬v.m % 2^d≠0:=q_c hc;rw[if_neg (fun h=>hz h.1),Nat.add_zero];simp-dsimp only[go_sem,x3];refine(V1q v.neg (v.m/2^d) _ _ (by omega) (by omega) (by omega)).mono ?_;rintro r st ⟨rfl,rfl⟩;simp-dsimp only[go_sem]
 | true=>
  have hz:v.m % 2^d≠0:=q_b hc;cases hu:(!up==v.neg) with
  | false=>
   have he:up=v.neg:=by cases up<;>cases hn:v.neg<;>simp_all
   rw[if_neg (fun h=>h.2 he),Nat.add_zero];simp-dsimp only[go_sem,x3,hu];refine(V1q v.neg (v.m/2^d) _ _ (by omega) (by omega) (by omega)).mono ?_;rintro r st ⟨rfl,rfl⟩;simp-dsimp only[go_sem]
  | true=>
   have hne:up≠v.neg:=by cases up<;>cases hn:v.neg<;>simp_all
   rw[if_pos ⟨hz,hne⟩];have e1: [PV.sc (.int .u32 1)]=encD (Q0c 1):=by rw[show Q0c 1= [1] from by decide+kernel];rfl
   simp-dsimp only[go_sem,x3,hu];rw[e1];refine(Z1t (v.m/2^d) 1 _ (by omega) (by decide+kernel)).mono ?_;rintro r st ⟨rfl,rfl⟩;simp-dsimp only[go_sem,x3];refine(V1q v.neg (v.m/2^d+1) _ _ (by omega) (by omega) (by omega)).mono ?_;rintro r st ⟨rfl,rfl⟩;simp-dsimp only[go_sem]
end Go.Pv
end
