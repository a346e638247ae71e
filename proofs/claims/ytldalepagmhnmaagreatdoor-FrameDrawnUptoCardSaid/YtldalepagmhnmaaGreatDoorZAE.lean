/- Parts of the walk: N15, N16, M38. -/
import Derived.Test.YtldalepagmhnmaaGreatDoorZAD
import Derived.Test.YtldalepagmhnmaaGreatDoorZM
set_option linter.unusedVariables false
set_option linter.unusedSimpArgs false
section
set_option maxRecDepth 100000
namespace Go.Pv
open Go.Proofs
def wNs (l:List Nm):Prop:=l.length<=100000000000/\ ∀i,i<l.length->wN (l.getD i default)
theorem q1l (q:List Nm)(i:Nat)(h:i<q.length):ofB (q.take (i+1))=ofB (q.take i)++ [⟨q.getD i default,q.getD i default⟩]:=by unfold ofB;rw[x0z q i default h,List.map_append];rfl
theorem X1q (q:List Nm)(st:Q0f)(hq:wNs q):PR 53 [.sl .no (Q0u q)] st (.sl (.fresh 6) (Q0z (ofB q))):=by
 obtain⟨hl,hw⟩:=hq;refine W4y Tryz.func53 fun E=> ?_;refine Z0d 3 6 ?_;refine Y4w ?_;refine Q0e [false,false,false,true,false,false,true,true,true] 0 1
  (fun n s=> ∃i,n=q.length-i/\i<=q.length/\s=⟨[.junk,.junk,.junk,.sl (.own 0) (Q0z (ofB (q.take i))),.junk,.junk,.sl .no (Q0u q),.sc (.int .i64 q.length),.sc (.int .i64 (i:Nat))]++jk 10,[],[((ofB (q.take i)).length,6)],st⟩) q.length ?_ ?_
 refine Y4w ?_;exact⟨0,oG,oG,rfl⟩;rintro n s ⟨i,rfl,hi,rfl⟩;refine W4z (fun h'=> ?_) (fun h'=> ?_);have hlt:i<q.length:=(by have:=q_b h';omega);have e1:=Z0k q i hlt;have e3:IntKind.i64.wrap ((i:Int)+1)=((i+1:Nat):Int):=(by rw[Q0q _ oG oG];omega);simp-dsimp only[go_sem,e1];refine⟨oG,?_⟩;refine(G1i _ _ (hw i hlt)).q ?_;simp-dsimp only[go_sem,e3];have ll:(ofB (q.take i)).length=i:=(by simp[ofB];omega);refine⟨⟨oG,oG⟩,q.length-(i+1),oG,i+1,rfl,oG,?_⟩;rw[q1l q i hlt];simp[Q0z,encI];have hge:i=q.length:=(by have:=q_c h';omega);refine Y4w ?_;refine W4u ?_;rw[hge,List.take_length]
theorem H0o {x:Ivl}(h:Q0w x=true):wI x:=⟨x0q (Z0n (Q0x h).1),x0q (Z0n (Q0x h).2.1)⟩
theorem U0q (n:Nat)(h:n<18446744073709551616):IntKind.u64.wrap (n:Int)=(n:Int):=by rw[X0k,Nat.mod_eq_of_lt h]
theorem x1e (n:Nat)(h:n<4294967296):IntKind.u32.wrap (n:Int)=(n:Int):=by rw[K0m,Nat.mod_eq_of_lt h]
theorem v2g (x n:Nat)(hx:0<x):Q0i x=Q0i (x/2)+1:=by by_cases h:x/2=0;have:x=1:=oG;subst this;rfl;exact k0c x 1 (by simpa using h)
theorem v2j (m:Nat)(h:(Q0g m).length≠0):Q0i m=32*((Q0g m).length-1)+Q0i ((Q0g m).getD ((Q0g m).length-1) 0).toNat:=by
 have h0:m≠0:=fun e=>h (by rw[e,Z0o];rfl);have hv:=Z0g m;have hsp:=U0l (Q0g m) ((Q0g m).length-1) oG;have hd:valD ((Q0g m).drop ((Q0g m).length-1))=((Q0g m).getD ((Q0g m).length-1) 0).toNat:=by rw[w0u _ _ oG,x0w _ _ oG];rfl
 rw[hd,hv] at hsp;have hl:=x0v ((Q0g m).take ((Q0g m).length-1));rw[List.length_take,Nat.min_eq_left oG] at hl;have hne:((Q0g m).getD ((Q0g m).length-1) 0).toNat≠0:=by have hc:cutD (Q0g m)=Q0g m:=x0f m;have:=(v1z (Q0g m) (fun e=>h (by rw[e];rfl))).1 (by rw[hc]);exact fun e=>this ((k0e _).2 e)
 rw[J1g] at hsp hl
 conv=>lhs;rw[hsp]
 exact H1c _ _ _ hl hne
theorem j0j (m:Nat)(st:Q0f)(hm:(Q0g m).length<=1000000000000):PR 259 [.sl .no (encD (Q0g m))] st (.sc (.int .i64 (Q0i m:Nat))):=by
 refine W4y Tryz.func259 fun E=> ?_;refine ck (fun h=> ?_) (fun h=> ?_);have h0:(Q0g m).length=0:=Y0o (b:=0) h;have hm0:m=0:=digitsOf_nil.1 (List.length_eq_zero_iff.1 h0);refine Y4w ?_;rw[hm0];rfl;have h0:(Q0g m).length≠0:=H0z (b:=0) h;have hb:=v2j m h0;have g1:=J0o (Q0g m) ((Q0g m).length-1) oG;generalize Q0g m=l at*
 have x1:IntKind.i64.wrap ((l.length:Int)-1)=((l.length-1:Nat):Int):=(by rw[show(l.length:Int)-1=((l.length-1:Nat):Int) from oG,Q0n _ oG]);have x2:IntKind.i64.wrap (32*((l.length-1:Nat):Int))=((32*(l.length-1):Nat):Int):=(by rw[show 32*((l.length-1:Nat):Int)=((32*(l.length-1):Nat):Int) from oG,Q0n _ oG]);have w:=UInt32.toNat_lt (l.getD (l.length-1) 0);simp-dsimp only[go_sem,x1,x2,g1];refine⟨⟨oG,oG⟩,?_⟩;generalize (l.getD (l.length-1) 0).toNat=x0 at*
 refine Q0e [false,false,false,true,true] 0 0
  (fun n s'=> ∃(k:Nat),n<4294967296/\k+Q0i n=Q0i m/\s'=⟨[.junk,.junk,.junk,.sc (.int .i64 (k:Nat)),.sc (.int .u32 (n:Nat))]++jk 20,[],[],st⟩) x0 ?_ ?_
 refine Y4w ?_;exact⟨32*(l.length-1),oG,hb.symm,rfl⟩;have hbm:Q0i m<=32*1000000000000:=by have:=w1o x0 oG;omega
 rintro n s' ⟨k,hx,hk,rfl⟩;refine W4z (fun h=> ?_) (fun h=> ?_);have hp:0<n:=(oT h);have hs:=v2g n 0 hp;have x3:IntKind.i64.wrap ((k:Int)+1)=((k+1:Nat):Int):=(by rw[show((k:Int)+1)=((k+1:Nat):Int) from rfl,Q0n _ oG]);have x4:bShr .u32 (n:Int) 1=((n/2:Nat):Int):=z1y n 1 oG;simp-dsimp only[go_sem,x3,x4];exact⟨n/2,oG,k+1,oG,oG,rfl⟩;have hz:n=0:=(oF h);refine Y4w ?_;refine W4u ?_;rw[hz,X0z] at hk;rw[<-hk];rfl
theorem Z2o (o:List UInt32)(i:Nat)(z:UInt32)(c c' y S:Nat)(hi:i<o.length)(hz:z.toNat+4294967296*c'=(o.getD i 0).toNat+y+c)(hv:valD o+4294967296^i*c=S):
 valD (o.set i z)+4294967296^(i+1)*c'=S+4294967296^i*y:=by
 have e1:=w0t o i z hi;have h:=congrArg (4294967296^i* ·) hz;simp only[Nat.mul_add] at h;rw[Nat.pow_succ,Nat.mul_assoc];omega
theorem z2p (b:List UInt32)(i j x V S:Nat)(hj:j<b.length)(hS:S=V+4294967296^i*(x*valD (b.take j))):
 S+4294967296^(i+j)*(x*(b.getD j 0).toNat)=V+4294967296^i*(x*valD (b.take (j+1))):=by
 rw[hS,K0z b j hj,Nat.pow_add];grind
theorem Z3r (a b o:List UInt32)(i:Nat)(c:UInt32)(hi:i<a.length)(hn:i+b.length<o.length)(h0:o.getD (i+b.length) 0=0)
 (hv:valD o+4294967296^(i+b.length)*c.toNat=valD (a.take i)*valD b+4294967296^i*((a.getD i 0).toNat*valD b)):
 valD (o.set (i+b.length) c)=valD (a.take (i+1))*valD b:=by
 have h1:=w0t o (i+b.length) c hn;rw[h0,show(0:UInt32).toNat=0 from rfl,Nat.mul_zero,Nat.add_zero] at h1;rw[h1,hv,K0z a i hi,Nat.add_mul,Nat.mul_assoc]
theorem V2t (x y w c:Nat)(hx:x<4294967296)(hy:y<4294967296)(hw:w<4294967296)(hc:c<4294967296):
 x*y<18446744073709551616/\x*y+w<18446744073709551616/\c+(x*y+w)<18446744073709551616/\(c+(x*y+w))/4294967296<4294967296:=by
 have p:x*y<=4294967295*4294967295:=Nat.mul_le_mul oG oG;generalize x*y=q at*
 refine⟨oG,oG,oG,oG⟩
set_option maxHeartbeats 4000000 in
theorem Q3c (m n:Nat)(st:Q0f)(hm:(Q0g m).length<=1000000000000)(hn:(Q0g n).length<=1000000000000):PR 118 [.sl .no (encD (Q0g m)),.sl .no (encD (Q0g n))] st (.sl .no (encD (Q0g (m*n)))):=by
 refine Q0b none Tryz.func118 rfl fun E=>Q0a ?_;obtain⟨P,hP⟩: ∃P,P=m*n:=⟨_,rfl⟩;have hP2:P=valD (Q0g m)*valD (Q0g n):=(by rw[Z0g,Z0g];exact hP);rw[<-hP];generalize Q0g m=a at*
 generalize Q0g n=b at*
 obtain⟨m0,hm0⟩: ∃m0,m0=a.length+b.length:=⟨_,rfl⟩;have e1:IntKind.i64.wrap ((a.length:Int)+(b.length:Int))=((m0:Nat):Int):=(by rw[<-Int.natCast_add,Q0n _ oG,hm0]);simp-dsimp only[go_sem,e1];refine⟨⟨oG,oG,oG⟩,?_⟩;refine Q0e [true,true,false,false,false,true,true] 1 0
  (fun k s'=> ∃i o,k=a.length-i/\i<=a.length/\o.length=m0/\valD o=valD (a.take i)*valD b/\(∀q,i+b.length<=q->o.getD q 0=0)/\
   s'=⟨[.sl .no (encD a),.sl .no (encD b),.junk,.junk,.junk,.ms false 0 0 m0,.sc (.int .i64 (i:Nat))]++jk 61,[encD o],[],st⟩) a.length ?_ ?_
 refine Y4w ?_;refine⟨0,List.replicate m0 0,oG,oG,by simp,by simp[Z1b,H0r],fun q _=>V0c _ _ _,rfl⟩;rintro k s' ⟨i,o,rfl,hi,ho,hv,hz,rfl⟩;refine W4z (fun h=> ?_) (fun h=> ?_);have hlt:i<a.length:=(oT h);have g1:=J0o a i hlt;have x4:IntKind.i64.wrap ((i:Int)+1)=((i+1:Nat):Int):=(by rw[show((i:Int)+1)=((i+1:Nat):Int) from rfl,Q0n _ oG]);refine Y4w ?_;refine Q0e [true,true,false,false,false,true,true,true,true] 1 0
  (fun k s'=> ∃(j:Nat) (o:List UInt32) (c:UInt32),k=b.length-j/\j<=b.length/\o.length=m0/\valD o+4294967296^(i+j)*c.toNat=valD (a.take i)*valD b+4294967296^i*((a.getD i 0).toNat*valD (b.take j))/\(∀q,i+b.length<=q->o.getD q 0=0)/\
   s'=⟨[.sl .no (encD a),.sl .no (encD b),.junk,.junk,.junk,.ms false 0 0 m0,.sc (.int .i64 (i:Nat)),.sc (.int .u64 c.toNat),.sc (.int .i64 (j:Nat))]++jk 59,[encD o],[],st⟩) b.length ?_ ?_
 refine Y4w ?_;refine⟨0,o,0,oG,oG,ho,?_,hz,rfl⟩;rw[hv];simp[H0r];clear hv hz ho h;clear o;rintro k s' ⟨j,o,c,rfl,hj,ho,hv,hz,rfl⟩;refine W4z (fun h=> ?_) (fun h=> ?_);have hjt:j<b.length:=(oT h);have g2:=J0o b j hjt;have g3:=J0o o (i+j) oG;have q1:(a.getD i 0).toNat<4294967296:=UInt32.toNat_lt _;have q2:(b.getD j 0).toNat<4294967296:=UInt32.toNat_lt _;have q3:(o.getD (i+j) 0).toNat<4294967296:=UInt32.toNat_lt _;have q4:c.toNat<4294967296:=UInt32.toNat_lt _;have hs:=Z2o o (i+j) (UInt32.ofNat ((c.toNat+((a.getD i 0).toNat*(b.getD j 0).toNat+(o.getD (i+j) 0).toNat)) % 4294967296)) c.toNat ((c.toNat+((a.getD i 0).toNat*(b.getD j 0).toNat+(o.getD (i+j) 0).toNat))/4294967296) ((a.getD i 0).toNat*(b.getD j 0).toNat) _ oG (by rw[J0f _ (Nat.mod_lt _ (by decide)),Nat.mod_add_div];omega) hv;have hmm:=z2p b i j (a.getD i 0).toNat (valD (a.take i)*valD b) _ hjt rfl;have o1:=j0w o (i+j) (UInt32.ofNat ((c.toNat+((a.getD i 0).toNat*(b.getD j 0).toNat+(o.getD (i+j) 0).toNat)) % 4294967296)) oG;rw[J0f _ (Nat.mod_lt _ (by decide))] at o1;have bd:=V2t _ _ _ _ q1 q2 q3 q4;have b1:=bd.1;have b2:=bd.2.1;have b3:=bd.2.2.1;have b4:=bd.2.2.2;have y1:=U0q (a.getD i 0).toNat oG;have y2:=U0q (b.getD j 0).toNat oG;have y3:=U0q (o.getD (i+j) 0).toNat oG;have x1:IntKind.i64.wrap ((i:Int)+(j:Int))=((i+j:Nat):Int):=(by rw[<-Int.natCast_add,Q0n _ oG]);have x2:IntKind.i64.wrap ((j:Int)+1)=((j+1:Nat):Int):=(by rw[show((j:Int)+1)=((j+1:Nat):Int) from rfl,Q0n _ oG]);have y4:IntKind.u64.wrap (((a.getD i 0).toNat:Int)*((b.getD j 0).toNat:Int))=(((a.getD i 0).toNat*(b.getD j 0).toNat:Nat):Int):=(by rw[<-Int.natCast_mul,U0q _ b1]);have y5:IntKind.u64.wrap ((((a.getD i 0).toNat*(b.getD j 0).toNat:Nat):Int)+((o.getD (i+j) 0).toNat:Int))=(((a.getD i 0).toNat*(b.getD j 0).toNat+(o.getD (i+j) 0).toNat:Nat):Int):=(by rw[<-Int.natCast_add,U0q _ b2]);have y6:IntKind.u64.wrap ((c.toNat:Int)+(((a.getD i 0).toNat*(b.getD j 0).toNat+(o.getD (i+j) 0).toNat:Nat):Int))=((c.toNat+((a.getD i 0).toNat*(b.getD j 0).toNat+(o.getD (i+j) 0).toNat):Nat):Int):=(by rw[<-Int.natCast_add,U0q _ b3]);generalize c.toNat+((a.getD i 0).toNat*(b.getD j 0).toNat+(o.getD (i+j) 0).toNat)=t at*
 have y7:bAnd .u64 (t:Int) 4294967295=((t % 4294967296:Nat):Int):=by have h:=Q1v t 4294967295 b3 oG;rw[show(4294967295:Nat)=2^32-1 from rfl,Nat.and_two_pow_sub_one_eq_mod] at h;exact h
 have y8:=x1e (t % 4294967296) (Nat.mod_lt _ (by decide));have y9:bShr .u64 (t:Int) 32=(((UInt32.ofNat (t/4294967296)).toNat:Nat):Int):=(by rw[J0f _ b4];exact W0s t 32 oG);refine Y4w ?_;refine Q0k Z0b 68 (X2p [0,1,2,3,4,5,6,7,8,9,10,11,12,13,14,15,16,17,18,19,20,21] .done) (by decide+kernel) (by simp) ?_;simp-dsimp only[go_sem,x1,x2,g1,g2,g3,y1,y2,y3,y4,y5,y6,y7,y8,y9,o1];refine⟨⟨oG,hlt⟩,⟨oG,hjt⟩,⟨oG,oG⟩,oG,⟨oG,oG⟩,⟨oG,oG⟩,b.length-(j+1),oG,j+1,_,UInt32.ofNat (t/4294967296),rfl,oG,by rw[List.length_set];exact ho,?_,fun q hq=> ?_,rfl⟩;rw[J0f _ b4,<-hmm,<-hs,<-Nat.add_assoc i j 1];rw[K0e,if_neg oG];exact hz q hq;have hge:j=b.length:=(oF h);have x3:IntKind.i64.wrap ((i:Int)+(b.length:Int))=((i+b.length:Nat):Int):=(by rw[<-Int.natCast_add,Q0n _ oG]);have o1:=j0w o (i+b.length) c oG;have y8:=x1e c.toNat (UInt32.toNat_lt c);rw[hge,List.take_length] at hv;have hr:=Z3r a b o i c hlt oG (hz _ (Nat.le_refl _)) hv;refine Y4w ?_;refine Q0a ?_;simp-dsimp only[go_sem,x3,o1,y8];refine⟨⟨oG,oG⟩,⟨oG,oG⟩,?_⟩;refine Q0a ?_;simp-dsimp only[go_sem,x4];refine⟨a.length-(i+1),oG,i+1,_,rfl,oG,by rw[List.length_set];exact ho,hr,fun q hq=> ?_,rfl⟩;rw[K0e,if_neg oG];exact hz q oG;have hge:i=a.length:=(oF h);have ht:o.take m0=o:=List.take_of_length_le oG;have hle:m0<=o.length:=oG;rw[hge,List.take_length] at hv;refine Y4w ?_;refine Z0j 0 ?_ ?_;exact Y4v;refine Q0a ?_;simp-dsimp only[go_sem,ht,hle];refine(K1i o st oG).Q ?_;rw[<-K0g o,hv,<-hP2]
theorem by_c (a b:Vl)(st:Q0f)(ha:smV a)(hb:smV b):PR 48 [.agg (encV a),.agg (encV b)] st (.agg (encV (byV a b))):=by
 obtain⟨a1,a2,a3⟩:=ha;obtain⟨b1,b2,b3⟩:=hb;have la:=Z0t a.m;have lb:=Z0t b.m;refine Q0b none Tryz.func48 rfl fun E=>Q0a ?_;unfold byV;cases c1:decide (a.m=0) with
 | true=>
  have h0:a.m=0:=q_b c1;rw[if_pos (.inl h0)];simp-dsimp only[go_sem,lenV,c1];rw[Z0o];rfl
 | false=>
  have h0:a.m≠0:=q_c c1;cases c2:decide (b.m=0) with
  | true=>
   have h1:b.m=0:=q_b c2;rw[if_pos (.inr h1)];simp-dsimp only[go_sem,lenV,c1,c2];rw[Z0o];rfl
  | false=>
   have h1:b.m≠0:=q_c c2;have x1:IntKind.i64.wrap (a.e+b.e)=a.e+b.e:=Q0q _ oG oG;rw[if_neg oG];simp-dsimp only[go_sem,lenV,c1,c2];refine Q0k Z0b 32 (X2p [0,1,2,3,4,5,6,7,8,10,11,12,13,14] (.step 9 [1,3,11,13] (.step 15 [] (.step 16 [] (.done))))) (by decide+kernel) (by simp) ?_;simp-dsimp only[go_sem,x1];refine(Q3c a.m b.m _ oG oG).q ?_;simp-dsimp only[go_sem,x1]
   try rfl
theorem U2x (n:Nat)(st:Q0f)(hn:n<4294967296):PR 59 [.sc (.int .i64 n)] st (.agg (encV (oddV false n 0))):=by
 refine Q0b none Tryz.func59 rfl fun E=>Q0a ?_;have y1:=U0q n oG;have f1:decide ((n:Int)<0)=false:=q_g oG;have e1: [PV.sc (.int .u64 (n:Nat))]=encW [UInt64.ofNat n]:=by show _= [PV.sc (.int .u64 ((UInt64.ofNat n).toNat:Nat))];rw[Z0s _ oG]
 have v1:valW [UInt64.ofNat n]=n:=by show(UInt64.ofNat n).toNat+18446744073709551616*0=n;rw[Z0s _ oG];rfl
 simp-dsimp only[go_sem,y1,f1];rw[e1];refine(k1b [UInt64.ofNat n] _ (by simp)).q ?_;rw[v1];refine Y4w ?_;refine(Y1z false n 0 _ (by have:=Y1j n oG;omega) oG oG).Q0
theorem G0d (v:Vl)(p:Nat)(up:Bool)(st:Q0f)(hv:smV v)(hp:p<=1000000000):PR 205 [.agg (encV v),.sc (.int .i64 p),.sc (.bool up)] st (.agg (encV (Z0p v p up))):=by
 obtain⟨v1,v2,v3⟩:=hv;have lv:=Z0t v.m;have x1:IntKind.i64.wrap ((Q0i v.m:Int)-(p:Int))=(Q0i v.m:Int)-(p:Int):=Q0q _ oG oG;refine W4y Tryz.func205 fun E=> ?_;refine(j0j v.m _ oG).q ?_;simp-dsimp only[go_sem,x1];refine ck (fun h=> ?_) (fun h=> ?_);have hle:Q0i v.m<=p:=(oT h);refine Y4w ?_;rw[Z0p,if_pos hle];have hgt:p<Q0i v.m:=(oF h);have x2:(Q0i v.m:Int)-(p:Int)=((Q0i v.m-p:Nat):Int):=oG;rw[Z0p,if_neg oG];obtain⟨d,hd⟩: ∃d,d=Q0i v.m-p:=⟨_,rfl⟩;rw[x2,<-hd];have x3:IntKind.i64.wrap (v.e+((d:Nat):Int))=v.e+((d:Nat):Int):=Q0q _ oG oG;have lq:=J0k (Nat.div_le_self v.m (2^d));have lq2:=Z0t (v.m/2^d);have lq3:=G0i (v.m/2^d) 1;have b1:Q0i 1=1:=rfl;refine Y4w ?_;refine(j1p v.m d _ oG oG).q ?_;cases hc:decide (v.m % 2^d≠0) with
 | false=>
  have hz: ¬v.m % 2^d≠0:=q_c hc;rw[if_neg (fun h=>hz h.1),Nat.add_zero];simp-dsimp only[go_sem,x3];refine(Y1z v.neg (v.m/2^d) _ _ oG oG oG).Q0
 | true=>
  have hz:v.m % 2^d≠0:=q_b hc;cases hu:(!up==v.neg) with
  | false=>
   have he:up=v.neg:=by cases up<;>cases hn:v.neg<;>simp_all
   rw[if_neg (fun h=>h.2 he),Nat.add_zero];simp-dsimp only[go_sem,x3,hu];refine(Y1z v.neg (v.m/2^d) _ _ oG oG oG).Q0
  | true=>
   have hne:up≠v.neg:=by cases up<;>cases hn:v.neg<;>simp_all
   rw[if_pos ⟨hz,hne⟩];have e1: [PV.sc (.int .u32 1)]=encD (Q0g 1):=by rw[show Q0g 1= [1] from by decide+kernel];rfl
   simp-dsimp only[go_sem,x3,hu];rw[e1];refine(J1q (v.m/2^d) 1 _ oG (by decide+kernel)).q ?_;simp-dsimp only[go_sem,x3];refine(Y1z v.neg (v.m/2^d+1) _ _ oG oG oG).Q0
theorem Q2y (a b:Vl)(st:Q0f)(ha:smV a)(hb:smV b):PR 307 [.sc (.int .i64 1),.agg (encV a),.agg (encV b)] st (.agg (encV (z0e a b))):=by refine W4y Tryz.func307 fun E=> ?_;refine(K2c a b st ha hb).Q0
theorem Q2x (a b:Vl)(st:Q0f)(ha:smV a)(hb:smV b):PR 307 [.sc (.int .i64 2),.agg (encV a),.agg (encV b)] st (.agg (encV (byV a b))):=by refine W4y Tryz.func307 fun E=> ?_;refine(by_c a b st ha hb).Q0
def smB (b:List Ivl):Prop:=1<=b.length/\b.length<=4/\ ∀i,i<b.length->smI (b.getD i default)
theorem smB.right {b:List Ivl}(h:smB b):rightB b=true:=U0v (fun i hi=>(h.2.2 i hi).1) h.1 h.2.1
theorem k1u {β:Type}[Inhabited β](f:Nat->β)(n i:Nat)(h:i<n):((List.range n).map f).getD i default=f i:=by simp[q_a,h]
end Go.Pv
end
