/- Parts of the walk: N15, N16, M38. -/
import Derived.Test.YthlnpmkcmbohaaaGreatDoorZAD
import Derived.Test.YthlnpmkcmbohaaaGreatDoorZM
set_option linter.unusedVariables false
set_option linter.unusedSimpArgs false
section
set_option maxRecDepth 100000
namespace Go.Pv
open Go.Proofs
def wNs (l:List Nm):Prop:=l.length<=100000000000/\ ∀i,i<l.length->wN (l.getD i default)
theorem J0k (q:List Nm)(i:Nat)(h:i<q.length):ofB (q.take (i+1))=ofB (q.take i)++ [⟨q.getD i default,q.getD i default⟩]:=by unfold ofB;rw[Wl q i default h,E5];rfl
theorem WS (q:List Nm)(st:Qf)(hq:wNs q):PR 27 [.sl .no (Qy q)] st (.sl (.fresh 6) (QE (ofB q))):=by
 obtain⟨hl,hw⟩:=hq;refine U2m Tryz.func27 fun E=> ?_;refine QQ 3 6 ?_;refine G2s ?_;refine Qd [false,false,false,true,false,false,true,true,true] 0 1
  (fun n s=> ∃i,n=q.length-i/\i<=q.length/\s=⟨[.junk,.junk,.junk,.sl (.own 0) (QE (ofB (q.take i))),.junk,.junk,.sl .no (Qy q),.sc (.int .i64 q.length),.sc (.int .i64 (i:Nat))]++jk 10,[],[((ofB (q.take i)).length,6)],st⟩) q.length ?_ ?_
 refine G2s ?_;exact⟨0,oG,oG,rfl⟩;rintro n s ⟨i,rfl,hi,rfl⟩;refine U2n (fun h'=> ?_) (fun h'=> ?_);have hlt:i<q.length:=(by have:=q_b h';omega);have e1:=QG q i hlt;have e3:IntKind.i64.wrap ((i:Int)+1)=((i+1:Nat):Int):=(by rw[Qw _ oG oG];omega);simp-dsimp only[go_sem,e1];refine⟨oG,?_⟩;refine(xd _ _ (hw i hlt)).q ?_;simp-dsimp only[go_sem,e3];have ll:(ofB (q.take i)).length=i:=(by simp[ofB];omega);refine⟨⟨oG,oG⟩,q.length-(i+1),oG,i+1,rfl,oG,?_⟩;rw[J0k q i hlt];simp[QE,ZQ];have hge:i=q.length:=(by have:=q_c h';omega);refine G2s ?_;refine U2i ?_;rw[hge,B0]
theorem KE {x:Ivl}(h:Qs x=true):wI x:=⟨Y1 (Q6 (Q1 h).1),Y1 (Q6 (Q1 h).2.1)⟩
theorem JM (n:Nat)(h:n<18446744073709551616):IntKind.u64.wrap (n:Int)=(n:Int):=by rw[Zk,BJ h]
theorem ki (n:Nat)(h:n<4294967296):IntKind.u32.wrap (n:Int)=(n:Int):=by rw[ZV,BJ h]
theorem Z0o (o:List UInt32)(i:Nat)(z:UInt32)(c c' y S:Nat)(hi:i<o.length)(hz:z.toNat+4294967296*c'=(o.getD i 0).toNat+y+c)(hv:Zm o+4294967296^i*c=S):
 Zm (o.set i z)+4294967296^(i+1)*c'=S+4294967296^i*y:=by
 have e1:=HQ o i z hi;have h:=B4 (4294967296^i* ·) hz;simp only[CE] at h;rw[B5,BW];omega
theorem z0k (b:List UInt32)(i j x V S:Nat)(hj:j<b.length)(hS:S=V+4294967296^i*(x*Zm (b.take j))):
 S+4294967296^(i+j)*(x*(b.getD j 0).toNat)=V+4294967296^i*(x*Zm (b.take (j+1))):=by
 rw[hS,Xn b j hj,B2];grind
theorem Z1z (a b o:List UInt32)(i:Nat)(c:UInt32)(hi:i<a.length)(hn:i+b.length<o.length)(h0:o.getD (i+b.length) 0=0)
 (hv:Zm o+4294967296^(i+b.length)*c.toNat=Zm (a.take i)*Zm b+4294967296^i*((a.getD i 0).toNat*Zm b)):
 Zm (o.set (i+b.length) c)=Zm (a.take (i+1))*Zm b:=by
 have h1:=HQ o (i+b.length) c hn;rw[h0,show(0:UInt32).toNat=0 from rfl,DQ,B1] at h1;rw[h1,hv,Xn a i hi,BQ,BW]
theorem V0g (x y w c:Nat)(hx:x<4294967296)(hy:y<4294967296)(hw:w<4294967296)(hc:c<4294967296):
 x*y<18446744073709551616/\x*y+w<18446744073709551616/\c+(x*y+w)<18446744073709551616/\(c+(x*y+w))/4294967296<4294967296:=by
 have p:x*y<=4294967295*4294967295:=DW oG oG;generalize x*y=q at*
 refine⟨oG,oG,oG,oG⟩
set_option maxHeartbeats 4000000 in
theorem Q1g (m n:Nat)(st:Qf)(hm:(Qj m).length<=1000000000000)(hn:(Qj n).length<=1000000000000):PR 69 [.sl .no (ZR (Qj m)),.sl .no (ZR (Qj n))] st (.sl .no (ZR (Qj (m*n)))):=by
 refine Qb none Tryz.func69 rfl fun E=>Qa ?_;obtain⟨P,hP⟩: ∃P,P=m*n:=⟨_,rfl⟩;have hP2:P=Zm (Qj m)*Zm (Qj n):=(by rw[QK,QK];exact hP);rw[<-hP];generalize Qj m=a at*
 generalize Qj n=b at*
 obtain⟨m0,hm0⟩: ∃m0,m0=a.length+b.length:=⟨_,rfl⟩;have e1:IntKind.i64.wrap ((a.length:Int)+(b.length:Int))=((m0:Nat):Int):=(by rw[<-C7,Qn _ oG,hm0]);simp-dsimp only[go_sem,e1];refine⟨⟨oG,oG,oG⟩,?_⟩;refine Qd [true,true,false,false,false,true,true] 1 0
  (fun k s'=> ∃i o,k=a.length-i/\i<=a.length/\o.length=m0/\Zm o=Zm (a.take i)*Zm b/\(∀q,i+b.length<=q->o.getD q 0=0)/\
   s'=⟨[.sl .no (ZR a),.sl .no (ZR b),.junk,.junk,.junk,.ms false 0 0 m0,.sc (.int .i64 (i:Nat))]++jk 61,[ZR o],[],st⟩) a.length ?_ ?_
 refine G2s ?_;refine⟨0,List.replicate m0 0,oG,oG,by simp,by simp[z8,KH],fun q _=>Xq _ _ _,rfl⟩;rintro k s' ⟨i,o,rfl,hi,ho,hv,hz,rfl⟩;refine U2n (fun h=> ?_) (fun h=> ?_);have hlt:i<a.length:=(oT h);have g1:=ZT a i hlt;have x4:IntKind.i64.wrap ((i:Int)+1)=((i+1:Nat):Int):=(by rw[show((i:Int)+1)=((i+1:Nat):Int) from rfl,Qn _ oG]);refine G2s ?_;refine Qd [true,true,false,false,false,true,true,true,true] 1 0
  (fun k s'=> ∃(j:Nat) (o:List UInt32) (c:UInt32),k=b.length-j/\j<=b.length/\o.length=m0/\Zm o+4294967296^(i+j)*c.toNat=Zm (a.take i)*Zm b+4294967296^i*((a.getD i 0).toNat*Zm (b.take j))/\(∀q,i+b.length<=q->o.getD q 0=0)/\
   s'=⟨[.sl .no (ZR a),.sl .no (ZR b),.junk,.junk,.junk,.ms false 0 0 m0,.sc (.int .i64 (i:Nat)),.sc (.int .u64 c.toNat),.sc (.int .i64 (j:Nat))]++jk 59,[ZR o],[],st⟩) b.length ?_ ?_
 refine G2s ?_;refine⟨0,o,0,oG,oG,ho,?_,hz,rfl⟩;rw[hv];simp[KH];clear hv hz ho h;clear o;rintro k s' ⟨j,o,c,rfl,hj,ho,hv,hz,rfl⟩;refine U2n (fun h=> ?_) (fun h=> ?_);have hjt:j<b.length:=(oT h);have g2:=ZT b j hjt;have g3:=ZT o (i+j) oG;have q1:(a.getD i 0).toNat<4294967296:=CH _;have q2:(b.getD j 0).toNat<4294967296:=CH _;have q3:(o.getD (i+j) 0).toNat<4294967296:=CH _;have q4:c.toNat<4294967296:=CH _;have hs:=Z0o o (i+j) (UInt32.ofNat ((c.toNat+((a.getD i 0).toNat*(b.getD j 0).toNat+(o.getD (i+j) 0).toNat)) % 4294967296)) c.toNat ((c.toNat+((a.getD i 0).toNat*(b.getD j 0).toNat+(o.getD (i+j) 0).toNat))/4294967296) ((a.getD i 0).toNat*(b.getD j 0).toNat) _ oG (by rw[ZF _ (CG _ (by decide)),FL];omega) hv;have hmm:=z0k b i j (a.getD i 0).toNat (Zm (a.take i)*Zm b) _ hjt rfl;have o1:=G1 o (i+j) (UInt32.ofNat ((c.toNat+((a.getD i 0).toNat*(b.getD j 0).toNat+(o.getD (i+j) 0).toNat)) % 4294967296)) oG;rw[ZF _ (CG _ (by decide))] at o1;have bd:=V0g _ _ _ _ q1 q2 q3 q4;have b1:=bd.1;have b2:=bd.2.1;have b3:=bd.2.2.1;have b4:=bd.2.2.2;have y1:=JM (a.getD i 0).toNat oG;have y2:=JM (b.getD j 0).toNat oG;have y3:=JM (o.getD (i+j) 0).toNat oG;have x1:IntKind.i64.wrap ((i:Int)+(j:Int))=((i+j:Nat):Int):=(by rw[<-C7,Qn _ oG]);have x2:IntKind.i64.wrap ((j:Int)+1)=((j+1:Nat):Int):=(by rw[show((j:Int)+1)=((j+1:Nat):Int) from rfl,Qn _ oG]);have y4:IntKind.u64.wrap (((a.getD i 0).toNat:Int)*((b.getD j 0).toNat:Int))=(((a.getD i 0).toNat*(b.getD j 0).toNat:Nat):Int):=(by rw[<-CN,JM _ b1]);have y5:IntKind.u64.wrap ((((a.getD i 0).toNat*(b.getD j 0).toNat:Nat):Int)+((o.getD (i+j) 0).toNat:Int))=(((a.getD i 0).toNat*(b.getD j 0).toNat+(o.getD (i+j) 0).toNat:Nat):Int):=(by rw[<-C7,JM _ b2]);have y6:IntKind.u64.wrap ((c.toNat:Int)+(((a.getD i 0).toNat*(b.getD j 0).toNat+(o.getD (i+j) 0).toNat:Nat):Int))=((c.toNat+((a.getD i 0).toNat*(b.getD j 0).toNat+(o.getD (i+j) 0).toNat):Nat):Int):=(by rw[<-C7,JM _ b3]);generalize c.toNat+((a.getD i 0).toNat*(b.getD j 0).toNat+(o.getD (i+j) 0).toNat)=t at*
 have y7:GF .u64 (t:Int) 4294967295=((t % 4294967296:Nat):Int):=by have h:=GA t 4294967295 b3 oG;rw[show(4294967295:Nat)=2^32-1 from rfl,FD] at h;exact h
 have y8:=ki (t % 4294967296) (CG _ (by decide));have y9:Wg .u64 (t:Int) 32=(((UInt32.ofNat (t/4294967296)).toNat:Nat):Int):=(by rw[ZF _ b4];exact XY t 32 oG);refine G2s ?_;refine Qm QH 68 (X0p [0,1,2,3,4,5,6,7,8,9,10,11,12,13,14,15,16,17,18,19,20,21] .done) (by decide+kernel) (by simp) ?_;simp-dsimp only[go_sem,x1,x2,g1,g2,g3,y1,y2,y3,y4,y5,y6,y7,y8,y9,o1];refine⟨⟨oG,hlt⟩,⟨oG,hjt⟩,⟨oG,oG⟩,oG,⟨oG,oG⟩,⟨oG,oG⟩,b.length-(j+1),oG,j+1,_,UInt32.ofNat (t/4294967296),rfl,oG,by rw[BL];exact ho,?_,fun q hq=> ?_,rfl⟩;rw[ZF _ b4,<-hmm,<-hs,<-DK i j 1];rw[ZO,BA oG];exact hz q hq;have hge:j=b.length:=(oF h);have x3:IntKind.i64.wrap ((i:Int)+(b.length:Int))=((i+b.length:Nat):Int):=(by rw[<-C7,Qn _ oG]);have o1:=G1 o (i+b.length) c oG;have y8:=ki c.toNat (CH c);rw[hge,B0] at hv;have hr:=Z1z a b o i c hlt oG (hz _ (BD _)) hv;refine G2s ?_;refine Qa ?_;simp-dsimp only[go_sem,x3,o1,y8];refine⟨⟨oG,oG⟩,⟨oG,oG⟩,?_⟩;refine Qa ?_;simp-dsimp only[go_sem,x4];refine⟨a.length-(i+1),oG,i+1,_,rfl,oG,by rw[BL];exact ho,hr,fun q hq=> ?_,rfl⟩;rw[ZO,BA oG];exact hz q oG;have hge:i=a.length:=(oF h);have ht:o.take m0=o:=BF oG;have hle:m0<=o.length:=oG;rw[hge,B0] at hv;refine G2s ?_;refine QD 0 ?_ ?_;exact G2r;refine Qa ?_;simp-dsimp only[go_sem,ht,hle];refine(zC o st oG).Q ?_;rw[<-Xi o,hv,<-hP2]
theorem w0r (a b:Vl)(st:Qf)(ha:smV a)(hb:smV b):PR 22 [.agg (Vb a),.agg (Vb b)] st (.agg (Vb (byV a b))):=by
 obtain⟨a1,a2,a3⟩:=ha;obtain⟨b1,b2,b3⟩:=hb;have la:=ZC a.m;have lb:=ZC b.m;refine Qb none Tryz.func22 rfl fun E=>Qa ?_;unfold byV;cases c1:decide (a.m=0) with
 | true=>
  have h0:a.m=0:=q_b c1;rw[BC (.inl h0)];simp-dsimp only[go_sem,j1o,c1];rw[Zo];rfl
 | false=>
  have h0:a.m≠0:=q_c c1;cases c2:decide (b.m=0) with
  | true=>
   have h1:b.m=0:=q_b c2;rw[BC (.inr h1)];simp-dsimp only[go_sem,j1o,c1,c2];rw[Zo];rfl
  | false=>
   have h1:b.m≠0:=q_c c2;have x1:IntKind.i64.wrap (a.e+b.e)=a.e+b.e:=Qw _ oG oG;rw[BA oG];simp-dsimp only[go_sem,j1o,c1,c2];refine Qm QH 32 (X0p [0,1,2,3,4,5,6,7,8,10,11,12,13,14] (.step 9 [1,3,11,13] (.step 15 [] (.step 16 [] (.done))))) (by decide+kernel) (by simp) ?_;simp-dsimp only[go_sem,x1];refine(Q1g a.m b.m _ oG oG).q ?_;simp-dsimp only[go_sem,x1]
   try rfl
theorem xH (n:Nat)(st:Qf)(hn:n<4294967296):PR 37 [.sc (.int .i64 n)] st (.agg (Vb (XH false n 0))):=by
 refine Qb none Tryz.func37 rfl fun E=>Qa ?_;have y1:=JM n oG;have f1:decide ((n:Int)<0)=false:=q_g oG;have e1: [PV.sc (.int .u64 (n:Nat))]=Q2 [UInt64.ofNat n]:=by show _= [PV.sc (.int .u64 ((UInt64.ofNat n).toNat:Nat))];rw[QS _ oG]
 have v1:Qi [UInt64.ofNat n]=n:=by show(UInt64.ofNat n).toNat+18446744073709551616*0=n;rw[QS _ oG];rfl
 simp-dsimp only[go_sem,y1,f1];rw[e1];refine(q0j [UInt64.ofNat n] _ (by simp)).q ?_;rw[v1];refine G2s ?_;refine(q0v false n 0 _ (by have:=qY n oG;omega) oG oG).Q0
def smB (b:List Ivl):Prop:=1<=b.length/\b.length<=4/\ ∀i,i<b.length->smI (b.getD i default)
theorem smB.right {b:List Ivl}(h:smB b):rightB b=true:=Xj (fun i hi=>(h.2.2 i hi).1) h.1 h.2.1
theorem K5 {β:Type}[Inhabited β](f:Nat->β)(n i:Nat)(h:i<n):((List.range n).map f).getD i default=f i:=by simp[q_a,h]
theorem GV {p:Nat}(h1:8<=p)(h2:p<=256):Q4 (p:Int)=true:=by unfold Q4;simp only[q_i,BN];omega
theorem K2p {a:Ivl}{n:Nat}(ha:smI a)(hn:n<=8):Qg (inN a n)=true/\XD (qN (inN a n)) a/\bdV 43 62 (ofN (inN a n)):=⟨Gk n ha.1,Q0s ha.1 hn,Y1m ha.1 ha.2.1 ha.2.2 hn⟩
end Go.Pv
end
