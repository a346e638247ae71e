/- Parts of the walk: M43, M44, M45, N49, N50, N51, N52, M62, N81, N82, N83, N85, N86, M47, M48, M49, M50, M51, N61, N62, N64. -/
import Derived.Test.YtldalepagmhnmaaGreatDoorZBD
import Derived.Test.YtldalepagmhnmaaGreatDoorZBA
set_option linter.unusedVariables false
set_option linter.unusedSimpArgs false
section
namespace Go.Pv
def powV (v:Vl):Nat->Vl
 | 0=>oddV false 1 0
 | k+1=>byV (powV v k) v
def J4k (a:Ivl)(k:Nat):Vl:=
 if 0<k/\k % 2=0/\hasI a default=true then⟨false,0,0⟩ else if W0g (powV (ofN a.lo) k) (powV (ofN a.hi) k)>0 then powV (ofN a.hi) k else powV (ofN a.lo) k
def J4l (a:Ivl)(k:Nat):Vl:=if W0g (powV (ofN a.lo) k) (powV (ofN a.hi) k)>0 then powV (ofN a.lo) k else powV (ofN a.hi) k
def powI (a:Ivl)(k p:Int):Ivl×Int:=
 if Q0w a=true/\0<=k/\k<=8/\Z0c p=true then x0t (Z0p (J4k a k.toNat) p.toNat false) (Z0p (J4l a k.toNat) p.toNat true) else(default,1)
theorem x2z {a:Ivl}(h:Q0w a=true):hasI a default=true<->qN a.lo<=0/\0<=qN a.hi:=by unfold hasI;have hd:Q0h (default:Nm)=true:=(by decide);rw[h,hd];simp only[Bool.true_and,q_i,decide_eq_true_eq];rw[cmpN_le,cmpN_le,q1e]
theorem G3i (x:Nm):0<sgnN x<->0<qN x:=by
 have h1:sgnN x<=0<->qN x<=0:=by rw[Z1j,H2b,<-J0v x.exp];exact qM_le.symm
 rw[<-Rat.not_le,<-h1];omega
def y1y (m:Mn)(b:List Ivl)(p:Int):Nat->Ivl×Int
 | 0=>(⟨m.c,m.c⟩,0)
 | i+1=>if (y1y m b p i).2≠0 then(default,(y1y m b p i).2) else if m.ks.getD i 0=0 then y1y m b p i
  else if (powI (b.getD i default) (m.ks.getD i 0) p).2≠0 then(default,(powI (b.getD i default) (m.ks.getD i 0) p).2)
  else opI 2 (y1y m b p i).1 (powI (b.getD i default) (m.ks.getD i 0) p).1 p
def v0g (q:List Mn)(b:List Ivl)(p:Int):Nat->Ivl×Int
 | 0=>(default,0)
 | i+1=>if (v0g q b p i).2≠0 then(default,(v0g q b p i).2) else if (y1y (q.getD i default) b p b.length).2≠0 then(default,(y1y (q.getD i default) b p b.length).2)
  else opI 0 (v0g q b p i).1 (y1y (q.getD i default) b p b.length).1 p
def J2b (q:List Mn)(b:List Ivl)(p:Int):Ivl×Int:=if X2t q b.length=true/\b.all Q0w=true/\Z0c p=true then v0g q b p q.length else(default,1)
set_option maxRecDepth 100000
open Go.Proofs
theorem Y0s {α:Type}[Inhabited α](l:List α)(f:α->Bool):l.all f=true<-> ∀i,i<l.length->f (l.getD i default)=true:=by rw[q_d];constructor;intro h i hi;have:l.getD i default=l[i]:=(by simp[q_a,hi]);rw[this];exact h _ (List.getElem_mem hi);intro h x hx;obtain⟨i,hi,e⟩:=List.mem_iff_getElem.1 hx;have:=h i hi;rw[show l.getD i default=l[i] by simp[q_a,hi],e] at this;exact this
def U0a (f:List (List Mn))(b:List Ivl)(p:Int):List Ivl×Int:=if j1j f=true/\b.length=f.length then tabF (fun i=>J2b (f.getD i []) b p) 0 f.length [] else([],1)
def K0y (a b:Nat)(p:Nat):Nat:=p+2+Q0i b-Q0i a
def v0s (a b:Nat)(p:Nat):Nat:=2*(a*2^K0y a b p/b)+if a*2^K0y a b p % b=0 then 0 else 1
def ratV (a b:Vl)(p:Nat):Vl:=if a.m=0 then⟨false,0,0⟩ else oddV (a.neg !=b.neg) (v0s a.m b.m p) (a.e-b.e-(K0y a.m b.m p:Int)-1)
theorem z1q (a b:Vl)(p:Nat):canV (ratV a b p):=by unfold ratV;split;exact .inr rfl;exact x0g _ _ _
def divN (a b:Nm)(p:Int)(up:Bool):Nm×Int:=numV (Z0p (ratV (ofN a) (ofN b) p.toNat) p.toNat up)
theorem W3z (v:Nat)(hv:v<18446744073709551616)(st:Q0f):PR 325 [.sc (.int .u64 v)] st (.sc (.int .i64 ((64-Q0i v:Nat):Int))):=by refine W4y Tryz.func325 fun E=> ?_;refine(x2i v hv st).q ?_;have hb:Q0i v<=64:=bitlen_le_iff.2 oG;have e:IntKind.i64.wrap (64-(Q0i v:Int))=((64-Q0i v:Nat):Int):=(by rw[Q0q _ oG oG];omega);simp-dsimp only[go_sem,e]
theorem H0m (x:Int):IntKind.u64.wrap x=x % 18446744073709551616:=by simp[IntKind.wrap,IntKind.bits,IntKind.signed]
theorem Z2s (a:List UInt64)(d k:Nat)(hd:0<d)(h0:0<k):
 valW (a.drop (k-1))/d=(valW (a.drop k) % d*18446744073709551616+(a.getD (k-1) 0).toNat)/d+18446744073709551616*(valW (a.drop k)/d)/\
 valW (a.drop (k-1)) % d=(valW (a.drop k) % d*18446744073709551616+(a.getD (k-1) 0).toNat) % d:=by
 have h:=q0u a (k-1);rw[show k-1+1=k by omega] at h;have e:valW (a.drop (k-1))=d*(18446744073709551616*(valW (a.drop k)/d))+(valW (a.drop k) % d*18446744073709551616+(a.getD (k-1) 0).toNat):=by
  rw[h];have:=Nat.div_add_mod (valW (a.drop k)) d;generalize valW (a.drop k)/d=q at*
  generalize valW (a.drop k) % d=r at*
  rw[<-this];grind
 rw[e];refine⟨?_,?_⟩;rw[Nat.mul_add_div hd,Nat.add_comm];rw[Nat.mul_add_mod]
theorem k2y {r d x:Nat}(hr:r<d)(hx:x<18446744073709551616):(r*18446744073709551616+x)/d<18446744073709551616:=by rw[Nat.div_lt_iff_lt_mul oG];have:(r+1)*18446744073709551616<=d*18446744073709551616:=Nat.mul_le_mul_right _ hr;rw[Nat.mul_comm 18446744073709551616 d];omega
theorem w1y {d:Nat}(h0:0<d)(h:d<18446744073709551616):Q0p d= [UInt64.ofNat d]:=by unfold Q0p;rw[digs,dif_neg oG,Nat.mod_eq_of_lt h,Nat.div_eq_of_lt h,V0v];rfl
theorem G0h (m s:Nat):Q0i (m*2^s)<=Q0i m+s:=bitlen_le_iff.2 (by rw[Nat.pow_add];exact Nat.mul_lt_mul_of_pos_right (Z0h m) (Nat.two_pow_pos _))
def H2y (a b:Nm)(p:Nat):Nm:=⟨a.neg !=b.neg,a.exp-b.exp-(K0y (valW a.w) (valW b.w) p:Int)-1,Q0p (v0s (valW a.w) (valW b.w) p)⟩
theorem H2w {a b:Nm}{p:Nat}(h:valW a.w≠0):ofX (H2y a b p)=ratV (ofN a) (ofN b) p:=by unfold ratV;rw[if_neg (show¬(ofN a).m=0 from h)];show oddV (a.neg !=b.neg) (valW (Q0p (v0s (valW a.w) (valW b.w) p))) _=_;rw[Z0i];rfl
theorem Y3t (l:List UInt32)(j:Nat)(hj:j<l.length):(l.getD j 0).toNat=valD l/4294967296^j % 4294967296:=by rw[j0y l j oG,Z1c];have:=UInt32.toNat_lt (l.getD j 0);omega
theorem bitD (m i:Nat)(hi:i/32<(Q0g m).length):((Q0g m).getD (i/32) 0).toNat/2^(i % 32) % 2=m/2^i % 2:=by
 rw[Y3t _ _ hi,Z0g,J1g];have h1:m/2^i=m/2^(32*(i/32))/2^(i % 32):=by rw[Nat.div_div_eq_div_mul,<-Nat.pow_add];congr 2;omega
 rw[h1];generalize m/2^(32*(i/32))=x;have hs:i % 32<32:=Nat.mod_lt _ (by decide);generalize i % 32=s at*
 have t:=Nat.testBit_mod_two_pow x 32 s;rw[q_h hs,Bool.true_and,Nat.testBit_eq_decide_div_mod_eq,Nat.testBit_eq_decide_div_mod_eq] at t;have t2:=decide_eq_decide.1 t;rw[show(4294967296:Nat)=2^32 from rfl];have a1:=Nat.mod_lt (x % 2^32/2^s) (show 0<2 by decide);have a2:=Nat.mod_lt (x/2^s) (show 0<2 by decide);omega
theorem k2g (m n k:Nat)(hn:0<n)(h0:0<k):m/2^(k-1)=2*(m/2^k)+m/2^(k-1) % 2:=by
 have e:m/2^k=m/2^(k-1)/2:=by rw[Nat.div_div_eq_div_mul,<-Nat.pow_succ];congr 2;omega
 rw[e];omega
theorem w3w (x n b:Nat)(hn:0<n)(hb:b<2):(2*x+b)/n=2*(x/n)+(if n<=2*(x % n)+b then 1 else 0)/\(2*x+b) % n=2*(x % n)+b-(if n<=2*(x % n)+b then n else 0):=by
 have h1:=Nat.div_add_mod x n;have h2:=Nat.mod_lt x hn;generalize hq:x/n=q at*
 generalize hr:x % n=r at*
 have e:2*x+b=n*(2*q)+(2*r+b):=by rw[<-h1];grind
 rw[e,Nat.mul_add_div hn,Nat.mul_add_mod];split;rename_i hle;have e2:2*r+b=n*1+(2*r+b-n):=oG;rw[e2,Nat.mul_add_div hn,Nat.mul_add_mod,Nat.div_eq_of_lt oG,Nat.mod_eq_of_lt oG];omega;rename_i hle;rw[Nat.div_eq_of_lt oG,Nat.mod_eq_of_lt oG];omega
theorem setB (o:List UInt32)(i Q:Nat)(hi:i/32<o.length)(hv:valD o=Q*2^(i+1)):
 ((o.getD (i/32) 0).toNat|||2^(i % 32))<4294967296/\valD (o.set (i/32) (UInt32.ofNat ((o.getD (i/32) 0).toNat|||2^(i % 32))))=(2*Q+1)*2^i:=by
 have hd:=Y3t o (i/32) hi;have hs:i % 32<32:=Nat.mod_lt _ (by decide);have hdiv:valD o/4294967296^(i/32)=Q*2^(i % 32+1):=(by rw[hv,J1g,show i+1=(i % 32+1)+32*(i/32) by omega,Nat.pow_add,<-Nat.mul_assoc,Nat.mul_div_cancel _ (Nat.two_pow_pos _)]);rw[hdiv] at hd;have hm:(o.getD (i/32) 0).toNat % 2^(i % 32+1)=0:=(by rw[hd,show(4294967296:Nat)=2^(i % 32+1)*2^(31-i % 32) by rw[<-Nat.pow_add,show i % 32+1+(31-i % 32)=32 by omega],Nat.mod_mul_right_mod,Nat.mul_mod_left]);have hor:(o.getD (i/32) 0).toNat|||2^(i % 32)=2^(i % 32)+(o.getD (i/32) 0).toNat:=by rw[Nat.or_comm];exact V1n _ _ (i % 32+1) (Nat.pow_lt_pow_right (by decide) oG) hm
 have hlt:(o.getD (i/32) 0).toNat|||2^(i % 32)<4294967296:=by rw[show(4294967296:Nat)=2^32 from rfl];exact Nat.or_lt_two_pow (by have:=UInt32.toNat_lt (o.getD (i/32) 0);exact this) (Nat.pow_lt_pow_right (by decide) hs)
 refine⟨hlt,?_⟩;have hset:=w0t o (i/32) (UInt32.ofNat ((o.getD (i/32) 0).toNat|||2^(i % 32))) hi;rw[J0f _ hlt,hor,Nat.mul_add] at hset;rw[hor];have hp:4294967296^(i/32)*2^(i % 32)=2^i:=(by rw[J1g,<-Nat.pow_add];congr 1;omega);rw[hp,hv] at hset;rw[Nat.add_mul,Nat.one_mul,Nat.mul_comm 2 Q,Nat.mul_assoc,show 2*2^i=2^(i+1) by rw[Nat.pow_succ];omega];omega
theorem Q3f (m n:Nat)(st:Q0f)(hm:(Q0g m).length<=1000000000)(hn0:0<n)(hn:(Q0g n).length<=1000000000):PCalls Tryz.prog 294 [.sl .no (encD (Q0g m)),.sl .no (encD (Q0g n))] st
 (fun r st'=>r= .tup [.sl .no (encD (Q0g (m/n))),.sl .no (encD (Q0g (m % n)))]/\st'=st):=by
 have hbl:Q0i m<=32*(Q0g m).length:=bitlen_le_iff.2 (by have:=x0v (Q0g m);rw[Z0g,J1g] at this;exact this);refine W4y Tryz.func294 fun E=> ?_;refine⟨oG,?_⟩;refine(j0j m st oG).q ?_;have e1:IntKind.i64.wrap ((Q0i m:Int)-1)=(Q0i m:Int)-1:=Q0q _ oG oG;simp-dsimp only[go_sem,e1];refine K0w (rF 7++ [true]) ?_;refine Y4w ?_;refine Q0e [true,true,false,false,false,false,true,true,true] 1 0
  (fun c s'=> ∃(k:Nat) (o:List UInt32),k=c/\k<=Q0i m/\o.length=(Q0g m).length/\valD o=m/2^k/n*2^k/\
   s'=⟨[.sl .no (encD (Q0g m)),.sl .no (encD (Q0g n)),.junk,.junk,.junk,.junk,.ms false 0 0 (Q0g m).length,.sl .no (encD (Q0g (m/2^k % n))),.sc (.int .i64 ((k:Int)-1))]++jk 45,[encD o],[],st⟩) (Q0i m) ?_ ?_
 refine Y4w ?_;have h0:m/2^Q0i m=0:=Nat.div_eq_of_lt (Z0h m);refine⟨Q0i m,List.replicate (Q0g m).length 0,rfl,Nat.le_refl _,by simp,by rw[h0,Z1b];simp,?_⟩;rw[h0,Nat.zero_mod,Z0o];rfl
 . rintro c s' ⟨k,o,rfl,hk,ho,hv,rfl⟩;refine W4z (fun h=> ?_) (fun h=> ?_)
   . have h0:0<k:=oT h
     have e2:(k:Int)-1=((k-1:Nat):Int):=oG;have hki:(k-1)/32<(Q0g m).length:=oG;have hs32:(k-1) % 32<32:=Nat.mod_lt _ (by decide);have q1:IntKind.i64.wrap (((k-1:Nat):Int).tdiv 32)=(((k-1)/32:Nat):Int):=(by rw[show(32:Int)=((32:Nat):Int) from rfl,H0t,Q0n _ oG]);have q2:((k-1:Nat):Int).tmod 32=(((k-1) % 32:Nat):Int):=(by rw[show(32:Int)=((32:Nat):Int) from rfl,H0s]);have g1:=J0o (Q0g m) ((k-1)/32) hki;have s1:=z1y ((Q0g m).getD ((k-1)/32) 0).toNat ((k-1) % 32) oG;have hbit:=bitD m (k-1) hki;have hdl:=UInt32.toNat_lt ((Q0g m).getD ((k-1)/32) 0);have s2:bAnd .u32 ((((Q0g m).getD ((k-1)/32) 0).toNat/2^((k-1) % 32):Nat):Int) 1=((m/2^(k-1) % 2:Nat):Int):=(by have:=z1z (((Q0g m).getD ((k-1)/32) 0).toNat/2^((k-1) % 32)) 1 (Nat.lt_of_le_of_lt (Nat.div_le_self _ _) hdl) (by decide);rw[Nat.and_one_is_mod,hbit] at this;exact this);obtain⟨d1,d2⟩:=w3w (m/2^k) n (m/2^(k-1) % 2) hn0 (Nat.mod_lt _ (by decide));rw[<-k2g m n k hn0 h0] at d1 d2;have hrl:m/2^k % n<n:=Nat.mod_lt _ hn0;have hb2:m/2^(k-1) % 2<2:=Nat.mod_lt _ (by decide);have hlr: ∀x,x<=2*n->(Q0g x).length<=1000000001:=fun x hx=>by have h1:=q0f (n:=x) (k:=(Q0g n).length+1) (by have h2:=x0v (Q0g n);rw[Z0g] at h2;rw[Nat.pow_succ];omega);omega
     generalize hr:m/2^k % n=r at*
     generalize hb:m/2^(k-1) % 2=b at*
     simp-dsimp only[go_sem,e2];refine(j0i r 1 _ (by have:=hlr r oG;omega) oG).q ?_;rw[Nat.pow_one];simp-dsimp only[go_sem,q1,q2,g1,s1,s2];refine⟨⟨oG,oG⟩,oG,?_⟩;obtain⟨t,ht⟩: ∃t,t=2*r+b:=⟨_,rfl⟩;rw[<-ht] at d1 d2;have hto:(k-1)/32<o.length:=oG;have e4:IntKind.i64.wrap (((k-1:Nat):Int)-1)=((k-1:Nat):Int)-1:=Q0q _ oG oG;have b01:b=0\/b=1:=oG;rcases b01 with hb0 | hb1;have f1:((b:Int)==1)=false:=beq_eq_false_iff_ne.2 oG;simp-dsimp only[go_sem,f1];rw[show r*2=t by omega];rotate_left;have f1:((b:Int)==1)=true:=(by rw[hb1];rfl);simp-dsimp only[go_sem,f1];have a1:=J1q (r*2) 1 st (by have:=hlr (r*2) oG;omega) (by have:=hlr 1 oG;omega);rw[show Q0g 1= [1] from by decide+kernel,show r*2+1=t by omega] at a1;refine a1.Q ?_
     all_goals
      refine(J2a t n _ (by have:=hlr t oG;omega) oG).q ?_;by_cases hge:n<=t;have c1:decide (cmpW t n>=0)=true:=q_h (by unfold cmpW cmpI;split<;>(try split)<;>omega);rw[if_pos hge] at d1 d2;simp-dsimp only[go_sem,c1];refine(H1z t n _ (by have:=hlr t oG;omega) hge).q ?_;have hvk:valD o=m/2^k/n*2^(k-1+1):=(by rw[hv];congr 2;omega);obtain⟨b1,b2⟩:=setB o (k-1) (m/2^k/n) hto hvk;have g2:=J0o o ((k-1)/32) hto;have hp32:2^((k-1) % 32)<4294967296:=(by rw[show(4294967296:Nat)=2^32 from rfl];exact Nat.pow_lt_pow_right (by decide) hs32);have sh1:bShl .u32 1 (((k-1) % 32:Nat):Int)=((2^((k-1) % 32):Nat):Int):=by have:=V2d 1 ((k-1) % 32) oG;rw[Nat.one_mul,Nat.mod_eq_of_lt hp32] at this;exact this
      have or1:bOr .u32 (((o.getD ((k-1)/32) 0).toNat:Nat):Int) ((2^((k-1) % 32):Nat):Int)=(((UInt32.ofNat ((o.getD ((k-1)/32) 0).toNat|||2^((k-1) % 32))).toNat:Nat):Int):=(by rw[v2o _ _ (UInt32.toNat_lt _) hp32,J0f _ b1]);have o1:=j0w o ((k-1)/32) (UInt32.ofNat ((o.getD ((k-1)/32) 0).toNat|||2^((k-1) % 32))) hto;refine Y4w ?_;refine Q0k Z0b 54 (X2p [0,1,2,3,4,5,6,7,8,9,10] .done) (by decide+kernel) (by simp) ?_;simp-dsimp only[go_sem,q1,q2,g2,sh1,or1,o1,e4];refine⟨⟨oG,oG⟩,oG,oG,⟨oG,oG⟩,⟨oG,oG⟩,k-1,oG,k-1,o.set ((k-1)/32) (UInt32.ofNat ((o.getD ((k-1)/32) 0).toNat|||2^((k-1) % 32))),rfl,oG,by rw[List.length_set];exact ho,?_,by rw[d2]⟩;rw[b2,d1];have c1:decide (cmpW t n>=0)=false:=q_g (by unfold cmpW cmpI;split<;>(try split)<;>omega);rw[if_neg hge] at d1 d2;simp-dsimp only[go_sem,c1,e4];refine⟨k-1,oG,k-1,o,rfl,oG,ho,?_,by rw[d2,Nat.sub_zero]⟩;rw[hv,d1,Nat.add_zero,Nat.mul_comm 2,Nat.mul_assoc];congr 1;rw[show k=k-1+1 by omega,Nat.pow_succ];simp[Nat.mul_comm]
   have hz:k=0:=oF h
   subst hz;have ht:o.take (Q0g m).length=o:=List.take_of_length_le oG;have hle:(Q0g m).length<=o.length:=oG;rw[Nat.pow_zero,Nat.div_one,Nat.mul_one] at hv;rw[Nat.pow_zero,Nat.div_one];refine Y4w ?_;refine Z0j 0 ?_ ?_;exact Y4v;refine Q0a ?_;simp-dsimp only[go_sem,ht,hle];refine(K1i o st oG).Q ?_;rw[<-K0g o,hv]
theorem W0p (m s:Nat):Q0i (m*2^s)<=Q0i m+s:=bitlen_le_iff.2 (by rw[Nat.pow_add];exact Nat.mul_lt_mul_of_pos_right (Z0h m) (Nat.two_pow_pos _))
theorem v2m {a b:Vl}{p:Nat}(ha:bdV 4096 65536 a)(hb:bdV 4096 65536 b)(hp:p<=256):bdV 10000 1000000 (ratV a b p):=by
 unfold ratV;split;refine⟨?_,?_,?_⟩;show Q0i 0<=_;rw[X0z];omega;show -((1000000:Nat):Int)<=0;omega;show(0:Int)<=((1000000:Nat):Int);omega;have h1:=ha.1;have h2:=hb.1;have hm:K0y a.m b.m p<=4400:=(by unfold K0y;omega);have hq:Q0i (v0s a.m b.m p)<=10000:=by
  have q1:v0s a.m b.m p<=a.m*2^K0y a.m b.m p*2^2:=by unfold v0s;have:=Nat.div_le_self (a.m*2^K0y a.m b.m p) b.m;have:=Nat.mod_le (a.m*2^K0y a.m b.m p) b.m;split;omega;rename_i hne;have:a.m*2^K0y a.m b.m p≠0:=fun e=>(by rw[e,Nat.zero_mod] at hne;exact hne rfl);omega
  have h3:=J0k q1;have h4:=W0p (a.m*2^K0y a.m b.m p) 2;have h5:=W0p a.m (K0y a.m b.m p);omega
 exact(Y1k (neg:=a.neg !=b.neg) (n:=10000) (k:=900000) hq (by have:=ha.2;have:=hb.2;omega) (by have:=ha.2;have:=hb.2;omega)).mono oG oG
set_option maxHeartbeats 16000000 in
theorem G3q (a b:Vl)(p:Nat)(up:Bool)(st:Q0f)(ha:bdV 4096 65536 a)(hb:bdV 4096 65536 b)(hb0:0<b.m)(hp:p<=256):
 PR 260 [.agg (encV a),.agg (encV b),.sc (.int .i64 p),.sc (.bool up)] st (.agg (encV (Z0p (ratV a b p) p up))):=by
 have dga:=X0w ha oG;have dgb:=X0w hb oG;have la:(Q0g a.m).length<=200:=(by have:=Z0t a.m;have:=ha.1;omega);have lb:(Q0g b.m).length<=200:=(by have:=Z0t b.m;have:=hb.1;omega);have hbd:=v2m ha hb hp;refine Q0b none Tryz.func260 rfl fun E=>Q0a ?_;by_cases h0:a.m=0;have f1:(((Q0g a.m).length:Int)==0)=true:=(by rw[h0,Z0o];rfl);simp-dsimp only[go_sem,f1];unfold ratV;rw[if_pos h0];unfold Z0p;rw[if_pos (by show Q0i 0<=p;rw[X0z];omega)];rw[Z0o];rfl;have hne:Q0g a.m≠ []:=fun e=>h0 (digitsOf_nil.1 e);have f1:(((Q0g a.m).length:Int)==0)=false:=beq_eq_false_iff_ne.2 (fun e=>hne (List.eq_nil_of_length_eq_zero oG));have h1:=ha.1;have h2:=hb.1;have e1:IntKind.i64.wrap ((p:Int)+2)=((p+2:Nat):Int):=(by rw[Q0q _ oG oG];omega);have e2:IntKind.i64.wrap (((p+2:Nat):Int)+(Q0i b.m:Int))=((p+2+Q0i b.m:Nat):Int):=(by rw[Q0q _ oG oG];omega);have e3:IntKind.i64.wrap (((p+2+Q0i b.m:Nat):Int)-(Q0i a.m:Int))=((p+2+Q0i b.m:Nat):Int)-(Q0i a.m:Int):=Q0q _ oG oG;have mx:(if 0>((p+2+Q0i b.m:Nat):Int)-(Q0i a.m:Int) then 0 else((p+2+Q0i b.m:Nat):Int)-(Q0i a.m:Int))=((K0y a.m b.m p:Nat):Int):=by unfold K0y;split<;>omega
 have hs:K0y a.m b.m p<=4400:=by unfold K0y;omega
 have hrat:ratV a b p=oddV (a.neg !=b.neg) (v0s a.m b.m p) (a.e-b.e-(K0y a.m b.m p:Int)-1):=by unfold ratV;rw[if_neg h0]
 have hqm:v0s a.m b.m p=2*(a.m*2^K0y a.m b.m p/b.m)+if a.m*2^K0y a.m b.m p % b.m=0 then 0 else 1:=rfl;have hshl:=W0p a.m (K0y a.m b.m p);have hdl:=Z0t (a.m*2^K0y a.m b.m p);rw[hqm] at hrat;generalize K0y a.m b.m p=s at*
 have hqb:=J0k (Nat.div_le_self (a.m*2^s) b.m);have hmod:(Q0g (a.m*2^s % b.m)).length=0<->a.m*2^s % b.m=0:=by constructor;intro h;exact digitsOf_nil.1 (List.eq_nil_of_length_eq_zero h);intro h;rw[h,Z0o];rfl
 simp-dsimp only[go_sem,f1];refine Q0k Z0b 66 (X2p [0,1,2,3,6,7] (.step 4 [7] (X2p [5,8,9,10,11] .done))) (by decide+kernel) (by simp) ?_;refine Y4w ?_;refine(j0j b.m _ oG).Q ?_;refine(j0j a.m _ oG).q ?_;simp-dsimp only[go_sem,e1,e2,e3,mx];refine Q0k Z0b 66 (X2p [0,1,2,4,5] (.step 3 [5] (X2p [6,7,8,9,10,11] .done))) (by decide+kernel) (by simp) ?_;refine Y4w ?_;refine(j0i a.m s _ oG oG).Q ?_;refine(Q3f (a.m*2^s) b.m _ oG hb0 oG).q ?_;have e4:IntKind.i64.wrap (a.e-b.e)=a.e-b.e:=Q0q _ (by have:=ha.2;have:=hb.2;omega) (by have:=ha.2;have:=hb.2;omega);have e5:IntKind.i64.wrap (a.e-b.e-(s:Int))=a.e-b.e-(s:Int):=Q0q _ (by have:=ha.2;have:=hb.2;omega) (by have:=ha.2;have:=hb.2;omega);have e6:IntKind.i64.wrap (a.e-b.e-(s:Int)-1)=a.e-b.e-(s:Int)-1:=Q0q _ (by have:=ha.2;have:=hb.2;omega) (by have:=ha.2;have:=hb.2;omega);have hneg:(!(a.neg==b.neg))=(a.neg !=b.neg):=rfl;have hq2: ∀q:Nat,q*2=2*q:=fun q=>Nat.mul_comm _ _;have hqd:(Q0g (a.m*2^s/b.m)).length<=1000:=(by have:=Z0t (a.m*2^s/b.m);omega);have hb2:=W0p (a.m*2^s/b.m) 1;have hb3:Q0i (a.m*2^s/b.m*2^1+1)<=10000:=by have h3:a.m*2^s/b.m*2^1+1<=(a.m*2^s/b.m+1)*2^1:=oG;have h4:=J0k h3;have h5:=W0p (a.m*2^s/b.m+1) 1;have h6:Q0i (a.m*2^s/b.m+1)<=Q0i (a.m*2^s/b.m)+1:=bitlen_le_iff.2 (by have:=Z0h (a.m*2^s/b.m);rw[Nat.pow_succ];omega);omega
 generalize a.m*2^s/b.m=q at*
 generalize a.m*2^s % b.m=rr at*
 by_cases hz:rr=0;have f2:decide (((Q0g rr).length:Int)>0)=false:=q_g (by have:=hmod.2 hz;omega);rw[if_pos hz,Nat.add_zero] at hrat;have hodd:oddV (a.neg !=b.neg) q (a.e-b.e-(s:Int))=ratV a b p:=by rw[hrat,<-hq2,<-Nat.pow_one 2,J1w];congr 1;omega
 simp-dsimp only[go_sem,f2,e4,e5];refine(Y1z (!(a.neg==b.neg)) q (a.e-b.e-(s:Int)) _ oG (by have:=ha.2;have:=hb.2;omega) (by have:=ha.2;have:=hb.2;omega)).q ?_;rw[hneg,hodd];refine Y4w ?_;refine(G0d (ratV a b p) p up _ (X0l hbd oG oG) oG).Q0;have f2:decide (((Q0g rr).length:Int)>0)=true:=q_h (by have:=fun h=>hz (hmod.1 h);omega);rw[if_neg hz,<-hq2,<-Nat.pow_one 2] at hrat;simp-dsimp only[go_sem,f2,e4,e5];refine(j0i q 1 _ oG oG).Q ?_;have hone:(Q0g 1).length<=1000000000000:=(by rw[show Q0g 1= [1] from by decide+kernel];simp);have a1:=J1q (q*2^1) 1 st (by have:=Z0t (q*2^1);omega) hone;rw[show Q0g 1= [1] from by decide+kernel] at a1;refine a1.q ?_;simp-dsimp only[go_sem,e4,e5,e6];refine(Y1z (!(a.neg==b.neg)) (q*2^1+1) (a.e-b.e-(s:Int)-1) _ oG (by have:=ha.2;have:=hb.2;omega) (by have:=ha.2;have:=hb.2;omega)).q ?_;rw[hneg,<-hrat];refine Y4w ?_;refine(G0d (ratV a b p) p up _ (X0l hbd oG oG) oG).Q0
def okT (n L U:Nat)(D:Int)(t:Tm):Prop:=t.ks.length=n/\H2l t.ks=true/\t.ks.sum<=D/\canV t.v/\luQ L U (qV t.v)
theorem okT.up {n L U U':Nat}{D:Int}{t:Tm}(h:okT n L U D t)(hu:U<=U'):okT n L U' D t:=⟨h.1,h.2.1,h.2.2.1,h.2.2.2.1,h.2.2.2.2.up hu⟩
def okMn (n L U:Nat)(D:Int)(m:Mn):Prop:=m.ks.length=n/\H2l m.ks=true/\m.ks.sum<=D/\Q0h m.c=true/\m.c.w.length≠0/\luQ L U (qN m.c)
def z1b (p:Nat)(x:Rat):Prop:= ∃m e:Int,x=qM m e/\m.natAbs<=2^p
theorem X2q (v:Vl)(p:Nat)(h: ¬Q0i v.m<=p): ∃k:Int,qV (Z0p v p false)=qM (k*2^(Q0i v.m-p)) v.e/\k*2^(Q0i v.m-p)<=J0m v/\(∀j:Int,j*2^(Q0i v.m-p)<=J0m v->j<=k)/\k.natAbs<=2^p:=by
 unfold Z0p;rw[if_neg h,y0o,Z1k];have hb:=Z0h v.m;have hbp:2^Q0i v.m=2^p*2^(Q0i v.m-p):=(by rw[<-Nat.pow_add];congr 1;omega);generalize Q0i v.m-p=d at*
 have hD:=Nat.two_pow_pos d;have h1:=Nat.div_add_mod v.m (2^d);have h2:=Nat.mod_lt v.m hD;have hq:v.m/2^d<2^p:=by rw[Nat.div_lt_iff_lt_mul hD,<-hbp];exact hb
 have hcast:((2^d:Nat):Int)=(2:Int)^d:=(by simp);have hD':(0:Int)<(2:Int)^d:=(by rw[<-hcast];exact_mod_cast hD);unfold J0m;cases hn:v.neg;refine⟨((v.m/2^d:Nat):Int),?_,?_,fun j hj=> ?_,by rw[Int.natAbs_natCast];exact Nat.le_of_lt hq⟩;rw[if_neg (by simp),if_neg (by simp),Nat.add_zero,Int.natCast_mul,hcast];rw[if_neg (by simp),<-hcast,<-Int.natCast_mul];have:=Nat.div_mul_le_self v.m (2^d);omega;rw[if_neg (by simp)] at hj;by_cases hj0:j<0;have:(0:Int)<=((v.m/2^d:Nat):Int):=Int.natCast_nonneg _;omega;obtain⟨n,rfl⟩:=Int.eq_ofNat_of_zero_le (by omega:0<=j);rw[<-hcast,<-Int.natCast_mul] at hj;have hj':n*2^d<=v.m:=(by exact_mod_cast hj);have:=(Nat.le_div_iff_mul_le hD).2 hj'
 exact_mod_cast this
 generalize hc':(if v.m % 2^d≠0/\false≠true then 1 else 0)=c;have hc:(v.m % 2^d≠0/\c=1)\/(v.m % 2^d=0/\c=0):=by by_cases h3:v.m % 2^d=0;rw[if_neg (by simp[h3])] at hc';exact .inr ⟨h3,hc'.symm⟩;rw[if_pos ⟨h3,by simp⟩] at hc';exact .inl ⟨h3,hc'.symm⟩
 refine⟨-((v.m/2^d+c:Nat):Int),?_,?_,fun j hj=> ?_,by rw[Int.natAbs_neg];simp only[Int.natAbs_natCast];omega⟩;rw[if_pos rfl];congr 1;rw[Int.neg_mul,<-hcast,<-Int.natCast_mul];rw[if_pos rfl,Int.neg_mul,<-hcast,<-Int.natCast_mul];have:v.m<=(v.m/2^d+c)*2^d:=by rw[Nat.mul_comm] at h1;rw[Nat.add_mul];rcases hc with ⟨a,rfl⟩ | ⟨a,rfl⟩<;>omega
 omega;rw[if_pos rfl] at hj;by_cases hj0:0<j;have:0<j*(2:Int)^d:=Int.mul_pos hj0 hD';omega;obtain⟨n,hn'⟩:=Int.eq_ofNat_of_zero_le (by omega:0<= -j);obtain rfl:j= -(n:Int):=oG;rw[Int.neg_mul,<-hcast,<-Int.natCast_mul] at hj;have hj':v.m<=n*2^d:=oG;have:v.m/2^d+c<=n:=by
  rcases hc with ⟨a,rfl⟩ | ⟨a,rfl⟩;have:v.m/2^d<n:=by refine Nat.lt_of_not_le fun hle=> ?_;have:=Nat.mul_le_mul_right (2^d) hle;rw[Nat.mul_comm] at h1;omega
  omega;have:=Nat.div_le_div_right (c:=2^d) hj';rw[Nat.mul_div_cancel _ hD] at this;omega
 omega
theorem q3t (v:Vl)(p:Nat):z1b p (qV (Z0p v p false)):=by by_cases h:Q0i v.m<=p;unfold Z0p;rw[if_pos h];refine⟨J0m v,v.e,rfl,?_⟩;rw[X3i];exact Nat.le_of_lt (q_e (Z0h v.m) (Nat.pow_le_pow_right (by decide) h));obtain⟨k,h1,h2,h3,h4⟩:=X2q v p h;exact⟨k,v.e+((Q0i v.m-p:Nat):Int),by rw[h1,H0v],h4⟩
theorem W2l {v:Vl}{p:Nat}(hp:1<=p){x:Rat}(hx:z1b p x)(hle:x<=qV v):x<=qV (Z0p v p false):=by
 by_cases h:Q0i v.m<=p;unfold Z0p;rw[if_pos h];exact hle;obtain⟨k,h1,h2,h3,h4⟩:=X2q v p h;rw[h1];obtain⟨m,e,rfl,hm⟩:=hx;have h0:v.m≠0:=fun e=>(by rw[e,X0z] at h;omega);have hlow:=z0x h0;obtain⟨d,hd⟩: ∃d,Q0i v.m-p=d:=⟨_,rfl⟩;rw[hd] at h1 h2 h3⊢;have hd1:1<=d:=oG;have hlow':2^(p-1)*2^d<=v.m:=(by rw[<-Nat.pow_add];exact Nat.le_trans (Nat.pow_le_pow_right (by decide) oG) hlow);have hcast:((2^(p-1):Nat):Int)=(2:Int)^(p-1):=(by simp);have hcd:((2^d:Nat):Int)=(2:Int)^d:=(by simp);unfold qV at hle;by_cases he:v.e+d<=e;have e1:qM m e=qM (m*2^(e-(v.e+d)).toNat*2^d) v.e:=by rw[H0v,H0v];congr 1;omega
 rw[e1,qM_le] at hle⊢;have:=h3 _ hle;exact Int.mul_le_mul_of_nonneg_right this (Int.le_of_lt (by rw[<-hcd];exact_mod_cast Nat.two_pow_pos d))
 -- |x| is at most 2^(p-1) units
 have hb: ∀s:Int,s.natAbs<=2^p->qM s e<=qM ((2:Int)^(p-1)*2^d) v.e:=fun s hs=>by
  have e2:(2:Int)^(p-1)*2^d=2^p*2^(d-1):=by rw[<-Int.pow_add,<-Int.pow_add];congr 1;omega
  rw[e2,H0v];have e3:qM ((2:Int)^p) (v.e+((d-1:Nat):Int))=qM ((2:Int)^p*2^(v.e+((d-1:Nat):Int)-e).toNat) e:=by rw[H0v];congr 1;omega
  rw[e3,qM_le];have hc2:((2^p:Nat):Int)=(2:Int)^p:=(by simp);have hpos:(1:Int)<=2^(v.e+((d-1:Nat):Int)-e).toNat:=by
   have:0<2^(v.e+((d-1:Nat):Int)-e).toNat:=Nat.two_pow_pos _
   exact_mod_cast this
  have hs':s<=2^p:=by rw[<-hc2];omega
  have hp0:(0:Int)<=2^p:=by rw[<-hc2];exact Int.natCast_nonneg _
  calc s<=2^p:=hs'
   _=2^p*1:=(Int.mul_one _).symm
   _<=_:=Int.mul_le_mul_of_nonneg_left hpos hp0
 unfold J0m at h2 h3 hle;cases hn:v.neg;rw[hn,if_neg (by simp)] at h3;refine Rat.le_trans (hb m hm) ?_;rw[qM_le];have:=h3 ((2:Int)^(p-1)) (by rw[<-hcast,<-hcd,<-Int.natCast_mul];exact_mod_cast hlow');exact Int.mul_le_mul_of_nonneg_right this (Int.le_of_lt (by rw[<-hcd];exact_mod_cast Nat.two_pow_pos d));rw[hn,if_pos rfl] at h3 hle;have hx2:=hb (-m) (by rw[Int.natAbs_neg];exact hm);rw[X1w] at hx2;have hx3:qM (-((2:Int)^(p-1)*2^d)) v.e<=qM (-(v.m:Int)) v.e:=(by rw[X1w ((2:Int)^(p-1)*2^d)];grind);have:=h3 (-((2:Int)^(p-1))) (by rw[Int.neg_mul];exact qM_le.1 hx3);refine Rat.le_trans hle ?_;rw[qM_le];have h5: -(v.m:Int)<= -((2:Int)^(p-1))*2^d:=by rw[Int.neg_mul,<-hcast,<-hcd,<-Int.natCast_mul];have:((2^(p-1)*2^d:Nat):Int)<=(v.m:Int):=(by exact_mod_cast hlow');omega
 exact Int.le_trans h5 (Int.mul_le_mul_of_nonneg_right this (Int.le_of_lt (by rw[<-hcd];exact_mod_cast Nat.two_pow_pos d)))
theorem W2k (v:Vl)(p:Nat):qV (Z0p v p true)= -qV (Z0p (V0j v) p false):=by
 by_cases h0:v.m=0;have e:V0j v=v:=(by unfold V0j;rw[if_pos h0]);have hb:Q0i v.m<=p:=(by rw[h0,X0z];omega);rw[e];unfold Z0p;rw[if_pos hb,if_pos hb,Y1w h0];rfl;have e1:(V0j v).m=v.m:=Z1e v;have e2:(V0j v).e=v.e:=Z1f v;have e3:(V0j v).neg= !v.neg:=(by unfold V0j;rw[if_neg h0]);unfold Z0p;rw[e1,e2,e3];split;rw[q0m];grind;rw[y0o,y0o];have ec:(if v.m % 2^(Q0i v.m-p)≠0/\false≠ !v.neg then 1 else 0)=(if v.m % 2^(Q0i v.m-p)≠0/\true≠v.neg then 1 else 0):=by cases v.neg<;>simp
 rw[ec];generalize v.m/2^(Q0i v.m-p)+(if v.m % 2^(Q0i v.m-p)≠0/\true≠v.neg then 1 else 0)=M;rw[<-X1w];congr 1;cases v.neg<;>simp
theorem k1v {α:Type}[Inhabited α]{l:List α}{P:α->Prop}(h: ∀x∈l,P x){i:Nat}(hi:i<l.length):P (l.getD i default):=by rw[show l.getD i default=l[i] by simp[q_a,hi]];exact h _ (List.getElem_mem hi)
def okPoly (n M:Nat)(D:Int)(p:List Mn):Prop:=X2t p n=true/\p.length<=M/\ ∀m∈p,okMn n 12 (18+M) D m
def okField (n M:Nat)(D:Int)(f:List (List Mn)):Prop:=f.length=n/\ ∀p∈f,okPoly n M D p
theorem okPoly.at {n M:Nat}{D:Int}{p:List Mn}(h:okPoly n M D p){j:Nat}(hj:j<p.length):okMn n 12 (18+M) D (p.getD j default):=k1v h.2.2 hj
theorem okField.at {n M:Nat}{D:Int}{f:List (List Mn)}(h:okField n M D f){i:Nat}(hi:i<f.length):okPoly n M D (f.getD i []):=by rw[show f.getD i []=f[i] by simp[q_a,hi]];exact h.2 _ (List.getElem_mem hi)
end Go.Pv
end
