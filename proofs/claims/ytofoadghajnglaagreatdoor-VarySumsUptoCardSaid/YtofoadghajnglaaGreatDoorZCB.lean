/- Parts of the walk: M62, N81, N82, N83, N84, N85, N86. -/
import Derived.Test.YtofoadghajnglaaGreatDoorZY
import Derived.Test.YtofoadghajnglaaGreatDoorZAB
import Derived.Test.YtofoadghajnglaaGreatDoorZF
import Derived.Test.YtofoadghajnglaaGreatDoorZL
import Derived.Test.YtofoadghajnglaaGreatDoorZAD
import Derived.Test.YtofoadghajnglaaGreatDoorZBE
import Derived.Test.YtofoadghajnglaaGreatDoorZAE
import Derived.Test.YtofoadghajnglaaGreatDoorZG
import Derived.Test.YtofoadghajnglaaGreatDoorZAF
set_option linter.unusedVariables false
set_option linter.unusedSimpArgs false
section
/-Quotients,with a bit more that says whether something was left. No program in it. -/
namespace Go.Pv
def G0g (a b:Nat) (p:Nat):Nat:=p+2+Q0g b-Q0g a
def X1k (a b:Nat) (p:Nat):Nat:=2*(a*2^G0g a b p/b)+if a*2^G0g a b p % b=0 then 0 else 1
def ratV (a b:Vl) (p:Nat):Vl:=if a.m=0 then⟨false,0,0⟩ else oddV (a.neg !=b.neg) (X1k a.m b.m p) (a.e-b.e-(G0g a.m b.m p:Int)-1)
theorem y0q (a b:Vl) (p:Nat):canV (ratV a b p):=by
 unfold ratV
 split
 · exact .inr rfl
 · exact k0t _ _ _
def divI (a:Ivl) (c:Nm) (p:Int):Ivl×Int:=
 if Q0m a=true∧Z0i p=true then W0s (Z0f (ratV (ofN a.lo) (ofN c) p.toNat) p.toNat false) (Z0f (ratV (ofN a.hi) (ofN c) p.toNat) p.toNat true) else(default,1)
def divN (a b:Nm) (p:Int) (up:Bool):Nm×Int:=numV (Z0f (ratV (ofN a) (ofN b) p.toNat) p.toNat up)
theorem j1j {a b p:Nat} (hb:Q0g b≤32) (hp:p≤256):G0g a b p≤300:=by unfold G0g;omega
end Go.Pv
end
section
/-math/bits.LeadingZeros64;Div64 by what has half a word. -/
set_option maxRecDepth 100000
namespace Go.Pv
open Go.Proofs
theorem W3n (v:Nat) (hv:v<18446744073709551616) (st:Q0e):PCalls Tryz.prog 277 [.sc (.int .u64 v)] st (fun r st'=>r= .sc (.int .i64 ((64-Q0g v:Nat):Int))∧st'=st):=by
 refine Q0b none Tryz.func277 rfl fun E=>Q0a ?_
 simp -dsimp only [go_sem]
 refine(K2c v hv st).mono ?_
 rintro r st ⟨rfl,rfl⟩
 have hb:Q0g v≤64:=bitlen_le_iff.2 (by omega)
 have e:IntKind.i64.wrap (64-(Q0g v:Int))=((64-Q0g v:Nat):Int):=by rw [Q0k _ (by omega) (by omega)];omega
 simp -dsimp only [go_sem,e]
theorem Z3k (hi lo d s s' y y1 a b u32 u10 u1 u0 q1 p1 r1 A B p2 u21 q0 p3 r0 C D E1 F G Q R:Nat) (st:Q0e) (hd:d<18446744073709551616) (hhi:0<hi)
 (f1:((d:Int)==0)=false) (f2:decide ((d:Int)≤(hi:Int))=false) (f3:((hi:Int)==0)=false)
 (n1:IntKind.u64.wrap ((64-Q0g d:Nat):Int)=(s:Int)) (n2:bShl .u64 (d:Int) (s:Int)=(y:Int)) (n3:bShr .u64 (y:Int) 32=(y1:Int)) (n4:bAnd .u64 (y:Int) 4294967295=0)
 (n5:bShl .u64 (hi:Int) (s:Int)=(a:Int)) (n6:IntKind.u64.wrap (64-(s:Int))=(s':Int)) (n7:bShr .u64 (lo:Int) (s':Int)=(b:Int)) (n8:bOr .u64 (a:Int) (b:Int)=(u32:Int))
 (n9:bShl .u64 (lo:Int) (s:Int)=(u10:Int)) (n10:bShr .u64 (u10:Int) 32=(u1:Int)) (n11:bAnd .u64 (u10:Int) 4294967295=(u0:Int)) (n12:((y1:Int) !=0)=true)
 (n13:IntKind.u64.wrap ((u32:Int).tdiv (y1:Int))=(q1:Int)) (n14:IntKind.u64.wrap ((q1:Int)*(y1:Int))=(p1:Int)) (n15:IntKind.u64.wrap ((u32:Int)-(p1:Int))=(r1:Int))
 (c1:decide ((q1:Int)≥4294967296)=false) (c2:decide (IntKind.u64.wrap ((q1:Int)*0)>IntKind.u64.wrap (IntKind.u64.wrap (4294967296*(r1:Int))+(u1:Int)))=false)
 (n16:IntKind.u64.wrap ((u32:Int)*4294967296)=(A:Int)) (n17:IntKind.u64.wrap ((A:Int)+(u1:Int))=(B:Int)) (n18:IntKind.u64.wrap ((q1:Int)*(y:Int))=(p2:Int)) (n19:IntKind.u64.wrap ((B:Int)-(p2:Int))=(u21:Int))
 (n20:IntKind.u64.wrap ((u21:Int).tdiv (y1:Int))=(q0:Int)) (n21:IntKind.u64.wrap ((q0:Int)*(y1:Int))=(p3:Int)) (n22:IntKind.u64.wrap ((u21:Int)-(p3:Int))=(r0:Int))
 (c3:decide ((q0:Int)≥4294967296)=false) (c4:decide (IntKind.u64.wrap ((q0:Int)*0)>IntKind.u64.wrap (IntKind.u64.wrap (4294967296*(r0:Int))+(u0:Int)))=false)
 (n23:IntKind.u64.wrap ((q1:Int)*4294967296)=(C:Int)) (n24:IntKind.u64.wrap ((C:Int)+(q0:Int))=(Q:Int)) (n25:IntKind.u64.wrap ((u21:Int)*4294967296)=(D:Int)) (n26:IntKind.u64.wrap ((D:Int)+(u0:Int))=(E1:Int))
 (n27:IntKind.u64.wrap ((q0:Int)*(y:Int))=(F:Int)) (n28:IntKind.u64.wrap ((E1:Int)-(F:Int))=(G:Int)) (n29:bShr .u64 (G:Int) (s:Int)=(R:Int)):PCalls Tryz.prog 276 [.sc (.int .u64 hi),.sc (.int .u64 lo),.sc (.int .u64 d)] st
 (fun r st'=>r= .tup [.sc (.int .u64 Q),.sc (.int .u64 R)]∧st'=st):=by
 refine Q0b none Tryz.func276 rfl fun E=>Q0a ?_
 simp -dsimp only [go_sem,f1,f2,f3]
 refine(W3n d hd st).mono ?_
 rintro r st ⟨rfl,rfl⟩
 simp -dsimp only [go_sem,n1,n2,n3,n4,n5,n6,n7,n8,n9,n10,n11,n12,n13,n14,n15]
 refine⟨by omega,by omega,by omega,by omega,?_⟩
 refine Q0f [false,false,true,false,false,false,false,false,true,true,true,true,false,true,true,true,true] 0 0 (fun m s'=>s'=⟨[.junk,.junk,.sc (.int .u64 y),.junk,.junk,.junk,.junk,.junk,.sc (.int .u64 s),.sc (.int .u64 y1),.sc (.int .u64 0),.sc (.int .u64 u32),.junk,.sc (.int .u64 u1),.sc (.int .u64 u0),.sc (.int .u64 q1),.sc (.int .u64 r1)]++List.replicate 118 .junk,[],[],st⟩) 0 ?_ ?_
 · simp -dsimp only [go_sem]
 rintro m s' rfl
 simp -dsimp only [go_sem,c1,c2]
 refine Q0a ?_
 simp -dsimp only [go_sem,n16,n17,n18,n19,n20,n21,n22,n12]
 refine Q0f [false,false,true,false,false,false,false,false,true,true,true,false,false,false,true,true,true,true,true] 0 0 (fun m s'=>s'=⟨[.junk,.junk,.sc (.int .u64 y),.junk,.junk,.junk,.junk,.junk,.sc (.int .u64 s),.sc (.int .u64 y1),.sc (.int .u64 0),.junk,.junk,.junk,.sc (.int .u64 u0),.sc (.int .u64 q1),.sc (.int .u64 r0),.sc (.int .u64 u21),.sc (.int .u64 q0)]++List.replicate 116 .junk,[],[],st⟩) 0 ?_ ?_
 · simp -dsimp only [go_sem]
 rintro m s' rfl
 simp -dsimp only [go_sem,c3,c4]
 refine Q0a ?_
 simp -dsimp only [go_sem,n23,n24,n25,n26,n27,n28,n29]
 omega
theorem H0j (x:Int):IntKind.u64.wrap x=x % 18446744073709551616:=by
 simp [IntKind.wrap,IntKind.bits,IntKind.signed]
theorem y1o (hi lo d k P y y1 b u32 u10 u1 u0 q1 r1 u21 q0 r0:Nat) (hd:0<d) (hh:hi<d) (hy:y=d*P) (hP:P=4294967296*k) (h1:y1=d*k) (hk:0<k) (hyl:y<18446744073709551616)
 (hb:lo*P=u10+18446744073709551616*b) (hbl:b<P) (h3:u32=hi*P+b) (h4:u10=u0+4294967296*u1) (h5:u0<4294967296) (h6:u1<4294967296) (h7:u32=y1*q1+r1) (h8:r1<y1) (h9:u21=r1*4294967296+u1) (h10:u21=y1*q0+r0) (h11:r0<y1):
 y=4294967296*y1∧u32<y∧q1<4294967296∧u21<y∧q0<4294967296∧r0*4294967296+u0<y∧q1*4294967296+q0=(hi*18446744073709551616+lo)/d∧r0*4294967296+u0=(hi*18446744073709551616+lo) % d*P:=by
 have e1:y=4294967296*y1:=by rw [hy,hP,h1];grind
 have e2:hi*P+P≤y:=by
  have:(hi+1)*P≤d*P:=Nat.mul_le_mul_right _ hh
  rw [Nat.add_mul,Nat.one_mul] at this
  omega
 have e3:u32<y:=by omega
 have lt_of: ∀q r u:Nat,u=y1*q+r→u<4294967296*y1→q<4294967296:=fun q r u hu hlt=>by
  apply Nat.lt_of_not_le
  intro hle
  have:=Nat.mul_le_mul_left y1 hle
  omega
 have e4:q1<4294967296:=lt_of q1 r1 u32 h7 (by omega)
 have e5:u21<y:=by omega
 have e6:q0<4294967296:=lt_of q0 r0 u21 h10 (by omega)
 have e7:r0*4294967296+u0<y:=by omega
 have e8:(hi*18446744073709551616+lo)*P=y*(q1*4294967296+q0)+(r0*4294967296+u0):=by
  have a1:(hi*18446744073709551616+lo)*P=18446744073709551616*(hi*P)+lo*P:=by grind
  have a2:y*(q1*4294967296+q0)=18446744073709551616*(y1*q1)+4294967296*(y1*q0):=by rw [e1];grind
  rw [a1,a2,hb]
  generalize y1*q1=A at*
  generalize y1*q0=B at*
  generalize hi*P=C at*
  omega
 have hPp:0<P:=by omega
 have hdP:0<d*P:=Nat.mul_pos hd hPp
 refine⟨e1,e3,e4,e5,e6,e7,?_,?_⟩
 · have:=Nat.mul_div_mul_right (hi*18446744073709551616+lo) d hPp
   rw [←this,e8,←hy]
   rw [Nat.mul_add_div (by omega),Nat.div_eq_of_lt e7,Nat.add_zero]
 · have:=Nat.mul_mod_mul_right P (hi*18446744073709551616+lo) d
   rw [←this,e8,←hy,Nat.mul_add_mod,Nat.mod_eq_of_lt e7]
set_option maxHeartbeats 4000000 in
theorem Z3l (hi lo d:Nat) (st:Q0e) (hd:0<d) (hd2:d<4294967296) (hh:hi<d) (hlo:lo<18446744073709551616):PCalls Tryz.prog 276 [.sc (.int .u64 hi),.sc (.int .u64 lo),.sc (.int .u64 d)] st
 (fun r st'=>r= .tup [.sc (.int .u64 (((hi*18446744073709551616+lo)/d:Nat):Int)),.sc (.int .u64 (((hi*18446744073709551616+lo) % d:Nat):Int))]∧st'=st):=by
 have f1:((d:Int)==0)=false:=beq_eq_false_iff_ne.2 (by omega)
 have f2:decide ((d:Int)≤(hi:Int))=false:=decide_eq_false (by omega)
 by_cases h0:hi=0
 · subst h0
   have f3:(((0:Nat):Int)==0)=true:=rfl
   have f4:((d:Int) !=0)=true:=by simp;omega
   refine Q0b none Tryz.func276 rfl fun E=>Q0a ?_
   simp -dsimp only [go_sem,f1,f2,f3]
   refine Q0p Z0g 135 (.step 0 [] (.step 1 [] (.step 2 [] (.step 3 [] (.step 4 [] (.step 5 [] (.step 6 [] (.step 7 [] (.done))))))))) (by decide+kernel) (by simp) ?_
   have hq:lo/d<18446744073709551616:=Nat.lt_of_le_of_lt (Nat.div_le_self _ _) hlo
   simp -dsimp only [go_sem,f4]
   rw [G0t,G0s,X0y,Nat.mod_eq_of_lt hq]
 · have f3:((hi:Int)==0)=false:=beq_eq_false_iff_ne.2 (by omega)
   have hb32:Q0g d≤32:=bitlen_le_iff.2 (by omega)
   have hb0:0<Q0g d:=G0o (by omega)
   obtain⟨j,hj⟩: ∃j,64-Q0g d=32+j:=⟨32-Q0g d,by omega⟩
   have hj32:j<32:=by omega
   have hyl:d*2^(32+j)<18446744073709551616:=by
    have h1:=Z0d d
    have h2:2^Q0g d*2^(32+j)=18446744073709551616:=by rw [←Nat.pow_add,show Q0g d+(32+j)=64 by omega]
    rw [←h2]
    exact Nat.mul_lt_mul_of_pos_right h1 (Nat.two_pow_pos _)
   have hPk:2^(32+j)=4294967296*2^j:=by rw [Nat.pow_add]
   have hk:=Nat.two_pow_pos j
   have hsp:=W1w lo (32+j) hlo (by omega)
   have hbl:=j2v lo (32+j) hlo (by omega)
   have hu10:=Nat.mod_lt (lo*2^(32+j)) (show 0<18446744073709551616 by decide)
   generalize hu:lo*2^(32+j) % 18446744073709551616=u10 at*
   generalize hbb:lo/2^(64-(32+j))=b at*
   have hy1:0<d*2^j:=Nat.mul_pos hd hk
   obtain⟨m1,m2,m3,m4,m5,m6,m7,m8⟩:=y1o hi lo d (2^j) (2^(32+j)) (d*2^(32+j)) (d*2^j) b (hi*2^(32+j)+b) u10 (u10/4294967296) (u10 % 4294967296)
    ((hi*2^(32+j)+b)/(d*2^j)) ((hi*2^(32+j)+b) % (d*2^j)) ((hi*2^(32+j)+b) % (d*2^j)*4294967296+u10/4294967296)
    (((hi*2^(32+j)+b) % (d*2^j)*4294967296+u10/4294967296)/(d*2^j)) (((hi*2^(32+j)+b) % (d*2^j)*4294967296+u10/4294967296) % (d*2^j))
    hd hh rfl hPk rfl hk hyl hsp hbl rfl (by omega) (by omega) (by omega) (Nat.div_add_mod _ _).symm (Nat.mod_lt _ hy1) rfl (Nat.div_add_mod _ _).symm (Nat.mod_lt _ hy1)
   obtain⟨NN,hNN⟩: ∃NN,NN=hi*18446744073709551616+lo:=⟨_,rfl⟩
   rw [←hNN] at m7 m8⊢
   clear hNN
   have hiP:hi*2^(32+j)<18446744073709551616:=by omega
   have hhmod:hi*2^(32+j) % 2^(32+j)=0:=Nat.mul_mod_left _ _
   have dm1:=Nat.div_add_mod (hi*2^(32+j)+b) (d*2^j)
   have ml1:=Nat.mod_lt (hi*2^(32+j)+b) hy1
   generalize hy':d*2^(32+j)=y at*
   generalize hy1':d*2^j=y1 at*
   have hor:hi*2^(32+j)|||b=hi*2^(32+j)+b:=by rw [Nat.or_comm,J1k _ _ _ hbl hhmod,Nat.add_comm]
   have sh1:bShl .u64 (hi:Int) ((32+j:Nat):Int)=((hi*2^(32+j):Nat):Int):=by rw [U0r _ _ (by omega),Nat.mod_eq_of_lt hiP]
   have sh2:bShl .u64 (lo:Int) ((32+j:Nat):Int)=(u10:Int):=by rw [U0r _ _ (by omega),hu]
   have sh3:bShl .u64 (d:Int) ((32+j:Nat):Int)=(y:Int):=by rw [U0r _ _ (by omega),hy',Nat.mod_eq_of_lt hyl]
   have sh4:bShr .u64 (lo:Int) ((64-(32+j):Nat):Int)=(b:Int):=by rw [K0z _ _ (by omega),hbb]
   generalize hi*2^(32+j)=a at*
   generalize hq1:(a+b)/y1=q1 at*
   generalize hr1:(a+b) % y1=r1 at*
   have dm2:=Nat.div_add_mod (r1*4294967296+u10/4294967296) y1
   have ml2:=Nat.mod_lt (r1*4294967296+u10/4294967296) hy1
   generalize hq0:(r1*4294967296+u10/4294967296)/y1=q0 at*
   generalize hr0:(r1*4294967296+u10/4294967296) % y1=r0 at*
   have hPG:bShr .u64 ((r0*4294967296+u10 % 4294967296:Nat):Int) ((32+j:Nat):Int)=((NN % d:Nat):Int):=by
    rw [K0z _ _ (by omega),m8,Nat.mul_div_cancel _ (Nat.two_pow_pos _)]
   rw [←m7]
   have c11:y1*q1=q1*y1:=Nat.mul_comm _ _
   have c12:y1*q0=q0*y1:=Nat.mul_comm _ _
   have c13:q1*y=4294967296*(q1*y1):=by rw [m1];grind
   have c14:q0*y=4294967296*(q0*y1):=by rw [m1];grind
   rw [c11] at dm1
   rw [c12] at dm2
   generalize hqy1:q1*y1=w1 at*
   generalize hqy0:q0*y1=w0 at*
   generalize hu1:u10/4294967296=u1 at*
   generalize hu0:u10 % 4294967296=u0 at*
   have hu0l:u0<4294967296:=by omega
   have hu1l:u1<4294967296:=by omega
   have g1:IntKind.u64.wrap ((64-Q0g d:Nat):Int)=((32+j:Nat):Int):=by rw [hj,X0y,Nat.mod_eq_of_lt (by omega)]
   have g3:bShr .u64 (y:Int) 32=(y1:Int):=by rw [y0z];congr 1;omega
   have g4:bAnd .u64 (y:Int) 4294967295=0:=by rw [k0y y hyl];have:y % 4294967296=0:=by omega
                                              rw [this];rfl
   have g6:IntKind.u64.wrap (64-((32+j:Nat):Int))=((64-(32+j):Nat):Int):=by rw [H0j];omega
   have g8:bOr .u64 (a:Int) (b:Int)=((a+b:Nat):Int):=by rw [X1a _ _ (by omega) (by omega),hor]
   have g10:bShr .u64 (u10:Int) 32=(u1:Int):=by rw [y0z,hu1]
   have g11:bAnd .u64 (u10:Int) 4294967295=(u0:Int):=by rw [k0y _ (by omega),hu0]
   have g12:((y1:Int) !=0)=true:=by simp;omega
   have g13:IntKind.u64.wrap (((a+b:Nat):Int).tdiv (y1:Int))=(q1:Int):=by rw [G0t,hq1,X0y,Nat.mod_eq_of_lt (by omega)]
   have g14:IntKind.u64.wrap ((q1:Int)*(y1:Int))=(w1:Int):=by rw [←Int.natCast_mul,hqy1,X0y,Nat.mod_eq_of_lt (by omega)]
   have g15:IntKind.u64.wrap (((a+b:Nat):Int)-(w1:Int))=(r1:Int):=by rw [H0j];omega
   have k1:decide ((q1:Int)≥4294967296)=false:=decide_eq_false (by omega)
   have k2:decide (IntKind.u64.wrap ((q1:Int)*0)>IntKind.u64.wrap (IntKind.u64.wrap (4294967296*(r1:Int))+(u1:Int)))=false:=decide_eq_false (by rw [Int.mul_zero,H0j,H0j,H0j];omega)
   obtain⟨A,hA⟩: ∃A,A=(a+b)*4294967296 % 18446744073709551616:=⟨_,rfl⟩
   obtain⟨B,hB⟩: ∃B,B=((a+b)*4294967296+u1) % 18446744073709551616:=⟨_,rfl⟩
   obtain⟨p2,hp2⟩: ∃p2,p2=q1*y % 18446744073709551616:=⟨_,rfl⟩
   obtain⟨u21,hu21⟩: ∃u21,u21=r1*4294967296+u1:=⟨_,rfl⟩
   obtain⟨D,hD⟩: ∃D,D=u21*4294967296 % 18446744073709551616:=⟨_,rfl⟩
   obtain⟨E1,hE1⟩: ∃E1,E1=(u21*4294967296+u0) % 18446744073709551616:=⟨_,rfl⟩
   obtain⟨F,hF⟩: ∃F,F=q0*y % 18446744073709551616:=⟨_,rfl⟩
   obtain⟨G,hG⟩: ∃G,G=r0*4294967296+u0:=⟨_,rfl⟩
   rw [←hu21] at dm2 hq0 hr0 m4
   rw [←hG] at hPG m6
   have g16:IntKind.u64.wrap (((a+b:Nat):Int)*4294967296)=(A:Int):=by rw [H0j];omega
   have g17:IntKind.u64.wrap ((A:Int)+(u1:Int))=(B:Int):=by rw [H0j];omega
   have g18:IntKind.u64.wrap ((q1:Int)*(y:Int))=(p2:Int):=by rw [←Int.natCast_mul,X0y,hp2]
   have g19:IntKind.u64.wrap ((B:Int)-(p2:Int))=(u21:Int):=by rw [H0j];omega
   have g20:IntKind.u64.wrap ((u21:Int).tdiv (y1:Int))=(q0:Int):=by rw [G0t,hq0,X0y,Nat.mod_eq_of_lt (by omega)]
   have g21:IntKind.u64.wrap ((q0:Int)*(y1:Int))=(w0:Int):=by rw [←Int.natCast_mul,hqy0,X0y,Nat.mod_eq_of_lt (by omega)]
   have g22:IntKind.u64.wrap ((u21:Int)-(w0:Int))=(r0:Int):=by rw [H0j];omega
   have k3:decide ((q0:Int)≥4294967296)=false:=decide_eq_false (by omega)
   have k4:decide (IntKind.u64.wrap ((q0:Int)*0)>IntKind.u64.wrap (IntKind.u64.wrap (4294967296*(r0:Int))+(u0:Int)))=false:=decide_eq_false (by rw [Int.mul_zero,H0j,H0j,H0j];omega)
   obtain⟨C,hC⟩: ∃C,C=q1*4294967296:=⟨_,rfl⟩
   have g23:IntKind.u64.wrap ((q1:Int)*4294967296)=(C:Int):=by rw [H0j];omega
   have g24:IntKind.u64.wrap ((C:Int)+(q0:Int))=((q1*4294967296+q0:Nat):Int):=by rw [H0j];omega
   have g25:IntKind.u64.wrap ((u21:Int)*4294967296)=(D:Int):=by rw [H0j];omega
   have g26:IntKind.u64.wrap ((D:Int)+(u0:Int))=(E1:Int):=by rw [H0j];omega
   have g27:IntKind.u64.wrap ((q0:Int)*(y:Int))=(F:Int):=by rw [←Int.natCast_mul,X0y,hF]
   have g28:IntKind.u64.wrap ((E1:Int)-(F:Int))=(G:Int):=by rw [H0j];omega
   exact Z3k hi lo d (32+j) (64-(32+j)) y y1 a b (a+b) u10 u1 u0 q1 w1 r1 A B p2 u21 q0 w0 r0 C D E1 F G (q1*4294967296+q0) (NN % d) st (by omega) (by omega) f1 f2 f3 g1 sh3 g3 g4 sh1 g6 sh4 g8 sh2 g10 g11 g12 g13 g14 g15 k1 k2 g16 g17 g18 g19 g20 g21 g22 k3 k4 g23 g24 g25 g26 g27 g28 hPG
end Go.Pv
end
section
/-nat.byWord,nat.Div by what has half a word. -/
set_option maxRecDepth 100000
namespace Go.Pv
open Go.Proofs
theorem z1u (a:List UInt64) (d k:Nat) (hd:0<d) (h0:0<k):
 valW (a.drop (k-1))/d=(valW (a.drop k) % d*18446744073709551616+(a.getD (k-1) 0).toNat)/d+18446744073709551616*(valW (a.drop k)/d)∧
 valW (a.drop (k-1)) % d=(valW (a.drop k) % d*18446744073709551616+(a.getD (k-1) 0).toNat) % d:=by
 have h:=q0t a (k-1)
 rw [show k-1+1=k by omega] at h
 have e:valW (a.drop (k-1))=d*(18446744073709551616*(valW (a.drop k)/d))+(valW (a.drop k) % d*18446744073709551616+(a.getD (k-1) 0).toNat):=by
  rw [h]
  have:=Nat.div_add_mod (valW (a.drop k)) d
  generalize valW (a.drop k)/d=q at*
  generalize valW (a.drop k) % d=r at*
  rw [←this]
  grind
 rw [e]
 refine⟨?_,?_⟩
 · rw [Nat.mul_add_div hd,Nat.add_comm]
 · rw [Nat.mul_add_mod]
theorem W2s {r d x:Nat} (hr:r<d) (hx:x<18446744073709551616):(r*18446744073709551616+x)/d<18446744073709551616:=by
 rw [Nat.div_lt_iff_lt_mul (by omega)]
 have:(r+1)*18446744073709551616≤d*18446744073709551616:=Nat.mul_le_mul_right _ hr
 rw [Nat.mul_comm 18446744073709551616 d]
 omega
theorem x2t (a:List UInt64) (d:Nat) (st:Q0e) (ha:a.length≤1000000000000) (hd:0<d) (hd2:d<4294967296):PCalls Tryz.prog 268 [.sl .no (encW a),.sc (.int .u64 d)] st
 (fun r st'=>r= .tup [.sl .no (encW (Q0q (valW a/d))),.sc (.int .u64 ((valW a % d:Nat):Int))]∧st'=st):=by
 refine Q0b none Tryz.func268 rfl fun E=>Q0a ?_
 have e1:IntKind.i64.wrap ((a.length:Int)-1)=(a.length:Int)-1:=Q0k _ (by omega) (by omega)
 simp -dsimp only [go_sem,e1]
 refine⟨by omega,?_⟩
 refine Q0f [true,true,false,false,false,false,true,true,true] 1 0
  (fun m s'=> ∃(k:Nat) (o:List UInt64) (r:Nat),k=m∧k≤a.length∧o.length=a.length∧valW (o.drop k)=valW (a.drop k)/d∧r=valW (a.drop k) % d∧
   s'=⟨[.sl .no (encW a),.sc (.int .u64 d),.junk,.junk,.junk,.junk,.ms false 0 0 a.length,.sc (.int .u64 (r:Nat)),.sc (.int .i64 ((k:Int)-1))]++List.replicate 26 .junk,[encW o],[],st⟩) a.length ?_ ?_
 · simp -dsimp only [go_sem]
   refine⟨a.length,List.replicate a.length 0,0,rfl,Nat.le_refl _,by simp,?_,?_,rfl⟩
   · rw [List.drop_of_length_le (by simp),List.drop_of_length_le (Nat.le_refl _)];simp [K0y]
   · rw [List.drop_of_length_le (Nat.le_refl _)];simp [K0y]
 · rintro m s' ⟨k,o,r,rfl,hk,ho,hv,hr,rfl⟩
   simp -dsimp only [go_sem]
   refine ck (fun h=> ?_) (fun h=> ?_)
   · have h0:0<k:=by have:=of_decide_eq_true h;omega
     have e2:(k:Int)-1=((k-1:Nat):Int):=by omega
     have g1:=Q0z a (k-1) (by omega)
     have hrd:r<d:=by rw [hr];exact Nat.mod_lt _ hd
     have hx:(a.getD (k-1) 0).toNat<18446744073709551616:=UInt64.toNat_lt _
     have hq:=W2s hrd hx
     obtain⟨s1,s2⟩:=z1u a d k hd h0
     rw [←hr] at s1 s2
     simp -dsimp only [go_sem,e2,g1]
     refine⟨⟨by omega,by omega⟩,?_⟩
     refine(Z3l r (a.getD (k-1) 0).toNat d st hd hd2 hrd hx).mono ?_
     rintro rr st ⟨rfl,rfl⟩
     have e3:((((r*18446744073709551616+(a.getD (k-1) 0).toNat)/d:Nat):Int))=(((UInt64.ofNat ((r*18446744073709551616+(a.getD (k-1) 0).toNat)/d)).toNat:Nat):Int):=by rw [Z0p _ hq]
     have o1:=V0r o (k-1) (UInt64.ofNat ((r*18446744073709551616+(a.getD (k-1) 0).toNat)/d)) (by omega)
     have e4:IntKind.i64.wrap (((k-1:Nat):Int)-1)=((k-1:Nat):Int)-1:=Q0k _ (by omega) (by omega)
     simp -dsimp only [go_sem,e3,o1,e4]
     refine⟨⟨by omega,by omega⟩,by omega,k-1,by omega,k-1,_,_,rfl,by omega,by rw [List.length_set];exact ho,?_,s2.symm,rfl⟩
     have hd1:=q0t (o.set (k-1) (UInt64.ofNat ((r*18446744073709551616+(a.getD (k-1) 0).toNat)/d))) (k-1)
     rw [hd1,J0t,if_pos (by omega),Z0p _ hq,show k-1+1=k by omega,List.drop_set_of_lt (by omega),hv,s1]
   · have hge:k=0:=by have:=of_decide_eq_false h;omega
     subst hge
     have ht:o.take a.length=o:=List.take_of_length_le (by omega)
     have hle:a.length≤o.length:=by omega
     rw [List.drop_zero,List.drop_zero] at hv
     rw [List.drop_zero] at hr
     simp -dsimp only [go_sem]
     refine Z0u 0 ?_ ?_
     · simp -dsimp only [go_sem]
     refine Q0a ?_
     simp -dsimp only [go_sem,ht,hle]
     refine(W0t o st (by omega)).mono ?_
     rintro rr st ⟨rfl,rfl⟩
     simp -dsimp only [go_sem]
     rw [←Q0v o,hv,hr]
theorem H1c {d:Nat} (h0:0<d) (h:d<18446744073709551616):Q0q d= [UInt64.ofNat d]:=by
 unfold Q0q
 rw [digs,dif_neg (by omega),Nat.mod_eq_of_lt h,Nat.div_eq_of_lt h,K0n]
 rfl
theorem J2i (a b:List UInt64) (st:Q0e) (ha:a.length≤1000000000000) (hb:b.length≤1000000000000) (hd:0<valW b) (hd2:valW b<4294967296):PCalls Tryz.prog 252 [.sl .no (encW a),.sl .no (encW b)] st
 (fun r st'=>r= .tup [.sl .no (encW (Q0q (valW a/valW b))),.sl .no (encW (Q0q (valW a % valW b))),.sc (.bool true)]∧st'=st):=by
 refine Q0b none Tryz.func252 rfl fun E=>Q0a ?_
 simp -dsimp only [go_sem]
 refine(W0t a st (by omega)).mono ?_
 rintro r st ⟨rfl,rfl⟩
 simp -dsimp only [go_sem]
 refine(W0t b st (by omega)).mono ?_
 rintro r st ⟨rfl,rfl⟩
 have la:=K0v a
 have hcb:cutW b= [UInt64.ofNat (valW b)]:=by rw [←Q0v,H1c hd (by omega)]
 have hvb:=K0q b
 rw [←K0q a]
 generalize cutW a=a at*
 rw [hcb] at hvb⊢
 have f1:(((1:Nat):Int)==0)=false:=rfl
 have f1':((1:Int)==0)=false:=rfl
 have f2:(((1:Nat):Int)==1)=true:=rfl
 have hl1:(encW [UInt64.ofNat (valW b)]).length=1:=rfl
 simp -dsimp only [go_sem,f1,f1',hl1]
 refine(y0l a [UInt64.ofNat (valW b)] st (by omega) (by simp)).mono ?_
 rintro r st ⟨rfl,rfl⟩
 rw [hvb]
 by_cases hlt:valW a<valW b
 · have h2:decide (cmpW (valW a) (valW b)<0)=true:=decide_eq_true (by unfold cmpW cmpI;split<;>(try split)<;>omega)
   simp -dsimp only [go_sem,h2]
   refine((H1k a st (by omega)).plain).mono ?_
   rintro r st ⟨rfl,rfl⟩
   simp -dsimp only [go_sem]
   rw [Nat.div_eq_of_lt hlt,Nat.mod_eq_of_lt hlt,X0o,←Q0v a]
   rfl
 · have h2:decide (cmpW (valW a) (valW b)<0)=false:=decide_eq_false (by unfold cmpW cmpI;split<;>(try split)<;>omega)
   have g0:(encW [UInt64.ofNat (valW b)]).getD 0 .junk= .sc (.int .u64 ((valW b:Nat):Int)):=by
    show PV.sc (.int .u64 (((UInt64.ofNat (valW b)).toNat:Nat):Int))=_
    rw [Z0p _ (by omega)]
   simp -dsimp only [go_sem,h2,f2,hl1,g0]
   refine(x2t a (valW b) st (by omega) hd hd2).mono ?_
   rintro r st ⟨rfl,rfl⟩
   have hm:=Nat.mod_lt (valW a) hd
   have g2:PV.sc (.int .u64 ((valW a % valW b:Nat):Int))=PV.sc (.int .u64 (((UInt64.ofNat (valW a % valW b)).toNat:Nat):Int)):=by rw [Z0p _ (by omega)]
   rw [g2]
   simp -dsimp only [go_sem]
   refine(W0t [UInt64.ofNat (valW a % valW b)] st (by simp)).mono ?_
   rintro r st ⟨rfl,rfl⟩
   simp -dsimp only [go_sem]
   have hw:valW [UInt64.ofNat (valW a % valW b)]=valW a % valW b:=by
    show(UInt64.ofNat (valW a % valW b)).toNat+18446744073709551616*0=_
    rw [Z0p _ (by omega),Nat.mul_zero,Nat.add_zero]
   rw [←Q0v [UInt64.ofNat (valW a % valW b)],hw]
end Go.Pv
end
section
/-round.quotient,round.Div by what has half a word. -/
set_option maxRecDepth 100000
namespace Go.Pv
open Go.Proofs
theorem W0y (m s:Nat):Q0g (m*2^s)≤Q0g m+s:=bitlen_le_iff.2 (by
 rw [Nat.pow_add];exact Nat.mul_lt_mul_of_pos_right (Z0d m) (Nat.two_pow_pos _))
def Z2x (a b:Nm) (p:Nat):Nm:=⟨a.neg !=b.neg,a.exp-b.exp-(G0g (valW a.w) (valW b.w) p:Int)-1,Q0q (X1k (valW a.w) (valW b.w) p)⟩
theorem v1z (a b:Nm) (p:Nat) (st:Q0e) (ha:Q0r a=true) (hb:Q0r b=true) (hp:p≤256) (h0:0<valW b.w) (h1:valW b.w<4294967296):
 PCalls Tryz.prog 205 [.agg (encN a),.agg (encN b),.sc (.int .i64 p)] st (fun r st'=>r= .agg (encN (Z2x a b p))∧st'=st):=by
 have ba:=Z0z ha
 have bb:=Z0z hb
 have la:=ba.1
 have lb:=bb.1
 have hba:=V0t a.w
 have hbb:=V0t b.w
 have mb:Q0g (valW b.w)≤32:=bitlen_le_iff.2 (by omega)
 have hB:X0h b.w=Q0g (valW b.w):=rfl
 have hA:X0h a.w=Q0g (valW a.w):=rfl
 have ml:G0g (valW a.w) (valW b.w) p=p+2+X0h b.w-X0h a.w:=rfl
 have ml2:=j1j (a:=valW a.w) (b:=valW b.w) mb hp
 have e1:IntKind.i64.wrap ((p:Int)+2)=((p+2:Nat):Int):=by rw [Q0k _ (by omega) (by omega)];omega
 have e2:IntKind.i64.wrap (((p+2:Nat):Int)+(X0h b.w:Int))=((p+2+X0h b.w:Nat):Int):=by rw [Q0k _ (by omega) (by omega)];omega
 have e3:IntKind.i64.wrap (((p+2+X0h b.w:Nat):Int)-(X0h a.w:Int))=((p+2+X0h b.w:Nat):Int)-(X0h a.w:Int):=Q0k _ (by omega) (by omega)
 have mx:(if 0>((p+2+X0h b.w:Nat):Int)-(X0h a.w:Int) then 0 else((p+2+X0h b.w:Nat):Int)-(X0h a.w:Int))=((G0g (valW a.w) (valW b.w) p:Nat):Int):=by
  rw [ml];split<;>omega
 generalize hs:G0g (valW a.w) (valW b.w) p=s at*
 refine Q0b none Tryz.func205 rfl fun E=>Q0a ?_
 simp -dsimp only [go_sem]
 refine Q0p Z0g 56 (.step 0 [] (.step 1 [] (.step 2 [] (.step 3 [] (.step 6 [] (.step 7 [] (.step 4 [7] (.step 5 [] (.step 8 [] (.step 9 [] (.step 10 [] (.step 11 [] (.done))))))))))))) (by decide+kernel) (by simp) ?_
 simp -dsimp only [go_sem]
 refine(Y0r b.w _ (by omega)).mono ?_
 rintro r st ⟨rfl,rfl⟩
 simp -dsimp only [go_sem]
 refine(Y0r a.w _ (by omega)).mono ?_
 rintro r st ⟨rfl,rfl⟩
 simp -dsimp only [go_sem,e1,e2,e3,mx]
 refine Q0p Z0g 56 (.step 0 [] (.step 1 [] (.step 2 [] (.step 4 [] (.step 5 [] (.step 3 [5] (.step 6 [] (.step 7 [] (.step 8 [] (.step 9 [] (.step 10 [] (.step 11 [] (.step 12 [] (.step 13 [] (.done))))))))))))))) (by decide+kernel) (by simp) ?_
 simp -dsimp only [go_sem]
 refine(up_c a.w s _ (by omega) (by omega)).mono ?_
 rintro r st ⟨rfl,rfl⟩
 simp -dsimp only [go_sem]
 have hw1:=G0q (valW a.w*2^s)
 have hw2:Q0g (valW a.w*2^s)≤4096+300:=by have:=W0y (valW a.w) s;omega
 have hw:(Q0q (valW a.w*2^s)).length≤100:=by omega
 have hq:(Q0q (valW a.w*2^s/valW b.w)).length≤100:=Nat.le_trans (V0e (Nat.div_le_self _ _)) hw
 refine(J2i (Q0q (valW a.w*2^s)) b.w _ (by omega) (by omega) h0 h1).mono ?_
 rintro r st ⟨rfl,rfl⟩
 rw [Z0a]
 simp -dsimp only [go_sem]
 refine(up_c (Q0q (valW a.w*2^s/valW b.w)) 1 _ (by omega) (by omega)).mono ?_
 rintro r st ⟨rfl,rfl⟩
 rw [Z0a,Nat.pow_one]
 have e4:IntKind.i64.wrap (a.exp-b.exp)=a.exp-b.exp:=Q0k _ (by have:=ba.2;have:=bb.2;omega) (by have:=ba.2;have:=bb.2;omega)
 have e5:IntKind.i64.wrap (a.exp-b.exp-(s:Int))=a.exp-b.exp-(s:Int):=Q0k _ (by have:=ba.2;have:=bb.2;omega) (by have:=ba.2;have:=bb.2;omega)
 have e6:IntKind.i64.wrap (a.exp-b.exp-(s:Int)-1)=a.exp-b.exp-(s:Int)-1:=Q0k _ (by have:=ba.2;have:=bb.2;omega) (by have:=ba.2;have:=bb.2;omega)
 have hlen:(Q0q (valW a.w*2^s % valW b.w)).length=0↔valW a.w*2^s % valW b.w=0:=by
  constructor
  · intro h
    have h2:=Z0a (valW a.w*2^s % valW b.w)
    rw [List.eq_nil_of_length_eq_zero h] at h2
    exact h2.symm
  · intro h;rw [h,X0o];rfl
 have hq2:valW a.w*2^s/valW b.w*2=2*(valW a.w*2^s/valW b.w):=Nat.mul_comm _ _
 have hl2:(Q0q (valW a.w*2^s/valW b.w*2)).length≤200:=by
  have:=G0q (valW a.w*2^s/valW b.w*2)
  have h2:=W0y (valW a.w*2^s/valW b.w) 1
  rw [Nat.pow_one] at h2
  have h3:=J0y (Nat.div_le_self (valW a.w*2^s) (valW b.w))
  omega
 have hqm:X1k (valW a.w) (valW b.w) p=2*(valW a.w*2^s/valW b.w)+if valW a.w*2^s % valW b.w=0 then 0 else 1:=by unfold X1k;rw [hs]
 unfold Z2x
 rw [hs,hqm]
 generalize valW a.w*2^s/valW b.w=q at*
 generalize valW a.w*2^s % valW b.w=rr at*
 by_cases hz:rr=0
 · have f1:decide (((Q0q rr).length:Int)>0)=false:=decide_eq_false (by have:=hlen.2 hz;omega)
   simp -dsimp only [go_sem,f1,e4,e5,e6]
   rw [if_pos hz,Nat.add_zero,hq2]
   rfl
 · have f1:decide (((Q0q rr).length:Int)>0)=true:=decide_eq_true (by have:=fun h=>hz (hlen.1 h);omega)
   simp -dsimp only [go_sem,f1]
   refine(V1n (Q0q (q*2)) [1] _ (by omega) (by simp)).mono ?_
   rintro r st ⟨rfl,rfl⟩
   have h1:valW [1]=1:=rfl
   rw [Z0a,h1,hq2]
   simp -dsimp only [go_sem,e4,e5,e6]
   rw [if_neg hz]
   rfl
theorem Z2w {a b:Nm} {p:Nat} (h:valW a.w≠0):ofX (Z2x a b p)=ratV (ofN a) (ofN b) p:=by
 unfold ratV
 rw [if_neg (show¬(ofN a).m=0 from h)]
 show oddV (a.neg !=b.neg) (valW (Q0q (X1k (valW a.w) (valW b.w) p))) _=_
 rw [Z0a]
 rfl
theorem G2s {a b:Nm} {p:Nat} (ha:Q0r a=true) (hb:Q0r b=true) (hp:p≤256) (h1:valW b.w<4294967296):bd 1000000 1000000 (Z2x a b p):=by
 have ba:=Z0z ha
 have bb:=Z0z hb
 have la:=ba.1
 have hba:=V0t a.w
 have hA:X0h a.w=Q0g (valW a.w):=rfl
 have mb:Q0g (valW b.w)≤32:=bitlen_le_iff.2 (by omega)
 have ml2:=j1j (a:=valW a.w) (b:=valW b.w) mb hp
 refine⟨?_,?_,?_⟩
 · show(Q0q (X1k (valW a.w) (valW b.w) p)).length≤1000000
   have h1:=G0q (X1k (valW a.w) (valW b.w) p)
   have h2:X1k (valW a.w) (valW b.w) p≤valW a.w*2^G0g (valW a.w) (valW b.w) p*2^2:=by
    unfold X1k
    have:=Nat.div_le_self (valW a.w*2^G0g (valW a.w) (valW b.w) p) (valW b.w)
    have:=Nat.mod_le (valW a.w*2^G0g (valW a.w) (valW b.w) p) (valW b.w)
    split
    · omega
    · rename_i hne
      have:valW a.w*2^G0g (valW a.w) (valW b.w) p≠0:=fun e=>by rw [e,Nat.zero_mod] at hne;exact hne rfl
      omega
   have h3:=J0y h2
   have h4:=W0y (valW a.w*2^G0g (valW a.w) (valW b.w) p) 2
   have h5:=W0y (valW a.w) (G0g (valW a.w) (valW b.w) p)
   omega
 · show -((1000000:Nat):Int)≤a.exp-b.exp-(G0g (valW a.w) (valW b.w) p:Int)-1
   have:=ba.2
   have:=bb.2
   omega
 · show a.exp-b.exp-(G0g (valW a.w) (valW b.w) p:Int)-1≤((1000000:Nat):Int)
   have:=ba.2
   have:=bb.2
   omega
theorem x1n (a b:Nm) (p:Int) (up:Bool) (st:Q0e) (ha:Q0r a=true) (hb:Q0r b=true) (hp:Z0i p=true) (h0:0<valW b.w) (h1:valW b.w<4294967296):
 PCalls Tryz.prog 137 [.agg (encN a),.agg (encN b),.sc (.int .i64 p),.sc (.bool up)] st (fun r st'=>r= .tup [.agg (encN (divN a b p up).1),.sc (.int .i64 (divN a b p up).2)]∧st'=st):=by
 have wa:=V0m ha
 have wb:=V0m hb
 unfold wN at wa wb
 obtain⟨q,rfl,hq8,hq256,hqq⟩:=H0w hp
 refine Q0b none Tryz.func137 rfl fun E=>Q0a ?_
 simp -dsimp only [go_sem]
 refine(V0h a _ (by omega)).mono ?_
 rintro r st ⟨rfl,rfl⟩
 rw [ha]
 simp -dsimp only [go_sem]
 refine(V0h b _ (by omega)).mono ?_
 rintro r st ⟨rfl,rfl⟩
 rw [hb]
 simp -dsimp only [go_sem]
 refine(Y0b _ _).mono ?_
 rintro r st ⟨rfl,rfl⟩
 rw [hp]
 have hbl:((b.w.length:Int)==0)=false:=beq_eq_false_iff_ne.2 (fun e=>by
  have:b.w= []:=List.eq_nil_of_length_eq_zero (by omega)
  rw [this,K0y] at h0;omega)
 simp -dsimp only [go_sem,hbl]
 by_cases hz:a.w= []
 · have hal:((a.w.length:Int)==0)=true:=by rw [hz];rfl
   simp -dsimp only [go_sem,hal]
   unfold divN ratV
   rw [if_pos (show(ofN a).m=0 by show valW a.w=0;rw [hz,K0y])]
   unfold Z0f
   rw [if_pos (by show Q0g 0≤_;rw [J0c];omega)]
   rfl
 · have hal:((a.w.length:Int)==0)=false:=beq_eq_false_iff_ne.2 (fun e=>hz (List.eq_nil_of_length_eq_zero (by omega)))
   have hv:valW a.w≠0:=fun e=>hz ((j0b ha).1 e)
   simp -dsimp only [go_sem,hal]
   refine(v1z a b q _ ha hb hq256 h0 h1).mono ?_
   rintro r st ⟨rfl,rfl⟩
   simp -dsimp only [go_sem]
   refine(v0n (Z2x a b q) q up _ (G2s ha hb hq256 h1) (by omega) (by omega)).mono ?_
   rintro r st ⟨rfl,rfl⟩
   rw [Z2w hv]
   simp -dsimp only [go_sem]
   unfold divN
   rw [hqq]
end Go.Pv
end
section
/-iv.Div by a number above nought. -/
set_option maxRecDepth 100000
namespace Go.Pv
open Go.Proofs
set_option maxHeartbeats 4000000 in
theorem K2n (a:Ivl) (c:Nm) (p:Int) (st:Q0e) (ha:wI a) (hc:Q0r c=true) (hpos:0<qN c) (h0:0<valW c.w) (h1:valW c.w<4294967296):
 PCalls Tryz.prog 173 [.agg (encI a),.agg (encI ⟨c,c⟩),.sc (.int .i64 p)] st (fun r st'=>r= .tup [.agg (encI (divI a c p).1),.sc (.int .i64 (divI a c p).2)]∧st'=st):=by
 have wc:=V0m hc
 have hcl:c.w.length≤10000000000000:=by unfold wN at wc;omega
 have hcc:=x0m hc
 have hs:0<sgnN c:=(H1r c).2 hpos
 have z1:decide (sgnN c≤0)=false:=decide_eq_false (by omega)
 have z2:decide (sgnN c<0)=false:=decide_eq_false (by omega)
 refine Q0b none Tryz.func173 rfl fun E=>Q0a ?_
 simp -dsimp only [go_sem]
 refine(Q1y a ⟨c,c⟩ p _ ha ⟨wc,wc⟩).mono ?_
 rintro r st ⟨rfl,rfl⟩
 rw [hcc,Bool.and_true]
 simp -dsimp only [go_sem]
 refine ck (fun h=> ?_) (fun h=> ?_)
 · simp -dsimp only [go_sem]
   rw [divI,if_neg (fun hh=>by simp [hh.1,hh.2] at h)];rfl
 · have hv:Q0m a=true∧Z0i p=true:=by simpa using h
   obtain⟨r1,r3⟩:=hv
   obtain⟨a1,a2,_⟩:=Z0n r1
   simp -dsimp only [go_sem]
   refine(W0g c _ hcl).mono ?_
   rintro r st ⟨rfl,rfl⟩
   simp -dsimp only [go_sem,z1]
   refine(W0g c _ hcl).mono ?_
   rintro r st ⟨rfl,rfl⟩
   simp -dsimp only [go_sem,z2]
   refine Q0p Z0g 84 (.step 0 [] (.step 1 [] (.step 2 [] (.step 3 [] (.alt (.step 4 [1,3] (.step 5 [1,3] (.step 6 [3] (.step 7 [] (.done))))) (.step 5 [1,3] (.step 4 [1,3] (.step 6 [3] (.step 7 [] (.done)))))))))) (by decide+kernel) (by simp) ?_
   simp -dsimp only [go_sem]
   have sa1:=J0l a1
   have sa2:=J0l a2
   have wa1:=V0m a1
   have wa2:=V0m a2
   unfold wN at wa1 wa2
   have hall:divI a c p=if (divN a.lo c p false).2=0∧(divN a.hi c p true).2=0 then(⟨(divN a.lo c p false).1,(divN a.hi c p true).1⟩,0) else(default,2):=by
    unfold divI;rw [if_pos ⟨r1,r3⟩];rfl
   have u1:(divN a.lo c p false).2=0∨(divN a.lo c p false).2=2:=J2e _
   have u2:(divN a.hi c p true).2=0∨(divN a.hi c p true).2=2:=J2e _
   have d1:=fun st=>x1n a.lo c p false st a1 hc r3 h0 h1
   have d2:=fun st=>x1n a.hi c p true st a2 hc r3 h0 h1
   generalize divN a.lo c p false=x at*
   generalize divN a.hi c p true=y at*
   obtain⟨x,ex⟩:=x
   obtain⟨y,ey⟩:=y
   simp only at u1 u2 hall d1 d2
   refine And.intro ?_ ?_
   all_goals
    refine(W0g a.lo _ (by omega)).mono ?_
    rintro r st ⟨rfl,rfl⟩
    rcases u1 with rfl | rfl
    · have g1:((0:Int) !=0)=false:=rfl
      rcases u2 with rfl | rfl
      · rw [hall,if_pos ⟨rfl,rfl⟩]
        cases q1:decide (sgnN a.lo<0)
        all_goals
         simp -dsimp only [go_sem,q1]
         refine(W0g a.hi _ (by omega)).mono ?_
         rintro r st ⟨rfl,rfl⟩
         cases q2:decide (sgnN a.hi<0)
         all_goals
          simp -dsimp only [go_sem,q2]
          refine(d1 _).mono ?_
          rintro r st ⟨rfl,rfl⟩
          simp -dsimp only [go_sem,g1]
          refine(d2 _).mono ?_
          rintro r st ⟨rfl,rfl⟩
          simp -dsimp only [go_sem,g1]
      · have g2:((2:Int) !=0)=true:=rfl
        rw [hall,if_neg (fun h=>absurd h.2 (by decide))]
        cases q1:decide (sgnN a.lo<0)
        all_goals
         simp -dsimp only [go_sem,q1]
         refine(W0g a.hi _ (by omega)).mono ?_
         rintro r st ⟨rfl,rfl⟩
         cases q2:decide (sgnN a.hi<0)
         all_goals
          simp -dsimp only [go_sem,q2]
          refine(d1 _).mono ?_
          rintro r st ⟨rfl,rfl⟩
          simp -dsimp only [go_sem,g1]
          refine(d2 _).mono ?_
          rintro r st ⟨rfl,rfl⟩
          simp -dsimp only [go_sem,g2]
          rfl
    · have g2:((2:Int) !=0)=true:=rfl
      rw [hall,if_neg (fun h=>absurd h.1 (by decide))]
      cases q1:decide (sgnN a.lo<0)
      all_goals
       simp -dsimp only [go_sem,q1]
       refine(W0g a.hi _ (by omega)).mono ?_
       rintro r st ⟨rfl,rfl⟩
       cases q2:decide (sgnN a.hi<0)
       all_goals
        simp -dsimp only [go_sem,q2]
        refine(d1 _).mono ?_
        rintro r st ⟨rfl,rfl⟩
        simp -dsimp only [go_sem,g2]
        rfl
end Go.Pv
end
