/- Parts of the walk: M62, N81, N82, N83, N84, N85, N86. -/
import Derived.Test.YtagacielooaapaaGreatDoorZY
import Derived.Test.YtagacielooaapaaGreatDoorZAB
import Derived.Test.YtagacielooaapaaGreatDoorZF
import Derived.Test.YtagacielooaapaaGreatDoorZL
import Derived.Test.YtagacielooaapaaGreatDoorZAD
import Derived.Test.YtagacielooaapaaGreatDoorZBE
import Derived.Test.YtagacielooaapaaGreatDoorZAE
import Derived.Test.YtagacielooaapaaGreatDoorZG
import Derived.Test.YtagacielooaapaaGreatDoorZAF
set_option linter.unusedVariables false
set_option linter.unusedSimpArgs false
section
/-Quotients,with a bit more that says whether something was left. No program in it. -/
namespace Go.Pv
def J0y (a b:Nat) (p:Nat):Nat:=p+2+Q0f b-Q0f a
def Y0n (a b:Nat) (p:Nat):Nat:=2*(a*2^J0y a b p/b)+if a*2^J0y a b p % b=0 then 0 else 1
def ratV (a b:Vl) (p:Nat):Vl:=if a.m=0 then⟨false,0,0⟩ else oddV (a.neg !=b.neg) (Y0n a.m b.m p) (a.e-b.e-(J0y a.m b.m p:Int)-1)
theorem j0r (a b:Vl) (p:Nat):canV (ratV a b p):=by
 unfold ratV
 split
 · exact .inr rfl
 · exact H0o _ _ _
def divI (a:Ivl) (c:Nm) (p:Int):Ivl×Int:=
 if Q0i a=true∧Z0b p=true then Y0f (Q0r (ratV (ofN a.lo) (ofN c) p.toNat) p.toNat false) (Q0r (ratV (ofN a.hi) (ofN c) p.toNat) p.toNat true) else(default,1)
def divN (a b:Nm) (p:Int) (up:Bool):Nm×Int:=numV (Q0r (ratV (ofN a) (ofN b) p.toNat) p.toNat up)
theorem X2f {a b p:Nat} (hb:Q0f b≤32) (hp:p≤256):J0y a b p≤300:=by unfold J0y;omega
end Go.Pv
end
section
/-math/bits.LeadingZeros64;Div64 by what has half a word. -/
set_option maxRecDepth 100000
namespace Go.Pv
open Go.Proofs
theorem z3x (v:Nat) (hv:v<18446744073709551616) (st:Q0g):PCalls Tryz.prog 267 [.sc (.int .u64 v)] st (fun r st'=>r= .sc (.int .i64 ((64-Q0f v:Nat):Int))∧st'=st):=by
 refine Q0b none Tryz.func267 rfl fun E=>Q0a ?_
 simp -dsimp only [go_sem]
 refine(q2a v hv st).mono ?_
 rintro r st ⟨rfl,rfl⟩
 have hb:Q0f v≤64:=bitlen_le_iff.2 (by omega)
 have e:IntKind.i64.wrap (64-(Q0f v:Int))=((64-Q0f v:Nat):Int):=by rw [Q0h _ (by omega) (by omega)];omega
 simp -dsimp only [go_sem,e]
theorem Y3r (hi lo d s s' y y1 a b u32 u10 u1 u0 q1 p1 r1 A B p2 u21 q0 p3 r0 C D E1 F G Q R:Nat) (st:Q0g) (hd:d<18446744073709551616) (hhi:0<hi)
 (f1:((d:Int)==0)=false) (f2:decide ((d:Int)≤(hi:Int))=false) (f3:((hi:Int)==0)=false)
 (n1:IntKind.u64.wrap ((64-Q0f d:Nat):Int)=(s:Int)) (n2:bShl .u64 (d:Int) (s:Int)=(y:Int)) (n3:bShr .u64 (y:Int) 32=(y1:Int)) (n4:bAnd .u64 (y:Int) 4294967295=0)
 (n5:bShl .u64 (hi:Int) (s:Int)=(a:Int)) (n6:IntKind.u64.wrap (64-(s:Int))=(s':Int)) (n7:bShr .u64 (lo:Int) (s':Int)=(b:Int)) (n8:bOr .u64 (a:Int) (b:Int)=(u32:Int))
 (n9:bShl .u64 (lo:Int) (s:Int)=(u10:Int)) (n10:bShr .u64 (u10:Int) 32=(u1:Int)) (n11:bAnd .u64 (u10:Int) 4294967295=(u0:Int)) (n12:((y1:Int) !=0)=true)
 (n13:IntKind.u64.wrap ((u32:Int).tdiv (y1:Int))=(q1:Int)) (n14:IntKind.u64.wrap ((q1:Int)*(y1:Int))=(p1:Int)) (n15:IntKind.u64.wrap ((u32:Int)-(p1:Int))=(r1:Int))
 (c1:decide ((q1:Int)≥4294967296)=false) (c2:decide (IntKind.u64.wrap ((q1:Int)*0)>IntKind.u64.wrap (IntKind.u64.wrap (4294967296*(r1:Int))+(u1:Int)))=false)
 (n16:IntKind.u64.wrap ((u32:Int)*4294967296)=(A:Int)) (n17:IntKind.u64.wrap ((A:Int)+(u1:Int))=(B:Int)) (n18:IntKind.u64.wrap ((q1:Int)*(y:Int))=(p2:Int)) (n19:IntKind.u64.wrap ((B:Int)-(p2:Int))=(u21:Int))
 (n20:IntKind.u64.wrap ((u21:Int).tdiv (y1:Int))=(q0:Int)) (n21:IntKind.u64.wrap ((q0:Int)*(y1:Int))=(p3:Int)) (n22:IntKind.u64.wrap ((u21:Int)-(p3:Int))=(r0:Int))
 (c3:decide ((q0:Int)≥4294967296)=false) (c4:decide (IntKind.u64.wrap ((q0:Int)*0)>IntKind.u64.wrap (IntKind.u64.wrap (4294967296*(r0:Int))+(u0:Int)))=false)
 (n23:IntKind.u64.wrap ((q1:Int)*4294967296)=(C:Int)) (n24:IntKind.u64.wrap ((C:Int)+(q0:Int))=(Q:Int)) (n25:IntKind.u64.wrap ((u21:Int)*4294967296)=(D:Int)) (n26:IntKind.u64.wrap ((D:Int)+(u0:Int))=(E1:Int))
 (n27:IntKind.u64.wrap ((q0:Int)*(y:Int))=(F:Int)) (n28:IntKind.u64.wrap ((E1:Int)-(F:Int))=(G:Int)) (n29:bShr .u64 (G:Int) (s:Int)=(R:Int)):PCalls Tryz.prog 266 [.sc (.int .u64 hi),.sc (.int .u64 lo),.sc (.int .u64 d)] st
 (fun r st'=>r= .tup [.sc (.int .u64 Q),.sc (.int .u64 R)]∧st'=st):=by
 refine Q0b none Tryz.func266 rfl fun E=>Q0a ?_
 simp -dsimp only [go_sem,f1,f2,f3]
 refine(z3x d hd st).mono ?_
 rintro r st ⟨rfl,rfl⟩
 simp -dsimp only [go_sem,n1,n2,n3,n4,n5,n6,n7,n8,n9,n10,n11,n12,n13,n14,n15]
 refine⟨by omega,by omega,by omega,by omega,?_⟩
 refine Q0e [false,false,true,false,false,false,false,false,true,true,true,true,false,true,true,true,true] 0 0 (fun m s'=>s'=⟨[.junk,.junk,.sc (.int .u64 y),.junk,.junk,.junk,.junk,.junk,.sc (.int .u64 s),.sc (.int .u64 y1),.sc (.int .u64 0),.sc (.int .u64 u32),.junk,.sc (.int .u64 u1),.sc (.int .u64 u0),.sc (.int .u64 q1),.sc (.int .u64 r1)]++List.replicate 118 .junk,[],[],st⟩) 0 ?_ ?_
 · simp -dsimp only [go_sem]
 rintro m s' rfl
 simp -dsimp only [go_sem,c1,c2]
 refine Q0a ?_
 simp -dsimp only [go_sem,n16,n17,n18,n19,n20,n21,n22,n12]
 refine Q0e [false,false,true,false,false,false,false,false,true,true,true,false,false,false,true,true,true,true,true] 0 0 (fun m s'=>s'=⟨[.junk,.junk,.sc (.int .u64 y),.junk,.junk,.junk,.junk,.junk,.sc (.int .u64 s),.sc (.int .u64 y1),.sc (.int .u64 0),.junk,.junk,.junk,.sc (.int .u64 u0),.sc (.int .u64 q1),.sc (.int .u64 r0),.sc (.int .u64 u21),.sc (.int .u64 q0)]++List.replicate 116 .junk,[],[],st⟩) 0 ?_ ?_
 · simp -dsimp only [go_sem]
 rintro m s' rfl
 simp -dsimp only [go_sem,c3,c4]
 refine Q0a ?_
 simp -dsimp only [go_sem,n23,n24,n25,n26,n27,n28,n29]
 omega
theorem z0r (x:Int):IntKind.u64.wrap x=x % 18446744073709551616:=by
 simp [IntKind.wrap,IntKind.bits,IntKind.signed]
theorem W2m (hi lo d k P y y1 b u32 u10 u1 u0 q1 r1 u21 q0 r0:Nat) (hd:0<d) (hh:hi<d) (hy:y=d*P) (hP:P=4294967296*k) (h1:y1=d*k) (hk:0<k) (hyl:y<18446744073709551616)
 (hb:lo*P=u10+18446744073709551616*b) (hbl:b<P) (h3:u32=hi*P+b) (h4:u10=u0+4294967296*u1) (h5:u0<4294967296) (h6:u1<4294967296) (h7:u32=y1*q1+r1) (h8:r1<y1) (h9:u21=r1*4294967296+u1) (h10:u21=y1*q0+r0) (h11:r0<y1):
 y=4294967296*y1∧u32<y∧q1<4294967296∧u21<y∧q0<4294967296∧r0*4294967296+u0<y∧q1*4294967296+q0=(hi*18446744073709551616+lo)/d∧r0*4294967296+u0=(hi*18446744073709551616+lo) % d*P:=by
 have e1:y=4294967296*y1:=by rw [hy,hP,h1];grind
 have e2:hi*P+P≤y:=by
  have:(hi+1)*P≤d*P:=Nat.mul_le_mul_right _ hh
  rw [Nat.add_mul,Nat.one_mul] at this
  omega
 have e3:u32<y:=by omega
 have lt_of: ∀q r u:Nat,u=y1*q+r→u<4294967296*y1→q<4294967296:=fun q r u hu hlt=>by
  apply Nat.lt_of_not_le
  intro hle
  have:=Nat.mul_le_mul_left y1 hle
  omega
 have e4:q1<4294967296:=lt_of q1 r1 u32 h7 (by omega)
 have e5:u21<y:=by omega
 have e6:q0<4294967296:=lt_of q0 r0 u21 h10 (by omega)
 have e7:r0*4294967296+u0<y:=by omega
 have e8:(hi*18446744073709551616+lo)*P=y*(q1*4294967296+q0)+(r0*4294967296+u0):=by
  have a1:(hi*18446744073709551616+lo)*P=18446744073709551616*(hi*P)+lo*P:=by grind
  have a2:y*(q1*4294967296+q0)=18446744073709551616*(y1*q1)+4294967296*(y1*q0):=by rw [e1];grind
  rw [a1,a2,hb]
  generalize y1*q1=A at*
  generalize y1*q0=B at*
  generalize hi*P=C at*
  omega
 have hPp:0<P:=by omega
 have hdP:0<d*P:=Nat.mul_pos hd hPp
 refine⟨e1,e3,e4,e5,e6,e7,?_,?_⟩
 · have:=Nat.mul_div_mul_right (hi*18446744073709551616+lo) d hPp
   rw [←this,e8,←hy]
   rw [Nat.mul_add_div (by omega),Nat.div_eq_of_lt e7,Nat.add_zero]
 · have:=Nat.mul_mod_mul_right P (hi*18446744073709551616+lo) d
   rw [←this,e8,←hy,Nat.mul_add_mod,Nat.mod_eq_of_lt e7]
set_option maxHeartbeats 4000000 in
theorem Y3s (hi lo d:Nat) (st:Q0g) (hd:0<d) (hd2:d<4294967296) (hh:hi<d) (hlo:lo<18446744073709551616):PCalls Tryz.prog 266 [.sc (.int .u64 hi),.sc (.int .u64 lo),.sc (.int .u64 d)] st
 (fun r st'=>r= .tup [.sc (.int .u64 (((hi*18446744073709551616+lo)/d:Nat):Int)),.sc (.int .u64 (((hi*18446744073709551616+lo) % d:Nat):Int))]∧st'=st):=by
 have f1:((d:Int)==0)=false:=beq_eq_false_iff_ne.2 (by omega)
 have f2:decide ((d:Int)≤(hi:Int))=false:=decide_eq_false (by omega)
 by_cases h0:hi=0
 · subst h0
   have f3:(((0:Nat):Int)==0)=true:=rfl
   have f4:((d:Int) !=0)=true:=by simp;omega
   refine Q0b none Tryz.func266 rfl fun E=>Q0a ?_
   simp -dsimp only [go_sem,f1,f2,f3]
   refine Q0l Z0k 135 (.step 0 [] (.step 1 [] (.step 2 [] (.step 3 [] (.step 4 [] (.step 5 [] (.step 6 [] (.step 7 [] (.done))))))))) (by decide+kernel) (by simp) ?_
   have hq:lo/d<18446744073709551616:=Nat.lt_of_le_of_lt (Nat.div_le_self _ _) hlo
   simp -dsimp only [go_sem,f4]
   rw [H0e,H0c,J0j,Nat.mod_eq_of_lt hq]
 · have f3:((hi:Int)==0)=false:=beq_eq_false_iff_ne.2 (by omega)
   have hb32:Q0f d≤32:=bitlen_le_iff.2 (by omega)
   have hb0:0<Q0f d:=q0r (by omega)
   obtain⟨j,hj⟩: ∃j,64-Q0f d=32+j:=⟨32-Q0f d,by omega⟩
   have hj32:j<32:=by omega
   have hyl:d*2^(32+j)<18446744073709551616:=by
    have h1:=Q0z d
    have h2:2^Q0f d*2^(32+j)=18446744073709551616:=by rw [←Nat.pow_add,show Q0f d+(32+j)=64 by omega]
    rw [←h2]
    exact Nat.mul_lt_mul_of_pos_right h1 (Nat.two_pow_pos _)
   have hPk:2^(32+j)=4294967296*2^j:=by rw [Nat.pow_add]
   have hk:=Nat.two_pow_pos j
   have hsp:=z1d lo (32+j) hlo (by omega)
   have hbl:=Z3l lo (32+j) hlo (by omega)
   have hu10:=Nat.mod_lt (lo*2^(32+j)) (show 0<18446744073709551616 by decide)
   generalize hu:lo*2^(32+j) % 18446744073709551616=u10 at*
   generalize hbb:lo/2^(64-(32+j))=b at*
   have hy1:0<d*2^j:=Nat.mul_pos hd hk
   obtain⟨m1,m2,m3,m4,m5,m6,m7,m8⟩:=W2m hi lo d (2^j) (2^(32+j)) (d*2^(32+j)) (d*2^j) b (hi*2^(32+j)+b) u10 (u10/4294967296) (u10 % 4294967296)
    ((hi*2^(32+j)+b)/(d*2^j)) ((hi*2^(32+j)+b) % (d*2^j)) ((hi*2^(32+j)+b) % (d*2^j)*4294967296+u10/4294967296)
    (((hi*2^(32+j)+b) % (d*2^j)*4294967296+u10/4294967296)/(d*2^j)) (((hi*2^(32+j)+b) % (d*2^j)*4294967296+u10/4294967296) % (d*2^j))
    hd hh rfl hPk rfl hk hyl hsp hbl rfl (by omega) (by omega) (by omega) (Nat.div_add_mod _ _).symm (Nat.mod_lt _ hy1) rfl (Nat.div_add_mod _ _).symm (Nat.mod_lt _ hy1)
   obtain⟨NN,hNN⟩: ∃NN,NN=hi*18446744073709551616+lo:=⟨_,rfl⟩
   rw [←hNN] at m7 m8⊢
   clear hNN
   have hiP:hi*2^(32+j)<18446744073709551616:=by omega
   have hhmod:hi*2^(32+j) % 2^(32+j)=0:=Nat.mul_mod_left _ _
   have dm1:=Nat.div_add_mod (hi*2^(32+j)+b) (d*2^j)
   have ml1:=Nat.mod_lt (hi*2^(32+j)+b) hy1
   generalize hy':d*2^(32+j)=y at*
   generalize hy1':d*2^j=y1 at*
   have hor:hi*2^(32+j)|||b=hi*2^(32+j)+b:=by rw [Nat.or_comm,K1r _ _ _ hbl hhmod,Nat.add_comm]
   have sh1:bShl .u64 (hi:Int) ((32+j:Nat):Int)=((hi*2^(32+j):Nat):Int):=by rw [H0p _ _ (by omega),Nat.mod_eq_of_lt hiP]
   have sh2:bShl .u64 (lo:Int) ((32+j:Nat):Int)=(u10:Int):=by rw [H0p _ _ (by omega),hu]
   have sh3:bShl .u64 (d:Int) ((32+j:Nat):Int)=(y:Int):=by rw [H0p _ _ (by omega),hy',Nat.mod_eq_of_lt hyl]
   have sh4:bShr .u64 (lo:Int) ((64-(32+j):Nat):Int)=(b:Int):=by rw [V0u _ _ (by omega),hbb]
   generalize hi*2^(32+j)=a at*
   generalize hq1:(a+b)/y1=q1 at*
   generalize hr1:(a+b) % y1=r1 at*
   have dm2:=Nat.div_add_mod (r1*4294967296+u10/4294967296) y1
   have ml2:=Nat.mod_lt (r1*4294967296+u10/4294967296) hy1
   generalize hq0:(r1*4294967296+u10/4294967296)/y1=q0 at*
   generalize hr0:(r1*4294967296+u10/4294967296) % y1=r0 at*
   have hPG:bShr .u64 ((r0*4294967296+u10 % 4294967296:Nat):Int) ((32+j:Nat):Int)=((NN % d:Nat):Int):=by
    rw [V0u _ _ (by omega),m8,Nat.mul_div_cancel _ (Nat.two_pow_pos _)]
   rw [←m7]
   have c11:y1*q1=q1*y1:=Nat.mul_comm _ _
   have c12:y1*q0=q0*y1:=Nat.mul_comm _ _
   have c13:q1*y=4294967296*(q1*y1):=by rw [m1];grind
   have c14:q0*y=4294967296*(q0*y1):=by rw [m1];grind
   rw [c11] at dm1
   rw [c12] at dm2
   generalize hqy1:q1*y1=w1 at*
   generalize hqy0:q0*y1=w0 at*
   generalize hu1:u10/4294967296=u1 at*
   generalize hu0:u10 % 4294967296=u0 at*
   have hu0l:u0<4294967296:=by omega
   have hu1l:u1<4294967296:=by omega
   have g1:IntKind.u64.wrap ((64-Q0f d:Nat):Int)=((32+j:Nat):Int):=by rw [hj,J0j,Nat.mod_eq_of_lt (by omega)]
   have g3:bShr .u64 (y:Int) 32=(y1:Int):=by rw [J1r];congr 1;omega
   have g4:bAnd .u64 (y:Int) 4294967295=0:=by rw [y0p y hyl];have:y % 4294967296=0:=by omega
                                              rw [this];rfl
   have g6:IntKind.u64.wrap (64-((32+j:Nat):Int))=((64-(32+j):Nat):Int):=by rw [z0r];omega
   have g8:bOr .u64 (a:Int) (b:Int)=((a+b:Nat):Int):=by rw [W1n _ _ (by omega) (by omega),hor]
   have g10:bShr .u64 (u10:Int) 32=(u1:Int):=by rw [J1r,hu1]
   have g11:bAnd .u64 (u10:Int) 4294967295=(u0:Int):=by rw [y0p _ (by omega),hu0]
   have g12:((y1:Int) !=0)=true:=by simp;omega
   have g13:IntKind.u64.wrap (((a+b:Nat):Int).tdiv (y1:Int))=(q1:Int):=by rw [H0e,hq1,J0j,Nat.mod_eq_of_lt (by omega)]
   have g14:IntKind.u64.wrap ((q1:Int)*(y1:Int))=(w1:Int):=by rw [←Int.natCast_mul,hqy1,J0j,Nat.mod_eq_of_lt (by omega)]
   have g15:IntKind.u64.wrap (((a+b:Nat):Int)-(w1:Int))=(r1:Int):=by rw [z0r];omega
   have k1:decide ((q1:Int)≥4294967296)=false:=decide_eq_false (by omega)
   have k2:decide (IntKind.u64.wrap ((q1:Int)*0)>IntKind.u64.wrap (IntKind.u64.wrap (4294967296*(r1:Int))+(u1:Int)))=false:=decide_eq_false (by rw [Int.mul_zero,z0r,z0r,z0r];omega)
   obtain⟨A,hA⟩: ∃A,A=(a+b)*4294967296 % 18446744073709551616:=⟨_,rfl⟩
   obtain⟨B,hB⟩: ∃B,B=((a+b)*4294967296+u1) % 18446744073709551616:=⟨_,rfl⟩
   obtain⟨p2,hp2⟩: ∃p2,p2=q1*y % 18446744073709551616:=⟨_,rfl⟩
   obtain⟨u21,hu21⟩: ∃u21,u21=r1*4294967296+u1:=⟨_,rfl⟩
   obtain⟨D,hD⟩: ∃D,D=u21*4294967296 % 18446744073709551616:=⟨_,rfl⟩
   obtain⟨E1,hE1⟩: ∃E1,E1=(u21*4294967296+u0) % 18446744073709551616:=⟨_,rfl⟩
   obtain⟨F,hF⟩: ∃F,F=q0*y % 18446744073709551616:=⟨_,rfl⟩
   obtain⟨G,hG⟩: ∃G,G=r0*4294967296+u0:=⟨_,rfl⟩
   rw [←hu21] at dm2 hq0 hr0 m4
   rw [←hG] at hPG m6
   have g16:IntKind.u64.wrap (((a+b:Nat):Int)*4294967296)=(A:Int):=by rw [z0r];omega
   have g17:IntKind.u64.wrap ((A:Int)+(u1:Int))=(B:Int):=by rw [z0r];omega
   have g18:IntKind.u64.wrap ((q1:Int)*(y:Int))=(p2:Int):=by rw [←Int.natCast_mul,J0j,hp2]
   have g19:IntKind.u64.wrap ((B:Int)-(p2:Int))=(u21:Int):=by rw [z0r];omega
   have g20:IntKind.u64.wrap ((u21:Int).tdiv (y1:Int))=(q0:Int):=by rw [H0e,hq0,J0j,Nat.mod_eq_of_lt (by omega)]
   have g21:IntKind.u64.wrap ((q0:Int)*(y1:Int))=(w0:Int):=by rw [←Int.natCast_mul,hqy0,J0j,Nat.mod_eq_of_lt (by omega)]
   have g22:IntKind.u64.wrap ((u21:Int)-(w0:Int))=(r0:Int):=by rw [z0r];omega
   have k3:decide ((q0:Int)≥4294967296)=false:=decide_eq_false (by omega)
   have k4:decide (IntKind.u64.wrap ((q0:Int)*0)>IntKind.u64.wrap (IntKind.u64.wrap (4294967296*(r0:Int))+(u0:Int)))=false:=decide_eq_false (by rw [Int.mul_zero,z0r,z0r,z0r];omega)
   obtain⟨C,hC⟩: ∃C,C=q1*4294967296:=⟨_,rfl⟩
   have g23:IntKind.u64.wrap ((q1:Int)*4294967296)=(C:Int):=by rw [z0r];omega
   have g24:IntKind.u64.wrap ((C:Int)+(q0:Int))=((q1*4294967296+q0:Nat):Int):=by rw [z0r];omega
   have g25:IntKind.u64.wrap ((u21:Int)*4294967296)=(D:Int):=by rw [z0r];omega
   have g26:IntKind.u64.wrap ((D:Int)+(u0:Int))=(E1:Int):=by rw [z0r];omega
   have g27:IntKind.u64.wrap ((q0:Int)*(y:Int))=(F:Int):=by rw [←Int.natCast_mul,J0j,hF]
   have g28:IntKind.u64.wrap ((E1:Int)-(F:Int))=(G:Int):=by rw [z0r];omega
   exact Y3r hi lo d (32+j) (64-(32+j)) y y1 a b (a+b) u10 u1 u0 q1 w1 r1 A B p2 u21 q0 w0 r0 C D E1 F G (q1*4294967296+q0) (NN % d) st (by omega) (by omega) f1 f2 f3 g1 sh3 g3 g4 sh1 g6 sh4 g8 sh2 g10 g11 g12 g13 g14 g15 k1 k2 g16 g17 g18 g19 g20 g21 g22 k3 k4 g23 g24 g25 g26 g27 g28 hPG
end Go.Pv
end
section
/-nat.byWord,nat.Div by what has half a word. -/
set_option maxRecDepth 100000
namespace Go.Pv
open Go.Proofs
theorem Q2c (a:List UInt64) (d k:Nat) (hd:0<d) (h0:0<k):
 valW (a.drop (k-1))/d=(valW (a.drop k) % d*18446744073709551616+(a.getD (k-1) 0).toNat)/d+18446744073709551616*(valW (a.drop k)/d)∧
 valW (a.drop (k-1)) % d=(valW (a.drop k) % d*18446744073709551616+(a.getD (k-1) 0).toNat) % d:=by
 have h:=j0c a (k-1)
 rw [show k-1+1=k by omega] at h
 have e:valW (a.drop (k-1))=d*(18446744073709551616*(valW (a.drop k)/d))+(valW (a.drop k) % d*18446744073709551616+(a.getD (k-1) 0).toNat):=by
  rw [h]
  have:=Nat.div_add_mod (valW (a.drop k)) d
  generalize valW (a.drop k)/d=q at*
  generalize valW (a.drop k) % d=r at*
  rw [←this]
  grind
 rw [e]
 refine⟨?_,?_⟩
 · rw [Nat.mul_add_div hd,Nat.add_comm]
 · rw [Nat.mul_add_mod]
theorem x2e {r d x:Nat} (hr:r<d) (hx:x<18446744073709551616):(r*18446744073709551616+x)/d<18446744073709551616:=by
 rw [Nat.div_lt_iff_lt_mul (by omega)]
 have:(r+1)*18446744073709551616≤d*18446744073709551616:=Nat.mul_le_mul_right _ hr
 rw [Nat.mul_comm 18446744073709551616 d]
 omega
theorem Q3l (a:List UInt64) (d:Nat) (st:Q0g) (ha:a.length≤1000000000000) (hd:0<d) (hd2:d<4294967296):PCalls Tryz.prog 259 [.sl .no (encW a),.sc (.int .u64 d)] st
 (fun r st'=>r= .tup [.sl .no (encW (Q0m (valW a/d))),.sc (.int .u64 ((valW a % d:Nat):Int))]∧st'=st):=by
 refine Q0b none Tryz.func259 rfl fun E=>Q0a ?_
 have e1:IntKind.i64.wrap ((a.length:Int)-1)=(a.length:Int)-1:=Q0h _ (by omega) (by omega)
 simp -dsimp only [go_sem,e1]
 refine⟨by omega,?_⟩
 refine Q0e [true,true,false,false,false,false,true,true,true] 1 0
  (fun m s'=> ∃(k:Nat) (o:List UInt64) (r:Nat),k=m∧k≤a.length∧o.length=a.length∧valW (o.drop k)=valW (a.drop k)/d∧r=valW (a.drop k) % d∧
   s'=⟨[.sl .no (encW a),.sc (.int .u64 d),.junk,.junk,.junk,.junk,.ms false 0 0 a.length,.sc (.int .u64 (r:Nat)),.sc (.int .i64 ((k:Int)-1))]++List.replicate 26 .junk,[encW o],[],st⟩) a.length ?_ ?_
 · simp -dsimp only [go_sem]
   refine⟨a.length,List.replicate a.length 0,0,rfl,Nat.le_refl _,by simp,?_,?_,rfl⟩
   · rw [List.drop_of_length_le (by simp),List.drop_of_length_le (Nat.le_refl _)];simp [V0s]
   · rw [List.drop_of_length_le (Nat.le_refl _)];simp [V0s]
 · rintro m s' ⟨k,o,r,rfl,hk,ho,hv,hr,rfl⟩
   simp -dsimp only [go_sem]
   refine ck (fun h=> ?_) (fun h=> ?_)
   · have h0:0<k:=by have:=of_decide_eq_true h;omega
     have e2:(k:Int)-1=((k-1:Nat):Int):=by omega
     have g1:=Z0i a (k-1) (by omega)
     have hrd:r<d:=by rw [hr];exact Nat.mod_lt _ hd
     have hx:(a.getD (k-1) 0).toNat<18446744073709551616:=UInt64.toNat_lt _
     have hq:=x2e hrd hx
     obtain⟨s1,s2⟩:=Q2c a d k hd h0
     rw [←hr] at s1 s2
     simp -dsimp only [go_sem,e2,g1]
     refine⟨⟨by omega,by omega⟩,?_⟩
     refine(Y3s r (a.getD (k-1) 0).toNat d st hd hd2 hrd hx).mono ?_
     rintro rr st ⟨rfl,rfl⟩
     have e3:((((r*18446744073709551616+(a.getD (k-1) 0).toNat)/d:Nat):Int))=(((UInt64.ofNat ((r*18446744073709551616+(a.getD (k-1) 0).toNat)/d)).toNat:Nat):Int):=by rw [Z0s _ hq]
     have o1:=W0s o (k-1) (UInt64.ofNat ((r*18446744073709551616+(a.getD (k-1) 0).toNat)/d)) (by omega)
     have e4:IntKind.i64.wrap (((k-1:Nat):Int)-1)=((k-1:Nat):Int)-1:=Q0h _ (by omega) (by omega)
     simp -dsimp only [go_sem,e3,o1,e4]
     refine⟨⟨by omega,by omega⟩,by omega,k-1,by omega,k-1,_,_,rfl,by omega,by rw [List.length_set];exact ho,?_,s2.symm,rfl⟩
     have hd1:=j0c (o.set (k-1) (UInt64.ofNat ((r*18446744073709551616+(a.getD (k-1) 0).toNat)/d))) (k-1)
     rw [hd1,K0e,if_pos (by omega),Z0s _ hq,show k-1+1=k by omega,List.drop_set_of_lt (by omega),hv,s1]
   · have hge:k=0:=by have:=of_decide_eq_false h;omega
     subst hge
     have ht:o.take a.length=o:=List.take_of_length_le (by omega)
     have hle:a.length≤o.length:=by omega
     rw [List.drop_zero,List.drop_zero] at hv
     rw [List.drop_zero] at hr
     simp -dsimp only [go_sem]
     refine X0z 0 ?_ ?_
     · simp -dsimp only [go_sem]
     refine Q0a ?_
     simp -dsimp only [go_sem,ht,hle]
     refine(Y0z o st (by omega)).mono ?_
     rintro rr st ⟨rfl,rfl⟩
     simp -dsimp only [go_sem]
     rw [←Q0u o,hv,hr]
theorem k1z {d:Nat} (h0:0<d) (h:d<18446744073709551616):Q0m d= [UInt64.ofNat d]:=by
 unfold Q0m
 rw [digs,dif_neg (by omega),Nat.mod_eq_of_lt h,Nat.div_eq_of_lt h,V0a]
 rfl
theorem H2e (a b:List UInt64) (st:Q0g) (ha:a.length≤1000000000000) (hb:b.length≤1000000000000) (hd:0<valW b) (hd2:valW b<4294967296):PCalls Tryz.prog 243 [.sl .no (encW a),.sl .no (encW b)] st
 (fun r st'=>r= .tup [.sl .no (encW (Q0m (valW a/valW b))),.sl .no (encW (Q0m (valW a % valW b))),.sc (.bool true)]∧st'=st):=by
 refine Q0b none Tryz.func243 rfl fun E=>Q0a ?_
 simp -dsimp only [go_sem]
 refine(Y0z a st (by omega)).mono ?_
 rintro r st ⟨rfl,rfl⟩
 simp -dsimp only [go_sem]
 refine(Y0z b st (by omega)).mono ?_
 rintro r st ⟨rfl,rfl⟩
 have la:=V0i a
 have hcb:cutW b= [UInt64.ofNat (valW b)]:=by rw [←Q0u,k1z hd (by omega)]
 have hvb:=V0c b
 rw [←V0c a]
 generalize cutW a=a at*
 rw [hcb] at hvb⊢
 have f1:(((1:Nat):Int)==0)=false:=rfl
 have f1':((1:Int)==0)=false:=rfl
 have f2:(((1:Nat):Int)==1)=true:=rfl
 have hl1:(encW [UInt64.ofNat (valW b)]).length=1:=rfl
 simp -dsimp only [go_sem,f1,f1',hl1]
 refine(X1w a [UInt64.ofNat (valW b)] st (by omega) (by simp)).mono ?_
 rintro r st ⟨rfl,rfl⟩
 rw [hvb]
 by_cases hlt:valW a<valW b
 · have h2:decide (cmpW (valW a) (valW b)<0)=true:=decide_eq_true (by unfold cmpW cmpI;split<;>(try split)<;>omega)
   simp -dsimp only [go_sem,h2]
   refine((v1j a st (by omega)).plain).mono ?_
   rintro r st ⟨rfl,rfl⟩
   simp -dsimp only [go_sem]
   rw [Nat.div_eq_of_lt hlt,Nat.mod_eq_of_lt hlt,X0u,←Q0u a]
   rfl
 · have h2:decide (cmpW (valW a) (valW b)<0)=false:=decide_eq_false (by unfold cmpW cmpI;split<;>(try split)<;>omega)
   have g0:(encW [UInt64.ofNat (valW b)]).getD 0 .junk= .sc (.int .u64 ((valW b:Nat):Int)):=by
    show PV.sc (.int .u64 (((UInt64.ofNat (valW b)).toNat:Nat):Int))=_
    rw [Z0s _ (by omega)]
   simp -dsimp only [go_sem,h2,f2,hl1,g0]
   refine(Q3l a (valW b) st (by omega) hd hd2).mono ?_
   rintro r st ⟨rfl,rfl⟩
   have hm:=Nat.mod_lt (valW a) hd
   have g2:PV.sc (.int .u64 ((valW a % valW b:Nat):Int))=PV.sc (.int .u64 (((UInt64.ofNat (valW a % valW b)).toNat:Nat):Int)):=by rw [Z0s _ (by omega)]
   rw [g2]
   simp -dsimp only [go_sem]
   refine(Y0z [UInt64.ofNat (valW a % valW b)] st (by simp)).mono ?_
   rintro r st ⟨rfl,rfl⟩
   simp -dsimp only [go_sem]
   have hw:valW [UInt64.ofNat (valW a % valW b)]=valW a % valW b:=by
    show(UInt64.ofNat (valW a % valW b)).toNat+18446744073709551616*0=_
    rw [Z0s _ (by omega),Nat.mul_zero,Nat.add_zero]
   rw [←Q0u [UInt64.ofNat (valW a % valW b)],hw]
end Go.Pv
end
section
/-round.quotient,round.Div by what has half a word. -/
set_option maxRecDepth 100000
namespace Go.Pv
open Go.Proofs
theorem U0r (m s:Nat):Q0f (m*2^s)≤Q0f m+s:=bitlen_le_iff.2 (by
 rw [Nat.pow_add];exact Nat.mul_lt_mul_of_pos_right (Q0z m) (Nat.two_pow_pos _))
def U2t (a b:Nm) (p:Nat):Nm:=⟨a.neg !=b.neg,a.exp-b.exp-(J0y (valW a.w) (valW b.w) p:Int)-1,Q0m (Y0n (valW a.w) (valW b.w) p)⟩
theorem V2a (a b:Nm) (p:Nat) (st:Q0g) (ha:Q0j a=true) (hb:Q0j b=true) (hp:p≤256) (h0:0<valW b.w) (h1:valW b.w<4294967296):
 PCalls Tryz.prog 214 [.agg (encN a),.agg (encN b),.sc (.int .i64 p)] st (fun r st'=>r= .agg (encN (U2t a b p))∧st'=st):=by
 have ba:=X0q ha
 have bb:=X0q hb
 have la:=ba.1
 have lb:=bb.1
 have hba:=W0u a.w
 have hbb:=W0u b.w
 have mb:Q0f (valW b.w)≤32:=bitlen_le_iff.2 (by omega)
 have hB:X0l b.w=Q0f (valW b.w):=rfl
 have hA:X0l a.w=Q0f (valW a.w):=rfl
 have ml:J0y (valW a.w) (valW b.w) p=p+2+X0l b.w-X0l a.w:=rfl
 have ml2:=X2f (a:=valW a.w) (b:=valW b.w) mb hp
 have e1:IntKind.i64.wrap ((p:Int)+2)=((p+2:Nat):Int):=by rw [Q0h _ (by omega) (by omega)];omega
 have e2:IntKind.i64.wrap (((p+2:Nat):Int)+(X0l b.w:Int))=((p+2+X0l b.w:Nat):Int):=by rw [Q0h _ (by omega) (by omega)];omega
 have e3:IntKind.i64.wrap (((p+2+X0l b.w:Nat):Int)-(X0l a.w:Int))=((p+2+X0l b.w:Nat):Int)-(X0l a.w:Int):=Q0h _ (by omega) (by omega)
 have mx:(if 0>((p+2+X0l b.w:Nat):Int)-(X0l a.w:Int) then 0 else((p+2+X0l b.w:Nat):Int)-(X0l a.w:Int))=((J0y (valW a.w) (valW b.w) p:Nat):Int):=by
  rw [ml];split<;>omega
 generalize hs:J0y (valW a.w) (valW b.w) p=s at*
 refine Q0b none Tryz.func214 rfl fun E=>Q0a ?_
 simp -dsimp only [go_sem]
 refine Q0l Z0k 56 (.step 0 [] (.step 1 [] (.step 2 [] (.step 3 [] (.step 6 [] (.step 7 [] (.step 4 [7] (.step 5 [] (.step 8 [] (.step 9 [] (.step 10 [] (.step 11 [] (.done))))))))))))) (by decide+kernel) (by simp) ?_
 simp -dsimp only [go_sem]
 refine(G0i b.w _ (by omega)).mono ?_
 rintro r st ⟨rfl,rfl⟩
 simp -dsimp only [go_sem]
 refine(G0i a.w _ (by omega)).mono ?_
 rintro r st ⟨rfl,rfl⟩
 simp -dsimp only [go_sem,e1,e2,e3,mx]
 refine Q0l Z0k 56 (.step 0 [] (.step 1 [] (.step 2 [] (.step 4 [] (.step 5 [] (.step 3 [5] (.step 6 [] (.step 7 [] (.step 8 [] (.step 9 [] (.step 10 [] (.step 11 [] (.step 12 [] (.step 13 [] (.done))))))))))))))) (by decide+kernel) (by simp) ?_
 simp -dsimp only [go_sem]
 refine(up_c a.w s _ (by omega) (by omega)).mono ?_
 rintro r st ⟨rfl,rfl⟩
 simp -dsimp only [go_sem]
 have hw1:=q0u (valW a.w*2^s)
 have hw2:Q0f (valW a.w*2^s)≤4096+300:=by have:=U0r (valW a.w) s;omega
 have hw:(Q0m (valW a.w*2^s)).length≤100:=by omega
 have hq:(Q0m (valW a.w*2^s/valW b.w)).length≤100:=Nat.le_trans (W0d (Nat.div_le_self _ _)) hw
 refine(H2e (Q0m (valW a.w*2^s)) b.w _ (by omega) (by omega) h0 h1).mono ?_
 rintro r st ⟨rfl,rfl⟩
 rw [Z0e]
 simp -dsimp only [go_sem]
 refine(up_c (Q0m (valW a.w*2^s/valW b.w)) 1 _ (by omega) (by omega)).mono ?_
 rintro r st ⟨rfl,rfl⟩
 rw [Z0e,Nat.pow_one]
 have e4:IntKind.i64.wrap (a.exp-b.exp)=a.exp-b.exp:=Q0h _ (by have:=ba.2;have:=bb.2;omega) (by have:=ba.2;have:=bb.2;omega)
 have e5:IntKind.i64.wrap (a.exp-b.exp-(s:Int))=a.exp-b.exp-(s:Int):=Q0h _ (by have:=ba.2;have:=bb.2;omega) (by have:=ba.2;have:=bb.2;omega)
 have e6:IntKind.i64.wrap (a.exp-b.exp-(s:Int)-1)=a.exp-b.exp-(s:Int)-1:=Q0h _ (by have:=ba.2;have:=bb.2;omega) (by have:=ba.2;have:=bb.2;omega)
 have hlen:(Q0m (valW a.w*2^s % valW b.w)).length=0↔valW a.w*2^s % valW b.w=0:=by
  constructor
  · intro h
    have h2:=Z0e (valW a.w*2^s % valW b.w)
    rw [List.eq_nil_of_length_eq_zero h] at h2
    exact h2.symm
  · intro h;rw [h,X0u];rfl
 have hq2:valW a.w*2^s/valW b.w*2=2*(valW a.w*2^s/valW b.w):=Nat.mul_comm _ _
 have hl2:(Q0m (valW a.w*2^s/valW b.w*2)).length≤200:=by
  have:=q0u (valW a.w*2^s/valW b.w*2)
  have h2:=U0r (valW a.w*2^s/valW b.w) 1
  rw [Nat.pow_one] at h2
  have h3:=X0p (Nat.div_le_self (valW a.w*2^s) (valW b.w))
  omega
 have hqm:Y0n (valW a.w) (valW b.w) p=2*(valW a.w*2^s/valW b.w)+if valW a.w*2^s % valW b.w=0 then 0 else 1:=by unfold Y0n;rw [hs]
 unfold U2t
 rw [hs,hqm]
 generalize valW a.w*2^s/valW b.w=q at*
 generalize valW a.w*2^s % valW b.w=rr at*
 by_cases hz:rr=0
 · have f1:decide (((Q0m rr).length:Int)>0)=false:=decide_eq_false (by have:=hlen.2 hz;omega)
   simp -dsimp only [go_sem,f1,e4,e5,e6]
   rw [if_pos hz,Nat.add_zero,hq2]
   rfl
 · have f1:decide (((Q0m rr).length:Int)>0)=true:=decide_eq_true (by have:=fun h=>hz (hlen.1 h);omega)
   simp -dsimp only [go_sem,f1]
   refine(H1f (Q0m (q*2)) [1] _ (by omega) (by simp)).mono ?_
   rintro r st ⟨rfl,rfl⟩
   have h1:valW [1]=1:=rfl
   rw [Z0e,h1,hq2]
   simp -dsimp only [go_sem,e4,e5,e6]
   rw [if_neg hz]
   rfl
theorem U2s {a b:Nm} {p:Nat} (h:valW a.w≠0):ofX (U2t a b p)=ratV (ofN a) (ofN b) p:=by
 unfold ratV
 rw [if_neg (show¬(ofN a).m=0 from h)]
 show oddV (a.neg !=b.neg) (valW (Q0m (Y0n (valW a.w) (valW b.w) p))) _=_
 rw [Z0e]
 rfl
theorem k2o {a b:Nm} {p:Nat} (ha:Q0j a=true) (hb:Q0j b=true) (hp:p≤256) (h1:valW b.w<4294967296):bd 1000000 1000000 (U2t a b p):=by
 have ba:=X0q ha
 have bb:=X0q hb
 have la:=ba.1
 have hba:=W0u a.w
 have hA:X0l a.w=Q0f (valW a.w):=rfl
 have mb:Q0f (valW b.w)≤32:=bitlen_le_iff.2 (by omega)
 have ml2:=X2f (a:=valW a.w) (b:=valW b.w) mb hp
 refine⟨?_,?_,?_⟩
 · show(Q0m (Y0n (valW a.w) (valW b.w) p)).length≤1000000
   have h1:=q0u (Y0n (valW a.w) (valW b.w) p)
   have h2:Y0n (valW a.w) (valW b.w) p≤valW a.w*2^J0y (valW a.w) (valW b.w) p*2^2:=by
    unfold Y0n
    have:=Nat.div_le_self (valW a.w*2^J0y (valW a.w) (valW b.w) p) (valW b.w)
    have:=Nat.mod_le (valW a.w*2^J0y (valW a.w) (valW b.w) p) (valW b.w)
    split
    · omega
    · rename_i hne
      have:valW a.w*2^J0y (valW a.w) (valW b.w) p≠0:=fun e=>by rw [e,Nat.zero_mod] at hne;exact hne rfl
      omega
   have h3:=X0p h2
   have h4:=U0r (valW a.w*2^J0y (valW a.w) (valW b.w) p) 2
   have h5:=U0r (valW a.w) (J0y (valW a.w) (valW b.w) p)
   omega
 · show -((1000000:Nat):Int)≤a.exp-b.exp-(J0y (valW a.w) (valW b.w) p:Int)-1
   have:=ba.2
   have:=bb.2
   omega
 · show a.exp-b.exp-(J0y (valW a.w) (valW b.w) p:Int)-1≤((1000000:Nat):Int)
   have:=ba.2
   have:=bb.2
   omega
theorem Q2w (a b:Nm) (p:Int) (up:Bool) (st:Q0g) (ha:Q0j a=true) (hb:Q0j b=true) (hp:Z0b p=true) (h0:0<valW b.w) (h1:valW b.w<4294967296):
 PCalls Tryz.prog 157 [.agg (encN a),.agg (encN b),.sc (.int .i64 p),.sc (.bool up)] st (fun r st'=>r= .tup [.agg (encN (divN a b p up).1),.sc (.int .i64 (divN a b p up).2)]∧st'=st):=by
 have wa:=J0k ha
 have wb:=J0k hb
 unfold wN at wa wb
 obtain⟨q,rfl,hq8,hq256,hqq⟩:=q0f hp
 refine Q0b none Tryz.func157 rfl fun E=>Q0a ?_
 simp -dsimp only [go_sem]
 refine(U0w a _ (by omega)).mono ?_
 rintro r st ⟨rfl,rfl⟩
 rw [ha]
 simp -dsimp only [go_sem]
 refine(U0w b _ (by omega)).mono ?_
 rintro r st ⟨rfl,rfl⟩
 rw [hb]
 simp -dsimp only [go_sem]
 refine(q0d _ _).mono ?_
 rintro r st ⟨rfl,rfl⟩
 rw [hp]
 have hbl:((b.w.length:Int)==0)=false:=beq_eq_false_iff_ne.2 (fun e=>by
  have:b.w= []:=List.eq_nil_of_length_eq_zero (by omega)
  rw [this,V0s] at h0;omega)
 simp -dsimp only [go_sem,hbl]
 by_cases hz:a.w= []
 · have hal:((a.w.length:Int)==0)=true:=by rw [hz];rfl
   simp -dsimp only [go_sem,hal]
   unfold divN ratV
   rw [if_pos (show(ofN a).m=0 by show valW a.w=0;rw [hz,V0s])]
   unfold Q0r
   rw [if_pos (by show Q0f 0≤_;rw [Z0y];omega)]
   rfl
 · have hal:((a.w.length:Int)==0)=false:=beq_eq_false_iff_ne.2 (fun e=>hz (List.eq_nil_of_length_eq_zero (by omega)))
   have hv:valW a.w≠0:=fun e=>hz ((U0e ha).1 e)
   simp -dsimp only [go_sem,hal]
   refine(V2a a b q _ ha hb hq256 h0 h1).mono ?_
   rintro r st ⟨rfl,rfl⟩
   simp -dsimp only [go_sem]
   refine(Q1c (U2t a b q) q up _ (k2o ha hb hq256 h1) (by omega) (by omega)).mono ?_
   rintro r st ⟨rfl,rfl⟩
   rw [U2s hv]
   simp -dsimp only [go_sem]
   unfold divN
   rw [hqq]
end Go.Pv
end
section
/-iv.Div by a number above nought. -/
set_option maxRecDepth 100000
namespace Go.Pv
open Go.Proofs
set_option maxHeartbeats 4000000 in
theorem W3e (a:Ivl) (c:Nm) (p:Int) (st:Q0g) (ha:wI a) (hc:Q0j c=true) (hpos:0<qN c) (h0:0<valW c.w) (h1:valW c.w<4294967296):
 PCalls Tryz.prog 91 [.agg (encI a),.agg (encI ⟨c,c⟩),.sc (.int .i64 p)] st (fun r st'=>r= .tup [.agg (encI (divI a c p).1),.sc (.int .i64 (divI a c p).2)]∧st'=st):=by
 have wc:=J0k hc
 have hcl:c.w.length≤10000000000000:=by unfold wN at wc;omega
 have hcc:=G0f hc
 have hs:0<sgnN c:=(U2c c).2 hpos
 have z1:decide (sgnN c≤0)=false:=decide_eq_false (by omega)
 have z2:decide (sgnN c<0)=false:=decide_eq_false (by omega)
 refine Q0b none Tryz.func91 rfl fun E=>Q0a ?_
 simp -dsimp only [go_sem]
 refine(V1b a ⟨c,c⟩ p _ ha ⟨wc,wc⟩).mono ?_
 rintro r st ⟨rfl,rfl⟩
 rw [hcc,Bool.and_true]
 simp -dsimp only [go_sem]
 refine ck (fun h=> ?_) (fun h=> ?_)
 · simp -dsimp only [go_sem]
   rw [divI,if_neg (fun hh=>by simp [hh.1,hh.2] at h)];rfl
 · have hv:Q0i a=true∧Z0b p=true:=by simpa using h
   obtain⟨r1,r3⟩:=hv
   obtain⟨a1,a2,_⟩:=Q0p r1
   simp -dsimp only [go_sem]
   refine(Y0j c _ hcl).mono ?_
   rintro r st ⟨rfl,rfl⟩
   simp -dsimp only [go_sem,z1]
   refine(Y0j c _ hcl).mono ?_
   rintro r st ⟨rfl,rfl⟩
   simp -dsimp only [go_sem,z2]
   refine Q0l Z0k 84 (.step 0 [] (.step 1 [] (.step 2 [] (.step 3 [] (.alt (.step 4 [1,3] (.step 5 [1,3] (.step 6 [3] (.step 7 [] (.done))))) (.step 5 [1,3] (.step 4 [1,3] (.step 6 [3] (.step 7 [] (.done)))))))))) (by decide+kernel) (by simp) ?_
   simp -dsimp only [go_sem]
   have sa1:=J0b a1
   have sa2:=J0b a2
   have wa1:=J0k a1
   have wa2:=J0k a2
   unfold wN at wa1 wa2
   have hall:divI a c p=if (divN a.lo c p false).2=0∧(divN a.hi c p true).2=0 then(⟨(divN a.lo c p false).1,(divN a.hi c p true).1⟩,0) else(default,2):=by
    unfold divI;rw [if_pos ⟨r1,r3⟩];rfl
   have u1:(divN a.lo c p false).2=0∨(divN a.lo c p false).2=2:=H2a _
   have u2:(divN a.hi c p true).2=0∨(divN a.hi c p true).2=2:=H2a _
   have d1:=fun st=>Q2w a.lo c p false st a1 hc r3 h0 h1
   have d2:=fun st=>Q2w a.hi c p true st a2 hc r3 h0 h1
   generalize divN a.lo c p false=x at*
   generalize divN a.hi c p true=y at*
   obtain⟨x,ex⟩:=x
   obtain⟨y,ey⟩:=y
   simp only at u1 u2 hall d1 d2
   refine And.intro ?_ ?_
   all_goals
    refine(Y0j a.lo _ (by omega)).mono ?_
    rintro r st ⟨rfl,rfl⟩
    rcases u1 with rfl | rfl
    · have g1:((0:Int) !=0)=false:=rfl
      rcases u2 with rfl | rfl
      · rw [hall,if_pos ⟨rfl,rfl⟩]
        cases q1:decide (sgnN a.lo<0)
        all_goals
         simp -dsimp only [go_sem,q1]
         refine(Y0j a.hi _ (by omega)).mono ?_
         rintro r st ⟨rfl,rfl⟩
         cases q2:decide (sgnN a.hi<0)
         all_goals
          simp -dsimp only [go_sem,q2]
          refine(d1 _).mono ?_
          rintro r st ⟨rfl,rfl⟩
          simp -dsimp only [go_sem,g1]
          refine(d2 _).mono ?_
          rintro r st ⟨rfl,rfl⟩
          simp -dsimp only [go_sem,g1]
      · have g2:((2:Int) !=0)=true:=rfl
        rw [hall,if_neg (fun h=>absurd h.2 (by decide))]
        cases q1:decide (sgnN a.lo<0)
        all_goals
         simp -dsimp only [go_sem,q1]
         refine(Y0j a.hi _ (by omega)).mono ?_
         rintro r st ⟨rfl,rfl⟩
         cases q2:decide (sgnN a.hi<0)
         all_goals
          simp -dsimp only [go_sem,q2]
          refine(d1 _).mono ?_
          rintro r st ⟨rfl,rfl⟩
          simp -dsimp only [go_sem,g1]
          refine(d2 _).mono ?_
          rintro r st ⟨rfl,rfl⟩
          simp -dsimp only [go_sem,g2]
          rfl
    · have g2:((2:Int) !=0)=true:=rfl
      rw [hall,if_neg (fun h=>absurd h.1 (by decide))]
      cases q1:decide (sgnN a.lo<0)
      all_goals
       simp -dsimp only [go_sem,q1]
       refine(Y0j a.hi _ (by omega)).mono ?_
       rintro r st ⟨rfl,rfl⟩
       cases q2:decide (sgnN a.hi<0)
       all_goals
        simp -dsimp only [go_sem,q2]
        refine(d1 _).mono ?_
        rintro r st ⟨rfl,rfl⟩
        simp -dsimp only [go_sem,g2]
        rfl
end Go.Pv
end
section
/-The document's Div,bit by bit. -/
set_option maxRecDepth 100000
namespace Go.Pv
open Go.Proofs
theorem X3y (l:List UInt32) (j:Nat) (hj:j<l.length):(l.getD j 0).toNat=valD l/4294967296^j % 4294967296:=by
 rw [x0r l j (by omega),y0v]
 have:=UInt32.toNat_lt (l.getD j 0)
 omega
theorem bitD (m i:Nat) (hi:i/32<(Q0c m).length):((Q0c m).getD (i/32) 0).toNat/2^(i % 32) % 2=m/2^i % 2:=by
 rw [X3y _ _ hi,Q0x,X1a]
 have h1:m/2^i=m/2^(32*(i/32))/2^(i % 32):=by
  rw [Nat.div_div_eq_div_mul,←Nat.pow_add];congr 2;omega
 rw [h1]
 generalize m/2^(32*(i/32))=x
 have hs:i % 32<32:=Nat.mod_lt _ (by decide)
 generalize i % 32=s at*
 have t:=Nat.testBit_mod_two_pow x 32 s
 rw [decide_eq_true hs,Bool.true_and,Nat.testBit_eq_decide_div_mod_eq,Nat.testBit_eq_decide_div_mod_eq] at t
 have t2:=decide_eq_decide.1 t
 rw [show(4294967296:Nat)=2^32 from rfl]
 have a1:=Nat.mod_lt (x % 2^32/2^s) (show 0<2 by decide)
 have a2:=Nat.mod_lt (x/2^s) (show 0<2 by decide)
 omega
theorem z2p (m n k:Nat) (hn:0<n) (h0:0<k):m/2^(k-1)=2*(m/2^k)+m/2^(k-1) % 2:=by
 have e:m/2^k=m/2^(k-1)/2:=by
  rw [Nat.div_div_eq_div_mul,←Nat.pow_succ];congr 2;omega
 rw [e];omega
theorem k3o (x n b:Nat) (hn:0<n) (hb:b<2):(2*x+b)/n=2*(x/n)+(if n≤2*(x % n)+b then 1 else 0)∧(2*x+b) % n=2*(x % n)+b-(if n≤2*(x % n)+b then n else 0):=by
 have h1:=Nat.div_add_mod x n
 have h2:=Nat.mod_lt x hn
 generalize hq:x/n=q at*
 generalize hr:x % n=r at*
 have e:2*x+b=n*(2*q)+(2*r+b):=by rw [←h1];grind
 rw [e,Nat.mul_add_div hn,Nat.mul_add_mod]
 split
 · rename_i hle
   have e2:2*r+b=n*1+(2*r+b-n):=by omega
   rw [e2,Nat.mul_add_div hn,Nat.mul_add_mod,Nat.div_eq_of_lt (by omega),Nat.mod_eq_of_lt (by omega)]
   omega
 · rename_i hle
   rw [Nat.div_eq_of_lt (by omega),Nat.mod_eq_of_lt (by omega)]
   omega
theorem setB (o:List UInt32) (i Q:Nat) (hi:i/32<o.length) (hv:valD o=Q*2^(i+1)):
 ((o.getD (i/32) 0).toNat|||2^(i % 32))<4294967296∧valD (o.set (i/32) (UInt32.ofNat ((o.getD (i/32) 0).toNat|||2^(i % 32))))=(2*Q+1)*2^i:=by
 have hd:=X3y o (i/32) hi
 have hs:i % 32<32:=Nat.mod_lt _ (by decide)
 have hdiv:valD o/4294967296^(i/32)=Q*2^(i % 32+1):=by
  rw [hv,X1a,show i+1=(i % 32+1)+32*(i/32) by omega,Nat.pow_add,←Nat.mul_assoc,Nat.mul_div_cancel _ (Nat.two_pow_pos _)]
 rw [hdiv] at hd
 have hm:(o.getD (i/32) 0).toNat % 2^(i % 32+1)=0:=by
  rw [hd,show(4294967296:Nat)=2^(i % 32+1)*2^(31-i % 32) by rw [←Nat.pow_add,show i % 32+1+(31-i % 32)=32 by omega],Nat.mod_mul_right_mod,Nat.mul_mod_left]
 have hor:(o.getD (i/32) 0).toNat|||2^(i % 32)=2^(i % 32)+(o.getD (i/32) 0).toNat:=by
  rw [Nat.or_comm]
  exact K1r _ _ (i % 32+1) (Nat.pow_lt_pow_right (by decide) (by omega)) hm
 have hlt:(o.getD (i/32) 0).toNat|||2^(i % 32)<4294967296:=by
  rw [show(4294967296:Nat)=2^32 from rfl]
  exact Nat.or_lt_two_pow (by have:=UInt32.toNat_lt (o.getD (i/32) 0);exact this) (Nat.pow_lt_pow_right (by decide) hs)
 refine⟨hlt,?_⟩
 have hset:=v0v o (i/32) (UInt32.ofNat ((o.getD (i/32) 0).toNat|||2^(i % 32))) hi
 rw [X0j _ hlt,hor,Nat.mul_add] at hset
 rw [hor]
 have hp:4294967296^(i/32)*2^(i % 32)=2^i:=by rw [X1a,←Nat.pow_add];congr 1;omega
 rw [hp,hv] at hset
 rw [Nat.add_mul,Nat.one_mul,Nat.mul_comm 2 Q,Nat.mul_assoc,show 2*2^i=2^(i+1) by rw [Nat.pow_succ];omega]
 omega
theorem k2k (m n:Nat) (st:Q0g) (hm:(Q0c m).length≤1000000000) (hn0:0<n) (hn:(Q0c n).length≤1000000000):PCalls Tryz.prog 255 [.sl .no (encD (Q0c m)),.sl .no (encD (Q0c n))] st
 (fun r st'=>r= .tup [.sl .no (encD (Q0c (m/n))),.sl .no (encD (Q0c (m % n)))]∧st'=st):=by
 have hbl:Q0f m≤32*(Q0c m).length:=bitlen_le_iff.2 (by
  have:=z0u (Q0c m)
  rw [Q0x,X1a] at this
  exact this)
 refine Q0b none Tryz.func255 rfl fun E=>Q0a ?_
 simp -dsimp only [go_sem]
 refine⟨by omega,?_⟩
 refine(w0j m st (by omega)).mono ?_
 rintro r st ⟨rfl,rfl⟩
 have e1:IntKind.i64.wrap ((Q0f m:Int)-1)=(Q0f m:Int)-1:=Q0h _ (by omega) (by omega)
 simp -dsimp only [go_sem,e1]
 refine J0m [false,false,false,false,false,false,false,true] ?_
 simp -dsimp only [go_sem]
 refine Q0e [true,true,false,false,false,false,true,true,true] 1 0
  (fun c s'=> ∃(k:Nat) (o:List UInt32),k=c∧k≤Q0f m∧o.length=(Q0c m).length∧valD o=m/2^k/n*2^k∧
   s'=⟨[.sl .no (encD (Q0c m)),.sl .no (encD (Q0c n)),.junk,.junk,.junk,.junk,.ms false 0 0 (Q0c m).length,.sl .no (encD (Q0c (m/2^k % n))),.sc (.int .i64 ((k:Int)-1))]++List.replicate 45 .junk,[encD o],[],st⟩) (Q0f m) ?_ ?_
 · simp -dsimp only [go_sem]
   have h0:m/2^Q0f m=0:=Nat.div_eq_of_lt (Q0z m)
   refine⟨Q0f m,List.replicate (Q0c m).length 0,rfl,Nat.le_refl _,by simp,by rw [h0,y0u];simp,?_⟩
   rw [h0,Nat.zero_mod,Z0f]
   rfl
 · rintro c s' ⟨k,o,rfl,hk,ho,hv,rfl⟩
   simp -dsimp only [go_sem]
   refine ck (fun h=> ?_) (fun h=> ?_)
   · have h0:0<k:=by have:=of_decide_eq_true h;omega
     have e2:(k:Int)-1=((k-1:Nat):Int):=by omega
     have hki:(k-1)/32<(Q0c m).length:=by omega
     have hs32:(k-1) % 32<32:=Nat.mod_lt _ (by decide)
     have q1:IntKind.i64.wrap (((k-1:Nat):Int).tdiv 32)=(((k-1)/32:Nat):Int):=by
      rw [show(32:Int)=((32:Nat):Int) from rfl,H0e,Q0k _ (by omega)]
     have q2:((k-1:Nat):Int).tmod 32=(((k-1) % 32:Nat):Int):=by
      rw [show(32:Int)=((32:Nat):Int) from rfl,H0c]
     have g1:=X0s (Q0c m) ((k-1)/32) hki
     have s1:=q1k ((Q0c m).getD ((k-1)/32) 0).toNat ((k-1) % 32) (by omega)
     have hbit:=bitD m (k-1) hki
     have hdl:=UInt32.toNat_lt ((Q0c m).getD ((k-1)/32) 0)
     have s2:bAnd .u32 ((((Q0c m).getD ((k-1)/32) 0).toNat/2^((k-1) % 32):Nat):Int) 1=((m/2^(k-1) % 2:Nat):Int):=by
      have:=q1l (((Q0c m).getD ((k-1)/32) 0).toNat/2^((k-1) % 32)) 1 (Nat.lt_of_le_of_lt (Nat.div_le_self _ _) hdl) (by decide)
      rw [Nat.and_one_is_mod,hbit] at this
      exact this
     obtain⟨d1,d2⟩:=k3o (m/2^k) n (m/2^(k-1) % 2) hn0 (Nat.mod_lt _ (by decide))
     rw [←z2p m n k hn0 h0] at d1 d2
     have hrl:m/2^k % n<n:=Nat.mod_lt _ hn0
     have hb2:m/2^(k-1) % 2<2:=Nat.mod_lt _ (by decide)
     have hlr: ∀x,x≤2*n→(Q0c x).length≤1000000001:=fun x hx=>by
      have h1:=H0n (n:=x) (k:=(Q0c n).length+1) (by
       have h2:=z0u (Q0c n)
       rw [Q0x] at h2
       rw [Nat.pow_succ];omega)
      omega
     generalize hr:m/2^k % n=r at*
     generalize hb:m/2^(k-1) % 2=b at*
     simp -dsimp only [go_sem,e2]
     refine(x0a r 1 _ (by have:=hlr r (by omega);omega) (by omega)).mono ?_
     rintro rr st ⟨rfl,rfl⟩
     rw [Nat.pow_one]
     simp -dsimp only [go_sem,q1,q2,g1,s1,s2]
     refine⟨⟨by omega,by omega⟩,by omega,?_⟩
     obtain⟨t,ht⟩: ∃t,t=2*r+b:=⟨_,rfl⟩
     rw [←ht] at d1 d2
     have hto:(k-1)/32<o.length:=by omega
     have e4:IntKind.i64.wrap (((k-1:Nat):Int)-1)=((k-1:Nat):Int)-1:=Q0h _ (by omega) (by omega)
     have b01:b=0∨b=1:=by omega
     rcases b01 with hb0 | hb1
     have f1:((b:Int)==1)=false:=beq_eq_false_iff_ne.2 (by omega)
     simp -dsimp only [go_sem,f1]
     rw [show r*2=t by omega]
     rotate_left
     have f1:((b:Int)==1)=true:=by rw [hb1];rfl
     simp -dsimp only [go_sem,f1]
     have a1:=X1m (r*2) 1 st (by have:=hlr (r*2) (by omega);omega) (by have:=hlr 1 (by omega);omega)
     rw [show Q0c 1= [1] from by decide+kernel,show r*2+1=t by omega] at a1
     refine a1.mono ?_
     rintro rr st ⟨rfl,rfl⟩
     simp -dsimp only [go_sem]
     all_goals
      refine(Z2a t n _ (by have:=hlr t (by omega);omega) (by omega)).mono ?_
      rintro rr st ⟨rfl,rfl⟩
      by_cases hge:n≤t
      · have c1:decide (cmpW t n≥0)=true:=decide_eq_true (by unfold cmpW cmpI;split<;>(try split)<;>omega)
        rw [if_pos hge] at d1 d2
        simp -dsimp only [go_sem,c1]
        refine(G1v t n _ (by have:=hlr t (by omega);omega) hge).mono ?_
        rintro rr st ⟨rfl,rfl⟩
        have hvk:valD o=m/2^k/n*2^(k-1+1):=by rw [hv];congr 2;omega
        obtain⟨b1,b2⟩:=setB o (k-1) (m/2^k/n) hto hvk
        have g2:=X0s o ((k-1)/32) hto
        have hp32:2^((k-1) % 32)<4294967296:=by rw [show(4294967296:Nat)=2^32 from rfl];exact Nat.pow_lt_pow_right (by decide) hs32
        have sh1:bShl .u32 1 (((k-1) % 32:Nat):Int)=((2^((k-1) % 32):Nat):Int):=by
         have:=J2j 1 ((k-1) % 32) (by omega)
         rw [Nat.one_mul,Nat.mod_eq_of_lt hp32] at this
         exact this
        have or1:bOr .u32 (((o.getD ((k-1)/32) 0).toNat:Nat):Int) ((2^((k-1) % 32):Nat):Int)=(((UInt32.ofNat ((o.getD ((k-1)/32) 0).toNat|||2^((k-1) % 32))).toNat:Nat):Int):=by
         rw [x2q _ _ (UInt32.toNat_lt _) hp32,X0j _ b1]
        have o1:=x0q o ((k-1)/32) (UInt32.ofNat ((o.getD ((k-1)/32) 0).toNat|||2^((k-1) % 32))) hto
        simp -dsimp only [go_sem]
        refine Q0l Z0k 54 (.step 0 [] (.step 1 [] (.step 2 [] (.step 3 [] (.step 4 [] (.step 5 [] (.step 6 [] (.step 7 [] (.step 8 [] (.step 9 [] (.step 10 [] (.done)))))))))))) (by decide+kernel) (by simp) ?_
        simp -dsimp only [go_sem,q1,q2,g2,sh1,or1,o1,e4]
        refine⟨⟨by omega,by omega⟩,by omega,by omega,⟨by omega,by omega⟩,⟨by omega,by omega⟩,k-1,by omega,k-1,o.set ((k-1)/32) (UInt32.ofNat ((o.getD ((k-1)/32) 0).toNat|||2^((k-1) % 32))),rfl,by omega,by rw [List.length_set];exact ho,?_,by rw [d2]⟩
        rw [b2,d1]
      · have c1:decide (cmpW t n≥0)=false:=decide_eq_false (by unfold cmpW cmpI;split<;>(try split)<;>omega)
        rw [if_neg hge] at d1 d2
        simp -dsimp only [go_sem,c1,e4]
        refine⟨k-1,by omega,k-1,o,rfl,by omega,ho,?_,by rw [d2,Nat.sub_zero]⟩
        rw [hv,d1,Nat.add_zero,Nat.mul_comm 2,Nat.mul_assoc]
        congr 1
        rw [show k=k-1+1 by omega,Nat.pow_succ];simp [Nat.mul_comm]
   · have hz:k=0:=by have:=of_decide_eq_false h;omega
     subst hz
     have ht:o.take (Q0c m).length=o:=List.take_of_length_le (by omega)
     have hle:(Q0c m).length≤o.length:=by omega
     rw [Nat.pow_zero,Nat.div_one,Nat.mul_one] at hv
     rw [Nat.pow_zero,Nat.div_one]
     simp -dsimp only [go_sem]
     refine X0z 0 ?_ ?_
     · simp -dsimp only [go_sem]
     refine Q0a ?_
     simp -dsimp only [go_sem,ht,hle]
     refine(J1l o st (by omega)).mono ?_
     rintro rr st ⟨rfl,rfl⟩
     simp -dsimp only [go_sem]
     rw [←J0n o,hv]
end Go.Pv
end
section
/-The document's Ratio,quot,Op:quotients by a number above nought. -/
set_option maxRecDepth 100000
namespace Go.Pv
open Go.Proofs
theorem V0q (m s:Nat):Q0f (m*2^s)≤Q0f m+s:=bitlen_le_iff.2 (by
 rw [Nat.pow_add];exact Nat.mul_lt_mul_of_pos_right (Q0z m) (Nat.two_pow_pos _))
theorem Q2f {a b:Vl} {p:Nat} (ha:bdV 4096 65536 a) (hb:bdV 4096 65536 b) (hp:p≤256):bdV 10000 1000000 (ratV a b p):=by
 unfold ratV
 split
 · refine⟨?_,?_,?_⟩
   · show Q0f 0≤_;rw [Z0y];omega
   · show -((1000000:Nat):Int)≤0;omega
   · show(0:Int)≤((1000000:Nat):Int);omega
 · have h1:=ha.1
   have h2:=hb.1
   have hm:J0y a.m b.m p≤4400:=by unfold J0y;omega
   have hq:Q0f (Y0n a.m b.m p)≤10000:=by
    have q1:Y0n a.m b.m p≤a.m*2^J0y a.m b.m p*2^2:=by
     unfold Y0n
     have:=Nat.div_le_self (a.m*2^J0y a.m b.m p) b.m
     have:=Nat.mod_le (a.m*2^J0y a.m b.m p) b.m
     split
     · omega
     · rename_i hne
       have:a.m*2^J0y a.m b.m p≠0:=fun e=>by rw [e,Nat.zero_mod] at hne;exact hne rfl
       omega
    have h3:=X0p q1
    have h4:=V0q (a.m*2^J0y a.m b.m p) 2
    have h5:=V0q a.m (J0y a.m b.m p)
    omega
   exact(W1l (neg:=a.neg !=b.neg) (n:=10000) (k:=900000) hq (by have:=ha.2;have:=hb.2;omega) (by have:=ha.2;have:=hb.2;omega)).mono (by omega) (by omega)
set_option maxHeartbeats 4000000 in
theorem U2q (a b:Vl) (p:Nat) (up:Bool) (st:Q0g) (ha:bdV 4096 65536 a) (hb:bdV 4096 65536 b) (hb0:0<b.m) (hp:p≤256):
 PCalls Tryz.prog 239 [.agg (encV a),.agg (encV b),.sc (.int .i64 p),.sc (.bool up)] st (fun r st'=>r= .agg (encV (Q0r (ratV a b p) p up))∧st'=st):=by
 have dga:=K0o ha (by omega)
 have dgb:=K0o hb (by omega)
 have la:(Q0c a.m).length≤200:=by have:=Z0n a.m;have:=ha.1;omega
 have lb:(Q0c b.m).length≤200:=by have:=Z0n b.m;have:=hb.1;omega
 have hbd:=Q2f ha hb hp
 refine Q0b none Tryz.func239 rfl fun E=>Q0a ?_
 by_cases h0:a.m=0
 · have f1:(((Q0c a.m).length:Int)==0)=true:=by rw [h0,Z0f];rfl
   simp -dsimp only [go_sem,f1]
   unfold ratV
   rw [if_pos h0]
   unfold Q0r
   rw [if_pos (by show Q0f 0≤p;rw [Z0y];omega)]
   rw [Z0f]
   rfl
 · have hne:Q0c a.m≠ []:=fun e=>h0 (digitsOf_nil.1 e)
   have f1:(((Q0c a.m).length:Int)==0)=false:=beq_eq_false_iff_ne.2 (fun e=>hne (List.eq_nil_of_length_eq_zero (by omega)))
   have h1:=ha.1
   have h2:=hb.1
   have e1:IntKind.i64.wrap ((p:Int)+2)=((p+2:Nat):Int):=by rw [Q0h _ (by omega) (by omega)];omega
   have e2:IntKind.i64.wrap (((p+2:Nat):Int)+(Q0f b.m:Int))=((p+2+Q0f b.m:Nat):Int):=by rw [Q0h _ (by omega) (by omega)];omega
   have e3:IntKind.i64.wrap (((p+2+Q0f b.m:Nat):Int)-(Q0f a.m:Int))=((p+2+Q0f b.m:Nat):Int)-(Q0f a.m:Int):=Q0h _ (by omega) (by omega)
   have mx:(if 0>((p+2+Q0f b.m:Nat):Int)-(Q0f a.m:Int) then 0 else((p+2+Q0f b.m:Nat):Int)-(Q0f a.m:Int))=((J0y a.m b.m p:Nat):Int):=by
    unfold J0y;split<;>omega
   have hs:J0y a.m b.m p≤4400:=by unfold J0y;omega
   have hrat:ratV a b p=oddV (a.neg !=b.neg) (Y0n a.m b.m p) (a.e-b.e-(J0y a.m b.m p:Int)-1):=by unfold ratV;rw [if_neg h0]
   have hqm:Y0n a.m b.m p=2*(a.m*2^J0y a.m b.m p/b.m)+if a.m*2^J0y a.m b.m p % b.m=0 then 0 else 1:=rfl
   have hshl:=V0q a.m (J0y a.m b.m p)
   have hdl:=Z0n (a.m*2^J0y a.m b.m p)
   rw [hqm] at hrat
   generalize J0y a.m b.m p=s at*
   have hqb:=X0p (Nat.div_le_self (a.m*2^s) b.m)
   have hmod:(Q0c (a.m*2^s % b.m)).length=0↔a.m*2^s % b.m=0:=by
    constructor
    · intro h;exact digitsOf_nil.1 (List.eq_nil_of_length_eq_zero h)
    · intro h;rw [h,Z0f];rfl
   simp -dsimp only [go_sem,f1]
   refine Q0l Z0k 66 (.step 0 [] (.step 1 [] (.step 2 [] (.step 3 [] (.step 6 [] (.step 7 [] (.step 4 [7] (.step 5 [] (.step 8 [] (.step 9 [] (.step 10 [] (.step 11 [] (.done))))))))))))) (by decide+kernel) (by simp) ?_
   simp -dsimp only [go_sem]
   refine(w0j b.m _ (by omega)).mono ?_
   rintro r st ⟨rfl,rfl⟩
   simp -dsimp only [go_sem]
   refine(w0j a.m _ (by omega)).mono ?_
   rintro r st ⟨rfl,rfl⟩
   simp -dsimp only [go_sem,e1,e2,e3,mx]
   refine Q0l Z0k 66 (.step 0 [] (.step 1 [] (.step 2 [] (.step 4 [] (.step 5 [] (.step 3 [5] (.step 6 [] (.step 7 [] (.step 8 [] (.step 9 [] (.step 10 [] (.step 11 [] (.done))))))))))))) (by decide+kernel) (by simp) ?_
   simp -dsimp only [go_sem]
   refine(x0a a.m s _ (by omega) (by omega)).mono ?_
   rintro r st ⟨rfl,rfl⟩
   simp -dsimp only [go_sem]
   refine(k2k (a.m*2^s) b.m _ (by omega) hb0 (by omega)).mono ?_
   rintro r st ⟨rfl,rfl⟩
   have e4:IntKind.i64.wrap (a.e-b.e)=a.e-b.e:=Q0h _ (by have:=ha.2;have:=hb.2;omega) (by have:=ha.2;have:=hb.2;omega)
   have e5:IntKind.i64.wrap (a.e-b.e-(s:Int))=a.e-b.e-(s:Int):=Q0h _ (by have:=ha.2;have:=hb.2;omega) (by have:=ha.2;have:=hb.2;omega)
   have e6:IntKind.i64.wrap (a.e-b.e-(s:Int)-1)=a.e-b.e-(s:Int)-1:=Q0h _ (by have:=ha.2;have:=hb.2;omega) (by have:=ha.2;have:=hb.2;omega)
   have hneg:(!(a.neg==b.neg))=(a.neg !=b.neg):=rfl
   have hq2: ∀q:Nat,q*2=2*q:=fun q=>Nat.mul_comm _ _
   have hqd:(Q0c (a.m*2^s/b.m)).length≤1000:=by have:=Z0n (a.m*2^s/b.m);omega
   have hb2:=V0q (a.m*2^s/b.m) 1
   have hb3:Q0f (a.m*2^s/b.m*2^1+1)≤10000:=by
    have h3:a.m*2^s/b.m*2^1+1≤(a.m*2^s/b.m+1)*2^1:=by omega
    have h4:=X0p h3
    have h5:=V0q (a.m*2^s/b.m+1) 1
    have h6:Q0f (a.m*2^s/b.m+1)≤Q0f (a.m*2^s/b.m)+1:=bitlen_le_iff.2 (by
     have:=Q0z (a.m*2^s/b.m)
     rw [Nat.pow_succ];omega)
    omega
   generalize a.m*2^s/b.m=q at*
   generalize a.m*2^s % b.m=rr at*
   by_cases hz:rr=0
   · have f2:decide (((Q0c rr).length:Int)>0)=false:=decide_eq_false (by have:=hmod.2 hz;omega)
     rw [if_pos hz,Nat.add_zero] at hrat
     have hodd:oddV (a.neg !=b.neg) q (a.e-b.e-(s:Int))=ratV a b p:=by
      rw [hrat,←hq2,←Nat.pow_one 2,X1u];congr 1;omega
     simp -dsimp only [go_sem,f2,e4,e5]
     refine(W1w (!(a.neg==b.neg)) q (a.e-b.e-(s:Int)) _ (by omega) (by have:=ha.2;have:=hb.2;omega) (by have:=ha.2;have:=hb.2;omega)).mono ?_
     rintro r st ⟨rfl,rfl⟩
     rw [hneg,hodd]
     simp -dsimp only [go_sem]
     refine(Q1b (ratV a b p) p up _ (K0f hbd (by omega) (by omega)) (by omega)).mono ?_
     rintro r st ⟨rfl,rfl⟩
     simp -dsimp only [go_sem]
   · have f2:decide (((Q0c rr).length:Int)>0)=true:=decide_eq_true (by have:=fun h=>hz (hmod.1 h);omega)
     rw [if_neg hz,←hq2,←Nat.pow_one 2] at hrat
     simp -dsimp only [go_sem,f2,e4,e5]
     refine(x0a q 1 _ (by omega) (by omega)).mono ?_
     rintro r st ⟨rfl,rfl⟩
     simp -dsimp only [go_sem]
     have hone:(Q0c 1).length≤1000000000000:=by rw [show Q0c 1= [1] from by decide+kernel];simp
     have a1:=X1m (q*2^1) 1 st (by have:=Z0n (q*2^1);omega) hone
     rw [show Q0c 1= [1] from by decide+kernel] at a1
     refine a1.mono ?_
     rintro r st ⟨rfl,rfl⟩
     simp -dsimp only [go_sem,e4,e5,e6]
     refine(W1w (!(a.neg==b.neg)) (q*2^1+1) (a.e-b.e-(s:Int)-1) _ (by omega) (by have:=ha.2;have:=hb.2;omega) (by have:=ha.2;have:=hb.2;omega)).mono ?_
     rintro r st ⟨rfl,rfl⟩
     rw [hneg,←hrat]
     simp -dsimp only [go_sem]
     refine(Q1b (ratV a b p) p up _ (K0f hbd (by omega) (by omega)) (by omega)).mono ?_
     rintro r st ⟨rfl,rfl⟩
     simp -dsimp only [go_sem]
set_option maxHeartbeats 4000000 in
theorem k2p (x y c:Vl) (p:Nat) (st:Q0g) (hx:bdV 4096 65536 x) (hy:bdV 4096 65536 y) (hc:bdV 4096 65536 c) (h0:0<c.m) (hs:0<X0n c) (hp:p≤256):
 PCalls Tryz.prog 204 [.agg (encV x),.agg (encV y),.agg (encV c),.agg (encV c),.sc (.int .i64 p)] st
 (fun r st'=>r= .tup [.agg (encI (Y0f (Q0r (ratV x c p) p false) (Q0r (ratV y c p) p true)).1),.sc (.int .i64 (Y0f (Q0r (ratV x c p) p false) (Q0r (ratV y c p) p true)).2)]∧st'=st):=by
 have z1:decide (X0n c<0)=false:=decide_eq_false (by omega)
 have d1:=fun st=>U2q x c p false st hx hc h0 hp
 have d2:=fun st=>U2q y c p true st hy hc h0 hp
 have b1:=q0s (Q2f hx hc hp) p false
 have b2:=q0s (Q2f hy hc hp) p true
 generalize Q0r (ratV x c p) p false=u at*
 generalize Q0r (ratV y c p) p true=w at*
 refine Q0b none Tryz.func204 rfl fun E=>Q0a ?_
 simp -dsimp only [go_sem]
 refine(W0n c _).mono ?_
 rintro r st ⟨rfl,rfl⟩
 simp -dsimp only [go_sem,z1]
 refine Q0l Z0k 46 (.step 0 [] (.step 1 [] (.alt (.step 2 [0,1] (.step 3 [0,1] (.step 4 [1] (.step 5 [] (.done))))) (.step 3 [0,1] (.step 2 [0,1] (.step 4 [1] (.step 5 [] (.done)))))))) (by decide+kernel) (by simp) ?_
 simp -dsimp only [go_sem]
 refine And.intro ?_ ?_
 all_goals
  refine(W0n x _).mono ?_
  rintro r st ⟨rfl,rfl⟩
  cases q1:decide (X0n x<0)
  all_goals
   simp -dsimp only [go_sem,q1]
   refine(W0n y _).mono ?_
   rintro r st ⟨rfl,rfl⟩
   cases q2:decide (X0n y<0)
   all_goals
    simp -dsimp only [go_sem,q2]
    refine Q0l Z0k 46 (.step 0 [] (.step 1 [] (.step 2 [] (.step 4 [] (.step 5 [] (.step 6 [] (.step 3 [4,5] (.step 7 [] (.step 8 [] (.step 9 [] (.step 10 [] (.step 11 [] (.step 12 [] (.done)))))))))))))) (by decide+kernel) (by simp) ?_
    simp -dsimp only [go_sem]
    refine(d1 _).mono ?_
    rintro r st ⟨rfl,rfl⟩
    simp -dsimp only [go_sem]
    refine(d2 _).mono ?_
    rintro r st ⟨rfl,rfl⟩
    simp -dsimp only [go_sem]
    refine(y1m u w _ (K0o b1 (by omega)) (K0o b2 (by omega))).mono ?_
    rintro r st ⟨rfl,rfl⟩
    simp -dsimp only [go_sem]
set_option maxHeartbeats 4000000 in
theorem k2h (a:Ivl) (c:Nm) (p:Int) (st:Q0g) (ha:wI a) (hc:Q0j c=true) (hpos:0<qN c):
 PCalls Tryz.prog 145 [.sc (.int .i64 3),.agg (encI a),.agg (encI ⟨c,c⟩),.sc (.int .i64 p)] st (fun r st'=>r= .tup [.agg (encI (divI a c p).1),.sc (.int .i64 (divI a c p).2)]∧st'=st):=by
 have wc:=J0k hc
 have hcc:=G0f hc
 have hnz:hasI ⟨c,c⟩ default=false:=by
  cases e:hasI ⟨c,c⟩ default with
  | false=>rfl
  | true=>
   have:=(X2h e).2.2.1
   rw [K1d] at this
   exact absurd this (by show¬qN c≤0;grind)
 have hsg:0<X0n (ofN c):=by
  apply Int.not_le.1
  intro e
  have:=(G1r (ofN c)).1 e
  rw [Z0w] at this
  grind
 have hcm:0<(ofN c).m:=by
  apply Nat.pos_of_ne_zero
  intro e
  unfold X0n at hsg
  rw [if_pos e] at hsg
  omega
 refine Q0b none Tryz.func145 rfl fun E=>Q0a ?_
 simp -dsimp only [go_sem]
 refine(X0w a _ ha).mono ?_
 rintro r st ⟨rfl,rfl⟩
 cases r1:Q0i a with
 | false=>
  simp -dsimp only [go_sem]
  rw [divI,if_neg (by simp [r1])];rfl
 | true=>
  simp -dsimp only [go_sem]
  refine(X0w ⟨c,c⟩ _ ⟨wc,wc⟩).mono ?_
  rintro r st ⟨rfl,rfl⟩
  rw [hcc]
  simp -dsimp only [go_sem]
  refine(H1c p _).mono ?_
  rintro r st ⟨rfl,rfl⟩
  cases r3:Z0b p with
  | false=>
   simp -dsimp only [go_sem]
   rw [divI,if_neg (by simp [r3])];rfl
  | true=>
   obtain⟨q,rfl,q1,q2,q3⟩:=q0f r3
   obtain⟨a1,a2,_⟩:=Q0p r1
   have hm:divI a c q=Y0f (Q0r (ratV (ofN a.lo) (ofN c) q) q false) (Q0r (ratV (ofN a.hi) (ofN c) q) q true):=by rw [divI,if_pos ⟨r1,r3⟩,q3]
   rw [hm]
   have d1:=Y0g a1
   have d2:=Y0g a2
   have d3:=Y0g hc
   have t3:((3:Int)==3)=true:=rfl
   simp -dsimp only [go_sem,t3]
   refine(k2j ⟨c,c⟩ default _ ⟨wc,wc⟩ (by unfold wN;decide)).mono ?_
   rintro r st ⟨rfl,rfl⟩
   rw [hnz]
   have t0:((3:Int)==0)=false:=rfl
   have t1:((3:Int)==1)=false:=rfl
   simp -dsimp only [go_sem,t0,t1,t3]
   refine q0y Z0k 110 [0,1,2,3,4,5,6,7,8,9,10,11] [12,13,14,15] [16,17,18,19] (.step 0 [] (.step 1 [] (.step 3 [] (.step 4 [] (.step 6 [] (.step 7 [] (.step 9 [] (.step 10 [] (.step 2 [4,7,10] (.step 5 [7,10] (.step 8 [10] (.step 11 [1] (.done))))))))))))) (.step 16 [4] (.step 17 [7] (.step 18 [] (.step 19 [] (.done))))) (by decide+kernel) (by simp) ?_
   simp -dsimp only [go_sem]
   refine(of_c a.lo _ (W0x a1)).mono ?_
   rintro r st ⟨rfl,rfl⟩
   simp -dsimp only [go_sem]
   refine(of_c a.hi _ (W0x a2)).mono ?_
   rintro r st ⟨rfl,rfl⟩
   simp -dsimp only [go_sem]
   refine(of_c c _ (W0x hc)).mono ?_
   rintro r st ⟨rfl,rfl⟩
   simp -dsimp only [go_sem]
   refine(of_c c _ (W0x hc)).mono ?_
   rintro r st ⟨rfl,rfl⟩
   generalize ofN a.lo=x at*
   generalize ofN a.hi=y at*
   generalize ofN c=u at*
   simp -dsimp only [go_sem,t0,t1,t3]
   refine(k2p x y u q _ d1 d2 d3 hcm hsg q2).mono ?_
   rintro r st ⟨rfl,rfl⟩
   simp -dsimp only [go_sem]
end Go.Pv
end
