/- Walk. -/
import Derived.Test.YtpfladficeildaaGreatDoorZK
import Derived.Laws.Externs
import Derived.Test.YtpfladficeildaaGreatDoorZG
set_option linter.all false
set_option maxHeartbeats 160000000
section
namespace Go.Pv
open Go.Proofs
theorem Q2s {vs:Lb}{x y z:Value}(hl:vs.size=3)(h0:vs.getD 0 undef=x)(h1:vs.getD 1 undef=y)(h2:vs.getD 2 undef=z):vs= #[x,y,z]:=by
 obtain⟨l⟩:=vs
 match l,hl with
 | [a,b,c],_=>
  have e0:a=x:=h0;have e1:b=y:=h1;have e2:c=z:=h2;subst e0;subst e1;subst e2;rfl
theorem V0g {P:Pg}{f:FuncId}{x y z:Value}{u v:Value}(st:Qc)(h: ∀w,(callFunc f #[x,y,z]).run P w= .ok (.value (.tuple #[u,v])) w):
 ExtCalls P f [.sc x,.sc y,.sc z] st (fun r st'=>r= .tup [.sc u,.sc v]/\st'=st):=by
 refine⟨.tup [.sc u,.sc v],(fun _ _ h=>nomatch h),fun w g vs hr=>⟨.tuple #[u,v],?_,?_⟩,rfl,rfl⟩;have h0:=Rep.sc_inv (hr.2 0 (by simp));have h1:=Rep.sc_inv (hr.2 1 (by simp));have h2:=Rep.sc_inv (hr.2 2 (by simp));rw[Q2s hr.1 h0 h1 h2];exact h w;refine .tup _ _ rfl fun j hj=> ?_
 match j,hj with
 | 0,_=>exact .sc _
 | 1,_=>exact .sc _
theorem v0g {P:Pg}(x y b:Nat)(hb:b<=1)(w:Lw):((Extern.MathBitsCarry.rows[1]'(by decide)).2 #[.int .u64 x,.int .u64 y,.int .u64 b]).run P w=
 .ok (.tuple #[.int .u64 (((x+18446744073709551616-y-b) % 18446744073709551616:Nat):Int),.int .u64 ((if x<y+b then 1 else 0:Nat):Int)]) w:=by
 have:b=0\/b=1:=oG;rcases this with rfl | rfl<;>rfl
theorem v0s {P:Pg}(x y c:Nat)(hc:c<=1)(w:Lw):((Extern.MathBitsCarry.rows[0]'(by decide)).2 #[.int .u64 x,.int .u64 y,.int .u64 c]).run P w=
 .ok (.tuple #[.int .u64 (((x+y+c) % 18446744073709551616:Nat):Int),.int .u64 (((x+y+c)/18446744073709551616:Nat):Int)]) w:=by
 have:c=0\/c=1:=oG;rcases this with rfl | rfl<;>rfl
theorem Z2o (x y c:Nat)(st:Qc)(hc:c<=1):ExtCalls Tryz.prog 286 [.sc (.int .u64 x),.sc (.int .u64 y),.sc (.int .u64 c)] st (fun r st'=>r= .tup [.sc (.int .u64 ((x+y+c) % 18446744073709551616:Nat)),.sc (.int .u64 ((x+y+c)/18446744073709551616:Nat))]/\st'=st):=by refine V0g st fun w=> ?_;rw[run_callFunc_extern Tryz.func286 (by kernel_rfl) (by kernel_rfl) (by kernel_rfl) (e:=(Extern.MathBitsCarry.rows[0]'(by decide)).2) (by kernel_rfl),v0s x y c hc w];rfl
theorem x0w (x y b:Nat)(st:Qc)(hb:b<=1):ExtCalls Tryz.prog 288 [.sc (.int .u64 x),.sc (.int .u64 y),.sc (.int .u64 b)] st (fun r st'=>r= .tup [.sc (.int .u64 ((x+18446744073709551616-y-b) % 18446744073709551616:Nat)),.sc (.int .u64 (if x<y+b then 1 else 0:Nat))]/\st'=st):=by refine V0g st fun w=> ?_;rw[run_callFunc_extern Tryz.func288 (by kernel_rfl) (by kernel_rfl) (by kernel_rfl) (e:=(Extern.MathBitsCarry.rows[1]'(by decide)).2) (by kernel_rfl),v0g x y b hb w];rfl
theorem xU (x y c:Nat)(st:Qc)(hx:x<18446744073709551616)(hy:y<18446744073709551616)(hc:c<=1):ExtCalls Tryz.prog 286 [.sc (.int .u64 x),.sc (.int .u64 y),.sc (.int .u64 c)] st
 (fun r st'=> ∃(z:UInt64) (c':Nat),c'<=1/\z.toNat+18446744073709551616*c'=x+y+c/\r= .tup [.sc (.int .u64 z.toNat),.sc (.int .u64 c')]/\st'=st):=by
 refine(Z2o x y c st hc).mono ?_;rintro r st' ⟨rfl,rfl⟩;have hz:(UInt64.ofNat ((x+y+c) % 18446744073709551616)).toNat=(x+y+c) % 18446744073709551616:=(by rw[FC];omega);refine⟨UInt64.ofNat ((x+y+c) % 18446744073709551616),(x+y+c)/18446744073709551616,oG,by rw[hz];omega,by rw[hz],rfl⟩
theorem Eb (x y b:Nat)(st:Qc)(hx:x<18446744073709551616)(hy:y<18446744073709551616)(hb:b<=1):ExtCalls Tryz.prog 288 [.sc (.int .u64 x),.sc (.int .u64 y),.sc (.int .u64 b)] st
 (fun r st'=> ∃(z:UInt64) (b':Nat),b'<=1/\z.toNat+y+b=x+18446744073709551616*b'/\r= .tup [.sc (.int .u64 z.toNat),.sc (.int .u64 b')]/\st'=st):=by
 refine(x0w x y b st hb).mono ?_;rintro r st' ⟨rfl,rfl⟩;have hz:(UInt64.ofNat ((x+18446744073709551616-y-b) % 18446744073709551616)).toNat=(x+18446744073709551616-y-b) % 18446744073709551616:=(by rw[FC];omega);refine⟨UInt64.ofNat ((x+18446744073709551616-y-b) % 18446744073709551616),if x<y+b then 1 else 0,by split<;>omega,?_,by rw[hz],rfl⟩;rw[hz];split<;>omega
theorem j1a (l:Lu):(Qo l).all PV.scal=true:=by rw[q_d];intro p hp;simp[Qo] at hp;obtain⟨c,_,rfl⟩:=hp;rfl
theorem J1h (a:Lu)(n:Nat)(h:a.length<=n):Q4 (Qo (List.replicate n 0)) 0 (Qo a)=Qo (a++List.replicate (n-a.length) 0):=by unfold Q4 Qo;simp[E2,List.drop_replicate]
set_option maxRecDepth 100000
theorem yv (o:Lu)(i:Nat)(z:UInt64)(c c' y S:Nat)(hi:i<o.length)(hz:z.toNat+18446744073709551616*c'=(o.getD i 0).toNat+y+c)(hv:Qd o+18446744073709551616^i*c=S):
 Qd (o.set i z)+18446744073709551616^(i+1)*c'=S+18446744073709551616^i*y:=by
 have e1:=Gw o i z hi;have h:=B4 (18446744073709551616^i* ·) hz;simp only[CE] at h;rw[B5,BW];omega
theorem w1g (A B:Lu)(m0 c V:Nat)(h0:m0=A.length+1)(hl:B.length<=A.length)(hv:V+18446744073709551616^m0*c=Qd A+Qd B):c=0:=by
 have vB:=Jg B;have vA:=Jg A;have hp:18446744073709551616^B.length<=18446744073709551616^A.length:=BS (by decide) hl;apply Nat.eq_zero_of_not_pos;intro hc;have:18446744073709551616^m0*1<=18446744073709551616^m0*c:=DP _ hc;rw[h0,B5] at*
 omega
theorem vi (a b:Lu)(st:Qc)(ha:a.length<=1000000000000)(hb:b.length<=1000000000000):PR 219 [.sl .no (Qo a),.sl .no (Qo b)] st (.sl .no (Qo (QB (Qd a+Qd b)))):=by
 refine Ql Tryz.func219 fun E=> ?_;refine(X8 a st oG).Q ?_;refine(X8 b st oG).Q ?_;have la:=Km a;have lb:=Km b;rw[<-KS a,<-KS b];generalize QM a=a at*
 generalize QM b=b at*
 obtain⟨N,hN⟩: ∃N,N=Qd a+Qd b:=⟨_,rfl⟩;rw[<-hN];refine ck ?_ ?_<;>intro h
 case' refine_1=>
  have hle:a.length<=b.length:=oT h
  have h1:b.length<=1000000000000:=oG;have hM:N=Qd b+Qd a:=oG;clear h la lb ha hb hN;generalize a=B at*
  generalize b=A at*
 case' refine_2=>
  have hle:b.length<=a.length:=oF h
  have h1:a.length<=1000000000000:=oG;have hM:N=Qd a+Qd b:=hN;clear h la lb ha hb hN;generalize b=B at*
  generalize a=A at*
 all_goals
  obtain⟨m0,hm0⟩: ∃m0,m0=A.length+1:=⟨_,rfl⟩;have x1:IntKind.i64.wrap ((A.length:Int)+1)=((m0:Nat):Int):=(by rw[show((A.length:Int)+1)=((A.length+1:Nat):Int) from rfl,QP _ oG,hm0]);have x2:=j1a A;have x3:A.take m0=A:=BF oG;have x4:=J1h A m0 oG;have x5:m0-A.length=1:=oG;rw[x5] at x4;have vB:=Jg B;have vA:=Jg A;simp-dsimp only[go_sem,x1,x2,x3,x4];refine⟨⟨oG,oG,oG⟩,⟨by simp;omega,by simp;omega⟩,?_⟩;refine Q1 ([false,true,false,false,false,true,true]++rF 21++ [true,true]) 1 0
   (fun m s'=> ∃i c o,m=B.length-i/\i<=B.length/\c<=1/\o.length=m0/\Qd o+18446744073709551616^i*c=Qd A+Qd (B.take i)/\
    s'=⟨[.junk,.sl .no (Qo B),.junk,.junk,.junk,.ms false 0 0 m0,.sc (.int .u64 (c:Nat))]++jk 21++ [.sc (.int .i64 B.length),.sc (.int .i64 (i:Nat))]++jk 43,[Qo o],[],st⟩) B.length ?_ ?_
  refine Qq ?_;refine⟨0,0,A++ [0],oG,oG,oG,by simp;omega,?_,rfl⟩;rw[HK];simp[Qd,nW,val];rintro m s' ⟨i,c,o,rfl,hi,hc,ho,hv,rfl⟩;refine QS ?_ ?_<;>intro h;have hlt:i<B.length:=(oT h);have g1:=ZK B i hlt;have g2:=ZK o i oG;have x6:=J2v i oG;refine Qq ?_;refine Q8 73 (Qk [0,1,2,3,4,5,6,7,8,9,10,11,12,13,14,15,16,17] .done) ?_;simp-dsimp only[go_sem,g1,g2];refine⟨⟨oG,oG⟩,oG,⟨oG,hlt⟩,?_⟩;refine(xU (o.getD i 0).toNat (B.getD i 0).toNat c st (BT _) (BT _) hc).mono ?_;rintro r st' ⟨z,c',hc',hz,rfl,rfl⟩;have o1:=Yi o i z oG;have e1:=Gw o i z oG;have e2:=WN B i hlt;simp-dsimp only[go_sem,g1,g2,o1,x6];have hs:=yv o i z c c' (B.getD i 0).toNat _ oG hz hv;refine⟨⟨oG,oG⟩,⟨oG,oG⟩,_,oG,i+1,c',o.set i z,rfl,oG,hc',by rw[BL];exact ho,?_,rfl⟩;rw[hs,e2];omega;have hge:i=B.length:=(oF h);refine Qq ?_;refine Qp ?_;rw[hge,B0,<-hM] at hv;rw[hge] at*
  refine Q1 [false,false,false,false,false,true,true,false,true] 1 0
   (fun m s'=> ∃i c o,m=m0-i/\i<=m0/\c<=1/\o.length=m0/\Qd o+18446744073709551616^i*c=N/\
    s'=⟨[.junk,.junk,.junk,.junk,.junk,.ms false 0 0 m0,.sc (.int .u64 (c:Nat)),.junk,.sc (.int .i64 (i:Nat))]++jk 64,[Qo o],[],st⟩) (m0-B.length) ?_ ?_
  refine Qq ?_;exact⟨B.length,c,o,oG,oG,hc,ho,hv,rfl⟩;clear hv hc ho;clear o c;rintro m s' ⟨i,c,o,rfl,hi,hc,ho,hv,rfl⟩;refine QS ?_ ?_<;>intro h;have hlt:i<m0:=(oT h);refine QS ?_ ?_<;>intro h;have hc0:c=0:=JS (b:=0) h;have hN0:Qd o=N:=(by rw[hc0] at hv;simpa using hv);have ht:o.take m0=o:=BF oG;have hle2:m0<=o.length:=oG;refine Qq ?_;refine Z5 0 ?_ ?_;exact QA;refine Qb ?_;simp-dsimp only[go_sem,ht,hle2];refine(X8 o st oG).Q ?_;rw[<-Xx o,hN0];have g2:=ZK o i oG;have x6:=J2v i oG;simp-dsimp only[go_sem,g2];refine⟨⟨oG,oG⟩,oG,?_⟩;refine(xU (o.getD i 0).toNat 0 c st (BT _) (by decide) hc).mono ?_;rintro r st' ⟨z,c',hc',hz,rfl,rfl⟩;have o1:=Yi o i z oG;have hs:=yv o i z c c' 0 _ oG hz hv;simp-dsimp only[go_sem,o1,x6];refine⟨⟨oG,oG⟩,⟨oG,oG⟩,_,oG,i+1,c',o.set i z,rfl,oG,hc',by rw[BL];exact ho,by simpa using hs,rfl⟩;have hge2:i=m0:=(oF h);have hc0:c=0:=w1g A B m0 c (Qd o) hm0 hle (by rw[<-hge2,hv];exact hM);have hN0:Qd o=N:=(by rw[hc0] at hv;simpa using hv);have ht:o.take m0=o:=BF oG;have hle2:m0<=o.length:=oG;refine Qq ?_;refine Z5 0 ?_ ?_;exact QA;refine Qb ?_;simp-dsimp only[go_sem,ht,hle2];refine(X8 o st oG).Q ?_;rw[<-Xx o,hN0]
theorem Q0s (off:Nat)(T:Lu)(k:Nat)(h:k<T.length):(List.replicate off PV.junk++Qo T).getD (off+k) .junk= .sc (.int .u64 (T.getD k 0).toNat):=by rw[q_a,CA (by simp),EP,DY,<-q_a];exact ZK T k h
theorem Q0r (off:Nat)(T:Lu)(k:Nat)(c:UInt64)(h:k<T.length):Q4 (List.replicate off PV.junk++Qo T) (off+k) [.sc (.int .u64 c.toNat)]=List.replicate off PV.junk++Qo (T.set k c):=by unfold Q4;have e:Qo (T.set k c)=(Qo T).set k (.sc (.int .u64 c.toNat)):=(by unfold Qo;rw[E6]);rw[e,show List.replicate off PV.junk++(Qo T).set k (.sc (.int .u64 c.toNat))=(List.replicate off PV.junk++Qo T).set (off+k) (.sc (.int .u64 c.toNat)) from by rw[CJ _ _ (by simp),EP,DY]];rw[DS,BC (by simp[Qo];omega)];simp
theorem Q0t (off:Nat)(T:Lu):((List.replicate off PV.junk++Qo T).drop off).take T.length=Qo T:=by rw[ET (by simp),E4 (by simp),CQ,BF (by rw[Wd];exact BD _)]
theorem Y0x (o:Lu)(i:Nat)(z:UInt64)(c c' y S V:Nat)(hi:i<o.length)(hz:z.toNat+y+c=(o.getD i 0).toNat+18446744073709551616*c')(hv:Qd o+S=V+18446744073709551616^i*c):
 Qd (o.set i z)+(S+18446744073709551616^i*y)=V+18446744073709551616^(i+1)*c':=by
 have e1:=Gw o i z hi;have h:=B4 (18446744073709551616^i* ·) hz;simp only[CE] at h;rw[B5,BW];omega
theorem y1k (o:Lu)(S V n c:Nat)(hn:o.length=n)(hs:S<=V)(hv:Qd o+S=V+18446744073709551616^n*c):c=0:=by have v:=Jg o;rw[hn] at v;apply Nat.eq_zero_of_not_pos;intro hc;have:18446744073709551616^n*1<=18446744073709551616^n*c:=DP _ hc;omega
theorem Z0k (a b:Lu)(st:Qc)(ha:a.length<=1000000000000)(hb:b.length<=1000000000000):PR 220 [.sl .no (Qo a),.sl .no (Qo b)] st (.tup [.sl .no (Qo (if Qd a<Qd b then [] else QB (Qd a-Qd b))),.sc (.bool (decide (Qd b<=Qd a)))]):=by
 refine PCalls.drop ?_;refine Ql Tryz.func220 fun E=> ?_;refine(xd a b st oG oG).Q ?_;have bnd: ∀(l:Lu) (x:Bool),Bnd st.length (.tup [.sl .no (Qo l),.sc (.bool x)]):=fun l x=>by
  refine .tup _ fun j hj=> ?_
  match j,hj with
  | 0,_=>
   refine .sl _ _ 1 (fun i hi=> ?_) (fun i j hi hj=> ?_);rw[Wd] at hi;rw[ZK l i hi];rfl;rw[Wd] at hi;rw[ZK l i hi];have:j=0:=oG;subst this;exact .sc _
  | 1,_=>exact .sc _
 refine ck ?_ ?_<;>intro h;have hlt:Qd a<Qd b:=by have:=q_b h;unfold Xg Zu at this;split at this;omega;split at this<;>omega
 have h2:decide (Qd b<=Qd a)=false:=q_g oG;refine Qq ?_;rw[BC hlt,h2];exact⟨bnd [] false,[],(B9 _).symm,rfl⟩;have hle:Qd b<=Qd a:=by have:=q_c h;unfold Xg Zu at this;split at this;omega;omega
 have h2:decide (Qd b<=Qd a)=true:=q_h hle;rw[BA oG,h2];have la:=Km a;have lb:=Km b;have va:=KS a;have vb:=KS b;by_cases h0:QM a= [];refine Qq ?_;refine(za a st oG).plain.Q ?_;refine(X8 b st oG).q ?_;have a0:Qd a=0:=(by rw[<-va,h0];rfl);have hcb:QM b= []:=(by rw[<-Xx b,show Qd b=0 from oG,Wq]);rw[h0,hcb,a0,show 0-Qd b=0 from oG,Wq];refine Qq ?_;have f1:decide ((0:Int)<((0:Nat):Int))=false:=rfl;refine Q1 ([false,true,false,false,false,false,true,true]++rF 11++ [true,true]) 0 0
  (fun m s'=>m=0/\s'=⟨[.junk,.sl .no [],.junk,.junk,.junk,.junk,.sl .no [],.sc (.int .u64 0)]++jk 11++ [.sc (.int .i64 ((0:Nat):Int)),.sc (.int .i64 0)]++jk 43,[],[],st⟩) 0 ?_ ?_
 exact QA;rintro m s' ⟨rfl,rfl⟩;simp-dsimp only[go_sem,f1];refine Qp ?_;refine Q1 [false,false,false,false,false,false,true,true,false,true] 0 0
  (fun m s'=>m=0/\s'=⟨[.junk,.junk,.junk,.junk,.junk,.junk,.sl .no [],.sc (.int .u64 0),.junk,.sc (.int .i64 ((0:Nat):Int))]++jk 54,[],[],st⟩) 0 ?_ ?_
 exact QA;rintro m s' ⟨rfl,rfl⟩;have f2:decide (((0:Nat):Int)<((0:Nat):Int))=false:=rfl;simp-dsimp only[go_sem,f2];refine Qp ?_;refine(X8 [] st (by simp)).Q ?_;exact⟨bnd [] true,[],(B9 _).symm,rfl⟩;have hcall:=PCalls.owned (P:=Tryz.prog) (f:=287) (args:= [.sl .no (Qo a)]) (es:=Qo (QM a)) (by rw[Wd];exact EL.2 h0) (fun j hj=>⟨_,ZK _ j (by rw[Wd] at hj;exact hj)⟩) (fun p hp=>by simp at hp;subst hp;exact V1d a _) (za a [] oG) st;rw[Wd] at hcall;refine Qq ?_;refine hcall.mono ?_;rintro r st' ⟨off,rfl,rfl⟩;refine Qq ?_;refine(X8 b _ oG).w ?_;rintro st' rfl;have hBA:(QM b).length<=(QM a).length:=(by rw[<-Xx b,QB,BR];refine xI (by decide) _ _ ?_;have:=Jg (QM a);omega);rw[<-va,<-vb] at hle⊢;generalize QM a=A at*
 generalize QM b=B at*
 have vA:=Jg A;have hAp:0<A.length:=EL.2 h0;clear hcall va vb h;refine Qq ?_;have r0:(List.replicate off PV.junk).length=off:=EP;refine Q1 ([false,true,false,false,false,false,true,true]++rF 11++ [true,true]) 0 0
  (fun m s'=> ∃i c o,m=B.length-i/\i<=B.length/\c<=1/\o.length=A.length/\Qd o+Qd (B.take i)=Qd A+18446744073709551616^i*c/\
   s'=⟨[.junk,.sl .no (Qo B),.junk,.junk,.junk,.junk,.ms true st.length off A.length,.sc (.int .u64 (c:Nat))]++jk 11++ [.sc (.int .i64 B.length),.sc (.int .i64 (i:Nat))]++jk 43,[],[],st++ [List.replicate off PV.junk++Qo o]⟩) B.length ?_ ?_
 refine Qq ?_;exact⟨0,0,A,oG,oG,oG,rfl,by simp[Qd,nW,val],rfl⟩;rintro m s' ⟨i,c,o,rfl,hi,hc,ho,hv,rfl⟩;have gst:(st++ [List.replicate off PV.junk++Qo o]).getD st.length []=List.replicate off PV.junk++Qo o:=(by simp[q_a]);refine QS ?_ ?_<;>intro h;have hlt:i<B.length:=(oT h);have g1:=ZK B i hlt;have g2:=Q0s off o i oG;have x6:=J2v i oG;refine Qq ?_;refine Q8 64 (Qk [0,1,2,3,4,5,6,7,8,9,10,11,12,13,14,15,16,17] .done) ?_;simp-dsimp only[go_sem,g1,g2,gst];rw[r0];refine⟨⟨oG,oG⟩,oG,⟨oG,hlt⟩,?_⟩;refine(Eb (o.getD i 0).toNat (B.getD i 0).toNat c _ (BT _) (BT _) hc).mono ?_;rintro r st' ⟨z,c',hc',hz,rfl,rfl⟩;have o1:=Q0r off o i z oG;have e2:=WN B i hlt;have hs:=Y0x o i z c c' (B.getD i 0).toNat _ _ oG hz hv;have sst:(st++ [List.replicate off PV.junk++Qo o]).set st.length (List.replicate off PV.junk++Qo (o.set i z))=st++ [List.replicate off PV.junk++Qo (o.set i z)]:=(by rw[CJ _ _ (BD _)];simp);simp-dsimp only[go_sem,g1,g2,gst,o1,sst,x6];rw[r0];refine⟨⟨oG,oG⟩,⟨oG,oG⟩,_,oG,i+1,c',o.set i z,rfl,oG,hc',by rw[BL];exact ho,?_,rfl⟩;rw[e2];exact hs;have hge:i=B.length:=(oF h);refine Qq ?_;refine Qp ?_;rw[hge,B0] at hv;clear gst;refine Q1 [false,false,false,false,false,false,true,true,false,true] 0 0
  (fun m s'=> ∃i c o,m=A.length-i/\i<=A.length/\c<=1/\o.length=A.length/\Qd o+Qd B=Qd A+18446744073709551616^i*c/\
   s'=⟨[.junk,.junk,.junk,.junk,.junk,.junk,.ms true st.length off A.length,.sc (.int .u64 (c:Nat)),.junk,.sc (.int .i64 (i:Nat))]++jk 54,[],[],st++ [List.replicate off PV.junk++Qo o]⟩) (A.length-B.length) ?_ ?_
 refine Qq ?_;exact⟨B.length,c,o,oG,oG,hc,ho,hv,rfl⟩;clear hv hc ho hge hi h;clear i c o;rintro m s' ⟨i,c,o,rfl,hi,hc,ho,hv,rfl⟩;refine QS ?_ ?_<;>intro h;have hlt:i<A.length:=(oT h);refine QS ?_ ?_<;>intro h;have hc0:c=0:=JS (b:=0) h;have hN0:Qd o=Qd A-Qd B:=(by rw[hc0,DQ] at hv;omega);have gst:(st++ [List.replicate off PV.junk++Qo o]).getD st.length []=List.replicate off PV.junk++Qo o:=(by simp[q_a]);have hct:=Q0t off o;rw[ho] at hct;have hle3:off+A.length<=(List.replicate off PV.junk).length+o.length:=(by rw[r0];omega);refine Qq ?_;refine Ro st.length 6 (by simp) ?_ ?_ ?_;intro p hp;have hp':p∈List.replicate off PV.junk++Qo o:=(by rw[<-gst];exact hp);rcases DN.1 hp' with hp' | hp';rw[List.eq_of_mem_replicate hp'];rfl;simp[Qo] at hp';obtain⟨c,_,rfl⟩:=hp';rfl;intro e;have h2:(List.replicate off PV.junk++Qo o).length=0:=by have e':(st++ [List.replicate off PV.junk++Qo o]).getD st.length []= []:=e;rw[gst] at e';rw[e'];rfl
 rw[BH,Wd] at h2;omega;refine Qb ?_;simp-dsimp only[go_sem,gst,hct,hle3];refine(X8 o _ oG).Q ?_;rw[<-Xx o,hN0];refine⟨bnd _ _,[[]],?_,rfl⟩;rw[CJ _ _ (BD _)];simp;have gst:(st++ [List.replicate off PV.junk++Qo o]).getD st.length []=List.replicate off PV.junk++Qo o:=(by simp[q_a]);have g2:=Q0s off o i oG;have x6:=J2v i oG;simp-dsimp only[go_sem,g2,gst];rw[r0];refine⟨⟨oG,oG⟩,oG,?_⟩;refine(Eb (o.getD i 0).toNat 0 c _ (BT _) (by decide) hc).mono ?_;rintro r st' ⟨z,c',hc',hz,rfl,rfl⟩;have o1:=Q0r off o i z oG;have hs:=Y0x o i z c c' 0 _ _ oG hz hv;have sst:(st++ [List.replicate off PV.junk++Qo o]).set st.length (List.replicate off PV.junk++Qo (o.set i z))=st++ [List.replicate off PV.junk++Qo (o.set i z)]:=(by rw[CJ _ _ (BD _)];simp);simp-dsimp only[go_sem,gst,o1,sst,x6];rw[r0];exact⟨⟨oG,oG⟩,⟨oG,oG⟩,_,oG,i+1,c',o.set i z,rfl,oG,hc',by rw[BL];exact ho,by simpa using hs,rfl⟩;have hge2:i=A.length:=(oF h);have hc0:c=0:=y1k o (Qd B) (Qd A) A.length c ho hle (by rw[hv,hge2]);have hN0:Qd o=Qd A-Qd B:=(by rw[hc0,DQ] at hv;omega);have gst:(st++ [List.replicate off PV.junk++Qo o]).getD st.length []=List.replicate off PV.junk++Qo o:=(by simp[q_a]);have hct:=Q0t off o;rw[ho] at hct;have hle3:off+A.length<=(List.replicate off PV.junk).length+o.length:=(by rw[r0];omega);refine Qq ?_;refine Ro st.length 6 (by simp) ?_ ?_ ?_;intro p hp;have hp':p∈List.replicate off PV.junk++Qo o:=(by rw[<-gst];exact hp);rcases DN.1 hp' with hp' | hp';rw[List.eq_of_mem_replicate hp'];rfl;simp[Qo] at hp';obtain⟨c,_,rfl⟩:=hp';rfl;intro e;have h2:(List.replicate off PV.junk++Qo o).length=0:=by have e':(st++ [List.replicate off PV.junk++Qo o]).getD st.length []= []:=e;rw[gst] at e';rw[e'];rfl
 rw[BH,Wd] at h2;omega;refine Qb ?_;simp-dsimp only[go_sem,gst,hct,hle3];refine(X8 o _ oG).Q ?_;rw[<-Xx o,hN0];refine⟨bnd _ _,[[]],?_,rfl⟩;rw[CJ _ _ (BD _)];simp
theorem x1m (x:Nm)(st:Qc):PR 194 [.agg (Qf x)] st (.agg (Qf { x with neg:= !x.neg })):=by refine Qh none Tryz.func194 rfl fun E=>Qb ?_;exact QA
def yo (v:Value)(z:Nat):Bool:=
 match v with
 | .int .u8 n=>n==(z:Int)
 | _=>false
theorem w1b {v:Value}{z:Nat}(h:yo v z=true):v= .int .u8 z:=by unfold yo at h;split at h;rename_i n;have e:n=(z:Int):=(by simpa using h);rw[e];cases h
def deb :List Value:=(theTab.getD 0 (0,[])).2
theorem W0k :zd 0= .ep (deb.map .sc) 0:=(rfl)
theorem k1n :((List.range 64).all fun z=>yo (deb.getD (2^z*285870213051353865 % 18446744073709551616/2^58) undef) z)=true:=by decide+kernel
theorem IT :deb.length=64:=by decide+kernel
theorem W0l (z:Nat)(hz:z<64):(deb.map PV.sc).getD (2^z*285870213051353865 % 18446744073709551616/2^58) .junk= .sc (.int .u8 z):=by have h:=List.all_eq_true.1 k1n z (by simpa using hz);have h2:=w1b h;have hl:2^z*285870213051353865 % 18446744073709551616/2^58<deb.length:=(by rw[IT];omega);rw[Jb _ _ _ _ undef hl,h2]
theorem q0m (x:Nat)(h0:x≠0)(hx:x<18446744073709551616):IntKind.u64.wrap (0-(x:Int))=((18446744073709551616-x:Nat):Int):=by unfold IntKind.wrap IntKind.signed IntKind.bits;simp;omega
theorem q0l (x:Nat)(h0:x≠0)(hx:x<18446744073709551616):ZV .u64 (x:Int) ((18446744073709551616-x:Nat):Int)=((2^tz x:Nat):Int):=by rw[YN _ _ hx oG,Y1w x oG hx]
theorem Cl (y:Nat):IntKind.u64.wrap ((y:Int)*285870213051353865)=((y*285870213051353865 % 18446744073709551616:Nat):Int):=by rw[show(285870213051353865:Int)=((285870213051353865:Nat):Int) from rfl,<-CN,K8]
theorem q0k (y:Nat):Z7 .u64 (y:Int) 58=((y/2^58:Nat):Int):=Vq _ 58 oG
theorem q0j (y:Nat):y % 18446744073709551616/2^58<64:=oG
theorem Cp (x z y j t:Nat)(T:Lp)(st:Qc)(hx:x<18446744073709551616)(n1:x≠0->IntKind.u64.wrap (0-(x:Int))=((18446744073709551616-x:Nat):Int))(n2:x≠0->ZV .u64 (x:Int) ((18446744073709551616-x:Nat):Int)=(z:Int))
 (n3:IntKind.u64.wrap ((z:Int)*285870213051353865)=(y:Int)) (n4:Z7 .u64 (y:Int) 58=(j:Int)) (hj:j<64) (ht:zd 0= .ep T 0) (hl:T.length=64) (hg:T.getD j .junk= .sc (.int .u8 t)) (h6:t<=64):
 PR 188 [.sc (.int .u64 x)] st (.sc (.int .i64 (if x=0 then 64 else t:Nat))):=by
 refine Ql Tryz.func188 fun E=> ?_;refine ck ?_ ?_<;>intro h;have h0:=JS (b:=0) h;refine Qq ?_;rw[BC h0];rfl;have h0:=V2 (b:=0) h;have n1:=n1 h0;have n2:=n2 h0;rw[BA h0];simp-dsimp only[go_sem,PFS.ev,n1,n2,n3,n4,ht,hg,hl];refine⟨⟨oG,hj⟩,oG,?_⟩;rw[QP _ oG]
theorem q0o (x:Nat)(st:Qc)(hx:x<18446744073709551616):PR 188 [.sc (.int .u64 x)] st (.sc (.int .i64 (if x=0 then 64 else tz x:Nat))):=by by_cases h0:x=0;refine(Cp x 1 285870213051353865 0 0 (deb.map .sc) st hx (fun h=>absurd h0 h) (fun h=>absurd h0 h) (Cl 1) ?_ oG W0k (by rw[BR,IT]) ?_ oG).mono ?_;exact Vq 285870213051353865 58 oG;exact W0l 0 oG;rintro r st' ⟨rfl,rfl⟩;rw[BC h0,BC h0];exact⟨rfl,rfl⟩;have hz:=jt x oG hx;exact Cp x (2^tz x) _ _ (tz x) (deb.map .sc) st hx (fun _=>q0m x h0 hx) (fun _=>q0l x h0 hx) (Cl _) (q0k _) (q0j _) W0k (by rw[BR,IT]) (W0l _ hz) oG
theorem Z0j (a:Lu)(st:Qc)(ha:a.length<=1000000000000):PR 119 [.sl .no (Qo a)] st (.sc (.int .i64 (tz (Qd a):Nat))):=by
 refine Ql Tryz.func119 fun E=> ?_;refine Q1 [false,false,false,false,false,true,true,true] 0 0
  (fun m s'=> ∃i,m=a.length-i/\i<=a.length/\Qd (a.take i)=0/\s'=⟨[.junk,.junk,.junk,.junk,.junk,.sl .no (Qo a),.sc (.int .i64 a.length),.sc (.int .i64 (i:Nat))]++jk 12,[],[],st⟩) a.length ?_ ?_
 refine Qq ?_;exact⟨0,oG,oG,rfl,rfl⟩;rintro m s' ⟨i,rfl,hi,hv,rfl⟩;refine QS ?_ ?_<;>intro h;have hlt:i<a.length:=(oT h);have g1:=ZK a i hlt;have x4:=J2v i oG;have x5:IntKind.i64.wrap (64*(i:Int))=((64*i:Nat):Int):=(by rw[show(64*(i:Int))=((64*i:Nat):Int) from oG,QP _ oG]);have e2:=WN a i hlt;simp-dsimp only[go_sem,g1];refine⟨oG,?_⟩;refine ck ?_ ?_<;>intro h;have hne:(a.getD i 0).toNat≠0:=Ve (b:=0) h;have hz:=jt (a.getD i 0).toNat oG (BT _);have x6:IntKind.i64.wrap (((64*i:Nat):Int)+((tz (a.getD i 0).toNat:Nat):Int))=((64*i+tz (a.getD i 0).toNat:Nat):Int):=(by rw[<-C7,QP _ oG]);have ht:=q0i a i hlt hv hne;refine Qq ?_;refine(q0o (a.getD i 0).toNat st (BT _)).q ?_;rw[BA hne];simp-dsimp only[go_sem,x5,x6,ht];have h0:(a.getD i 0).toNat=0:=Kg (b:=0) h;simp-dsimp only[go_sem,x4];refine⟨a.length-(i+1),oG,i+1,rfl,oG,?_,rfl⟩;rw[e2,hv,h0,DQ];have hge:i=a.length:=(oF h);refine Qq ?_;refine Qp ?_;rw[hge,B0] at hv;rw[hv,js];rfl
theorem W0c (a b c:Nat):a/b/c=a/c/b:=by rw[CV,CV,BM]
theorem V0x (a o:Lu)(k s i:Nat)(w:UInt64)(hs:s<64)(hi:i<o.length)(hv:Qd (o.take i)=Qd (a.drop k)/2^s % 18446744073709551616^i)
 (hw:w.toNat=(a.getD (i+k) 0).toNat/2^s+(a.getD (i+k+1) 0).toNat*2^(64-s) % 18446744073709551616):
 Qd ((o.set i w).take (i+1))=Qd (a.drop k)/2^s % 18446744073709551616^(i+1):=by
 have e1:(o.set i w).take i=o.take i:=(by rw[List.take_set_of_le (BD i)]);rw[WN _ _ (by rw[BL];exact hi),e1,Vi,BC ⟨rfl,hi⟩,hv,Z0o,hw];congr 1;congr 1;have h1:Qd (a.drop k)/2^s/18446744073709551616^i=Qd (a.drop (i+k))/2^s:=by by_cases hle:i+k<=a.length;have:=W0d (a.drop k) i (by rw[DM];omega);rw[W0c,this,List.drop_drop,EW k i];have hz:Qd (a.drop (i+k))=0:=jn _ _ oG;have hlt:=Jg (a.drop k);rw[DM] at hlt;have hlt2:Qd (a.drop k)<18446744073709551616^i:=q_e hlt (BS (by decide) oG);rw[hz,Nat.zero_div,W0c,CP hlt2,Nat.zero_div]
 rw[h1,qK a (i+k),qK a (i+k+1),V0y _ _ _ _ (BT _) hs]
theorem j1x (a:Lu)(o:Lu)(n k s m:Nat)(hn:n=64*k+s)(hk:k<a.length)(hm:m=a.length-k)(ho:o.length=m)(hv:Qd (o.take m)=Qd (a.drop k)/2^s % 18446744073709551616^m):QM o=QB (Qd a/2^n):=by rw[BF oG] at hv;have hlt:=Jg (a.drop k);rw[DM,<-hm] at hlt;have h2:Qd (a.drop k)/2^s<18446744073709551616^m:=D1 (DB _ _) hlt;rw[BJ h2] at hv;rw[<-Xx,hv,hn,B2,<-CV,<-KI,W0d a k oG]
theorem Z0l (a:Lu)(n:Nat)(st:Qc)(ha:a.length<=1000000000000)(hn:n<=100000000000000):PR 120 [.sl .no (Qo a),.sc (.int .i64 n)] st (.sl .no (Qo (QB (Qd a/2^n)))):=by
 refine Ql Tryz.func120 fun E=> ?_;refine(X8 a st oG).q ?_;have la:=Km a;rw[<-KS a];generalize QM a=a at*
 have eq:IntKind.i64.wrap ((n:Int).tdiv 64)=((n/64:Nat):Int):=(by rw[show(64:Int)=((64:Nat):Int) from rfl,Uj,QP _ oG]);have er:(n:Int).tmod 64=((n % 64:Nat):Int):=(by rw[show(64:Int)=((64:Nat):Int) from rfl,Yv]);have hnk:n=64*(n/64)+n % 64:=oG;have hs':n % 64<64:=oG;have hkb:n/64<=100000000000000:=oG;generalize n/64=k at*
 generalize n % 64=s at*
 simp-dsimp only[go_sem,eq,er];refine ck ?_ ?_<;>intro h;have hle:a.length<=k:=(oT h);refine Qq ?_;have hz:Qd a/2^n=0:=by refine CP (q_e (Jg a) ?_);rw[KI];exact BS (by decide) oG
 rw[hz,Wq];rfl;have hk:k<a.length:=(oF h);have e1:IntKind.i64.wrap ((a.length:Int)-(k:Int))=((a.length-k:Nat):Int):=(by rw[<-Int.ofNat_sub oG,QP _ oG]);obtain⟨m0,hm0⟩: ∃m0,m0=a.length-k:=⟨_,rfl⟩;rw[<-hm0] at e1;simp-dsimp only[go_sem,e1];refine⟨⟨oG,oG,oG⟩,?_⟩;refine Q1 ([true,false,false,false,false,true,true,true]++rF 17++ [true,true]) 1 0
  (fun m s'=> ∃i o,m=m0-i/\i<=m0/\o.length=m0/\Qd (o.take i)=Qd (a.drop k)/2^s % 18446744073709551616^i/\
   s'=⟨[.sl .no (Qo a),.junk,.junk,.junk,.junk,.sc (.int .i64 k),.sc (.int .i64 s),.ms false 0 0 m0]++jk 17++ [.sc (.int .i64 m0),.sc (.int .i64 (i:Nat))]++jk 39,[Qo o],[],st⟩) m0 ?_ ?_
 refine Qq ?_;refine⟨0,List.replicate m0 0,oG,oG,by simp,by simp[Vv,FQ],rfl⟩;rintro m s' ⟨i,o,rfl,hi,ho,hv,rfl⟩;refine QS ?_ ?_<;>intro h;have hlt:i<m0:=(oT h);have g1:=ZK a (i+k) oG;have x1:IntKind.i64.wrap ((i:Int)+(k:Int))=((i+k:Nat):Int):=(by rw[<-C7,QP _ oG]);have x2:IntKind.i64.wrap (((i+k:Nat):Int)+1)=((i+k+1:Nat):Int):=(by rw[show(((i+k:Nat):Int)+1)=((i+k+1:Nat):Int) from rfl,QP _ oG]);have x4:=J2v i oG;have x5:decide (0<=(s:Int))=true:=q_h oG;have w0:(a.getD (i+k) 0).toNat/2^s<18446744073709551616:=D1 (DB _ _) (BT _);have s1:Z7 .u64 ((a.getD (i+k) 0).toNat:Int) (s:Int)=(((UInt64.ofNat ((a.getD (i+k) 0).toNat/2^s)).toNat:Nat):Int):=(by rw[Vq _ _ oG,Xz _ w0]);have o1:=Yi o i (UInt64.ofNat ((a.getD (i+k) 0).toNat/2^s)) oG;simp-dsimp only[go_sem,x1,x2,x5,g1,s1,o1];refine⟨⟨oG,oG⟩,⟨oG,oG⟩,⟨oG,oG⟩,?_⟩;refine ck ?_ ?_<;>intro h;have hlt2:i+k+1<a.length:=(oT h);have g3:=ZK a (i+k+1) hlt2;have x3:IntKind.i64.wrap (64-(s:Int))=((64-s:Nat):Int):=(by rw[show 64-(s:Int)=((64-s:Nat):Int) from oG,QP _ oG]);have x6:decide (0<=((64-s:Nat):Int))=true:=q_h oG;have hw:=V0y (a.getD (i+k) 0).toNat (a.getD (i+k+1) 0).toNat 0 s (BT _) hs';have hwl:(a.getD (i+k) 0).toNat/2^s+(a.getD (i+k+1) 0).toNat*2^(64-s) % 18446744073709551616<18446744073709551616:=(by rw[<-hw];exact CG _ (by decide));have s2:Jr .u64 ((a.getD (i+k+1) 0).toNat:Int) ((64-s:Nat):Int)=(((a.getD (i+k+1) 0).toNat*2^(64-s) % 18446744073709551616:Nat):Int):=YM _ _ oG;have s3:bOr .u64 ((((UInt64.ofNat ((a.getD (i+k) 0).toNat/2^s)).toNat:Nat):Int)) (((a.getD (i+k+1) 0).toNat*2^(64-s) % 18446744073709551616:Nat):Int)=(((UInt64.ofNat ((a.getD (i+k) 0).toNat/2^s+(a.getD (i+k+1) 0).toNat*2^(64-s) % 18446744073709551616)).toNat:Nat):Int):=(by rw[Xz _ w0,qu _ _ w0 (CG _ (by decide)),j1w _ _ _ (BT _) hs',Xz _ hwl]);have g4:=ZK (o.set i (UInt64.ofNat ((a.getD (i+k) 0).toNat/2^s))) i (by rw[BL];omega);rw[Vi,BC ⟨rfl,oG⟩] at g4;have o2:=Yi (o.set i (UInt64.ofNat ((a.getD (i+k) 0).toNat/2^s))) i (UInt64.ofNat ((a.getD (i+k) 0).toNat/2^s+(a.getD (i+k+1) 0).toNat*2^(64-s) % 18446744073709551616)) (by rw[BL];omega);rw[List.set_set] at o2;have hst:=V0x a o k s i (UInt64.ofNat ((a.getD (i+k) 0).toNat/2^s+(a.getD (i+k+1) 0).toNat*2^(64-s) % 18446744073709551616)) hs' oG hv (Xz _ hwl);refine Qq ?_;refine Q8 66 (Qk [0,1,2,3,4,5,6,7,8,9,10,11,12,13,14,15,16] .done) ?_;simp-dsimp only[go_sem,x1,x2,x3,x4,x6,g3,g4,s2,s3,o2];refine⟨⟨oG,oG⟩,by simp;omega,⟨oG,oG⟩,⟨oG,oG⟩,⟨by simp;omega,by simp;omega⟩,m0-(i+1),oG,i+1,_,rfl,oG,by rw[BL];exact ho,hst,rfl⟩;have hge2:a.length<=i+k+1:=(oF h);have g0:a.getD (i+k+1) 0=0:=Wc _ _ _ hge2;have hst:=V0x a o k s i (UInt64.ofNat ((a.getD (i+k) 0).toNat/2^s)) hs' oG hv (by rw[g0,Xz _ w0];simp);simp-dsimp only[go_sem,x4];exact⟨m0-(i+1),oG,i+1,_,rfl,oG,by rw[BL];exact ho,hst,rfl⟩;have hge:i=m0:=(oF h);rw[hge] at hv;have ht:o.take m0=o:=BF oG;have hle:m0<=o.length:=oG;have hde:=j1x a o n k s m0 hnk hk hm0 ho hv;refine Qq ?_;refine Z5 0 ?_ ?_;exact QA;refine Qb ?_;simp-dsimp only[go_sem,ht,hle];refine(X8 o st oG).q ?_;simp-dsimp only[go_sem,hde]
theorem W1a (x y x0 x1 y0 y1 w0 t w1 w2 w3:Nat)(hx:x=x0+4294967296*x1)(hy:y=y0+4294967296*y1)(a0:x0<4294967296)(a1:x1<4294967296)(b0:y0<4294967296)(b1:y1<4294967296)
 (h0:w0=x0*y0) (h1:t=x1*y0+w0/4294967296) (h2:w1=t % 4294967296) (h3:w2=t/4294967296) (h4:w3=w1+x0*y1):
 w0<18446744073709551616/\x1*y0<18446744073709551616/\t<18446744073709551616/\x0*y1<18446744073709551616/\w3<18446744073709551616/\x1*y1+w2<18446744073709551616/\x1*y1+w2+w3/4294967296<18446744073709551616/\x1*y1+w2+w3/4294967296=x*y/18446744073709551616:=by
 have p00:x0*y0<=4294967295*4294967295:=DW oG oG;have p10:x1*y0<=4294967295*4294967295:=DW oG oG;have p01:x0*y1<=4294967295*4294967295:=DW oG oG;have p11:x1*y1<=4294967295*4294967295:=DW oG oG;have e:x*y=x0*y0+4294967296*(x1*y0)+4294967296*(x0*y1)+18446744073709551616*(x1*y1):=by rw[hx,hy];grind
 generalize x0*y0=a at*
 generalize x1*y0=b at*
 generalize x0*y1=c at*
 generalize x1*y1=d at*
 rw[e];refine⟨oG,oG,oG,oG,oG,oG,oG,oG⟩
theorem V1z (x y x0 x1 y0 y1 w0 t w1 w2 w3:Nat)(p00 p10 p01 p11 hi lo:Nat)(st:Qc)
 (n1:ZV .u64 (x:Int) 4294967295=(x0:Int)) (n2:Z7 .u64 (x:Int) 32=(x1:Int)) (n3:ZV .u64 (y:Int) 4294967295=(y0:Int)) (n4:Z7 .u64 (y:Int) 32=(y1:Int))
 (n5:IntKind.u64.wrap ((x0:Int)*y0)=(w0:Int)) (n6:IntKind.u64.wrap ((x1:Int)*y0)=(p10:Int)) (n7: ∃q:Nat,Z7 .u64 (w0:Int) 32=(q:Int)/\IntKind.u64.wrap ((p10:Int)+q)=(t:Int))
 (n8:ZV .u64 (t:Int) 4294967295=(w1:Int)) (n9:Z7 .u64 (t:Int) 32=(w2:Int)) (n10:IntKind.u64.wrap ((x0:Int)*y1)=(p01:Int)) (n11:IntKind.u64.wrap ((w1:Int)+p01)=(w3:Int))
 (n12:IntKind.u64.wrap ((x1:Int)*y1)=(p11:Int)) (n13: ∃q r:Nat,IntKind.u64.wrap ((p11:Int)+w2)=(q:Int)/\Z7 .u64 (w3:Int) 32=(r:Int)/\IntKind.u64.wrap ((q:Int)+r)=(hi:Int)) (n14:IntKind.u64.wrap ((x:Int)*y)=(lo:Int)):
 PR 339 [.sc (.int .u64 x),.sc (.int .u64 y)] st (.tup [.sc (.int .u64 hi),.sc (.int .u64 lo)]):=by
 obtain⟨q1,m1,m2⟩:=n7;obtain⟨q2,q3,m3,m4,m5⟩:=n13;refine Qh none Tryz.func339 rfl fun E=>Qb ?_;simp-dsimp only[go_sem,n1,n2,n3,n4,n5,n6,m1,m2,n8,n9,n10,n11,n12,m3,m4,m5,n14]
theorem qy (x:Nat)(hx:x<18446744073709551616):ZV .u64 (x:Int) 4294967295=((x % 4294967296:Nat):Int):=by have h:=YN x 4294967295 hx oG;rw[show(4294967295:Nat)=2^32-1 from rfl,FA] at h;exact h
theorem Us (x:Nat):Z7 .u64 (x:Int) 32=((x/4294967296:Nat):Int):=Vq x 32 oG
theorem qB (a b:Nat)(h:a*b<18446744073709551616):IntKind.u64.wrap ((a:Int)*b)=((a*b:Nat):Int):=by rw[<-CN,K8,BJ h]
theorem Gn (a b:Nat)(h:a+b<18446744073709551616):IntKind.u64.wrap ((a:Int)+b)=((a+b:Nat):Int):=by rw[<-C7,K8,BJ h]
theorem W1b (x y:Nat)(st:Qc)(hx:x<18446744073709551616)(hy:y<18446744073709551616):PCalls Tryz.prog 339 [.sc (.int .u64 x),.sc (.int .u64 y)] st
 (fun r st'=> ∃(hi lo:UInt64),lo.toNat+18446744073709551616*hi.toNat=x*y/\r= .tup [.sc (.int .u64 hi.toNat),.sc (.int .u64 lo.toNat)]/\st'=st):=by
 obtain⟨h0,h1,h2,h3,h4,h5,h6,h7⟩:=W1a x y (x % 4294967296) (x/4294967296) (y % 4294967296) (y/4294967296) _ _ _ _ _ oG oG oG oG oG oG rfl rfl rfl rfl rfl;refine(V1z x y (x % 4294967296) (x/4294967296) (y % 4294967296) (y/4294967296) _ _ _ _ _ 0 _ _ _ (x*y/18446744073709551616) (x*y % 18446744073709551616) st (qy x hx) (Us x) (qy y hy) (Us y) (qB _ _ h0) (qB _ _ h1)
  ⟨_,Us _,Gn _ _ h2⟩ (qy _ h2) (Us _) (qB _ _ h3) (Gn _ _ h4) (qB _ _ oG) ⟨_,_,Gn _ _ h5,Us _,?_⟩ (by rw[<-CN,K8])).mono ?_
 rw[Gn _ _ h6,h7];rintro r st' ⟨rfl,rfl⟩;have hb:x*y/18446744073709551616<18446744073709551616:=(by rw[<-h7];exact h6);refine⟨UInt64.ofNat (x*y/18446744073709551616),UInt64.ofNat (x*y % 18446744073709551616),?_,?_,rfl⟩;rw[Xz _ hb,Xz _ (CG _ (by decide))];exact FH _ _;rw[Xz _ hb,Xz _ (CG _ (by decide))]
theorem V1w (b:Lu)(i j x V S:Nat)(hj:j<b.length)(hS:S=V+18446744073709551616^i*(x*Qd (b.take j))):
 S+18446744073709551616^(i+j)*(x*(b.getD j 0).toNat)=V+18446744073709551616^i*(x*Qd (b.take (j+1))):=by
 rw[hS,WN b j hj,B2];grind
theorem V1x (a b o:Lu)(i:Nat)(c:UInt64)(hi:i<a.length)(hn:i+b.length<o.length)(h0:o.getD (i+b.length) 0=0)
 (hv:Qd o+18446744073709551616^(i+b.length)*c.toNat=Qd (a.take i)*Qd b+18446744073709551616^i*((a.getD i 0).toNat*Qd b)):
 Qd (o.set (i+b.length) c)=Qd (a.take (i+1))*Qd b:=by
 have h1:=Gw o (i+b.length) c hn;rw[h0,show(0:UInt64).toNat=0 from rfl,DQ,B1] at h1;rw[h1,hv,WN a i hi,BQ,BW]
theorem z0q (x y w c z1 z2 c1 c2 lo hi:Nat)(hx:x<18446744073709551616)(hy:y<18446744073709551616)(hw:w<18446744073709551616)(hc:c<18446744073709551616)
 (h1:lo+18446744073709551616*hi=x*y) (h2:z1+18446744073709551616*c1=lo+w) (h3:z2+18446744073709551616*c2=z1+c):
 hi+c1+c2<18446744073709551616/\z2+18446744073709551616*(hi+c1+c2)=w+x*y+c:=by
 have p:x*y<=18446744073709551615*18446744073709551615:=DW oG oG;generalize x*y=q at*
 omega
theorem V1q (a b:Lu)(st:Qc)(ha:a.length<=1000000000000)(hb:b.length<=1000000000000):PR 306 [.sl .no (Qo a),.sl .no (Qo b)] st (.sl .no (Qo (QB (Qd a*Qd b)))):=by
 refine Ql Tryz.func306 fun E=> ?_;refine(X8 a st oG).Q ?_;refine(X8 b st oG).Q ?_;have la:=Km a;have lb:=Km b;rw[<-KS a,<-KS b];generalize QM a=a at*
 generalize QM b=b at*
 have zero:a= []\/b= []->QB (Qd a*Qd b)= []:=by rintro(rfl | rfl);rw[Vv,DC,Wq];rw[Vv,DQ,Wq]
 by_cases h0:a.length=0
 . rw[zero (.inl (BZ.1 h0))];have f1:((a.length:Int)==0)=true:=(by rw[h0];rfl);simp-dsimp only[go_sem,f1]
   try rfl
 have f1:((a.length:Int)==0)=false:=CL.2 oG;by_cases h1:b.length=0
 . rw[zero (.inr (BZ.1 h1))];have f2:((b.length:Int)==0)=true:=(by rw[h1];rfl);simp-dsimp only[go_sem,f1,f2]
   try rfl
 have f2:((b.length:Int)==0)=false:=CL.2 oG;obtain⟨m0,hm0⟩: ∃m0,m0=a.length+b.length:=⟨_,rfl⟩;have e1:IntKind.i64.wrap ((a.length:Int)+(b.length:Int))=((m0:Nat):Int):=(by rw[<-C7,QP _ oG,hm0]);simp-dsimp only[go_sem,f1,f2,e1];refine⟨⟨oG,oG,oG⟩,?_⟩;refine Q1 ([false,true,false,false,false,true]++rF 26++ [true,true,true]) 1 0
  (fun m s'=> ∃i o,m=a.length-i/\i<=a.length/\o.length=m0/\Qd o=Qd (a.take i)*Qd b/\(∀q,i+b.length<=q->o.getD q 0=0)/\
   s'=⟨[.junk,.sl .no (Qo b),.junk,.junk,.junk,.ms false 0 0 m0]++jk 26++ [.sl .no (Qo a),.sc (.int .i64 a.length),.sc (.int .i64 (i:Nat))]++jk 57,[Qo o],[],st⟩) a.length ?_ ?_
 refine Qq ?_;refine⟨0,List.replicate m0 0,oG,oG,by simp,by simp[Bv,Vv],fun q _=>IB _ _ _,rfl⟩;rintro m s' ⟨i,o,rfl,hi,ho,hv,hz,rfl⟩;refine QS ?_ ?_<;>intro h;have hlt:i<a.length:=(oT h);have g1:=ZK a i hlt;have x4:=J2v i oG;simp-dsimp only[go_sem,g1];refine⟨oG,?_⟩;refine Q1 ([false,true,false,false,false,true,true,true,true]++rF 23++ [true,true,true,false,false,false,false,true,true,true]) 1 0
  (fun m s'=> ∃(j:Nat) (o:Lu) (c:UInt64),m=b.length-j/\j<=b.length/\o.length=m0/\Qd o+18446744073709551616^(i+j)*c.toNat=Qd (a.take i)*Qd b+18446744073709551616^i*((a.getD i 0).toNat*Qd (b.take j))/\(∀q,i+b.length<=q->o.getD q 0=0)/\
   s'=⟨[.junk,.sl .no (Qo b),.junk,.junk,.junk,.ms false 0 0 m0,.sc (.int .i64 (i:Nat)),.sc (.int .u64 (a.getD i 0).toNat),.sc (.int .u64 c.toNat)]++jk 23++ [.sl .no (Qo a),.sc (.int .i64 a.length),.sc (.int .i64 (i:Nat)),.junk,.junk,.junk,.junk,.sl .no (Qo b),.sc (.int .i64 b.length),.sc (.int .i64 (j:Nat))]++jk 50,[Qo o],[],st⟩) b.length ?_ ?_
 refine Qq ?_;refine⟨0,o,0,oG,oG,ho,?_,hz,rfl⟩;rw[hv];simp[Vv];clear hv hz ho h;clear o;rintro m s' ⟨j,o,c,rfl,hj,ho,hv,hz,rfl⟩;refine QS ?_ ?_<;>intro h;have hjt:j<b.length:=(oT h);have g2:=ZK b j hjt;have g3:=ZK o (i+j) oG;have x1:IntKind.i64.wrap ((i:Int)+(j:Int))=((i+j:Nat):Int):=(by rw[<-C7,QP _ oG]);have x2:=J2v j oG;simp-dsimp only[go_sem,g2];refine⟨oG,?_⟩;refine(W1b (a.getD i 0).toNat (b.getD j 0).toNat st (BT _) (BT _)).mono ?_;rintro r st ⟨hw,lw,hlw,rfl,rfl⟩;simp-dsimp only[go_sem,x1,g3];refine⟨⟨oG,oG⟩,oG,?_⟩;refine(xU lw.toNat (o.getD (i+j) 0).toNat 0 st (BT _) (BT _) (by decide)).mono ?_;rintro r st ⟨z1,c1,hc1,hz1,rfl,rfl⟩;refine Qq ?_;refine(xU z1.toNat c.toNat 0 st (BT _) (BT _) (by decide)).mono ?_;rintro r st ⟨z2,c2,hc2,hz2,rfl,rfl⟩;have q1:(a.getD i 0).toNat<18446744073709551616:=BT (a.getD i 0);have q2:(b.getD j 0).toNat<18446744073709551616:=BT (b.getD j 0);have q3:(o.getD (i+j) 0).toNat<18446744073709551616:=BT (o.getD (i+j) 0);have q4:c.toNat<18446744073709551616:=BT c;have q5:z1.toNat+18446744073709551616*c1=lw.toNat+(o.getD (i+j) 0).toNat:=(by rw[B1] at hz1;exact hz1);have q6:z2.toNat+18446744073709551616*c2=z1.toNat+c.toNat:=(by rw[B1] at hz2;exact hz2);have t12:=z0q (a.getD i 0).toNat (b.getD j 0).toNat (o.getD (i+j) 0).toNat c.toNat z1.toNat z2.toNat c1 c2 lw.toNat hw.toNat q1 q2 q3 q4 hlw q5 q6;have t1:=t12.1;have t2:=t12.2;have w1:=Gn hw.toNat c1 oG;have w2:=Gn (hw.toNat+c1) c2 t1;have w3:((hw.toNat+c1+c2:Nat):Int)=(((UInt64.ofNat (hw.toNat+c1+c2)).toNat:Nat):Int):=(by rw[Xz _ t1]);rw[w3] at w2;have o1:=Yi o (i+j) z2 oG;have hs:=yv o (i+j) z2 c.toNat (hw.toNat+c1+c2) ((a.getD i 0).toNat*(b.getD j 0).toNat) _ oG t2 hv;have hm:=V1w b i j (a.getD i 0).toNat (Qd (a.take i)*Qd b) _ hjt rfl;simp-dsimp only[go_sem,x1,x2,w1,w2,o1];refine⟨⟨oG,oG⟩,⟨oG,oG⟩,b.length-(j+1),oG,j+1,o.set (i+j) z2,UInt64.ofNat (hw.toNat+c1+c2),rfl,oG,by rw[BL];exact ho,?_,fun q hq=> ?_,rfl⟩;rw[Xz _ t1,<-hm,<-hs,<-DK i j 1];rw[Vi,BA oG];exact hz q hq;have hge:j=b.length:=(oF h);have x3:IntKind.i64.wrap ((i:Int)+(b.length:Int))=((i+b.length:Nat):Int):=(by rw[<-C7,QP _ oG]);have o1:=Yi o (i+b.length) c oG;rw[hge,B0] at hv;have hr:=V1x a b o i c hlt oG (hz _ (BD _)) hv;refine Qq ?_;refine Qb ?_;simp-dsimp only[go_sem,x3,o1];refine⟨⟨oG,oG⟩,⟨oG,oG⟩,?_⟩;refine Qb ?_;simp-dsimp only[go_sem,x4];refine⟨a.length-(i+1),oG,i+1,_,rfl,oG,by rw[BL];exact ho,hr,fun q hq=> ?_,rfl⟩;rw[Vi,BA oG];exact hz q oG;have hge:i=a.length:=(oF h);have ht:o.take m0=o:=BF oG;have hle:m0<=o.length:=oG;rw[hge,B0] at hv;refine Qq ?_;refine Z5 0 ?_ ?_;exact QA;refine Qb ?_;simp-dsimp only[go_sem,ht,hle];refine(X8 o st oG).Q ?_;rw[<-Xx o,hv]
theorem x1n (x:Nm)(st:Qc)(h1: -1000000000000<=x.exp)(h2:x.exp<=1000000000000):PR 256 [.agg (Qf x)] st (.agg (Qf { x with exp:=x.exp-1 })):=by refine Qh none Tryz.func256 rfl fun E=>Qb ?_;have x1:IntKind.i64.wrap (x.exp-1)=x.exp-1:=Q2 _ oG oG;simp-dsimp only[go_sem,x1]
theorem Hu (a b:Nm)(n k m l:Nat)(st:Qc)(ha:bd n k a)(hb:bd m l b)(h1:n<=100000000000)(h2:m<=100000000000)(h3:k<=100000000000)(h4:l<=100000000000):
 PCalls Tryz.prog 258 [.agg (Qf a),.agg (Qf b)] st (fun r st'=> ∃y,bd (n+m) (k+l) y/\qN y=qN a*qN b/\r= .agg (Qf y)/\st'=st):=by
 obtain⟨a1,a2,a3⟩:=ha;obtain⟨b1,b2,b3⟩:=hb;refine Qh none Tryz.func258 rfl fun E=>Qb ?_;have x1:IntKind.i64.wrap (a.exp+b.exp)=a.exp+b.exp:=Q2 _ oG oG;refine Qq ?_;refine Q8 21 (Qk [0,1,2,3,4,5,6,7,8,9,10,11,12,13] (.step 14 [1,3,6,8] (.step 15 [] (.step 16 [] (.done))))) ?_;simp-dsimp only[go_sem,x1];refine(V1q a.w b.w _ oG oG).q ?_;simp-dsimp only[go_sem,x1];exact⟨_,U1g a b n k m l ⟨a1,a2,a3⟩ ⟨b1,b2,b3⟩,Q1r a b,rfl⟩
theorem wH (a b:Nm)(n k:Nat)(st:Qc)(ha:bd n k a)(hb:bd n k b)(h1:n<=10000000000)(h3:k<=10000000000):
 PCalls Tryz.prog 140 [.agg (Qf a),.agg (Qf b)] st (fun r st'=> ∃y,bd (n+k+1) k y/\qN y=qN a+qN b/\r= .agg (Qf y)/\st'=st):=by
 refine Ql Tryz.func140 fun E=> ?_;refine(Vm a _ (by have:=ha.1;omega)).Q ?_;refine ck ?_ ?_<;>intro h;have h0:=Mc (Ua h);refine Qq ?_;exact⟨b,hb.mono oG oG,by rw[h0];grind,rfl⟩
 . refine Qq ?_;refine(Vm b _ (by have:=hb.1;omega)).Q ?_;refine ck ?_ ?_<;>intro h;have h0:=Mc (Ua h);refine Qq ?_;exact⟨a,ha.mono oG oG,by rw[h0];grind,rfl⟩
   . rename_i hsa;obtain⟨Q,hQ⟩: ∃Q,Q=qN a+qN b:=⟨_,rfl⟩;rw[<-hQ];refine Qq ?_;clear h hsa;refine ck ?_ ?_<;>intro h
     case' refine_1=>
      have hle:b.exp<=a.exp:=oT h
      have hQ':Q=qN b+qN a:=by rw[hQ];grind
      have hB:=ha;have hA:=hb;clear h hQ ha hb;have hQ:=hQ';clear hQ';generalize a=B at*
      generalize b=A at*
     case' refine_2=>
      have hle:a.exp<=b.exp:=oF h
      have hA:=ha;have hB:=hb;clear h ha hb;generalize b=B at*
      generalize a=A at*
     all_goals
      obtain⟨d,hd⟩: ∃d:Nat,B.exp=A.exp+d:=⟨(B.exp-A.exp).toNat,oG⟩;have hd2:d<=2*k:=(by have:=hA.2.1;have:=hB.2.2;omega);have x1:IntKind.i64.wrap (B.exp-A.exp)=((d:Nat):Int):=(by rw[show B.exp-A.exp=(d:Int) from oG,QP _ oG]);have lA:=hA.1;have lB:=hB.1;have hab: ∀m,m<=Qd A.w+Qd B.w*2^d-> ∀neg,bd (n+k+1) k ⟨neg,A.exp,QB m⟩:=fun m hm neg=>⟨V0i A B n k d m hA hB hd2 hm,hA.2.1,hA.2.2⟩;have hlW:(QB (Qd B.w*2^d)).length<=n+k+1:=V0i A B n k d _ hA hB hd2 oG;simp-dsimp only[go_sem,x1];refine(HL B.w d _ oG oG).q ?_;refine QS ?_ ?_<;>intro h;have hn:A.neg=B.neg:=(by simpa using h);refine Qq ?_;refine Q8 77 (Qk [0,1,2,3,4,5,6] (.step 7 [1,3] (.step 8 [] (.step 9 [] (.done))))) ?_;refine Qq ?_;refine(vi A.w _ _ oG oG).q ?_;rw[Jf];refine Qq ?_;exact⟨_,hab _ oG A.neg,by rw[x1f A B d hd hn,hQ],rfl⟩;have hn:A.neg≠B.neg:=(by simpa using h);refine Qq ?_;refine(Z0k A.w _ _ oG oG).q ?_;rw[Jf];by_cases hc:Qd B.w*2^d<=Qd A.w;rw[BA oG,q_h hc];refine Qq ?_;exact⟨_,hab _ oG A.neg,by rw[x1i A B d hd hn hc,hQ],rfl⟩;rw[BC oG,q_g hc];refine Qq ?_;refine(Z0k _ A.w _ oG oG).q ?_;rw[Jf,BA oG,q_h (show Qd A.w<=Qd B.w*2^d by omega)];refine Qq ?_;exact⟨_,hab _ oG B.neg,by rw[x1h A B d hd hn oG,hQ],rfl⟩
theorem x1j (a b:Nm)(n k:Nat)(st:Qc)(ha:bd n k a)(hb:bd n k b)(h1:n<=10000000000)(h3:k<=10000000000):
 PCalls Tryz.prog 128 [.agg (Qf a),.agg (Qf b)] st (fun r st'=> ∃y,bd (n+k+1) k y/\qN y=qN a-qN b/\r= .agg (Qf y)/\st'=st):=by
 refine Ql Tryz.func128 fun E=> ?_;refine Q8 9 (.step 0 [] (.step 1 [] (.step 2 [0] (.step 3 [] (.step 4 [] (.done)))))) ?_;refine Qq ?_;refine(x1m b _).Q ?_;refine(wH a { b with neg:= !b.neg } n k _ ha hb h1 h3).mono ?_;rintro r st ⟨y,y1,y2,rfl,rfl⟩;refine Qq ?_;exact⟨y,y1,by rw[y2,Q1q];grind,rfl⟩
theorem zX (neg:Bool)(w:Lu)(e:Int)(st:Qc)(hw:w.length<=1000000000)(he1: -1000000000000<=e)(he2:e<=1000000000000):PR 66 [.sc (.bool neg),.sl .no (Qo w),.sc (.int .i64 e)] st (.tup [.agg (Qf (mkX neg w e).1),.sc (.int .i64 (mkX neg w e).2)]):=by
 refine Qh none Tryz.func66 rfl fun E=>Qb ?_;have hb:=Wn w;refine Qq ?_;refine(Y8 w _ oG).Q ?_;refine ck ?_ ?_<;>intro h;have h0:Qd w=0:=by have h1:Zc w=0:=JS (b:=0) h;refine BE fun hne=> ?_;have:=ql hne;unfold Zc at h1;omega
 refine Qq ?_;rw[W1i h0];rfl;have h0:Qd w≠0:=fun e=>V2 (b:=0) h (by unfold Zc;rw[e,VH]);have ht:=qU (Qd w) h0;have ht2:tz (Qd w)<=64000000000:=(by unfold Zc at hb;omega);have x1:IntKind.i64.wrap (-65536-((tz (Qd w):Nat):Int))= -65536-((tz (Qd w):Nat):Int):=Q2 _ oG oG;have x2:IntKind.i64.wrap (e+((tz (Qd w):Nat):Int))=e+((tz (Qd w):Nat):Int):=Q2 _ oG oG;refine Qq ?_;refine(Z0j w _ oG).q ?_;by_cases c1:65536<e;have f1:decide (e>65536)=true:=q_h c1;simp-dsimp only[go_sem,f1];rw[Z0q h0 (.inl c1)];rfl;have f1:decide (e>65536)=false:=q_g c1;by_cases c2:e< -65536-((tz (Qd w):Nat):Int);have f2:decide (e< -65536-((tz (Qd w):Nat):Int))=true:=q_h c2;simp-dsimp only[go_sem,f1,x1,f2];rw[Z0q h0 (.inr c2)];rfl;have f2:decide (e< -65536-((tz (Qd w):Nat):Int))=false:=q_g c2;simp-dsimp only[go_sem,f1,x1,f2,x2];refine(Z0l w (tz (Qd w)) _ oG oG).q ?_;simp-dsimp only[go_sem,x2];have hlen:(QB (Qd w/2^tz (Qd w))).length<=w.length:=by have h1:=Gq (DB (Qd w) (2^tz (Qd w)));rw[Xx] at h1;have:=Km w;omega
 refine(XY ⟨neg,e+((tz (Qd w):Nat):Int),QB (Qd w/2^tz (Qd w))⟩ _ (by simp only;omega)).q ?_;rw[W1j h0];refine QS ?_ ?_<;>intro h;have hr:Qg ⟨neg,e+((tz (Qd w):Nat):Int),QB (Qd w/2^tz (Qd w))⟩=false:=(by simpa using h);refine Qq ?_;rw[BA (by rw[hr];simp)];rfl;have hr:Qg ⟨neg,e+((tz (Qd w):Nat):Int),QB (Qd w/2^tz (Qd w))⟩=true:=(by simpa using h);refine Qq ?_;rw[BC hr]
theorem X0c (x:Nm)(st:Qc)(hw:x.w.length<=1000000000)(he1: -1000000000000<=x.exp)(he2:x.exp<=1000000000000):PR 31 [.agg (Qf x)] st (.tup [.agg (Qf (QI (ofX x)).1),.sc (.int .i64 (QI (ofX x)).2)]):=by
 refine Ql Tryz.func31 fun E=> ?_;refine(zX x.neg x.w x.exp _ hw he1 he2).q ?_;rw[vq];exact QA
theorem Q0w (g:FuncId)(k:Nat)(a b:Nm)(st:Qc)(hc:QH Tryz.prog g=true)(ha:wN a)(hb:wN b)
 (h:Qg a=true->Qg b=true-> ∀st,PCalls Tryz.prog g [.agg (Qf a),.agg (Qf b)] st (fun r st'=> ∃y,bd 1000000 1000000 y/\qN y=exQ k (qN a) (qN b)/\r= .agg (Qf y)/\st'=st)):
 PR 127 [.agg (Qf a),.agg (Qf b),.fn (.func g) [] []] st (.tup [.agg (Qf (XC k a b).1),.sc (.int .i64 (XC k a b).2)]):=by
 unfold wN at ha hb;refine Ql Tryz.func127 fun E=> ?_;refine(XY a _ oG).q ?_;cases r1:Qg a with
 | false=>
  refine Qq ?_;rw[XC,BA (by rw[r1];simp)];rfl
 | true=>
  refine Qq ?_;refine(XY b _ oG).q ?_;cases r2:Qg b with
  | false=>
   refine Qq ?_;rw[XC,BA (by rw[r2];simp)];rfl
  | true=>
   simp-dsimp only[go_sem,hc];refine(h r1 r2 _).mono ?_;rintro r st ⟨y,y1,y2,rfl,rfl⟩;refine Qq ?_;refine(X0c y _ (by have:=y1.1;omega) (by have:=y1.2.1;omega) (by have:=y1.2.2;omega)).Q ?_;rw[XC,BC ⟨r1,r2⟩,Vd (qj k (Jd r1) (Jd r2)) (by rw[U4,Zv,Zv,y2])]
theorem x8 (a b:Nm)(r1:Qg a=true)(r2:Qg b=true)(st:Qc):PCalls Tryz.prog 140 [.agg (Qf a),.agg (Qf b)] st (fun r st'=> ∃y,bd 1000000 1000000 y/\qN y=exQ 0 (qN a) (qN b)/\r= .agg (Qf y)/\st'=st):=
 (wH a b 64 65536 st (Xt r1) (Xt r2) oG oG).mono fun r st' ⟨y,h1,h2,h3⟩=>⟨y,h1.mono oG oG,h2,h3⟩
theorem IL (a b:Nm)(r1:Qg a=true)(r2:Qg b=true)(st:Qc):PCalls Tryz.prog 128 [.agg (Qf a),.agg (Qf b)] st (fun r st'=> ∃y,bd 1000000 1000000 y/\qN y=exQ 1 (qN a) (qN b)/\r= .agg (Qf y)/\st'=st):=
 (x1j a b 64 65536 st (Xt r1) (Xt r2) oG oG).mono fun r st' ⟨y,h1,h2,h3⟩=>⟨y,h1.mono oG oG,h2,h3⟩
theorem x1l (a b:Nm)(r1:Qg a=true)(r2:Qg b=true)(st:Qc):PCalls Tryz.prog 258 [.agg (Qf a),.agg (Qf b)] st (fun r st'=> ∃y,bd 1000000 1000000 y/\qN y=exQ 2 (qN a) (qN b)/\r= .agg (Qf y)/\st'=st):=
 (Hu a b 64 65536 64 65536 st (Xt r1) (Xt r2) oG oG oG oG).mono fun r st' ⟨y,h1,h2,h3⟩=>⟨y,h1.mono oG oG,h2,h3⟩
theorem K1w (a b:Nm)(st:Qc)(ha:wN a)(hb:wN b):PR 78 [.agg (Qf a),.agg (Qf b)] st (.tup [.agg (Qf (XC 0 a b).1),.sc (.int .i64 (XC 0 a b).2)]):=by refine Ql Tryz.func78 fun E=> ?_;refine(Q0w _ 0 a b _ rfl ha hb (x8 a b)).Q0
theorem K1t (a b:Nm)(st:Qc)(ha:wN a)(hb:wN b):PR 73 [.agg (Qf a),.agg (Qf b)] st (.tup [.agg (Qf (XC 1 a b).1),.sc (.int .i64 (XC 1 a b).2)]):=by refine Ql Tryz.func73 fun E=> ?_;refine(Q0w _ 1 a b _ rfl ha hb (IL a b)).Q0
theorem v0a {x:Nm}(h:Qg x=true)(hw:x.w≠ [])(k:Int):ofX { x with exp:=x.exp+k } =⟨x.neg,Qd x.w,x.exp+k⟩:=by have h1:=Iv h;have h0:Qd x.w≠0:=fun e=>hw ((Wp h).1 e);exact Iy _ _ _ (by rcases h1 with h1 | h1;exact h1;exact absurd h1 h0)
theorem UA (x:Nm)(k:Int)(st:Qc)(hx:wN x):PR 8 [.agg (Qf x),.sc (.int .i64 k)] st (.tup [.agg (Qf (QQ x k).1),.sc (.int .i64 (QQ x k).2)]):=by
 unfold wN at hx;refine Ql Tryz.func8 fun E=> ?_;refine(XY x _ oG).q ?_;cases r1:Qg x with
 | false=>
  refine Qq ?_;rw[QQ,BA (by rw[r1];simp)];rfl
 | true=>
  rw[QQ,BC r1];refine QS ?_ ?_<;>intro h;have h0:x.w= []:=BZ.1 (JS (b:=0) h);have hx0:x=default:=by have h2:=r1;unfold Qg at h2;rw[BC h0] at h2;simp at h2;obtain⟨n,e,w⟩:=x;simp at h0 h2;obtain⟨rfl,rfl⟩:=h2;subst h0;rfl
  refine Qq ?_;rw[BC h0,hx0];rfl;have h0:x.w≠ []:=fun e=>(by rw[e] at h;cases h);have hb:=Xt r1;have b2:=hb.2.1;have b3:=hb.2.2;rw[BA h0];by_cases c1:131072<k;have f1:decide (k>131072)=true:=q_h c1;simp-dsimp only[go_sem,f1];rw[BC (.inr c1)];rfl;have f1:decide (k>131072)=false:=q_g c1;by_cases c2:k< -131072;have f2:decide (k< -131072)=true:=q_h c2;simp-dsimp only[go_sem,f1,f2];rw[BC (.inl c2)];rfl;have f2:decide (k< -131072)=false:=q_g c2;have x1:IntKind.i64.wrap (x.exp+k)=x.exp+k:=Q2 _ oG oG;simp-dsimp only[go_sem,f1,f2,x1];refine(X0c { x with exp:=x.exp+k } _ (by have:=hb.1;simp only;omega) (by simp only;omega) (by simp only;omega)).Q ?_;rw[BA oG,v0a r1 h0]
@[go_sem] theorem K2m {d:Po}{f:Fn}{bs cs:Lp}{pa:Lp}{L st st':Qc}{T:Lv} :(PFS.mk pa L T st).recv d (.fn f bs cs) st'=(PFS.mk pa L T st').put d (.fn f bs cs):=(rfl)
theorem Ks (p:Int)(st:Qc):PR 68 [.sc (.int .i64 p)] st (.sc (.bool (Qv p))):=by
 refine Qh none Tryz.func68 rfl fun E=>Qb ?_;unfold Qv;by_cases h:8<=p
 . have f1:decide (p>=8)=true:=q_h h;have f2:decide (8<=p)=true:=q_h h;simp-dsimp only[go_sem,f1,f2]
   try simp
 . have f1:decide (p>=8)=false:=q_g h;have f2:decide (8<=p)=false:=q_g h;simp-dsimp only[go_sem,f1,f2]
   try simp
def x7 (up:Bool):PV:= .fn (.func 338) [] [.ep [.sc (.bool up)] 0]
theorem Q2q (up:Bool)(st:Qc):PR 305 [.sc (.bool up)] st (x7 up):=by refine Qh none Tryz.func305 rfl fun E=>Qe (Qb ?_);refine Qq ?_;refine Z5 0 ?_ ?_;exact QA;refine Qp ?_;rfl
theorem Q2r (up neg:Bool)(st:Qc):PR 338 ([.sc (.bool neg)]++ [.ep [.sc (.bool up)] 0]) st (.sc (.bool (up !=neg))):=by refine Ql Tryz.func338 fun E=> ?_;cases up<;>cases neg<;>rfl
theorem q0b :Qd [1]=1:=by decide
theorem w0c (x:Nm)(p:Nat)(up:Bool)(st:Qc)(hx:x.w.length<=1000000000)(h1: -1000000000000<=x.exp)(h2:x.exp<=1000000000000)(hp:p<=1000000000):PR 304 [.agg (Qf x),.sc (.int .i64 p),x7 up] st (.agg (Qf (KV x p up))):=by
 refine Qh none Tryz.func304 rfl fun E=>Qb ?_;have hb:=Wn x.w;have x1:IntKind.i64.wrap ((Zc x.w:Int)-(p:Int))=(Zc x.w:Int)-(p:Int):=Q2 _ oG oG;refine Qq ?_;refine(Y8 x.w _ oG).q ?_;simp-dsimp only[go_sem,x1];refine ck ?_ ?_<;>intro h;have hle:Zc x.w<=p:=(oT h);refine Qq ?_;rw[KV,BC hle];have hgt:p<Zc x.w:=(oF h);have x2:(Zc x.w:Int)-(p:Int)=((Zc x.w-p:Nat):Int):=oG;rw[KV,BA oG];obtain⟨d,hd⟩: ∃d,d=Zc x.w-p:=⟨_,rfl⟩;rw[x2,<-hd];have x3:IntKind.i64.wrap (x.exp+((d:Nat):Int))=x.exp+((d:Nat):Int):=Q2 _ oG oG;have hlen:(QB (Qd x.w/2^d)).length<=x.w.length:=by have h1:=Gq (DB (Qd x.w) (2^d));rw[Xx] at h1;have:=Km x.w;omega
 refine Qq ?_;refine(Z0l x.w d _ oG oG).q ?_;unfold x7;refine Qq ?_;refine(Q2r up x.neg _).q ?_;cases hu:(up !=x.neg) with
 | false=>
  rw[BA (fun h=>by have:=h.2;simp[this] at hu),B1];simp-dsimp only[go_sem,x3]
 | true=>
  have hne:up≠x.neg:=(by simpa using hu);refine Qq ?_;refine(Z0j x.w _ oG).Q ?_;refine ck ?_ ?_<;>intro h;have hz:tz (Qd x.w)<d:=(oT h);rw[BC ⟨hz,hne⟩];refine Qq ?_;have e1: [PV.sc (.int .u64 1)]=Qo [1]:=rfl;rw[e1];refine(vi _ [1] _ oG (by simp)).q ?_;rw[Jf,q0b];simp-dsimp only[go_sem,x3];have hz: ¬tz (Qd x.w)<d:=(oF h);rw[BA (fun h=>hz h.1),B1];simp-dsimp only[go_sem,x3]
theorem Nl (x:Nm)(p:Nat)(up:Bool)(st:Qc)(hx:x.w.length<=1000000000)(h1: -1000000000000<=x.exp)(h2:x.exp<=1000000000000)(hp:p<=1000000000):PR 255 [.agg (Qf x),.sc (.int .i64 p),.sc (.bool up)] st (.agg (Qf (KV x p up))):=by
 refine Ql Tryz.func255 fun E=> ?_;refine Q8 12 (Qk [0,1,2] (.step 3 [0] (.step 4 [] (.step 5 [] (.done))))) ?_;refine Qq ?_;refine(Q2q up _).q ?_;unfold x7;refine Qq ?_;refine(w0c x p up _ hx h1 h2 hp).Q0
theorem Ic (x:Nm)(p:Nat)(up:Bool)(st:Qc)(hx:bd 1000000 1000000 x)(hp0:0<p)(hp:p<=1000000000):PR 261 [.agg (Qf x),.sc (.int .i64 p),.sc (.bool up)] st (.tup [.agg (Qf (QI (QR (ofX x) p up)).1),.sc (.int .i64 (QI (QR (ofX x) p up)).2)]):=by
 have b1:=hx.1;have b2:=hx.2.1;have b3:=hx.2.2;refine Ql Tryz.func261 fun E=> ?_;refine(Nl x p up _ oG oG oG hp).q ?_;have hy:=Nk x p up _ _ hx;have y1:=hy.1;have y2:=hy.2.1;have y3:=hy.2.2;refine Qq ?_;refine(zX (KV x p up).neg (KV x p up).w (KV x p up).exp _ oG oG oG).q ?_;rw[vq,Nj x p up hp0];exact QA
theorem W6 {p:Int}(h:Qv p=true): ∃q:Nat,p=q/\8<=q/\q<=256/\p.toNat=q:=by unfold Qv at h;simp only[q_i,BN] at h;exact⟨p.toNat,oG,oG,oG,rfl⟩
theorem jO (g:FuncId)(k:Nat)(a b:Nm)(p:Int)(up:Bool)(st:Qc)(hc:QH Tryz.prog g=true)(ha:wN a)(hb:wN b)
 (h:Qg a=true->Qg b=true-> ∀st,PCalls Tryz.prog g [.agg (Qf a),.agg (Qf b)] st (fun r st'=> ∃y,bd 1000000 1000000 y/\qN y=exQ k (qN a) (qN b)/\r= .agg (Qf y)/\st'=st)):
 PR 326 [.agg (Qf a),.agg (Qf b),.sc (.int .i64 p),.sc (.bool up),.fn (.func g) [] []] st (.tup [.agg (Qf (Qw k a b p up).1),.sc (.int .i64 (Qw k a b p up).2)]):=by
 unfold wN at ha hb;refine Ql Tryz.func326 fun E=> ?_;refine(XY a _ oG).q ?_;cases r1:Qg a with
 | false=>
  refine Qq ?_;rw[Qw,BA (by rw[r1];simp)];rfl
 | true=>
  refine Qq ?_;refine(XY b _ oG).q ?_;cases r2:Qg b with
  | false=>
   refine Qq ?_;rw[Qw,BA (by rw[r2];simp)];rfl
  | true=>
   refine Qq ?_;refine(Ks p _).q ?_;cases r3:Qv p with
   | false=>
    refine Qq ?_;rw[Qw,BA (by rw[r3];simp)];rfl
   | true=>
    obtain⟨q,rfl,q1,q2,q3⟩:=W6 r3;simp-dsimp only[go_sem,hc];refine(h r1 r2 _).mono ?_;rintro r st ⟨y,y1,y2,rfl,rfl⟩;refine Qq ?_;refine(Ic y q up _ y1 oG oG).Q ?_;rw[Qw,BC ⟨r1,r2,r3⟩,Vd (qj k (Jd r1) (Jd r2)) (by rw[U4,Zv,Zv,y2]),q3]
theorem jP (a b:Nm)(p:Int)(up:Bool)(st:Qc)(ha:wN a)(hb:wN b):PR 285 [.agg (Qf a),.agg (Qf b),.sc (.int .i64 p),.sc (.bool up)] st (.tup [.agg (Qf (Qw 0 a b p up).1),.sc (.int .i64 (Qw 0 a b p up).2)]):=by refine Ql Tryz.func285 fun E=> ?_;refine(jO _ 0 a b p up _ rfl ha hb (x8 a b)).Q0
theorem zt (a b:Nm)(p:Int)(up:Bool)(st:Qc)(ha:wN a)(hb:wN b):PR 284 [.agg (Qf a),.agg (Qf b),.sc (.int .i64 p),.sc (.bool up)] st (.tup [.agg (Qf (Qw 1 a b p up).1),.sc (.int .i64 (Qw 1 a b p up).2)]):=by refine Ql Tryz.func284 fun E=> ?_;refine(jO _ 1 a b p up _ rfl ha hb (IL a b)).Q0
theorem w0l (a b:Nm)(p:Int)(up:Bool)(st:Qc)(ha:wN a)(hb:wN b):PR 325 [.agg (Qf a),.agg (Qf b),.sc (.int .i64 p),.sc (.bool up)] st (.tup [.agg (Qf (Qw 2 a b p up).1),.sc (.int .i64 (Qw 2 a b p up).2)]):=by refine Ql Tryz.func325 fun E=> ?_;refine(jO _ 2 a b p up _ rfl ha hb (x1l a b)).Q0
theorem Ek {st:Qc}{k:Nat}{X:Lp}(hk:k<st.length)(h:st.getD k []=X):st.set k X=st:=by rw[q_a,BB hk,D9] at h;rw[<-h];exact List.set_getElem_self hk
theorem G1k (a:Ivl)(x:Nm)(st:Qc)(ha:wI a)(hx:wN x):PR 97 [.agg (Qm a),.agg (Qf x)] st (.sc (.bool (Ja a x))):=by
 refine Qh none Tryz.func97 rfl fun E=>Qb ?_;unfold Ja;refine Qq ?_;refine(JF a _ ha).q ?_;cases r1:Qr a with
 | false=>simp-dsimp only[go_sem];try rfl
 | true=>
  refine Qq ?_;refine(XY x _ (by unfold wN at hx;omega)).q ?_;cases r2:Qg x with
  | false=>simp-dsimp only[go_sem];try rfl
  | true=>
   have s1:=QZ (ZJ r1).1;have s2:=QZ (ZJ r1).2.1;have s3:=QZ r2;refine Qq ?_;refine(YF a.lo x _ s1 s3).q ?_;cases c1:decide (ZC a.lo x<=0) with
   | false=>simp-dsimp only[go_sem,c1];try rfl
   | true=>
    simp-dsimp only[go_sem,c1];refine(YF x a.hi _ s3 s2).q ?_;simp-dsimp only[go_sem,c1]
    try rfl
theorem xk (lo hi:Nm)(st:Qc)(h1:wN lo)(h2:wN hi):PR 200 [.agg (Qf lo),.agg (Qf hi)] st (.tup [.agg (Qm (VX lo hi).1),.sc (.int .i64 (VX lo hi).2)]):=by
 refine Qh none Tryz.func200 rfl fun E=>Qb ?_;unfold VX;refine Qq ?_;refine(JF ⟨lo,hi⟩ _ ⟨h1,h2⟩).q ?_;cases r1:Qr ⟨lo,hi⟩ with
 | false=>
  rw[BA (by simp)];simp-dsimp only[go_sem];try rfl
 | true=>
  rw[BC rfl];refine Qq ?_;refine(kT lo hi _ h1 h2).Q0
theorem I5 (a b:Ivl)(p:Int)(st:Qc)(ha:wI a)(hb:wI b):PR 192 [.agg (Qm a),.agg (Qm b),.sc (.int .i64 p)] st (.sc (.bool (Qr a&&Qr b&&Qv p))):=by
 refine Ql Tryz.func192 fun E=> ?_;refine(JF a _ ha).q ?_;cases r1:Qr a with
 | false=>simp-dsimp only[go_sem];try rfl
 | true=>
  refine Qq ?_;refine(JF b _ hb).q ?_;cases r2:Qr b with
  | false=>simp-dsimp only[go_sem];try rfl
  | true=>
   refine Qq ?_;refine(Ks p _).q ?_;simp-dsimp only[go_sem]
   try rfl
theorem Q0v (v:Vl):(QI v).2=0\/QI v=(default,2):=by unfold QI;split;exact .inl rfl;split;exact .inr rfl;exact .inl rfl
theorem Y6 (lo hi:Nm)(p:Nat)(st:Qc)(hl:bd 1000000 1000000 lo)(hh:bd 1000000 1000000 hi)(hp0:0<p)(hp:p<=1000000000):PR 193 [.agg (Qf lo),.agg (Qf hi),.sc (.int .i64 p)] st (.tup [.agg (Qm (XK (QR (ofX lo) p false) (QR (ofX hi) p true)).1),.sc (.int .i64 (XK (QR (ofX lo) p false) (QR (ofX hi) p true)).2)]):=by
 refine Qh none Tryz.func193 rfl fun E=>Qb ?_;unfold XK;refine Qq ?_;refine(Ic lo p false _ hl hp0 hp).Q ?_;refine ck ?_ ?_<;>intro h;have hne:=Xm h;refine Qq ?_;rw[BA (fun hh=>hne hh.1)];rcases Q0v (QR (ofX lo) p false) with e | e;exact absurd e hne;rw[e];rfl
 . have he:=XA h;refine Qq ?_;refine(Ic hi p true _ hh hp0 hp).Q ?_;refine ck ?_ ?_<;>intro h;have hne:=Xm h;refine Qq ?_;rw[BA (fun hh=>hne hh.2)];rcases Q0v (QR (ofX hi) p true) with e | e;exact absurd e hne;rw[e];rfl
   . have he2:=XA h;refine Qq ?_;rw[BC ⟨he,he2⟩]
     try rfl
theorem UL (a b:Ivl)(p:Int)(st:Qc)(ha:wI a)(hb:wI b):PR 126 [.agg (Qm a),.agg (Qm b),.sc (.int .i64 p)] st (.tup [.agg (Qm (opI 0 a b p).1),.sc (.int .i64 (opI 0 a b p).2)]):=by refine Ql Tryz.func126 fun E=> ?_;refine(I5 a b p _ ha hb).Q ?_;refine ck ?_ ?_<;>intro h;refine Qq ?_;rw[opI,BA (fun hh=>by simp[hh.1,hh.2.1,hh.2.2] at h)];rfl;have hv:Qr a=true/\Qr b=true/\Qv p=true:=(by simpa[and_assoc] using h);obtain⟨r1,r2,r3⟩:=hv;obtain⟨q,rfl,q1,q2,q3⟩:=W6 r3;obtain⟨a1,a2,_⟩:=ZJ r1;obtain⟨b1,b2,_⟩:=ZJ r2;refine Qq ?_;refine Q8 28 (Qk [0,1,2,3,5,6,7,8,10] (.step 4 [6,8] (Qk [9,11,12,13,14,15] .done))) ?_;refine Qq ?_;refine(x8 a.lo b.lo a1 b1 _).mono ?_;rintro r st ⟨y,y1,y2,rfl,rfl⟩;refine Qq ?_;refine(x8 a.hi b.hi a2 b2 _).mono ?_;rintro r st ⟨z,z1,z2,rfl,rfl⟩;refine Qq ?_;refine(Y6 y z q _ y1 z1 oG oG).q ?_;have ca:=XG r1;have cb:=XG r2;have e1:ofX y=loV 0 (ofN a.lo) (ofN a.hi) (ofN b.lo) (ofN b.hi):=Vd (qf 0 ca.1 ca.2 cb.1 cb.2) (by rw[y2,IK,U1d,KF];rfl);have e2:ofX z=hiV 0 (ofN a.lo) (ofN a.hi) (ofN b.lo) (ofN b.hi):=Vd (qh 0 ca.1 ca.2 cb.1 cb.2) (by rw[z2,IK,H1l,KF];rfl);refine Qq ?_;rw[opI,BC ⟨r1,r2,r3⟩,e1,e2,q3]
theorem J0a (a b:Ivl)(p:Int)(st:Qc)(ha:wI a)(hb:wI b):PR 178 [.agg (Qm a),.agg (Qm b),.sc (.int .i64 p)] st (.tup [.agg (Qm (opI 1 a b p).1),.sc (.int .i64 (opI 1 a b p).2)]):=by refine Ql Tryz.func178 fun E=> ?_;refine(I5 a b p _ ha hb).Q ?_;refine ck ?_ ?_<;>intro h;refine Qq ?_;rw[opI,BA (fun hh=>by simp[hh.1,hh.2.1,hh.2.2] at h)];rfl;have hv:Qr a=true/\Qr b=true/\Qv p=true:=(by simpa[and_assoc] using h);obtain⟨r1,r2,r3⟩:=hv;obtain⟨q,rfl,q1,q2,q3⟩:=W6 r3;obtain⟨a1,a2,_⟩:=ZJ r1;obtain⟨b1,b2,_⟩:=ZJ r2;refine Qq ?_;refine Q8 28 (Qk [0,1,2,3,5,6,7,8,10] (.step 4 [6,8] (Qk [9,11,12,13,14,15] .done))) ?_;refine Qq ?_;refine(IL a.lo b.hi a1 b2 _).mono ?_;rintro r st ⟨y,y1,y2,rfl,rfl⟩;refine Qq ?_;refine(IL a.hi b.lo a2 b1 _).mono ?_;rintro r st ⟨z,z1,z2,rfl,rfl⟩;refine Qq ?_;refine(Y6 y z q _ y1 z1 oG oG).q ?_;have ca:=XG r1;have cb:=XG r2;have e1:ofX y=loV 1 (ofN a.lo) (ofN a.hi) (ofN b.lo) (ofN b.hi):=Vd (qf 1 ca.1 ca.2 cb.1 cb.2) (by rw[y2,Ht,X0q,W4];rfl);have e2:ofX z=hiV 1 (ofN a.lo) (ofN a.hi) (ofN b.lo) (ofN b.hi):=Vd (qh 1 ca.1 ca.2 cb.1 cb.2) (by rw[z2,Ht,J0p,W4];rfl);refine Qq ?_;rw[opI,BC ⟨r1,r2,r3⟩,e1,e2,q3]
theorem G1e (a:Ivl)(p:Int)(st:Qc)(ha:wI a):PR 341 [.agg (Qm a),.sc (.int .i64 p)] st (.tup [.agg (Qf (Jv a p).1),.sc (.int .i64 (Jv a p).2)]):=by
 refine Ql Tryz.func341 fun E=> ?_;refine(JF a _ ha).q ?_;cases r1:Qr a with
 | false=>
  refine Qq ?_;rw[Jv,BA (by simp[r1])];rfl
 | true=>
  refine Qq ?_;refine(Ks p _).q ?_;cases r3:Qv p with
  | false=>
   refine Qq ?_;rw[Jv,BA (by simp[r3])];rfl
  | true=>
   obtain⟨q,rfl,q1,q2,q3⟩:=W6 r3;obtain⟨a1,a2,_⟩:=ZJ r1;refine Qq ?_;refine(IL a.hi a.lo a2 a1 _).mono ?_;rintro r st ⟨y,y1,y2,rfl,rfl⟩;refine Qq ?_;refine(Ic y q true _ y1 oG oG).q ?_;have ca:=XG r1;have e1:ofX y=Jo (ofN a.hi) (ofN a.lo):=Vd (qg ca.2 ca.1) (by rw[y2,Ht,W4];rfl);refine Qq ?_;rw[Jv,BC ⟨r1,r3⟩,e1,q3]
theorem G1h (a:Ivl)(p:Int)(st:Qc)(ha:wI a):PR 176 [.agg (Qm a),.sc (.int .i64 p)] st (.tup [.agg (Qf (Zk a p).1),.sc (.int .i64 (Zk a p).2)]):=by
 refine Ql Tryz.func176 fun E=> ?_;refine(JF a _ ha).q ?_;cases r1:Qr a with
 | false=>
  refine Qq ?_;rw[Zk,BA (by simp[r1])];rfl
 | true=>
  refine Qq ?_;refine(Ks p _).q ?_;cases r3:Qv p with
  | false=>
   refine Qq ?_;rw[Zk,BA (by simp[r3])];rfl
  | true=>
   obtain⟨q,rfl,q1,q2,q3⟩:=W6 r3;obtain⟨a1,a2,_⟩:=ZJ r1;have ca:=XG r1;have hm:Zk a q=if XX (Jm a q) (ofN a.lo)<0 then(a.lo,0) else QI (Jm a q):=(by rw[Zk,BC ⟨r1,r3⟩,q3]);rw[hm];refine Qq ?_;refine Q8 36 (Qk [0,1,2,3,4,5,8] (.alt (.step 6 [1] (.alt (.step 7 [1] (.alt (.step 9 [1] (.alt (.step 10 [3,5] (.step 11 [1,3,5] (.step 12 [] (.done)))) (.step 11 [1,3,5] (.step 10 [3,5] (.step 12 [] (.done)))))) (.step 11 [1,3,5] (.step 9 [1] (.step 10 [3,5] (.step 12 [] (.done))))))) (.step 11 [1,3,5] (.step 7 [1] (.step 9 [1] (.step 10 [3,5] (.step 12 [] (.done)))))))) (.step 11 [1,3,5] (.step 6 [1] (.step 7 [1] (.step 9 [1] (.step 10 [3,5] (.step 12 [] (.done))))))))) ?_;refine Qq ?_;refine And.intro ?_ ?_
   all_goals
    refine(wH a.lo a.hi 64 65536 _ (Xt a1) (Xt a2) oG oG).mono ?_;rintro r st ⟨y,y1,y2,rfl,rfl⟩;have b1:=y1.1;have b2:=y1.2.1;have b3:=y1.2.2;have e1:ofX { y with exp:=y.exp-1 } =K2 (Zz (ofN a.lo) (ofN a.hi)):=K1i (Wl ca.1 ca.2) (by rw[y2,KF];rfl);simp-dsimp only[go_sem]
    try refine And.intro ?_ ?_
    all_goals
     refine(x1n y _ oG oG).q ?_;have hbd:bd 65601 65537 { y with exp:=y.exp-1 } :=⟨b1,by simp only;omega,by simp only;omega⟩;generalize ({ y with exp:=y.exp-1 } :Nm)=z at*
     have c1:=hbd.1;have c2:=hbd.2.1;have c3:=hbd.2.2;have hz:=Nk z q false _ _ hbd;have e2:ofX (KV z q false)=Jm a q:=(by rw[Nj z q false oG,e1];rfl);simp-dsimp only[go_sem]
     try refine And.intro ?_ ?_
     all_goals
      refine(Nl z q false _ oG oG oG oG).q ?_;generalize KV z q false=x at*
      have d1:=hz.1;have d2:=hz.2.1;have d3:=hz.2.2;have hs:sm x:=⟨oG,oG,oG⟩;have hg:sm (Z2 a.lo x):=Hl (QZ a1) hs;have e3:=W1p (p:=q) r1 e2;simp-dsimp only[go_sem]
      try refine And.intro ?_ ?_
      all_goals
       refine(I8 a.lo x _ (QZ a1) hs).q ?_;generalize Z2 a.lo x=g at*
       have g1:=hg.1;have g2:=hg.2.1;have g3:=hg.2.2;refine Qq ?_;refine(zX g.neg g.w g.exp _ oG oG oG).q ?_;rw[vq,e3];simp-dsimp only[go_sem]
theorem vM (x a b:Nm)(i j:Nat)(st:Qc)(hij:i≠j)(hi:st.getD i []=Qf a)(hj:st.getD j []=Qf b)(hx:sm x)(ha:sm a)(hb:sm b):
 PCalls Tryz.prog 259 ([.agg (Qf x)]++ [.gp i 0,.gp j 0]) st (fun r st'=>r= .tup []/\st'=(st.set i (Qf (ZG a x))).set j (Qf (Z2 b x))):=by
 refine Qh none Tryz.func259 rfl fun E=>Qb ?_;unfold Qf at hi hj;refine Qq ?_;refine Q8 10 (Qk [0,1,3,4] (.step 2 [3,4] (Qk [5,6,7] .done))) ?_;simp-dsimp only[go_sem,hi,hj];refine(vH a x _ ha hx).q ?_;simp-dsimp only[go_sem,hi,hj];refine(I8 b x _ hb hx).q ?_;simp-dsimp only[go_sem,hi,hj];rw[Z3 _ _ _ _ _ hij,hj];exact⟨⟨by simp,by simp⟩,rfl⟩
theorem Y0z (n:Nat)(x:Nm):Bnd n (.agg (Qf x)):=by
 refine .agg _ fun j hj=> ?_
 match j,hj with
 | 0,_=>exact .sc _
 | 1,_=>exact .sc _
 | 2,_=>
  refine .sl _ _ 1 (fun i hi=> ?_) (fun i j hi hj=> ?_);rw[Wd] at hi;rw[ZK x.w i hi];rfl;rw[Wd] at hi;rw[ZK x.w i hi];have:j=0:=oG;subst this;exact .sc _
theorem y1l (n:Nat)(x:Ivl): ∀j,j<(Qm x).length->Bnd n ((Qm x).getD j .junk):=fun j hj=>by
 have h1:=Y0z n x.lo;have h2:=Y0z n x.hi;cases h1 with
 | agg _ h1=>
  cases h2 with
  | agg _ h2=>
   match j,hj with
   | 0,_=>exact h1 0 (show _<3 by omega)
   | 1,_=>exact h1 1 (show _<3 by omega)
   | 2,_=>exact h1 2 (show _<3 by omega)
   | 3,_=>exact h2 0 (show _<3 by omega)
   | 4,_=>exact h2 1 (show _<3 by omega)
   | 5,_=>exact h2 2 (show _<3 by omega)
theorem Y0y (n:Nat)(x:Ivl)(e:Int):Bnd n (.tup [.agg (Qm x),.sc (.int .i64 e)]):=by
 refine .tup _ fun j hj=> ?_
 match j,hj with
 | 0,_=>exact .agg _ (y1l n x)
 | 1,_=>exact .sc _
theorem qY (st:Qc)(l h:Lp):(st++ [l]++ [h]).getD st.length []=l:=by rw[BP,q_a,CA (BD _)];simp
theorem qZ (st:Qc)(l h:Lp):(st++ [l]++ [h]).getD (st.length+1) []=h:=by rw[BP,q_a,CA oG];simp
theorem jw (st:Qc)(l h l' h':Lp):((st++ [l]++ [h]).set st.length l').set (st.length+1) h'=st++ [l']++ [h']:=by rw[BP,CJ _ _ (BD _),CJ _ _ oG];simp
theorem Wu {n k:Nat}{x:Nm}(h:bd n k x)(h1:n<=1000000)(h2:k<=1000000000):sm x:=⟨by have:=h.1;omega,by have:=h.2.1;omega,by have:=h.2.2;omega⟩
theorem xj {n k:Nat}{a b:Nm}(ha:bd n k a)(hb:bd n k b):bd n k (ZG a b):=vJ ha hb
theorem xm {n k:Nat}{a b:Nm}(ha:bd n k a)(hb:bd n k b):bd n k (Z2 a b):=Hl ha hb
theorem UK (a b:Ivl)(p:Int)(st:Qc)(ha:wI a)(hb:wI b):PR 189 [.agg (Qm a),.agg (Qm b),.sc (.int .i64 p)] st (.tup [.agg (Qm (opI 2 a b p).1),.sc (.int .i64 (opI 2 a b p).2)]):=by
 refine PCalls.drop ?_;refine Qh none Tryz.func189 rfl fun E=>Qe (Qb ?_);refine Qq ?_;refine Qa ?_;refine(I5 a b p _ ha hb).Q ?_;refine ck ?_ ?_<;>intro h;refine Qq ?_;refine⟨Y0y _ default 1,[],(B9 _).symm,?_⟩;rw[opI,BA (fun hh=>by simp[hh.1,hh.2.1,hh.2.2] at h)];rfl;have hv:Qr a=true/\Qr b=true/\Qv p=true:=(by simpa[and_assoc] using h);obtain⟨r1,r2,r3⟩:=hv;obtain⟨q,rfl,q1,q2,q3⟩:=W6 r3;obtain⟨a1,a2,_⟩:=ZJ r1;obtain⟨b1,b2,_⟩:=ZJ r2;refine Qq ?_;refine Qa ?_;refine(Hu a.lo b.lo 64 65536 64 65536 _ (Xt a1) (Xt b1) oG oG oG oG).mono ?_;rintro r st ⟨y1,y1b,y1q,rfl,rfl⟩;refine Qq ?_;refine Qa ?_;refine Vb 3 (by simp[go_sem]) (by simp) ?_;refine Qq ?_;refine Vb 4 (by simp[go_sem]) (by simp) (Qb ?_);refine Qq ?_;have s1:=Wu y1b oG oG;refine(Hu a.lo b.hi 64 65536 64 65536 _ (Xt a1) (Xt b2) oG oG oG oG).mono ?_;rintro r st2 ⟨y2,y2b,y2q,rfl,rfl⟩;have s2:=Wu y2b oG oG;refine Qq ?_;refine(vM y2 y1 y1 st.length (st.length+1) _ oG (qY _ _ _) (qZ _ _ _) s2 s1 s1).w ?_;rintro st3 rfl;rw[jw];have l2:=xj y1b y2b;have g2:=xm y1b y2b;have l2s:=Wu l2 oG oG;have g2s:=Wu g2 oG oG;refine Qq ?_;refine(Hu a.hi b.lo 64 65536 64 65536 _ (Xt a2) (Xt b1) oG oG oG oG).mono ?_;rintro r st3 ⟨y3,y3b,y3q,rfl,rfl⟩;have s3:=Wu y3b oG oG;refine Qq ?_;refine(vM y3 (ZG y1 y2) (Z2 y1 y2) st.length (st.length+1) _ oG (qY _ _ _) (qZ _ _ _) s3 l2s g2s).w ?_;rintro st4 rfl;rw[jw];have l3:=xj l2 y3b;have g3:=xm g2 y3b;have l3s:=Wu l3 oG oG;have g3s:=Wu g3 oG oG;refine Qq ?_;refine(Hu a.hi b.hi 64 65536 64 65536 _ (Xt a2) (Xt b2) oG oG oG oG).mono ?_;rintro r st4 ⟨y4,y4b,y4q,rfl,rfl⟩;have s4:=Wu y4b oG oG;refine Qq ?_;refine(vM y4 (ZG (ZG y1 y2) y3) (Z2 (Z2 y1 y2) y3) st.length (st.length+1) _ oG (qY _ _ _) (qZ _ _ _) s4 l3s g3s).q ?_;rw[jw];have l4:=xj l3 y4b;have g4:=xm g3 y4b;have e1:=q1x r1 r2 y1q y2q y3q y4q;have e2:=q1y r1 r2 y1q y2q y3q y4q;generalize ZG (ZG (ZG y1 y2) y3) y4=L at*
 generalize Z2 (Z2 (Z2 y1 y2) y3) y4=H at*
 have hL:=qY st (Qf L) (Qf H);have hH:=qZ st (Qf L) (Qf H);unfold Qf at hL hH⊢;simp-dsimp only[go_sem,hL,hH];refine(Y6 L H q _ (l4.mono oG oG) (g4.mono oG oG) oG oG).q ?_;have hm:opI 2 a b q=XK (QR (ofX L) q false) (QR (ofX H) q true):=(by rw[opI,BC ⟨r1,r2,r3⟩,e1,e2,q3]);rw[hm];simp-dsimp only[go_sem,hL,hH];exact⟨Y0y _ _ _,_,BP _ _ _⟩
theorem X1z (g:FuncId)(caps:Lp)(G:Ivl->Ivl->Ivl×Int)(i:Nat)(x:Ivl)(b:Li)(st:Qc)(hc:QH Tryz.prog g=true)(hi:i<b.length)
 (h1c:caps.all PV.closed2=true) (h1':caps.all PV.closed1=true) (h2c:caps.map PV.forget2=caps) (h2':caps.map PV.forget1=caps) (hlim:caps.all (PV.lim1 0 1)=true)
 (h:PR g ([.agg (Qm x),.agg (Qm (b.getD i default))]++caps) st (.tup [.agg (Qm (G x (b.getD i default)).1),.sc (.int .i64 (G x (b.getD i default)).2)])):
 PR 191 ([.sc (.int .i64 i),.agg (Qm x)]++ [.ep [.fn (.func g) [] caps] 0,.ep [.sl .no (Qj b)] 0]) st (.tup [.agg (Qm (G x (b.getD i default)).1),.sc (.int .i64 (G x (b.getD i default)).2)]):=by
 refine Ql Tryz.func191 fun E=> ?_;have e1:=Zr b i hi;refine Q8 17 (Qk [0,1,2,3,4,5,6,7,8,9,10] .done) ?_;simp-dsimp only[go_sem,e1,hc,h1c,h1',h2c,h2'];refine⟨oG,?_⟩;refine h.Q0
theorem kD (g:FuncId)(caps:Lp)(G:Ivl->Ivl->Ivl×Int)(a b:Li)(st:Qc)(hc:QH Tryz.prog g=true)(ha:wB a)(hb:wB b)(h1c:caps.all PV.closed2=true)(h1':caps.all PV.closed1=true)(h2c:caps.map PV.forget2=caps)(h2':caps.map PV.forget1=caps)(hlim:caps.all (PV.lim1 0 1)=true)(hfz: ∀i cs,caps.map (PV.frz1 i cs)=caps)
 (h:rightB a=true->rightB b=true-> ∀i,i<a.length->i<b.length->PR g ([.agg (Qm (a.getD i default)),.agg (Qm (b.getD i default))]++caps) st (.tup [.agg (Qm (G (a.getD i default) (b.getD i default)).1),.sc (.int .i64 (G (a.getD i default) (b.getD i default)).2)])):
 PR 124 [.sl .no (Qj a),.sl .no (Qj b),.fn (.func g) [] caps] st (.tup [.sl .no (Qj (Vc G a b).1),.sc (.int .i64 (Vc G a b).2)]):=by
 refine Qh none Tryz.func124 rfl fun E=>Qe (Qb ?_);simp-dsimp only[go_sem,h1c,h1',h2c,h2',hfz];refine Z5 0 ?_ ?_;simp-dsimp only[go_sem,h1c,h1',h2c,h2',hfz];simp-dsimp only[go_sem,h1c,h1',h2c,h2',hfz];refine Z5 1 ?_ ?_;simp-dsimp only[go_sem,h1c,h1',h2c,h2',hfz];refine Qb ?_;simp-dsimp only[go_sem,h1c,h1',h2c,h2',hfz];refine(Ko a st ha).q ?_;simp-dsimp only[go_sem,h1c,h1',h2c,h2',hfz];have bad: ∀st:Qc,¬(rightB a=true/\rightB b=true/\a.length=b.length)->Vc G a b=([],1):=fun _ h=>BA h;refine gkF ?_ ?_<;>intro h1;have r1:rightB a=true:=(by simpa using h1);simp-dsimp only[go_sem,h1c,h1',h2c,h2',hfz,r1];refine(Ko b st hb).q ?_;simp-dsimp only[go_sem,h1c,h1',h2c,h2',hfz,r1];refine gkF ?_ ?_<;>intro h2;have r2:rightB b=true:=(by simpa using h2);simp-dsimp only[go_sem,h1c,h1',h2c,h2',hfz,r1,r2];refine ck ?_ ?_<;>intro h3;have hne:=Ve h3;simp-dsimp only[go_sem,h1c,h1',h2c,h2',hfz];rw[bad st (fun h=>hne h.2.2)];rfl;have hl:=Kg h3;simp-dsimp only[go_sem,h1c,h1',h2c,h2',hfz];refine(wR _ [.ep [.fn (.func g) [] caps] 0,.ep [.sl .no (Qj b)] 0] (fun i x=>G x (b.getD i default)) a st rfl ha.1 rfl rfl rfl rfl rfl fun i hi=>X1z g caps G i _ b st hc oG h1c h1' h2c h2' hlim (h r1 r2 i hi oG)).q ?_;simp-dsimp only[go_sem,h1c,h1',h2c,h2',hfz];rw[Vc,BC ⟨r1,r2,hl⟩];have r2:rightB b=false:=(by simpa using h2);simp-dsimp only[go_sem,h1c,h1',h2c,h2',hfz,r1,r2];rw[bad st (fun h=>by simp[r2] at h)];rfl;have r1:rightB a=false:=(by simpa using h1);simp-dsimp only[go_sem,h1c,h1',h2c,h2',hfz,r1];rw[bad st (fun h=>by simp[r1] at h)];rfl
theorem j1q (g:FuncId)(caps:Lp)(F:Nat->Ivl->Nm×Int)(l:Li)(st:Qc)(hc:QH Tryz.prog g=true)(hl:l.length<=100000000000)(h1:caps.all PV.closed2=true)(h1':caps.all PV.closed1=true)(h2:caps.map PV.forget2=caps)(h2':caps.map PV.forget1=caps)(hlim:caps.all (PV.lim1 0 1)=true)
 (h: ∀i,i<l.length->PR g ([.sc (.int .i64 i),.agg (Qm (l.getD i default))]++caps) st (.tup [.agg (Qf (F i (l.getD i default)).1),.sc (.int .i64 (F i (l.getD i default)).2)])):
 PR 174 [.sl .no (Qj l),.fn (.func g) [] caps] st (.tup [.sl .no (Q5 (Z1 F 0 l []).1),.sc (.int .i64 (Z1 F 0 l []).2)]):=by
 refine Ql Tryz.func174 fun E=> ?_;refine ZE 6 3 ?_;refine Qq ?_;refine Q1 [false,true,false,false,false,false,true,false,false,false,false,true,true,true] 0 1 (fun n s=> ∃i o,n=l.length-i/\i<=l.length/\o.length=i/\Z1 F 0 l []=Z1 F i (l.drop i) o/\s=⟨[.junk,.fn (.func g) [] caps,.junk,.junk,.junk,.junk,.sl (.own 0) (Q5 o),.junk,.junk,.junk,.junk,.sl .no (Qj l),.sc (.int .i64 l.length),.sc (.int .i64 i)]++jk 20,[],[(o.length,3)],st⟩) l.length ?_ ?_;simp-dsimp only[go_sem,hlim];exact⟨0,[],oG,oG,rfl,rfl,rfl⟩;rintro n s ⟨i,o,rfl,hi,ho,hr,rfl⟩;refine QS ?_ ?_<;>intro h';have hlt:i<l.length:=(by have:=q_b h';omega);have e1:=Zr l i hlt;have e3:=J2v i oG;have e4:=xF F l i o hlt;simp-dsimp only[go_sem,e1,hc,h1,h2];refine⟨oG,?_⟩;refine(h i hlt).q ?_;simp-dsimp only[go_sem,e1];refine ck ?_ ?_<;>intro h2;have hne:=Xm h2;refine Qq ?_;rw[hr,e4,BC hne];rfl;have he:=XA h2;simp-dsimp only[go_sem,e3,hlim];refine⟨oG,l.length-(i+1),oG,i+1,o++ [(F i (l.getD i default)).1],rfl,oG,by simp[ho],?_,?_⟩;rw[hr,e4,BA (fun hh=>hh he)];simp[Q5,Qf];have hge:i=l.length:=(by have:=q_c h';omega);refine Qq ?_;refine Qp ?_;rw[hr,hge,FF];rfl
theorem Q0c (k:Nat)(a b:Li)(p:Int):opB k a b p=Vc (fun x y=>opI k x y p) a b:=by
 unfold opB Vc;by_cases h:rightB a=true/\rightB b=true/\a.length=b.length;rw[BC h];cases hp:Qv p with
 | true=>rw[BC ⟨h.1,h.2.1,h.2.2,rfl⟩]
 | false=>
  rw[BA (fun hh=>by simp at hh),xE _ a (Wx h.1).1 1 (by decide) (fun i x=>by simp only[Q0a hp])]
 rw[BA h,BA (fun hh=>h ⟨hh.1,hh.2.1,hh.2.2.1⟩)]
theorem z0o (x:Ivl)(b:Li)(p:Int)(hx:Qr x=true):XP x b p=Vc (fun y _=>opI 2 x y p) b b:=by
 unfold Vc;by_cases h:rightB b=true;rw[BC ⟨h,h,rfl⟩];unfold XP;cases hp:Qv p with
 | true=>rw[BC ⟨h,hx,rfl⟩]
 | false=>
  rw[BA (fun hh=>by simp at hh),xE _ b (Wx h).1 1 (by decide) (fun i x=>by simp only[Q0a hp])]
 rw[BA (fun hh=>h hh.1)];unfold XP;rw[BA (fun hh=>h hh.1)]
theorem y1j (x y:Ivl)(p:Int)(st:Qc)(hx:wI x)(hy:wI y):PR 125 ([.agg (Qm x),.agg (Qm y)]++ [.ep [.sc (.int .i64 p)] 0]) st (.tup [.agg (Qm (opI 0 x y p).1),.sc (.int .i64 (opI 0 x y p).2)]):=by refine Ql Tryz.func125 fun E=> ?_;refine(UL x y p _ hx hy).Q0
theorem y1a (x y:Ivl)(p:Int)(st:Qc)(hx:wI x)(hy:wI y):PR 177 ([.agg (Qm x),.agg (Qm y)]++ [.ep [.sc (.int .i64 p)] 0]) st (.tup [.agg (Qm (opI 1 x y p).1),.sc (.int .i64 (opI 1 x y p).2)]):=by refine Ql Tryz.func177 fun E=> ?_;refine(J0a x y p _ hx hy).Q0
theorem w1z (x y z:Ivl)(p:Int)(st:Qc)(hx:wI x)(hy:wI y):PR 311 ([.agg (Qm y),.agg (Qm z)]++ [.ep (Qm x) 0,.ep [.sc (.int .i64 p)] 0]) st (.tup [.agg (Qm (opI 2 x y p).1),.sc (.int .i64 (opI 2 x y p).2)]):=by refine Ql Tryz.func311 fun E=> ?_;refine(UK x y p _ hx hy).Q0
theorem y6 (a b:Li)(p:Int)(st:Qc)(ha:wB a)(hb:wB b):PR 71 [.sl .no (Qj a),.sl .no (Qj b),.sc (.int .i64 p)] st (.tup [.sl .no (Qj (opB 0 a b p).1),.sc (.int .i64 (opB 0 a b p).2)]):=by rw[Q0c];refine Qh none Tryz.func71 rfl fun E=>Qe (Qb ?_);refine Qq ?_;refine Z5 0 ?_ ?_;exact QA;refine Qp ?_;refine(kD _ [.ep [.sc (.int .i64 p)] 0] (fun x y=>opI 0 x y p) a b st rfl ha hb rfl rfl rfl rfl rfl (fun _ _=>rfl) fun _ _ i h1 h2=>y1j _ _ p st (ha.2 i h1) (hb.2 i h2)).Q0
theorem Y0q (a b:Li)(p:Int)(st:Qc)(ha:wB a)(hb:wB b):PR 107 [.sl .no (Qj a),.sl .no (Qj b),.sc (.int .i64 p)] st (.tup [.sl .no (Qj (opB 1 a b p).1),.sc (.int .i64 (opB 1 a b p).2)]):=by rw[Q0c];refine Qh none Tryz.func107 rfl fun E=>Qe (Qb ?_);refine Qq ?_;refine Z5 0 ?_ ?_;exact QA;refine Qp ?_;refine(kD _ [.ep [.sc (.int .i64 p)] 0] (fun x y=>opI 1 x y p) a b st rfl ha hb rfl rfl rfl rfl rfl (fun _ _=>rfl) fun _ _ i h1 h2=>y1a _ _ p st (ha.2 i h1) (hb.2 i h2)).Q0
theorem w1y (x:Ivl)(b:Li)(p:Int)(st:Qc)(hx:wI x)(hb:wB b):PR 266 [.agg (Qm x),.sl .no (Qj b),.sc (.int .i64 p)] st (.tup [.sl .no (Qj (XP x b p).1),.sc (.int .i64 (XP x b p).2)]):=by
 refine Qh none Tryz.func266 rfl fun E=>Qe (Qb ?_);refine Qq ?_;refine Z5 0 ?_ ?_;exact QA;refine Qq ?_;refine Z5 1 ?_ ?_;exact QA;refine Qp ?_;refine(JF x st hx).q ?_;cases r1:Qr x with
 | false=>
  refine Qq ?_;rw[XP,BA (by simp[r1])];rfl
 | true=>
  rw[z0o x b p r1];refine Qq ?_;refine(kD _ [.ep (Qm x) 0,.ep [.sc (.int .i64 p)] 0] (fun y _=>opI 2 x y p) b b st rfl hb hb rfl rfl rfl rfl rfl (fun _ _=>rfl) fun _ _ i h1 h2=>w1z x _ _ p st hx (hb.2 i h1)).Q0
theorem y1f (i:Int)(a:Ivl)(p:Int)(st:Qc)(ha:wI a):PR 175 ([.sc (.int .i64 i),.agg (Qm a)]++ [.ep [.sc (.int .i64 p)] 0]) st (.tup [.agg (Qf (Zk a p).1),.sc (.int .i64 (Zk a p).2)]):=by refine Ql Tryz.func175 fun E=> ?_;refine(G1h a p _ ha).Q0
theorem W1w (b:Li)(p:Int)(h:rightB b=true):QJ b p=Z1 (fun _ a=>Zk a p) 0 b []:=by
 unfold QJ;cases hp:Qv p with
 | true=>rw[BC ⟨h,rfl⟩]
 | false=>rw[BA (fun hh=>by simp at hh),xE _ b (Wx h).1 1 (by decide) (fun i x=>by simp only[W1s hp])]
theorem y5 (b:Li)(p:Int)(st:Qc)(hb:wB b):PR 106 [.sl .no (Qj b),.sc (.int .i64 p)] st (.tup [.sl .no (Q5 (QJ b p).1),.sc (.int .i64 (QJ b p).2)]):=by
 refine Qh none Tryz.func106 rfl fun E=>Qe (Qb ?_);refine Qq ?_;refine Z5 0 ?_ ?_;exact QA;refine Qp ?_;refine(Ko b st hb).q ?_;cases r1:rightB b with
 | false=>
  refine Qq ?_;rw[QJ,BA (by simp[r1])];rfl
 | true=>
  rw[W1w b p r1];refine Qq ?_;refine(j1q _ [.ep [.sc (.int .i64 p)] 0] (fun _ a=>Zk a p) b st rfl hb.1 rfl rfl rfl rfl rfl fun i hi=>y1f _ _ p st (hb.2 i hi)).Q0
end Go.Pv
end
