/- Walk. -/
import Derived.Test.YtfoiagbimnghjaaGreatDoorZP
import Derived.Laws.Externs
set_option linter.all false
section
namespace Go.Pv
open Go.Proofs
theorem Q2v {vs:Lb}{x y z:Value}(hl:vs.size=3)(h0:vs.getD 0 undef=x)(h1:vs.getD 1 undef=y)(h2:vs.getD 2 undef=z):vs= #[x,y,z]:=by
 obtain⟨l⟩:=vs
 match l,hl with
 | [a,b,c],_=>
  have e0:a=x:=h0;have e1:b=y:=h1;have e2:c=z:=h2;subst e0;subst e1;subst e2;rfl
theorem J0x {P:Pg}{f:FuncId}{x y z:Value}{u v:Value}(st:Qd)(h: ∀w,(callFunc f #[x,y,z]).run P w= .ok (.value (.tuple #[u,v])) w):
 ExtCalls P f [.sc x,.sc y,.sc z] st (fun r st'=>r= .tup [.sc u,.sc v]/\st'=st):=by
 refine⟨.tup [.sc u,.sc v],(fun _ _ h=>nomatch h),fun w g vs hr=>⟨.tuple #[u,v],?_,?_⟩,rfl,rfl⟩;have h0:=Rep.sc_inv (hr.2 0 (by simp));have h1:=Rep.sc_inv (hr.2 1 (by simp));have h2:=Rep.sc_inv (hr.2 2 (by simp));rw[Q2v hr.1 h0 h1 h2];exact h w;refine .tup _ _ rfl fun j hj=> ?_
 match j,hj with
 | 0,_=>exact .sc _
 | 1,_=>exact .sc _
theorem k0w {P:Pg}(x y b:Nat)(hb:b<=1)(w:Lw):((Extern.MathBitsCarry.rows[1]'(by decide)).2 #[.int .u64 x,.int .u64 y,.int .u64 b]).run P w=
 .ok (.tuple #[.int .u64 (((x+18446744073709551616-y-b) % 18446744073709551616:Nat):Int),.int .u64 ((if x<y+b then 1 else 0:Nat):Int)]) w:=by
 have:b=0\/b=1:=oG;rcases this with rfl | rfl<;>rfl
theorem v0h {P:Pg}(x y c:Nat)(hc:c<=1)(w:Lw):((Extern.MathBitsCarry.rows[0]'(by decide)).2 #[.int .u64 x,.int .u64 y,.int .u64 c]).run P w=
 .ok (.tuple #[.int .u64 (((x+y+c) % 18446744073709551616:Nat):Int),.int .u64 (((x+y+c)/18446744073709551616:Nat):Int)]) w:=by
 have:c=0\/c=1:=oG;rcases this with rfl | rfl<;>rfl
theorem Z2n (x y c:Nat)(st:Qd)(hc:c<=1):ExtCalls Tryz.prog 240 [.sc (.int .u64 x),.sc (.int .u64 y),.sc (.int .u64 c)] st (fun r st'=>r= .tup [.sc (.int .u64 ((x+y+c) % 18446744073709551616:Nat)),.sc (.int .u64 ((x+y+c)/18446744073709551616:Nat))]/\st'=st):=by refine J0x st fun w=> ?_;rw[run_callFunc_extern Tryz.func240 (by kernel_rfl) (by kernel_rfl) (by kernel_rfl) (e:=(Extern.MathBitsCarry.rows[0]'(by decide)).2) (by kernel_rfl),v0h x y c hc w];rfl
theorem x0f (x y b:Nat)(st:Qd)(hb:b<=1):ExtCalls Tryz.prog 242 [.sc (.int .u64 x),.sc (.int .u64 y),.sc (.int .u64 b)] st (fun r st'=>r= .tup [.sc (.int .u64 ((x+18446744073709551616-y-b) % 18446744073709551616:Nat)),.sc (.int .u64 (if x<y+b then 1 else 0:Nat))]/\st'=st):=by refine J0x st fun w=> ?_;rw[run_callFunc_extern Tryz.func242 (by kernel_rfl) (by kernel_rfl) (by kernel_rfl) (e:=(Extern.MathBitsCarry.rows[1]'(by decide)).2) (by kernel_rfl),k0w x y b hb w];rfl
theorem W0 (x y c:Nat)(st:Qd)(hx:x<18446744073709551616)(hy:y<18446744073709551616)(hc:c<=1):ExtCalls Tryz.prog 240 [.sc (.int .u64 x),.sc (.int .u64 y),.sc (.int .u64 c)] st
 (fun r st'=> ∃(z:UInt64) (c':Nat),c'<=1/\z.toNat+18446744073709551616*c'=x+y+c/\r= .tup [.sc (.int .u64 z.toNat),.sc (.int .u64 c')]/\st'=st):=by
 refine(Z2n x y c st hc).mono ?_;rintro r st' ⟨rfl,rfl⟩;have hz:(UInt64.ofNat ((x+y+c) % 18446744073709551616)).toNat=(x+y+c) % 18446744073709551616:=(by rw[FG];omega);refine⟨UInt64.ofNat ((x+y+c) % 18446744073709551616),(x+y+c)/18446744073709551616,oG,by rw[hz];omega,by rw[hz],rfl⟩
theorem qH (x y b:Nat)(st:Qd)(hx:x<18446744073709551616)(hy:y<18446744073709551616)(hb:b<=1):ExtCalls Tryz.prog 242 [.sc (.int .u64 x),.sc (.int .u64 y),.sc (.int .u64 b)] st
 (fun r st'=> ∃(z:UInt64) (b':Nat),b'<=1/\z.toNat+y+b=x+18446744073709551616*b'/\r= .tup [.sc (.int .u64 z.toNat),.sc (.int .u64 b')]/\st'=st):=by
 refine(x0f x y b st hb).mono ?_;rintro r st' ⟨rfl,rfl⟩;have hz:(UInt64.ofNat ((x+18446744073709551616-y-b) % 18446744073709551616)).toNat=(x+18446744073709551616-y-b) % 18446744073709551616:=(by rw[FG];omega);refine⟨UInt64.ofNat ((x+18446744073709551616-y-b) % 18446744073709551616),if x<y+b then 1 else 0,by split<;>omega,?_,by rw[hz],rfl⟩;rw[hz];split<;>omega
theorem K0c (l:Lu):(Qf l).all PV.scal=true:=by rw[q_d];intro p hp;simp[Qf] at hp;obtain⟨c,_,rfl⟩:=hp;rfl
theorem X1f (a:Lu)(n:Nat)(h:a.length<=n):Qu (Qf (List.replicate n 0)) 0 (Qf a)=Qf (a++List.replicate (n-a.length) 0):=by unfold Qu Qf;simp[E5,List.drop_replicate]
set_option maxRecDepth 100000
theorem yp (o:Lu)(i:Nat)(z:UInt64)(c c' y S:Nat)(hi:i<o.length)(hz:z.toNat+18446744073709551616*c'=(o.getD i 0).toNat+y+c)(hv:Qc o+18446744073709551616^i*c=S):
 Qc (o.set i z)+18446744073709551616^(i+1)*c'=S+18446744073709551616^i*y:=by
 have e1:=YA o i z hi;have h:=B4 (18446744073709551616^i* ·) hz;simp only[CE] at h;rw[B5,BW];omega
theorem w1t (A B:Lu)(m0 c V:Nat)(h0:m0=A.length+1)(hl:B.length<=A.length)(hv:V+18446744073709551616^m0*c=Qc A+Qc B):c=0:=by
 have vB:=Xe B;have vA:=Xe A;have hp:18446744073709551616^B.length<=18446744073709551616^A.length:=BS (by decide) hl;apply Nat.eq_zero_of_not_pos;intro hc;have:18446744073709551616^m0*1<=18446744073709551616^m0*c:=DP _ hc;rw[h0,B5] at*
 omega
theorem zM (a b:Lu)(st:Qd)(ha:a.length<=1000000000000)(hb:b.length<=1000000000000):PR 175 [.sl .no (Qf a),.sl .no (Qf b)] st (.sl .no (Qf (Qz (Qc a+Qc b)))):=by
 refine Qj Tryz.func175 fun E=> ?_;refine(ZO a st oG).Q ?_;refine(ZO b st oG).Q ?_;have la:=J8 a;have lb:=J8 b;rw[<-Jw a,<-Jw b];generalize QE a=a at*
 generalize QE b=b at*
 obtain⟨N,hN⟩: ∃N,N=Qc a+Qc b:=⟨_,rfl⟩;rw[<-hN];refine ck ?_ ?_<;>intro h
 case' refine_1=>
  have hle:a.length<=b.length:=oT h
  have h1:b.length<=1000000000000:=oG;have hM:N=Qc b+Qc a:=oG;clear h la lb ha hb hN;generalize a=B at*
  generalize b=A at*
 case' refine_2=>
  have hle:b.length<=a.length:=oF h
  have h1:a.length<=1000000000000:=oG;have hM:N=Qc a+Qc b:=hN;clear h la lb ha hb hN;generalize b=B at*
  generalize a=A at*
 all_goals
  obtain⟨m0,hm0⟩: ∃m0,m0=A.length+1:=⟨_,rfl⟩;have x1:IntKind.i64.wrap ((A.length:Int)+1)=((m0:Nat):Int):=(by rw[show((A.length:Int)+1)=((A.length+1:Nat):Int) from rfl,Zd _ oG,hm0]);have x2:=K0c A;have x3:A.take m0=A:=BF oG;have x4:=X1f A m0 oG;have x5:m0-A.length=1:=oG;rw[x5] at x4;have vB:=Xe B;have vA:=Xe A;simp-dsimp only[go_sem,x1,x2,x3,x4];refine⟨⟨oG,oG,oG⟩,⟨by simp;omega,by simp;omega⟩,?_⟩;refine Q3 ([false,true,false,false,false,true,true]++rF 21++ [true,true]) 1 0
   (fun m s'=> ∃i c o,m=B.length-i/\i<=B.length/\c<=1/\o.length=m0/\Qc o+18446744073709551616^i*c=Qc A+Qc (B.take i)/\
    s'=⟨[.junk,.sl .no (Qf B),.junk,.junk,.junk,.ms false 0 0 m0,.sc (.int .u64 (c:Nat))]++jk 21++ [.sc (.int .i64 B.length),.sc (.int .i64 (i:Nat))]++jk 43,[Qf o],[],st⟩) B.length ?_ ?_
  refine Qr ?_;refine⟨0,0,A++ [0],oG,oG,oG,by simp;omega,?_,rfl⟩;rw[YB];simp[Qc,nW,val];rintro m s' ⟨i,c,o,rfl,hi,hc,ho,hv,rfl⟩;refine QM ?_ ?_<;>intro h;have hlt:i<B.length:=(oT h);have g1:=Zs B i hlt;have g2:=Zs o i oG;have x6:=J2u i oG;refine Qr ?_;refine Q5 73 (Qi [0,1,2,3,4,5,6,7,8,9,10,11,12,13,14,15,16,17] .done) ?_;simp-dsimp only[go_sem,g1,g2];refine⟨⟨oG,oG⟩,oG,⟨oG,hlt⟩,?_⟩;refine(W0 (o.getD i 0).toNat (B.getD i 0).toNat c st (BT _) (BT _) hc).mono ?_;rintro r st' ⟨z,c',hc',hz,rfl,rfl⟩;have o1:=VS o i z oG;have e1:=YA o i z oG;have e2:=V7 B i hlt;simp-dsimp only[go_sem,g1,g2,o1,x6];have hs:=yp o i z c c' (B.getD i 0).toNat _ oG hz hv;refine⟨⟨oG,oG⟩,⟨oG,oG⟩,_,oG,i+1,c',o.set i z,rfl,oG,hc',by rw[BL];exact ho,?_,rfl⟩;rw[hs,e2];omega;have hge:i=B.length:=(oF h);refine Qr ?_;refine Qq ?_;rw[hge,B0,<-hM] at hv;rw[hge] at*
  refine Q3 [false,false,false,false,false,true,true,false,true] 1 0
   (fun m s'=> ∃i c o,m=m0-i/\i<=m0/\c<=1/\o.length=m0/\Qc o+18446744073709551616^i*c=N/\
    s'=⟨[.junk,.junk,.junk,.junk,.junk,.ms false 0 0 m0,.sc (.int .u64 (c:Nat)),.junk,.sc (.int .i64 (i:Nat))]++jk 64,[Qf o],[],st⟩) (m0-B.length) ?_ ?_
  refine Qr ?_;exact⟨B.length,c,o,oG,oG,hc,ho,hv,rfl⟩;clear hv hc ho;clear o c;rintro m s' ⟨i,c,o,rfl,hi,hc,ho,hv,rfl⟩;refine QM ?_ ?_<;>intro h;have hlt:i<m0:=(oT h);refine QM ?_ ?_<;>intro h;have hc0:c=0:=Vt (b:=0) h;have hN0:Qc o=N:=(by rw[hc0] at hv;simpa using hv);have ht:o.take m0=o:=BF oG;have hle2:m0<=o.length:=oG;refine Qr ?_;refine Zz 0 ?_ ?_;exact QA;refine Qb ?_;simp-dsimp only[go_sem,ht,hle2];refine(ZO o st oG).Q ?_;rw[<-ZE o,hN0];have g2:=Zs o i oG;have x6:=J2u i oG;simp-dsimp only[go_sem,g2];refine⟨⟨oG,oG⟩,oG,?_⟩;refine(W0 (o.getD i 0).toNat 0 c st (BT _) (by decide) hc).mono ?_;rintro r st' ⟨z,c',hc',hz,rfl,rfl⟩;have o1:=VS o i z oG;have hs:=yp o i z c c' 0 _ oG hz hv;simp-dsimp only[go_sem,o1,x6];refine⟨⟨oG,oG⟩,⟨oG,oG⟩,_,oG,i+1,c',o.set i z,rfl,oG,hc',by rw[BL];exact ho,by simpa using hs,rfl⟩;have hge2:i=m0:=(oF h);have hc0:c=0:=w1t A B m0 c (Qc o) hm0 hle (by rw[<-hge2,hv];exact hM);have hN0:Qc o=N:=(by rw[hc0] at hv;simpa using hv);have ht:o.take m0=o:=BF oG;have hle2:m0<=o.length:=oG;refine Qr ?_;refine Zz 0 ?_ ?_;exact QA;refine Qb ?_;simp-dsimp only[go_sem,ht,hle2];refine(ZO o st oG).Q ?_;rw[<-ZE o,hN0]
theorem Tp (off:Nat)(T:Lu)(k:Nat)(h:k<T.length):(List.replicate off PV.junk++Qf T).getD (off+k) .junk= .sc (.int .u64 (T.getD k 0).toNat):=by rw[q_a,CA (by simp),ER,DY,<-q_a];exact Zs T k h
theorem To (off:Nat)(T:Lu)(k:Nat)(c:UInt64)(h:k<T.length):Qu (List.replicate off PV.junk++Qf T) (off+k) [.sc (.int .u64 c.toNat)]=List.replicate off PV.junk++Qf (T.set k c):=by unfold Qu;have e:Qf (T.set k c)=(Qf T).set k (.sc (.int .u64 c.toNat)):=(by unfold Qf;rw[FA]);rw[e,show List.replicate off PV.junk++(Qf T).set k (.sc (.int .u64 c.toNat))=(List.replicate off PV.junk++Qf T).set (off+k) (.sc (.int .u64 c.toNat)) from by rw[CJ _ _ (by simp),ER,DY]];rw[DS,BC (by simp[Qf];omega)];simp
theorem Tq (off:Nat)(T:Lu):((List.replicate off PV.junk++Qf T).drop off).take T.length=Qf T:=by rw[EW (by simp),E7 (by simp),CQ,BF (by rw[Jp];exact BD _)]
theorem Y0d (o:Lu)(i:Nat)(z:UInt64)(c c' y S V:Nat)(hi:i<o.length)(hz:z.toNat+y+c=(o.getD i 0).toNat+18446744073709551616*c')(hv:Qc o+S=V+18446744073709551616^i*c):
 Qc (o.set i z)+(S+18446744073709551616^i*y)=V+18446744073709551616^(i+1)*c':=by
 have e1:=YA o i z hi;have h:=B4 (18446744073709551616^i* ·) hz;simp only[CE] at h;rw[B5,BW];omega
theorem Q2a (o:Lu)(S V n c:Nat)(hn:o.length=n)(hs:S<=V)(hv:Qc o+S=V+18446744073709551616^n*c):c=0:=by have v:=Xe o;rw[hn] at v;apply Nat.eq_zero_of_not_pos;intro hc;have:18446744073709551616^n*1<=18446744073709551616^n*c:=DP _ hc;omega
set_option maxHeartbeats 4000000 in
theorem Q0e (a b:Lu)(st:Qd)(ha:a.length<=1000000000000)(hb:b.length<=1000000000000):PR 176 [.sl .no (Qf a),.sl .no (Qf b)] st (.tup [.sl .no (Qf (if Qc a<Qc b then [] else Qz (Qc a-Qc b))),.sc (.bool (decide (Qc b<=Qc a)))]):=by
 refine PCalls.drop ?_;refine Qj Tryz.func176 fun E=> ?_;refine(Hi a b st oG oG).Q ?_;have bnd: ∀(l:Lu) (x:Bool),Bnd st.length (.tup [.sl .no (Qf l),.sc (.bool x)]):=fun l x=>by
  refine .tup _ fun j hj=> ?_
  match j,hj with
  | 0,_=>
   refine .sl _ _ 1 (fun i hi=> ?_) (fun i j hi hj=> ?_);rw[Jp] at hi;rw[Zs l i hi];rfl;rw[Jp] at hi;rw[Zs l i hi];have:j=0:=oG;subst this;exact .sc _
  | 1,_=>exact .sc _
 refine ck ?_ ?_<;>intro h;have hlt:Qc a<Qc b:=by have:=q_b h;unfold X0 Zm at this;split at this;omega;split at this<;>omega
 have h2:decide (Qc b<=Qc a)=false:=q_g oG;refine Qr ?_;rw[BC hlt,h2];exact⟨bnd [] false,[],(B9 _).symm,rfl⟩;have hle:Qc b<=Qc a:=by have:=q_c h;unfold X0 Zm at this;split at this;omega;omega
 have h2:decide (Qc b<=Qc a)=true:=q_h hle;rw[BA oG,h2];have la:=J8 a;have lb:=J8 b;have va:=Jw a;have vb:=Jw b;by_cases h0:QE a= [];refine Qr ?_;refine(G7 a st oG).plain.Q ?_;refine(ZO b st oG).q ?_;have a0:Qc a=0:=(by rw[<-va,h0];rfl);have hcb:QE b= []:=(by rw[<-ZE b,show Qc b=0 from oG,Vc]);rw[h0,hcb,a0,show 0-Qc b=0 from oG,Vc];refine Qr ?_;have f1:decide ((0:Int)<((0:Nat):Int))=false:=rfl;refine Q3 ([false,true,false,false,false,false,true,true]++rF 11++ [true,true]) 0 0
  (fun m s'=>m=0/\s'=⟨[.junk,.sl .no [],.junk,.junk,.junk,.junk,.sl .no [],.sc (.int .u64 0)]++jk 11++ [.sc (.int .i64 ((0:Nat):Int)),.sc (.int .i64 0)]++jk 43,[],[],st⟩) 0 ?_ ?_
 exact QA;rintro m s' ⟨rfl,rfl⟩;simp-dsimp only[go_sem,f1];refine Qq ?_;refine Q3 [false,false,false,false,false,false,true,true,false,true] 0 0
  (fun m s'=>m=0/\s'=⟨[.junk,.junk,.junk,.junk,.junk,.junk,.sl .no [],.sc (.int .u64 0),.junk,.sc (.int .i64 ((0:Nat):Int))]++jk 54,[],[],st⟩) 0 ?_ ?_
 exact QA;rintro m s' ⟨rfl,rfl⟩;have f2:decide (((0:Nat):Int)<((0:Nat):Int))=false:=rfl;simp-dsimp only[go_sem,f2];refine Qq ?_;refine(ZO [] st (by simp)).Q ?_;exact⟨bnd [] true,[],(B9 _).symm,rfl⟩;have hcall:=PCalls.owned (P:=Tryz.prog) (f:=189) (args:= [.sl .no (Qf a)]) (es:=Qf (QE a)) (by rw[Jp];exact EM.2 h0) (fun j hj=>⟨_,Zs _ j (by rw[Jp] at hj;exact hj)⟩) (fun p hp=>by simp at hp;subst hp;exact K1c a _) (G7 a [] oG) st;rw[Jp] at hcall;refine Qr ?_;refine hcall.mono ?_;rintro r st' ⟨off,rfl,rfl⟩;refine Qr ?_;refine(ZO b _ oG).w ?_;rintro st' rfl;have hBA:(QE b).length<=(QE a).length:=(by rw[<-ZE b,Qz,BR];refine xt (by decide) _ _ ?_;have:=Xe (QE a);omega);rw[<-va,<-vb] at hle⊢;generalize QE a=A at*
 generalize QE b=B at*
 have vA:=Xe A;have hAp:0<A.length:=EM.2 h0;clear hcall va vb h;refine Qr ?_;have r0:(List.replicate off PV.junk).length=off:=ER;refine Q3 ([false,true,false,false,false,false,true,true]++rF 11++ [true,true]) 0 0
  (fun m s'=> ∃i c o,m=B.length-i/\i<=B.length/\c<=1/\o.length=A.length/\Qc o+Qc (B.take i)=Qc A+18446744073709551616^i*c/\
   s'=⟨[.junk,.sl .no (Qf B),.junk,.junk,.junk,.junk,.ms true st.length off A.length,.sc (.int .u64 (c:Nat))]++jk 11++ [.sc (.int .i64 B.length),.sc (.int .i64 (i:Nat))]++jk 43,[],[],st++ [List.replicate off PV.junk++Qf o]⟩) B.length ?_ ?_
 refine Qr ?_;exact⟨0,0,A,oG,oG,oG,rfl,by simp[Qc,nW,val],rfl⟩;rintro m s' ⟨i,c,o,rfl,hi,hc,ho,hv,rfl⟩;have gst:(st++ [List.replicate off PV.junk++Qf o]).getD st.length []=List.replicate off PV.junk++Qf o:=(by simp[q_a]);refine QM ?_ ?_<;>intro h;have hlt:i<B.length:=(oT h);have g1:=Zs B i hlt;have g2:=Tp off o i oG;have x6:=J2u i oG;refine Qr ?_;refine Q5 64 (Qi [0,1,2,3,4,5,6,7,8,9,10,11,12,13,14,15,16,17] .done) ?_;simp-dsimp only[go_sem,g1,g2,gst];rw[r0];refine⟨⟨oG,oG⟩,oG,⟨oG,hlt⟩,?_⟩;refine(qH (o.getD i 0).toNat (B.getD i 0).toNat c _ (BT _) (BT _) hc).mono ?_;rintro r st' ⟨z,c',hc',hz,rfl,rfl⟩;have o1:=To off o i z oG;have e2:=V7 B i hlt;have hs:=Y0d o i z c c' (B.getD i 0).toNat _ _ oG hz hv;have sst:(st++ [List.replicate off PV.junk++Qf o]).set st.length (List.replicate off PV.junk++Qf (o.set i z))=st++ [List.replicate off PV.junk++Qf (o.set i z)]:=(by rw[CJ _ _ (BD _)];simp);simp-dsimp only[go_sem,g1,g2,gst,o1,sst,x6];rw[r0];refine⟨⟨oG,oG⟩,⟨oG,oG⟩,_,oG,i+1,c',o.set i z,rfl,oG,hc',by rw[BL];exact ho,?_,rfl⟩;rw[e2];exact hs;have hge:i=B.length:=(oF h);refine Qr ?_;refine Qq ?_;rw[hge,B0] at hv;clear gst;refine Q3 [false,false,false,false,false,false,true,true,false,true] 0 0
  (fun m s'=> ∃i c o,m=A.length-i/\i<=A.length/\c<=1/\o.length=A.length/\Qc o+Qc B=Qc A+18446744073709551616^i*c/\
   s'=⟨[.junk,.junk,.junk,.junk,.junk,.junk,.ms true st.length off A.length,.sc (.int .u64 (c:Nat)),.junk,.sc (.int .i64 (i:Nat))]++jk 54,[],[],st++ [List.replicate off PV.junk++Qf o]⟩) (A.length-B.length) ?_ ?_
 refine Qr ?_;exact⟨B.length,c,o,oG,oG,hc,ho,hv,rfl⟩;clear hv hc ho hge hi h;clear i c o;rintro m s' ⟨i,c,o,rfl,hi,hc,ho,hv,rfl⟩;refine QM ?_ ?_<;>intro h;have hlt:i<A.length:=(oT h);refine QM ?_ ?_<;>intro h;have hc0:c=0:=Vt (b:=0) h;have hN0:Qc o=Qc A-Qc B:=(by rw[hc0,DQ] at hv;omega);have gst:(st++ [List.replicate off PV.junk++Qf o]).getD st.length []=List.replicate off PV.junk++Qf o:=(by simp[q_a]);have hct:=Tq off o;rw[ho] at hct;have hle3:off+A.length<=(List.replicate off PV.junk).length+o.length:=(by rw[r0];omega);refine Qr ?_;refine kw st.length 6 (by simp) ?_ ?_ ?_;intro p hp;have hp':p∈List.replicate off PV.junk++Qf o:=(by rw[<-gst];exact hp);rcases DN.1 hp' with hp' | hp';rw[List.eq_of_mem_replicate hp'];rfl;simp[Qf] at hp';obtain⟨c,_,rfl⟩:=hp';rfl;intro e;have h2:(List.replicate off PV.junk++Qf o).length=0:=by have e':(st++ [List.replicate off PV.junk++Qf o]).getD st.length []= []:=e;rw[gst] at e';rw[e'];rfl
 rw[BH,Jp] at h2;omega;refine Qb ?_;simp-dsimp only[go_sem,gst,hct,hle3];refine(ZO o _ oG).Q ?_;rw[<-ZE o,hN0];refine⟨bnd _ _,[[]],?_,rfl⟩;rw[CJ _ _ (BD _)];simp;have gst:(st++ [List.replicate off PV.junk++Qf o]).getD st.length []=List.replicate off PV.junk++Qf o:=(by simp[q_a]);have g2:=Tp off o i oG;have x6:=J2u i oG;simp-dsimp only[go_sem,g2,gst];rw[r0];refine⟨⟨oG,oG⟩,oG,?_⟩;refine(qH (o.getD i 0).toNat 0 c _ (BT _) (by decide) hc).mono ?_;rintro r st' ⟨z,c',hc',hz,rfl,rfl⟩;have o1:=To off o i z oG;have hs:=Y0d o i z c c' 0 _ _ oG hz hv;have sst:(st++ [List.replicate off PV.junk++Qf o]).set st.length (List.replicate off PV.junk++Qf (o.set i z))=st++ [List.replicate off PV.junk++Qf (o.set i z)]:=(by rw[CJ _ _ (BD _)];simp);simp-dsimp only[go_sem,gst,o1,sst,x6];rw[r0];exact⟨⟨oG,oG⟩,⟨oG,oG⟩,_,oG,i+1,c',o.set i z,rfl,oG,hc',by rw[BL];exact ho,by simpa using hs,rfl⟩;have hge2:i=A.length:=(oF h);have hc0:c=0:=Q2a o (Qc B) (Qc A) A.length c ho hle (by rw[hv,hge2]);have hN0:Qc o=Qc A-Qc B:=(by rw[hc0,DQ] at hv;omega);have gst:(st++ [List.replicate off PV.junk++Qf o]).getD st.length []=List.replicate off PV.junk++Qf o:=(by simp[q_a]);have hct:=Tq off o;rw[ho] at hct;have hle3:off+A.length<=(List.replicate off PV.junk).length+o.length:=(by rw[r0];omega);refine Qr ?_;refine kw st.length 6 (by simp) ?_ ?_ ?_;intro p hp;have hp':p∈List.replicate off PV.junk++Qf o:=(by rw[<-gst];exact hp);rcases DN.1 hp' with hp' | hp';rw[List.eq_of_mem_replicate hp'];rfl;simp[Qf] at hp';obtain⟨c,_,rfl⟩:=hp';rfl;intro e;have h2:(List.replicate off PV.junk++Qf o).length=0:=by have e':(st++ [List.replicate off PV.junk++Qf o]).getD st.length []= []:=e;rw[gst] at e';rw[e'];rfl
 rw[BH,Jp] at h2;omega;refine Qb ?_;simp-dsimp only[go_sem,gst,hct,hle3];refine(ZO o _ oG).Q ?_;rw[<-ZE o,hN0];refine⟨bnd _ _,[[]],?_,rfl⟩;rw[CJ _ _ (BD _)];simp
theorem z1k (x:Nm)(st:Qd):PR 180 [.agg (Qg x)] st (.agg (Qg { x with neg:= !x.neg })):=by refine Ql none Tryz.func180 rfl fun E=>Qb ?_;exact QA
def yk (v:Value)(z:Nat):Bool:=
 match v with
 | .int .u8 n=>n==(z:Int)
 | _=>false
theorem w1d {v:Value}{z:Nat}(h:yk v z=true):v= .int .u8 z:=by unfold yk at h;split at h;rename_i n;have e:n=(z:Int):=(by simpa using h);rw[e];cases h
def deb :List Value:=(theTab.getD 0 (0,[])).2
theorem V0q :qF 0= .ep (deb.map .sc) 0:=(rfl)
theorem k1i :((List.range 64).all fun z=>yk (deb.getD (2^z*285870213051353865 % 18446744073709551616/2^58) undef) z)=true:=by decide+kernel
theorem IN :deb.length=64:=by decide+kernel
theorem V0r (z:Nat)(hz:z<64):(deb.map PV.sc).getD (2^z*285870213051353865 % 18446744073709551616/2^58) .junk= .sc (.int .u8 z):=by have h:=List.all_eq_true.1 k1i z (by simpa using hz);have h2:=w1d h;have hl:2^z*285870213051353865 % 18446744073709551616/2^58<deb.length:=(by rw[IN];omega);rw[Ji _ _ _ _ undef hl,h2]
theorem q0d (x:Nat)(h0:x≠0)(hx:x<18446744073709551616):IntKind.u64.wrap (0-(x:Int))=((18446744073709551616-x:Nat):Int):=by unfold IntKind.wrap IntKind.signed IntKind.bits;simp;omega
theorem q0c (x:Nat)(h0:x≠0)(hx:x<18446744073709551616):Xm .u64 (x:Int) ((18446744073709551616-x:Nat):Int)=((2^tz x:Nat):Int):=by rw[xJ _ _ hx oG,W1q x oG hx]
theorem Bo (y:Nat):IntKind.u64.wrap ((y:Int)*285870213051353865)=((y*285870213051353865 % 18446744073709551616:Nat):Int):=by rw[show(285870213051353865:Int)=((285870213051353865:Nat):Int) from rfl,<-CN,ZW]
theorem q0b (y:Nat):Zq .u64 (y:Int) 58=((y/2^58:Nat):Int):=V4 _ 58 oG
theorem q0a (y:Nat):y % 18446744073709551616/2^58<64:=oG
theorem Bu (x z y j t:Nat)(T:Lp)(st:Qd)(hx:x<18446744073709551616)(n1:x≠0->IntKind.u64.wrap (0-(x:Int))=((18446744073709551616-x:Nat):Int))(n2:x≠0->Xm .u64 (x:Int) ((18446744073709551616-x:Nat):Int)=(z:Int))
 (n3:IntKind.u64.wrap ((z:Int)*285870213051353865)=(y:Int)) (n4:Zq .u64 (y:Int) 58=(j:Int)) (hj:j<64) (ht:qF 0= .ep T 0) (hl:T.length=64) (hg:T.getD j .junk= .sc (.int .u8 t)) (h6:t<=64):
 PR 250 [.sc (.int .u64 x)] st (.sc (.int .i64 (if x=0 then 64 else t:Nat))):=by
 refine Qj Tryz.func250 fun E=> ?_;refine ck ?_ ?_<;>intro h;have h0:=Vt (b:=0) h;refine Qr ?_;rw[BC h0];rfl;have h0:=Yu (b:=0) h;have n1:=n1 h0;have n2:=n2 h0;rw[BA h0];simp-dsimp only[go_sem,PFS.ev,n1,n2,n3,n4,ht,hg,hl];refine⟨⟨oG,hj⟩,oG,?_⟩;rw[Zd _ oG]
theorem q0g (x:Nat)(st:Qd)(hx:x<18446744073709551616):PR 250 [.sc (.int .u64 x)] st (.sc (.int .i64 (if x=0 then 64 else tz x:Nat))):=by by_cases h0:x=0;refine(Bu x 1 285870213051353865 0 0 (deb.map .sc) st hx (fun h=>absurd h0 h) (fun h=>absurd h0 h) (Bo 1) ?_ oG V0q (by rw[BR,IN]) ?_ oG).mono ?_;exact V4 285870213051353865 58 oG;exact V0r 0 oG;rintro r st' ⟨rfl,rfl⟩;rw[BC h0,BC h0];exact⟨rfl,rfl⟩;have hz:=jv x oG hx;exact Bu x (2^tz x) _ _ (tz x) (deb.map .sc) st hx (fun _=>q0d x h0 hx) (fun _=>q0c x h0 hx) (Bo _) (q0b _) (q0a _) V0q (by rw[BR,IN]) (V0r _ hz) oG
theorem Q0d (a:Lu)(st:Qd)(ha:a.length<=1000000000000):PR 192 [.sl .no (Qf a)] st (.sc (.int .i64 (tz (Qc a):Nat))):=by
 refine Qj Tryz.func192 fun E=> ?_;refine Q3 [false,false,false,false,false,true,true,true] 0 0
  (fun m s'=> ∃i,m=a.length-i/\i<=a.length/\Qc (a.take i)=0/\s'=⟨[.junk,.junk,.junk,.junk,.junk,.sl .no (Qf a),.sc (.int .i64 a.length),.sc (.int .i64 (i:Nat))]++jk 12,[],[],st⟩) a.length ?_ ?_
 refine Qr ?_;exact⟨0,oG,oG,rfl,rfl⟩;rintro m s' ⟨i,rfl,hi,hv,rfl⟩;refine QM ?_ ?_<;>intro h;have hlt:i<a.length:=(oT h);have g1:=Zs a i hlt;have x4:=J2u i oG;have x5:IntKind.i64.wrap (64*(i:Int))=((64*i:Nat):Int):=(by rw[show(64*(i:Int))=((64*i:Nat):Int) from oG,Zd _ oG]);have e2:=V7 a i hlt;simp-dsimp only[go_sem,g1];refine⟨oG,?_⟩;refine ck ?_ ?_<;>intro h;have hne:(a.getD i 0).toNat≠0:=WK (b:=0) h;have hz:=jv (a.getD i 0).toNat oG (BT _);have x6:IntKind.i64.wrap (((64*i:Nat):Int)+((tz (a.getD i 0).toNat:Nat):Int))=((64*i+tz (a.getD i 0).toNat:Nat):Int):=(by rw[<-C7,Zd _ oG]);have ht:=H0y a i hlt hv hne;refine Qr ?_;refine(q0g (a.getD i 0).toNat st (BT _)).q ?_;rw[BA hne];simp-dsimp only[go_sem,x5,x6,ht];have h0:(a.getD i 0).toNat=0:=Vs (b:=0) h;simp-dsimp only[go_sem,x4];refine⟨a.length-(i+1),oG,i+1,rfl,oG,?_,rfl⟩;rw[e2,hv,h0,DQ];have hge:i=a.length:=(oF h);refine Qr ?_;refine Qq ?_;rw[hge,B0] at hv;rw[hv,jt];rfl
theorem V0g (a b c:Nat):a/b/c=a/c/b:=by rw[CV,CV,BM]
theorem K0t (a o:Lu)(k s i:Nat)(w:UInt64)(hs:s<64)(hi:i<o.length)(hv:Qc (o.take i)=Qc (a.drop k)/2^s % 18446744073709551616^i)
 (hw:w.toNat=(a.getD (i+k) 0).toNat/2^s+(a.getD (i+k+1) 0).toNat*2^(64-s) % 18446744073709551616):
 Qc ((o.set i w).take (i+1))=Qc (a.drop k)/2^s % 18446744073709551616^(i+1):=by
 have e1:(o.set i w).take i=o.take i:=(by rw[List.take_set_of_le (BD i)]);rw[V7 _ _ (by rw[BL];exact hi),e1,Wp,BC ⟨rfl,hi⟩,hv,Q0k,hw];congr 1;congr 1;have h1:Qc (a.drop k)/2^s/18446744073709551616^i=Qc (a.drop (i+k))/2^s:=by by_cases hle:i+k<=a.length;have:=V0h (a.drop k) i (by rw[DM];omega);rw[V0g,this,LP,EZ k i];have hz:Qc (a.drop (i+k))=0:=jm _ _ oG;have hlt:=Xe (a.drop k);rw[DM] at hlt;have hlt2:Qc (a.drop k)<18446744073709551616^i:=q_e hlt (BS (by decide) oG);rw[hz,Nat.zero_div,V0g,CP hlt2,Nat.zero_div]
 rw[h1,G3 a (i+k),G3 a (i+k+1),K0u _ _ _ _ (BT _) hs]
theorem j1a (a:Lu)(o:Lu)(n k s m:Nat)(hn:n=64*k+s)(hk:k<a.length)(hm:m=a.length-k)(ho:o.length=m)(hv:Qc (o.take m)=Qc (a.drop k)/2^s % 18446744073709551616^m):QE o=Qz (Qc a/2^n):=by rw[BF oG] at hv;have hlt:=Xe (a.drop k);rw[DM,<-hm] at hlt;have h2:Qc (a.drop k)/2^s<18446744073709551616^m:=D1 (DB _ _) hlt;rw[BJ h2] at hv;rw[<-ZE,hv,hn,B2,<-CV,<-KV,V0h a k oG]
theorem kY (a:Lu)(n:Nat)(st:Qd)(ha:a.length<=1000000000000)(hn:n<=100000000000000):PR 193 [.sl .no (Qf a),.sc (.int .i64 n)] st (.sl .no (Qf (Qz (Qc a/2^n)))):=by
 refine Qj Tryz.func193 fun E=> ?_;refine(ZO a st oG).q ?_;have la:=J8 a;rw[<-Jw a];generalize QE a=a at*
 have eq:IntKind.i64.wrap ((n:Int).tdiv 64)=((n/64:Nat):Int):=(by rw[show(64:Int)=((64:Nat):Int) from rfl,Ye,Zd _ oG]);have er:(n:Int).tmod 64=((n % 64:Nat):Int):=(by rw[show(64:Int)=((64:Nat):Int) from rfl,G8]);have hnk:n=64*(n/64)+n % 64:=oG;have hs':n % 64<64:=oG;have hkb:n/64<=100000000000000:=oG;generalize n/64=k at*
 generalize n % 64=s at*
 simp-dsimp only[go_sem,eq,er];refine ck ?_ ?_<;>intro h;have hle:a.length<=k:=(oT h);refine Qr ?_;have hz:Qc a/2^n=0:=by refine CP (q_e (Xe a) ?_);rw[KV];exact BS (by decide) oG
 rw[hz,Vc];rfl;have hk:k<a.length:=(oF h);have e1:IntKind.i64.wrap ((a.length:Int)-(k:Int))=((a.length-k:Nat):Int):=(by rw[<-Int.ofNat_sub oG,Zd _ oG]);obtain⟨m0,hm0⟩: ∃m0,m0=a.length-k:=⟨_,rfl⟩;rw[<-hm0] at e1;simp-dsimp only[go_sem,e1];refine⟨⟨oG,oG,oG⟩,?_⟩;refine Q3 ([true,false,false,false,false,true,true,true]++rF 17++ [true,true]) 1 0
  (fun m s'=> ∃i o,m=m0-i/\i<=m0/\o.length=m0/\Qc (o.take i)=Qc (a.drop k)/2^s % 18446744073709551616^i/\
   s'=⟨[.sl .no (Qf a),.junk,.junk,.junk,.junk,.sc (.int .i64 k),.sc (.int .i64 s),.ms false 0 0 m0]++jk 17++ [.sc (.int .i64 m0),.sc (.int .i64 (i:Nat))]++jk 39,[Qf o],[],st⟩) m0 ?_ ?_
 refine Qr ?_;refine⟨0,List.replicate m0 0,oG,oG,by simp,by simp[JU,FY],rfl⟩;rintro m s' ⟨i,o,rfl,hi,ho,hv,rfl⟩;refine QM ?_ ?_<;>intro h;have hlt:i<m0:=(oT h);have g1:=Zs a (i+k) oG;have x1:IntKind.i64.wrap ((i:Int)+(k:Int))=((i+k:Nat):Int):=(by rw[<-C7,Zd _ oG]);have x2:IntKind.i64.wrap (((i+k:Nat):Int)+1)=((i+k+1:Nat):Int):=(by rw[show(((i+k:Nat):Int)+1)=((i+k+1:Nat):Int) from rfl,Zd _ oG]);have x4:=J2u i oG;have x5:decide (0<=(s:Int))=true:=q_h oG;have w0:(a.getD (i+k) 0).toNat/2^s<18446744073709551616:=D1 (DB _ _) (BT _);have s1:Zq .u64 ((a.getD (i+k) 0).toNat:Int) (s:Int)=(((UInt64.ofNat ((a.getD (i+k) 0).toNat/2^s)).toNat:Nat):Int):=(by rw[V4 _ _ oG,Xn _ w0]);have o1:=VS o i (UInt64.ofNat ((a.getD (i+k) 0).toNat/2^s)) oG;simp-dsimp only[go_sem,x1,x2,x5,g1,s1,o1];refine⟨⟨oG,oG⟩,⟨oG,oG⟩,⟨oG,oG⟩,?_⟩;refine ck ?_ ?_<;>intro h;have hlt2:i+k+1<a.length:=(oT h);have g3:=Zs a (i+k+1) hlt2;have x3:IntKind.i64.wrap (64-(s:Int))=((64-s:Nat):Int):=(by rw[show 64-(s:Int)=((64-s:Nat):Int) from oG,Zd _ oG]);have x6:decide (0<=((64-s:Nat):Int))=true:=q_h oG;have hw:=K0u (a.getD (i+k) 0).toNat (a.getD (i+k+1) 0).toNat 0 s (BT _) hs';have hwl:(a.getD (i+k) 0).toNat/2^s+(a.getD (i+k+1) 0).toNat*2^(64-s) % 18446744073709551616<18446744073709551616:=(by rw[<-hw];exact CG _ (by decide));have s2:XH .u64 ((a.getD (i+k+1) 0).toNat:Int) ((64-s:Nat):Int)=(((a.getD (i+k+1) 0).toNat*2^(64-s) % 18446744073709551616:Nat):Int):=WW _ _ oG;have s3:bOr .u64 ((((UInt64.ofNat ((a.getD (i+k) 0).toNat/2^s)).toNat:Nat):Int)) (((a.getD (i+k+1) 0).toNat*2^(64-s) % 18446744073709551616:Nat):Int)=(((UInt64.ofNat ((a.getD (i+k) 0).toNat/2^s+(a.getD (i+k+1) 0).toNat*2^(64-s) % 18446744073709551616)).toNat:Nat):Int):=(by rw[Xn _ w0,HA _ _ w0 (CG _ (by decide)),x1z _ _ _ (BT _) hs',Xn _ hwl]);have g4:=Zs (o.set i (UInt64.ofNat ((a.getD (i+k) 0).toNat/2^s))) i (by rw[BL];omega);rw[Wp,BC ⟨rfl,oG⟩] at g4;have o2:=VS (o.set i (UInt64.ofNat ((a.getD (i+k) 0).toNat/2^s))) i (UInt64.ofNat ((a.getD (i+k) 0).toNat/2^s+(a.getD (i+k+1) 0).toNat*2^(64-s) % 18446744073709551616)) (by rw[BL];omega);rw[EF] at o2;have hst:=K0t a o k s i (UInt64.ofNat ((a.getD (i+k) 0).toNat/2^s+(a.getD (i+k+1) 0).toNat*2^(64-s) % 18446744073709551616)) hs' oG hv (Xn _ hwl);refine Qr ?_;refine Q5 66 (Qi [0,1,2,3,4,5,6,7,8,9,10,11,12,13,14,15,16] .done) ?_;simp-dsimp only[go_sem,x1,x2,x3,x4,x6,g3,g4,s2,s3,o2];refine⟨⟨oG,oG⟩,by simp;omega,⟨oG,oG⟩,⟨oG,oG⟩,⟨by simp;omega,by simp;omega⟩,m0-(i+1),oG,i+1,_,rfl,oG,by rw[BL];exact ho,hst,rfl⟩;have hge2:a.length<=i+k+1:=(oF h);have g0:a.getD (i+k+1) 0=0:=UY _ _ _ hge2;have hst:=K0t a o k s i (UInt64.ofNat ((a.getD (i+k) 0).toNat/2^s)) hs' oG hv (by rw[g0,Xn _ w0];simp);simp-dsimp only[go_sem,x4];exact⟨m0-(i+1),oG,i+1,_,rfl,oG,by rw[BL];exact ho,hst,rfl⟩;have hge:i=m0:=(oF h);rw[hge] at hv;have ht:o.take m0=o:=BF oG;have hle:m0<=o.length:=oG;have hde:=j1a a o n k s m0 hnk hk hm0 ho hv;refine Qr ?_;refine Zz 0 ?_ ?_;exact QA;refine Qb ?_;simp-dsimp only[go_sem,ht,hle];refine(ZO o st oG).q ?_;simp-dsimp only[go_sem,hde]
theorem V1e (x y x0 x1 y0 y1 w0 t w1 w2 w3:Nat)(hx:x=x0+4294967296*x1)(hy:y=y0+4294967296*y1)(a0:x0<4294967296)(a1:x1<4294967296)(b0:y0<4294967296)(b1:y1<4294967296)
 (h0:w0=x0*y0) (h1:t=x1*y0+w0/4294967296) (h2:w1=t % 4294967296) (h3:w2=t/4294967296) (h4:w3=w1+x0*y1):
 w0<18446744073709551616/\x1*y0<18446744073709551616/\t<18446744073709551616/\x0*y1<18446744073709551616/\w3<18446744073709551616/\x1*y1+w2<18446744073709551616/\x1*y1+w2+w3/4294967296<18446744073709551616/\x1*y1+w2+w3/4294967296=x*y/18446744073709551616:=by
 have p00:x0*y0<=4294967295*4294967295:=DW oG oG;have p10:x1*y0<=4294967295*4294967295:=DW oG oG;have p01:x0*y1<=4294967295*4294967295:=DW oG oG;have p11:x1*y1<=4294967295*4294967295:=DW oG oG;have e:x*y=x0*y0+4294967296*(x1*y0)+4294967296*(x0*y1)+18446744073709551616*(x1*y1):=by rw[hx,hy];grind
 generalize x0*y0=a at*
 generalize x1*y0=b at*
 generalize x0*y1=c at*
 generalize x1*y1=d at*
 rw[e];refine⟨oG,oG,oG,oG,oG,oG,oG,oG⟩
theorem V1d (x y x0 x1 y0 y1 w0 t w1 w2 w3:Nat)(p00 p10 p01 p11 hi lo:Nat)(st:Qd)
 (n1:Xm .u64 (x:Int) 4294967295=(x0:Int)) (n2:Zq .u64 (x:Int) 32=(x1:Int)) (n3:Xm .u64 (y:Int) 4294967295=(y0:Int)) (n4:Zq .u64 (y:Int) 32=(y1:Int))
 (n5:IntKind.u64.wrap ((x0:Int)*y0)=(w0:Int)) (n6:IntKind.u64.wrap ((x1:Int)*y0)=(p10:Int)) (n7: ∃q:Nat,Zq .u64 (w0:Int) 32=(q:Int)/\IntKind.u64.wrap ((p10:Int)+q)=(t:Int))
 (n8:Xm .u64 (t:Int) 4294967295=(w1:Int)) (n9:Zq .u64 (t:Int) 32=(w2:Int)) (n10:IntKind.u64.wrap ((x0:Int)*y1)=(p01:Int)) (n11:IntKind.u64.wrap ((w1:Int)+p01)=(w3:Int))
 (n12:IntKind.u64.wrap ((x1:Int)*y1)=(p11:Int)) (n13: ∃q r:Nat,IntKind.u64.wrap ((p11:Int)+w2)=(q:Int)/\Zq .u64 (w3:Int) 32=(r:Int)/\IntKind.u64.wrap ((q:Int)+r)=(hi:Int)) (n14:IntKind.u64.wrap ((x:Int)*y)=(lo:Int)):
 PR 249 [.sc (.int .u64 x),.sc (.int .u64 y)] st (.tup [.sc (.int .u64 hi),.sc (.int .u64 lo)]):=by
 obtain⟨q1,m1,m2⟩:=n7;obtain⟨q2,q3,m3,m4,m5⟩:=n13;refine Ql none Tryz.func249 rfl fun E=>Qb ?_;simp-dsimp only[go_sem,n1,n2,n3,n4,n5,n6,m1,m2,n8,n9,n10,n11,n12,m3,m4,m5,n14]
theorem Gt (x:Nat)(hx:x<18446744073709551616):Xm .u64 (x:Int) 4294967295=((x % 4294967296:Nat):Int):=by have h:=xJ x 4294967295 hx oG;rw[show(4294967295:Nat)=2^32-1 from rfl,FE] at h;exact h
theorem Yg (x:Nat):Zq .u64 (x:Int) 32=((x/4294967296:Nat):Int):=V4 x 32 oG
theorem qm (a b:Nat)(h:a*b<18446744073709551616):IntKind.u64.wrap ((a:Int)*b)=((a*b:Nat):Int):=by rw[<-CN,ZW,BJ h]
theorem Gy (a b:Nat)(h:a+b<18446744073709551616):IntKind.u64.wrap ((a:Int)+b)=((a+b:Nat):Int):=by rw[<-C7,ZW,BJ h]
theorem zO (x y:Nat)(st:Qd)(hx:x<18446744073709551616)(hy:y<18446744073709551616):PCalls Tryz.prog 249 [.sc (.int .u64 x),.sc (.int .u64 y)] st
 (fun r st'=> ∃(hi lo:UInt64),lo.toNat+18446744073709551616*hi.toNat=x*y/\r= .tup [.sc (.int .u64 hi.toNat),.sc (.int .u64 lo.toNat)]/\st'=st):=by
 obtain⟨h0,h1,h2,h3,h4,h5,h6,h7⟩:=V1e x y (x % 4294967296) (x/4294967296) (y % 4294967296) (y/4294967296) _ _ _ _ _ oG oG oG oG oG oG rfl rfl rfl rfl rfl;refine(V1d x y (x % 4294967296) (x/4294967296) (y % 4294967296) (y/4294967296) _ _ _ _ _ 0 _ _ _ (x*y/18446744073709551616) (x*y % 18446744073709551616) st (Gt x hx) (Yg x) (Gt y hy) (Yg y) (qm _ _ h0) (qm _ _ h1)
  ⟨_,Yg _,Gy _ _ h2⟩ (Gt _ h2) (Yg _) (qm _ _ h3) (Gy _ _ h4) (qm _ _ oG) ⟨_,_,Gy _ _ h5,Yg _,?_⟩ (by rw[<-CN,ZW])).mono ?_
 rw[Gy _ _ h6,h7];rintro r st' ⟨rfl,rfl⟩;have hb:x*y/18446744073709551616<18446744073709551616:=(by rw[<-h7];exact h6);refine⟨UInt64.ofNat (x*y/18446744073709551616),UInt64.ofNat (x*y % 18446744073709551616),?_,?_,rfl⟩;rw[Xn _ hb,Xn _ (CG _ (by decide))];exact FN _ _;rw[Xn _ hb,Xn _ (CG _ (by decide))]
theorem V1a (b:Lu)(i j x V S:Nat)(hj:j<b.length)(hS:S=V+18446744073709551616^i*(x*Qc (b.take j))):
 S+18446744073709551616^(i+j)*(x*(b.getD j 0).toNat)=V+18446744073709551616^i*(x*Qc (b.take (j+1))):=by
 rw[hS,V7 b j hj,B2];grind
theorem V1b (a b o:Lu)(i:Nat)(c:UInt64)(hi:i<a.length)(hn:i+b.length<o.length)(h0:o.getD (i+b.length) 0=0)
 (hv:Qc o+18446744073709551616^(i+b.length)*c.toNat=Qc (a.take i)*Qc b+18446744073709551616^i*((a.getD i 0).toNat*Qc b)):
 Qc (o.set (i+b.length) c)=Qc (a.take (i+1))*Qc b:=by
 have h1:=YA o (i+b.length) c hn;rw[h0,show(0:UInt64).toNat=0 from rfl,DQ,B1] at h1;rw[h1,hv,V7 a i hi,BQ,BW]
theorem z0d (x y w c z1 z2 c1 c2 lo hi:Nat)(hx:x<18446744073709551616)(hy:y<18446744073709551616)(hw:w<18446744073709551616)(hc:c<18446744073709551616)
 (h1:lo+18446744073709551616*hi=x*y) (h2:z1+18446744073709551616*c1=lo+w) (h3:z2+18446744073709551616*c2=z1+c):
 hi+c1+c2<18446744073709551616/\z2+18446744073709551616*(hi+c1+c2)=w+x*y+c:=by
 have p:x*y<=18446744073709551615*18446744073709551615:=DW oG oG;generalize x*y=q at*
 omega
set_option maxHeartbeats 4000000 in
theorem K1r (a b:Lu)(st:Qd)(ha:a.length<=1000000000000)(hb:b.length<=1000000000000):PR 190 [.sl .no (Qf a),.sl .no (Qf b)] st (.sl .no (Qf (Qz (Qc a*Qc b)))):=by
 refine Qj Tryz.func190 fun E=> ?_;refine(ZO a st oG).Q ?_;refine(ZO b st oG).Q ?_;have la:=J8 a;have lb:=J8 b;rw[<-Jw a,<-Jw b];generalize QE a=a at*
 generalize QE b=b at*
 have zero:a= []\/b= []->Qz (Qc a*Qc b)= []:=by rintro(rfl | rfl);rw[JU,DC,Vc];rw[JU,DQ,Vc]
 by_cases h0:a.length=0
 . rw[zero (.inl (BZ.1 h0))];have f1:((a.length:Int)==0)=true:=(by rw[h0];rfl);simp-dsimp only[go_sem,f1]
   try rfl
 have f1:((a.length:Int)==0)=false:=CL.2 oG;by_cases h1:b.length=0
 . rw[zero (.inr (BZ.1 h1))];have f2:((b.length:Int)==0)=true:=(by rw[h1];rfl);simp-dsimp only[go_sem,f1,f2]
   try rfl
 have f2:((b.length:Int)==0)=false:=CL.2 oG;obtain⟨m0,hm0⟩: ∃m0,m0=a.length+b.length:=⟨_,rfl⟩;have e1:IntKind.i64.wrap ((a.length:Int)+(b.length:Int))=((m0:Nat):Int):=(by rw[<-C7,Zd _ oG,hm0]);simp-dsimp only[go_sem,f1,f2,e1];refine⟨⟨oG,oG,oG⟩,?_⟩;refine Q3 ([false,true,false,false,false,true]++rF 26++ [true,true,true]) 1 0
  (fun m s'=> ∃i o,m=a.length-i/\i<=a.length/\o.length=m0/\Qc o=Qc (a.take i)*Qc b/\(∀q,i+b.length<=q->o.getD q 0=0)/\
   s'=⟨[.junk,.sl .no (Qf b),.junk,.junk,.junk,.ms false 0 0 m0]++jk 26++ [.sl .no (Qf a),.sc (.int .i64 a.length),.sc (.int .i64 (i:Nat))]++jk 57,[Qf o],[],st⟩) a.length ?_ ?_
 refine Qr ?_;refine⟨0,List.replicate m0 0,oG,oG,by simp,by simp[ji,JU],fun q _=>vH _ _ _,rfl⟩;rintro m s' ⟨i,o,rfl,hi,ho,hv,hz,rfl⟩;refine QM ?_ ?_<;>intro h;have hlt:i<a.length:=(oT h);have g1:=Zs a i hlt;have x4:=J2u i oG;simp-dsimp only[go_sem,g1];refine⟨oG,?_⟩;refine Q3 ([false,true,false,false,false,true,true,true,true]++rF 23++ [true,true,true,false,false,false,false,true,true,true]) 1 0
  (fun m s'=> ∃(j:Nat) (o:Lu) (c:UInt64),m=b.length-j/\j<=b.length/\o.length=m0/\Qc o+18446744073709551616^(i+j)*c.toNat=Qc (a.take i)*Qc b+18446744073709551616^i*((a.getD i 0).toNat*Qc (b.take j))/\(∀q,i+b.length<=q->o.getD q 0=0)/\
   s'=⟨[.junk,.sl .no (Qf b),.junk,.junk,.junk,.ms false 0 0 m0,.sc (.int .i64 (i:Nat)),.sc (.int .u64 (a.getD i 0).toNat),.sc (.int .u64 c.toNat)]++jk 23++ [.sl .no (Qf a),.sc (.int .i64 a.length),.sc (.int .i64 (i:Nat)),.junk,.junk,.junk,.junk,.sl .no (Qf b),.sc (.int .i64 b.length),.sc (.int .i64 (j:Nat))]++jk 50,[Qf o],[],st⟩) b.length ?_ ?_
 refine Qr ?_;refine⟨0,o,0,oG,oG,ho,?_,hz,rfl⟩;rw[hv];simp[JU];clear hv hz ho h;clear o;rintro m s' ⟨j,o,c,rfl,hj,ho,hv,hz,rfl⟩;refine QM ?_ ?_<;>intro h;have hjt:j<b.length:=(oT h);have g2:=Zs b j hjt;have g3:=Zs o (i+j) oG;have x1:IntKind.i64.wrap ((i:Int)+(j:Int))=((i+j:Nat):Int):=(by rw[<-C7,Zd _ oG]);have x2:=J2u j oG;simp-dsimp only[go_sem,g2];refine⟨oG,?_⟩;refine(zO (a.getD i 0).toNat (b.getD j 0).toNat st (BT _) (BT _)).mono ?_;rintro r st ⟨hw,lw,hlw,rfl,rfl⟩;simp-dsimp only[go_sem,x1,g3];refine⟨⟨oG,oG⟩,oG,?_⟩;refine(W0 lw.toNat (o.getD (i+j) 0).toNat 0 st (BT _) (BT _) (by decide)).mono ?_;rintro r st ⟨z1,c1,hc1,hz1,rfl,rfl⟩;refine Qr ?_;refine(W0 z1.toNat c.toNat 0 st (BT _) (BT _) (by decide)).mono ?_;rintro r st ⟨z2,c2,hc2,hz2,rfl,rfl⟩;have q1:(a.getD i 0).toNat<18446744073709551616:=BT (a.getD i 0);have q2:(b.getD j 0).toNat<18446744073709551616:=BT (b.getD j 0);have q3:(o.getD (i+j) 0).toNat<18446744073709551616:=BT (o.getD (i+j) 0);have q4:c.toNat<18446744073709551616:=BT c;have q5:z1.toNat+18446744073709551616*c1=lw.toNat+(o.getD (i+j) 0).toNat:=(by rw[B1] at hz1;exact hz1);have q6:z2.toNat+18446744073709551616*c2=z1.toNat+c.toNat:=(by rw[B1] at hz2;exact hz2);have t12:=z0d (a.getD i 0).toNat (b.getD j 0).toNat (o.getD (i+j) 0).toNat c.toNat z1.toNat z2.toNat c1 c2 lw.toNat hw.toNat q1 q2 q3 q4 hlw q5 q6;have t1:=t12.1;have t2:=t12.2;have w1:=Gy hw.toNat c1 oG;have w2:=Gy (hw.toNat+c1) c2 t1;have w3:((hw.toNat+c1+c2:Nat):Int)=(((UInt64.ofNat (hw.toNat+c1+c2)).toNat:Nat):Int):=(by rw[Xn _ t1]);rw[w3] at w2;have o1:=VS o (i+j) z2 oG;have hs:=yp o (i+j) z2 c.toNat (hw.toNat+c1+c2) ((a.getD i 0).toNat*(b.getD j 0).toNat) _ oG t2 hv;have hm:=V1a b i j (a.getD i 0).toNat (Qc (a.take i)*Qc b) _ hjt rfl;simp-dsimp only[go_sem,x1,x2,w1,w2,o1];refine⟨⟨oG,oG⟩,⟨oG,oG⟩,b.length-(j+1),oG,j+1,o.set (i+j) z2,UInt64.ofNat (hw.toNat+c1+c2),rfl,oG,by rw[BL];exact ho,?_,fun q hq=> ?_,rfl⟩;rw[Xn _ t1,<-hm,<-hs,<-DK i j 1];rw[Wp,BA oG];exact hz q hq;have hge:j=b.length:=(oF h);have x3:IntKind.i64.wrap ((i:Int)+(b.length:Int))=((i+b.length:Nat):Int):=(by rw[<-C7,Zd _ oG]);have o1:=VS o (i+b.length) c oG;rw[hge,B0] at hv;have hr:=V1b a b o i c hlt oG (hz _ (BD _)) hv;refine Qr ?_;refine Qb ?_;simp-dsimp only[go_sem,x3,o1];refine⟨⟨oG,oG⟩,⟨oG,oG⟩,?_⟩;refine Qb ?_;simp-dsimp only[go_sem,x4];refine⟨a.length-(i+1),oG,i+1,_,rfl,oG,by rw[BL];exact ho,hr,fun q hq=> ?_,rfl⟩;rw[Wp,BA oG];exact hz q oG;have hge:i=a.length:=(oF h);have ht:o.take m0=o:=BF oG;have hle:m0<=o.length:=oG;rw[hge,B0] at hv;refine Qr ?_;refine Zz 0 ?_ ?_;exact QA;refine Qb ?_;simp-dsimp only[go_sem,ht,hle];refine(ZO o st oG).Q ?_;rw[<-ZE o,hv]
theorem z1l (x:Nm)(st:Qd)(h1: -1000000000000<=x.exp)(h2:x.exp<=1000000000000):PR 295 [.agg (Qg x)] st (.agg (Qg { x with exp:=x.exp-1 })):=by refine Ql none Tryz.func295 rfl fun E=>Qb ?_;have x1:IntKind.i64.wrap (x.exp-1)=x.exp-1:=Q4 _ oG oG;simp-dsimp only[go_sem,x1]
theorem Hs (a b:Nm)(n k m l:Nat)(st:Qd)(ha:bd n k a)(hb:bd m l b)(h1:n<=100000000000)(h2:m<=100000000000)(h3:k<=100000000000)(h4:l<=100000000000):
 PCalls Tryz.prog 129 [.agg (Qg a),.agg (Qg b)] st (fun r st'=> ∃y,bd (n+m) (k+l) y/\qN y=qN a*qN b/\r= .agg (Qg y)/\st'=st):=by
 obtain⟨a1,a2,a3⟩:=ha;obtain⟨b1,b2,b3⟩:=hb;refine Ql none Tryz.func129 rfl fun E=>Qb ?_;have x1:IntKind.i64.wrap (a.exp+b.exp)=a.exp+b.exp:=Q4 _ oG oG;refine Qr ?_;refine Q5 21 (Qi [0,1,2,3,4,5,6,7,8,9,10,11,12,13] (.step 14 [1,3,6,8] (.step 15 [] (.step 16 [] (.done))))) ?_;simp-dsimp only[go_sem,x1];refine(K1r a.w b.w _ oG oG).q ?_;simp-dsimp only[go_sem,x1];exact⟨_,Y1e a b n k m l ⟨a1,a2,a3⟩ ⟨b1,b2,b3⟩,y0o a b,rfl⟩
theorem vX (a b:Nm)(n k:Nat)(st:Qd)(ha:bd n k a)(hb:bd n k b)(h1:n<=10000000000)(h3:k<=10000000000):
 PCalls Tryz.prog 104 [.agg (Qg a),.agg (Qg b)] st (fun r st'=> ∃y,bd (n+k+1) k y/\qN y=qN a+qN b/\r= .agg (Qg y)/\st'=st):=by
 refine Qj Tryz.func104 fun E=> ?_;refine(Vz a _ (by have:=ha.1;omega)).Q ?_;refine ck ?_ ?_<;>intro h;have h0:=Dq (Gw h);refine Qr ?_;exact⟨b,hb.mono oG oG,by rw[h0];grind,rfl⟩
 . refine Qr ?_;refine(Vz b _ (by have:=hb.1;omega)).Q ?_;refine ck ?_ ?_<;>intro h;have h0:=Dq (Gw h);refine Qr ?_;exact⟨a,ha.mono oG oG,by rw[h0];grind,rfl⟩
   . rename_i hsa;obtain⟨Q,hQ⟩: ∃Q,Q=qN a+qN b:=⟨_,rfl⟩;rw[<-hQ];refine Qr ?_;clear h hsa;refine ck ?_ ?_<;>intro h
     case' refine_1=>
      have hle:b.exp<=a.exp:=oT h
      have hQ':Q=qN b+qN a:=by rw[hQ];grind
      have hB:=ha;have hA:=hb;clear h hQ ha hb;have hQ:=hQ';clear hQ';generalize a=B at*
      generalize b=A at*
     case' refine_2=>
      have hle:a.exp<=b.exp:=oF h
      have hA:=ha;have hB:=hb;clear h ha hb;generalize b=B at*
      generalize a=A at*
     all_goals
      obtain⟨d,hd⟩: ∃d:Nat,B.exp=A.exp+d:=⟨(B.exp-A.exp).toNat,oG⟩;have hd2:d<=2*k:=(by have:=hA.2.1;have:=hB.2.2;omega);have x1:IntKind.i64.wrap (B.exp-A.exp)=((d:Nat):Int):=(by rw[show B.exp-A.exp=(d:Int) from oG,Zd _ oG]);have lA:=hA.1;have lB:=hB.1;have hab: ∀m,m<=Qc A.w+Qc B.w*2^d-> ∀neg,bd (n+k+1) k ⟨neg,A.exp,Qz m⟩:=fun m hm neg=>⟨J0z A B n k d m hA hB hd2 hm,hA.2.1,hA.2.2⟩;have hlW:(Qz (Qc B.w*2^d)).length<=n+k+1:=J0z A B n k d _ hA hB hd2 oG;simp-dsimp only[go_sem,x1];refine(Yd B.w d _ oG oG).q ?_;refine QM ?_ ?_<;>intro h;have hn:A.neg=B.neg:=(by simpa using h);refine Qr ?_;refine Q5 77 (Qi [0,1,2,3,4,5,6] (.step 7 [1,3] (.step 8 [] (.step 9 [] (.done))))) ?_;refine Qr ?_;refine(zM A.w _ _ oG oG).q ?_;rw[Xu];refine Qr ?_;exact⟨_,hab _ oG A.neg,by rw[z1e A B d hd hn,hQ],rfl⟩;have hn:A.neg≠B.neg:=(by simpa using h);refine Qr ?_;refine(Q0e A.w _ _ oG oG).q ?_;rw[Xu];by_cases hc:Qc B.w*2^d<=Qc A.w;rw[BA oG,q_h hc];refine Qr ?_;exact⟨_,hab _ oG A.neg,by rw[z1h A B d hd hn hc,hQ],rfl⟩;rw[BC oG,q_g hc];refine Qr ?_;refine(Q0e _ A.w _ oG oG).q ?_;rw[Xu,BA oG,q_h (show Qc A.w<=Qc B.w*2^d by omega)];refine Qr ?_;exact⟨_,hab _ oG B.neg,by rw[z1g A B d hd hn oG,hQ],rfl⟩
theorem z1i (a b:Nm)(n k:Nat)(st:Qd)(ha:bd n k a)(hb:bd n k b)(h1:n<=10000000000)(h3:k<=10000000000):
 PCalls Tryz.prog 109 [.agg (Qg a),.agg (Qg b)] st (fun r st'=> ∃y,bd (n+k+1) k y/\qN y=qN a-qN b/\r= .agg (Qg y)/\st'=st):=by
 refine Qj Tryz.func109 fun E=> ?_;refine Q5 9 (.step 0 [] (.step 1 [] (.step 2 [0] (.step 3 [] (.step 4 [] (.done)))))) ?_;refine Qr ?_;refine(z1k b _).Q ?_;refine(vX a { b with neg:= !b.neg } n k _ ha hb h1 h3).mono ?_;rintro r st ⟨y,y1,y2,rfl,rfl⟩;refine Qr ?_;exact⟨y,y1,by rw[y2,y0m];grind,rfl⟩
theorem zF (neg:Bool)(w:Lu)(e:Int)(st:Qd)(hw:w.length<=1000000000)(he1: -1000000000000<=e)(he2:e<=1000000000000):PR 132 [.sc (.bool neg),.sl .no (Qf w),.sc (.int .i64 e)] st (.tup [.agg (Qg (mkX neg w e).1),.sc (.int .i64 (mkX neg w e).2)]):=by
 refine Ql none Tryz.func132 rfl fun E=>Qb ?_;have hb:=Vb w;refine Qr ?_;refine(WM w _ oG).Q ?_;refine ck ?_ ?_<;>intro h;have h0:Qc w=0:=by have h1:QF w=0:=Vt (b:=0) h;refine BE fun hne=> ?_;have:=Gs hne;unfold QF at h1;omega
 refine Qr ?_;rw[V1l h0];rfl;have h0:Qc w≠0:=fun e=>Yu (b:=0) h (by unfold QF;rw[e,Uf]);have ht:=ju (Qc w) h0;have ht2:tz (Qc w)<=64000000000:=(by unfold QF at hb;omega);have x1:IntKind.i64.wrap (-65536-((tz (Qc w):Nat):Int))= -65536-((tz (Qc w):Nat):Int):=Q4 _ oG oG;have x2:IntKind.i64.wrap (e+((tz (Qc w):Nat):Int))=e+((tz (Qc w):Nat):Int):=Q4 _ oG oG;refine Qr ?_;refine(Q0d w _ oG).q ?_;by_cases c1:65536<e;have f1:decide (e>65536)=true:=q_h c1;simp-dsimp only[go_sem,f1];rw[Q0m h0 (.inl c1)];rfl;have f1:decide (e>65536)=false:=q_g c1;by_cases c2:e< -65536-((tz (Qc w):Nat):Int);have f2:decide (e< -65536-((tz (Qc w):Nat):Int))=true:=q_h c2;simp-dsimp only[go_sem,f1,x1,f2];rw[Q0m h0 (.inr c2)];rfl;have f2:decide (e< -65536-((tz (Qc w):Nat):Int))=false:=q_g c2;simp-dsimp only[go_sem,f1,x1,f2,x2];refine(kY w (tz (Qc w)) _ oG oG).q ?_;simp-dsimp only[go_sem,x2];have hlen:(Qz (Qc w/2^tz (Qc w))).length<=w.length:=by have h1:=Uq (DB (Qc w) (2^tz (Qc w)));rw[ZE] at h1;have:=J8 w;omega
 refine(XE ⟨neg,e+((tz (Qc w):Nat):Int),Qz (Qc w/2^tz (Qc w))⟩ _ (by simp only;omega)).q ?_;rw[V1m h0];refine QM ?_ ?_<;>intro h;have hr:Qh ⟨neg,e+((tz (Qc w):Nat):Int),Qz (Qc w/2^tz (Qc w))⟩=false:=(by simpa using h);refine Qr ?_;rw[BA (by rw[hr];simp)];rfl;have hr:Qh ⟨neg,e+((tz (Qc w):Nat):Int),Qz (Qc w/2^tz (Qc w))⟩=true:=(by simpa using h);refine Qr ?_;rw[BC hr]
theorem Q0y (x:Nm)(st:Qd)(hw:x.w.length<=1000000000)(he1: -1000000000000<=x.exp)(he2:x.exp<=1000000000000):PR 68 [.agg (Qg x)] st (.tup [.agg (Qg (Zi (ofX x)).1),.sc (.int .i64 (Zi (ofX x)).2)]):=by
 refine Qj Tryz.func68 fun E=> ?_;refine(zF x.neg x.w x.exp _ hw he1 he2).q ?_;rw[vg];exact QA
theorem kQ (g:FuncId)(k:Nat)(a b:Nm)(st:Qd)(hc:Qm Tryz.prog g=true)(ha:wN a)(hb:wN b)
 (h:Qh a=true->Qh b=true-> ∀st,PCalls Tryz.prog g [.agg (Qg a),.agg (Qg b)] st (fun r st'=> ∃y,bd 1000000 1000000 y/\qN y=exQ k (qN a) (qN b)/\r= .agg (Qg y)/\st'=st)):
 PR 103 [.agg (Qg a),.agg (Qg b),.fn (.func g) [] []] st (.tup [.agg (Qg (Za k a b).1),.sc (.int .i64 (Za k a b).2)]):=by
 unfold wN at ha hb;refine Qj Tryz.func103 fun E=> ?_;refine(XE a _ oG).q ?_;cases r1:Qh a with
 | false=>
  refine Qr ?_;rw[Za,BA (by rw[r1];simp)];rfl
 | true=>
  refine Qr ?_;refine(XE b _ oG).q ?_;cases r2:Qh b with
  | false=>
   refine Qr ?_;rw[Za,BA (by rw[r2];simp)];rfl
  | true=>
   simp-dsimp only[go_sem,hc];refine(h r1 r2 _).mono ?_;rintro r st ⟨y,y1,y2,rfl,rfl⟩;refine Qr ?_;refine(Q0y y _ (by have:=y1.1;omega) (by have:=y1.2.1;omega) (by have:=y1.2.2;omega)).Q ?_;rw[Za,BC ⟨r1,r2⟩,Vp (Gk k (Js r1) (Js r2)) (by rw[Wg,Zb,Zb,y2])]
theorem xk (a b:Nm)(r1:Qh a=true)(r2:Qh b=true)(st:Qd):PCalls Tryz.prog 104 [.agg (Qg a),.agg (Qg b)] st (fun r st'=> ∃y,bd 1000000 1000000 y/\qN y=exQ 0 (qN a) (qN b)/\r= .agg (Qg y)/\st'=st):=
 (vX a b 64 65536 st (Xo r1) (Xo r2) oG oG).mono fun r st' ⟨y,h1,h2,h3⟩=>⟨y,h1.mono oG oG,h2,h3⟩
theorem IF (a b:Nm)(r1:Qh a=true)(r2:Qh b=true)(st:Qd):PCalls Tryz.prog 109 [.agg (Qg a),.agg (Qg b)] st (fun r st'=> ∃y,bd 1000000 1000000 y/\qN y=exQ 1 (qN a) (qN b)/\r= .agg (Qg y)/\st'=st):=
 (z1i a b 64 65536 st (Xo r1) (Xo r2) oG oG).mono fun r st' ⟨y,h1,h2,h3⟩=>⟨y,h1.mono oG oG,h2,h3⟩
theorem K0a (a b:Nm)(r1:Qh a=true)(r2:Qh b=true)(st:Qd):PCalls Tryz.prog 129 [.agg (Qg a),.agg (Qg b)] st (fun r st'=> ∃y,bd 1000000 1000000 y/\qN y=exQ 2 (qN a) (qN b)/\r= .agg (Qg y)/\st'=st):=
 (Hs a b 64 65536 64 65536 st (Xo r1) (Xo r2) oG oG oG oG).mono fun r st' ⟨y,h1,h2,h3⟩=>⟨y,h1.mono oG oG,h2,h3⟩
theorem kR (a b:Nm)(st:Qd)(ha:wN a)(hb:wN b):PR 37 [.agg (Qg a),.agg (Qg b)] st (.tup [.agg (Qg (Za 0 a b).1),.sc (.int .i64 (Za 0 a b).2)]):=by refine Qj Tryz.func37 fun E=> ?_;refine(kQ _ 0 a b _ rfl ha hb (xk a b)).Q0
theorem J1q (a b:Nm)(st:Qd)(ha:wN a)(hb:wN b):PR 43 [.agg (Qg a),.agg (Qg b)] st (.tup [.agg (Qg (Za 1 a b).1),.sc (.int .i64 (Za 1 a b).2)]):=by refine Qj Tryz.func43 fun E=> ?_;refine(kQ _ 1 a b _ rfl ha hb (IF a b)).Q0
theorem kP (a b:Nm)(st:Qd)(ha:wN a)(hb:wN b):PR 62 [.agg (Qg a),.agg (Qg b)] st (.tup [.agg (Qg (Za 2 a b).1),.sc (.int .i64 (Za 2 a b).2)]):=by refine Qj Tryz.func62 fun E=> ?_;refine(kQ _ 2 a b _ rfl ha hb (K0a a b)).Q0
theorem k0q {x:Nm}(h:Qh x=true)(hw:x.w≠ [])(k:Int):ofX { x with exp:=x.exp+k } =⟨x.neg,Qc x.w,x.exp+k⟩:=by have h1:=kK h;have h0:Qc x.w≠0:=fun e=>hw ((KO h).1 e);exact It _ _ _ (by rcases h1 with h1 | h1;exact h1;exact absurd h1 h0)
theorem zD (x:Nm)(k:Int)(st:Qd)(hx:wN x):PR 14 [.agg (Qg x),.sc (.int .i64 k)] st (.tup [.agg (Qg (Z5 x k).1),.sc (.int .i64 (Z5 x k).2)]):=by
 unfold wN at hx;refine Qj Tryz.func14 fun E=> ?_;refine(XE x _ oG).q ?_;cases r1:Qh x with
 | false=>
  refine Qr ?_;rw[Z5,BA (by rw[r1];simp)];rfl
 | true=>
  rw[Z5,BC r1];refine QM ?_ ?_<;>intro h;have h0:x.w= []:=BZ.1 (Vt (b:=0) h);have hx0:x=default:=by have h2:=r1;unfold Qh at h2;rw[BC h0] at h2;simp at h2;obtain⟨n,e,w⟩:=x;simp at h0 h2;obtain⟨rfl,rfl⟩:=h2;subst h0;rfl
  refine Qr ?_;rw[BC h0,hx0];rfl;have h0:x.w≠ []:=fun e=>(by rw[e] at h;cases h);have hb:=Xo r1;have b2:=hb.2.1;have b3:=hb.2.2;rw[BA h0];by_cases c1:131072<k;have f1:decide (k>131072)=true:=q_h c1;simp-dsimp only[go_sem,f1];rw[BC (.inr c1)];rfl;have f1:decide (k>131072)=false:=q_g c1;by_cases c2:k< -131072;have f2:decide (k< -131072)=true:=q_h c2;simp-dsimp only[go_sem,f1,f2];rw[BC (.inl c2)];rfl;have f2:decide (k< -131072)=false:=q_g c2;have x1:IntKind.i64.wrap (x.exp+k)=x.exp+k:=Q4 _ oG oG;simp-dsimp only[go_sem,f1,f2,x1];refine(Q0y { x with exp:=x.exp+k } _ (by have:=hb.1;simp only;omega) (by simp only;omega) (by simp only;omega)).Q ?_;rw[BA oG,k0q r1 h0]
@[go_sem] theorem K2j {d:Po}{f:Fn}{bs cs:Lp}{pa:Lp}{L st st':Qd}{T:Lv} :(PFS.mk pa L T st).recv d (.fn f bs cs) st'=(PFS.mk pa L T st').put d (.fn f bs cs):=(rfl)
theorem JY (p:Int)(st:Qd):PR 98 [.sc (.int .i64 p)] st (.sc (.bool (Qt p))):=by
 refine Ql none Tryz.func98 rfl fun E=>Qb ?_;unfold Qt;by_cases h:8<=p
 . have f1:decide (p>=8)=true:=q_h h;have f2:decide (8<=p)=true:=q_h h;simp-dsimp only[go_sem,f1,f2]
   try simp
 . have f1:decide (p>=8)=false:=q_g h;have f2:decide (8<=p)=false:=q_g h;simp-dsimp only[go_sem,f1,f2]
   try simp
def xi (up:Bool):PV:= .fn (.func 368) [] [.ep [.sc (.bool up)] 0]
theorem Q2t (up:Bool)(st:Qd):PR 338 [.sc (.bool up)] st (xi up):=by refine Ql none Tryz.func338 rfl fun E=>Qe (Qb ?_);refine Qr ?_;refine Zz 0 ?_ ?_;exact QA;refine Qq ?_;rfl
theorem Q2u (up neg:Bool)(st:Qd):PR 368 ([.sc (.bool neg)]++ [.ep [.sc (.bool up)] 0]) st (.sc (.bool (up !=neg))):=by refine Qj Tryz.func368 fun E=> ?_;cases up<;>cases neg<;>rfl
theorem H0m :Qc [1]=1:=by decide
theorem v0q (x:Nm)(p:Nat)(up:Bool)(st:Qd)(hx:x.w.length<=1000000000)(h1: -1000000000000<=x.exp)(h2:x.exp<=1000000000000)(hp:p<=1000000000):PR 337 [.agg (Qg x),.sc (.int .i64 p),xi up] st (.agg (Qg (Vi x p up))):=by
 refine Ql none Tryz.func337 rfl fun E=>Qb ?_;have hb:=Vb x.w;have x1:IntKind.i64.wrap ((QF x.w:Int)-(p:Int))=(QF x.w:Int)-(p:Int):=Q4 _ oG oG;refine Qr ?_;refine(WM x.w _ oG).q ?_;simp-dsimp only[go_sem,x1];refine ck ?_ ?_<;>intro h;have hle:QF x.w<=p:=(oT h);refine Qr ?_;rw[Vi,BC hle];have hgt:p<QF x.w:=(oF h);have x2:(QF x.w:Int)-(p:Int)=((QF x.w-p:Nat):Int):=oG;rw[Vi,BA oG];obtain⟨d,hd⟩: ∃d,d=QF x.w-p:=⟨_,rfl⟩;rw[x2,<-hd];have x3:IntKind.i64.wrap (x.exp+((d:Nat):Int))=x.exp+((d:Nat):Int):=Q4 _ oG oG;have hlen:(Qz (Qc x.w/2^d)).length<=x.w.length:=by have h1:=Uq (DB (Qc x.w) (2^d));rw[ZE] at h1;have:=J8 x.w;omega
 refine Qr ?_;refine(kY x.w d _ oG oG).q ?_;unfold xi;refine Qr ?_;refine(Q2u up x.neg _).q ?_;cases hu:(up !=x.neg) with
 | false=>
  rw[BA (fun h=>by have:=h.2;simp[this] at hu),B1];simp-dsimp only[go_sem,x3]
 | true=>
  have hne:up≠x.neg:=(by simpa using hu);refine Qr ?_;refine(Q0d x.w _ oG).Q ?_;refine ck ?_ ?_<;>intro h;have hz:tz (Qc x.w)<d:=(oT h);rw[BC ⟨hz,hne⟩];refine Qr ?_;have e1: [PV.sc (.int .u64 1)]=Qf [1]:=rfl;rw[e1];refine(zM _ [1] _ oG (by simp)).q ?_;rw[Xu,H0m];simp-dsimp only[go_sem,x3];have hz: ¬tz (Qc x.w)<d:=(oF h);rw[BA (fun h=>hz h.1),B1];simp-dsimp only[go_sem,x3]
theorem Mg (x:Nm)(p:Nat)(up:Bool)(st:Qd)(hx:x.w.length<=1000000000)(h1: -1000000000000<=x.exp)(h2:x.exp<=1000000000000)(hp:p<=1000000000):PR 294 [.agg (Qg x),.sc (.int .i64 p),.sc (.bool up)] st (.agg (Qg (Vi x p up))):=by
 refine Qj Tryz.func294 fun E=> ?_;refine Q5 12 (Qi [0,1,2] (.step 3 [0] (.step 4 [] (.step 5 [] (.done))))) ?_;refine Qr ?_;refine(Q2t up _).q ?_;unfold xi;refine Qr ?_;refine(v0q x p up _ hx h1 h2 hp).Q0
theorem GR (x:Nm)(p:Nat)(up:Bool)(st:Qd)(hx:bd 1000000 1000000 x)(hp0:0<p)(hp:p<=1000000000):PR 298 [.agg (Qg x),.sc (.int .i64 p),.sc (.bool up)] st (.tup [.agg (Qg (Zi (QX (ofX x) p up)).1),.sc (.int .i64 (Zi (QX (ofX x) p up)).2)]):=by
 have b1:=hx.1;have b2:=hx.2.1;have b3:=hx.2.2;refine Qj Tryz.func298 fun E=> ?_;refine(Mg x p up _ oG oG oG hp).q ?_;have hy:=Mc x p up _ _ hx;have y1:=hy.1;have y2:=hy.2.1;have y3:=hy.2.2;refine Qr ?_;refine(zF (Vi x p up).neg (Vi x p up).w (Vi x p up).exp _ oG oG oG).q ?_;rw[vg,Mb x p up hp0];exact QA
theorem Ys {p:Int}(h:Qt p=true): ∃q:Nat,p=q/\8<=q/\q<=256/\p.toNat=q:=by unfold Qt at h;simp only[q_i,BN] at h;exact⟨p.toNat,oG,oG,oG,rfl⟩
theorem jT (g:FuncId)(k:Nat)(a b:Nm)(p:Int)(up:Bool)(st:Qd)(hc:Qm Tryz.prog g=true)(ha:wN a)(hb:wN b)
 (h:Qh a=true->Qh b=true-> ∀st,PCalls Tryz.prog g [.agg (Qg a),.agg (Qg b)] st (fun r st'=> ∃y,bd 1000000 1000000 y/\qN y=exQ k (qN a) (qN b)/\r= .agg (Qg y)/\st'=st)):
 PR 358 [.agg (Qg a),.agg (Qg b),.sc (.int .i64 p),.sc (.bool up),.fn (.func g) [] []] st (.tup [.agg (Qg (Qs k a b p up).1),.sc (.int .i64 (Qs k a b p up).2)]):=by
 unfold wN at ha hb;refine Qj Tryz.func358 fun E=> ?_;refine(XE a _ oG).q ?_;cases r1:Qh a with
 | false=>
  refine Qr ?_;rw[Qs,BA (by rw[r1];simp)];rfl
 | true=>
  refine Qr ?_;refine(XE b _ oG).q ?_;cases r2:Qh b with
  | false=>
   refine Qr ?_;rw[Qs,BA (by rw[r2];simp)];rfl
  | true=>
   refine Qr ?_;refine(JY p _).q ?_;cases r3:Qt p with
   | false=>
    refine Qr ?_;rw[Qs,BA (by rw[r3];simp)];rfl
   | true=>
    obtain⟨q,rfl,q1,q2,q3⟩:=Ys r3;simp-dsimp only[go_sem,hc];refine(h r1 r2 _).mono ?_;rintro r st ⟨y,y1,y2,rfl,rfl⟩;refine Qr ?_;refine(GR y q up _ y1 oG oG).Q ?_;rw[Qs,BC ⟨r1,r2,r3⟩,Vp (Gk k (Js r1) (Js r2)) (by rw[Wg,Zb,Zb,y2]),q3]
theorem qY (a b:Nm)(p:Int)(up:Bool)(st:Qd)(ha:wN a)(hb:wN b):PR 324 [.agg (Qg a),.agg (Qg b),.sc (.int .i64 p),.sc (.bool up)] st (.tup [.agg (Qg (Qs 0 a b p up).1),.sc (.int .i64 (Qs 0 a b p up).2)]):=by refine Qj Tryz.func324 fun E=> ?_;refine(jT _ 0 a b p up _ rfl ha hb (xk a b)).Q0
theorem GS (a b:Nm)(p:Int)(up:Bool)(st:Qd)(ha:wN a)(hb:wN b):PR 323 [.agg (Qg a),.agg (Qg b),.sc (.int .i64 p),.sc (.bool up)] st (.tup [.agg (Qg (Qs 1 a b p up).1),.sc (.int .i64 (Qs 1 a b p up).2)]):=by refine Qj Tryz.func323 fun E=> ?_;refine(jT _ 1 a b p up _ rfl ha hb (IF a b)).Q0
theorem If (a b:Nm)(p:Int)(up:Bool)(st:Qd)(ha:wN a)(hb:wN b):PR 357 [.agg (Qg a),.agg (Qg b),.sc (.int .i64 p),.sc (.bool up)] st (.tup [.agg (Qg (Qs 2 a b p up).1),.sc (.int .i64 (Qs 2 a b p up).2)]):=by refine Qj Tryz.func357 fun E=> ?_;refine(jT _ 2 a b p up _ rfl ha hb (K0a a b)).Q0
theorem v9 (a:Ivl)(x:Nm)(st:Qd)(ha:wI a)(hx:wN x):PR 63 [.agg (Qn a),.agg (Qg x)] st (.sc (.bool (Kf a x))):=by
 refine Ql none Tryz.func63 rfl fun E=>Qb ?_;unfold Kf;refine Qr ?_;refine(JL a _ ha).q ?_;cases r1:Qp a with
 | false=>simp-dsimp only[go_sem];try rfl
 | true=>
  refine Qr ?_;refine(XE x _ (by unfold wN at hx;omega)).q ?_;cases r2:Qh x with
  | false=>simp-dsimp only[go_sem];try rfl
  | true=>
   have s1:=QT (Xg r1).1;have s2:=QT (Xg r1).2.1;have s3:=QT r2;refine Qr ?_;refine(Ua a.lo x _ s1 s3).q ?_;cases c1:decide (ZJ a.lo x<=0) with
   | false=>simp-dsimp only[go_sem,c1];try rfl
   | true=>
    simp-dsimp only[go_sem,c1];refine(Ua x a.hi _ s3 s2).q ?_;simp-dsimp only[go_sem,c1]
    try rfl
theorem zX (lo hi:Nm)(st:Qd)(h1:wN lo)(h2:wN hi):PR 254 [.agg (Qg lo),.agg (Qg hi)] st (.tup [.agg (Qn (Wk lo hi).1),.sc (.int .i64 (Wk lo hi).2)]):=by
 refine Ql none Tryz.func254 rfl fun E=>Qb ?_;unfold Wk;refine Qr ?_;refine(JL ⟨lo,hi⟩ _ ⟨h1,h2⟩).q ?_;cases r1:Qp ⟨lo,hi⟩ with
 | false=>
  rw[BA (by simp)];simp-dsimp only[go_sem];try rfl
 | true=>
  rw[BC rfl];refine Qr ?_;refine(kN lo hi _ h1 h2).Q0
theorem I1 (a b:Ivl)(p:Int)(st:Qd)(ha:wI a)(hb:wI b):PR 238 [.agg (Qn a),.agg (Qn b),.sc (.int .i64 p)] st (.sc (.bool (Qp a&&Qp b&&Qt p))):=by
 refine Qj Tryz.func238 fun E=> ?_;refine(JL a _ ha).q ?_;cases r1:Qp a with
 | false=>simp-dsimp only[go_sem];try rfl
 | true=>
  refine Qr ?_;refine(JL b _ hb).q ?_;cases r2:Qp b with
  | false=>simp-dsimp only[go_sem];try rfl
  | true=>
   refine Qr ?_;refine(JY p _).q ?_;simp-dsimp only[go_sem]
   try rfl
theorem Tu (v:Vl):(Zi v).2=0\/Zi v=(default,2):=by unfold Zi;split;exact .inl rfl;split;exact .inr rfl;exact .inl rfl
theorem YP (lo hi:Nm)(p:Nat)(st:Qd)(hl:bd 1000000 1000000 lo)(hh:bd 1000000 1000000 hi)(hp0:0<p)(hp:p<=1000000000):PR 239 [.agg (Qg lo),.agg (Qg hi),.sc (.int .i64 p)] st (.tup [.agg (Qn (XN (QX (ofX lo) p false) (QX (ofX hi) p true)).1),.sc (.int .i64 (XN (QX (ofX lo) p false) (QX (ofX hi) p true)).2)]):=by
 refine Ql none Tryz.func239 rfl fun E=>Qb ?_;unfold XN;refine Qr ?_;refine(GR lo p false _ hl hp0 hp).Q ?_;refine ck ?_ ?_<;>intro h;have hne:=XI h;refine Qr ?_;rw[BA (fun hh=>hne hh.1)];rcases Tu (QX (ofX lo) p false) with e | e;exact absurd e hne;rw[e];rfl
 . have he:=Jf h;refine Qr ?_;refine(GR hi p true _ hh hp0 hp).Q ?_;refine ck ?_ ?_<;>intro h;have hne:=XI h;refine Qr ?_;rw[BA (fun hh=>hne hh.2)];rcases Tu (QX (ofX hi) p true) with e | e;exact absurd e hne;rw[e];rfl
   . have he2:=Jf h;refine Qr ?_;rw[BC ⟨he,he2⟩]
     try rfl
theorem YU (a b:Ivl)(p:Int)(st:Qd)(ha:wI a)(hb:wI b):PR 173 [.agg (Qn a),.agg (Qn b),.sc (.int .i64 p)] st (.tup [.agg (Qn (opI 0 a b p).1),.sc (.int .i64 (opI 0 a b p).2)]):=by refine Qj Tryz.func173 fun E=> ?_;refine(I1 a b p _ ha hb).Q ?_;refine ck ?_ ?_<;>intro h;refine Qr ?_;rw[opI,BA (fun hh=>by simp[hh.1,hh.2.1,hh.2.2] at h)];rfl;have hv:Qp a=true/\Qp b=true/\Qt p=true:=(by simpa[and_assoc] using h);obtain⟨r1,r2,r3⟩:=hv;obtain⟨q,rfl,q1,q2,q3⟩:=Ys r3;obtain⟨a1,a2,_⟩:=Xg r1;obtain⟨b1,b2,_⟩:=Xg r2;refine Qr ?_;refine Q5 28 (Qi [0,1,2,3,5,6,7,8,10] (.step 4 [6,8] (Qi [9,11,12,13,14,15] .done))) ?_;refine Qr ?_;refine(xk a.lo b.lo a1 b1 _).mono ?_;rintro r st ⟨y,y1,y2,rfl,rfl⟩;refine Qr ?_;refine(xk a.hi b.hi a2 b2 _).mono ?_;rintro r st ⟨z,z1,z2,rfl,rfl⟩;refine Qr ?_;refine(YP y z q _ y1 z1 oG oG).q ?_;have ca:=Jt r1;have cb:=Jt r2;have e1:ofX y=loV 0 (ofN a.lo) (ofN a.hi) (ofN b.lo) (ofN b.hi):=Vp (xB 0 ca.1 ca.2 cb.1 cb.2) (by rw[y2,IE,W1y,UE];rfl);have e2:ofX z=hiV 0 (ofN a.lo) (ofN a.hi) (ofN b.lo) (ofN b.hi):=Vp (xC 0 ca.1 ca.2 cb.1 cb.2) (by rw[z2,IE,G1g,UE];rfl);refine Qr ?_;rw[opI,BC ⟨r1,r2,r3⟩,e1,e2,q3]
theorem Z0p (a b:Ivl)(p:Int)(st:Qd)(ha:wI a)(hb:wI b):PR 229 [.agg (Qn a),.agg (Qn b),.sc (.int .i64 p)] st (.tup [.agg (Qn (opI 1 a b p).1),.sc (.int .i64 (opI 1 a b p).2)]):=by refine Qj Tryz.func229 fun E=> ?_;refine(I1 a b p _ ha hb).Q ?_;refine ck ?_ ?_<;>intro h;refine Qr ?_;rw[opI,BA (fun hh=>by simp[hh.1,hh.2.1,hh.2.2] at h)];rfl;have hv:Qp a=true/\Qp b=true/\Qt p=true:=(by simpa[and_assoc] using h);obtain⟨r1,r2,r3⟩:=hv;obtain⟨q,rfl,q1,q2,q3⟩:=Ys r3;obtain⟨a1,a2,_⟩:=Xg r1;obtain⟨b1,b2,_⟩:=Xg r2;refine Qr ?_;refine Q5 28 (Qi [0,1,2,3,5,6,7,8,10] (.step 4 [6,8] (Qi [9,11,12,13,14,15] .done))) ?_;refine Qr ?_;refine(IF a.lo b.hi a1 b2 _).mono ?_;rintro r st ⟨y,y1,y2,rfl,rfl⟩;refine Qr ?_;refine(IF a.hi b.lo a2 b1 _).mono ?_;rintro r st ⟨z,z1,z2,rfl,rfl⟩;refine Qr ?_;refine(YP y z q _ y1 z1 oG oG).q ?_;have ca:=Jt r1;have cb:=Jt r2;have e1:ofX y=loV 1 (ofN a.lo) (ofN a.hi) (ofN b.lo) (ofN b.hi):=Vp (xB 1 ca.1 ca.2 cb.1 cb.2) (by rw[y2,YZ,W1x,YH];rfl);have e2:ofX z=hiV 1 (ofN a.lo) (ofN a.hi) (ofN b.lo) (ofN b.hi):=Vp (xC 1 ca.1 ca.2 cb.1 cb.2) (by rw[z2,YZ,G1f,YH];rfl);refine Qr ?_;rw[opI,BC ⟨r1,r2,r3⟩,e1,e2,q3]
theorem U1b (a:Ivl)(p:Int)(st:Qd)(ha:wI a):PR 371 [.agg (Qn a),.sc (.int .i64 p)] st (.tup [.agg (Qg (Jv a p).1),.sc (.int .i64 (Jv a p).2)]):=by
 refine Qj Tryz.func371 fun E=> ?_;refine(JL a _ ha).q ?_;cases r1:Qp a with
 | false=>
  refine Qr ?_;rw[Jv,BA (by simp[r1])];rfl
 | true=>
  refine Qr ?_;refine(JY p _).q ?_;cases r3:Qt p with
  | false=>
   refine Qr ?_;rw[Jv,BA (by simp[r3])];rfl
  | true=>
   obtain⟨q,rfl,q1,q2,q3⟩:=Ys r3;obtain⟨a1,a2,_⟩:=Xg r1;refine Qr ?_;refine(IF a.hi a.lo a2 a1 _).mono ?_;rintro r st ⟨y,y1,y2,rfl,rfl⟩;refine Qr ?_;refine(GR y q true _ y1 oG oG).q ?_;have ca:=Jt r1;have e1:ofX y=JJ (ofN a.hi) (ofN a.lo):=Vp (qc ca.2 ca.1) (by rw[y2,YZ,YH];rfl);refine Qr ?_;rw[Jv,BC ⟨r1,r3⟩,e1,q3]
theorem U1e (a:Ivl)(p:Int)(st:Qd)(ha:wI a):PR 227 [.agg (Qn a),.sc (.int .i64 p)] st (.tup [.agg (Qg (Kd a p).1),.sc (.int .i64 (Kd a p).2)]):=by
 refine Qj Tryz.func227 fun E=> ?_;refine(JL a _ ha).q ?_;cases r1:Qp a with
 | false=>
  refine Qr ?_;rw[Kd,BA (by simp[r1])];rfl
 | true=>
  refine Qr ?_;refine(JY p _).q ?_;cases r3:Qt p with
  | false=>
   refine Qr ?_;rw[Kd,BA (by simp[r3])];rfl
  | true=>
   obtain⟨q,rfl,q1,q2,q3⟩:=Ys r3;obtain⟨a1,a2,_⟩:=Xg r1;have ca:=Jt r1;have hm:Kd a q=if Kc (Vw a q) (ofN a.lo)<0 then(a.lo,0) else Zi (Vw a q):=(by rw[Kd,BC ⟨r1,r3⟩,q3]);rw[hm];refine Qr ?_;refine Q5 36 (Qi [0,1,2,3,4,5,8] (.alt (.step 6 [1] (.alt (.step 7 [1] (.alt (.step 9 [1] (.alt (.step 10 [3,5] (.step 11 [1,3,5] (.step 12 [] (.done)))) (.step 11 [1,3,5] (.step 10 [3,5] (.step 12 [] (.done)))))) (.step 11 [1,3,5] (.step 9 [1] (.step 10 [3,5] (.step 12 [] (.done))))))) (.step 11 [1,3,5] (.step 7 [1] (.step 9 [1] (.step 10 [3,5] (.step 12 [] (.done)))))))) (.step 11 [1,3,5] (.step 6 [1] (.step 7 [1] (.step 9 [1] (.step 10 [3,5] (.step 12 [] (.done))))))))) ?_;refine Qr ?_;refine And.intro ?_ ?_
   all_goals
    refine(vX a.lo a.hi 64 65536 _ (Xo a1) (Xo a2) oG oG).mono ?_;rintro r st ⟨y,y1,y2,rfl,rfl⟩;have b1:=y1.1;have b2:=y1.2.1;have b3:=y1.2.2;have e1:ofX { y with exp:=y.exp-1 } =UW (Vn (ofN a.lo) (ofN a.hi)):=J1b (H7 ca.1 ca.2) (by rw[y2,UE];rfl);simp-dsimp only[go_sem]
    try refine And.intro ?_ ?_
    all_goals
     refine(z1l y _ oG oG).q ?_;have hbd:bd 65601 65537 { y with exp:=y.exp-1 } :=⟨b1,by simp only;omega,by simp only;omega⟩;generalize ({ y with exp:=y.exp-1 } :Nm)=z at*
     have c1:=hbd.1;have c2:=hbd.2.1;have c3:=hbd.2.2;have hz:=Mc z q false _ _ hbd;have e2:ofX (Vi z q false)=Vw a q:=(by rw[Mb z q false oG,e1];rfl);simp-dsimp only[go_sem]
     try refine And.intro ?_ ?_
     all_goals
      refine(Mg z q false _ oG oG oG oG).q ?_;generalize Vi z q false=x at*
      have d1:=hz.1;have d2:=hz.2.1;have d3:=hz.2.2;have hs:sm x:=⟨oG,oG,oG⟩;have hg:sm (Zv a.lo x):=Ho (QT a1) hs;have e3:=V1p (p:=q) r1 e2;simp-dsimp only[go_sem]
      try refine And.intro ?_ ?_
      all_goals
       refine(I4 a.lo x _ (QT a1) hs).q ?_;generalize Zv a.lo x=g at*
       have g1:=hg.1;have g2:=hg.2.1;have g3:=hg.2.2;refine Qr ?_;refine(zF g.neg g.w g.exp _ oG oG oG).q ?_;rw[vg,e3];simp-dsimp only[go_sem]
theorem v8 (x a b:Nm)(i j:Nat)(st:Qd)(hij:i≠j)(hi:st.getD i []=Qg a)(hj:st.getD j []=Qg b)(hx:sm x)(ha:sm a)(hb:sm b):
 PCalls Tryz.prog 296 ([.agg (Qg x)]++ [.gp i 0,.gp j 0]) st (fun r st'=>r= .tup []/\st'=(st.set i (Qg (Z9 a x))).set j (Qg (Zv b x))):=by
 refine Ql none Tryz.func296 rfl fun E=>Qb ?_;unfold Qg at hi hj;refine Qr ?_;refine Q5 10 (Qi [0,1,3,4] (.step 2 [3,4] (Qi [5,6,7] .done))) ?_;simp-dsimp only[go_sem,hi,hj];refine(vw a x _ ha hx).q ?_;simp-dsimp only[go_sem,hi,hj];refine(I4 b x _ hb hx).q ?_;simp-dsimp only[go_sem,hi,hj];rw[Zg _ _ _ _ _ hij,hj];exact⟨⟨by simp,by simp⟩,rfl⟩
theorem Y0f (n:Nat)(x:Nm):Bnd n (.agg (Qg x)):=by
 refine .agg _ fun j hj=> ?_
 match j,hj with
 | 0,_=>exact .sc _
 | 1,_=>exact .sc _
 | 2,_=>
  refine .sl _ _ 1 (fun i hi=> ?_) (fun i j hi hj=> ?_);rw[Jp] at hi;rw[Zs x.w i hi];rfl;rw[Jp] at hi;rw[Zs x.w i hi];have:j=0:=oG;subst this;exact .sc _
theorem Q2d (n:Nat)(x:Ivl): ∀j,j<(Qn x).length->Bnd n ((Qn x).getD j .junk):=fun j hj=>by
 have h1:=Y0f n x.lo;have h2:=Y0f n x.hi;cases h1 with
 | agg _ h1=>
  cases h2 with
  | agg _ h2=>
   match j,hj with
   | 0,_=>exact h1 0 (show _<3 by omega)
   | 1,_=>exact h1 1 (show _<3 by omega)
   | 2,_=>exact h1 2 (show _<3 by omega)
   | 3,_=>exact h2 0 (show _<3 by omega)
   | 4,_=>exact h2 1 (show _<3 by omega)
   | 5,_=>exact h2 2 (show _<3 by omega)
theorem Y0e (n:Nat)(x:Ivl)(e:Int):Bnd n (.tup [.agg (Qn x),.sc (.int .i64 e)]):=by
 refine .tup _ fun j hj=> ?_
 match j,hj with
 | 0,_=>exact .agg _ (Q2d n x)
 | 1,_=>exact .sc _
theorem qA (st:Qd)(l h:Lp):(st++ [l]++ [h]).getD st.length []=l:=by rw[BP,q_a,CA (BD _)];simp
theorem qB (st:Qd)(l h:Lp):(st++ [l]++ [h]).getD (st.length+1) []=h:=by rw[BP,q_a,CA oG];simp
theorem jx (st:Qd)(l h l' h':Lp):((st++ [l]++ [h]).set st.length l').set (st.length+1) h'=st++ [l']++ [h']:=by rw[BP,CJ _ _ (BD _),CJ _ _ oG];simp
theorem W8 {n k:Nat}{x:Nm}(h:bd n k x)(h1:n<=1000000)(h2:k<=1000000000):sm x:=⟨by have:=h.1;omega,by have:=h.2.1;omega,by have:=h.2.2;omega⟩
theorem zU {n k:Nat}{a b:Nm}(ha:bd n k a)(hb:bd n k b):bd n k (Z9 a b):=v5 ha hb
theorem zZ {n k:Nat}{a b:Nm}(ha:bd n k a)(hb:bd n k b):bd n k (Zv a b):=Ho ha hb
theorem UR (a b:Ivl)(p:Int)(st:Qd)(ha:wI a)(hb:wI b):PR 235 [.agg (Qn a),.agg (Qn b),.sc (.int .i64 p)] st (.tup [.agg (Qn (opI 2 a b p).1),.sc (.int .i64 (opI 2 a b p).2)]):=by
 refine PCalls.drop ?_;refine Ql none Tryz.func235 rfl fun E=>Qe (Qb ?_);refine Qr ?_;refine Qa ?_;refine(I1 a b p _ ha hb).Q ?_;refine ck ?_ ?_<;>intro h;refine Qr ?_;refine⟨Y0e _ default 1,[],(B9 _).symm,?_⟩;rw[opI,BA (fun hh=>by simp[hh.1,hh.2.1,hh.2.2] at h)];rfl;have hv:Qp a=true/\Qp b=true/\Qt p=true:=(by simpa[and_assoc] using h);obtain⟨r1,r2,r3⟩:=hv;obtain⟨q,rfl,q1,q2,q3⟩:=Ys r3;obtain⟨a1,a2,_⟩:=Xg r1;obtain⟨b1,b2,_⟩:=Xg r2;refine Qr ?_;refine Qa ?_;refine(Hs a.lo b.lo 64 65536 64 65536 _ (Xo a1) (Xo b1) oG oG oG oG).mono ?_;rintro r st ⟨y1,y1b,y1q,rfl,rfl⟩;refine Qr ?_;refine Qa ?_;refine KF 3 (by simp[go_sem]) (by simp) ?_;refine Qr ?_;refine KF 4 (by simp[go_sem]) (by simp) (Qb ?_);refine Qr ?_;have s1:=W8 y1b oG oG;refine(Hs a.lo b.hi 64 65536 64 65536 _ (Xo a1) (Xo b2) oG oG oG oG).mono ?_;rintro r st2 ⟨y2,y2b,y2q,rfl,rfl⟩;have s2:=W8 y2b oG oG;refine Qr ?_;refine(v8 y2 y1 y1 st.length (st.length+1) _ oG (qA _ _ _) (qB _ _ _) s2 s1 s1).w ?_;rintro st3 rfl;rw[jx];have l2:=zU y1b y2b;have g2:=zZ y1b y2b;have l2s:=W8 l2 oG oG;have g2s:=W8 g2 oG oG;refine Qr ?_;refine(Hs a.hi b.lo 64 65536 64 65536 _ (Xo a2) (Xo b1) oG oG oG oG).mono ?_;rintro r st3 ⟨y3,y3b,y3q,rfl,rfl⟩;have s3:=W8 y3b oG oG;refine Qr ?_;refine(v8 y3 (Z9 y1 y2) (Zv y1 y2) st.length (st.length+1) _ oG (qA _ _ _) (qB _ _ _) s3 l2s g2s).w ?_;rintro st4 rfl;rw[jx];have l3:=zU l2 y3b;have g3:=zZ g2 y3b;have l3s:=W8 l3 oG oG;have g3s:=W8 g3 oG oG;refine Qr ?_;refine(Hs a.hi b.hi 64 65536 64 65536 _ (Xo a2) (Xo b2) oG oG oG oG).mono ?_;rintro r st4 ⟨y4,y4b,y4q,rfl,rfl⟩;have s4:=W8 y4b oG oG;refine Qr ?_;refine(v8 y4 (Z9 (Z9 y1 y2) y3) (Zv (Zv y1 y2) y3) st.length (st.length+1) _ oG (qA _ _ _) (qB _ _ _) s4 l3s g3s).q ?_;rw[jx];have l4:=zU l3 y4b;have g4:=zZ g3 y4b;have e1:=H1w r1 r2 y1q y2q y3q y4q;have e2:=H1x r1 r2 y1q y2q y3q y4q;generalize Z9 (Z9 (Z9 y1 y2) y3) y4=L at*
 generalize Zv (Zv (Zv y1 y2) y3) y4=H at*
 have hL:=qA st (Qg L) (Qg H);have hH:=qB st (Qg L) (Qg H);unfold Qg at hL hH⊢;simp-dsimp only[go_sem,hL,hH];refine(YP L H q _ (l4.mono oG oG) (g4.mono oG oG) oG oG).q ?_;have hm:opI 2 a b q=XN (QX (ofX L) q false) (QX (ofX H) q true):=(by rw[opI,BC ⟨r1,r2,r3⟩,e1,e2,q3]);rw[hm];simp-dsimp only[go_sem,hL,hH];exact⟨Y0e _ _ _,_,BP _ _ _⟩
theorem Z1y (g:FuncId)(caps:Lp)(G:Ivl->Ivl->Ivl×Int)(i:Nat)(x:Ivl)(b:Li)(st:Qd)(hc:Qm Tryz.prog g=true)(hi:i<b.length)
 (h1c:caps.all PV.closed2=true) (h1':caps.all PV.closed1=true) (h2c:caps.map PV.forget2=caps) (h2':caps.map PV.forget1=caps) (hlim:caps.all (PV.lim1 0 1)=true)
 (h:PR g ([.agg (Qn x),.agg (Qn (b.getD i default))]++caps) st (.tup [.agg (Qn (G x (b.getD i default)).1),.sc (.int .i64 (G x (b.getD i default)).2)])):
 PR 237 ([.sc (.int .i64 i),.agg (Qn x)]++ [.ep [.fn (.func g) [] caps] 0,.ep [.sl .no (Qk b)] 0]) st (.tup [.agg (Qn (G x (b.getD i default)).1),.sc (.int .i64 (G x (b.getD i default)).2)]):=by
 refine Qj Tryz.func237 fun E=> ?_;have e1:=Zt b i hi;refine Q5 17 (Qi [0,1,2,3,4,5,6,7,8,9,10] .done) ?_;simp-dsimp only[go_sem,e1,hc,h1c,h1',h2c,h2'];refine⟨oG,?_⟩;refine h.Q0
theorem kB (g:FuncId)(caps:Lp)(G:Ivl->Ivl->Ivl×Int)(a b:Li)(st:Qd)(hc:Qm Tryz.prog g=true)(ha:wB a)(hb:wB b)(h1c:caps.all PV.closed2=true)(h1':caps.all PV.closed1=true)(h2c:caps.map PV.forget2=caps)(h2':caps.map PV.forget1=caps)(hlim:caps.all (PV.lim1 0 1)=true)(hfz: ∀i cs,caps.map (PV.frz1 i cs)=caps)
 (h:rightB a=true->rightB b=true-> ∀i,i<a.length->i<b.length->PR g ([.agg (Qn (a.getD i default)),.agg (Qn (b.getD i default))]++caps) st (.tup [.agg (Qn (G (a.getD i default) (b.getD i default)).1),.sc (.int .i64 (G (a.getD i default) (b.getD i default)).2)])):
 PR 171 [.sl .no (Qk a),.sl .no (Qk b),.fn (.func g) [] caps] st (.tup [.sl .no (Qk (Vo G a b).1),.sc (.int .i64 (Vo G a b).2)]):=by
 refine Ql none Tryz.func171 rfl fun E=>Qe (Qb ?_);simp-dsimp only[go_sem,h1c,h1',h2c,h2',hfz];refine Zz 0 ?_ ?_;simp-dsimp only[go_sem,h1c,h1',h2c,h2',hfz];simp-dsimp only[go_sem,h1c,h1',h2c,h2',hfz];refine Zz 1 ?_ ?_;simp-dsimp only[go_sem,h1c,h1',h2c,h2',hfz];refine Qb ?_;simp-dsimp only[go_sem,h1c,h1',h2c,h2',hfz];refine(K7 a st ha).q ?_;simp-dsimp only[go_sem,h1c,h1',h2c,h2',hfz];have bad: ∀st:Qd,¬(rightB a=true/\rightB b=true/\a.length=b.length)->Vo G a b=([],1):=fun _ h=>BA h;refine gkF ?_ ?_<;>intro h1;have r1:rightB a=true:=(by simpa using h1);simp-dsimp only[go_sem,h1c,h1',h2c,h2',hfz,r1];refine(K7 b st hb).q ?_;simp-dsimp only[go_sem,h1c,h1',h2c,h2',hfz,r1];refine gkF ?_ ?_<;>intro h2;have r2:rightB b=true:=(by simpa using h2);simp-dsimp only[go_sem,h1c,h1',h2c,h2',hfz,r1,r2];refine ck ?_ ?_<;>intro h3;have hne:=WK h3;simp-dsimp only[go_sem,h1c,h1',h2c,h2',hfz];rw[bad st (fun h=>hne h.2.2)];rfl;have hl:=Vs h3;simp-dsimp only[go_sem,h1c,h1',h2c,h2',hfz];refine(w7 _ [.ep [.fn (.func g) [] caps] 0,.ep [.sl .no (Qk b)] 0] (fun i x=>G x (b.getD i default)) a st rfl ha.1 rfl rfl rfl rfl rfl fun i hi=>Z1y g caps G i _ b st hc oG h1c h1' h2c h2' hlim (h r1 r2 i hi oG)).q ?_;simp-dsimp only[go_sem,h1c,h1',h2c,h2',hfz];rw[Vo,BC ⟨r1,r2,hl⟩];have r2:rightB b=false:=(by simpa using h2);simp-dsimp only[go_sem,h1c,h1',h2c,h2',hfz,r1,r2];rw[bad st (fun h=>by simp[r2] at h)];rfl;have r1:rightB a=false:=(by simpa using h1);simp-dsimp only[go_sem,h1c,h1',h2c,h2',hfz,r1];rw[bad st (fun h=>by simp[r1] at h)];rfl
theorem x1n (g:FuncId)(caps:Lp)(F:Nat->Ivl->Nm×Int)(l:Li)(st:Qd)(hc:Qm Tryz.prog g=true)(hl:l.length<=100000000000)(h1:caps.all PV.closed2=true)(h1':caps.all PV.closed1=true)(h2:caps.map PV.forget2=caps)(h2':caps.map PV.forget1=caps)(hlim:caps.all (PV.lim1 0 1)=true)
 (h: ∀i,i<l.length->PR g ([.sc (.int .i64 i),.agg (Qn (l.getD i default))]++caps) st (.tup [.agg (Qg (F i (l.getD i default)).1),.sc (.int .i64 (F i (l.getD i default)).2)])):
 PR 225 [.sl .no (Qk l),.fn (.func g) [] caps] st (.tup [.sl .no (Qy (ZD F 0 l []).1),.sc (.int .i64 (ZD F 0 l []).2)]):=by
 refine Qj Tryz.func225 fun E=> ?_;refine X7 6 3 ?_;refine Qr ?_;refine Q3 [false,true,false,false,false,false,true,false,false,false,false,true,true,true] 0 1 (fun n s=> ∃i o,n=l.length-i/\i<=l.length/\o.length=i/\ZD F 0 l []=ZD F i (l.drop i) o/\s=⟨[.junk,.fn (.func g) [] caps,.junk,.junk,.junk,.junk,.sl (.own 0) (Qy o),.junk,.junk,.junk,.junk,.sl .no (Qk l),.sc (.int .i64 l.length),.sc (.int .i64 i)]++jk 20,[],[(o.length,3)],st⟩) l.length ?_ ?_;simp-dsimp only[go_sem,hlim];exact⟨0,[],oG,oG,rfl,rfl,rfl⟩;rintro n s ⟨i,o,rfl,hi,ho,hr,rfl⟩;refine QM ?_ ?_<;>intro h';have hlt:i<l.length:=(by have:=q_b h';omega);have e1:=Zt l i hlt;have e3:=J2u i oG;have e4:=K0p F l i o hlt;simp-dsimp only[go_sem,e1,hc,h1,h2];refine⟨oG,?_⟩;refine(h i hlt).q ?_;simp-dsimp only[go_sem,e1];refine ck ?_ ?_<;>intro h2;have hne:=XI h2;refine Qr ?_;rw[hr,e4,BC hne];rfl;have he:=Jf h2;simp-dsimp only[go_sem,e3,hlim];refine⟨oG,l.length-(i+1),oG,i+1,o++ [(F i (l.getD i default)).1],rfl,oG,by simp[ho],?_,?_⟩;rw[hr,e4,BA (fun hh=>hh he)];simp[Qy,Qg];have hge:i=l.length:=(by have:=q_c h';omega);refine Qr ?_;refine Qq ?_;rw[hr,hge,FK];rfl
theorem Sv (k:Nat)(a b:Li)(p:Int):opB k a b p=Vo (fun x y=>opI k x y p) a b:=by
 unfold opB Vo;by_cases h:rightB a=true/\rightB b=true/\a.length=b.length;rw[BC h];cases hp:Qt p with
 | true=>rw[BC ⟨h.1,h.2.1,h.2.2,rfl⟩]
 | false=>
  rw[BA (fun hh=>by simp at hh),xn _ a (WB h.1).1 1 (by decide) (fun i x=>by simp only[Sq hp])]
 rw[BA h,BA (fun hh=>h ⟨hh.1,hh.2.1,hh.2.2.1⟩)]
theorem z0c (x:Ivl)(b:Li)(p:Int)(hx:Qp x=true):XX x b p=Vo (fun y _=>opI 2 x y p) b b:=by
 unfold Vo;by_cases h:rightB b=true;rw[BC ⟨h,h,rfl⟩];unfold XX;cases hp:Qt p with
 | true=>rw[BC ⟨h,hx,rfl⟩]
 | false=>
  rw[BA (fun hh=>by simp at hh),xn _ b (WB h).1 1 (by decide) (fun i x=>by simp only[Sq hp])]
 rw[BA (fun hh=>h hh.1)];unfold XX;rw[BA (fun hh=>h hh.1)]
theorem y1z (x y:Ivl)(p:Int)(st:Qd)(hx:wI x)(hy:wI y):PR 172 ([.agg (Qn x),.agg (Qn y)]++ [.ep [.sc (.int .i64 p)] 0]) st (.tup [.agg (Qn (opI 0 x y p).1),.sc (.int .i64 (opI 0 x y p).2)]):=by refine Qj Tryz.func172 fun E=> ?_;refine(YU x y p _ hx hy).Q0
theorem y1r (x y:Ivl)(p:Int)(st:Qd)(hx:wI x)(hy:wI y):PR 228 ([.agg (Qn x),.agg (Qn y)]++ [.ep [.sc (.int .i64 p)] 0]) st (.tup [.agg (Qn (opI 1 x y p).1),.sc (.int .i64 (opI 1 x y p).2)]):=by refine Qj Tryz.func228 fun E=> ?_;refine(Z0p x y p _ hx hy).Q0
theorem y1p (x y z:Ivl)(p:Int)(st:Qd)(hx:wI x)(hy:wI y):PR 246 ([.agg (Qn y),.agg (Qn z)]++ [.ep (Qn x) 0,.ep [.sc (.int .i64 p)] 0]) st (.tup [.agg (Qn (opI 2 x y p).1),.sc (.int .i64 (opI 2 x y p).2)]):=by refine Qj Tryz.func246 fun E=> ?_;refine(UR x y p _ hx hy).Q0
theorem yu (a b:Li)(p:Int)(st:Qd)(ha:wB a)(hb:wB b):PR 101 [.sl .no (Qk a),.sl .no (Qk b),.sc (.int .i64 p)] st (.tup [.sl .no (Qk (opB 0 a b p).1),.sc (.int .i64 (opB 0 a b p).2)]):=by rw[Sv];refine Ql none Tryz.func101 rfl fun E=>Qe (Qb ?_);refine Qr ?_;refine Zz 0 ?_ ?_;exact QA;refine Qq ?_;refine(kB _ [.ep [.sc (.int .i64 p)] 0] (fun x y=>opI 0 x y p) a b st rfl ha hb rfl rfl rfl rfl rfl (fun _ _=>rfl) fun _ _ i h1 h2=>y1z _ _ p st (ha.2 i h1) (hb.2 i h2)).Q0
theorem W0w (a b:Li)(p:Int)(st:Qd)(ha:wB a)(hb:wB b):PR 159 [.sl .no (Qk a),.sl .no (Qk b),.sc (.int .i64 p)] st (.tup [.sl .no (Qk (opB 1 a b p).1),.sc (.int .i64 (opB 1 a b p).2)]):=by rw[Sv];refine Ql none Tryz.func159 rfl fun E=>Qe (Qb ?_);refine Qr ?_;refine Zz 0 ?_ ?_;exact QA;refine Qq ?_;refine(kB _ [.ep [.sc (.int .i64 p)] 0] (fun x y=>opI 1 x y p) a b st rfl ha hb rfl rfl rfl rfl rfl (fun _ _=>rfl) fun _ _ i h1 h2=>y1r _ _ p st (ha.2 i h1) (hb.2 i h2)).Q0
theorem y1o (x:Ivl)(b:Li)(p:Int)(st:Qd)(hx:wI x)(hb:wB b):PR 182 [.agg (Qn x),.sl .no (Qk b),.sc (.int .i64 p)] st (.tup [.sl .no (Qk (XX x b p).1),.sc (.int .i64 (XX x b p).2)]):=by
 refine Ql none Tryz.func182 rfl fun E=>Qe (Qb ?_);refine Qr ?_;refine Zz 0 ?_ ?_;exact QA;refine Qr ?_;refine Zz 1 ?_ ?_;exact QA;refine Qq ?_;refine(JL x st hx).q ?_;cases r1:Qp x with
 | false=>
  refine Qr ?_;rw[XX,BA (by simp[r1])];rfl
 | true=>
  rw[z0c x b p r1];refine Qr ?_;refine(kB _ [.ep (Qn x) 0,.ep [.sc (.int .i64 p)] 0] (fun y _=>opI 2 x y p) b b st rfl hb hb rfl rfl rfl rfl rfl (fun _ _=>rfl) fun _ _ i h1 h2=>y1p x _ _ p st hx (hb.2 i h1)).Q0
theorem y1v (i:Int)(a:Ivl)(p:Int)(st:Qd)(ha:wI a):PR 226 ([.sc (.int .i64 i),.agg (Qn a)]++ [.ep [.sc (.int .i64 p)] 0]) st (.tup [.agg (Qg (Kd a p).1),.sc (.int .i64 (Kd a p).2)]):=by refine Qj Tryz.func226 fun E=> ?_;refine(U1e a p _ ha).Q0
theorem V1u (b:Li)(p:Int)(h:rightB b=true):Zk b p=ZD (fun _ a=>Kd a p) 0 b []:=by
 unfold Zk;cases hp:Qt p with
 | true=>rw[BC ⟨h,rfl⟩]
 | false=>rw[BA (fun hh=>by simp at hh),xn _ b (WB h).1 1 (by decide) (fun i x=>by simp only[V1r hp])]
theorem yt (b:Li)(p:Int)(st:Qd)(hb:wB b):PR 158 [.sl .no (Qk b),.sc (.int .i64 p)] st (.tup [.sl .no (Qy (Zk b p).1),.sc (.int .i64 (Zk b p).2)]):=by
 refine Ql none Tryz.func158 rfl fun E=>Qe (Qb ?_);refine Qr ?_;refine Zz 0 ?_ ?_;exact QA;refine Qq ?_;refine(K7 b st hb).q ?_;cases r1:rightB b with
 | false=>
  refine Qr ?_;rw[Zk,BA (by simp[r1])];rfl
 | true=>
  rw[V1u b p r1];refine Qr ?_;refine(x1n _ [.ep [.sc (.int .i64 p)] 0] (fun _ a=>Kd a p) b st rfl hb.1 rfl rfl rfl rfl rfl fun i hi=>y1v _ _ p st (hb.2 i hi)).Q0
end Go.Pv
end
