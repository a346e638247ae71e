/- Parts of the walk: N1, N2, N3, N4, N5, N6, N7, N8, N9, N10, N11, N12. -/
import Derived.Test.YthlnpmkcmbohaaaGreatDoorZP
import Derived.Laws.Externs
import Derived.Test.YthlnpmkcmbohaaaGreatDoorZG
import Derived.Test.YthlnpmkcmbohaaaGreatDoorZY
set_option linter.unusedVariables false
set_option linter.unusedSimpArgs false
section
namespace Go.Pv
open Go.Proofs
theorem Q2c {vs:Array Value}{x y z:Value}(hl:vs.size=3)(h0:vs.getD 0 undef=x)(h1:vs.getD 1 undef=y)(h2:vs.getD 2 undef=z):vs= #[x,y,z]:=by
 obtain⟨l⟩:=vs
 match l,hl with
 | [a,b,c],_=>
  have e0:a=x:=h0;have e1:b=y:=h1;have e2:c=z:=h2;subst e0;subst e1;subst e2;rfl
theorem U2v {P:Program}{f:FuncId}{x y z:Value}{u v:Value}(st:Qf)(h: ∀w,(callFunc f #[x,y,z]).run P w= .ok (.value (.tuple #[u,v])) w):
 ExtCalls P f [.sc x,.sc y,.sc z] st (fun r st'=>r= .tup [.sc u,.sc v]/\st'=st):=by
 refine⟨.tup [.sc u,.sc v],(fun _ _ h=>nomatch h),fun w g vs hr=>⟨.tuple #[u,v],?_,?_⟩,rfl,rfl⟩;have h0:=Rep.sc_inv (hr.2 0 (by simp));have h1:=Rep.sc_inv (hr.2 1 (by simp));have h2:=Rep.sc_inv (hr.2 2 (by simp));rw[Q2c hr.1 h0 h1 h2];exact h w;refine .tup _ _ rfl fun j hj=> ?_
 match j,hj with
 | 0,_=>exact .sc _
 | 1,_=>exact .sc _
theorem G1u {P:Program}(x y b:Nat)(hb:b<=1)(w:World):((Extern.MathBitsCarry.rows[1]'(by decide)).2 #[.int .u64 x,.int .u64 y,.int .u64 b]).run P w=
 .ok (.tuple #[.int .u64 (((x+18446744073709551616-y-b) % 18446744073709551616:Nat):Int),.int .u64 ((if x<y+b then 1 else 0:Nat):Int)]) w:=by
 have:b=0\/b=1:=oG;rcases this with rfl | rfl<;>rfl
theorem G1w {P:Program}(x y c:Nat)(hc:c<=1)(w:World):((Extern.MathBitsCarry.rows[0]'(by decide)).2 #[.int .u64 x,.int .u64 y,.int .u64 c]).run P w=
 .ok (.tuple #[.int .u64 (((x+y+c) % 18446744073709551616:Nat):Int),.int .u64 (((x+y+c)/18446744073709551616:Nat):Int)]) w:=by
 have:c=0\/c=1:=oG;rcases this with rfl | rfl<;>rfl
theorem x1v (x y c:Nat)(st:Qf)(hc:c<=1):ExtCalls Tryz.prog 179 [.sc (.int .u64 x),.sc (.int .u64 y),.sc (.int .u64 c)] st (fun r st'=>r= .tup [.sc (.int .u64 ((x+y+c) % 18446744073709551616:Nat)),.sc (.int .u64 ((x+y+c)/18446744073709551616:Nat))]/\st'=st):=by refine U2v st fun w=> ?_;rw[run_callFunc_extern Tryz.func179 (by kernel_rfl) (by kernel_rfl) (by kernel_rfl) (e:=(Extern.MathBitsCarry.rows[0]'(by decide)).2) (by kernel_rfl),G1w x y c hc w];rfl
theorem G1m (x y b:Nat)(st:Qf)(hb:b<=1):ExtCalls Tryz.prog 181 [.sc (.int .u64 x),.sc (.int .u64 y),.sc (.int .u64 b)] st (fun r st'=>r= .tup [.sc (.int .u64 ((x+18446744073709551616-y-b) % 18446744073709551616:Nat)),.sc (.int .u64 (if x<y+b then 1 else 0:Nat))]/\st'=st):=by refine U2v st fun w=> ?_;rw[run_callFunc_extern Tryz.func181 (by kernel_rfl) (by kernel_rfl) (by kernel_rfl) (e:=(Extern.MathBitsCarry.rows[1]'(by decide)).2) (by kernel_rfl),G1u x y b hb w];rfl
theorem J3 (x y c:Nat)(st:Qf)(hx:x<18446744073709551616)(hy:y<18446744073709551616)(hc:c<=1):ExtCalls Tryz.prog 179 [.sc (.int .u64 x),.sc (.int .u64 y),.sc (.int .u64 c)] st
 (fun r st'=> ∃(z:UInt64) (c':Nat),c'<=1/\z.toNat+18446744073709551616*c'=x+y+c/\r= .tup [.sc (.int .u64 z.toNat),.sc (.int .u64 c')]/\st'=st):=by
 refine(x1v x y c st hc).mono ?_;rintro r st' ⟨rfl,rfl⟩;have hz:(UInt64.ofNat ((x+y+c) % 18446744073709551616)).toNat=(x+y+c) % 18446744073709551616:=(by rw[FF];omega);refine⟨UInt64.ofNat ((x+y+c) % 18446744073709551616),(x+y+c)/18446744073709551616,oG,by rw[hz];omega,by rw[hz],rfl⟩
theorem HS (x y b:Nat)(st:Qf)(hx:x<18446744073709551616)(hy:y<18446744073709551616)(hb:b<=1):ExtCalls Tryz.prog 181 [.sc (.int .u64 x),.sc (.int .u64 y),.sc (.int .u64 b)] st
 (fun r st'=> ∃(z:UInt64) (b':Nat),b'<=1/\z.toNat+y+b=x+18446744073709551616*b'/\r= .tup [.sc (.int .u64 z.toNat),.sc (.int .u64 b')]/\st'=st):=by
 refine(G1m x y b st hb).mono ?_;rintro r st' ⟨rfl,rfl⟩;have hz:(UInt64.ofNat ((x+18446744073709551616-y-b) % 18446744073709551616)).toNat=(x+18446744073709551616-y-b) % 18446744073709551616:=(by rw[FF];omega);refine⟨UInt64.ofNat ((x+18446744073709551616-y-b) % 18446744073709551616),if x<y+b then 1 else 0,by split<;>omega,?_,by rw[hz],rfl⟩;rw[hz];split<;>omega
theorem w7 (l:List UInt64):(Q2 l).all PV.scal=true:=by rw[q_d];intro p hp;simp[Q2] at hp;obtain⟨c,_,rfl⟩:=hp;rfl
theorem W0q (a:List UInt64)(n:Nat)(h:a.length<=n):Zx (Q2 (List.replicate n 0)) 0 (Q2 a)=Q2 (a++List.replicate (n-a.length) 0):=by unfold Zx Q2;simp[E5,List.drop_replicate]
set_option maxRecDepth 100000
theorem Hv (o:List UInt64)(i:Nat)(z:UInt64)(c c' y S:Nat)(hi:i<o.length)(hz:z.toNat+18446744073709551616*c'=(o.getD i 0).toNat+y+c)(hv:Qi o+18446744073709551616^i*c=S):
 Qi (o.set i z)+18446744073709551616^(i+1)*c'=S+18446744073709551616^i*y:=by
 have e1:=KG o i z hi;have h:=B4 (18446744073709551616^i* ·) hz;simp only[CE] at h;rw[B5,BW];omega
theorem v0f (A B:List UInt64)(m0 c V:Nat)(h0:m0=A.length+1)(hl:B.length<=A.length)(hv:V+18446744073709551616^m0*c=Qi A+Qi B):c=0:=by
 have vB:=Zu B;have vA:=Zu A;have hp:18446744073709551616^B.length<=18446744073709551616^A.length:=BS (by decide) hl;apply Nat.eq_zero_of_not_pos;intro hc;have:18446744073709551616^m0*1<=18446744073709551616^m0*c:=DP _ hc;rw[h0,B5] at*
 omega
theorem jq (a b:List UInt64)(st:Qf)(ha:a.length<=1000000000000)(hb:b.length<=1000000000000):PR 153 [.sl .no (Q2 a),.sl .no (Q2 b)] st (.sl .no (Q2 (Qp (Qi a+Qi b)))):=by
 refine U2m Tryz.func153 fun E=> ?_;refine(J6 a st oG).Q ?_;refine(J6 b st oG).Q ?_;have la:=Xt a;have lb:=Xt b;rw[<-ZM a,<-ZM b];generalize XL a=a at*
 generalize XL b=b at*
 obtain⟨N,hN⟩: ∃N,N=Qi a+Qi b:=⟨_,rfl⟩;rw[<-hN];refine ck (fun h=> ?_) (fun h=> ?_)
 case' refine_1=>
  have hle:a.length<=b.length:=oT h
  have h1:b.length<=1000000000000:=oG;have hM:N=Qi b+Qi a:=oG;clear h la lb ha hb hN;generalize a=B at*
  generalize b=A at*
 case' refine_2=>
  have hle:b.length<=a.length:=oF h
  have h1:a.length<=1000000000000:=oG;have hM:N=Qi a+Qi b:=hN;clear h la lb ha hb hN;generalize b=B at*
  generalize a=A at*
 all_goals
  obtain⟨m0,hm0⟩: ∃m0,m0=A.length+1:=⟨_,rfl⟩;have x1:IntKind.i64.wrap ((A.length:Int)+1)=((m0:Nat):Int):=(by rw[show((A.length:Int)+1)=((A.length+1:Nat):Int) from rfl,Qn _ oG,hm0]);have x2:=w7 A;have x3:A.take m0=A:=BF oG;have x4:=W0q A m0 oG;have x5:m0-A.length=1:=oG;rw[x5] at x4;have vB:=Zu B;have vA:=Zu A;simp-dsimp only[go_sem,x1,x2,x3,x4];refine⟨⟨oG,oG,oG⟩,⟨by simp;omega,by simp;omega⟩,?_⟩;refine Qd ([false,true,false,false,false,true,true]++rF 21++ [true,true]) 1 0
   (fun m s'=> ∃i c o,m=B.length-i/\i<=B.length/\c<=1/\o.length=m0/\Qi o+18446744073709551616^i*c=Qi A+Qi (B.take i)/\
    s'=⟨[.junk,.sl .no (Q2 B),.junk,.junk,.junk,.ms false 0 0 m0,.sc (.int .u64 (c:Nat))]++jk 21++ [.sc (.int .i64 B.length),.sc (.int .i64 (i:Nat))]++jk 43,[Q2 o],[],st⟩) B.length ?_ ?_
  refine G2s ?_;refine⟨0,0,A++ [0],oG,oG,oG,by simp;omega,?_,rfl⟩;rw[Xz];simp[Qi,nW,val];rintro m s' ⟨i,c,o,rfl,hi,hc,ho,hv,rfl⟩;refine U2n (fun h=> ?_) (fun h=> ?_);have hlt:i<B.length:=(oT h);have g1:=QC B i hlt;have g2:=QC o i oG;have x6:IntKind.i64.wrap ((i:Int)+1)=((i+1:Nat):Int):=(by rw[show((i:Int)+1)=((i+1:Nat):Int) from rfl,Qn _ oG]);refine G2s ?_;refine Qm QH 73 (X0p [0,1,2,3,4,5,6,7,8,9,10,11,12,13,14,15,16,17] .done) (by decide+kernel) (by simp) ?_;simp-dsimp only[go_sem,g1,g2];refine⟨⟨oG,oG⟩,oG,⟨oG,hlt⟩,?_⟩;refine(J3 (o.getD i 0).toNat (B.getD i 0).toNat c st (BT _) (BT _) hc).mono ?_;rintro r st' ⟨z,c',hc',hz,rfl,rfl⟩;have o1:=X9 o i z oG;have e1:=KG o i z oG;have e2:=Ze B i hlt;simp-dsimp only[go_sem,g1,g2,o1,x6];have hs:=Hv o i z c c' (B.getD i 0).toNat _ oG hz hv;refine⟨⟨oG,oG⟩,⟨oG,oG⟩,_,oG,i+1,c',o.set i z,rfl,oG,hc',by rw[BL];exact ho,?_,rfl⟩;rw[hs,e2];omega;have hge:i=B.length:=(oF h);refine G2s ?_;refine U2i ?_;rw[hge,B0,<-hM] at hv;rw[hge] at*
  refine Qd [false,false,false,false,false,true,true,false,true] 1 0
   (fun m s'=> ∃i c o,m=m0-i/\i<=m0/\c<=1/\o.length=m0/\Qi o+18446744073709551616^i*c=N/\
    s'=⟨[.junk,.junk,.junk,.junk,.junk,.ms false 0 0 m0,.sc (.int .u64 (c:Nat)),.junk,.sc (.int .i64 (i:Nat))]++jk 64,[Q2 o],[],st⟩) (m0-B.length) ?_ ?_
  refine G2s ?_;exact⟨B.length,c,o,oG,oG,hc,ho,hv,rfl⟩;clear hv hc ho;clear o c;rintro m s' ⟨i,c,o,rfl,hi,hc,ho,hv,rfl⟩;refine U2n (fun h=> ?_) (fun h=> ?_);have hlt:i<m0:=(oT h);refine U2n (fun h=> ?_) (fun h=> ?_);have hc0:c=0:=JU (b:=0) h;have hN0:Qi o=N:=(by rw[hc0] at hv;simpa using hv);have ht:o.take m0=o:=BF oG;have hle2:m0<=o.length:=oG;refine G2s ?_;refine QD 0 ?_ ?_;exact G2r;refine Qa ?_;simp-dsimp only[go_sem,ht,hle2];refine(J6 o st oG).Q ?_;rw[<-Q3 o,hN0];have g2:=QC o i oG;have x6:IntKind.i64.wrap ((i:Int)+1)=((i+1:Nat):Int):=(by rw[show((i:Int)+1)=((i+1:Nat):Int) from rfl,Qn _ oG]);simp-dsimp only[go_sem,g2];refine⟨⟨oG,oG⟩,oG,?_⟩;refine(J3 (o.getD i 0).toNat 0 c st (BT _) (by decide) hc).mono ?_;rintro r st' ⟨z,c',hc',hz,rfl,rfl⟩;have o1:=X9 o i z oG;have hs:=Hv o i z c c' 0 _ oG hz hv;simp-dsimp only[go_sem,o1,x6];refine⟨⟨oG,oG⟩,⟨oG,oG⟩,_,oG,i+1,c',o.set i z,rfl,oG,hc',by rw[BL];exact ho,by simpa using hs,rfl⟩;have hge2:i=m0:=(oF h);have hc0:c=0:=v0f A B m0 c (Qi o) hm0 hle (by rw[<-hge2,hv];exact hM);have hN0:Qi o=N:=(by rw[hc0] at hv;simpa using hv);have ht:o.take m0=o:=BF oG;have hle2:m0<=o.length:=oG;refine G2s ?_;refine QD 0 ?_ ?_;exact G2r;refine Qa ?_;simp-dsimp only[go_sem,ht,hle2];refine(J6 o st oG).Q ?_;rw[<-Q3 o,hN0]
theorem q0x (off:Nat)(T:List UInt64)(k:Nat)(h:k<T.length):(List.replicate off PV.junk++Q2 T).getD (off+k) .junk= .sc (.int .u64 (T.getD k 0).toNat):=by rw[q_a,CA (by simp),ES,DY,<-q_a];exact QC T k h
theorem q0w (off:Nat)(T:List UInt64)(k:Nat)(c:UInt64)(h:k<T.length):Zx (List.replicate off PV.junk++Q2 T) (off+k) [.sc (.int .u64 c.toNat)]=List.replicate off PV.junk++Q2 (T.set k c):=by unfold Zx;have e:Q2 (T.set k c)=(Q2 T).set k (.sc (.int .u64 c.toNat)):=(by unfold Q2;rw[FA]);rw[e,show List.replicate off PV.junk++(Q2 T).set k (.sc (.int .u64 c.toNat))=(List.replicate off PV.junk++Q2 T).set (off+k) (.sc (.int .u64 c.toNat)) from by rw[CJ _ _ (by simp),ES,DY]];rw[DS,BC (by simp[Q2];omega)];simp
theorem q0y (off:Nat)(T:List UInt64):((List.replicate off PV.junk++Q2 T).drop off).take T.length=Q2 T:=by rw[EW (by simp),E7 (by simp),CQ,BF (by rw[Za];exact BD _)]
theorem qX (o:List UInt64)(i:Nat)(z:UInt64)(c c' y S V:Nat)(hi:i<o.length)(hz:z.toNat+y+c=(o.getD i 0).toNat+18446744073709551616*c')(hv:Qi o+S=V+18446744073709551616^i*c):
 Qi (o.set i z)+(S+18446744073709551616^i*y)=V+18446744073709551616^(i+1)*c':=by
 have e1:=KG o i z hi;have h:=B4 (18446744073709551616^i* ·) hz;simp only[CE] at h;rw[B5,BW];omega
theorem Y0y (o:List UInt64)(S V n c:Nat)(hn:o.length=n)(hs:S<=V)(hv:Qi o+S=V+18446744073709551616^n*c):c=0:=by have v:=Zu o;rw[hn] at v;apply Nat.eq_zero_of_not_pos;intro hc;have:18446744073709551616^n*1<=18446744073709551616^n*c:=DP _ hc;omega
set_option maxHeartbeats 4000000 in
theorem J0o (a b:List UInt64)(st:Qf)(ha:a.length<=1000000000000)(hb:b.length<=1000000000000):PCalls Tryz.prog 154 [.sl .no (Q2 a),.sl .no (Q2 b)] st
 (fun r st'=>r= .tup [.sl .no (Q2 (if Qi a<Qi b then [] else Qp (Qi a-Qi b))),.sc (.bool (decide (Qi b<=Qi a)))]/\st'=st):=by
 refine PCalls.drop ?_;refine U2m Tryz.func154 fun E=> ?_;refine(Gc a b st oG oG).Q ?_;have bnd: ∀(l:List UInt64) (x:Bool),Bnd st.length (.tup [.sl .no (Q2 l),.sc (.bool x)]):=fun l x=>by
  refine .tup _ fun j hj=> ?_
  match j,hj with
  | 0,_=>
   refine .sl _ _ 1 (fun i hi=> ?_) (fun i j hi hj=> ?_);rw[Za] at hi;rw[QC l i hi];rfl;rw[Za] at hi;rw[QC l i hi];have:j=0:=oG;subst this;exact .sc _
  | 1,_=>exact .sc _
 refine ck (fun h=> ?_) (fun h=> ?_);have hlt:Qi a<Qi b:=by have:=q_b h;unfold Y9 V2 at this;split at this;omega;split at this<;>omega
 have h2:decide (Qi b<=Qi a)=false:=q_g oG;refine G2s ?_;rw[BC hlt,h2];exact⟨bnd [] false,[],(B9 _).symm,rfl⟩;have hle:Qi b<=Qi a:=by have:=q_c h;unfold Y9 V2 at this;split at this;omega;omega
 have h2:decide (Qi b<=Qi a)=true:=q_h hle;rw[BA oG,h2];have la:=Xt a;have lb:=Xt b;have va:=ZM a;have vb:=ZM b;by_cases h0:XL a= [];refine G2s ?_;refine(Ix a st oG).plain.Q ?_;refine(J6 b st oG).q ?_;have a0:Qi a=0:=(by rw[<-va,h0];rfl);have hcb:XL b= []:=(by rw[<-Q3 b,show Qi b=0 from oG,Zy]);rw[h0,hcb,a0,show 0-Qi b=0 from oG,Zy];refine G2s ?_;have f1:decide ((0:Int)<((0:Nat):Int))=false:=rfl;refine Qd ([false,true,false,false,false,false,true,true]++rF 11++ [true,true]) 0 0
  (fun m s'=>m=0/\s'=⟨[.junk,.sl .no [],.junk,.junk,.junk,.junk,.sl .no [],.sc (.int .u64 0)]++jk 11++ [.sc (.int .i64 ((0:Nat):Int)),.sc (.int .i64 0)]++jk 43,[],[],st⟩) 0 ?_ ?_
 exact G2r;rintro m s' ⟨rfl,rfl⟩;simp-dsimp only[go_sem,f1];refine U2i ?_;refine Qd [false,false,false,false,false,false,true,true,false,true] 0 0
  (fun m s'=>m=0/\s'=⟨[.junk,.junk,.junk,.junk,.junk,.junk,.sl .no [],.sc (.int .u64 0),.junk,.sc (.int .i64 ((0:Nat):Int))]++jk 54,[],[],st⟩) 0 ?_ ?_
 exact G2r;rintro m s' ⟨rfl,rfl⟩;have f2:decide (((0:Nat):Int)<((0:Nat):Int))=false:=rfl;simp-dsimp only[go_sem,f2];refine U2i ?_;refine(J6 [] st (by simp)).w ?_;rintro st' rfl;refine G2s ?_;exact⟨bnd [] true,[],(B9 _).symm,rfl⟩;have hcall:=PCalls.owned (P:=Tryz.prog) (f:=180) (args:= [.sl .no (Q2 a)]) (es:=Q2 (XL a)) (by rw[Za];exact EN.2 h0) (fun j hj=>⟨_,QC _ j (by rw[Za] at hj;exact hj)⟩) (fun p hp=>by simp at hp;subst hp;exact Z1o a _) (Ix a [] oG) st;rw[Za] at hcall;refine G2s ?_;refine hcall.mono ?_;rintro r st' ⟨off,rfl,rfl⟩;refine G2s ?_;refine(J6 b _ oG).w ?_;rintro st' rfl;have hBA:(XL b).length<=(XL a).length:=(by rw[<-Q3 b,Qp,BR];refine JK (by decide) _ _ ?_;have:=Zu (XL a);omega);rw[<-va,<-vb] at hle⊢;generalize XL a=A at*
 generalize XL b=B at*
 have vA:=Zu A;have hAp:0<A.length:=EN.2 h0;clear hcall va vb h;refine G2s ?_;have r0:(List.replicate off PV.junk).length=off:=ES;refine Qd ([false,true,false,false,false,false,true,true]++rF 11++ [true,true]) 0 0
  (fun m s'=> ∃i c o,m=B.length-i/\i<=B.length/\c<=1/\o.length=A.length/\Qi o+Qi (B.take i)=Qi A+18446744073709551616^i*c/\
   s'=⟨[.junk,.sl .no (Q2 B),.junk,.junk,.junk,.junk,.ms true st.length off A.length,.sc (.int .u64 (c:Nat))]++jk 11++ [.sc (.int .i64 B.length),.sc (.int .i64 (i:Nat))]++jk 43,[],[],st++ [List.replicate off PV.junk++Q2 o]⟩) B.length ?_ ?_
 refine G2s ?_;exact⟨0,0,A,oG,oG,oG,rfl,by simp[Qi,nW,val],rfl⟩;rintro m s' ⟨i,c,o,rfl,hi,hc,ho,hv,rfl⟩;have gst:(st++ [List.replicate off PV.junk++Q2 o]).getD st.length []=List.replicate off PV.junk++Q2 o:=(by simp[q_a]);refine U2n (fun h=> ?_) (fun h=> ?_);have hlt:i<B.length:=(oT h);have g1:=QC B i hlt;have g2:=q0x off o i oG;have x6:IntKind.i64.wrap ((i:Int)+1)=((i+1:Nat):Int):=(by rw[show((i:Int)+1)=((i+1:Nat):Int) from rfl,Qn _ oG]);refine G2s ?_;refine Qm QH 64 (X0p [0,1,2,3,4,5,6,7,8,9,10,11,12,13,14,15,16,17] .done) (by decide+kernel) (by simp) ?_;simp-dsimp only[go_sem,g1,g2,gst];rw[r0];refine⟨⟨oG,oG⟩,oG,⟨oG,hlt⟩,?_⟩;refine(HS (o.getD i 0).toNat (B.getD i 0).toNat c _ (BT _) (BT _) hc).mono ?_;rintro r st' ⟨z,c',hc',hz,rfl,rfl⟩;have o1:=q0w off o i z oG;have e2:=Ze B i hlt;have hs:=qX o i z c c' (B.getD i 0).toNat _ _ oG hz hv;have sst:(st++ [List.replicate off PV.junk++Q2 o]).set st.length (List.replicate off PV.junk++Q2 (o.set i z))=st++ [List.replicate off PV.junk++Q2 (o.set i z)]:=(by rw[CJ _ _ (BD _)];simp);simp-dsimp only[go_sem,g1,g2,gst,o1,sst,x6];rw[r0];refine⟨⟨oG,oG⟩,⟨oG,oG⟩,_,oG,i+1,c',o.set i z,rfl,oG,hc',by rw[BL];exact ho,?_,rfl⟩;rw[e2];exact hs;have hge:i=B.length:=(oF h);refine G2s ?_;refine U2i ?_;rw[hge,B0] at hv;clear gst;refine Qd [false,false,false,false,false,false,true,true,false,true] 0 0
  (fun m s'=> ∃i c o,m=A.length-i/\i<=A.length/\c<=1/\o.length=A.length/\Qi o+Qi B=Qi A+18446744073709551616^i*c/\
   s'=⟨[.junk,.junk,.junk,.junk,.junk,.junk,.ms true st.length off A.length,.sc (.int .u64 (c:Nat)),.junk,.sc (.int .i64 (i:Nat))]++jk 54,[],[],st++ [List.replicate off PV.junk++Q2 o]⟩) (A.length-B.length) ?_ ?_
 refine G2s ?_;exact⟨B.length,c,o,oG,oG,hc,ho,hv,rfl⟩;clear hv hc ho hge hi h;clear i c o;rintro m s' ⟨i,c,o,rfl,hi,hc,ho,hv,rfl⟩;refine U2n (fun h=> ?_) (fun h=> ?_);have hlt:i<A.length:=(oT h);refine U2n (fun h=> ?_) (fun h=> ?_);have hc0:c=0:=JU (b:=0) h;have hN0:Qi o=Qi A-Qi B:=(by rw[hc0,DQ] at hv;omega);have gst:(st++ [List.replicate off PV.junk++Q2 o]).getD st.length []=List.replicate off PV.junk++Q2 o:=(by simp[q_a]);have hct:=q0y off o;rw[ho] at hct;have hle3:off+A.length<=(List.replicate off PV.junk).length+o.length:=(by rw[r0];omega);refine G2s ?_;refine YT st.length 6 (by simp) ?_ ?_ ?_;intro p hp;have hp':p∈List.replicate off PV.junk++Q2 o:=(by rw[<-gst];exact hp);rcases DN.1 hp' with hp' | hp';rw[List.eq_of_mem_replicate hp'];rfl;simp[Q2] at hp';obtain⟨c,_,rfl⟩:=hp';rfl;intro e;have h2:(List.replicate off PV.junk++Q2 o).length=0:=by have e':(st++ [List.replicate off PV.junk++Q2 o]).getD st.length []= []:=e;rw[gst] at e';rw[e'];rfl
 rw[BH,Za] at h2;omega;refine Qa ?_;simp-dsimp only[go_sem,gst,hct,hle3];refine(J6 o _ oG).w ?_;rintro st' rfl;refine G2s ?_;rw[<-Q3 o,hN0];refine⟨bnd _ _,[[]],?_,rfl⟩;rw[CJ _ _ (BD _)];simp;have gst:(st++ [List.replicate off PV.junk++Q2 o]).getD st.length []=List.replicate off PV.junk++Q2 o:=(by simp[q_a]);have g2:=q0x off o i oG;have x6:IntKind.i64.wrap ((i:Int)+1)=((i+1:Nat):Int):=(by rw[show((i:Int)+1)=((i+1:Nat):Int) from rfl,Qn _ oG]);simp-dsimp only[go_sem,g2,gst];rw[r0];refine⟨⟨oG,oG⟩,oG,?_⟩;refine(HS (o.getD i 0).toNat 0 c _ (BT _) (by decide) hc).mono ?_;rintro r st' ⟨z,c',hc',hz,rfl,rfl⟩;have o1:=q0w off o i z oG;have hs:=qX o i z c c' 0 _ _ oG hz hv;have sst:(st++ [List.replicate off PV.junk++Q2 o]).set st.length (List.replicate off PV.junk++Q2 (o.set i z))=st++ [List.replicate off PV.junk++Q2 (o.set i z)]:=(by rw[CJ _ _ (BD _)];simp);simp-dsimp only[go_sem,gst,o1,sst,x6];rw[r0];exact⟨⟨oG,oG⟩,⟨oG,oG⟩,_,oG,i+1,c',o.set i z,rfl,oG,hc',by rw[BL];exact ho,by simpa using hs,rfl⟩;have hge2:i=A.length:=(oF h);have hc0:c=0:=Y0y o (Qi B) (Qi A) A.length c ho hle (by rw[hv,hge2]);have hN0:Qi o=Qi A-Qi B:=(by rw[hc0,DQ] at hv;omega);have gst:(st++ [List.replicate off PV.junk++Q2 o]).getD st.length []=List.replicate off PV.junk++Q2 o:=(by simp[q_a]);have hct:=q0y off o;rw[ho] at hct;have hle3:off+A.length<=(List.replicate off PV.junk).length+o.length:=(by rw[r0];omega);refine G2s ?_;refine YT st.length 6 (by simp) ?_ ?_ ?_;intro p hp;have hp':p∈List.replicate off PV.junk++Q2 o:=(by rw[<-gst];exact hp);rcases DN.1 hp' with hp' | hp';rw[List.eq_of_mem_replicate hp'];rfl;simp[Q2] at hp';obtain⟨c,_,rfl⟩:=hp';rfl;intro e;have h2:(List.replicate off PV.junk++Q2 o).length=0:=by have e':(st++ [List.replicate off PV.junk++Q2 o]).getD st.length []= []:=e;rw[gst] at e';rw[e'];rfl
 rw[BH,Za] at h2;omega;refine Qa ?_;simp-dsimp only[go_sem,gst,hct,hle3];refine(J6 o _ oG).w ?_;rintro st' rfl;refine G2s ?_;rw[<-Q3 o,hN0];refine⟨bnd _ _,[[]],?_,rfl⟩;rw[CJ _ _ (BD _)];simp
theorem z1i (x:Nm)(st:Qf):PR 123 [.agg (Q9 x)] st (.agg (Q9 { x with neg:= !x.neg })):=by refine Qb none Tryz.func123 rfl fun E=>Qa ?_;exact G2r
def x1l (v:Value)(z:Nat):Bool:=
 match v with
 | .int .u8 n=>n==(z:Int)
 | _=>false
theorem V1l {v:Value}{z:Nat}(h:x1l v z=true):v= .int .u8 z:=by unfold x1l at h;split at h;rename_i n;have e:n=(z:Int):=(by simpa using h);rw[e];cases h
def deb :List Value:=(theTab.getD 0 (0,[])).2
theorem k0p :y0f 0= .ep (deb.map .sc) 0:=(rfl)
theorem z1y :((List.range 64).all fun z=>x1l (deb.getD (2^z*285870213051353865 % 18446744073709551616/2^58) undef) z)=true:=by decide+kernel
theorem qO :deb.length=64:=by decide+kernel
theorem k0q (z:Nat)(hz:z<64):(deb.map PV.sc).getD (2^z*285870213051353865 % 18446744073709551616/2^58) .junk= .sc (.int .u8 z):=by have h:=List.all_eq_true.1 z1y z (by simpa using hz);have h2:=V1l h;have hl:2^z*285870213051353865 % 18446744073709551616/2^58<deb.length:=(by rw[qO];omega);rw[ZB _ _ _ _ undef hl,h2]
theorem K2g (x:Nat)(h0:x≠0)(hx:x<18446744073709551616):IntKind.u64.wrap (0-(x:Int))=((18446744073709551616-x:Nat):Int):=by unfold IntKind.wrap IntKind.signed IntKind.bits;simp;omega
theorem K2f (x:Nat)(h0:x≠0)(hx:x<18446744073709551616):GF .u64 (x:Int) ((18446744073709551616-x:Nat):Int)=((2^tz x:Nat):Int):=by rw[GA _ _ hx oG,X1w x oG hx]
theorem k1q (y:Nat):IntKind.u64.wrap ((y:Int)*285870213051353865)=((y*285870213051353865 % 18446744073709551616:Nat):Int):=by rw[show(285870213051353865:Int)=((285870213051353865:Nat):Int) from rfl,<-CN,Zk]
theorem K2e (y:Nat):Wg .u64 (y:Int) 58=((y/2^58:Nat):Int):=XY _ 58 oG
theorem K2d (y:Nat):y % 18446744073709551616/2^58<64:=oG
theorem W1o (x z y j t:Nat)(T:List PV)(st:Qf)(hx:x<18446744073709551616)(n1:x≠0->IntKind.u64.wrap (0-(x:Int))=((18446744073709551616-x:Nat):Int))(n2:x≠0->GF .u64 (x:Int) ((18446744073709551616-x:Nat):Int)=(z:Int))
 (n3:IntKind.u64.wrap ((z:Int)*285870213051353865)=(y:Int)) (n4:Wg .u64 (y:Int) 58=(j:Int)) (hj:j<64) (ht:y0f 0= .ep T 0) (hl:T.length=64) (hg:T.getD j .junk= .sc (.int .u8 t)) (h6:t<=64):
 PR 178 [.sc (.int .u64 x)] st (.sc (.int .i64 (if x=0 then 64 else t:Nat))):=by
 refine U2m Tryz.func178 fun E=> ?_;refine ck (fun h=> ?_) (fun h=> ?_);have h0:=JU (b:=0) h;refine G2s ?_;rw[BC h0];rfl;have h0:=Vr (b:=0) h;have n1:=n1 h0;have n2:=n2 h0;rw[BA h0];simp-dsimp only[go_sem,PFS.ev,n1,n2,n3,n4,ht,hg,hl];refine⟨⟨oG,hj⟩,oG,?_⟩;rw[Qn _ oG]
theorem k1s (x:Nat)(st:Qf)(hx:x<18446744073709551616):PR 178 [.sc (.int .u64 x)] st (.sc (.int .i64 (if x=0 then 64 else tz x:Nat))):=by by_cases h0:x=0;refine(W1o x 1 285870213051353865 0 0 (deb.map .sc) st hx (fun h=>absurd h0 h) (fun h=>absurd h0 h) (k1q 1) ?_ oG k0p (by rw[BR,qO]) ?_ oG).mono ?_;exact XY 285870213051353865 58 oG;exact k0q 0 oG;rintro r st' ⟨rfl,rfl⟩;rw[BC h0,BC h0];exact⟨rfl,rfl⟩;have hz:=xP x oG hx;exact W1o x (2^tz x) _ _ (tz x) (deb.map .sc) st hx (fun _=>K2g x h0 hx) (fun _=>K2f x h0 hx) (k1q _) (K2e _) (K2d _) k0p (by rw[BR,qO]) (k0q _ hz) oG
theorem zU (a:List UInt64)(st:Qf)(ha:a.length<=1000000000000):PR 150 [.sl .no (Q2 a)] st (.sc (.int .i64 (tz (Qi a):Nat))):=by
 refine U2m Tryz.func150 fun E=> ?_;refine Qd [false,false,false,false,false,true,true,true] 0 0
  (fun m s'=> ∃i,m=a.length-i/\i<=a.length/\Qi (a.take i)=0/\s'=⟨[.junk,.junk,.junk,.junk,.junk,.sl .no (Q2 a),.sc (.int .i64 a.length),.sc (.int .i64 (i:Nat))]++jk 12,[],[],st⟩) a.length ?_ ?_
 refine G2s ?_;exact⟨0,oG,oG,rfl,rfl⟩;rintro m s' ⟨i,rfl,hi,hv,rfl⟩;refine U2n (fun h=> ?_) (fun h=> ?_);have hlt:i<a.length:=(oT h);have g1:=QC a i hlt;have x4:IntKind.i64.wrap ((i:Int)+1)=((i+1:Nat):Int):=(by rw[show((i:Int)+1)=((i+1:Nat):Int) from rfl,Qn _ oG]);have x5:IntKind.i64.wrap (64*(i:Int))=((64*i:Nat):Int):=(by rw[show(64*(i:Int))=((64*i:Nat):Int) from oG,Qn _ oG]);have e2:=Ze a i hlt;simp-dsimp only[go_sem,g1];refine⟨oG,?_⟩;refine ck (fun h=> ?_) (fun h=> ?_);have hne:(a.getD i 0).toNat≠0:=YG (b:=0) h;have hz:=xP (a.getD i 0).toNat oG (BT _);have x6:IntKind.i64.wrap (((64*i:Nat):Int)+((tz (a.getD i 0).toNat:Nat):Int))=((64*i+tz (a.getD i 0).toNat:Nat):Int):=(by rw[<-C7,Qn _ oG]);have ht:=w0z a i hlt hv hne;refine G2s ?_;refine(k1s (a.getD i 0).toNat st (BT _)).q ?_;rw[BA hne];simp-dsimp only[go_sem,x5,x6,ht];have h0:(a.getD i 0).toNat=0:=Vq (b:=0) h;simp-dsimp only[go_sem,x4];refine⟨a.length-(i+1),oG,i+1,rfl,oG,?_,rfl⟩;rw[e2,hv,h0,DQ];have hge:i=a.length:=(oF h);refine G2s ?_;refine U2i ?_;rw[hge,B0] at hv;rw[hv,yx];rfl
theorem wK (a b c:Nat):a/b/c=a/c/b:=by rw[CV,CV,BM]
theorem xu (a o:List UInt64)(k s i:Nat)(w:UInt64)(hs:s<64)(hi:i<o.length)(hv:Qi (o.take i)=Qi (a.drop k)/2^s % 18446744073709551616^i)
 (hw:w.toNat=(a.getD (i+k) 0).toNat/2^s+(a.getD (i+k+1) 0).toNat*2^(64-s) % 18446744073709551616):
 Qi ((o.set i w).take (i+1))=Qi (a.drop k)/2^s % 18446744073709551616^(i+1):=by
 have e1:(o.set i w).take i=o.take i:=(by rw[List.take_set_of_le (BD i)]);rw[Ze _ _ (by rw[BL];exact hi),e1,ZO,BC ⟨rfl,hi⟩,hv,Gd,hw];congr 1;congr 1;have h1:Qi (a.drop k)/2^s/18446744073709551616^i=Qi (a.drop (i+k))/2^s:=by by_cases hle:i+k<=a.length;have:=G2 (a.drop k) i (by rw[DM];omega);rw[wK,this,LJ,EZ k i];have hz:Qi (a.drop (i+k))=0:=Wi _ _ oG;have hlt:=Zu (a.drop k);rw[DM] at hlt;have hlt2:Qi (a.drop k)<18446744073709551616^i:=q_e hlt (BS (by decide) oG);rw[hz,Nat.zero_div,wK,CP hlt2,Nat.zero_div]
 rw[h1,Ve a (i+k),Ve a (i+k+1),qJ _ _ _ _ (BT _) hs]
theorem j0z (a:List UInt64)(o:List UInt64)(n k s m:Nat)(hn:n=64*k+s)(hk:k<a.length)(hm:m=a.length-k)(ho:o.length=m)(hv:Qi (o.take m)=Qi (a.drop k)/2^s % 18446744073709551616^m):XL o=Qp (Qi a/2^n):=by rw[BF oG] at hv;have hlt:=Zu (a.drop k);rw[DM,<-hm] at hlt;have h2:Qi (a.drop k)/2^s<18446744073709551616^m:=D3 (DB _ _) hlt;rw[BJ h2] at hv;rw[<-Q3,hv,hn,B2,<-CV,<-UV,G2 a k oG]
theorem IW (a:List UInt64)(n:Nat)(st:Qf)(ha:a.length<=1000000000000)(hn:n<=100000000000000):PR 151 [.sl .no (Q2 a),.sc (.int .i64 n)] st (.sl .no (Q2 (Qp (Qi a/2^n)))):=by
 refine U2m Tryz.func151 fun E=> ?_;refine(J6 a st oG).q ?_;have la:=Xt a;rw[<-ZM a];generalize XL a=a at*
 have eq:IntKind.i64.wrap ((n:Int).tdiv 64)=((n/64:Nat):Int):=(by rw[show(64:Int)=((64:Nat):Int) from rfl,V8,Qn _ oG]);have er:(n:Int).tmod 64=((n % 64:Nat):Int):=(by rw[show(64:Int)=((64:Nat):Int) from rfl,V7]);have hnk:n=64*(n/64)+n % 64:=oG;have hs':n % 64<64:=oG;have hkb:n/64<=100000000000000:=oG;generalize n/64=k at*
 generalize n % 64=s at*
 simp-dsimp only[go_sem,eq,er];refine ck (fun h=> ?_) (fun h=> ?_);have hle:a.length<=k:=(oT h);refine G2s ?_;have hz:Qi a/2^n=0:=by refine CP (q_e (Zu a) ?_);rw[UV];exact BS (by decide) oG
 rw[hz,Zy];rfl;have hk:k<a.length:=(oF h);have e1:IntKind.i64.wrap ((a.length:Int)-(k:Int))=((a.length-k:Nat):Int):=(by rw[<-Int.ofNat_sub oG,Qn _ oG]);obtain⟨m0,hm0⟩: ∃m0,m0=a.length-k:=⟨_,rfl⟩;rw[<-hm0] at e1;simp-dsimp only[go_sem,e1];refine⟨⟨oG,oG,oG⟩,?_⟩;refine Qd ([true,false,false,false,false,true,true,true]++rF 17++ [true,true]) 1 0
  (fun m s'=> ∃i o,m=m0-i/\i<=m0/\o.length=m0/\Qi (o.take i)=Qi (a.drop k)/2^s % 18446744073709551616^i/\
   s'=⟨[.sl .no (Q2 a),.junk,.junk,.junk,.junk,.sc (.int .i64 k),.sc (.int .i64 s),.ms false 0 0 m0]++jk 17++ [.sc (.int .i64 m0),.sc (.int .i64 (i:Nat))]++jk 39,[Q2 o],[],st⟩) m0 ?_ ?_
 refine G2s ?_;refine⟨0,List.replicate m0 0,oG,oG,by simp,by simp[XF,FV],rfl⟩;rintro m s' ⟨i,o,rfl,hi,ho,hv,rfl⟩;refine U2n (fun h=> ?_) (fun h=> ?_);have hlt:i<m0:=(oT h);have g1:=QC a (i+k) oG;have x1:IntKind.i64.wrap ((i:Int)+(k:Int))=((i+k:Nat):Int):=(by rw[<-C7,Qn _ oG]);have x2:IntKind.i64.wrap (((i+k:Nat):Int)+1)=((i+k+1:Nat):Int):=(by rw[show(((i+k:Nat):Int)+1)=((i+k+1:Nat):Int) from rfl,Qn _ oG]);have x4:IntKind.i64.wrap ((i:Int)+1)=((i+1:Nat):Int):=(by rw[show((i:Int)+1)=((i+1:Nat):Int) from rfl,Qn _ oG]);have x5:decide (0<=(s:Int))=true:=q_h oG;have w0:(a.getD (i+k) 0).toNat/2^s<18446744073709551616:=D3 (DB _ _) (BT _);have s1:Wg .u64 ((a.getD (i+k) 0).toNat:Int) (s:Int)=(((UInt64.ofNat ((a.getD (i+k) 0).toNat/2^s)).toNat:Nat):Int):=(by rw[XY _ _ oG,QS _ w0]);have o1:=X9 o i (UInt64.ofNat ((a.getD (i+k) 0).toNat/2^s)) oG;simp-dsimp only[go_sem,x1,x2,x5,g1,s1,o1];refine⟨⟨oG,oG⟩,⟨oG,oG⟩,⟨oG,oG⟩,?_⟩;refine ck (fun h=> ?_) (fun h=> ?_);have hlt2:i+k+1<a.length:=(oT h);have g3:=QC a (i+k+1) hlt2;have x3:IntKind.i64.wrap (64-(s:Int))=((64-s:Nat):Int):=(by rw[show 64-(s:Int)=((64-s:Nat):Int) from oG,Qn _ oG]);have x6:decide (0<=((64-s:Nat):Int))=true:=q_h oG;have hw:=qJ (a.getD (i+k) 0).toNat (a.getD (i+k+1) 0).toNat 0 s (BT _) hs';have hwl:(a.getD (i+k) 0).toNat/2^s+(a.getD (i+k+1) 0).toNat*2^(64-s) % 18446744073709551616<18446744073709551616:=(by rw[<-hw];exact CG _ (by decide));have s2:xA .u64 ((a.getD (i+k+1) 0).toNat:Int) ((64-s:Nat):Int)=(((a.getD (i+k+1) 0).toNat*2^(64-s) % 18446744073709551616:Nat):Int):=KR _ _ oG;have s3:bOr .u64 ((((UInt64.ofNat ((a.getD (i+k) 0).toNat/2^s)).toNat:Nat):Int)) (((a.getD (i+k+1) 0).toNat*2^(64-s) % 18446744073709551616:Nat):Int)=(((UInt64.ofNat ((a.getD (i+k) 0).toNat/2^s+(a.getD (i+k+1) 0).toNat*2^(64-s) % 18446744073709551616)).toNat:Nat):Int):=(by rw[QS _ w0,qZ _ _ w0 (CG _ (by decide)),K1t _ _ _ (BT _) hs',QS _ hwl]);have g4:=QC (o.set i (UInt64.ofNat ((a.getD (i+k) 0).toNat/2^s))) i (by rw[BL];omega);rw[ZO,BC ⟨rfl,oG⟩] at g4;have o2:=X9 (o.set i (UInt64.ofNat ((a.getD (i+k) 0).toNat/2^s))) i (UInt64.ofNat ((a.getD (i+k) 0).toNat/2^s+(a.getD (i+k+1) 0).toNat*2^(64-s) % 18446744073709551616)) (by rw[BL];omega);rw[EH] at o2;have hst:=xu a o k s i (UInt64.ofNat ((a.getD (i+k) 0).toNat/2^s+(a.getD (i+k+1) 0).toNat*2^(64-s) % 18446744073709551616)) hs' oG hv (QS _ hwl);refine G2s ?_;refine Qm QH 66 (X0p [0,1,2,3,4,5,6,7,8,9,10,11,12,13,14,15,16] .done) (by decide+kernel) (by simp) ?_;simp-dsimp only[go_sem,x1,x2,x3,x4,x6,g3,g4,s2,s3,o2];refine⟨⟨oG,oG⟩,by simp;omega,⟨oG,oG⟩,⟨oG,oG⟩,⟨by simp;omega,by simp;omega⟩,m0-(i+1),oG,i+1,_,rfl,oG,by rw[BL];exact ho,hst,rfl⟩;have hge2:a.length<=i+k+1:=(oF h);have g0:a.getD (i+k+1) 0=0:=KW _ _ _ hge2;have hst:=xu a o k s i (UInt64.ofNat ((a.getD (i+k) 0).toNat/2^s)) hs' oG hv (by rw[g0,QS _ w0];simp);simp-dsimp only[go_sem,x4];exact⟨m0-(i+1),oG,i+1,_,rfl,oG,by rw[BL];exact ho,hst,rfl⟩;have hge:i=m0:=(oF h);rw[hge] at hv;have ht:o.take m0=o:=BF oG;have hle:m0<=o.length:=oG;have hde:=j0z a o n k s m0 hnk hk hm0 ho hv;refine G2s ?_;refine QD 0 ?_ ?_;exact G2r;refine Qa ?_;simp-dsimp only[go_sem,ht,hle];refine(J6 o st oG).q ?_;simp-dsimp only[go_sem,hde]
theorem Q0e (x y x0 x1 y0 y1 w0 t w1 w2 w3:Nat)(hx:x=x0+4294967296*x1)(hy:y=y0+4294967296*y1)(a0:x0<4294967296)(a1:x1<4294967296)(b0:y0<4294967296)(b1:y1<4294967296)
 (h0:w0=x0*y0) (h1:t=x1*y0+w0/4294967296) (h2:w1=t % 4294967296) (h3:w2=t/4294967296) (h4:w3=w1+x0*y1):
 w0<18446744073709551616/\x1*y0<18446744073709551616/\t<18446744073709551616/\x0*y1<18446744073709551616/\w3<18446744073709551616/\x1*y1+w2<18446744073709551616/\x1*y1+w2+w3/4294967296<18446744073709551616/\x1*y1+w2+w3/4294967296=x*y/18446744073709551616:=by
 have p00:x0*y0<=4294967295*4294967295:=DW oG oG;have p10:x1*y0<=4294967295*4294967295:=DW oG oG;have p01:x0*y1<=4294967295*4294967295:=DW oG oG;have p11:x1*y1<=4294967295*4294967295:=DW oG oG;have e:x*y=x0*y0+4294967296*(x1*y0)+4294967296*(x0*y1)+18446744073709551616*(x1*y1):=by rw[hx,hy];grind
 generalize x0*y0=a at*
 generalize x1*y0=b at*
 generalize x0*y1=c at*
 generalize x1*y1=d at*
 rw[e];refine⟨oG,oG,oG,oG,oG,oG,oG,oG⟩
theorem H1x (x y x0 x1 y0 y1 w0 t w1 w2 w3:Nat)(p00 p10 p01 p11 hi lo:Nat)(st:Qf)
 (n1:GF .u64 (x:Int) 4294967295=(x0:Int)) (n2:Wg .u64 (x:Int) 32=(x1:Int)) (n3:GF .u64 (y:Int) 4294967295=(y0:Int)) (n4:Wg .u64 (y:Int) 32=(y1:Int))
 (n5:IntKind.u64.wrap ((x0:Int)*y0)=(w0:Int)) (n6:IntKind.u64.wrap ((x1:Int)*y0)=(p10:Int)) (n7: ∃q:Nat,Wg .u64 (w0:Int) 32=(q:Int)/\IntKind.u64.wrap ((p10:Int)+q)=(t:Int))
 (n8:GF .u64 (t:Int) 4294967295=(w1:Int)) (n9:Wg .u64 (t:Int) 32=(w2:Int)) (n10:IntKind.u64.wrap ((x0:Int)*y1)=(p01:Int)) (n11:IntKind.u64.wrap ((w1:Int)+p01)=(w3:Int))
 (n12:IntKind.u64.wrap ((x1:Int)*y1)=(p11:Int)) (n13: ∃q r:Nat,IntKind.u64.wrap ((p11:Int)+w2)=(q:Int)/\Wg .u64 (w3:Int) 32=(r:Int)/\IntKind.u64.wrap ((q:Int)+r)=(hi:Int)) (n14:IntKind.u64.wrap ((x:Int)*y)=(lo:Int)):
 PR 198 [.sc (.int .u64 x),.sc (.int .u64 y)] st (.tup [.sc (.int .u64 hi),.sc (.int .u64 lo)]):=by
 obtain⟨q1,m1,m2⟩:=n7;obtain⟨q2,q3,m3,m4,m5⟩:=n13;refine Qb none Tryz.func198 rfl fun E=>Qa ?_;simp-dsimp only[go_sem,n1,n2,n3,n4,n5,n6,m1,m2,n8,n9,n10,n11,n12,m3,m4,m5,n14]
theorem GB (x:Nat)(hx:x<18446744073709551616):GF .u64 (x:Int) 4294967295=((x % 4294967296:Nat):Int):=by have h:=GA x 4294967295 hx oG;rw[show(4294967295:Nat)=2^32-1 from rfl,FD] at h;exact h
theorem I2 (x:Nat):Wg .u64 (x:Int) 32=((x/4294967296:Nat):Int):=XY x 32 oG
theorem U5 (a b:Nat)(h:a*b<18446744073709551616):IntKind.u64.wrap ((a:Int)*b)=((a*b:Nat):Int):=by rw[<-CN,Zk,BJ h]
theorem Vc (a b:Nat)(h:a+b<18446744073709551616):IntKind.u64.wrap ((a:Int)+b)=((a+b:Nat):Int):=by rw[<-C7,Zk,BJ h]
theorem ju (x y:Nat)(st:Qf)(hx:x<18446744073709551616)(hy:y<18446744073709551616):PCalls Tryz.prog 198 [.sc (.int .u64 x),.sc (.int .u64 y)] st
 (fun r st'=> ∃(hi lo:UInt64),lo.toNat+18446744073709551616*hi.toNat=x*y/\r= .tup [.sc (.int .u64 hi.toNat),.sc (.int .u64 lo.toNat)]/\st'=st):=by
 obtain⟨h0,h1,h2,h3,h4,h5,h6,h7⟩:=Q0e x y (x % 4294967296) (x/4294967296) (y % 4294967296) (y/4294967296) _ _ _ _ _ oG oG oG oG oG oG rfl rfl rfl rfl rfl;refine(H1x x y (x % 4294967296) (x/4294967296) (y % 4294967296) (y/4294967296) _ _ _ _ _ 0 _ _ _ (x*y/18446744073709551616) (x*y % 18446744073709551616) st (GB x hx) (I2 x) (GB y hy) (I2 y) (U5 _ _ h0) (U5 _ _ h1)
  ⟨_,I2 _,Vc _ _ h2⟩ (GB _ h2) (I2 _) (U5 _ _ h3) (Vc _ _ h4) (U5 _ _ oG) ⟨_,_,Vc _ _ h5,I2 _,?_⟩ (by rw[<-CN,Zk])).mono ?_
 rw[Vc _ _ h6,h7];rintro r st' ⟨rfl,rfl⟩;have hb:x*y/18446744073709551616<18446744073709551616:=(by rw[<-h7];exact h6);refine⟨UInt64.ofNat (x*y/18446744073709551616),UInt64.ofNat (x*y % 18446744073709551616),?_,?_,rfl⟩;rw[QS _ hb,QS _ (CG _ (by decide))];exact FL _ _;rw[QS _ hb,QS _ (CG _ (by decide))]
theorem Z1y (b:List UInt64)(i j x V S:Nat)(hj:j<b.length)(hS:S=V+18446744073709551616^i*(x*Qi (b.take j))):
 S+18446744073709551616^(i+j)*(x*(b.getD j 0).toNat)=V+18446744073709551616^i*(x*Qi (b.take (j+1))):=by
 rw[hS,Ze b j hj,B2];grind
theorem H1w (a b o:List UInt64)(i:Nat)(c:UInt64)(hi:i<a.length)(hn:i+b.length<o.length)(h0:o.getD (i+b.length) 0=0)
 (hv:Qi o+18446744073709551616^(i+b.length)*c.toNat=Qi (a.take i)*Qi b+18446744073709551616^i*((a.getD i 0).toNat*Qi b)):
 Qi (o.set (i+b.length) c)=Qi (a.take (i+1))*Qi b:=by
 have h1:=KG o (i+b.length) c hn;rw[h0,show(0:UInt64).toNat=0 from rfl,DQ,B1] at h1;rw[h1,hv,Ze a i hi,BQ,BW]
theorem yB (x y w c z1 z2 c1 c2 lo hi:Nat)(hx:x<18446744073709551616)(hy:y<18446744073709551616)(hw:w<18446744073709551616)(hc:c<18446744073709551616)
 (h1:lo+18446744073709551616*hi=x*y) (h2:z1+18446744073709551616*c1=lo+w) (h3:z2+18446744073709551616*c2=z1+c):
 hi+c1+c2<18446744073709551616/\z2+18446744073709551616*(hi+c1+c2)=w+x*y+c:=by
 have p:x*y<=18446744073709551615*18446744073709551615:=DW oG oG;generalize x*y=q at*
 omega
set_option maxHeartbeats 4000000 in
theorem Z1w (a b:List UInt64)(st:Qf)(ha:a.length<=1000000000000)(hb:b.length<=1000000000000):PR 185 [.sl .no (Q2 a),.sl .no (Q2 b)] st (.sl .no (Q2 (Qp (Qi a*Qi b)))):=by
 refine U2m Tryz.func185 fun E=> ?_;refine(J6 a st oG).Q ?_;refine(J6 b st oG).Q ?_;have la:=Xt a;have lb:=Xt b;rw[<-ZM a,<-ZM b];generalize XL a=a at*
 generalize XL b=b at*
 have zero:a= []\/b= []->Qp (Qi a*Qi b)= []:=by rintro(rfl | rfl);rw[XF,DC,Zy];rw[XF,DQ,Zy]
 by_cases h0:a.length=0
 . rw[zero (.inl (BZ.1 h0))];have f1:((a.length:Int)==0)=true:=(by rw[h0];rfl);simp-dsimp only[go_sem,f1]
   try rfl
 have f1:((a.length:Int)==0)=false:=CL.2 oG;by_cases h1:b.length=0
 . rw[zero (.inr (BZ.1 h1))];have f2:((b.length:Int)==0)=true:=(by rw[h1];rfl);simp-dsimp only[go_sem,f1,f2]
   try rfl
 have f2:((b.length:Int)==0)=false:=CL.2 oG;obtain⟨m0,hm0⟩: ∃m0,m0=a.length+b.length:=⟨_,rfl⟩;have e1:IntKind.i64.wrap ((a.length:Int)+(b.length:Int))=((m0:Nat):Int):=(by rw[<-C7,Qn _ oG,hm0]);simp-dsimp only[go_sem,f1,f2,e1];refine⟨⟨oG,oG,oG⟩,?_⟩;refine Qd ([false,true,false,false,false,true]++rF 26++ [true,true,true]) 1 0
  (fun m s'=> ∃i o,m=a.length-i/\i<=a.length/\o.length=m0/\Qi o=Qi (a.take i)*Qi b/\(∀q,i+b.length<=q->o.getD q 0=0)/\
   s'=⟨[.junk,.sl .no (Q2 b),.junk,.junk,.junk,.ms false 0 0 m0]++jk 26++ [.sl .no (Q2 a),.sc (.int .i64 a.length),.sc (.int .i64 (i:Nat))]++jk 57,[Q2 o],[],st⟩) a.length ?_ ?_
 refine G2s ?_;refine⟨0,List.replicate m0 0,oG,oG,by simp,by simp[GG,XF],fun q _=>Xq _ _ _,rfl⟩;rintro m s' ⟨i,o,rfl,hi,ho,hv,hz,rfl⟩;refine U2n (fun h=> ?_) (fun h=> ?_);have hlt:i<a.length:=(oT h);have g1:=QC a i hlt;have x4:IntKind.i64.wrap ((i:Int)+1)=((i+1:Nat):Int):=(by rw[show((i:Int)+1)=((i+1:Nat):Int) from rfl,Qn _ oG]);simp-dsimp only[go_sem,g1];refine⟨oG,?_⟩;refine Qd ([false,true,false,false,false,true,true,true,true]++rF 23++ [true,true,true,false,false,false,false,true,true,true]) 1 0
  (fun m s'=> ∃(j:Nat) (o:List UInt64) (c:UInt64),m=b.length-j/\j<=b.length/\o.length=m0/\Qi o+18446744073709551616^(i+j)*c.toNat=Qi (a.take i)*Qi b+18446744073709551616^i*((a.getD i 0).toNat*Qi (b.take j))/\(∀q,i+b.length<=q->o.getD q 0=0)/\
   s'=⟨[.junk,.sl .no (Q2 b),.junk,.junk,.junk,.ms false 0 0 m0,.sc (.int .i64 (i:Nat)),.sc (.int .u64 (a.getD i 0).toNat),.sc (.int .u64 c.toNat)]++jk 23++ [.sl .no (Q2 a),.sc (.int .i64 a.length),.sc (.int .i64 (i:Nat)),.junk,.junk,.junk,.junk,.sl .no (Q2 b),.sc (.int .i64 b.length),.sc (.int .i64 (j:Nat))]++jk 50,[Q2 o],[],st⟩) b.length ?_ ?_
 refine G2s ?_;refine⟨0,o,0,oG,oG,ho,?_,hz,rfl⟩;rw[hv];simp[XF];clear hv hz ho h;clear o;rintro m s' ⟨j,o,c,rfl,hj,ho,hv,hz,rfl⟩;refine U2n (fun h=> ?_) (fun h=> ?_);have hjt:j<b.length:=(oT h);have g2:=QC b j hjt;have g3:=QC o (i+j) oG;have x1:IntKind.i64.wrap ((i:Int)+(j:Int))=((i+j:Nat):Int):=(by rw[<-C7,Qn _ oG]);have x2:IntKind.i64.wrap ((j:Int)+1)=((j+1:Nat):Int):=(by rw[show((j:Int)+1)=((j+1:Nat):Int) from rfl,Qn _ oG]);simp-dsimp only[go_sem,g2];refine⟨oG,?_⟩;refine(ju (a.getD i 0).toNat (b.getD j 0).toNat st (BT _) (BT _)).mono ?_;rintro r st ⟨hw,lw,hlw,rfl,rfl⟩;simp-dsimp only[go_sem,x1,g3];refine⟨⟨oG,oG⟩,oG,?_⟩;refine(J3 lw.toNat (o.getD (i+j) 0).toNat 0 st (BT _) (BT _) (by decide)).mono ?_;rintro r st ⟨z1,c1,hc1,hz1,rfl,rfl⟩;refine G2s ?_;refine(J3 z1.toNat c.toNat 0 st (BT _) (BT _) (by decide)).mono ?_;rintro r st ⟨z2,c2,hc2,hz2,rfl,rfl⟩;have q1:(a.getD i 0).toNat<18446744073709551616:=BT (a.getD i 0);have q2:(b.getD j 0).toNat<18446744073709551616:=BT (b.getD j 0);have q3:(o.getD (i+j) 0).toNat<18446744073709551616:=BT (o.getD (i+j) 0);have q4:c.toNat<18446744073709551616:=BT c;have q5:z1.toNat+18446744073709551616*c1=lw.toNat+(o.getD (i+j) 0).toNat:=(by rw[B1] at hz1;exact hz1);have q6:z2.toNat+18446744073709551616*c2=z1.toNat+c.toNat:=(by rw[B1] at hz2;exact hz2);have t12:=yB (a.getD i 0).toNat (b.getD j 0).toNat (o.getD (i+j) 0).toNat c.toNat z1.toNat z2.toNat c1 c2 lw.toNat hw.toNat q1 q2 q3 q4 hlw q5 q6;have t1:=t12.1;have t2:=t12.2;have w1:=Vc hw.toNat c1 oG;have w2:=Vc (hw.toNat+c1) c2 t1;have w3:((hw.toNat+c1+c2:Nat):Int)=(((UInt64.ofNat (hw.toNat+c1+c2)).toNat:Nat):Int):=(by rw[QS _ t1]);rw[w3] at w2;have o1:=X9 o (i+j) z2 oG;have hs:=Hv o (i+j) z2 c.toNat (hw.toNat+c1+c2) ((a.getD i 0).toNat*(b.getD j 0).toNat) _ oG t2 hv;have hm:=Z1y b i j (a.getD i 0).toNat (Qi (a.take i)*Qi b) _ hjt rfl;simp-dsimp only[go_sem,x1,x2,w1,w2,o1];refine⟨⟨oG,oG⟩,⟨oG,oG⟩,b.length-(j+1),oG,j+1,o.set (i+j) z2,UInt64.ofNat (hw.toNat+c1+c2),rfl,oG,by rw[BL];exact ho,?_,fun q hq=> ?_,rfl⟩;rw[QS _ t1,<-hm,<-hs,<-DK i j 1];rw[ZO,BA oG];exact hz q hq;have hge:j=b.length:=(oF h);have x3:IntKind.i64.wrap ((i:Int)+(b.length:Int))=((i+b.length:Nat):Int):=(by rw[<-C7,Qn _ oG]);have o1:=X9 o (i+b.length) c oG;rw[hge,B0] at hv;have hr:=H1w a b o i c hlt oG (hz _ (BD _)) hv;refine G2s ?_;refine Qa ?_;simp-dsimp only[go_sem,x3,o1];refine⟨⟨oG,oG⟩,⟨oG,oG⟩,?_⟩;refine Qa ?_;simp-dsimp only[go_sem,x4];refine⟨a.length-(i+1),oG,i+1,_,rfl,oG,by rw[BL];exact ho,hr,fun q hq=> ?_,rfl⟩;rw[ZO,BA oG];exact hz q oG;have hge:i=a.length:=(oF h);have ht:o.take m0=o:=BF oG;have hle:m0<=o.length:=oG;rw[hge,B0] at hv;refine G2s ?_;refine QD 0 ?_ ?_;exact G2r;refine Qa ?_;simp-dsimp only[go_sem,ht,hle];refine(J6 o st oG).Q ?_;rw[<-Q3 o,hv]
theorem K1k (x:Nm)(st:Qf)(h1: -1000000000000<=x.exp)(h2:x.exp<=1000000000000):PR 133 [.agg (Q9 x)] st (.agg (Q9 { x with exp:=x.exp-1 })):=by refine Qb none Tryz.func133 rfl fun E=>Qa ?_;have x1:IntKind.i64.wrap (x.exp-1)=x.exp-1:=Qw _ oG oG;simp-dsimp only[go_sem,x1]
theorem qE (a b:Nm)(n k m l:Nat)(st:Qf)(ha:bd n k a)(hb:bd m l b)(h1:n<=100000000000)(h2:m<=100000000000)(h3:k<=100000000000)(h4:l<=100000000000):
 PCalls Tryz.prog 162 [.agg (Q9 a),.agg (Q9 b)] st (fun r st'=> ∃y,bd (n+m) (k+l) y/\qN y=qN a*qN b/\r= .agg (Q9 y)/\st'=st):=by
 obtain⟨a1,a2,a3⟩:=ha;obtain⟨b1,b2,b3⟩:=hb;refine Qb none Tryz.func162 rfl fun E=>Qa ?_;have x1:IntKind.i64.wrap (a.exp+b.exp)=a.exp+b.exp:=Qw _ oG oG;refine G2s ?_;refine Qm QH 21 (X0p [0,1,2,3,4,5,6,7,8,9,10,11,12,13] (.step 14 [1,3,6,8] (.step 15 [] (.step 16 [] (.done))))) (by decide+kernel) (by simp) ?_;simp-dsimp only[go_sem,x1];refine(Z1w a.w b.w _ oG oG).q ?_;simp-dsimp only[go_sem,x1];exact⟨_,q1o a b n k m l ⟨a1,a2,a3⟩ ⟨b1,b2,b3⟩,v1g a b,rfl⟩
theorem Z0a (a b:Nm)(n k:Nat)(st:Qf)(ha:bd n k a)(hb:bd n k b)(h1:n<=10000000000)(h3:k<=10000000000):
 PCalls Tryz.prog 122 [.agg (Q9 a),.agg (Q9 b)] st (fun r st'=> ∃y,bd (n+k+1) k y/\qN y=qN a+qN b/\r= .agg (Q9 y)/\st'=st):=by
 refine U2m Tryz.func122 fun E=> ?_;refine(G0 a _ (by have:=ha.1;omega)).Q ?_;refine ck (fun h=> ?_) (fun h=> ?_);have h0:=kB (U0p h);refine G2s ?_;exact⟨b,hb.mono oG oG,by rw[h0];grind,rfl⟩
 . refine G2s ?_;refine(G0 b _ (by have:=hb.1;omega)).Q ?_;refine ck (fun h=> ?_) (fun h=> ?_);have h0:=kB (U0p h);refine G2s ?_;exact⟨a,ha.mono oG oG,by rw[h0];grind,rfl⟩
   . rename_i hsa;obtain⟨Q,hQ⟩: ∃Q,Q=qN a+qN b:=⟨_,rfl⟩;rw[<-hQ];refine G2s ?_;clear h hsa;refine ck (fun h=> ?_) (fun h=> ?_)
     case' refine_1=>
      have hle:b.exp<=a.exp:=oT h
      have hQ':Q=qN b+qN a:=by rw[hQ];grind
      have hB:=ha;have hA:=hb;clear h hQ ha hb;have hQ:=hQ';clear hQ';generalize a=B at*
      generalize b=A at*
     case' refine_2=>
      have hle:a.exp<=b.exp:=oF h
      have hA:=ha;have hB:=hb;clear h ha hb;generalize b=B at*
      generalize a=A at*
     all_goals
      obtain⟨d,hd⟩: ∃d:Nat,B.exp=A.exp+d:=⟨(B.exp-A.exp).toNat,oG⟩;have hd2:d<=2*k:=(by have:=hA.2.1;have:=hB.2.2;omega);have x1:IntKind.i64.wrap (B.exp-A.exp)=((d:Nat):Int):=(by rw[show B.exp-A.exp=(d:Int) from oG,Qn _ oG]);have lA:=hA.1;have lB:=hB.1;have hab: ∀m,m<=Qi A.w+Qi B.w*2^d-> ∀neg,bd (n+k+1) k ⟨neg,A.exp,Qp m⟩:=fun m hm neg=>⟨j0p A B n k d m hA hB hd2 hm,hA.2.1,hA.2.2⟩;have hlW:(Qp (Qi B.w*2^d)).length<=n+k+1:=j0p A B n k d _ hA hB hd2 oG;simp-dsimp only[go_sem,x1];refine(G1c B.w d _ oG oG).q ?_;refine U2n (fun h=> ?_) (fun h=> ?_);have hn:A.neg=B.neg:=(by simpa using h);refine G2s ?_;refine Qm QH 77 (X0p [0,1,2,3,4,5,6] (.step 7 [1,3] (.step 8 [] (.step 9 [] (.done))))) (by decide+kernel) (by simp) ?_;refine G2s ?_;refine(jq A.w _ _ oG oG).q ?_;rw[QA];refine G2s ?_;exact⟨_,hab _ oG A.neg,by rw[z1f A B d hd hn,hQ],rfl⟩;have hn:A.neg≠B.neg:=(by simpa using h);refine G2s ?_;refine(J0o A.w _ _ oG oG).q ?_;rw[QA];by_cases hc:Qi B.w*2^d<=Qi A.w;rw[BA oG,q_h hc];refine G2s ?_;exact⟨_,hab _ oG A.neg,by rw[K1h A B d hd hn hc,hQ],rfl⟩;rw[BC oG,q_g hc];refine G2s ?_;refine(J0o _ A.w _ oG oG).q ?_;rw[QA,BA oG,q_h (show Qi A.w<=Qi B.w*2^d by omega)];refine G2s ?_;exact⟨_,hab _ oG B.neg,by rw[K1g A B d hd hn oG,hQ],rfl⟩
theorem z1g (a b:Nm)(n k:Nat)(st:Qf)(ha:bd n k a)(hb:bd n k b)(h1:n<=10000000000)(h3:k<=10000000000):
 PCalls Tryz.prog 82 [.agg (Q9 a),.agg (Q9 b)] st (fun r st'=> ∃y,bd (n+k+1) k y/\qN y=qN a-qN b/\r= .agg (Q9 y)/\st'=st):=by
 refine U2m Tryz.func82 fun E=> ?_;refine Qm QH 9 (.step 0 [] (.step 1 [] (.step 2 [0] (.step 3 [] (.step 4 [] (.done)))))) (by decide+kernel) (by simp) ?_;refine G2s ?_;refine(z1i b _).Q ?_;refine(Z0a a { b with neg:= !b.neg } n k _ ha hb h1 h3).mono ?_;rintro r st ⟨y,y1,y2,rfl,rfl⟩;refine G2s ?_;exact⟨y,y1,by rw[y2,v1f];grind,rfl⟩
theorem Ga (neg:Bool)(w:List UInt64)(e:Int)(st:Qf)(hw:w.length<=1000000000)(he1: -1000000000000<=e)(he2:e<=1000000000000):PCalls Tryz.prog 116 [.sc (.bool neg),.sl .no (Q2 w),.sc (.int .i64 e)] st
 (fun r st'=>r= .tup [.agg (Q9 (mkX neg w e).1),.sc (.int .i64 (mkX neg w e).2)]/\st'=st):=by
 refine Qb none Tryz.func116 rfl fun E=>Qa ?_;have hb:=XX w;refine G2s ?_;refine(JV w _ oG).Q ?_;refine ck (fun h=> ?_) (fun h=> ?_);have h0:Qi w=0:=by have h1:Zd w=0:=JU (b:=0) h;refine BE fun hne=> ?_;have:=ZK hne;unfold Zd at h1;omega
 refine G2s ?_;rw[X1f h0];rfl;have h0:Qi w≠0:=fun e=>Vr (b:=0) h (by unfold Zd;rw[e,Zv]);have ht:=Wj (Qi w) h0;have ht2:tz (Qi w)<=64000000000:=(by unfold Zd at hb;omega);have x1:IntKind.i64.wrap (-65536-((tz (Qi w):Nat):Int))= -65536-((tz (Qi w):Nat):Int):=Qw _ oG oG;have x2:IntKind.i64.wrap (e+((tz (Qi w):Nat):Int))=e+((tz (Qi w):Nat):Int):=Qw _ oG oG;refine G2s ?_;refine(zU w _ oG).q ?_;by_cases c1:65536<e;have f1:decide (e>65536)=true:=q_h c1;simp-dsimp only[go_sem,f1];rw[z0l h0 (.inl c1)];rfl;have f1:decide (e>65536)=false:=q_g c1;by_cases c2:e< -65536-((tz (Qi w):Nat):Int);have f2:decide (e< -65536-((tz (Qi w):Nat):Int))=true:=q_h c2;simp-dsimp only[go_sem,f1,x1,f2];rw[z0l h0 (.inr c2)];rfl;have f2:decide (e< -65536-((tz (Qi w):Nat):Int))=false:=q_g c2;simp-dsimp only[go_sem,f1,x1,f2,x2];refine(IW w (tz (Qi w)) _ oG oG).q ?_;simp-dsimp only[go_sem,x2];have hlen:(Qp (Qi w/2^tz (Qi w))).length<=w.length:=by have h1:=Ji (DB (Qi w) (2^tz (Qi w)));rw[Q3] at h1;have:=Xt w;omega
 refine(Zh ⟨neg,e+((tz (Qi w):Nat):Int),Qp (Qi w/2^tz (Qi w))⟩ _ (by simp only;omega)).q ?_;rw[X1g h0];refine U2n (fun h=> ?_) (fun h=> ?_);have hr:Qg ⟨neg,e+((tz (Qi w):Nat):Int),Qp (Qi w/2^tz (Qi w))⟩=false:=(by simpa using h);refine G2s ?_;rw[BA (by rw[hr];simp)];rfl;have hr:Qg ⟨neg,e+((tz (Qi w):Nat):Int),Qp (Qi w/2^tz (Qi w))⟩=true:=(by simpa using h);refine G2s ?_;rw[BC hr]
theorem Y1g (x:Nm)(st:Qf)(hw:x.w.length<=1000000000)(he1: -1000000000000<=x.exp)(he2:x.exp<=1000000000000):PCalls Tryz.prog 121 [.agg (Q9 x)] st
 (fun r st'=>r= .tup [.agg (Q9 (Kg (ofX x)).1),.sc (.int .i64 (Kg (ofX x)).2)]/\st'=st):=by
 refine U2m Tryz.func121 fun E=> ?_;refine(Ga x.neg x.w x.exp _ hw he1 he2).q ?_;rw[Q0g];exact G2r
theorem z0a (g:FuncId)(k:Nat)(a b:Nm)(st:Qf)(hc:Qc Tryz.prog g=true)(ha:wN a)(hb:wN b)
 (h:Qg a=true->Qg b=true-> ∀st,PCalls Tryz.prog g [.agg (Q9 a),.agg (Q9 b)] st (fun r st'=> ∃y,bd 1000000 1000000 y/\qN y=exQ k (qN a) (qN b)/\r= .agg (Q9 y)/\st'=st)):
 PR 81 [.agg (Q9 a),.agg (Q9 b),.fn (.func g) [] []] st (.tup [.agg (Q9 (V0s k a b).1),.sc (.int .i64 (V0s k a b).2)]):=by
 unfold wN at ha hb;refine U2m Tryz.func81 fun E=> ?_;refine(Zh a _ oG).q ?_;cases r1:Qg a with
 | false=>
  refine G2s ?_;rw[V0s,BA (by rw[r1];simp)];rfl
 | true=>
  refine G2s ?_;refine(Zh b _ oG).q ?_;cases r2:Qg b with
  | false=>
   refine G2s ?_;rw[V0s,BA (by rw[r2];simp)];rfl
  | true=>
   simp-dsimp only[go_sem,hc];refine(h r1 r2 _).mono ?_;rintro r st ⟨y,y1,y2,rfl,rfl⟩;refine G2s ?_;refine(Y1g y _ (by have:=y1.1;omega) (by have:=y1.2.1;omega) (by have:=y1.2.2;omega)).Q ?_;rw[V0s,BC ⟨r1,r2⟩,UX (WR k (QR r1) (QR r2)) (by rw[YS,QL,QL,y2])]
theorem z1h (a b:Nm)(r1:Qg a=true)(r2:Qg b=true)(st:Qf):PCalls Tryz.prog 122 [.agg (Q9 a),.agg (Q9 b)] st (fun r st'=> ∃y,bd 1000000 1000000 y/\qN y=exQ 0 (qN a) (qN b)/\r= .agg (Q9 y)/\st'=st):=
 (Z0a a b 64 65536 st (Zc r1) (Zc r2) oG oG).mono fun r st' ⟨y,h1,h2,h3⟩=>⟨y,h1.mono oG oG,h2,h3⟩
theorem K1j (a b:Nm)(r1:Qg a=true)(r2:Qg b=true)(st:Qf):PCalls Tryz.prog 82 [.agg (Q9 a),.agg (Q9 b)] st (fun r st'=> ∃y,bd 1000000 1000000 y/\qN y=exQ 1 (qN a) (qN b)/\r= .agg (Q9 y)/\st'=st):=
 (z1g a b 64 65536 st (Zc r1) (Zc r2) oG oG).mono fun r st' ⟨y,h1,h2,h3⟩=>⟨y,h1.mono oG oG,h2,h3⟩
theorem V2y (a b:Nm)(r1:Qg a=true)(r2:Qg b=true)(st:Qf):PCalls Tryz.prog 162 [.agg (Q9 a),.agg (Q9 b)] st (fun r st'=> ∃y,bd 1000000 1000000 y/\qN y=exQ 2 (qN a) (qN b)/\r= .agg (Q9 y)/\st'=st):=
 (qE a b 64 65536 64 65536 st (Zc r1) (Zc r2) oG oG oG oG).mono fun r st' ⟨y,h1,h2,h3⟩=>⟨y,h1.mono oG oG,h2,h3⟩
theorem Z1l (a b:Nm)(st:Qf)(ha:wN a)(hb:wN b):PR 33 [.agg (Q9 a),.agg (Q9 b)] st (.tup [.agg (Q9 (V0s 1 a b).1),.sc (.int .i64 (V0s 1 a b).2)]):=by refine U2m Tryz.func33 fun E=> ?_;refine(z0a _ 1 a b _ rfl ha hb (K1j a b)).Q0
theorem H0d {x:Nm}(h:Qg x=true)(hw:x.w≠ [])(k:Int):ofX { x with exp:=x.exp+k } =⟨x.neg,Qi x.w,x.exp+k⟩:=by have h1:=Q0a h;have h0:Qi x.w≠0:=fun e=>hw ((QJ h).1 e);exact UY _ _ _ (by rcases h1 with h1 | h1;exact h1;exact absurd h1 h0)
theorem W0t (x:Nm)(k:Int)(st:Qf)(hx:wN x):PR 189 [.agg (Q9 x),.sc (.int .i64 k)] st (.tup [.agg (Q9 (JN x k).1),.sc (.int .i64 (JN x k).2)]):=by
 unfold wN at hx;refine U2m Tryz.func189 fun E=> ?_;refine(Zh x _ oG).q ?_;cases r1:Qg x with
 | false=>
  refine G2s ?_;rw[JN,BA (by rw[r1];simp)];rfl
 | true=>
  rw[JN,BC r1];refine U2n (fun h=> ?_) (fun h=> ?_);have h0:x.w= []:=BZ.1 (JU (b:=0) h);have hx0:x=default:=by have h2:=r1;unfold Qg at h2;rw[BC h0] at h2;simp at h2;obtain⟨n,e,w⟩:=x;simp at h0 h2;obtain⟨rfl,rfl⟩:=h2;subst h0;rfl
  refine G2s ?_;rw[BC h0,hx0];rfl;have h0:x.w≠ []:=fun e=>(by rw[e] at h;cases h);have hb:=Zc r1;have b2:=hb.2.1;have b3:=hb.2.2;rw[BA h0];by_cases c1:131072<k;have f1:decide (k>131072)=true:=q_h c1;simp-dsimp only[go_sem,f1];rw[BC (.inr c1)];rfl;have f1:decide (k>131072)=false:=q_g c1;by_cases c2:k< -131072;have f2:decide (k< -131072)=true:=q_h c2;simp-dsimp only[go_sem,f1,f2];rw[BC (.inl c2)];rfl;have f2:decide (k< -131072)=false:=q_g c2;have x1:IntKind.i64.wrap (x.exp+k)=x.exp+k:=Qw _ oG oG;simp-dsimp only[go_sem,f1,f2,x1];refine(Y1g { x with exp:=x.exp+k } _ (by have:=hb.1;simp only;omega) (by simp only;omega) (by simp only;omega)).Q ?_;rw[BA oG,H0d r1 h0]
@[go_sem] theorem K2o {d:Option Tmp}{f:Fn}{bs cs:List PV}{pa:List PV}{L st st':Qf}{T:List (Nat×Nat)} :(PFS.mk pa L T st).recv d (.fn f bs cs) st'=(PFS.mk pa L T st').put d (.fn f bs cs):=(rfl)
theorem Xp (p:Int)(st:Qf):PR 50 [.sc (.int .i64 p)] st (.sc (.bool (Q4 p))):=by
 refine Qb none Tryz.func50 rfl fun E=>Qa ?_;unfold Q4;by_cases h:8<=p
 . have f1:decide (p>=8)=true:=q_h h;have f2:decide (8<=p)=true:=q_h h;simp-dsimp only[go_sem,f1,f2]
   try simp
 . have f1:decide (p>=8)=false:=q_g h;have f2:decide (8<=p)=false:=q_g h;simp-dsimp only[go_sem,f1,f2]
   try simp
def Z2v (up:Bool):PV:= .fn (.func 184) [] [.ep [.sc (.bool up)] 0]
theorem Q2b (up:Bool)(st:Qf):PR 161 [.sc (.bool up)] st (Z2v up):=by refine Qb none Tryz.func161 rfl fun E=>Qe (Qa ?_);refine G2s ?_;refine QD 0 ?_ ?_;exact G2r;refine U2i ?_;rfl
theorem x1s (up neg:Bool)(st:Qf):PR 184 ([.sc (.bool neg)]++ [.ep [.sc (.bool up)] 0]) st (.sc (.bool (up !=neg))):=by refine U2m Tryz.func184 fun E=> ?_;cases up<;>cases neg<;>rfl
theorem w0x :Qi [1]=1:=by decide
theorem H0h (x:Nm)(p:Nat)(up:Bool)(st:Qf)(hx:x.w.length<=1000000000)(h1: -1000000000000<=x.exp)(h2:x.exp<=1000000000000)(hp:p<=1000000000):PCalls Tryz.prog 160 [.agg (Q9 x),.sc (.int .i64 p),Z2v up] st
 (fun r st'=>r= .agg (Q9 (W0f x p up))/\st'=st):=by
 refine Qb none Tryz.func160 rfl fun E=>Qa ?_;have hb:=XX x.w;have x1:IntKind.i64.wrap ((Zd x.w:Int)-(p:Int))=(Zd x.w:Int)-(p:Int):=Qw _ oG oG;refine G2s ?_;refine(JV x.w _ oG).q ?_;simp-dsimp only[go_sem,x1];refine ck (fun h=> ?_) (fun h=> ?_);have hle:Zd x.w<=p:=(oT h);refine G2s ?_;rw[W0f,BC hle];have hgt:p<Zd x.w:=(oF h);have x2:(Zd x.w:Int)-(p:Int)=((Zd x.w-p:Nat):Int):=oG;rw[W0f,BA oG];obtain⟨d,hd⟩: ∃d,d=Zd x.w-p:=⟨_,rfl⟩;rw[x2,<-hd];have x3:IntKind.i64.wrap (x.exp+((d:Nat):Int))=x.exp+((d:Nat):Int):=Qw _ oG oG;have hlen:(Qp (Qi x.w/2^d)).length<=x.w.length:=by have h1:=Ji (DB (Qi x.w) (2^d));rw[Q3] at h1;have:=Xt x.w;omega
 refine G2s ?_;refine(IW x.w d _ oG oG).q ?_;unfold Z2v;refine G2s ?_;refine(x1s up x.neg _).q ?_;cases hu:(up !=x.neg) with
 | false=>
  rw[BA (fun h=>by have:=h.2;simp[this] at hu),B1];simp-dsimp only[go_sem,x3]
 | true=>
  have hne:up≠x.neg:=(by simpa using hu);refine G2s ?_;refine(zU x.w _ oG).Q ?_;refine ck (fun h=> ?_) (fun h=> ?_);have hz:tz (Qi x.w)<d:=(oT h);rw[BC ⟨hz,hne⟩];refine G2s ?_;have e1: [PV.sc (.int .u64 1)]=Q2 [1]:=rfl;rw[e1];refine(jq _ [1] _ oG (by simp)).q ?_;rw[QA,w0x];simp-dsimp only[go_sem,x3];have hz: ¬tz (Qi x.w)<d:=(oF h);rw[BA (fun h=>hz h.1),B1];simp-dsimp only[go_sem,x3]
theorem zL (x:Nm)(p:Nat)(up:Bool)(st:Qf)(hx:x.w.length<=1000000000)(h1: -1000000000000<=x.exp)(h2:x.exp<=1000000000000)(hp:p<=1000000000):PCalls Tryz.prog 132 [.agg (Q9 x),.sc (.int .i64 p),.sc (.bool up)] st
 (fun r st'=>r= .agg (Q9 (W0f x p up))/\st'=st):=by
 refine U2m Tryz.func132 fun E=> ?_;refine Qm QH 12 (X0p [0,1,2] (.step 3 [0] (.step 4 [] (.step 5 [] (.done))))) (by decide+kernel) (by simp) ?_;refine G2s ?_;refine(Q2b up _).q ?_;unfold Z2v;refine G2s ?_;refine(H0h x p up _ hx h1 h2 hp).Q0
theorem Yd (x:Nm)(p:Nat)(up:Bool)(st:Qf)(hx:bd 1000000 1000000 x)(hp0:0<p)(hp:p<=1000000000):PCalls Tryz.prog 176 [.agg (Q9 x),.sc (.int .i64 p),.sc (.bool up)] st
 (fun r st'=>r= .tup [.agg (Q9 (Kg (QX (ofX x) p up)).1),.sc (.int .i64 (Kg (QX (ofX x) p up)).2)]/\st'=st):=by
 have b1:=hx.1;have b2:=hx.2.1;have b3:=hx.2.2;refine U2m Tryz.func176 fun E=> ?_;refine(zL x p up _ oG oG oG hp).q ?_;have hy:=H0i x p up _ _ hx;have y1:=hy.1;have y2:=hy.2.1;have y3:=hy.2.2;refine G2s ?_;refine(Ga (W0f x p up).neg (W0f x p up).w (W0f x p up).exp _ oG oG oG).q ?_;rw[Q0g,X0s x p up hp0];exact G2r
theorem Vn {p:Int}(h:Q4 p=true): ∃q:Nat,p=q/\8<=q/\q<=256/\p.toNat=q:=by unfold Q4 at h;simp only[q_i,BN] at h;exact⟨p.toNat,oG,oG,oG,rfl⟩
theorem IA (g:FuncId)(k:Nat)(a b:Nm)(p:Int)(up:Bool)(st:Qf)(hc:Qc Tryz.prog g=true)(ha:wN a)(hb:wN b)
 (h:Qg a=true->Qg b=true-> ∀st,PCalls Tryz.prog g [.agg (Q9 a),.agg (Q9 b)] st (fun r st'=> ∃y,bd 1000000 1000000 y/\qN y=exQ k (qN a) (qN b)/\r= .agg (Q9 y)/\st'=st)):
 PR 175 [.agg (Q9 a),.agg (Q9 b),.sc (.int .i64 p),.sc (.bool up),.fn (.func g) [] []] st (.tup [.agg (Q9 (Qv k a b p up).1),.sc (.int .i64 (Qv k a b p up).2)]):=by
 unfold wN at ha hb;refine U2m Tryz.func175 fun E=> ?_;refine(Zh a _ oG).q ?_;cases r1:Qg a with
 | false=>
  refine G2s ?_;rw[Qv,BA (by rw[r1];simp)];rfl
 | true=>
  refine G2s ?_;refine(Zh b _ oG).q ?_;cases r2:Qg b with
  | false=>
   refine G2s ?_;rw[Qv,BA (by rw[r2];simp)];rfl
  | true=>
   refine G2s ?_;refine(Xp p _).q ?_;cases r3:Q4 p with
   | false=>
    refine G2s ?_;rw[Qv,BA (by rw[r3];simp)];rfl
   | true=>
    obtain⟨q,rfl,q1,q2,q3⟩:=Vn r3;simp-dsimp only[go_sem,hc];refine(h r1 r2 _).mono ?_;rintro r st ⟨y,y1,y2,rfl,rfl⟩;refine G2s ?_;refine(Yd y q up _ y1 oG oG).Q ?_;rw[Qv,BC ⟨r1,r2,r3⟩,UX (WR k (QR r1) (QR r2)) (by rw[YS,QL,QL,y2]),q3]
theorem jc (a b:Nm)(p:Int)(up:Bool)(st:Qf)(ha:wN a)(hb:wN b):PR 142 [.agg (Q9 a),.agg (Q9 b),.sc (.int .i64 p),.sc (.bool up)] st (.tup [.agg (Q9 (Qv 0 a b p up).1),.sc (.int .i64 (Qv 0 a b p up).2)]):=by refine U2m Tryz.func142 fun E=> ?_;refine(IA _ 0 a b p up _ rfl ha hb (z1h a b)).Q0
theorem UP (a b:Nm)(p:Int)(up:Bool)(st:Qf)(ha:wN a)(hb:wN b):PR 141 [.agg (Q9 a),.agg (Q9 b),.sc (.int .i64 p),.sc (.bool up)] st (.tup [.agg (Q9 (Qv 1 a b p up).1),.sc (.int .i64 (Qv 1 a b p up).2)]):=by refine U2m Tryz.func141 fun E=> ?_;refine(IA _ 1 a b p up _ rfl ha hb (K1j a b)).Q0
theorem UQ (a b:Nm)(p:Int)(up:Bool)(st:Qf)(ha:wN a)(hb:wN b):PR 173 [.agg (Q9 a),.agg (Q9 b),.sc (.int .i64 p),.sc (.bool up)] st (.tup [.agg (Q9 (Qv 2 a b p up).1),.sc (.int .i64 (Qv 2 a b p up).2)]):=by refine U2m Tryz.func173 fun E=> ?_;refine(IA _ 2 a b p up _ rfl ha hb (V2y a b)).Q0
end Go.Pv
end
