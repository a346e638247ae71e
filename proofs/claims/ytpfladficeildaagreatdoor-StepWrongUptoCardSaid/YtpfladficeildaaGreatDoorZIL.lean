/- Walk. -/
import Derived.Test.YtpfladficeildaaGreatDoorZIE
import Derived.Test.YtpfladficeildaaGreatDoorZIO
set_option linter.all false
set_option maxHeartbeats 160000000
section
set_option maxRecDepth 100000
namespace Go.Pv
open Go.Proofs
def WP :Nm:=⟨false,1,[1]⟩
theorem H0m {x:Nm}(h:wN x):wQs [[x]]:=⟨by simp,fun i hi=>by
 have:i=0:=by simp at hi;omega
 subst this;exact⟨by simp,fun j hj=>by
  have:j=0:=by simp at hj;omega
  subst this;exact h⟩⟩
theorem Q2x (st:Qc):PR 281 [.sl .no (Qu [[Ze]]),.sc (.int .i64 32)] st (.tup [.sl .no (Qu (QW [[Ze]] 32).1),.sc (.int .i64 (QW [[Ze]] 32).2)]):=by have e:QW [[Ze]] 32=([[WP]],0):=(by decide+kernel);have h1:Jc Ze Ze 32 false=(oneN,0):=(by decide+kernel);have h2:Jc oneN Ze 32 false=(WP,0):=(by decide+kernel);rw[e];refine G1v Ze oneN WP 32 st (by decide) (by decide) (by decide) (fun st=> ?_) fun st=> ?_;have:=Ie Ze Ze 32 false st (by decide) (by decide) (by decide) (by decide) (by decide);rwa [h1] at this;have:=Ie oneN Ze 32 false st (by decide) (by decide) (by decide) (by decide) (by decide);rwa [h2] at this
theorem G1l (st:Qc):PR 216 [.sl .no (Qu [[Ze]]),.sc (.int .i64 32)] st (.tup [.sl .no (Qt (Xn [[Ze]] 32).1),.sc (.int .i64 (Xn [[Ze]] 32).2)]):=
 G1m [[Ze]] 32 st (H0m (Q9 (by decide))) (Q2x st) fun _ _=>by have e1:QW [[Ze]] 32=([[WP]],0):=(by decide+kernel);have e2:Z9 [[WP]] [[Ze]] 32=(default,0):=(by decide+kernel);have e3:(Qw 2 (Zm (ofM [[WP]]) 32).1 default 32 true).1=default:=(by decide+kernel);have e4:(Qw 1 oneN default 32 false).1=oneN:=(by decide+kernel);rw[e1];show PCalls _ _ [.sl .no (Qt (ofM [[WP]])),.agg (Qf (Z9 [[WP]] [[Ze]] 32).1),_] _ _;rw[e2];refine G1o (ofM [[WP]]) default 32 [] (by decide+kernel) (by decide) (by decide) ?_;rw[e3,e4];exact Ie default oneN 32 true [] (by decide) (by decide) (by decide) (by decide) (by decide)
theorem z0c (st:Qc):PR 138 [.sl .no (Qt [[⟨QG,QG⟩]]),.sc (.int .i64 32)] st (.tup [.agg (YG (XV [[⟨QG,QG⟩]] 32).1),.sc (.int .i64 (XV [[⟨QG,QG⟩]] 32).2)]):=by have e1:XT [[⟨QG,QG⟩]] 32=([[QG]],0):=(by decide+kernel);have e2:Jq [[QG]] 32=([[Ze]],0):=(by decide+kernel);have rc:Za [[(⟨QG,QG⟩:Ivl)]]=true:=(by decide+kernel);refine q1r _ 32 st (Uz rc) rc fun st=>z0e _ 32 st (Uz rc) (fun st=> ?_) fun st _=> ?_;rw[e1,e2];exact J1m st;rw[e1,e2];exact G1l st
theorem V1i (st:Qc):PR 77 [.agg (ZU k19s.f),.sl .no (Qj [⟨Ze,Ze⟩]),.sl .no (Qt [[⟨QG,QG⟩]]),.sc (.int .i64 32)] st (.tup [.agg (ZU (KN k19s.f [⟨Ze,Ze⟩] [[⟨QG,QG⟩]] 32).1),.sc (.int .i64 (KN k19s.f [⟨Ze,Ze⟩] [[⟨QG,QG⟩]] 32).2)]):=by
 have e1:Zb [[⟨QG,QG⟩]] (ofM k19s.f.a) 32=([[⟨QG,QG⟩]],0):=(by decide+kernel);refine q1v k19s.f _ _ 32 st (jS (by decide+kernel)) (Ih (by decide+kernel)) (Uz (by decide+kernel)) fun st _ _=> ?_;rw[e1];exact z0c st
theorem j0w (t:Sz)(st:Qc)(wp:wPb (Zt default))(wt:wSz t):PR 76 [.agg (Zq (Zt default)),.sl .no (Qj [⟨default,QG⟩]),.agg (KQ t)] st (.tup [.sl .no (Qt (VN (Zt default) [⟨default,QG⟩] t).1),.sc (.int .i64 (VN (Zt default) [⟨default,QG⟩] t).2)]):=by
 have wx:wB [(⟨default,QG⟩:Ivl)]:=je ⟨Q9 XW,Q9 (by decide)⟩;have w0:wI (⟨default,default⟩:Ivl):=⟨Q9 XW,Q9 XW⟩;have wf:wF still:=wp.1;have h:=H0z st [⟨default,QG⟩] [[⟨default,QG⟩,⟨default,default⟩]] 32 ⟨default,default⟩ ⟨default,default⟩ ⟨default,default⟩ wf wx
  ⟨by decide,fun i hi=>by
   have:i=0:=by have:i<1:=hi;omega
   subst this;exact⟨by simp,fun y hy=>by rcases D8.1 hy with rfl | hy;exact⟨Q9 XW,Q9 (by decide)⟩;rw[C0.1 hy];exact w0⟩⟩
  (by decide+kernel) (by decide+kernel) w0 w0 (by decide+kernel) (by decide+kernel)
 have e:Gv (Zt default).fld [⟨default,QG⟩] ((Zt default).order-1) (Zt default).prec=([[[⟨oneN,oneN⟩]],[[⟨default,default⟩]]],0):=(by decide+kernel);refine j0p (Zt default) [⟨default,QG⟩] t st wp wx wt (by decide) (by
  rw[e];exact⟨by decide,fun i hi=>match i,hi with
   | 0,_=>Uz (by decide)
   | 1,_=>Uz (by decide)⟩) ?_
 rw[e];exact h
theorem U1s (st:Qc):PR 11 [.agg (Zq (Zt default)),.agg (Zw k19s)] st (.tup [.agg (UV k19g),.agg (Zw k19t),.sc (.int .i64 0)]):=by
 have wp:=k7 default (by show([]:Lu).length<=_;simp);have ws:wSx k19s:=If (by decide+kernel);have h:=Eh 10 (Zt default) k19s st wp ws (fun _ _ _=>X1n default) fun _ _ _ x t hx ht wx wt ho hi=>by
  have e1:K1 k19s.f (Zt default).prec=([⟨default,QG⟩],0):=(by decide+kernel);have e2:(Kb 11 (Zt default) k19s [⟨default,QG⟩]).1=⟨QG,[⟨default,QG⟩],true⟩:=by
   have h:(Kb 11 (Zt default) k19s [⟨default,QG⟩]).1.h=QG/\(Kb 11 (Zt default) k19s [⟨default,QG⟩]).1.a= [⟨default,QG⟩]/\(Kb 11 (Zt default) k19s [⟨default,QG⟩]).1.first=true:=by decide+kernel
   generalize (Kb 11 (Zt default) k19s [⟨default,QG⟩]).1=y at h⊢;obtain⟨a,b,c⟩:=y;obtain⟨h1,h2,h3⟩:=h;have h1:a=QG:=h1;have h2:b= [⟨default,QG⟩]:=h2;have h3:c=true:=h3;rw[h1,h2,h3]
  have e3:(Wj (Zt default) k19s.f.m ⟨QG,[⟨default,QG⟩],true⟩).1= [⟨Ze,Ze⟩]:=(by decide+kernel);have e4:(VN (Zt default) [⟨default,QG⟩] ⟨QG,[⟨default,QG⟩],true⟩).1= [[⟨QG,QG⟩]]:=(by decide+kernel);rw[e1] at hx ht;subst hx;have ht:t=(Kb 11 (Zt default) k19s [⟨default,QG⟩]).1:=ht;rw[e2] at ht;subst ht;refine j0s (Zt default) k19s _ _ st wp ws wx wt ho hi (j0w _ st wp wt) (j0r _ _ _ st wp ws.2.2.1 wt ho) fun z v hz hv=> ?_;rw[hz,hv,e3,e4];exact V1i st
 rwa [U1t] at h
def Yj (p:Pb)(s:Sx):Int:=if Xo p s=false then 1 else if JX p s=true then 9 else 8
theorem Z0h (p:Pb)(s:Sx)(st:Qc)(wp:wPb p)(ws:wSx s)(he:Xo p s=false\/JX p s=true\/s.idx=p.budget):
 PR 11 [.agg (Zq p),.agg (Zw s)] st (.tup [.agg (UV default),.agg (Zw default),.sc (.int .i64 (Yj p s))]):=by
 have no:Xo p s=true->JX p s=false->s.idx≠p.budget->False:=fun h1 h2 h3=>by rcases he with e | e | e;rw[h1] at e;cases e;rw[h2] at e;cases e;exact h3 e
 have h:=Eh 0 p s st wp ws (fun a b c=>(no a b c).elim) fun a b c=>(no a b c).elim;have e:UF (0+1) p s=Uo (Yj p s):=by unfold UF Yj;split;rfl;split;rfl;rename_i a b;rw[BC (Decidable.byContradiction fun c=>no (by simpa using a) (by simpa using b) c)]
 rw[e] at h;exact h
theorem U1q (st:Qc):PR 4 [] st (.sc (.bool true)):=by have wp:=k7 default (Q9 XW);have c3:=Z0h (Zt default) k19t st wp (If (by decide+kernel)) (.inr (.inl k19d.2.2));rw[show Yj (Zt default) k19t=9 by decide+kernel] at c3;exact U1r st (U1s st) c3
theorem z7 (p:Pb)(s:Sx)(st:Qc)(wp:wPb p)(ws:wSx s):PR 14 [.agg (Zq p),.agg (Zw s)] st (.sc (.bool (Xo p s))):=by
 have hp:=Nu p st wp;obtain⟨wf,wb,w1,w2,w3⟩:=wp;obtain⟨wt,wh,wm⟩:=ws;have wbl:=wb.1;have wml:=wm.1.1;unfold wN at w1 w2 w3 wt wh;have no: ¬Xo p s=true->Xo p s=false:=fun h=>(by simpa using h);have parts:=rightSt_parts (p:=p) (s:=s);refine Qh none Tryz.func14 rfl fun E=>Qe (Qb ?_);refine Qq ?_;refine Qa ?_;refine hp.q ?_;cases q1:Ji p with
 | false=>
  refine Qq ?_;rw[no fun e=>by have:=(parts.1 e).1;rw[q1] at this;cases this]
 | true=>
 by_cases q2:s.idx<0;have d2:decide (s.idx<0)=true:=q_h q2;simp-dsimp only[go_sem,d2];rw[no fun e=>by have:=(parts.1 e).2.1;omega];have d2:decide (s.idx<0)=false:=q_g q2;by_cases q3:s.idx>p.budget;have d3:decide (s.idx>p.budget)=true:=q_h q3;simp-dsimp only[go_sem,d2,d3];rw[no fun e=>by have:=(parts.1 e).2.2.1;omega];have d3:decide (s.idx>p.budget)=false:=q_g q3;simp-dsimp only[go_sem,d2,d3];refine(Jy s.t st oG).q ?_;cases q4:Qg s.t with
 | false=>
  refine Qq ?_;rw[no fun e=>by have:=(parts.1 e).2.2.2.1.1;rw[q4] at this;cases this]
 | true=>
 simp-dsimp only[go_sem,d2,d3];refine(Jy s.h st oG).q ?_;cases q5:Qg s.h with
 | false=>
  refine Qq ?_;rw[no fun e=>by have:=(parts.1 e).2.2.2.2.1.1;rw[q5] at this;cases this]
 | true=>
 simp-dsimp only[go_sem,d2,d3];refine(w0x s.f st wm).q ?_;cases q6:Z4 s.f with
 | false=>
  refine Qq ?_;rw[no fun e=>by have:=(parts.1 e).2.2.2.2.2.1;rw[q6] at this;cases this]
 | true=>
 by_cases q7:s.f.m.length=p.box.length;rotate_left;have d7:((s.f.m.length:Int) !=(p.box.length:Int))=true:=BV.2 oG;simp-dsimp only[go_sem,d2,d3,d7];rw[no fun e=>q7 (parts.1 e).2.2.2.2.2.2];have d7:((s.f.m.length:Int) !=(p.box.length:Int))=false:=(by rw[q7];simp);simp-dsimp only[go_sem,d2,d3,d7];have c1:=WF s.t p.until' st oG oG;refine Qp ?_;cases q8:s.t.neg with
 | true=>
  refine Qq ?_;rw[no fun e=>by have:=(parts.1 e).2.2.2.1.2.1;rw[q8] at this;cases this]
 | false=>
 rw[show Qf s.t= [.sc (.bool false),.sc (.int .i64 s.t.exp),.sl .no (Qo s.t.w)] by rw[<-q8];rfl] at c1;refine Qq ?_;refine c1.q ?_;by_cases q9:Q6 s.t p.until'<=0;rotate_left;have d9:decide (Q6 s.t p.until'<=0)=false:=q_g q9;simp-dsimp only[go_sem,d9];rw[no fun e=>q9 (parts.1 e).2.2.2.1.2.2];have d9:decide (Q6 s.t p.until'<=0)=true:=q_h q9;simp-dsimp only[go_sem,d9];refine(WF p.least s.h st oG oG).q ?_;by_cases q10:Q6 p.least s.h<=0;rotate_left;have d10:decide (Q6 p.least s.h<=0)=false:=q_g q10;simp-dsimp only[go_sem,d9,d10];rw[no fun e=>q10 (parts.1 e).2.2.2.2.1.2.1];have d10:decide (Q6 p.least s.h<=0)=true:=q_h q10;simp-dsimp only[go_sem,d9,d10];refine(WF s.h p.most st oG oG).q ?_;simp-dsimp only[go_sem,d9,d10];refine B4 (fun b=>PV.sc (.bool b)) ?_;rw[E3,parts,BN];exact⟨fun h=>⟨q1,oG,oG,⟨q4,q8,q9⟩,⟨q5,q10,h⟩,q6,q7⟩,fun h=>h.2.2.2.2.1.2.2⟩
theorem Ov (p:Pb)(s:Sx)(st:Qc)(wp:wPb p)(ws:wSx s):PR 18 [.agg (Zq p),.agg (Zw s)] st (.sc (.bool (JX p s))):=by
 have hr:=z7 p s st wp ws;obtain⟨wf,wb,w1,w2,w3⟩:=wp;obtain⟨wt,wh,wm⟩:=ws;unfold wN at w1 wt;refine Ql Tryz.func18 fun E=> ?_;refine hr.q ?_;unfold JX;cases q:Xo p s with
 | false=>simp-dsimp only[go_sem];try rfl
 | true=>
 refine Qq ?_;refine(WF s.t p.until' st oG oG).q ?_;refine Qq ?_;rfl
theorem y0g (p:Pb)(s:Sx)(st:Qc)(wp:wPb p)(ws:wSx s)(he:Xo p s=false\/JX p s=true\/s.idx=p.budget):
 PR 12 [.agg (Zq p),.agg (Zw s)] st (.tup [.agg (UV default),.agg (Zw default),.sc (.int .i64 (Yj p s))]):=by
 have c1:=z7 p s st wp ws;have c2:=Ov p s st wp ws;refine Qh none Tryz.func12 rfl fun E=>Qe (Qb ?_);refine Qq ?_;refine Qa ?_;refine c1.q ?_;unfold Yj;cases q1:Xo p s with
 | false=>
  rw[BC rfl];simp-dsimp only[go_sem]
  try rfl
 | true=>
 rw[BA (by decide)];refine Qq ?_;refine Qa ?_;refine c2.q ?_;cases q2:JX p s with
 | true=>
  rw[BC rfl];simp-dsimp only[go_sem]
  try rfl
 | false=>
 rw[BA (by decide)];have q3:s.idx=p.budget:=by rcases he with e | e | e;rw[q1] at e;cases e;rw[q2] at e;cases e;exact e
 have d3:(s.idx==p.budget)=true:=by rw[q3];exact EF _
 refine Qq ?_;refine Qe (Qb ?_);simp-dsimp only[go_sem,d3]
 try rfl
theorem okPb.easy {n:Nat}{p:Pb}(h:okPb n p):okPb n ⟨p.fld,p.box,p.until',p.most,p.least,p.prec,if (3:Int)<p.order then 3 else p.order,if (6:Int)<p.budget then 6 else p.budget⟩:=by obtain⟨h1,h2,h3,h4,h5,h6,h7,h8,h9,h10,h11,h12,h13,h14⟩:=h;refine⟨h1,h2,h3,h4,h5,h6,h7,h8,h9,h10,?_,?_,?_,?_⟩<;>(dsimp only;split<;>omega)
theorem k1k (l:Lu)(i k:Nat)(st:Qc)(h:atD st k l i)(hi:i<=300000000000):PCalls Tryz.prog 6 [.gp k 0] st
 (fun r st'=> ∃n p j,1<=n/\n<=2/\okPb n p/\wF p.fld/\i<=j/\j<=i+2000/\r= .agg (Zq p)/\st'=st.set k (dk l j)):=by
 refine Qh none Tryz.func6 rfl fun E=>Qe (Qb ?_);refine Qq ?_;refine Qa ?_;refine(Vn l i k 4 st h oG oG oG).w ?_;rintro st' rfl;have k1:=V1 l i (n:=4) oG;generalize nx l i 4=a at k1;have e1:((a:Nat):Int).tdiv 3=((a/3:Nat):Int):=(Int.ofNat_tdiv _ _).symm;have e2:IntKind.i64.wrap ((a/3:Nat):Int)=((a/3:Nat):Int):=QP _ oG;have e3:IntKind.i64.wrap (1+((a/3:Nat):Int))=((1+a/3:Nat):Int):=(by rw[Q2 _ oG oG];omega);simp-dsimp only[go_sem,e1,e2,e3];refine(k1j l (i+1) k (1+a/3) 2 2 _ (h.set (i+1)) oG oG oG oG oG).mono ?_;rintro r st' ⟨f,j1,hf,hj1,hj2,rfl,rfl⟩;have wff:=hf.wF oG oG;simp-dsimp only[go_sem,Xs];refine(k1g l j1 k (1+a/3) f _ (h.set j1) oG oG oG hf).mono ?_;rintro r st' ⟨p,j2,hp,rfl,hj3,hj4,rfl,rfl⟩;simp-dsimp only[go_sem,Xs];refine Qa ?_;refine Qp ?_;exact⟨_,_,j2,oG,oG,hp.easy,wff,oG,oG,rfl,rfl⟩
def ZX :List Bool:= [false,false,true,false,true,false,false,false,true,true]
def Ub (s:Sx)(how:Nat)(p:Pb)(t:Sx)(st:Qc):PFS:=⟨[.junk,.junk,.sc (.int .u8 how),.junk,.lp 0 0,.junk,.junk,.junk,.lp 1 0,.lp 2 0]++jk 207,[Zw s,Zq p,Zw t],[],st⟩
theorem K7 {E:Ent}{s:Sx}{how:Nat}{p:Pb}{t:Sx}{b:Prop}{s':PFS}(st:Qc)(hb:badSt p t b)(hm:(s'.plainBox 2).maskOK ZX 3 0)(e:(s'.plainBox 2).mask ZX 3 0=Ub s how p t st):
 ∃p t st,badSt p t b/\Weak E s' (Ub s how p t st):=⟨p,t,st,hb,(HI 2).trans (e▸Uc hm)⟩
theorem Bb {E:Ent}{s:Sx}{how:Nat}{b:Prop}{s' s2:PFS}(w:Weak E s' s2)(h: ∃p t st,badSt p t b/\Weak E s2 (Ub s how p t st)): ∃p t st,badSt p t b/\Weak E s' (Ub s how p t st):=
 let ⟨p,t,st,h1,h2⟩:=h
 ⟨p,t,st,h1,w.trans h2⟩
theorem j1f (i:Int)(t h x:Nm)(m:Lx)(a:Ly)(r:Li):Zw ⟨i,t,h,⟨m++ [x],a,r⟩⟩= [.sc (.int .i64 i),.sc (.bool t.neg),.sc (.int .i64 t.exp),.sl .no (Qo t.w),.sc (.bool h.neg),.sc (.int .i64 h.exp),.sl .no (Qo h.w),.sl .no (Q5 m++ [.agg (Qf x)]),.sl .no (Qu a),.sl .no (Qj r)]:=by simp[Zw,Q5]
theorem j0n (l:Lu)(s:Sx)(how:Nat)(ws:wSx s)(hhow:how<256):PCalls Tryz.prog 3 [.sl .no (Qo l),.agg (Zw s),.sc (.int .u8 how)] [] (fun r st'=>r= .sc (.bool true)):=by
 have w1:=ws.2.2.1.1;have w2:=ws.2.2.2.1.1;have w3:=ws.2.2.2.2.1;refine Qh none Tryz.func3 rfl fun E=>Qe (Qb ?_);refine Qq ?_;refine Qa ?_;refine(U1q _).w ?_;rintro st rfl;refine Qq ?_;by_cases h1:6<s.f.m.length;have d1:decide ((s.f.m.length:Int)>6)=true:=q_h oG;refine Qe (Qb ?_);simp-dsimp only[go_sem,d1];have d1:decide ((s.f.m.length:Int)>6)=false:=q_g oG;by_cases h2:6<s.f.a.length;have d2:decide ((s.f.a.length:Int)>6)=true:=q_h oG;refine Qe (Qb ?_);simp-dsimp only[go_sem,d1,d2];have d2:decide ((s.f.a.length:Int)>6)=false:=q_g oG;by_cases h3:6<s.f.r.length;have d3:decide ((s.f.r.length:Int)>6)=true:=q_h oG;refine Qe (Qb ?_);simp-dsimp only[go_sem,d1,d2,d3];have d3:decide ((s.f.r.length:Int)>6)=false:=q_g oG;refine Qe (Qb ?_);simp-dsimp only[go_sem,d1,d2,d3];refine Qa ?_;refine(k1i l _).w ?_;rintro st' rfl;refine Qq ?_;refine Qa ?_;refine(k1k l 0 0 [dk l 0] rfl oG).mono ?_;rintro r st' ⟨n,p,j,hn1,hn2,hp,wf,hj1,hj2,rfl,rfl⟩;have wp:=hp.w hn1 oG wf;refine Qq ?_;refine Qa ?_;have r0:PCalls Tryz.prog 7 [.gp 0 0,.agg (Zq p)] [dk l j] (fun r st'=> ∃s i,Yy s=true/\s.f.m.length=n/\j<=i/\i<=j+300/\r= .agg (Zw s)/\st'= [dk l j].set 0 (dk l i)):=
  k1f l j 0 n p [dk l j] rfl oG hn1 oG hp wf
 refine r0.mono ?_;rintro r st' ⟨t,i,ht,htn,hi1,hi2,rfl,rfl⟩;have wt:=If ht;have hf:=(Nq ht).2.2.2.2;obtain⟨z,hz⟩: ∃z,z=how % 14:=⟨_,rfl⟩;have hz14:z<14:=oG;have hq:(how:Int).tmod 14=(z:Int):=(by rw[hz];rfl);have hq2:IntKind.u8.wrap (z:Int)=(z:Int):=(by rw[Bc];omega);refine Qq ?_;have hb:=hp;obtain⟨o1,o2,o3,o4,o5,o6,o7,o8,o9,o10,o11,o12,o13,o14⟩:=hb;have hfp:=Kv hf;have e1:IntKind.i64.wrap (p.budget+1)=p.budget+1:=Q2 _ oG oG;have e2:IntKind.i64.wrap (1+(p.box.length:Int))=((1+n:Nat):Int):=(by rw[o2,Q2 _ oG oG];omega);refine Rp (fun s'=> ∃p' t' st',badSt p' t' (z<=11)/\Weak E s' (Ub s how p' t' st')) ?_ ?_;refine Qe (Qb ?_);simp-dsimp only[go_sem,hq,hq2];refine Xp ?_;refine Qa ?_;refine KH rfl (fun h=> ?_) (fun h0=> ?_);refine Qp ?_;refine K7 [dk l i] (qq wp wt) ?_ ?_;simp-dsimp only[go_sem,ZX];simp-dsimp only[go_sem,ZX];rfl;refine Qa ?_;refine KH rfl (fun h=> ?_) (fun h1=> ?_);refine Qb ?_;simp-dsimp only[go_sem,e1];refine K7 [dk l i] (Q2n wp wt) ?_ ?_;simp-dsimp only[go_sem,ZX];simp-dsimp only[go_sem,ZX];rfl;refine Qa ?_;refine KH rfl (fun h=> ?_) (fun h2=> ?_);refine Qp ?_;refine K7 [dk l i] (Q2i wp wt) ?_ ?_;simp-dsimp only[go_sem,ZX];simp-dsimp only[go_sem,ZX];rfl;refine Qa ?_;refine KH rfl (fun h=> ?_) (fun h3=> ?_);refine Qp ?_;refine(UA p.until' 1 _ wp.2.2.1).Q ?_;refine K7 [dk l i] (Q2h hp wp wt) ?_ ?_;simp-dsimp only[go_sem,ZX];simp-dsimp only[go_sem,ZX];rfl;refine Qa ?_;refine KH rfl (fun h=> ?_) (fun h4=> ?_);refine Qp ?_;refine(UA p.least (-1) _ wp.2.2.2.2).Q ?_;refine K7 [dk l i] (Q2g hp wp wt) ?_ ?_;simp-dsimp only[go_sem,ZX];simp-dsimp only[go_sem,ZX];rfl;refine Qa ?_;refine KH rfl (fun h=> ?_) (fun h5=> ?_);refine Qp ?_;refine(UA p.most 1 _ wp.2.2.2.1).Q ?_;refine K7 [dk l i] (Q2f hp wp wt) ?_ ?_;simp-dsimp only[go_sem,ZX];simp-dsimp only[go_sem,ZX];rfl;refine Qa ?_;refine KH rfl (fun h=> ?_) (fun h6=> ?_);refine Qp ?_;refine K7 [dk l i] (Q2e wp wt) ?_ ?_;simp-dsimp only[go_sem,ZX];simp-dsimp only[go_sem,ZX];rfl;refine Qa ?_;refine KH rfl (fun h=> ?_) (fun h7=> ?_);refine Qp ?_;refine⟨⟨oG,oG⟩,⟨oG,oG⟩,?_⟩;refine K7 [dk l i] (Q2d hp wp wt hf htn) ?_ ?_;simp-dsimp only[go_sem,ZX];simp-dsimp only[go_sem,ZX];unfold Ub;rw[j1f];rfl;refine Qa ?_;refine KH rfl (fun h=> ?_) (fun h8=> ?_);refine Qe (Rk [false,false,false,false,true] ?_);have hr:=hfp.2.2.2.2.1;refine Qq ?_;refine⟨⟨⟨oG,oG⟩,oG⟩,?_⟩;have f1:=K0w t.f.r 0 ⟨⟨false,0,[1]⟩,⟨false,0,[1]⟩⟩ oG 0 (Qm ⟨⟨false,0,[1]⟩,⟨false,0,[1]⟩⟩) (by decide) rfl;have g1:(t.f.r.set 0 ⟨⟨false,0,[1]⟩,⟨false,0,[1]⟩⟩).length=t.f.r.length:=(by simp);refine Q8 217 (Qk [0,1,2,3,4] (.step 5 [2] (.step 6 [] (.step 7 [] (.done))))) ?_;refine Qq ?_;refine(Ki ⟨false,0,[1]⟩ _ (Q9 (by decide))).Q ?_;simp only[Qm,Qf] at f1;refine⟨oG,⟨oG,oG⟩,?_⟩;rw[f1];have c1:=Y0b _ t.f.r.length g1.symm;refine Bb (Bi 3 6 ?_) ?_;exact QA;simp-dsimp only[go_sem,g1,c1];refine K7 [dk l i] (Q2c hp wp wt hf htn) ?_ ?_;simp-dsimp only[go_sem,ZX];simp-dsimp only[go_sem,ZX];rfl;refine Qa ?_;refine KH rfl (fun h=> ?_) (fun h9=> ?_);refine Qe (Rk [false,false,false,false,true] ?_);have hr:=hfp.2.2.2.1;refine Qq ?_;refine⟨⟨⟨oG,oG⟩,oG⟩,?_⟩;refine Qb ?_;simp-dsimp only[go_sem,j1h,WC];refine⟨oG,oG,?_⟩;obtain⟨x,A,hA⟩: ∃x A,t.f.a=x::A:=List.exists_cons_of_length_pos oG;have hAl:t.f.a.length=A.length+1:=(by rw[hA];rfl);rw[show Q4 (Qu t.f.a) 0 [PV.sl .full []]= .sl .full []::Qu A by rw[hA];rfl];have q1:(PV.sl .full []::Qu A).map PV.forget2=Qu ([]::A):=by simp[Qu,PV.forget2,PV.forget1];rfl
 have q2:(Qu ([]::A)).take t.f.a.length=Qu ([]::A):=BF (by rw[WC,hAl];exact BD _);have q3:(Qu ([]::A)).length=t.f.a.length:=(by rw[WC,hAl];rfl);have q4:=Q2b (b:=z<=11) hp wp wt hf htn;rw[show t.f.a.set 0 []= []::A by rw[hA];rfl] at q4;refine Bb (Bj 3 ?_) ?_;refine Qq ?_;exact Io (Hw A);unfold PFS.freeze;simp-dsimp only[go_sem,q1,q2,q3];refine K7 [dk l i] q4 ?_ ?_;simp-dsimp only[go_sem,ZX];simp-dsimp only[go_sem,ZX];rfl;refine Qa ?_;refine KH rfl (fun h=> ?_) (fun h10=> ?_);refine Qb ?_;simp-dsimp only[go_sem,e2];refine(W0j l i 0 (1+n) [dk l i] rfl oG oG oG).mono ?_;rintro r st' ⟨f,i',hf1,hf2,hi3,hi4,rfl,rfl⟩;refine Qq ?_;refine K7 [dk l i'] (Q2m hp wp wt (jS hf1) hf2) ?_ ?_;simp-dsimp only[go_sem,ZX];simp-dsimp only[go_sem,ZX];rfl;refine Qa ?_;refine KH rfl (fun h=> ?_) (fun h11=> ?_);refine Qp ?_;refine K7 [dk l i] (Q2l wp wt) ?_ ?_;simp-dsimp only[go_sem,ZX];simp-dsimp only[go_sem,ZX];rfl;refine Qa ?_;refine KH rfl (fun h=> ?_) (fun h12=> ?_);refine Qp ?_;refine K7 [dk l i] (Q2k hp wp wt (oT h)) ?_ ?_;simp-dsimp only[go_sem,ZX];simp-dsimp only[go_sem,ZX];rfl;refine Qp ?_;refine K7 [dk l i] (Q2j wp wt fun h13=> ?_) ?_ ?_;have g: ∀k:Nat,((z:Int)==(k:Int))=false->z≠k:=fun k h=>(by have:=CL.1 h;omega);have:=g 0 h0;have:=g 1 h1;have:=g 2 h2;have:=g 3 h3;have:=g 4 h4;have:=g 5 h5;have:=g 6 h6;have:=g 7 h7;have:=g 8 h8;have:=g 9 h9;have:=g 10 h10;have:=g 11 h11;omega;simp-dsimp only[go_sem,ZX];simp-dsimp only[go_sem,ZX];rfl;rintro s' ⟨p',t',st',⟨wp',wt',he,hbad⟩,hw⟩;refine J0 hw ?_;have c1:=fun st=>Z0h p' t' st wp' wt' he;have c2:=fun st=>y0g p' t' st wp' wt' he;have hE:decide (z>11)||decide (Yj p' t'=1)=true:=by by_cases h:z<=11;unfold Yj;rw[BC (hbad h)];simp;rw[q_h (by omega:z>11)];rfl
 unfold Ub;generalize Yj p' t'=e at*
 refine Qa ?_;refine(c1 _).Q ?_;refine Qa ?_;refine(c2 _).Q ?_;refine Qe ?_;refine Q8 217 (Qk [0,1,3,4] (.step 2 [3,4] (Qk [5,6,7,8,9,11,12] (.step 10 [0,1,11,12] (.step 13 [0,1] (Qk [14,15,16] .done)))))) ?_;refine Qq ?_;refine(HX p' s _ wp' ws).Q ?_;refine(z7 p' s _ wp' ws).q ?_;simp-dsimp only[go_sem,EF];refine(Ed s t' _ ws wt').q ?_;simp-dsimp only[go_sem,EF];refine(v0d s t' _ ws wt').q ?_;simp-dsimp only[go_sem,EF];refine Qe ?_;refine Q8 217 (Qk [0,1,2,3,5,6] (.step 4 [5,6] (Qk [7,8,9,10,11,12,14,15] (.step 13 [2,3,14,15] (.step 16 [2,3] (Qk [17,18,19,20,21,22,23,24,25,26,27,28,29,30,31,32,33] .done)))))) ?_;refine Qq ?_;refine(HX p' t' _ wp' wt').Q ?_;refine(z7 p' t' _ wp' wt').q ?_;simp-dsimp only[go_sem,EF];refine(zg p' t' _ wp' wt').q ?_;simp-dsimp only[go_sem,EF];refine(Ov p' t' _ wp' wt').q ?_;simp-dsimp only[go_sem,EF,hq,hq2];by_cases hz3:z<=11;have dz:decide ((z:Int)>11)=false:=q_g oG;have he1:e=1:=by rw[q_g (by omega: ¬z>11)] at hE;simpa using hE
 subst he1;simp-dsimp only[go_sem,dz,EF];refine Qb ?_;exact QA;have dz:decide ((z:Int)>11)=true:=q_h oG;simp-dsimp only[go_sem,dz];refine Qb ?_;exact QA
end Go.Pv
end
