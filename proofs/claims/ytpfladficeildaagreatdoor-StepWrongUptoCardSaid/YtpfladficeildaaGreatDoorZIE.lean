/- Walk. -/
import Derived.Test.YtpfladficeildaaGreatDoorZHI
set_option linter.all false
set_option maxHeartbeats 160000000
section
set_option maxRecDepth 100000
namespace Go.Pv
open Go.Proofs
theorem j0p (p:Pb)(x:Li)(t:Sz)(st:Qc)(wp:wPb p)(wx:wB x)(wt:wSz t)(ho:2<=p.order/\p.order<=10)(hw:wCs (Gv p.fld x (p.order-1) p.prec).1)
 (hc:PR 134 [.sl .no (QL p.fld),.sl .no (Qj x),.sc (.int .i64 (p.order-1)),.sc (.int .i64 p.prec)] st (.tup [.sl .no (Xf (Gv p.fld x (p.order-1) p.prec).1),.sc (.int .i64 (Gv p.fld x (p.order-1) p.prec).2)])):
 PR 76 [.agg (Zq p),.sl .no (Qj x),.agg (KQ t)] st (.tup [.sl .no (Qt (VN p x t).1),.sc (.int .i64 (VN p x t).2)]):=by
 obtain⟨wf,wb,w1,w2,w3⟩:=wp;have e1:IntKind.i64.wrap (p.order-1)=p.order-1:=Q2 _ oG oG;unfold VN;generalize Gv p.fld x (p.order-1) p.prec=V at*
 refine Qh none Tryz.func76 rfl fun E=>Qe (Qb ?_);refine Qq ?_;refine Qe (Qb ?_);simp-dsimp only[go_sem,e1];refine hc.Q ?_;refine Qe (Qb ?_);unfold El;by_cases h1:V.2=0;rotate_left
 . have d1:(V.2 !=0)=true:=BV.2 h1;rw[BC h1];simp-dsimp only[go_sem,d1]
   try rfl
 have d1:(V.2 !=0)=false:=by rw[h1];rfl
 rw[BA (fun e=>e h1)];simp-dsimp only[go_sem,d1];refine Qe ?_;refine Q8 34 (Qk [0,1,2,4,5] (.step 3 [5] (Qk [6,7,8,9,10] .done))) ?_;refine Qq ?_;refine(Ki t.h st wt.1).Q ?_;refine(x0r V.1 ⟨t.h,t.h⟩ p.prec st hw ⟨wt.1,wt.1⟩).Q ?_;refine Qb ?_;simp-dsimp only[go_sem]
 try rfl
def VQ (l far:List (List Ivl))(k i:Nat)(j:Nat):List Ivl:=if j<i then l.getD j []++ [(far.getD j []).getD k default] else l.getD j []
theorem v0u (l far:Lj)(k i:Nat): ∀j,KT (VQ l far k i) i (VQ l far k i i++ [(far.getD i []).getD k default]) j=VQ l far k (i+1) j:=fun j=>by unfold KT VQ;by_cases e:j=i;subst e;rw[BC rfl,BA (Nat.lt_irrefl j),BC (Nat.lt_succ_self j)];rw[BA e];by_cases h:j<i;rw[BC h,BC oG];rw[BA h,BA oG]
theorem v0v (l far:Lj)(k n:Nat)(h:l.length=n):(List.range n).map (VQ l far k n)=Wv l far k:=by unfold Wv;rw[h];refine C4 fun i hi=> ?_;unfold VQ;rw[BC (EX.1 hi)]
theorem v0t {l far:Lj}{k n:Nat}(hl:l.length=n)(hn:n<=4)(h1:wXs l)(h2:wXs far)(h3: ∀i,i<n->(l.getD i []).length<=100):wXs (Wv l far k):=by
 refine⟨by unfold Wv;simp;omega,fun i hi=> ?_⟩;have hi':i<l.length:=(by unfold Wv at hi;simpa using hi);have e:(Wv l far k).getD i []=l.getD i []++ [(far.getD i []).getD k default]:=by unfold Wv;simp[q_a,hi']
 rw[e];refine⟨by rw[BH,List.length_singleton];have:=h3 i oG;omega,fun y hy=> ?_⟩;rw[DN,C0] at hy;rcases hy with hy | rfl;exact(h1.2 i hi').2 y hy;by_cases hk:i<far.length/\k<(far.getD i []).length;exact(h2.2 i hk.1).2 _ (QE _ _ _ hk.2);have:(far.getD i []).getD k default=default:=by by_cases h:i<far.length;rw[q_a,C2 (by have: ¬k<(far.getD i []).length:=fun e=>hk ⟨h,e⟩;omega)];rfl;rw[show far.getD i []= [] by rw[q_a,C2 oG];rfl];rfl
 rw[this];exact JA
theorem j0r (p:Pb)(m:Lx)(t:Sz)(st:Qc)(wp:wPb p)(wm:WM m)(wt:wSz t)(ho:2<=p.order/\p.order<=10):
 PR 75 [.agg (Zq p),.sl .no (Q5 m),.agg (KQ t)] st (.tup [.sl .no (Qj (Wj p m t).1),.sc (.int .i64 (Wj p m t).2)]):=by
 obtain⟨wf,wb,w1,w2,w3⟩:=wp;refine zJ (Q:=fun r=>r= .tup [.sl .no (Qj (Wj p m t).1),.sc (.int .i64 (Wj p m t).2)]) ?_;have e1:IntKind.i64.wrap (p.order-1)=p.order-1:=Q2 _ oG oG;have wom:=Ys wm;have hc:=K0o p.fld (ofB m) (p.order-1) p.prec;have hcl:=w9 (f:=p.fld) (x:=ofB m) (order:=p.order-1) (p:=p.prec) wom;have hd:=fun S=>K0n p.fld t.a p.order p.prec S wf wt.2;have hdl:=w9 (f:=p.fld) (x:=t.a) (order:=p.order) (p:=p.prec) wt.2;have hcw:=(K0p p.fld (ofB m) (p.order-1) p.prec wom).1;have hdw:=(K0p p.fld t.a p.order p.prec wt.2).1;unfold Wj;generalize Xr p.fld (ofB m) (p.order-1) p.prec=C at*
 generalize Xr p.fld t.a p.order p.prec=D at*
 refine Qh none Tryz.func75 rfl fun E=>Qe (Qb ?_);refine Qq ?_;refine Qe ?_;refine Q8 75 (Qk [0,1,2,4,5,6,7,8] (.step 3 [1,5,8] (Qk [9,10,11,12,13,14] .done))) ?_;simp-dsimp only[go_sem,e1];refine(Gi m st wm).plain.w ?_;rintro st0 rfl;simp-dsimp only[go_sem,e1];refine(hc _ wf wom).mono ?_;rintro r S ⟨hk,⟨he,rfl⟩ | ⟨he,rfl,S0,id,cap,hO⟩⟩;have d1:(C.2 !=0)=true:=BV.2 he;refine Qq ?_;refine Qe (Qb ?_);simp-dsimp only[go_sem,d1];obtain⟨X,rfl⟩:=hk.app;unfold qc;rw[BC he];exact SeenRet.err rfl;have d1:((0:Int) !=0)=false:=rfl;refine Qq ?_;refine Qe (Qb ?_);simp-dsimp only[go_sem,d1];refine Qa ?_;refine(hd S).q ?_;refine Qq ?_;refine Qe (Qb ?_);by_cases h2:D.2=0;rotate_left;have d2:(D.2 !=0)=true:=BV.2 h2;simp-dsimp only[go_sem,d2];obtain⟨X,rfl⟩:=hk.app;unfold qc;rw[BA (fun e=>e he),BC h2];exact SeenRet.err rfl;have d2:(D.2 !=0)=false:=(by rw[h2];rfl);obtain⟨hC1,hn4,hn0,hC0,hC10,hC2⟩:=hcl he;obtain⟨hD1,_,_,_,_,hD2⟩:=hdl h2;have hrw:=v0t (k:=p.order.toNat) hC1 hn4 hcw hdw fun i hi=>(by rw[hC2 i hi];omega);obtain⟨q,hq⟩:=EE (show 0<=p.order by omega);simp-dsimp only[go_sem,d2];refine Qa ?_;generalize hn:p.fld.length=n at*
 have hfu: ∀i,i<n->(fun _:Nat=>decide (p.order-1=0)) i=(fun _:Nat=>false) i:=fun i hi=>q_g oG;have hO:=hO.ext hfu fun i hi=>(show C.1.getD i []=VQ C.1 D.1 q 0 i by unfold VQ;rw[BA (CD i)]);have hS0: ∀x,x<st0.length->S0.getD x []=st0.getD x []:=fun x hx=>by rw[<-hO.old.2 x (by have:=hO.o.1;omega) oG];exact hk.2 x hx
 have hO1:=hO.o.1;have hkp: ∀S' id cap val,OutI S0 S' st0.length n (fun _=>false) id cap val->Kept st0 S':=fun S' id cap val h=>⟨by have:=h.old.1;omega,fun x hx=>(h.old.2 x oG oG).trans (hS0 x hx)⟩;refine X0 ([false,false,false,true,false,true,false,false,true]++List.replicate 35 false++ [true,true,true]) 2 0
  (fun c s=> ∃(i:Nat) (S:Qc) (id cap:Nat->Nat),c=n-i/\i<=n/\OutI S0 S st0.length n (fun _=>false) id cap (VQ C.1 D.1 q i)/\
   s=⟨[.junk,.junk,.junk,.lp 0 0,.junk,.lp 1 0,.junk,.junk,.ms true st0.length 0 n]++jk 35++ [.sl .no (Qt D.1),.sc (.int .i64 n),.sc (.int .i64 (i:Nat))]++jk 28,[Zq p,KQ t],[],S⟩) n ?_ ?_
 simp-dsimp only[go_sem,hD1];exact⟨0,S,id,cap,oG,oG,hO,rfl⟩;clear hO hk;rintro c s ⟨i,S,id,cap,rfl,hi,hO,rfl⟩;refine Qa ?_;refine Qa ?_;refine ck ?_ ?_<;>intro h;rotate_left;have hge:i=n:=(oF h);subst hge;refine Qq ?_;refine hO.plain 8 rfl fun S' hl' hx'=> ?_;have hkS:=hkp _ _ _ _ hO;have hk':Kept st0 S':=⟨by rw[hl'];exact hkS.1,fun x hx=>(hx' x hx).trans (hkS.2 x hx)⟩;rw[v0v C.1 D.1 q i hC1];have hce:qc p t C D=Yw (Wv C.1 D.1 q) ⟨t.h,t.h⟩ p.prec:=by unfold qc;rw[BA (fun e=>e he),BA (fun e=>e h2),show p.order.toNat=q by omega]
 rw[show p.order.toNat=q by omega] at hrw;refine Qe ?_;refine Q8 75 (Qk [0,1,2,4,5] (.step 3 [5] (Qk [6,7,8,9,10] .done))) ?_;refine Qq ?_;refine(Ki t.h _ wt.1).q ?_;refine Qq ?_;refine(z1a (Wv C.1 D.1 q) ⟨t.h,t.h⟩ p.prec _ hrw ⟨wt.1,wt.1⟩).q ?_;refine Qq ?_;refine Qp ?_;refine SeenRet.plain hk' (zc _ _) ?_;rw[hce];have hlt:i<n:=(oT h);have e4:=J2v i oG;have gD:=Kl D.1 i oG;refine Qq ?_;refine Qe (Xp (Qe (Qb ?_)));simp-dsimp only[go_sem,gD,hD1];refine⟨⟨oG,hlt⟩,?_⟩;obtain⟨o1,o2,o3⟩:=hO.o;have gC:=o3 i hlt;rw[BA Bool.false_ne_true] at gC;have hr:=hO.r i hlt rfl;have hr1:=hr.1;have hv:(VQ C.1 D.1 q i i).length=q:=(by unfold VQ;rw[BA (Nat.lt_irrefl i),hC2 i hlt];omega);have hdl2:(D.1.getD i []).length=q+1:=(by rw[hD2 i hlt];omega);have ht:p.order.toNat=q:=oG;have gI:=Zr (D.1.getD i []) p.order.toNat oG;refine GR (rF 12++ [true]) Qy 75 (.step 0 [] (.step 1 [] (.step 2 [] (.step 3 [] (.step 4 [] (.step 5 [] (.step 6 [] (.step 7 [] (.step 8 [] (.step 9 [] (.step 10 [] (.step 11 [] (.step 12 [8] (.step 13 [] (.step 14 [] (.done)))))))))))))))) (by decide+kernel) (by simp) ?_;simp-dsimp only[go_sem,gC,gI];refine⟨⟨oG,hlt⟩,oG,⟨oG,oG⟩,GrowOK.mk_one rfl (by decide) hr.len oG (by decide) rfl rfl,fun K' cap' S1 hG=> ?_⟩;obtain⟨p1,p2,p3,p4⟩:=J0s (x:=(D.1.getD i []).getD p.order.toNat default) hr hG;have hp:=hO.put hlt p2 (fun q hq hne=>p3 q hq (hne rfl)) p1 (p4.symm.imp (fun e=>oG) fun e=>⟨rfl,e⟩);have hSO:S1.getD st0.length []=S.getD st0.length []:=p3 _ (by have:=hO.old.1;omega) oG;refine⟨⟨oG,hlt⟩,⟨by rw[hSO];omega,by rw[hSO];omega⟩,?_⟩;refine Qb ?_;simp-dsimp only[go_sem,e4];refine⟨n-(i+1),oG,i+1,_,_,_,rfl,oG,hp.ext (fun j hj=> ?_) (fun j hj=> ?_),rfl⟩;unfold KT;split<;>rfl;rw[ht];exact v0u C.1 D.1 q i j
theorem j0s (p:Pb)(s:Sx)(x:Li)(t:Sz)(st:Qc)(wp:wPb p)(ws:wSx s)(wx:wB x)(wt:wSz t)(ho:2<=p.order/\p.order<=10)(hi:0<=s.idx/\s.idx<=4096)
 (c2:PR 76 [.agg (Zq p),.sl .no (Qj x),.agg (KQ t)] st (.tup [.sl .no (Qt (VN p x t).1),.sc (.int .i64 (VN p x t).2)]))
 (c1:PR 75 [.agg (Zq p),.sl .no (Q5 s.f.m),.agg (KQ t)] st (.tup [.sl .no (Qj (Wj p s.f.m t).1),.sc (.int .i64 (Wj p s.f.m t).2)]))
 (hF: ∀z v,z=(Wj p s.f.m t).1->v=(VN p x t).1->PR 77 [.agg (ZU s.f),.sl .no (Qj z),.sl .no (Qt v),.sc (.int .i64 p.prec)] st (.tup [.agg (ZU (KN s.f z v p.prec).1),.sc (.int .i64 (KN s.f z v p.prec).2)])):
 PR 39 [.agg (Zq p),.agg (Zw s),.sl .no (Qj x),.agg (KQ t)] st (.tup [.agg (Zw (Ym p s x t).1),.sc (.int .i64 (Ym p s x t).2)]):=by
 have c5:=j0o p t st wp wt;have c4:=K1w s.t t.h st ws.1 wt.1;have e1:IntKind.i64.wrap (s.idx+1)=s.idx+1:=Q2 _ oG oG;have c3:=hF _ _ rfl rfl;unfold Ym;generalize Wj p s.f.m t=Z at*
 refine Qh none Tryz.func39 rfl fun E=>Qe (Qb ?_);refine Qq ?_;refine Qa ?_;refine c1.q ?_;refine Qq ?_;refine Qe (Qb ?_);unfold y8;by_cases h1:Z.2=0;rotate_left;have d1:(Z.2 !=0)=true:=BV.2 h1;rw[BC h1];simp-dsimp only[go_sem,d1];rfl;have d1:(Z.2 !=0)=false:=(by rw[h1];rfl);rw[BA (fun e=>e h1)];simp-dsimp only[go_sem,d1];refine Qa ?_;generalize VN p x t=V at*
 refine c2.q ?_;refine Qq ?_;refine Qe (Qb ?_);unfold yA;by_cases h2:V.2=0;rotate_left;have d2:(V.2 !=0)=true:=BV.2 h2;rw[BC h2];simp-dsimp only[go_sem,d2];rfl;have d2:(V.2 !=0)=false:=(by rw[h2];rfl);rw[BA (fun e=>e h2)];simp-dsimp only[go_sem,d2];refine Qa ?_;generalize KN s.f Z.1 V.1 p.prec=F at*
 refine c3.q ?_;refine Qq ?_;refine Qe (Qb ?_);unfold yC;by_cases h3:F.2=0;rotate_left;have d3:(F.2 !=0)=true:=BV.2 h3;rw[BC h3];simp-dsimp only[go_sem,d3];rfl;have d3:(F.2 !=0)=false:=(by rw[h3];rfl);rw[BA (fun e=>e h3)];simp-dsimp only[go_sem,d3];refine Qa ?_;generalize XC 0 s.t t.h=T at*
 refine c4.q ?_;refine Qq ?_;refine Qe (Qb ?_);unfold yB;by_cases h4:T.2=0;rotate_left;have d4:(T.2 !=0)=true:=BV.2 h4;rw[BC h4];simp-dsimp only[go_sem,d4];rfl;have d4:(T.2 !=0)=false:=(by rw[h4];rfl);rw[BA (fun e=>e h4)];simp-dsimp only[go_sem,d4];refine Qa ?_;generalize Yr p t=W at*
 refine c5.q ?_;refine Qq ?_;refine Qe (Qb ?_);unfold y9;by_cases h5:W.2=0;rotate_left;have d5:(W.2 !=0)=true:=BV.2 h5;rw[BC h5];simp-dsimp only[go_sem,d5];rfl;have d5:(W.2 !=0)=false:=(by rw[h5];rfl);rw[BA (fun e=>e h5)];simp-dsimp only[go_sem,d5];refine Qb ?_;simp-dsimp only[go_sem,e1]
 try rfl
theorem H0l :wSx default:=⟨Q9 XW,Q9 XW,⟨⟨by simp[default,instInhabitedSx],fun i hi=>absurd hi (CD i)⟩,⟨by simp[default],fun i hi=>absurd hi (CD i)⟩,Kr⟩⟩
theorem Ev (p:Pb)(x:Li)(wx:wB x): ∀(n:Nat) (h:Nm) (b:Bool),wN h->wSz (Ur p x n h b).1
 | 0,_,_,_=>⟨Q9 XW,Kr⟩
 | n+1,h,b,wh=>by rw[Ur];split;exact⟨wh,y1c _ _ _ _ wx⟩;split;exact⟨Q9 XW,Kr⟩;split;exact⟨Q9 XW,Kr⟩;exact Ev p x wx n _ _ (qE h (-1))
theorem k0m (K:Nat)(p:Pb)(s:Sx)(x:Li)(wx:wB x)(ws:wN s.h):wSz (Kb K p s x).1:=by unfold Kb;split;exact⟨Q9 XW,Kr⟩;refine Ev p x wx K _ _ ?_;unfold YE;split;exact ws;exact Q9 (HW 1 p.until' s.t)
theorem Bh (p:Pb)(h:Nm)(wp:wPb p)(wh:wN h):wN (Wr p h):=by unfold Wr;split;exact wp.2.2.2.2;split;exact wp.2.2.2.1;exact wh
theorem G0w (p:Pb)(t:Sz)(wp:wPb p)(wt:wSz t):wN (Yr p t).1:=by unfold Yr;split;split;exact Q9 XW;exact Bh p _ wp (qE t.h 1);exact Bh p _ wp wt.1
theorem y1y (p:Pb)(s:Sx)(x:Li)(t:Sz)(wp:wPb p)(wt:wSz t):wSx (Ym p s x t).1:=by
 unfold Ym y8 yA yC yB y9
 repeat' split
 all_goals first | exact H0l | exact⟨Q9 (HW 0 s.t t.h),G0w p t wp wt,V1k _ _ _ _⟩
theorem Eh (K:Nat)(p:Pb)(s:Sx)(st:Qc)(wp:wPb p)(ws:wSx s)(hK:Xo p s=true->JX p s=false->s.idx≠p.budget->wD p K)
 (hB:Xo p s=true->JX p s=false->s.idx≠p.budget-> ∀x t,x=(K1 s.f p.prec).1->t=(Kb (K+1) p s (K1 s.f p.prec).1).1->wB x->wSz t->(2<=p.order/\p.order<=10)->(0<=s.idx/\s.idx<=4096)->PR 39 [.agg (Zq p),.agg (Zw s),.sl .no (Qj x),.agg (KQ t)] st (.tup [.agg (Zw (Ym p s x t).1),.sc (.int .i64 (Ym p s x t).2)])):
 PR 11 [.agg (Zq p),.agg (Zw s)] st (.tup [.agg (UV (UF (K+1) p s).1),.agg (Zw (UF (K+1) p s).2.1),.sc (.int .i64 (UF (K+1) p s).2.2)]):=by
 have c1:=HX p s st wp ws;have c2:=zg p s st wp ws;have c3:=q1w s.f p.prec st ws.2.2;have wx:=H1h s.f p.prec;refine Qh none Tryz.func11 rfl fun E=>Qe (Qb ?_);refine Qq ?_;refine Qa ?_;refine c1.q ?_;unfold UF;cases q1:Xo p s with
 | false=>
  rw[BC rfl];simp-dsimp only[go_sem]
  try rfl
 | true=>
 rw[BA (by decide)];refine Qq ?_;refine c2.q ?_;cases q2:JX p s with
 | true=>
  rw[BC rfl];simp-dsimp only[go_sem]
  try rfl
 | false=>
 rw[BA (by decide)];by_cases q3:s.idx=p.budget
 . have d3:(s.idx==p.budget)=true:=by rw[q3];exact EF _
   rw[BC q3];simp-dsimp only[go_sem,d3]
   try rfl
 have d3:(s.idx==p.budget)=false:=CL.2 q3;rw[BA q3];simp-dsimp only[go_sem,d3];obtain⟨rp,i0,i1,⟨t1,t2,t3⟩,⟨u1,u2,u3⟩,rf,rl⟩:=rightSt_parts.1 q1;obtain⟨_,_,_,p1,p2,p3,p4,p5,p6,p7,p8,p9,p10,p11⟩:=rightPb_parts.1 rp;refine Qa ?_;have c4:=j0q K p s (K1 s.f p.prec).1 st wp ws wx p3 ((yj p3 XW).1 p5|>fun h=>by rw[Kw] at h;exact h) (by have:=(Gd u1 p2).1 u3;have hK:=hK q1 q2 q3;unfold wD at hK;grind) u1;have wsz:=k0m (K+1) p s (K1 s.f p.prec).1 wx ws.2.1;generalize K1 s.f p.prec=X at*
 refine c3.q ?_;refine Qq ?_;refine Qe (Qb ?_);unfold Z0g;by_cases h1:X.2=0;rotate_left
 . have d1:(X.2 !=0)=true:=BV.2 h1;rw[BC h1];simp-dsimp only[go_sem,d1]
   try rfl
 have d1:(X.2 !=0)=false:=by rw[h1];rfl
 rw[BA (fun e=>e h1)];simp-dsimp only[go_sem,d1];refine Qa ?_;have c5:=hB q1 q2 q3 X.1 (Kb (K+1) p s X.1).1 rfl rfl wx wsz ⟨p8,p9⟩ ⟨i0,oG⟩;have wbh:=y1y p s X.1 (Kb (K+1) p s X.1).1 wp wsz;generalize Kb (K+1) p s X.1=Z at*
 refine c4.q ?_;refine Qq ?_;refine Qe (Qb ?_);unfold Z0f;by_cases h2:Z.2=0;rotate_left
 . have d2:(Z.2 !=0)=true:=BV.2 h2;rw[BC h2];simp-dsimp only[go_sem,d2]
   try rfl
 have d2:(Z.2 !=0)=false:=by rw[h2];rfl
 rw[BA (fun e=>e h2)];simp-dsimp only[go_sem,d2];refine Qa ?_;generalize Ym p s X.1 Z.1=B at*
 refine c5.q ?_;refine Qq ?_;refine Qe (Qb ?_);unfold Z0i;by_cases h3:B.2=0;rotate_left
 . have d3:(B.2 !=0)=true:=BV.2 h3;rw[BC h3];simp-dsimp only[go_sem,d3]
   try rfl
 have d3:(B.2 !=0)=false:=by rw[h3];rfl
 rw[BA (fun e=>e h3)];simp-dsimp only[go_sem,d3];refine Qe ?_;refine Q8 86 (Qk [0,1,2,3,4,5,8,9,12,13,15] (.step 6 [1,3,9,13,15] (.step 7 [] (.step 10 [1,3,13,15] (.step 11 [] (.step 14 [] (.step 16 [15] (.step 17 [] (.step 18 [] (.done)))))))))) ?_;refine Qq ?_;refine(Ki s.t _ ws.1).q ?_;refine Qq ?_;refine(Ki B.1.t _ wbh.1).q ?_;refine Qq ?_;refine Qb ?_;simp-dsimp only[go_sem]
 try rfl
def QG :Nm:=⟨false,0,[1]⟩
def xi :Nm:=⟨false, -4,[1]⟩
def Zt (c:Nm):Pb:=⟨if c.w= [] then [[]] else [[⟨c,[0]⟩]],[⟨default,QG⟩],QG,QG,xi,32,2,5⟩
def k19s :Sx:=⟨0,default,QG,⟨[⟨false, -1,[1]⟩],[[QG]],[⟨⟨true, -1,[1]⟩,⟨false, -1,[1]⟩⟩]⟩⟩
def k19t :Sx:=⟨1,QG,QG,⟨[⟨false, -1,[1]⟩],[[⟨false, -1,[1]⟩]],[⟨⟨true,0,[1]⟩,QG⟩]⟩⟩
def k19g :Sg:=⟨1,1,default,QG,[⟨default,QG⟩]⟩
theorem U1u :Vp (Zt default)=(k19s,0):=by decide+kernel
theorem U1t :UF 11 (Zt default) k19s=(k19g,k19t,0):=by decide+kernel
theorem k19d :Xo (Zt default) k19s=true/\JX (Zt default) k19s=false/\JX (Zt default) k19t=true:=by decide+kernel
theorem X1n (c:Nm):wD (Zt c) 10:=by show qN QG<qN xi*p2 ((10:Nat):Int);have e1:qN QG=1:=(by decide+kernel);have e2:qN xi*p2 ((10:Nat):Int)=64:=(by decide+kernel);rw[e1,e2];decide
theorem Su {c:Nm}{st:Qc}{es:Lp}(ht:Tame (.sl .no es))(he:QL (Zt c).fld= [.sl .no es]):
 SeenRet st (fun r=>r= .agg (Zq (Zt c))) (.agg (.gr st.length 1 1::(Zq (Zt c)).drop 1)) (st++ [[.sl .no es]]):=by
 have hO:(st++ [[PV.sl .no es]]).getD st.length []= [.sl .no es]:=by rw[Zi _ _ _ _ (BD _),DD];rfl
 have hl:st.length<(st++ [[PV.sl .no es]]).length:=(by simp);refine⟨_,.agg (Zq (Zt c)),H0 (st++ [[PV.sl .no es]]).length st.length 1,rfl,.agg rfl fun j hj=> ?_,fun k hk=> ?_,fun k hk=> ?_,rfl,rfl,rfl⟩
 match j,hj with
 | 0,_=>
  show Seen _ _ _ (.sl .no (QL (Zt c).fld));rw[he];refine .ms (sz:=1) (.inr ⟨1,rfl⟩) hl rfl (fun i hi=> ?_) (by rw[Hz hl,BC rfl];exact BD _) fun i j hi hj=> ?_;have:i=0:=oG;subst this;rfl;have:i=0:=oG;subst this;have:j=0:=oG;subst this;rw[hO];exact .same ht
 | 1,_=>exact .same (zc _ _)
 | 2,_=>exact .same (.sc _)
 | 3,_=>exact .same (.sc _)
 | 4,_=>exact .same (zb _ _)
 | 5,_=>exact .same (.sc _)
 | 6,_=>exact .same (.sc _)
 | 7,_=>exact .same (zb _ _)
 | 8,_=>exact .same (.sc _)
 | 9,_=>exact .same (.sc _)
 | 10,_=>exact .same (zb _ _)
 | 11,_=>exact .same (.sc _)
 | 12,_=>exact .same (.sc _)
 | 13,_=>exact .same (.sc _)
 rw[Hz hk];split;rename_i e;rw[e,hO];exact BD 1;omega;rw[Hz (by simp;omega),BA oG]
theorem X1o (c:Nm)(st:Qc)(wc:wN c):PR 19 [.agg (Qf c)] st (.agg (Zq (Zt c))):=by
 have wl:=J9 wc;refine zJ (Q:=fun r=>r= .agg (Zq (Zt c))) ?_;refine Qh none Tryz.func19 rfl fun E=>Qe (Qb ?_);refine Qq ?_;refine Qa ?_;refine Qe (Y0 [true] ?_);refine Qq ?_;refine Qa ?_;by_cases hw:c.w= [];have d1:decide ((c.w.length:Int)>0)=false:=q_g (by rw[hw];decide);simp-dsimp only[go_sem,d1];refine Qp ?_;exact Su (.sl fun e he=>by cases he) (by show QL (if c.w= [] then [[]] else [[⟨c,[0]⟩]])=_;rw[BC hw];rfl);have d1:decide ((c.w.length:Int)>0)=true:=q_h (by have:=EL.2 hw;omega);simp-dsimp only[go_sem,d1];have hO:(st++ [[PV.sl .no []]]).getD st.length []= [.sl .no []]:=(by rw[Zi _ _ _ _ (BD _),DD];rfl);have hset: ∀X:List PV,List.set (st++ [[PV.sl .no []]]) st.length (Q4 ((st++ [[PV.sl .no []]]).getD st.length []) 0 [.sl .no X])=st++ [[.sl .no X]]:=fun X=>by rw[hO,CJ _ _ (BD _),DD];rfl
 refine⟨⟨by rw[hO];exact BD 1,by rw[hO];exact Nat.zero_lt_one⟩,?_⟩;rw[hset];refine Qp ?_;exact Su (.sl fun e he=>by rw[C0.1 he];exact .agg (Dd ⟨c,[0]⟩)) (by show QL (if c.w= [] then [[]] else [[⟨c,[0]⟩]])=_;rw[BA hw];rfl)
theorem k7 (c:Nm)(hc:wN c):wPb (Zt c):=by have w1:wN QG:=Q9 (by decide);refine⟨?_,je ⟨Q9 XW,w1⟩,w1,w1,Q9 (by show Qg xi=true;decide)⟩;show wF (if c.w= [] then [[]] else [[⟨c,[0]⟩]]);split;refine⟨by simp,fun i hi=> ?_⟩;have:i=0:=(by simpa using hi);subst this;exact⟨by simp,fun i hi=>absurd hi (CD i)⟩;refine⟨by simp,fun i hi=> ?_⟩;have:i=0:=(by simpa using hi);subst this;refine⟨by simp,fun i hi=> ?_⟩;have:i=0:=(by simpa using hi);subst this;refine⟨hc,by show([0]:Pq).length<=_;simp,fun i hi=> ?_⟩;have:i=0:=(by simpa using hi);subst this;show -9223372036854775808<=(0:Int)/\(0:Int)<=9223372036854775807;omega
theorem U1r (st:Qc)
 (c2:PR 11 [.agg (Zq (Zt default)),.agg (Zw k19s)] st (.tup [.agg (UV k19g),.agg (Zw k19t),.sc (.int .i64 0)]))
 (c3:PR 11 [.agg (Zq (Zt default)),.agg (Zw k19t)] st (.tup [.agg (UV default),.agg (Zw default),.sc (.int .i64 9)])):PR 4 [] st (.sc (.bool true)):=by
 have wd:wN (default:Nm):=Q9 XW;have w1:wN QG:=Q9 (by decide);have wp:=k7 default wd;have ws:wSx k19s:=If (by decide+kernel);have wt:wSx k19t:=If (by decide+kernel);have c1:=j0t (Zt default) st wp;have c4:=zg (Zt default) k19t st wp wt;have c5:=zg (Zt default) k19s st wp ws;have c6:=HX (Zt default) k19s st wp ws;have c7:=Ed k19s k19s st ws ws;rw[U1u] at c1;rw[k19d.2.2] at c4;rw[k19d.2.1] at c5;rw[k19d.1] at c6;have wb:wB [(⟨default,QG⟩:Ivl)]:=je ⟨wd,w1⟩;refine Qh none Tryz.func4 rfl fun E=>Qe (Qb ?_);refine Qq ?_;refine Qa ?_;refine(X1o default st wd).q ?_;refine Qq ?_;refine Qa ?_;refine c1.q ?_;refine Qq ?_;refine Qa ?_;refine c2.q ?_;refine Qq ?_;refine Qa ?_;refine c3.q ?_;have z1:((0:Int)==0)=true:=rfl;have z2:((9:Int)==9)=true:=rfl;have z3:(k19g.fr==1)=true:=rfl;have z4:(k19g.to==1)=true:=rfl;have z5:(k19t.idx==1)=true:=rfl;refine Qq ?_;refine Qb ?_;simp-dsimp only[go_sem,z1,z2,z3,z4,Yq,Yp,FP,EG,CQ];refine(H1m k19g.t0 st wd).q ?_;rw[show decide (k19g.t0=default)=true by decide];simp-dsimp only[go_sem,z1,z2,z3,z4,z5,Yq,Yp,FP,EG,CQ];refine(WY k19g.t1 QG st (by decide) (by decide)).q ?_;rw[show decide (k19g.t1=QG)=true by decide];simp-dsimp only[go_sem,z1,z2,z3,z4,z5,Yq,Yp,FP,EG,CQ];refine(Mm k19g.box [⟨default,QG⟩] st wb wb).q ?_;rw[show decide (k19g.box= [⟨default,QG⟩])=true by decide];simp-dsimp only[go_sem,z1,z2,z3,z4,z5,Yq,Yp,FP,EG,CQ];refine c4.q ?_;simp-dsimp only[go_sem,z1,z2,z3,z4,z5,Yq,Yp,FP,EG,CQ];refine c5.q ?_;simp-dsimp only[go_sem,z1,z2,z3,z4,z5,Yq,Yp,FP,EG,CQ];refine c6.q ?_;simp-dsimp only[go_sem,z1,z2,z3,z4,z5,Yq,Yp,FP,EG,CQ];refine c7.q ?_;rw[show decide (k19s=k19s)=true by decide];simp-dsimp only[go_sem,z1,z2,z3,z4,z5,Yq,Yp,FP,EG,CQ];refine(WY k19t.h QG st (by decide) (by decide)).q ?_;rw[show decide (k19t.h=QG)=true by decide];simp-dsimp only[go_sem,z1,z2,z3,z4,z5,Yq,Yp,FP,EG,CQ]
end Go.Pv
end
