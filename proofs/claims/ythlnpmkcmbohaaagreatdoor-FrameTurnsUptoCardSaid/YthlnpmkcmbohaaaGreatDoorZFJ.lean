/- Parts of the walk: N149, N150, N151, N152. -/
import Derived.Test.YthlnpmkcmbohaaaGreatDoorZFH
set_option linter.unusedVariables false
set_option linter.unusedSimpArgs false
section
set_option maxRecDepth 100000
namespace Go.Pv
open Go.Proofs
def zp (r a:Mx)(p:Int):Nm×Int:=
 if (XW r a p).2≠0 then(default,(XW r a p).2) else
 if (opM 1 (idM (r.length:Int)) (XW r a p).1 p).2≠0 then(default,(opM 1 (idM (r.length:Int)) (XW r a p).1 p).2) else
 Z1 (opM 1 (idM (r.length:Int)) (XW r a p).1 p).1 p
def H0s (r:Mx)(e:Nm)(p:Int):Nm×Int:=
 if (Qv 1 oneN e p false).2≠0 then(default,(Qv 1 oneN e p false).2) else
 if (Z1 r p).2≠0 then(default,(Z1 r p).2) else
 if (Qv 2 (Z1 r p).1 e p true).2≠0 then(default,(Qv 2 (Z1 r p).1 e p true).2) else
 Jx (Qv 2 (Z1 r p).1 e p true).1 (Qv 1 oneN e p false).1 p true
theorem Q1d {x a:List (List Nm)}{p:Int} :zp (ofM x) (ofM a) p=ZX x a p:=by unfold zp ZX;have:(ofM x).length=x.length:=(by unfold ofM;rw[BR]);rw[this]
theorem G1z {x:List (List Nm)}{e:Nm}{p:Int} :H0s (ofM x) e p=Yf x e p:=rfl
set_option maxHeartbeats 4000000 in
theorem x0o (r a:Mx)(p:Int)(st:Qf)(hr:wM r)(ha:wM a):PCalls Tryz.prog 138 [.sl .no (XE r),.sl .no (XE a),.sc (.int .i64 p)] st (fun res st'=>res= .tup [.agg (Q9 (zp r a p).1),.sc (.int .i64 (zp r a p).2)]/\st'=st):=by
 refine U2m Tryz.func138 fun E=> ?_;refine(jx r a p _ hr ha).w ?_;rintro st' rfl;by_cases h1:(XW r a p).2=0
 . have g1:((XW r a p).2 !=0)=false:=(by simpa using h1);simp-dsimp only[go_sem,g1];refine(qe _ _).w ?_;rintro st' rfl;refine G2s ?_;refine(X1n (idM (r.length:Int)) (XW r a p).1 p _ ?_ ?_).mono ?_;rw[<-H1n];exact q0t (q0r _);exact Q0d _ _ _;rintro res st' ⟨rfl,rfl⟩;by_cases h2:(opM 1 (idM (r.length:Int)) (XW r a p).1 p).2=0
   . have g2:((opM 1 (idM (r.length:Int)) (XW r a p).1 p).2 !=0)=false:=(by simpa using h2);simp-dsimp only[go_sem,g2];refine(vD (opM 1 (idM (r.length:Int)) (XW r a p).1 p).1 p _ ?_).mono ?_;exact v1p _ _ _ _;rintro res st' ⟨rfl,rfl⟩;have hR:zp r a p=Z1 (opM 1 (idM (r.length:Int)) (XW r a p).1 p).1 p:=(by unfold zp;rw[BA (fun h=>h h1),BA (fun h=>h h2)]);rw[hR];simp-dsimp only[go_sem]
     try rfl
   . have g2:((opM 1 (idM (r.length:Int)) (XW r a p).1 p).2 !=0)=true:=(by simpa using h2);have hR:zp r a p=(default,(opM 1 (idM (r.length:Int)) (XW r a p).1 p).2):=(by unfold zp;rw[BA (fun h=>h h1),BC h2]);rw[hR];simp-dsimp only[go_sem,g2]
     try rfl
 . have g1:((XW r a p).2 !=0)=true:=(by simpa using h1);have hR:zp r a p=(default,(XW r a p).2):=(by unfold zp;rw[BC h1]);rw[hR];simp-dsimp only[go_sem,g1]
   try rfl
set_option maxHeartbeats 4000000 in
theorem Q0n (r:Mx)(e:Nm)(p:Int)(st:Qf)(hr:rightM r=true)(he:Qg e=true)(hp:Q4 p=true):PCalls Tryz.prog 140 [.sl .no (XE r),.agg (Q9 e),.sc (.int .i64 p)] st (fun res st'=>res= .tup [.agg (Q9 (H0s r e p).1),.sc (.int .i64 (H0s r e p).2)]/\st'=st):=by
 have wr:=Wp hr;have we:=Qr he;have w1:wN oneN:=Qr Yk;have wd:=Qr (QB 1 oneN e p false);refine Qb none Tryz.func140 rfl fun E=>Qe (Qa ?_);refine G2s ?_;refine Xd [true,false,true,false,true,false,true,false,true,true] 3 0
  (fun s=>s=⟨[.sl .no (XE r),.junk,.sc (.int .i64 p),.junk,.lp 0 0,.junk,.lp 1 0,.junk,.lp 2 0,.sc (.int .i64 (Qv 1 oneN e p false).2)]++jk 39,[Q9 e,[.sc (.bool false),.sc (.int .i64 0),.sl .full []],Q9 (Qv 1 oneN e p false).1],[],st⟩) ?_ ?_
 . refine G2s ?_;refine Qm QH 49 (.step 1 [] (.step 2 [] (.alt (.step 0 [1] (.alt (.step 3 [] (.step 4 [] (.step 5 [] (.step 6 [] (.step 7 [1] (.step 8 [] (.step 9 [] (.done)))))))) (.step 7 [1] (.step 3 [] (.step 4 [] (.step 5 [] (.step 6 [] (.step 8 [] (.step 9 [] (.done)))))))))) (.step 7 [1] (.step 0 [1] (.step 3 [] (.step 4 [] (.step 5 [] (.step 6 [] (.step 8 [] (.step 9 [] (.done)))))))))))) (by decide+kernel) (by simp) ?_;refine G2s ?_;refine And.intro ?_ ?_
   . refine(Vp _).w ?_;rintro st' rfl;refine G2s ?_;refine And.intro ?_ ?_
     all_goals
      refine(UP _ _ p false _ w1 we).w ?_;rintro st' rfl;simp-dsimp only[go_sem]
      try rfl
   . refine(Vp _).w ?_;rintro st' rfl;refine G2s ?_;refine(UP _ _ p false _ w1 we).w ?_;rintro st' rfl;simp-dsimp only[go_sem]
     try rfl
 rintro s rfl;refine Qa ?_;by_cases h1:(Qv 1 oneN e p false).2=0
 . have g1:((Qv 1 oneN e p false).2 !=0)=false:=(by simpa using h1);simp-dsimp only[go_sem,g1];refine(vD r p _ wr).w ?_;rintro st' rfl;by_cases h2:(Z1 r p).2=0
   . have g2:((Z1 r p).2 !=0)=false:=(by simpa using h2);have rn:=(Ym h2).2.2.2.1;have wn:=Qr rn;simp-dsimp only[go_sem,g2];refine(UQ (Z1 r p).1 e p true _ wn we).w ?_;rintro st' rfl;by_cases h3:(Qv 2 (Z1 r p).1 e p true).2=0
     . have g3:((Qv 2 (Z1 r p).1 e p true).2 !=0)=false:=(by simpa using h3);simp-dsimp only[go_sem,g3];refine(kJ _ _ p true _ (QB 2 (Z1 r p).1 e p true) (QB 1 oneN e p false) hp).w ?_;rintro st' rfl;have hR:H0s r e p=Jx (Qv 2 (Z1 r p).1 e p true).1 (Qv 1 oneN e p false).1 p true:=(by unfold H0s;rw[BA (fun h=>h h1),BA (fun h=>h h2),BA (fun h=>h h3)]);rw[hR];simp-dsimp only[go_sem]
       try rfl
     . have g3:((Qv 2 (Z1 r p).1 e p true).2 !=0)=true:=(by simpa using h3);have hR:H0s r e p=(default,(Qv 2 (Z1 r p).1 e p true).2):=(by unfold H0s;rw[BA (fun h=>h h1),BA (fun h=>h h2),BC h3]);rw[hR];simp-dsimp only[go_sem,g3]
       try rfl
   . have g2:((Z1 r p).2 !=0)=true:=(by simpa using h2);have hR:H0s r e p=(default,(Z1 r p).2):=(by unfold H0s;rw[BA (fun h=>h h1),BC h2]);rw[hR];simp-dsimp only[go_sem,g2]
     try rfl
 . have g1:((Qv 1 oneN e p false).2 !=0)=true:=(by simpa using h1);have hR:H0s r e p=(default,(Qv 1 oneN e p false).2):=(by unfold H0s;rw[BC h1]);rw[hR];simp-dsimp only[go_sem,g1]
   try rfl
def ke (x:List Ivl):List PV:=flat (QE x)
theorem w8 (x:List Ivl): ∀i,i<(QE x).length->((QE x).getD i .junk).cells.length=6:=fun i hi=>by rw[WF] at hi;rw[Zl x i hi];rfl
theorem I7 (x:List Ivl):(ke x).length=x.length*6:=by unfold ke;rw[Z5 (w8 x),WF]
def Q2q (st X:Qf)(i:Nat)(x:List Ivl)(out:PV):Prop:=
 (i=0/\out= .sl .full []/\X= [])\/(0<i/\ ∃k cap R,out= .gr k i cap/\st.length<=k/\k<(st++X).length/\(st++X).getD k []=ke x++R/\R.length=(cap-i)*6/\i<=cap)
theorem H0g (x:List Ivl)(a:Ivl):ke (x++ [a])=ke x++ZQ a:=by unfold ke;rw[show QE (x++ [a])=QE x++ [.agg (ZQ a)] by simp[QE],qD];congr 1
set_option maxHeartbeats 4000000 in
theorem V1q (x:List Nm)(st:Qf)(h0:0<x.length)(h4:x.length<=4)(hw:wNs x):
 PCalls Tryz.prog 27 [.sl .no (Qy x)] st (fun r st'=> ∃k cap X,r= .gr k x.length cap/\st'=st++X/\st.length<=k/\RowAt (st++X) k (ke (ofB x))):=by
 obtain⟨hl,hw⟩:=hw;refine Qb none Tryz.func27 rfl fun E=>Qe (Qa ?_);refine G2s ?_;refine U2h ?_;refine U2h ?_;refine QF [false,false,false,true,false,false,true,true,true] 0 0
  (fun m s=> ∃i out X,m=x.length-i/\i<=x.length/\Q2q st X i (ofB (x.take i)) out/\s=⟨[.junk,.junk,.junk,out,.junk,.junk,.sl .no (Qy x),.sc (.int .i64 x.length),.sc (.int .i64 (i:Nat))]++jk 10,[],[],st++X⟩) x.length ?_ ?_
 refine G2s ?_;exact⟨0,.sl .full [],[],oG,oG,.inl ⟨rfl,rfl,rfl⟩,by simp⟩;rintro m s ⟨i,out,X,rfl,hi,hL,rfl⟩;refine U2h ?_;refine U2h ?_;refine ck (fun h=> ?_) (fun h=> ?_);have hlt:i<x.length:=(oT h);have e1:=QG x i hlt;have e3:=Zw i oG;have hwi:=hw i hlt;refine G2s ?_;refine Qe (Zp ?_);refine Qe (Qa ?_);simp-dsimp only[go_sem,e1];refine⟨oG,?_⟩;refine Yg [false,false,false,false,true] ?_;have hst:=J0k x i hlt;rcases hL with ⟨rfl,rfl,rfl⟩ | ⟨hi0,k,cap,R,rfl,hk1,hk2,hk3,hk4,hk5⟩;refine G2s ?_;refine(xd _ _ hwi).w ?_;rintro st' rfl;refine G2s ?_;refine⟨GrowOK.mk_one rfl (by decide) rfl oG oG rfl rfl,fun cap' R hc hR=> ?_⟩;refine Qa ?_;simp-dsimp only[go_sem,e3];refine⟨x.length-(0+1),oG,0+1,_,_,rfl,oG,.inr ⟨oG,st'.length,cap',R,rfl,BD _,by simp,?_,hR,hc⟩,rfl⟩;rw[Ql _ _ _ _ (BD _),DD,hst];rfl;refine G2s ?_;refine(xd _ _ hwi).w ?_;rintro st' rfl;refine G2s ?_;have hlen:(ofB (x.take i)).length=i:=(by unfold ofB;rw[BR,BX];omega);have hrl:=I7 (ofB (x.take i));have hgl:((st++X).getD k []).length=cap*6:=(by rw[hk3,BH,hrl,hlen,hk4,<-BQ];congr 1;omega);refine⟨GrowOK.mk_one rfl (by decide) hgl oG oG rfl rfl,fun k' cap' st' hG=> ?_⟩;obtain⟨R',f1,f2,f3,f4,f5,f6,f7⟩:=GrowTo.facts (es:=QE (ofB (x.take i))) hG hk2 hk3 (by show(ke _).length=_;rw[hrl,hlen]) rfl hk4 hk5;obtain⟨X',rfl⟩:=GrowTo.app hG hk1;refine Qa ?_;simp-dsimp only[go_sem,e3];refine⟨x.length-(i+1),oG,i+1,_,X',rfl,oG,.inr ⟨oG,k',cap',R',rfl,?_,f4,?_,f2,f3⟩,rfl⟩;rcases f5 with rfl | rfl;exact hk1;rw[BH];omega;rw[f1,hst,H0g];rw[BP];rfl;have hge:i=x.length:=(oF h);subst hge;refine G2s ?_;refine Qa ?_;rcases hL with ⟨hz,rfl,rfl⟩ | ⟨hi0,k,cap,R,rfl,h1,h2,h3,_⟩;omega;refine G2s ?_;rw[B0] at h3;exact⟨k,cap,X,rfl,rfl,h1,h2,R,h3⟩
theorem ji {P:Program}{f:FuncId}{args:List PV}{st:Qf}{n:Nat}{rows:List (List PV)}(h0:0<n)
 (h:PCalls P f args st fun r st'=> ∃ids cs X,st'=st++X/\Built st' st.length n n r ids cs rows):
 PCalls P f args st (fun r st'=> ∃A ids X,r= .ms true A 0 n/\st'=st++X/\MatO st' A ids n rows/\st.length<=A/\ ∀i∈ids,st.length<=i):=by
 refine PCalls.unGr h ?_;rintro r st' ⟨ids,cs,X,rfl,hB⟩;obtain⟨A,cap,R,rfl,hA,hAl,hAc,hM,hU⟩:=hB.done h0;refine⟨.ms true A 0 n,_,by rw[BL],rfl,rfl,.gr _ _ _,hU,A,ids,X.set (A-st.length) ((ids.map fun i=>PV.ms true i 0 n)++R),rfl,?_,hM,hA,hB.ge⟩;rw[CJ _ _ hA]
def KB (m:Mx):List (List PV):=m.map ke
theorem H0e (q:List (List Nm)){i:Nat}(h:i<q.length):KB (ofM (q.take (i+1)))=KB (ofM (q.take i))++ [ke (ofB (q.getD i []))]:=by unfold KB ofM;rw[V9 [] q h,E5,E5];rfl
set_option maxHeartbeats 4000000 in
theorem X1o (q:List (List Nm))(st:Qf)(h0:0<q.length)(h4:q.length<=4)(hr: ∀r∈q,r.length=q.length)(hw:wQ q):
 PCalls Tryz.prog 53 [.sl .no (Z8 q)] st (fun r st'=> ∃A ids X,r= .ms true A 0 q.length/\st'=st++X/\MatO st' A ids q.length (KB (ofM q))/\st.length<=A/\ ∀i∈ids,st.length<=i):=by
 refine ji h0 ?_;refine Qb none Tryz.func53 rfl fun E=>Qe (Qa ?_);refine G2s ?_;refine U2h ?_;refine U2h ?_;refine QF [false,false,false,true,false,false,true,true,true] 0 0
  (fun m s=> ∃i out ids cs X,m=q.length-i/\i<=q.length/\Built (st++X) st.length q.length i out ids cs (KB (ofM (q.take i)))/\
   s=⟨[.junk,.junk,.junk,out,.junk,.junk,.sl .no (Z8 q),.sc (.int .i64 q.length),.sc (.int .i64 (i:Nat))]++jk 10,[],[],st++X⟩) q.length ?_ ?_
 refine G2s ?_;refine⟨0,.sl .full [],[],[],[],oG,oG,?_,by simp⟩;rw[B9];exact Built.zero st _;rintro m s ⟨i,out,ids,cs,X,rfl,hi,hB,rfl⟩;refine U2h ?_;refine U2h ?_;refine ck (fun h=> ?_) (fun h=> ?_);have hlt:i<q.length:=(oT h);have e1:=Xh q i hlt;have e3:=Zw i oG;have hri:=hr _ (Qq q i [] hlt);have hst:=H0e q hlt;refine G2s ?_;refine Qe (Zp ?_);refine Qe (Qa ?_);simp-dsimp only[go_sem,e1];refine⟨oG,?_⟩;refine Yg [false,false,false,false,true] ?_;have hc:=V1q (q.getD i []) (st++X) oG oG (hw.2 i hlt);rcases hB.out with ⟨rfl,rfl⟩ | ⟨hi0,A,cap,R,rfl,_⟩;refine G2s ?_;refine hc.mono ?_;rintro res st1 ⟨k,cap',X1,rfl,rfl,hk,hrow⟩;refine G2s ?_;refine⟨GrowOK.mk_one rfl (by decide) rfl oG oG rfl rfl,fun cap2 R2 hc2 hR2=> ?_⟩;refine Qa ?_;simp-dsimp only[go_sem,e3];have hB2:=Built.first hB (Y:=st++X++X1) (c:= .gr k (q.getD 0 []).length cap') (by simp) (by rw[hri];exact .gr _ _ _) hrow hk hc2 (by rw[hR2];omega);obtain⟨X2,hX2⟩: ∃X2,st++X++X1++ [flat [PV.gr k (q.getD 0 []).length cap']++R2]=st++X2:=⟨_,by rw[BP,BP]⟩;rw[hX2] at hB2⊢;rw[<-hst] at hB2;refine⟨q.length-(0+1),oG,0+1,_,_,_,X2,rfl,oG,hB2,?_⟩;rw[show(st++X++X1).length=st.length+X.length+X1.length by simp;omega];refine G2s ?_;refine hc.mono ?_;rintro res st1 ⟨k,cap',X1,rfl,rfl,hk,hrow⟩;refine G2s ?_;obtain⟨b1,b2,b3⟩:=hB.at hi0;have gA:(st++X++X1).getD A []=(st++X).getD A []:=Qk _ _ _ _ b2;refine⟨GrowOK.mk_one rfl (by decide) (by rw[gA,b3];omega) oG oG rfl rfl,fun A' cap2 st' hG=> ?_⟩;refine Qa ?_;simp-dsimp only[go_sem,e3];have hB2:=Built.grow hB hi0 (Y:=st++X++X1) (c:= .gr k (q.getD i []).length cap') (by simp) (fun x hx=>Qk _ _ _ _ hx) (by rw[hri];exact .gr _ _ _) hrow hk hG;obtain⟨X2,rfl⟩: ∃X2,st'=st++X2:=by rw[BP] at hG;exact hG.app b1
 rw[<-hst] at hB2;exact⟨q.length-(i+1),oG,i+1,_,_,_,X2,rfl,oG,hB2,rfl⟩;have hge:i=q.length:=(oF h);subst hge;refine G2s ?_;refine Qa ?_;rcases hB.out with ⟨hz,rfl⟩ | ⟨hi0,A,cap,R,rfl,_⟩;omega;refine G2s ?_;rw[B0] at hB;exact⟨ids,cs,X,rfl,hB⟩
theorem I8 (a:Ivl)(x:List Ivl):ke (a::x)=ZQ a++ke x:=rfl
theorem kH : ∀(x:List Ivl) (j:Nat) (R:List PV) (y:Ivl),j<x.length->Zx (ke x++R) (j*6) (ZQ y)=ke (x.set j y)++R
 | [],j,R,y,h=>by simp at h
 | a::x,0,R,y,h=>rfl
 | a::x,j+1,R,y,h=>by have ih:=kH x j R y (by simpa using h);rw[I8,LG,I8,BP,BP,<-ih];unfold Zx;have e:(j+1)*6=(ZQ a).length+j*6:=(by show _=6+_;omega);rw[e,List.take_length_add_append,DK,List.drop_length_add_append];simp
theorem z0b {x:List Ivl}{o:Nat}(h:o<x.length*6){R:List PV} :((ke x++R).getD o .junk).notW=true:=by
 induction x generalizing o with
 | nil=>simp at h
 | cons a x ih=>
  rw[I8,BP];by_cases h3:o<6;have:o=0\/o=1\/o=2\/o=3\/o=4\/o=5:=oG;rcases this with rfl | rfl | rfl | rfl | rfl | rfl<;>rfl;rw[Ql _ _ _ _ (by show 6<=o;omega)];exact ih (by show o-6<_;simp at h;omega)
theorem xp (r:Mx): ∀x∈r.map QE,∀c∈x,c.cells.length=6/\ ∀d∈c.cells,Tame d:=by intro x hx c hc;simp only[CF] at hx;obtain⟨y,_,rfl⟩:=hx;simp only[QE,CF] at hc;obtain⟨z,_,rfl⟩:=hc;exact⟨rfl,fun d hd=>W1r z d hd⟩
section
variable {st:Qf} {A n:Nat} {ids:List Nat} {m:Mx}
theorem MatO.idlt {rows:List (List PV)}(h:MatO st A ids n rows): ∀x∈ids,x<st.length:=fun x hx=>by obtain⟨j,hj,he⟩:=CM.1 hx;have h1:=(h.row j (by rw[<-h.lid];exact hj)).1;rw[q_a,BB hj] at h1;rw[<-he];exact h1
theorem MatO.len (h:MatO st A ids n (KB m)):m.length=n:=by have:=h.lrow;unfold KB at this;rwa [BR] at this
theorem MatO.rowI_at (h:MatO st A ids n (KB m)){i:Nat}(hi:i<n):RowAt st (ids.getD i 0) (ke (m.getD i [])):=by
 have h1:=h.row i hi;have hl:=h.len;have e:(KB m).getD i []=ke (m.getD i []):=by unfold KB;rw[q_a,B8,q_a,BB (show i<m.length by omega)];rfl
 rwa [e] at h1
theorem MatO.tI (h:MatO st A ids n (KB m)){i:Nat}(hi:i<n):(st.getD A []).getD i .junk= .ms true (ids.getD i 0) 0 n/\i+1<=(st.getD A []).length:=by obtain⟨R,hR⟩:=h.top.2;have hii:i<ids.length:=(by rw[h.lid];exact hi);rw[hR];refine⟨?_,by rw[BH,BR];omega⟩;rw[Qk _ _ _ _ (by rw[BR];exact hii),q_a,B8,q_a,BB hii];rfl
theorem MatO.seenI (h:MatO st A ids n (KB m))(hr: ∀r∈m,r.length=n):Seen st (Y0r st A ids n 6) (.ms true A 0 n) (.sl .no (XE m))/\(∀k,k<st.length->(Y0r st A ids n 6).getD k 0<=(st.getD k []).length):=by
 have hfl:KB m=(m.map QE).map flat:=by unfold KB;rw[DZ];rfl
 rw[hfl] at h;have hl: ∀x∈m.map QE,x.length=n:=fun x hx=>by simp only[CF] at hx;obtain⟨y,hy,rfl⟩:=hx;rw[WF,hr y hy]
 refine⟨?_,h.eLe hl (xp m)⟩;have:=h.seen (e:=Y0r st A ids n 6) hl (xp m) (by rw[KO _ _ _ _ _ _ h.top.1,BC rfl];exact BD _) fun i hi=>by rw[KO _ _ _ _ _ _ (h.idlt i hi),BA (fun e=>h.na (by rw[<-e];exact hi)),BC hi];exact BD _
 rw[DZ] at this;exact this
theorem MatO.noW (h:MatO st A ids n (KB m))(hr: ∀r∈m,r.length=n): ∀k o,k<st.length->o<(Y0r st A ids n 6).getD k 0->((st.getD k []).getD o .junk).notW=true:=by intro k o hk ho;rw[KO _ _ _ _ _ _ hk] at ho;split at ho;rename_i e;subst e;rw[(h.tI ho).1];rfl;split at ho;rename_i hm;obtain⟨i,hi,he⟩:=CM.1 hm;have hin:i<n:=(by rw[<-h.lid];exact hi);have e1:ids.getD i 0=k:=(by rw[q_a,BB hi];exact he);have hrow:=h.rowI_at hin;rw[e1] at hrow;obtain⟨R,hR⟩:=hrow.2;rw[hR];exact z0b (by rw[hr _ (Qq _ _ _ (by rw[h.len];exact hin))];exact ho);exact absurd ho (CD _)
theorem MatO.zero {base:Nat}(h:MatO st A ids n (KB m))(gA:base<=A)(gi: ∀i∈ids,base<=i): ∀k,k<base->k<st.length->(Y0r st A ids n 6).getD k 0=0:=fun k hk hks=>by rw[KO _ _ _ _ _ _ hks,BA oG,BA fun hm=>by have:=gi _ hm;omega]
theorem MatO.stepI {m2:Mx}{D:List Ivl}{i j:Nat}(h:MatO st A ids n (KB (m2.set i D)))(hi:i<n)(hD:D.length=n)(hj:j<n)(x:Ivl):
 MatO (st.set (ids.getD i 0) (Zx (st.getD (ids.getD i 0) []) (j*6) (ZQ x))) A ids n (KB (m2.set i (D.set j x))):=by
 have hl:m2.length=n:=by have:=h.len;rwa [BL] at this
 have hr:=h.rowI_at hi;have e:(m2.set i D).getD i []=D:=Qt _ _ _ _ oG;rw[e] at hr;obtain⟨R,hR⟩:=hr.2;rw[hR,kH D j R x oG];have:=h.setRow hi (ke (D.set j x)) R;unfold KB at this⊢;rw[<-FA,EH] at this;exact this
end
theorem x0c {P:Program}{f:FuncId}{ps:List PV}{st:Qf}{R:PV}{A n:Nat}{ids:List Nat}{m:Mx}(hM:MatO st A ids n (KB m))(hr: ∀r∈m,r.length=n)(h:PCalls P f (.sl .no (XE m)::ps) [] (fun r st'=>r=R/\st'= []))(hw:Wordy R)(ht: ∀p∈ps,Tame p):
 PCalls P f (.ms true A 0 n::ps) st (fun r st'=>r=R/\st'=st):=by
 obtain⟨s1,s2⟩:=hM.seenI hr;refine PCalls.lendS (Y0r st A ids n 6) h hw rfl (fun j hj=> ?_) s2 (hM.noW hr);cases j with
 | zero=>exact s1
 | succ j=>exact .same (ht _ (Qq _ _ _ (by simpa using hj)))
theorem sqR.wQ {n:Nat}{a:List (List Nm)}(h:sqR n a)(h4:n<=4):wQ a:=by refine⟨by rw[h.1];omega,fun i hi=>⟨?_,fun j hj=> ?_⟩⟩;rw[(h.row (by rw[<-h.1];exact hi)).1];omega;exact Qr ((h.row (by rw[<-h.1];exact hi)).2 _ (Qq _ _ _ hj))
theorem V0q {a:List (List Nm)}{p:Int}(h:(Qu a p).2≠0):Xr a p=([],(Qu a p).2):=by unfold Xr;rw[BC h]
theorem V0p {a:List (List Nm)}{p:Int}(h:(Qu a p).2=0)(h2:(ZX (Qu a p).1 a p).2≠0):Xr a p=([],(ZX (Qu a p).1 a p).2):=by unfold Xr;rw[BA (fun e=>e h),BC h2]
theorem V0o {a:List (List Nm)}{p:Int}(h:(Qu a p).2=0)(h2:(ZX (Qu a p).1 a p).2=0)(h3:Uw (ZX (Qu a p).1 a p).1 oneN>=0):Xr a p=([],3):=by unfold Xr;rw[BA (fun e=>e h),BA (fun e=>e h2),BC h3]
theorem V0n {a:List (List Nm)}{p:Int}(h:(Qu a p).2=0)(h2:(ZX (Qu a p).1 a p).2=0)(h3: ¬Uw (ZX (Qu a p).1 a p).1 oneN>=0)(h4:(Yf (Qu a p).1 (ZX (Qu a p).1 a p).1 p).2≠0):Xr a p=([],(Yf (Qu a p).1 (ZX (Qu a p).1 a p).1 p).2):=by unfold Xr;rw[BA (fun e=>e h),BA (fun e=>e h2),BA h3,BC h4]
theorem y0h {a:List (List Nm)}{p:Int}(h:(Qu a p).2=0)(h2:(ZX (Qu a p).1 a p).2=0)(h3: ¬Uw (ZX (Qu a p).1 a p).1 oneN>=0)(h4:(Yf (Qu a p).1 (ZX (Qu a p).1 a p).1 p).2=0):Xr a p=Km (fun i j=>Xs (QM (Qu a p).1 i j) (Yf (Qu a p).1 (ZX (Qu a p).1 a p).1 p).1 p) a.length:=by unfold Xr;rw[BA (fun e=>e h),BA (fun e=>e h2),BA h3,BA (fun e=>e h4)]
theorem y0i (y q:Nm)(p:Int):(Xs y q p).2=0\/(Xs y q p).2=2:=by unfold Xs;split;exact .inr rfl;exact .inl rfl
theorem G0n {y q:Nm}{p:Int}(h:(Qv 1 y q p false).2≠0\/(Qv 0 y q p true).2≠0):(Xs y q p).2=2:=by unfold Xs;rw[BC h]
theorem V0r {y q:Nm}{p:Int}(h1:(Qv 1 y q p false).2=0)(h2:(Qv 0 y q p true).2=0):Xs y q p=(⟨(Qv 1 y q p false).1,(Qv 0 y q p true).1⟩,0):=by unfold Xs;rw[BA (by rw[h1,h2];simp)]
theorem wj {G:Nat->Nat->Ivl×Int}{n i:Nat}(hi:i<n):(WB G n).getD i []=(List.range n).map fun j=>(G i j).1:=by unfold WB;rw[q_a,B8,EE hi];rfl
theorem wl (G:Nat->Nat->Ivl×Int)(n:Nat):(WB G n).length=n:=by simp[WB]
theorem K1d {G:Nat->Nat->Ivl×Int}{n i j:Nat}(hi:i<n)(hj:j<n):((WB G n).getD i []).getD j default=(G i j).1:=by rw[wj hi];exact K5 _ _ _ hj
theorem xk {G:Nat->Nat->Ivl×Int}{n i:Nat}(hi:i<n):((WB G n).getD i []).length=n:=by rw[wj hi];simp
set_option maxHeartbeats 4000000 in
theorem x0n (a:List (List Nm))(p:Int)(st:Qf)(hw:wQs a):PR 104 [.sl .no (Z8 a),.sc (.int .i64 p)] st (.tup [.sl .no (XE (Xr a p).1),.sc (.int .i64 (Xr a p).2)]):=by
 refine YU (Q:=fun q=>q= .tup [.sl .no (XE (Xr a p).1),.sc (.int .i64 (Xr a p).2)]) ?_;have hbad: ∀(Z:Qf) (e:Int),Xr a p=([],e)-> ∃X q e',st++Z=st++X/\Seen (st++Z) e' (.tup [.sl .no [],.sc (.int .i64 e)]) q/\(∀k,k<st.length+Z.length->e'.getD k 0<=((st++Z).getD k []).length)/\(∀k,k<st.length->e'.getD k 0=0)/\(PV.tup [.sl .no [],.sc (.int .i64 e)]).stale=true/\q.stale=true/\q= .tup [.sl .no (XE (Xr a p).1),.sc (.int .i64 (Xr a p).2)]:=fun Z e he=>
  ⟨Z,.tup [.sl .no [],.sc (.int .i64 e)],[],rfl,UG (.same (.sl fun c hc=>by simp at hc)) (.sc _),fun k _=>CX _,fun k _=>rfl,rfl,rfl,by rw[he];rfl⟩
 have hbad0:=hbad [];simp only[B9,D8,B1] at hbad0;refine U2m Tryz.func104 fun E=> ?_;refine(Q0p a p _ hw).w ?_;rintro st' rfl;by_cases h1:(Qu a p).2=0;rotate_left;have g1:((Qu a p).2 !=0)=true:=(by simpa using h1);simp-dsimp only[go_sem,g1];exact hbad0 _ (V0q h1);have g1:((Qu a p).2 !=0)=false:=(by simpa using h1);obtain⟨a1,hp,a3,a4,a5,a6, -, -⟩:=zb h1;have hb2:=V0p (p:=p) h1;have hb3:=V0o (p:=p) h1;have hb4:=V0n (p:=p) h1;have hgo:=y0h (p:=p) h1;simp-dsimp only[go_sem,g1];generalize (Qu a p).1=X at*
 have hXl:=a3.1;have wX:=a3.wQ a6;have wa:=a4.wQ a6;have hrX: ∀r∈ofM X,r.length=a.length:=fun r hr=>by unfold ofM ofB at hr;simp only[CF] at hr;obtain⟨x,hx,rfl⟩:=hr;rw[BR];exact(a3.2 x hx).1
 have cOf:=X1o X st' oG oG (fun r hr=>by rw[hXl];exact(a3.2 r hr).1) wX;rw[hXl] at cOf;refine cOf.mono ?_;rintro res st1 ⟨A,ids,Z,rfl,rfl,hM,gA,gi⟩;refine G2s ?_;refine(Q0i a _ wa).plain.w ?_;rintro st1 rfl;refine G2s ?_;have cR:=x0o (ofM X) (ofM a) p [] (q0t wX) (q0t wa);rw[Q1d] at cR;refine(x0c hM hrX cR (.tup _ fun c hc=> ?_) fun q hq=> ?_).mono ?_;rcases EA.1 hc with rfl | hc;exact .agg _ (U0r _);rw[C0.1 hc];exact .sc _;rcases EA.1 hq with rfl | hq;exact k1x _ _;rw[C0.1 hq];exact .sc _;rintro res st1 ⟨rfl,rfl⟩;by_cases h2:(ZX X a p).2=0;rotate_left;have g2:((ZX X a p).2 !=0)=true:=(by simpa using h2);simp-dsimp only[go_sem,g2];exact hbad Z _ (hb2 h2);have g2:((ZX X a p).2 !=0)=false:=(by simpa using h2);have hb3:=hb3 h2;have hb4:=hb4 h2;have hgo:=hgo h2;have hro:=je a3 a4 a5 a6 h2;have hre:=hro.2.1;have he0:=hro.1;simp-dsimp only[go_sem,g2];clear hb2 cR cOf hro;generalize (ZX X a p).1=e at*
 have wre:=Qr hre;have w1:wN oneN:=Qr Yk;unfold wN at wre w1;refine Qm QH 106 (.step 0 [] (.step 1 [0] (.step 2 [] (.step 3 [] (.done))))) (by decide+kernel) (by simp) ?_;refine G2s ?_;refine(Vp _).w ?_;rintro st1 rfl;refine G2s ?_;refine(Ib e oneN _ oG oG).w ?_;rintro st1 rfl;refine U2n (fun h3=> ?_) (fun h3=> ?_);have h3:=q_b h3;refine G2s ?_;exact hbad Z _ (hb3 h3);have h3:=q_c h3;have he1:qN e<1:=by rw[Yx hre Yk] at h3;have:=cmpN_lt.1 (Int.not_le.1 h3);rwa [KI] at this
 have hb4:=hb4 h3;have hgo:=hgo h3;have cD:=Q0n (ofM X) e p [] (a3.rightM a5 a6) hre hp;rw[G1z] at cD;refine G2s ?_;refine(x0c hM hrX cD (.tup _ fun c hc=> ?_) fun q hq=> ?_).mono ?_;rcases EA.1 hc with rfl | hc;exact .agg _ (U0r _);rw[C0.1 hc];exact .sc _;rcases EA.1 hq with rfl | hq;exact .agg fun c hc=>ku e c hc;rw[C0.1 hq];exact .sc _;rintro res st1 ⟨rfl,rfl⟩;by_cases h4:(Yf X e p).2=0;rotate_left;have g4:((Yf X e p).2 !=0)=true:=(by simpa using h4);simp-dsimp only[go_sem,g4];exact hbad Z _ (hb4 h4);have g4:((Yf X e p).2 !=0)=false:=(by simpa using h4);have hgo:=hgo h4;obtain⟨hq0,hqr⟩:=G1y hp he0 he1 h4;simp-dsimp only[go_sem,g4];clear hb3 hb4 cD;generalize (Yf X e p).1=q at*
 have wq:=Qr hqr;have hGe:=fun i j=>y0i (QM X i j) q p;have lR:(ofM X).length=a.length:=(by unfold ofM;rw[BR];exact hXl);have lS:=wl (fun i j=>Xs (QM X i j) q p) a.length;have hbad2: ∀(V:Qf) i j,i<a.length->j<a.length->(Xs (QM X i j) q p).2=2->_:=fun V i j hi hj h=>hbad V 2 (by rw[hgo];exact j0k (by decide) hGe hi hj h);refine Qd ([false,true,false,false,false,false,false,false,true,false,true]++rF 43++ [true,true,true]) 2 0
  (fun m s=> ∃(i:Nat) (V:Qf) (cur:Mx),cur=(WB (fun i j=>Xs (QM X i j) q p) a.length).take i++(ofM X).drop i/\m=a.length-i/\i<=a.length/\MatO (st'++V) A ids a.length (KB cur)/\(∀i',i'<i-> ∀j,j<a.length->(Xs (QM X i' j) q p).2=0)/\
   s=⟨[.junk,.sc (.int .i64 p),.junk,.junk,.junk,.junk,.junk,.junk,.ms true A 0 a.length,.junk,.lp 1 0]++jk 43++ [.sl .no (Z8 X),.sc (.int .i64 a.length),.sc (.int .i64 (i:Nat))]++jk 49,[Q9 e,Q9 q],[],st'++V⟩) a.length ?_ ?_
 simp-dsimp only[go_sem,hXl];exact⟨0,Z,oG,oG,by simpa using hM,fun i' hi=>oG,rfl⟩;clear hM;rintro m s ⟨i,V,cur,hcur,rfl,hi,hM,hok,rfl⟩;refine U2n (fun h5=> ?_) (fun h5=> ?_);rotate_left;have hge:i=a.length:=(oF h5);subst hge;have hcS:cur=WB (fun i j=>Xs (QM X i j) q p) a.length:=(by rw[hcur,BF oG,C6 oG,B9]);have hfin:=K1e (G:=fun i j=>Xs (QM X i j) q p) fun i j hi hj=>hok i hi j hj;rw[<-hgo,<-hcS] at hfin;refine U2i ?_;obtain⟨w1,w2⟩:=hM.seenI fun r hr=>by obtain⟨i,hi,rfl⟩:=CM.1 hr;have hl:=hM.len;have:cur.getD i []=cur[i]:=(by rw[q_a,BB hi];rfl);rw[<-this,hcS];exact xk oG
 exact⟨V,_,_,rfl,UG w1 (.sc _),fun k hk=>w2 k (by rw[BH];exact hk),fun k hk=>hM.zero gA gi k hk (by rw[BH];omega),rfl,rfl,by rw[hfin]⟩;have hlt:i<a.length:=(oT h5);have x2:=Zw i oG;have eQ:=Xh X i oG;have hrl:=(a3.row hlt).1;have pI:=yR ([]:List Ivl) (WB (fun i j=>Xs (QM X i j) q p) a.length) (ofM X) oG (show i<(ofM X).length by omega);rw[<-hcur] at pI;have hRi:(ofM X).getD i []=ofB (X.getD i []):=Ia oG;have lRi:((ofM X).getD i []).length=a.length:=(by rw[hRi];unfold ofB;rw[BR];exact hrl);have lSi:=xk (G:=fun i j=>Xs (QM X i j) q p) hlt;have hcl:=hM.len;simp-dsimp only[go_sem,eQ];refine⟨oG,?_⟩;refine Qd ([false,true,false,false,false,false,false,false,true,false,true,true]++rF 42++ [true,true,true,false,false,false,false,true,true,true]) 2 0
  (fun m s=> ∃(j:Nat) (V:Qf) (D:List Ivl),D=((WB (fun i j=>Xs (QM X i j) q p) a.length).getD i []).take j++((ofM X).getD i []).drop j/\m=a.length-j/\j<=a.length/\MatO (st'++V) A ids a.length (KB (cur.set i D))/\(∀j',j'<j->(Xs (QM X i j') q p).2=0)/\
   s=⟨[.junk,.sc (.int .i64 p),.junk,.junk,.junk,.junk,.junk,.junk,.ms true A 0 a.length,.junk,.lp 1 0,.sc (.int .i64 (i:Nat))]++jk 42++ [.sl .no (Z8 X),.sc (.int .i64 a.length),.sc (.int .i64 (i:Nat)),.junk,.junk,.junk,.junk,.sl .no (Qy (X.getD i [])),.sc (.int .i64 a.length),.sc (.int .i64 (j:Nat))]++jk 42,[Q9 e,Q9 q],[],st'++V⟩) a.length ?_ ?_
 simp-dsimp only[go_sem,hrl];refine⟨0,V,oG,oG,?_,fun j' hj=>oG,rfl⟩;rw[List.take_zero,CQ,EP,<-pI.2.1];have:cur.set i (cur.getD i [])=cur:=by rw[q_a,BB (show i<cur.length by omega)];exact List.set_getElem_self _
 rw[this];exact hM;clear hM;rintro m s ⟨j,V,D,hD,rfl,hj,hM,hokj,rfl⟩;refine U2n (fun h6=> ?_) (fun h6=> ?_);have hjn:j<a.length:=(oT h6);have x3:=Zw j oG;have eN:=QG (X.getD i []) j oG;have pJ:=yR (default:Ivl) ((WB (fun i j=>Xs (QM X i j) q p) a.length).getD i []) ((ofM X).getD i []) oG (show j<((ofM X).getD i []).length by omega);rw[<-hD,K1d hlt hjn] at pJ;have hyr:=(a3.row hlt).2 _ (Qq (X.getD i []) j default oG);have wy:=Qr hyr;have hbj:=hbad2 V i j hlt hjn;have hok1:(X.getD i []).getD j default=QM X i j:=rfl;have sb:=G0n (y:=(X.getD i []).getD j default) (q:=q) (p:=p);have sg:=V0r (y:=(X.getD i []).getD j default) (q:=q) (p:=p);have e1:=HV (k:=1) (up:=false) hyr hqr hp;have e0:=HV (k:=0) (up:=true) hyr hqr hp;have wlo:=Qr (QB 1 ((X.getD i []).getD j default) q p false);have whi:=Qr (QB 0 ((X.getD i []).getD j default) q p true);simp-dsimp only[go_sem,eN];refine⟨oG,?_⟩;refine(UP _ q p false _ wy wq).w ?_;rintro st1 rfl;by_cases f1:(Qv 1 ((X.getD i []).getD j default) q p false).2=0;have k1:((Qv 1 ((X.getD i []).getD j default) q p false).2 !=0)=false:=(by simpa using f1);simp-dsimp only[go_sem,k1];refine(jc _ q p true _ wy wq).w ?_;rintro st1 rfl;by_cases f0:(Qv 0 ((X.getD i []).getD j default) q p true).2=0;have k0:((Qv 0 ((X.getD i []).getD j default) q p true).2 !=0)=false:=(by simpa using f0);have hmk:z0u (Qv 1 ((X.getD i []).getD j default) q p false).1 (Qv 0 ((X.getD i []).getD j default) q p true).1=(⟨(Qv 1 ((X.getD i []).getD j default) q p false).1,(Qv 0 ((X.getD i []).getD j default) q p true).1⟩,0):=by unfold z0u;rw[BC (V0m hq0 f1 f0)]
 have cM:=J1e (Qv 1 ((X.getD i []).getD j default) q p false).1 (Qv 0 ((X.getD i []).getD j default) q p true).1 (st'++V) wlo whi;rw[hmk] at cM;simp-dsimp only[go_sem,k0];have t:=hM.tI hlt;have t1:=t.1;have t2:=t.2;refine Qm QH 106 (X0p [0,1,2,3,4,5,6] (.step 7 [3] (X0p [8,9,10,11,12,13] .done))) (by decide+kernel) (by simp) ?_;simp-dsimp only[go_sem,t1];refine⟨⟨oG,hlt⟩,t2,?_⟩;refine cM.w ?_;rintro st1 rfl;simp-dsimp only[go_sem,x3];have lD:D.length=a.length:=(by rw[pJ.1];exact lRi);have hrow:=hM.rowI_at hlt;have eD:(cur.set i D).getD i []=D:=Qt _ _ _ _ (by rw[pI.1];omega);rw[eD] at hrow;have hlen:j*6+6<=((st'++V).getD (ids.getD i 0) []).length:=by obtain⟨R,hR⟩:=hrow.2;rw[hR,BH,I7,lD];omega
 have hsg:=sg f1 f0;rw[hok1] at hsg;have hstp:=hM.stepI hlt lD hjn (Xs (QM X i j) q p).1;rw[pJ.2.2,hsg] at hstp;have gid:st'.length<=ids.getD i 0:=gi _ (XM (by rw[hM.lid];exact hlt));rw[CJ _ _ gid] at hstp;refine⟨⟨t2,t1.symm⟩,⟨oG,hjn⟩,⟨hlen,oG⟩,a.length-(j+1),oG,j+1,_,rfl,oG,hstp,fun j' hj'=> ?_,by rw[<-CJ _ _ gid];rfl⟩;by_cases ej:j'=j;subst ej;rw[hsg];exact hokj j' oG;have k0:((Qv 0 ((X.getD i []).getD j default) q p true).2 !=0)=true:=(by simpa using f0);have hE:(Qv 0 ((X.getD i []).getD j default) q p true).2=2:=e0.resolve_left f0;simp-dsimp only[go_sem,k0];rw[hE];exact hbj (sb (.inr f0));have k1:((Qv 1 ((X.getD i []).getD j default) q p false).2 !=0)=true:=(by simpa using f1);have hE:(Qv 1 ((X.getD i []).getD j default) q p false).2=2:=e1.resolve_left f1;simp-dsimp only[go_sem,k1];rw[hE];exact hbj (sb (.inl f1));have hge:j=a.length:=(oF h6);subst hge;refine G2s ?_;have hDS:D=(WB (fun i j=>Xs (QM X i j) q p) a.length).getD i []:=(by rw[hD,BF oG,C6 oG,B9]);refine Qa ?_;simp-dsimp only[go_sem,x2];refine⟨a.length-(i+1),oG,i+1,V,?_⟩;rw[<-pI.2.2,<-hDS];refine⟨rfl,oG,hM,fun i' hi'=> ?_,rfl⟩;by_cases ei:i'=i;subst ei;exact hokj;exact hok i' oG
end Go.Pv
end
