/- Parts of the walk: N149, N150, N151, N152. -/
import Derived.Test.YtofoadghajnglaaGreatDoorZFH
import Derived.Test.YtofoadghajnglaaGreatDoorZFF
import Derived.Test.YtofoadghajnglaaGreatDoorZAR
import Derived.Test.YtofoadghajnglaaGreatDoorZAQ
import Derived.Test.YtofoadghajnglaaGreatDoorZFC
set_option linter.unusedVariables false
set_option linter.unusedSimpArgs false
section
/-inv.rest,inv.radius. -/
set_option maxRecDepth 100000
namespace Go.Pv
open Go.Proofs
def K1a (r a:Mx) (p:Int):Nm×Int:=
 if (mulM r a p).2≠0 then(default,(mulM r a p).2) else
 if (opM 1 (idM (r.length:Int)) (mulM r a p).1 p).2≠0 then(default,(opM 1 (idM (r.length:Int)) (mulM r a p).1 p).2) else
 Z0y (opM 1 (idM (r.length:Int)) (mulM r a p).1 p).1 p
def radM (r:Mx) (e:Nm) (p:Int):Nm×Int:=
 if (Q0t 1 oneN e p false).2≠0 then(default,(Q0t 1 oneN e p false).2) else
 if (Z0y r p).2≠0 then(default,(Z0y r p).2) else
 if (Q0t 2 (Z0y r p).1 e p true).2≠0 then(default,(Q0t 2 (Z0y r p).1 e p true).2) else
 W0y (Q0t 2 (Z0y r p).1 e p true).1 (Q0t 1 oneN e p false).1 p true
theorem G2h {x a:List (List Nm)} {p:Int} :K1a (ofM x) (ofM a) p=J0h x a p:=by
 unfold K1a J0h
 have:(ofM x).length=x.length:=by unfold ofM;rw [List.length_map]
 rw [this]
theorem w2q {x:List (List Nm)} {e:Nm} {p:Int} :radM (ofM x) e p=radQ x e p:=rfl
set_option maxHeartbeats 1000000 in
theorem K2z (r a:Mx) (p:Int) (st:Q0f) (hr:wM r) (ha:wM a):PCalls Tryz.prog 63 [.sl .no (encM r),.sl .no (encM a),.sc (.int .i64 p)] st (fun res st'=>res= .tup [.agg (encN (K1a r a p).1),.sc (.int .i64 (K1a r a p).2)]∧st'=st):=by
 refine Q0b none Tryz.func63 rfl fun E=>Q0a ?_
 simp -dsimp only [go_sem]
 refine(q2c r a p _ hr ha).mono ?_
 rintro res st' ⟨rfl,rfl⟩
 by_cases h1:(mulM r a p).2=0
 · have g1:((mulM r a p).2 !=0)=false:=by simpa using h1
   simp -dsimp only [go_sem,g1]
   refine(y2t _ _).mono ?_
   rintro res st' ⟨rfl,rfl⟩
   simp -dsimp only [go_sem]
   refine(H2z (idM (r.length:Int)) (mulM r a p).1 p _ ?_ ?_).mono ?_
   · rw [←x1i];exact X1e (x1h _)
   · exact K2d _ _ _
   rintro res st' ⟨rfl,rfl⟩
   by_cases h2:(opM 1 (idM (r.length:Int)) (mulM r a p).1 p).2=0
   · have g2:((opM 1 (idM (r.length:Int)) (mulM r a p).1 p).2 !=0)=false:=by simpa using h2
     simp -dsimp only [go_sem,g2]
     refine(H1a (opM 1 (idM (r.length:Int)) (mulM r a p).1 p).1 p _ ?_).mono ?_
     · exact k2e _ _ _ _
     rintro res st' ⟨rfl,rfl⟩
     have hR:K1a r a p=Z0y (opM 1 (idM (r.length:Int)) (mulM r a p).1 p).1 p:=by unfold K1a;rw [if_neg (fun h=>h h1),if_neg (fun h=>h h2)]
     rw [hR]
     simp -dsimp only [go_sem]
     try rfl
   · have g2:((opM 1 (idM (r.length:Int)) (mulM r a p).1 p).2 !=0)=true:=by simpa using h2
     have hR:K1a r a p=(default,(opM 1 (idM (r.length:Int)) (mulM r a p).1 p).2):=by unfold K1a;rw [if_neg (fun h=>h h1),if_pos h2]
     rw [hR]
     simp -dsimp only [go_sem,g2]
     try rfl
 · have g1:((mulM r a p).2 !=0)=true:=by simpa using h1
   have hR:K1a r a p=(default,(mulM r a p).2):=by unfold K1a;rw [if_pos h1]
   rw [hR]
   simp -dsimp only [go_sem,g1]
   try rfl
set_option maxHeartbeats 1000000 in
theorem x1r (r:Mx) (e:Nm) (p:Int) (st:Q0f) (hr:rightM r=true) (he:Q0j e=true) (hp:Z0p p=true):PCalls Tryz.prog 66 [.sl .no (encM r),.agg (encN e),.sc (.int .i64 p)] st (fun res st'=>res= .tup [.agg (encN (radM r e p).1),.sc (.int .i64 (radM r e p).2)]∧st'=st):=by
 have wr:=G1d hr
 have we:=Q0u he
 have w1:wN oneN:=Q0u Y0q
 have wd:=Q0u (Z0k 1 oneN e p false)
 refine Q0b none Tryz.func66 rfl fun E=>Q0l (Q0a ?_)
 simp -dsimp only [go_sem]
 refine V0w [true,false,true,false,true,false,true,false,true,true] 3 0
  (fun s=>s=⟨[.sl .no (encM r),.junk,.sc (.int .i64 p),.junk,.lp 0 0,.junk,.lp 1 0,.junk,.lp 2 0,.sc (.int .i64 (Q0t 1 oneN e p false).2)]++List.replicate 39 .junk,[encN e,[.sc (.bool false),.sc (.int .i64 0),.sl .full []],encN (Q0t 1 oneN e p false).1],[],st⟩) ?_ ?_
 · simp -dsimp only [go_sem]
   refine Q0k Z0f 49 (.step 1 [] (.step 2 [] (.alt (.step 0 [1] (.alt (.step 3 [] (.step 4 [] (.step 5 [] (.step 6 [] (.step 7 [1] (.step 8 [] (.step 9 [] (.done)))))))) (.step 7 [1] (.step 3 [] (.step 4 [] (.step 5 [] (.step 6 [] (.step 8 [] (.step 9 [] (.done)))))))))) (.step 7 [1] (.step 0 [1] (.step 3 [] (.step 4 [] (.step 5 [] (.step 6 [] (.step 8 [] (.step 9 [] (.done)))))))))))) (by decide+kernel) (by simp) ?_
   simp -dsimp only [go_sem]
   refine And.intro ?_ ?_
   · refine(q0y _).mono ?_
     rintro res st' ⟨rfl,rfl⟩
     simp -dsimp only [go_sem]
     refine And.intro ?_ ?_
     all_goals
      refine(Q1g _ _ p false _ w1 we).mono ?_
      rintro res st' ⟨rfl,rfl⟩
      simp -dsimp only [go_sem]
      try rfl
   · refine(q0y _).mono ?_
     rintro res st' ⟨rfl,rfl⟩
     simp -dsimp only [go_sem]
     refine(Q1g _ _ p false _ w1 we).mono ?_
     rintro res st' ⟨rfl,rfl⟩
     simp -dsimp only [go_sem]
     try rfl
 rintro s rfl
 refine Q0a ?_
 by_cases h1:(Q0t 1 oneN e p false).2=0
 · have g1:((Q0t 1 oneN e p false).2 !=0)=false:=by simpa using h1
   simp -dsimp only [go_sem,g1]
   refine(H1a r p _ wr).mono ?_
   rintro res st' ⟨rfl,rfl⟩
   by_cases h2:(Z0y r p).2=0
   · have g2:((Z0y r p).2 !=0)=false:=by simpa using h2
     have rn:=(v0a h2).2.2.2.1
     have wn:=Q0u rn
     simp -dsimp only [go_sem,g2]
     refine(W1m (Z0y r p).1 e p true _ wn we).mono ?_
     rintro res st' ⟨rfl,rfl⟩
     by_cases h3:(Q0t 2 (Z0y r p).1 e p true).2=0
     · have g3:((Q0t 2 (Z0y r p).1 e p true).2 !=0)=false:=by simpa using h3
       simp -dsimp only [go_sem,g3]
       refine(X2r _ _ p true _ (Z0k 2 (Z0y r p).1 e p true) (Z0k 1 oneN e p false) hp).mono ?_
       rintro res st' ⟨rfl,rfl⟩
       have hR:radM r e p=W0y (Q0t 2 (Z0y r p).1 e p true).1 (Q0t 1 oneN e p false).1 p true:=by unfold radM;rw [if_neg (fun h=>h h1),if_neg (fun h=>h h2),if_neg (fun h=>h h3)]
       rw [hR]
       simp -dsimp only [go_sem]
       try rfl
     · have g3:((Q0t 2 (Z0y r p).1 e p true).2 !=0)=true:=by simpa using h3
       have hR:radM r e p=(default,(Q0t 2 (Z0y r p).1 e p true).2):=by unfold radM;rw [if_neg (fun h=>h h1),if_neg (fun h=>h h2),if_pos h3]
       rw [hR]
       simp -dsimp only [go_sem,g3]
       try rfl
   · have g2:((Z0y r p).2 !=0)=true:=by simpa using h2
     have hR:radM r e p=(default,(Z0y r p).2):=by unfold radM;rw [if_neg (fun h=>h h1),if_pos h2]
     rw [hR]
     simp -dsimp only [go_sem,g2]
     try rfl
 · have g1:((Q0t 1 oneN e p false).2 !=0)=true:=by simpa using h1
   have hR:radM r e p=(default,(Q0t 1 oneN e p false).2):=by unfold radM;rw [if_pos h1]
   rw [hR]
   simp -dsimp only [go_sem,g1]
   try rfl
end Go.Pv
end
section
/-box.Of and mat.Of,as matrices that lie in the store. -/
set_option maxRecDepth 100000
namespace Go.Pv
open Go.Proofs
def rowI (x:List Ivl):List PV:=flat (Z0d x)
theorem H1v (x:List Ivl): ∀i,i<(Z0d x).length→((Z0d x).getD i .junk).cells.length=6:=fun i hi=>by
 rw [Y0c] at hi
 rw [X0d x i hi];rfl
theorem Z1h (x:List Ivl):(rowI x).length=x.length*6:=by
 unfold rowI
 rw [J0b (H1v x),Y0c]
def U3l (st X:Q0f) (i:Nat) (x:List Ivl) (out:PV):Prop:=
 (i=0∧out= .sl .full []∧X= [])∨(0<i∧ ∃k cap R,out= .gr k i cap∧st.length≤k∧k<(st++X).length∧(st++X).getD k []=rowI x++R∧R.length=(cap-i)*6∧i≤cap)
theorem X2o (x:List Ivl) (a:Ivl):rowI (x++ [a])=rowI x++encI a:=by
 unfold rowI
 rw [show Z0d (x++ [a])=Z0d x++ [.agg (encI a)] by simp [Z0d],J1b]
 congr 1
set_option maxHeartbeats 1000000 in
theorem x2t (x:List Nm) (st:Q0f) (h0:0<x.length) (h4:x.length≤4) (hw:wNs x):
 PCalls Tryz.prog 83 [.sl .no (Z0b x)] st (fun r st'=> ∃k cap X,r= .gr k x.length cap∧st'=st++X∧st.length≤k∧RowAt (st++X) k (rowI (ofB x))):=by
 obtain⟨hl,hw⟩:=hw
 refine Q0b none Tryz.func83 rfl fun E=>Q0l (Q0a ?_)
 simp -dsimp only [go_sem]
 refine Q0l (Q0a ?_)
 simp -dsimp only [go_sem]
 refine Q0l (Q0a ?_)
 simp -dsimp only [go_sem]
 refine X0h [false,false,false,true,false,false,true,true,true] 0 0
  (fun m s=> ∃i out X,m=x.length-i∧i≤x.length∧U3l st X i (ofB (x.take i)) out∧s=⟨[.junk,.junk,.junk,out,.junk,.junk,.sl .no (Z0b x),.sc (.int .i64 x.length),.sc (.int .i64 (i:Nat))]++List.replicate 10 .junk,[],[],st++X⟩) x.length ?_ ?_
 · simp -dsimp only [go_sem]
   exact⟨0,.sl .full [],[],by omega,by omega,.inl ⟨rfl,rfl,rfl⟩,by simp⟩
 rintro m s ⟨i,out,X,rfl,hi,hL,rfl⟩
 refine Q0l (Q0a ?_)
 simp -dsimp only [go_sem]
 refine Q0l (Q0a ?_)
 simp -dsimp only [go_sem]
 refine ck (fun h=> ?_) (fun h=> ?_)
 · have hlt:i<x.length:=by have:=of_decide_eq_true h;omega
   have e1:=J0w x i hlt
   have e3:=X0y i (by omega)
   have hwi:=hw i hlt
   simp -dsimp only [go_sem]
   refine Q0l (J0u ?_)
   refine Q0l (Q0a ?_)
   simp -dsimp only [go_sem,e1]
   refine⟨by omega,?_⟩
   refine W0s [false,false,false,false,true] ?_
   have hst:=W1x x i hlt
   rcases hL with ⟨rfl,rfl,rfl⟩ | ⟨hi0,k,cap,R,rfl,hk1,hk2,hk3,hk4,hk5⟩
   · simp -dsimp only [go_sem]
     refine(v1s _ _ hwi).mono ?_
     rintro res st' ⟨rfl,rfl⟩
     simp -dsimp only [go_sem]
     refine⟨GrowOK.mk_one rfl (by decide) rfl (by omega) (by omega) rfl rfl,fun cap' R hc hR=> ?_⟩
     refine Q0a ?_
     simp -dsimp only [go_sem,e3]
     refine⟨x.length-(0+1),by omega,0+1,_,_,rfl,by omega,.inr ⟨by omega,st'.length,cap',R,rfl,Nat.le_refl _,by simp,?_,hR,hc⟩,rfl⟩
     rw [Q0o _ _ _ _ (Nat.le_refl _),Nat.sub_self,hst]
     rfl
   · simp -dsimp only [go_sem]
     refine(v1s _ _ hwi).mono ?_
     rintro res st' ⟨rfl,rfl⟩
     simp -dsimp only [go_sem]
     have hlen:(ofB (x.take i)).length=i:=by unfold ofB;rw [List.length_map,List.length_take];omega
     have hrl:=Z1h (ofB (x.take i))
     have hgl:((st++X).getD k []).length=cap*6:=by rw [hk3,List.length_append,hrl,hlen,hk4,←Nat.add_mul];congr 1;omega
     refine⟨GrowOK.mk_one rfl (by decide) hgl (by omega) (by omega) rfl rfl,fun k' cap' st' hG=> ?_⟩
     obtain⟨R',f1,f2,f3,f4,f5,f6,f7⟩:=GrowTo.facts (es:=Z0d (ofB (x.take i))) hG hk2 hk3 (by show(rowI _).length=_;rw [hrl,hlen]) rfl hk4 hk5
     obtain⟨X',rfl⟩:=GrowTo.app hG hk1
     refine Q0a ?_
     simp -dsimp only [go_sem,e3]
     refine⟨x.length-(i+1),by omega,i+1,_,X',rfl,by omega,.inr ⟨by omega,k',cap',R',rfl,?_,f4,?_,f2,f3⟩,rfl⟩
     · rcases f5 with rfl | rfl
       · exact hk1
       · rw [List.length_append];omega
     · rw [f1,hst,X2o]
       rw [List.append_assoc]
       rfl
 · have hge:i=x.length:=by have:=of_decide_eq_false h;omega
   subst hge
   simp -dsimp only [go_sem]
   refine Q0a ?_
   rcases hL with ⟨hz,rfl,rfl⟩ | ⟨hi0,k,cap,R,rfl,h1,h2,h3,_⟩
   · omega
   simp -dsimp only [go_sem]
   rw [List.take_length] at h3
   exact⟨k,cap,X,rfl,rfl,h1,h2,R,h3⟩
theorem W1u {P:Program} {f:FuncId} {args:List PV} {st:Q0f} {n:Nat} {rows:List (List PV)} (h0:0<n)
 (h:PCalls P f args st fun r st'=> ∃ids cs X,st'=st++X∧Built st' st.length n n r ids cs rows):
 PCalls P f args st (fun r st'=> ∃A ids X,r= .ms true A 0 n∧st'=st++X∧MatO st' A ids n rows∧st.length≤A∧ ∀i∈ids,st.length≤i):=by
 refine PCalls.unGr h ?_
 rintro r st' ⟨ids,cs,X,rfl,hB⟩
 obtain⟨A,cap,R,rfl,hA,hAl,hAc,hM,hU⟩:=hB.done h0
 refine⟨.ms true A 0 n,_,by rw [List.length_set],rfl,rfl,.gr _ _ _,hU,A,ids,X.set (A-st.length) ((ids.map fun i=>PV.ms true i 0 n)++R),rfl,?_,hM,hA,hB.ge⟩
 rw [List.set_append_right _ _ hA]
def U0p (m:Mx):List (List PV):=m.map rowI
theorem X2n (q:List (List Nm)) {i:Nat} (h:i<q.length):U0p (ofM (q.take (i+1)))=U0p (ofM (q.take i))++ [rowI (ofB (q.getD i []))]:=by
 unfold U0p ofM
 rw [k0c [] q h,List.map_append,List.map_append];rfl
set_option maxHeartbeats 1000000 in
theorem q2a (q:List (List Nm)) (st:Q0f) (h0:0<q.length) (h4:q.length≤4) (hr: ∀r∈q,r.length=q.length) (hw:wQ q):
 PCalls Tryz.prog 31 [.sl .no (encQ q)] st (fun r st'=> ∃A ids X,r= .ms true A 0 q.length∧st'=st++X∧MatO st' A ids q.length (U0p (ofM q))∧st.length≤A∧ ∀i∈ids,st.length≤i):=by
 refine W1u h0 ?_
 refine Q0b none Tryz.func31 rfl fun E=>Q0l (Q0a ?_)
 simp -dsimp only [go_sem]
 refine Q0l (Q0a ?_)
 simp -dsimp only [go_sem]
 refine Q0l (Q0a ?_)
 simp -dsimp only [go_sem]
 refine X0h [false,false,false,true,false,false,true,true,true] 0 0
  (fun m s=> ∃i out ids cs X,m=q.length-i∧i≤q.length∧Built (st++X) st.length q.length i out ids cs (U0p (ofM (q.take i)))∧
   s=⟨[.junk,.junk,.junk,out,.junk,.junk,.sl .no (encQ q),.sc (.int .i64 q.length),.sc (.int .i64 (i:Nat))]++List.replicate 10 .junk,[],[],st++X⟩) q.length ?_ ?_
 · simp -dsimp only [go_sem]
   refine⟨0,.sl .full [],[],[],[],by omega,by omega,?_,by simp⟩
   rw [List.append_nil]
   exact Built.zero st _
 rintro m s ⟨i,out,ids,cs,X,rfl,hi,hB,rfl⟩
 refine Q0l (Q0a ?_)
 simp -dsimp only [go_sem]
 refine Q0l (Q0a ?_)
 simp -dsimp only [go_sem]
 refine ck (fun h=> ?_) (fun h=> ?_)
 · have hlt:i<q.length:=by have:=of_decide_eq_true h;omega
   have e1:=V0f q i hlt
   have e3:=X0y i (by omega)
   have hri:=hr _ (Q0s q i [] hlt)
   have hst:=X2n q hlt
   simp -dsimp only [go_sem]
   refine Q0l (J0u ?_)
   refine Q0l (Q0a ?_)
   simp -dsimp only [go_sem,e1]
   refine⟨by omega,?_⟩
   refine W0s [false,false,false,false,true] ?_
   have hc:=x2t (q.getD i []) (st++X) (by omega) (by omega) (hw.2 i hlt)
   rcases hB.out with ⟨rfl,rfl⟩ | ⟨hi0,A,cap,R,rfl,_⟩
   · simp -dsimp only [go_sem]
     refine hc.mono ?_
     rintro res st1 ⟨k,cap',X1,rfl,rfl,hk,hrow⟩
     simp -dsimp only [go_sem]
     refine⟨GrowOK.mk_one rfl (by decide) rfl (by omega) (by omega) rfl rfl,fun cap2 R2 hc2 hR2=> ?_⟩
     refine Q0a ?_
     simp -dsimp only [go_sem,e3]
     have hB2:=Built.first hB (Y:=st++X++X1) (c:= .gr k (q.getD 0 []).length cap') (by simp) (by rw [hri];exact .gr _ _ _) hrow hk hc2 (by rw [hR2];omega)
     obtain⟨X2,hX2⟩: ∃X2,st++X++X1++ [flat [PV.gr k (q.getD 0 []).length cap']++R2]=st++X2:=⟨_,by rw [List.append_assoc,List.append_assoc]⟩
     rw [hX2] at hB2⊢
     rw [←hst] at hB2
     refine⟨q.length-(0+1),by omega,0+1,_,_,_,X2,rfl,by omega,hB2,?_⟩
     rw [show(st++X++X1).length=st.length+X.length+X1.length by simp;omega]
   · simp -dsimp only [go_sem]
     refine hc.mono ?_
     rintro res st1 ⟨k,cap',X1,rfl,rfl,hk,hrow⟩
     simp -dsimp only [go_sem]
     obtain⟨b1,b2,b3⟩:=hB.at hi0
     have gA:(st++X++X1).getD A []=(st++X).getD A []:=Q0i _ _ _ _ b2
     refine⟨GrowOK.mk_one rfl (by decide) (by rw [gA,b3];omega) (by omega) (by omega) rfl rfl,fun A' cap2 st' hG=> ?_⟩
     refine Q0a ?_
     simp -dsimp only [go_sem,e3]
     have hB2:=Built.grow hB hi0 (Y:=st++X++X1) (c:= .gr k (q.getD i []).length cap') (by simp) (fun x hx=>Q0i _ _ _ _ hx) (by rw [hri];exact .gr _ _ _) hrow hk hG
     obtain⟨X2,rfl⟩: ∃X2,st'=st++X2:=by
      rw [List.append_assoc] at hG
      exact hG.app b1
     rw [←hst] at hB2
     exact⟨q.length-(i+1),by omega,i+1,_,_,_,X2,rfl,by omega,hB2,rfl⟩
 · have hge:i=q.length:=by have:=of_decide_eq_false h;omega
   subst hge
   simp -dsimp only [go_sem]
   refine Q0a ?_
   rcases hB.out with ⟨hz,rfl⟩ | ⟨hi0,A,cap,R,rfl,_⟩
   · omega
   simp -dsimp only [go_sem]
   rw [List.take_length] at hB
   exact⟨ids,cs,X,rfl,hB⟩
end Go.Pv
end
section
/-Matrices of intervals that lie in the store:written,lent,seen. -/
set_option maxRecDepth 100000
namespace Go.Pv
open Go.Proofs
theorem Z1i (a:Ivl) (x:List Ivl):rowI (a::x)=encI a++rowI x:=rfl
theorem U1z : ∀(x:List Ivl) (j:Nat) (R:List PV) (y:Ivl),j<x.length→over (rowI x++R) (j*6) (encI y)=rowI (x.set j y)++R
 | [],j,R,y,h=>by simp at h
 | a::x,0,R,y,h=>rfl
 | a::x,j+1,R,y,h=>by
  have ih:=U1z x j R y (by simpa using h)
  rw [Z1i,List.set_cons_succ,Z1i,List.append_assoc,List.append_assoc,←ih]
  unfold over
  have e:(j+1)*6=(encI a).length+j*6:=by show _=6+_;omega
  rw [e,List.take_length_add_append,Nat.add_assoc,List.drop_length_add_append]
  simp
theorem J2y {x:List Ivl} {o:Nat} (h:o<x.length*6) {R:List PV} :((rowI x++R).getD o .junk).notW=true:=by
 induction x generalizing o with
 | nil=>simp at h
 | cons a x ih=>
  rw [Z1i,List.append_assoc]
  by_cases h3:o<6
  · have:o=0∨o=1∨o=2∨o=3∨o=4∨o=5:=by omega
    rcases this with rfl | rfl | rfl | rfl | rfl | rfl<;>rfl
  · rw [Q0o _ _ _ _ (by show 6≤o;omega)]
    exact ih (by show o-6<_;simp at h;omega)
theorem V1r (r:Mx): ∀x∈r.map Z0d,∀c∈x,c.cells.length=6∧ ∀d∈c.cells,Tame d:=by
 intro x hx c hc
 simp only [List.mem_map] at hx
 obtain⟨y,_,rfl⟩:=hx
 simp only [Z0d,List.mem_map] at hc
 obtain⟨z,_,rfl⟩:=hc
 exact⟨rfl,fun d hd=>j2q z d hd⟩
section
variable {st:Q0f} {A n:Nat} {ids:List Nat} {m:Mx}
theorem MatO.idlt {rows:List (List PV)} (h:MatO st A ids n rows): ∀x∈ids,x<st.length:=fun x hx=>by
 obtain⟨j,hj,he⟩:=List.mem_iff_getElem.1 hx
 have h1:=(h.row j (by rw [←h.lid];exact hj)).1
 rw [List.getD_eq_getElem?_getD,List.getElem?_eq_getElem hj] at h1
 rw [←he];exact h1
theorem MatO.len (h:MatO st A ids n (U0p m)):m.length=n:=by have:=h.lrow;unfold U0p at this;rwa [List.length_map] at this
theorem MatO.rowI_at (h:MatO st A ids n (U0p m)) {i:Nat} (hi:i<n):RowAt st (ids.getD i 0) (rowI (m.getD i [])):=by
 have h1:=h.row i hi
 have hl:=h.len
 have e:(U0p m).getD i []=rowI (m.getD i []):=by
  unfold U0p
  rw [List.getD_eq_getElem?_getD,List.getElem?_map,List.getD_eq_getElem?_getD,List.getElem?_eq_getElem (show i<m.length by omega)];rfl
 rwa [e] at h1
theorem MatO.tI (h:MatO st A ids n (U0p m)) {i:Nat} (hi:i<n):(st.getD A []).getD i .junk= .ms true (ids.getD i 0) 0 n∧i+1≤(st.getD A []).length:=by
 obtain⟨R,hR⟩:=h.top.2
 have hii:i<ids.length:=by rw [h.lid];exact hi
 rw [hR]
 refine⟨?_,by rw [List.length_append,List.length_map];omega⟩
 rw [Q0i _ _ _ _ (by rw [List.length_map];exact hii),List.getD_eq_getElem?_getD,List.getElem?_map,List.getD_eq_getElem?_getD,List.getElem?_eq_getElem hii];rfl
theorem MatO.seenI (h:MatO st A ids n (U0p m)) (hr: ∀r∈m,r.length=n):Seen st (eMat st A ids n 6) (.ms true A 0 n) (.sl .no (encM m))∧(∀k,k<st.length→(eMat st A ids n 6).getD k 0≤(st.getD k []).length):=by
 have hfl:U0p m=(m.map Z0d).map flat:=by unfold U0p;rw [List.map_map];rfl
 rw [hfl] at h
 have hl: ∀x∈m.map Z0d,x.length=n:=fun x hx=>by
  simp only [List.mem_map] at hx
  obtain⟨y,hy,rfl⟩:=hx
  rw [Y0c,hr y hy]
 refine⟨?_,h.eLe hl (V1r m)⟩
 have:=h.seen (e:=eMat st A ids n 6) hl (V1r m) (by rw [G0c _ _ _ _ _ _ h.top.1,if_pos rfl];exact Nat.le_refl _) fun i hi=>by
  rw [G0c _ _ _ _ _ _ (h.idlt i hi),if_neg (fun e=>h.na (by rw [←e];exact hi)),if_pos hi];exact Nat.le_refl _
 rw [List.map_map] at this
 exact this
theorem MatO.noW (h:MatO st A ids n (U0p m)) (hr: ∀r∈m,r.length=n): ∀k o,k<st.length→o<(eMat st A ids n 6).getD k 0→((st.getD k []).getD o .junk).notW=true:=by
 intro k o hk ho
 rw [G0c _ _ _ _ _ _ hk] at ho
 split at ho
 · rename_i e
   subst e
   rw [(h.tI ho).1];rfl
 · split at ho
   · rename_i hm
     obtain⟨i,hi,he⟩:=List.mem_iff_getElem.1 hm
     have hin:i<n:=by rw [←h.lid];exact hi
     have e1:ids.getD i 0=k:=by rw [List.getD_eq_getElem?_getD,List.getElem?_eq_getElem hi];exact he
     have hrow:=h.rowI_at hin
     rw [e1] at hrow
     obtain⟨R,hR⟩:=hrow.2
     rw [hR]
     exact J2y (by rw [hr _ (Q0s _ _ _ (by rw [h.len];exact hin))];exact ho)
   · exact absurd ho (Nat.not_lt_zero _)
theorem MatO.zero {base:Nat} (h:MatO st A ids n (U0p m)) (gA:base≤A) (gi: ∀i∈ids,base≤i): ∀k,k<base→k<st.length→(eMat st A ids n 6).getD k 0=0:=fun k hk hks=>by
 rw [G0c _ _ _ _ _ _ hks,if_neg (by omega),if_neg fun hm=>by have:=gi _ hm;omega]
theorem MatO.stepI {m2:Mx} {D:List Ivl} {i j:Nat} (h:MatO st A ids n (U0p (m2.set i D))) (hi:i<n) (hD:D.length=n) (hj:j<n) (x:Ivl):
 MatO (st.set (ids.getD i 0) (over (st.getD (ids.getD i 0) []) (j*6) (encI x))) A ids n (U0p (m2.set i (D.set j x))):=by
 have hl:m2.length=n:=by have:=h.len;rwa [List.length_set] at this
 have hr:=h.rowI_at hi
 have e:(m2.set i D).getD i []=D:=Q0p _ _ _ _ (by omega)
 rw [e] at hr
 obtain⟨R,hR⟩:=hr.2
 rw [hR,U1z D j R x (by omega)]
 have:=h.setRow hi (rowI (D.set j x)) R
 unfold U0p at this⊢
 rw [←List.map_set,List.set_set] at this
 exact this
end
theorem K2r {P:Program} {f:FuncId} {ps:List PV} {st:Q0f} {R:PV} {A n:Nat} {ids:List Nat} {m:Mx} (hM:MatO st A ids n (U0p m)) (hr: ∀r∈m,r.length=n) (h:PCalls P f (.sl .no (encM m)::ps) [] (fun r st'=>r=R∧st'= [])) (hw:Wordy R) (ht: ∀p∈ps,Tame p):
 PCalls P f (.ms true A 0 n::ps) st (fun r st'=>r=R∧st'=st):=by
 obtain⟨s1,s2⟩:=hM.seenI hr
 refine PCalls.lendS (eMat st A ids n 6) h hw rfl (fun j hj=> ?_) s2 (hM.noW hr)
 cases j with
 | zero=>exact s1
 | succ j=>exact .same (ht _ (Q0s _ _ _ (by simpa using hj)))
end Go.Pv
end
section
/-inv.Sure. -/
set_option maxRecDepth 100000
namespace Go.Pv
open Go.Proofs
theorem sqR.wQ {n:Nat} {a:List (List Nm)} (h:sqR n a) (h4:n≤4):wQ a:=by
 refine⟨by rw [h.1];omega,fun i hi=>⟨?_,fun j hj=> ?_⟩⟩
 · rw [(h.row (by rw [←h.1];exact hi)).1];omega
 · exact Q0u ((h.row (by rw [←h.1];exact hi)).2 _ (Q0s _ _ _ hj))
theorem K1r {a:List (List Nm)} {p:Int} (h:(Q0q a p).2≠0):K0d a p=([],(Q0q a p).2):=by unfold K0d;rw [if_pos h]
theorem K1q {a:List (List Nm)} {p:Int} (h:(Q0q a p).2=0) (h2:(J0h (Q0q a p).1 a p).2≠0):K0d a p=([],(J0h (Q0q a p).1 a p).2):=by unfold K0d;rw [if_neg (fun e=>e h),if_pos h2]
theorem K1p {a:List (List Nm)} {p:Int} (h:(Q0q a p).2=0) (h2:(J0h (Q0q a p).1 a p).2=0) (h3:cmpR (J0h (Q0q a p).1 a p).1 oneN≥0):K0d a p=([],3):=by unfold K0d;rw [if_neg (fun e=>e h),if_neg (fun e=>e h2),if_pos h3]
theorem K1o {a:List (List Nm)} {p:Int} (h:(Q0q a p).2=0) (h2:(J0h (Q0q a p).1 a p).2=0) (h3: ¬cmpR (J0h (Q0q a p).1 a p).1 oneN≥0) (h4:(radQ (Q0q a p).1 (J0h (Q0q a p).1 a p).1 p).2≠0):K0d a p=([],(radQ (Q0q a p).1 (J0h (Q0q a p).1 a p).1 p).2):=by unfold K0d;rw [if_neg (fun e=>e h),if_neg (fun e=>e h2),if_neg h3,if_pos h4]
theorem k1f {a:List (List Nm)} {p:Int} (h:(Q0q a p).2=0) (h2:(J0h (Q0q a p).1 a p).2=0) (h3: ¬cmpR (J0h (Q0q a p).1 a p).1 oneN≥0) (h4:(radQ (Q0q a p).1 (J0h (Q0q a p).1 a p).1 p).2=0):K0d a p=Y0g (fun i j=>K0r (entQ (Q0q a p).1 i j) (radQ (Q0q a p).1 (J0h (Q0q a p).1 a p).1 p).1 p) a.length:=by unfold K0d;rw [if_neg (fun e=>e h),if_neg (fun e=>e h2),if_neg h3,if_neg (fun e=>e h4)]
theorem U2q (y q:Nm) (p:Int):(K0r y q p).2=0∨(K0r y q p).2=2:=by
 unfold K0r
 split
 · exact .inr rfl
 · exact .inl rfl
theorem U1s {y q:Nm} {p:Int} (h:(Q0t 1 y q p false).2≠0∨(Q0t 0 y q p true).2≠0):(K0r y q p).2=2:=by unfold K0r;rw [if_pos h]
theorem K1s {y q:Nm} {p:Int} (h1:(Q0t 1 y q p false).2=0) (h2:(Q0t 0 y q p true).2=0):K0r y q p=(⟨(Q0t 1 y q p false).1,(Q0t 0 y q p true).1⟩,0):=by unfold K0r;rw [if_neg (by rw [h1,h2];simp)]
theorem H1q {G:Nat→Nat→Ivl×Int} {n i:Nat} (hi:i<n):(z0i G n).getD i []=(List.range n).map fun j=>(G i j).1:=by
 unfold z0i
 rw [List.getD_eq_getElem?_getD,List.getElem?_map,List.getElem?_range hi];rfl
theorem H1r (G:Nat→Nat→Ivl×Int) (n:Nat):(z0i G n).length=n:=by simp [z0i]
theorem z2m {G:Nat→Nat→Ivl×Int} {n i j:Nat} (hi:i<n) (hj:j<n):((z0i G n).getD i []).getD j default=(G i j).1:=by
 rw [H1q hi];exact H1i _ _ _ hj
theorem V1n {G:Nat→Nat→Ivl×Int} {n i:Nat} (hi:i<n):((z0i G n).getD i []).length=n:=by rw [H1q hi];simp
set_option maxHeartbeats 1000000 in
theorem X1n (a:List (List Nm)) (p:Int) (st:Q0f) (hw:wQs a):PCalls Tryz.prog 22 [.sl .no (encQ a),.sc (.int .i64 p)] st (fun r st'=>r= .tup [.sl .no (encM (K0d a p).1),.sc (.int .i64 (K0d a p).2)]∧st'=st):=by
 refine j0c (Q:=fun q=>q= .tup [.sl .no (encM (K0d a p).1),.sc (.int .i64 (K0d a p).2)]) ?_
 have hbad: ∀(Z:Q0f) (e:Int),K0d a p=([],e)→ ∃X q e',st++Z=st++X∧Seen (st++Z) e' (.tup [.sl .no [],.sc (.int .i64 e)]) q∧(∀k,k<st.length+Z.length→e'.getD k 0≤((st++Z).getD k []).length)∧(∀k,k<st.length→e'.getD k 0=0)∧(PV.tup [.sl .no [],.sc (.int .i64 e)]).stale=true∧q.stale=true∧q= .tup [.sl .no (encM (K0d a p).1),.sc (.int .i64 (K0d a p).2)]:=fun Z e he=>
  ⟨Z,.tup [.sl .no [],.sc (.int .i64 e)],[],rfl,H0l (.same (.sl fun c hc=>by simp at hc)) (.sc _),fun k _=>Nat.zero_le _,fun k _=>rfl,rfl,rfl,by rw [he];rfl⟩
 have hbad0:=hbad []
 simp only [List.append_nil,List.length_nil,Nat.add_zero] at hbad0
 refine Q0b none Tryz.func22 rfl fun E=>Q0a ?_
 simp -dsimp only [go_sem]
 refine(j0j a p _ hw).mono ?_
 rintro res st' ⟨rfl,rfl⟩
 by_cases h1:(Q0q a p).2=0
 rotate_left
 · have g1:((Q0q a p).2 !=0)=true:=by simpa using h1
   simp -dsimp only [go_sem,g1]
   exact hbad0 _ (K1r h1)
 have g1:((Q0q a p).2 !=0)=false:=by simpa using h1
 obtain⟨a1,hp,a3,a4,a5,a6, -, -⟩:=w0a h1
 have hb2:=K1q (p:=p) h1
 have hb3:=K1p (p:=p) h1
 have hb4:=K1o (p:=p) h1
 have hgo:=k1f (p:=p) h1
 simp -dsimp only [go_sem,g1]
 generalize (Q0q a p).1=X at*
 have hXl:=a3.1
 have wX:=a3.wQ a6
 have wa:=a4.wQ a6
 have hrX: ∀r∈ofM X,r.length=a.length:=fun r hr=>by
  unfold ofM ofB at hr
  simp only [List.mem_map] at hr
  obtain⟨x,hx,rfl⟩:=hr
  rw [List.length_map];exact(a3.2 x hx).1
 have cOf:=q2a X st' (by omega) (by omega) (fun r hr=>by rw [hXl];exact(a3.2 r hr).1) wX
 rw [hXl] at cOf
 refine cOf.mono ?_
 rintro res st1 ⟨A,ids,Z,rfl,rfl,hM,gA,gi⟩
 simp -dsimp only [go_sem]
 refine(y2s a _ wa).plain.mono ?_
 rintro res st1 ⟨rfl,rfl⟩
 simp -dsimp only [go_sem]
 have cR:=K2z (ofM X) (ofM a) p [] (X1e wX) (X1e wa)
 rw [G2h] at cR
 refine(K2r hM hrX cR (.tup _ fun c hc=> ?_) fun q hq=> ?_).mono ?_
 · rcases List.mem_cons.1 hc with rfl | hc
   · exact .agg _ (Z2n _)
   · rw [List.mem_singleton.1 hc];exact .sc _
 · rcases List.mem_cons.1 hq with rfl | hq
   · exact K3j _ _
   · rw [List.mem_singleton.1 hq];exact .sc _
 rintro res st1 ⟨rfl,rfl⟩
 by_cases h2:(J0h X a p).2=0
 rotate_left
 · have g2:((J0h X a p).2 !=0)=true:=by simpa using h2
   simp -dsimp only [go_sem,g2]
   exact hbad Z _ (hb2 h2)
 have g2:((J0h X a p).2 !=0)=false:=by simpa using h2
 have hb3:=hb3 h2
 have hb4:=hb4 h2
 have hgo:=hgo h2
 have hro:=W1o a3 a4 a5 a6 h2
 have hre:=hro.2.1
 have he0:=hro.1
 simp -dsimp only [go_sem,g2]
 clear hb2 cR cOf hro
 generalize (J0h X a p).1=e at*
 have wre:=Q0u hre
 have w1:wN oneN:=Q0u Y0q
 unfold wN at wre w1
 refine Q0k Z0f 106 (.step 0 [] (.step 1 [0] (.step 2 [] (.step 3 [] (.done))))) (by decide+kernel) (by simp) ?_
 simp -dsimp only [go_sem]
 refine(q0y _).mono ?_
 rintro res st1 ⟨rfl,rfl⟩
 simp -dsimp only [go_sem]
 refine(Y1a e oneN _ (by omega) (by omega)).mono ?_
 rintro res st1 ⟨rfl,rfl⟩
 simp -dsimp only [go_sem]
 refine ck (fun h3=> ?_) (fun h3=> ?_)
 · have h3:=of_decide_eq_true h3
   simp -dsimp only [go_sem]
   exact hbad Z _ (hb3 h3)
 have h3:=of_decide_eq_false h3
 have he1:qN e<1:=by
  rw [Y0u hre Y0q] at h3
  have:=cmpN_lt.1 (Int.not_le.1 h3)
  rwa [k0u] at this
 have hb4:=hb4 h3
 have hgo:=hgo h3
 have cD:=x1r (ofM X) e p [] (a3.rightM a5 a6) hre hp
 rw [w2q] at cD
 simp -dsimp only [go_sem]
 refine(K2r hM hrX cD (.tup _ fun c hc=> ?_) fun q hq=> ?_).mono ?_
 · rcases List.mem_cons.1 hc with rfl | hc
   · exact .agg _ (Z2n _)
   · rw [List.mem_singleton.1 hc];exact .sc _
 · rcases List.mem_cons.1 hq with rfl | hq
   · exact .agg fun c hc=>k1d e c hc
   · rw [List.mem_singleton.1 hq];exact .sc _
 rintro res st1 ⟨rfl,rfl⟩
 by_cases h4:(radQ X e p).2=0
 rotate_left
 · have g4:((radQ X e p).2 !=0)=true:=by simpa using h4
   simp -dsimp only [go_sem,g4]
   exact hbad Z _ (hb4 h4)
 have g4:((radQ X e p).2 !=0)=false:=by simpa using h4
 have hgo:=hgo h4
 obtain⟨hq0,hqr⟩:=J2d hp he0 he1 h4
 simp -dsimp only [go_sem,g4]
 clear hb3 hb4 cD
 generalize (radQ X e p).1=q at*
 have wq:=Q0u hqr
 have hGe:=fun i j=>U2q (entQ X i j) q p
 have lR:(ofM X).length=a.length:=by unfold ofM;rw [List.length_map];exact hXl
 have lS:=H1r (fun i j=>K0r (entQ X i j) q p) a.length
 have hbad2: ∀(V:Q0f) i j,i<a.length→j<a.length→(K0r (entQ X i j) q p).2=2→_:=fun V i j hi hj h=>hbad V 2 (by rw [hgo];exact V2k (by decide) hGe hi hj h)
 refine Q0e [false,true,false,false,false,false,false,false,true,false,true,false,false,false,false,false,false,false,false,false,false,false,false,false,false,false,false,false,false,false,false,false,false,false,false,false,false,false,false,false,false,false,false,false,false,false,false,false,false,false,false,false,false,false,true,true,true] 2 0
  (fun m s=> ∃(i:Nat) (V:Q0f) (cur:Mx),cur=(z0i (fun i j=>K0r (entQ X i j) q p) a.length).take i++(ofM X).drop i∧m=a.length-i∧i≤a.length∧MatO (st'++V) A ids a.length (U0p cur)∧(∀i',i'<i→ ∀j,j<a.length→(K0r (entQ X i' j) q p).2=0)∧
   s=⟨[.junk,.sc (.int .i64 p),.junk,.junk,.junk,.junk,.junk,.junk,.ms true A 0 a.length,.junk,.lp 1 0,.junk,.junk,.junk,.junk,.junk,.junk,.junk,.junk,.junk,.junk,.junk,.junk,.junk,.junk,.junk,.junk,.junk,.junk,.junk,.junk,.junk,.junk,.junk,.junk,.junk,.junk,.junk,.junk,.junk,.junk,.junk,.junk,.junk,.junk,.junk,.junk,.junk,.junk,.junk,.junk,.junk,.junk,.junk,.sl .no (encQ X),.sc (.int .i64 a.length),.sc (.int .i64 (i:Nat))]++List.replicate 49 .junk,[encN e,encN q],[],st'++V⟩) a.length ?_ ?_
 · simp -dsimp only [go_sem,hXl]
   exact⟨0,Z,by omega,by omega,by simpa using hM,fun i' hi=>by omega,rfl⟩
 clear hM
 rintro m s ⟨i,V,cur,hcur,rfl,hi,hM,hok,rfl⟩
 simp -dsimp only [go_sem]
 refine ck (fun h5=> ?_) (fun h5=> ?_)
 rotate_left
 · have hge:i=a.length:=by have:=of_decide_eq_false h5;omega
   subst hge
   have hcS:cur=z0i (fun i j=>K0r (entQ X i j) q p) a.length:=by rw [hcur,List.take_of_length_le (by omega),List.drop_of_length_le (by omega),List.append_nil]
   have hfin:=z2o (G:=fun i j=>K0r (entQ X i j) q p) fun i j hi hj=>hok i hi j hj
   rw [←hgo,←hcS] at hfin
   refine Q0a ?_
   simp -dsimp only [go_sem]
   obtain⟨w1,w2⟩:=hM.seenI fun r hr=>by
    obtain⟨i,hi,rfl⟩:=List.mem_iff_getElem.1 hr
    have hl:=hM.len
    have:cur.getD i []=cur[i]:=by rw [List.getD_eq_getElem?_getD,List.getElem?_eq_getElem hi];rfl
    rw [←this,hcS]
    exact V1n (by omega)
   exact⟨V,_,_,rfl,H0l w1 (.sc _),fun k hk=>w2 k (by rw [List.length_append];exact hk),fun k hk=>hM.zero gA gi k hk (by rw [List.length_append];omega),rfl,rfl,by rw [hfin]⟩
 have hlt:i<a.length:=by have:=of_decide_eq_true h5;omega
 have x2:=X0y i (by omega)
 have eQ:=V0f X i (by omega)
 have hrl:=(a3.row hlt).1
 have pI:=j0d ([]:List Ivl) (z0i (fun i j=>K0r (entQ X i j) q p) a.length) (ofM X) (by omega) (show i<(ofM X).length by omega)
 rw [←hcur] at pI
 have hRi:(ofM X).getD i []=ofB (X.getD i []):=W1w (by omega)
 have lRi:((ofM X).getD i []).length=a.length:=by rw [hRi];unfold ofB;rw [List.length_map];exact hrl
 have lSi:=V1n (G:=fun i j=>K0r (entQ X i j) q p) hlt
 have hcl:=hM.len
 simp -dsimp only [go_sem,eQ]
 refine⟨by omega,?_⟩
 refine Q0e [false,true,false,false,false,false,false,false,true,false,true,true,false,false,false,false,false,false,false,false,false,false,false,false,false,false,false,false,false,false,false,false,false,false,false,false,false,false,false,false,false,false,false,false,false,false,false,false,false,false,false,false,false,false,true,true,true,false,false,false,false,true,true,true] 2 0
  (fun m s=> ∃(j:Nat) (V:Q0f) (D:List Ivl),D=((z0i (fun i j=>K0r (entQ X i j) q p) a.length).getD i []).take j++((ofM X).getD i []).drop j∧m=a.length-j∧j≤a.length∧MatO (st'++V) A ids a.length (U0p (cur.set i D))∧(∀j',j'<j→(K0r (entQ X i j') q p).2=0)∧
   s=⟨[.junk,.sc (.int .i64 p),.junk,.junk,.junk,.junk,.junk,.junk,.ms true A 0 a.length,.junk,.lp 1 0,.sc (.int .i64 (i:Nat)),.junk,.junk,.junk,.junk,.junk,.junk,.junk,.junk,.junk,.junk,.junk,.junk,.junk,.junk,.junk,.junk,.junk,.junk,.junk,.junk,.junk,.junk,.junk,.junk,.junk,.junk,.junk,.junk,.junk,.junk,.junk,.junk,.junk,.junk,.junk,.junk,.junk,.junk,.junk,.junk,.junk,.junk,.sl .no (encQ X),.sc (.int .i64 a.length),.sc (.int .i64 (i:Nat)),.junk,.junk,.junk,.junk,.sl .no (Z0b (X.getD i [])),.sc (.int .i64 a.length),.sc (.int .i64 (j:Nat))]++List.replicate 42 .junk,[encN e,encN q],[],st'++V⟩) a.length ?_ ?_
 · simp -dsimp only [go_sem,hrl]
   refine⟨0,V,by omega,by omega,?_,fun j' hj=>by omega,rfl⟩
   rw [List.take_zero,List.nil_append,List.drop_zero,←pI.2.1]
   have:cur.set i (cur.getD i [])=cur:=by
    rw [List.getD_eq_getElem?_getD,List.getElem?_eq_getElem (show i<cur.length by omega)]
    exact List.set_getElem_self _
   rw [this];exact hM
 clear hM
 rintro m s ⟨j,V,D,hD,rfl,hj,hM,hokj,rfl⟩
 simp -dsimp only [go_sem]
 refine ck (fun h6=> ?_) (fun h6=> ?_)
 · have hjn:j<a.length:=by have:=of_decide_eq_true h6;omega
   have x3:=X0y j (by omega)
   have eN:=J0w (X.getD i []) j (by omega)
   have pJ:=j0d (default:Ivl) ((z0i (fun i j=>K0r (entQ X i j) q p) a.length).getD i []) ((ofM X).getD i []) (by omega) (show j<((ofM X).getD i []).length by omega)
   rw [←hD,z2m hlt hjn] at pJ
   have hyr:=(a3.row hlt).2 _ (Q0s (X.getD i []) j default (by omega))
   have wy:=Q0u hyr
   have hbj:=hbad2 V i j hlt hjn
   have hok1:(X.getD i []).getD j default=entQ X i j:=rfl
   have sb:=U1s (y:=(X.getD i []).getD j default) (q:=q) (p:=p)
   have sg:=K1s (y:=(X.getD i []).getD j default) (q:=q) (p:=p)
   have e1:=Q1i (k:=1) (up:=false) hyr hqr hp
   have e0:=Q1i (k:=0) (up:=true) hyr hqr hp
   have wlo:=Q0u (Z0k 1 ((X.getD i []).getD j default) q p false)
   have whi:=Q0u (Z0k 0 ((X.getD i []).getD j default) q p true)
   simp -dsimp only [go_sem,eN]
   refine⟨by omega,?_⟩
   refine(Q1g _ q p false _ wy wq).mono ?_
   rintro res st1 ⟨rfl,rfl⟩
   by_cases f1:(Q0t 1 ((X.getD i []).getD j default) q p false).2=0
   · have k1:((Q0t 1 ((X.getD i []).getD j default) q p false).2 !=0)=false:=by simpa using f1
     simp -dsimp only [go_sem,k1]
     refine(k1k _ q p true _ wy wq).mono ?_
     rintro res st1 ⟨rfl,rfl⟩
     by_cases f0:(Q0t 0 ((X.getD i []).getD j default) q p true).2=0
     · have k0:((Q0t 0 ((X.getD i []).getD j default) q p true).2 !=0)=false:=by simpa using f0
       have hmk:K2n (Q0t 1 ((X.getD i []).getD j default) q p false).1 (Q0t 0 ((X.getD i []).getD j default) q p true).1=(⟨(Q0t 1 ((X.getD i []).getD j default) q p false).1,(Q0t 0 ((X.getD i []).getD j default) q p true).1⟩,0):=by
        unfold K2n
        rw [if_pos (w1y hq0 f1 f0)]
       have cM:=q2v (Q0t 1 ((X.getD i []).getD j default) q p false).1 (Q0t 0 ((X.getD i []).getD j default) q p true).1 (st'++V) wlo whi
       rw [hmk] at cM
       simp -dsimp only [go_sem,k0]
       have t:=hM.tI hlt
       have t1:=t.1
       have t2:=t.2
       refine Q0k Z0f 106 (.step 0 [] (.step 1 [] (.step 2 [] (.step 3 [] (.step 4 [] (.step 5 [] (.step 6 [] (.step 7 [3] (.step 8 [] (.step 9 [] (.step 10 [] (.step 11 [] (.step 12 [] (.step 13 [] (.done))))))))))))))) (by decide+kernel) (by simp) ?_
       simp -dsimp only [go_sem,t1]
       refine⟨⟨by omega,hlt⟩,t2,?_⟩
       refine cM.mono ?_
       rintro res st1 ⟨rfl,rfl⟩
       simp -dsimp only [go_sem,x3]
       have lD:D.length=a.length:=by rw [pJ.1];exact lRi
       have hrow:=hM.rowI_at hlt
       have eD:(cur.set i D).getD i []=D:=Q0p _ _ _ _ (by rw [pI.1];omega)
       rw [eD] at hrow
       have hlen:j*6+6≤((st'++V).getD (ids.getD i 0) []).length:=by
        obtain⟨R,hR⟩:=hrow.2
        rw [hR,List.length_append,Z1h,lD];omega
       have hsg:=sg f1 f0
       rw [hok1] at hsg
       have hstp:=hM.stepI hlt lD hjn (K0r (entQ X i j) q p).1
       rw [pJ.2.2,hsg] at hstp
       have gid:st'.length≤ids.getD i 0:=gi _ (K0c (by rw [hM.lid];exact hlt))
       rw [List.set_append_right _ _ gid] at hstp
       refine⟨⟨t2,t1.symm⟩,⟨by omega,hjn⟩,⟨hlen,by omega⟩,a.length-(j+1),by omega,j+1,_,rfl,by omega,hstp,fun j' hj'=> ?_,by rw [←List.set_append_right _ _ gid];rfl⟩
       by_cases ej:j'=j
       · subst ej;rw [hsg]
       · exact hokj j' (by omega)
     · have k0:((Q0t 0 ((X.getD i []).getD j default) q p true).2 !=0)=true:=by simpa using f0
       have hE:(Q0t 0 ((X.getD i []).getD j default) q p true).2=2:=e0.resolve_left f0
       simp -dsimp only [go_sem,k0]
       rw [hE];exact hbj (sb (.inr f0))
   · have k1:((Q0t 1 ((X.getD i []).getD j default) q p false).2 !=0)=true:=by simpa using f1
     have hE:(Q0t 1 ((X.getD i []).getD j default) q p false).2=2:=e1.resolve_left f1
     simp -dsimp only [go_sem,k1]
     rw [hE];exact hbj (sb (.inl f1))
 · have hge:j=a.length:=by have:=of_decide_eq_false h6;omega
   subst hge
   simp -dsimp only [go_sem]
   have hDS:D=(z0i (fun i j=>K0r (entQ X i j) q p) a.length).getD i []:=by rw [hD,List.take_of_length_le (by omega),List.drop_of_length_le (by omega),List.append_nil]
   refine Q0a ?_
   simp -dsimp only [go_sem,x2]
   refine⟨a.length-(i+1),by omega,i+1,V,?_⟩
   rw [←pI.2.2,←hDS]
   refine⟨rfl,by omega,hM,fun i' hi'=> ?_,rfl⟩
   by_cases ei:i'=i
   · subst ei;exact hokj
   · exact hok i' (by omega)
end Go.Pv
end
