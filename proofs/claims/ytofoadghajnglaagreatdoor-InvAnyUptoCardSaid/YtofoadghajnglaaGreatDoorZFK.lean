/- Parts of the walk: N153, N154. -/
import Derived.Test.YtofoadghajnglaaGreatDoorZFJ
import Derived.Test.YtofoadghajnglaaGreatDoorZFI
import Derived.Test.YtofoadghajnglaaGreatDoorZAR
set_option linter.unusedVariables false
set_option linter.unusedSimpArgs false
section
/-The document's Sure. -/
set_option maxRecDepth 100000
namespace Go.Pv
open Go.Proofs
theorem w2b {x a:List (List Nm)} {p:Int} (h:(mulM (ofM x) (ofM a) p).2≠0):J0d x a p=(default,(mulM (ofM x) (ofM a) p).2):=by unfold J0d;rw [if_pos h]
theorem w2a {x a:List (List Nm)} {p:Int} (h:(mulM (ofM x) (ofM a) p).2=0) (h2:(opM 1 (idM (x.length:Int)) (mulM (ofM x) (ofM a) p).1 p).2≠0):J0d x a p=(default,(opM 1 (idM (x.length:Int)) (mulM (ofM x) (ofM a) p).1 p).2):=by unfold J0d;rw [if_neg (fun e=>e h),if_pos h2]
theorem v2z {x a:List (List Nm)} {p:Int} (h:(mulM (ofM x) (ofM a) p).2=0) (h2:(opM 1 (idM (x.length:Int)) (mulM (ofM x) (ofM a) p).1 p).2=0):J0d x a p=Z0y (opM 1 (idM (x.length:Int)) (mulM (ofM x) (ofM a) p).1 p).1 p:=by unfold J0d;rw [if_neg (fun e=>e h),if_neg (fun e=>e h2)]
theorem V3i {x:List (List Nm)} {e:Nm} {p:Int} (h:(Q0r 1 oneN e p false).2≠0):radQ x e p=(default,(Q0r 1 oneN e p false).2):=by unfold radQ;rw [if_pos h]
theorem V3h {x:List (List Nm)} {e:Nm} {p:Int} (h:(Q0r 1 oneN e p false).2=0) (h2:(Z0y (ofM x) p).2≠0):radQ x e p=(default,(Z0y (ofM x) p).2):=by unfold radQ;rw [if_neg (fun e=>e h),if_pos h2]
theorem V3g {x:List (List Nm)} {e:Nm} {p:Int} (h:(Q0r 1 oneN e p false).2=0) (h2:(Z0y (ofM x) p).2=0) (h3:(Q0r 2 (Z0y (ofM x) p).1 e p true).2≠0):radQ x e p=(default,(Q0r 2 (Z0y (ofM x) p).1 e p true).2):=by unfold radQ;rw [if_neg (fun e=>e h),if_neg (fun e=>e h2),if_pos h3]
theorem V3f {x:List (List Nm)} {e:Nm} {p:Int} (h:(Q0r 1 oneN e p false).2=0) (h2:(Z0y (ofM x) p).2=0) (h3:(Q0r 2 (Z0y (ofM x) p).1 e p true).2=0):radQ x e p=W0s (Q0r 2 (Z0y (ofM x) p).1 e p true).1 (Q0r 1 oneN e p false).1 p true:=by unfold radQ;rw [if_neg (fun e=>e h),if_neg (fun e=>e h2),if_neg (fun e=>e h3)]
theorem J1v {x:Int} (h:x≠0):(x !=0)=true:=by simpa using h
theorem J1w {x:Int} (h:x=0):(x !=0)=false:=by simpa using h
set_option maxHeartbeats 1000000 in
theorem X2l (a:List (List Nm)) (p:Int) (st:Q0f) (hw:wQs a):PCalls Tryz.prog 59 [.sl .no (encQ a),.sc (.int .i64 p)] st (fun r st'=>r= .tup [.sl .no (encM (J0y a p).1),.sc (.int .i64 (J0y a p).2)]∧st'=st):=by
 refine Q0b none Tryz.func59 rfl fun E=>Q0a ?_
 simp -dsimp only [go_sem]
 refine(Z1l a p _ hw).mono ?_
 rintro res st' ⟨rfl,rfl⟩
 by_cases h1:(Q0o a p).2=0
 rotate_left
 · have g1:=J1v h1
   rw [K1g h1]
   simp -dsimp only [go_sem,g1]
   try rfl
 have g1:=J1w h1
 obtain⟨a1,hp,a3,a4,a5,a6, -, -⟩:=v0t h1
 have hb2:=K1f (p:=p) h1
 have hb3:=K1e (p:=p) h1
 have hb4:=K1d (p:=p) h1
 have hgo:=j1w (p:=p) h1
 simp -dsimp only [go_sem,g1]
 generalize (Q0o a p).1=X at*
 have hXl:=a3.1
 have wX:=a3.wQ a6
 have wa:=a4.wQ a6
 refine(w0k X _ wX).plain.mono ?_
 rintro res st1 ⟨rfl,rfl⟩
 simp -dsimp only [go_sem]
 refine(w0k a _ wa).plain.mono ?_
 rintro res st1 ⟨rfl,rfl⟩
 simp -dsimp only [go_sem]
 refine(G2w (ofM X) (ofM a) p _ (Z1w wX) (Z1w wa)).mono ?_
 rintro res st1 ⟨rfl,rfl⟩
 by_cases m1:(mulM (ofM X) (ofM a) p).2=0
 rotate_left
 · have g:=J1v m1
   have hr:=w2b m1
   rw [hb2 (by rw [hr];exact m1),hr]
   simp -dsimp only [go_sem,g]
   try rfl
 have g:=J1w m1
 simp -dsimp only [go_sem,g]
 refine(k3s _ _).mono ?_
 rintro res st1 ⟨rfl,rfl⟩
 simp -dsimp only [go_sem]
 refine(w0k (oneQ a.length) _ (z1s _)).plain.mono ?_
 rintro res st1 ⟨rfl,rfl⟩
 rw [z1t,←hXl]
 simp -dsimp only [go_sem]
 refine(G2g (idM (X.length:Int)) (mulM (ofM X) (ofM a) p).1 p _ (by rw [←z1t];exact Z1w (z1s _)) (J2o _ _ _)).mono ?_
 rintro res st1 ⟨rfl,rfl⟩
 by_cases m2:(opM 1 (idM (X.length:Int)) (mulM (ofM X) (ofM a) p).1 p).2=0
 rotate_left
 · have g:=J1v m2
   have hr:=w2a m1 m2
   rw [hb2 (by rw [hr];exact m2),hr]
   simp -dsimp only [go_sem,g]
   try rfl
 have g:=J1w m2
 have hr:=v2z m1 m2
 simp -dsimp only [go_sem,g]
 refine(U1u (opM 1 (idM (X.length:Int)) (mulM (ofM X) (ofM a) p).1 p).1 p _ (j2j _ _ _ _)).mono ?_
 rintro res st1 ⟨rfl,rfl⟩
 rw [←hr]
 by_cases h2:(J0d X a p).2=0
 rotate_left
 · have g:=J1v h2
   rw [hb2 h2]
   simp -dsimp only [go_sem,g]
   try rfl
 have g:=J1w h2
 have hb3:=hb3 h2
 have hb4:=hb4 h2
 have hgo:=hgo h2
 have hro:=W1f a3 a4 a5 a6 h2
 have hre:=hro.2.1
 have he0:=hro.1
 clear hr m1 m2 hb2 hro
 simp -dsimp only [go_sem,g]
 generalize (J0d X a p).1=e at*
 have wre:=Q0s hre
 have w1:wN oneN:=Q0s Y0m
 have c1:=v0p e oneN st1 (by unfold wN at wre;omega) (by unfold wN at w1;omega)
 refine c1.mono ?_
 rintro res st2 ⟨rfl,rfl⟩
 simp -dsimp only [go_sem]
 refine ck (fun h3=> ?_) (fun h3=> ?_)
 · have h3:=of_decide_eq_true h3
   rw [hb3 h3]
   simp -dsimp only [go_sem]
   try rfl
 have h3:=of_decide_eq_false h3
 have he1:qN e<1:=by
  rw [Y0q hre Y0m] at h3
  have:=cmpN_lt.1 (Int.not_le.1 h3)
  rwa [k0p] at this
 have hb4:=hb4 h3
 have hgo:=hgo h3
 clear hb3 c1
 have c2:=q0l oneN e p false st2 w1 wre
 simp -dsimp only [go_sem]
 refine c2.mono ?_
 rintro res st1 ⟨rfl,rfl⟩
 by_cases k1:(Q0r 1 oneN e p false).2=0
 rotate_left
 · have g:=J1v k1
   have hr:=V3i (x:=X) k1
   rw [hb4 (by rw [hr];exact k1),hr]
   simp -dsimp only [go_sem,g]
   try rfl
 have g:=J1w k1
 simp -dsimp only [go_sem,g]
 refine(U1u (ofM X) p _ (Z1w wX)).mono ?_
 rintro res st2 ⟨rfl,rfl⟩
 by_cases k2:(Z0y (ofM X) p).2=0
 rotate_left
 · have g:=J1v k2
   have hr:=V3h (x:=X) k1 k2
   rw [hb4 (by rw [hr];exact k2),hr]
   simp -dsimp only [go_sem,g]
   try rfl
 have g:=J1w k2
 have rn:=(k0v k2).2.2.2.1
 have wn:=Q0s rn
 simp -dsimp only [go_sem,g]
 refine(y0i (Z0y (ofM X) p).1 e p true _ wn wre).mono ?_
 rintro res st1 ⟨rfl,rfl⟩
 by_cases k3:(Q0r 2 (Z0y (ofM X) p).1 e p true).2=0
 rotate_left
 · have g:=J1v k3
   have hr:=V3g (x:=X) k1 k2 k3
   rw [hb4 (by rw [hr];exact k3),hr]
   simp -dsimp only [go_sem,g]
   try rfl
 have g:=J1w k3
 have hr:=V3f (x:=X) k1 k2 k3
 simp -dsimp only [go_sem,g]
 have c3:=q0k (Q0r 2 (Z0y (ofM X) p).1 e p true).1 (Q0r 1 oneN e p false).1 p true st1 (Z0l _ _ _ _ _) (Z0l _ _ _ _ _) hp
 rw [←hr] at c3
 refine c3.mono ?_
 rintro res st2 ⟨rfl,rfl⟩
 by_cases h4:(radQ X e p).2=0
 rotate_left
 · have g:=J1v h4
   rw [hb4 h4]
   simp -dsimp only [go_sem,g]
   try rfl
 have g:=J1w h4
 have hgo:=hgo h4
 obtain⟨hq0,hqr⟩:=X2o hp he0 he1 h4
 simp -dsimp only [go_sem,g]
 clear hb4 hr c3 c2
 generalize (radQ X e p).1=q at*
 have wq:=Q0s hqr
 rw [hgo]
 generalize hG:(fun i j=>K0k (entQ X i j) q p)=G
 have hg: ∀i j,G i j=K0k (entQ X i j) q p:=fun i j=>by rw [←hG]
 refine X0c 15 1 ?_
 simp -dsimp only [go_sem]
 refine Q0e [false,true,false,false,false,false,true,false,false,false,false,false,false,false,true,true,true] 4 1
  (fun k s=> ∃(i:Nat) (o:Mx),k=a.length-i∧i≤a.length∧o.length=i∧Y0b G a.length=tabF (fun i=>tabF (fun j=>G i j) 0 a.length []) i (a.length-i) o∧
   s=⟨[.junk,.sc (.int .i64 p),.junk,.junk,.junk,.junk,.sl .no (encQ X),.junk,.junk,.junk,.junk,.junk,.junk,.junk,.lp 3 0,.sl (.own 0) (encM o),.sc (.int .i64 (i:Nat))]++List.replicate 150 .junk,[encN e,[.sc (.bool false),.sc (.int .i64 0),.sl .full [.sc (.int .u64 1)]],encN (Q0r 1 oneN e p false).1,encN q],[(o.length,1)],st2⟩) a.length ?_ ?_
 · simp -dsimp only [go_sem]
   exact⟨0,[],by omega,by omega,rfl,rfl,rfl⟩
 rintro k s ⟨i,o,rfl,hi,ho,hr,rfl⟩
 have x1:=X0u i (by omega)
 simp -dsimp only [go_sem]
 refine ck (fun h5=> ?_) (fun h5=> ?_)
 rotate_left
 · have hge:i=a.length:=by have:=of_decide_eq_false h5;omega
   simp -dsimp only [go_sem]
   refine Q0a ?_
   simp -dsimp only [go_sem]
   rw [hr,hge,H0b]
 have hlt:i<a.length:=by have:=of_decide_eq_true h5;omega
 have eQ:=V0j X i (by omega)
 have hrl:=(a3.row hlt).1
 have e4:=Y0u (fun i=>tabF (fun j=>G i j) 0 a.length []) hlt o
 simp -dsimp only [go_sem]
 refine X0c 17 6 ?_
 simp -dsimp only [go_sem]
 refine Q0e [false,true,false,false,false,false,true,false,false,false,false,false,false,false,true,true,true,true,true] 4 2
  (fun k s=> ∃(j:Nat) (r:List Ivl),k=a.length-j∧j≤a.length∧r.length=j∧tabF (fun j=>G i j) 0 a.length []=tabF (fun j=>G i j) j (a.length-j) r∧
   s=⟨[.junk,.sc (.int .i64 p),.junk,.junk,.junk,.junk,.sl .no (encQ X),.junk,.junk,.junk,.junk,.junk,.junk,.junk,.lp 3 0,.sl (.own 0) (encM o),.sc (.int .i64 (i:Nat)),.sl (.own 1) (Z0d r),.sc (.int .i64 (j:Nat))]++List.replicate 148 .junk,[encN e,[.sc (.bool false),.sc (.int .i64 0),.sl .full [.sc (.int .u64 1)]],encN (Q0r 1 oneN e p false).1,encN q],[(o.length,1),(r.length,6)],st2⟩) a.length ?_ ?_
 · simp -dsimp only [go_sem]
   exact⟨0,[],by omega,by omega,rfl,rfl,rfl⟩
 rintro k s ⟨j,r,rfl,hj,hrl2,hrr,rfl⟩
 have x2:=X0u j (by omega)
 simp -dsimp only [go_sem]
 refine ck (fun h6=> ?_) (fun h6=> ?_)
 rotate_left
 · have hge:j=a.length:=by have:=of_decide_eq_false h6;omega
   have q1:tabF (fun j=>G i j) 0 a.length []=(r,0):=by rw [hrr,hge];exact H0b _ _ r
   simp -dsimp only [go_sem]
   refine Q0a ?_
   simp -dsimp only [go_sem]
   refine⟨⟨by omega,by omega⟩,Q0a ?_⟩
   simp -dsimp only [go_sem,x1]
   refine⟨a.length-(i+1),by omega,i+1,o++ [r],rfl,by omega,by simp [ho],?_,?_⟩
   · rw [hr,e4,q1,if_neg (by simp)]
   · simp
 have hjn:j<a.length:=by have:=of_decide_eq_true h6;omega
 have eN:=J0q (X.getD i []) j (by omega)
 have f4:=Y0u (fun j=>G i j) hjn r
 have hyr:=(a3.row hlt).2 _ (Q0p (X.getD i []) j default (by omega))
 have wy:=Q0s hyr
 have hok1:(X.getD i []).getD j default=entQ X i j:=rfl
 have sb:=U1d (y:=(X.getD i []).getD j default) (q:=q) (p:=p)
 have sg:=K1h (y:=(X.getD i []).getD j default) (q:=q) (p:=p)
 have cL:=q0l ((X.getD i []).getD j default) q p false st2 wy wq
 have cH:=y0j ((X.getD i []).getD j default) q p true st2 wy wq
 simp -dsimp only [go_sem]
 refine Q0j Z0g 167 (.step 0 [] (.step 1 [] (.step 2 [] (.step 3 [] (.step 4 [] (.step 5 [] (.step 6 [] (.step 7 [] (.step 8 [] (.alt (.step 9 [] (.step 10 [] (.step 11 [] (.step 12 [] (.step 13 [3,6,7] (.step 14 [] (.step 15 [] (.done)))))))) (.step 13 [3,6,7] (.step 9 [] (.step 10 [] (.step 11 [] (.step 12 [] (.step 14 [] (.step 15 [] (.done)))))))))))))))))) (by decide+kernel) (by simp) ?_
 simp -dsimp only [go_sem,eQ,eN]
 refine⟨by omega,⟨by omega,by omega⟩,?_⟩
 refine And.intro ?_ ?_
 all_goals
  first | refine cL.mono ?_ | skip
  rintro res st3 ⟨rfl,rfl⟩
  simp -dsimp only [go_sem,eQ,eN]
  refine Q0j Z0g 167 (.step 0 [] (.step 1 [] (.step 2 [] (.step 3 [] (.step 4 [] (.step 5 [] (.step 6 [] (.step 7 [] (.step 8 [] (.alt (.step 9 [] (.step 10 [] (.step 11 [] (.step 12 [] (.step 13 [3,6,7] (.step 14 [] (.step 15 [] (.done)))))))) (.step 13 [3,6,7] (.step 9 [] (.step 10 [] (.step 11 [] (.step 12 [] (.step 14 [] (.step 15 [] (.done)))))))))))))))))) (by decide+kernel) (by simp) ?_
  simp -dsimp only [go_sem,eQ,eN]
  refine⟨by omega,⟨by omega,by omega⟩,?_⟩
  refine And.intro ?_ ?_
  all_goals
   first | refine cH.mono ?_ | skip
   rintro res st4 ⟨rfl,rfl⟩
   by_cases f1:(Q0r 1 ((X.getD i []).getD j default) q p false).2=0
   · have b1:=J1w f1
     by_cases f0:(Q0r 0 ((X.getD i []).getD j default) q p true).2=0
     · have b0:=J1w f0
       have hsg:=sg f1 f0
       rw [hok1,←hg] at hsg
       have hz:(G i j).2=0:=by rw [hsg]
       have hv:(G i j).1=⟨(Q0r 1 ((X.getD i []).getD j default) q p false).1,(Q0r 0 ((X.getD i []).getD j default) q p true).1⟩:=by rw [hsg];rfl
       simp -dsimp only [go_sem,eQ,eN,b1,b0,x2]
       refine⟨⟨by omega,by omega⟩,a.length-(j+1),by omega,j+1,r++ [(G i j).1],rfl,by omega,by simp [hrl2],?_,?_⟩
       · rw [hrr,f4,if_neg (fun hh=>hh hz)]
       · rw [hv];simp [Z0d,encI]
     · have b0:=J1v f0
       have hs2:=sb (.inr f0)
       rw [hok1,←hg] at hs2
       have q1:tabF (fun j=>G i j) 0 a.length []=([],2):=by rw [hrr,f4,if_pos (by rw [hs2];decide),hs2]
       simp -dsimp only [go_sem,eQ,eN,b1,b0]
       rw [hr,e4,if_pos (by rw [q1];decide),q1]
       rfl
   · have b1:=J1v f1
     have hs2:=sb (.inl f1)
     rw [hok1,←hg] at hs2
     have q1:tabF (fun j=>G i j) 0 a.length []=([],2):=by rw [hrr,f4,if_pos (by rw [hs2];decide),hs2]
     simp -dsimp only [go_sem,eQ,eN,b1]
     rw [hr,e4,if_pos (by rw [q1];decide),q1]
     rfl
end Go.Pv
end
section
/-Layer 8:both,light,known. -/
set_option maxRecDepth 100000
namespace Go.Pv
open Go.Proofs
theorem q1h (a:List (List Nm)) (p:Int):wQ (Q0o a p).1:=by
 by_cases h:(Q0o a p).2=0
 · obtain⟨-, -,a3, -, -,a6, -, -⟩:=v0t h
   exact a3.wQ a6
 · rw [q1j h];exact⟨by simp,fun i hi=>by simp at hi⟩
theorem Y2v {a:List (List Nm)} {p:Int} (h:(J0y a p).2=0):rightM (J0y a p).1=true:=by
 obtain⟨⟨-,h1,h4, -⟩,hl, -,hs⟩:=q1w h
 refine rightM_iff.2 ⟨fun i hi=> ?_,by omega,by omega⟩
 rw [hl] at hi⊢
 refine⟨(hs i hi).1,Z1f (fun j hj=> ?_) (by rw [(hs i hi).1];omega) (by rw [(hs i hi).1];omega)⟩
 rw [(hs i hi).1] at hj
 exact((hs i hi).2 j hj).1
theorem j1v (a:List (List Nm)) (p:Int):wM (J0y a p).1:=by
 by_cases h:(J0y a p).2=0
 · exact U1o (Y2v h)
 · rw [w1o h];exact⟨by simp,fun i hi=>by simp at hi⟩
set_option maxHeartbeats 1000000 in
theorem Z3t (a:List (List Nm)) (p:Int) (st:Q0f) (hw:wQs a):PCalls Tryz.prog 15 [.sl .no (encQ a),.sc (.int .i64 p)] st (fun r st'=>r= .sc (.bool true)∧st'=st):=by
 refine Q0b none Tryz.func15 rfl fun E=>Q0a ?_
 simp -dsimp only [go_sem]
 refine(j0e a p _ hw).mono ?_
 rintro res st' ⟨rfl,rfl⟩
 simp -dsimp only [go_sem]
 refine(X1d a p _ hw).mono ?_
 rintro res st' ⟨rfl,rfl⟩
 simp -dsimp only [go_sem]
 refine(Z1l a p _ hw).mono ?_
 rintro res st' ⟨rfl,rfl⟩
 simp -dsimp only [go_sem]
 refine(X2l a p _ hw).mono ?_
 rintro res st' ⟨rfl,rfl⟩
 have g1:((Q0o a p).2==(Q0o a p).2)=true:=beq_self_eq_true _
 have g2:((J0y a p).2==(J0y a p).2)=true:=beq_self_eq_true _
 simp -dsimp only [go_sem,g1,g2]
 refine(v2x _ _ _ (q1h a p) (q1h a p)).mono ?_
 rintro res st' ⟨rfl,rfl⟩
 simp -dsimp only [go_sem]
 refine(Z2y _ _ _ (j1v a p) (j1v a p)).mono ?_
 rintro res st' ⟨rfl,rfl⟩
 simp -dsimp only [go_sem]
 try simp
set_option maxHeartbeats 1000000 in
theorem H2n (a:List (List Nm)) (st:Q0f) (hw:wQs a):PCalls Tryz.prog 14 [.sl .no (encQ a)] st (fun r st'=> ∃b,r= .sc (.bool b)∧st'=st):=by
 obtain⟨hl,hw⟩:=hw
 refine Q0b none Tryz.func14 rfl fun E=>Q0a ?_
 simp -dsimp only [go_sem]
 refine ck (fun h=> ?_) (fun h=> ?_)
 · simp -dsimp only [go_sem]
   exact⟨_,rfl⟩
 simp -dsimp only [go_sem]
 refine Q0e [true,false,false,true] 0 0 (fun m s=> ∃i,m=a.length-i∧i≤a.length∧s=⟨[.sl .no (encQ a),.junk,.junk,.sc (.int .i64 (i:Nat))]++List.replicate 35 .junk,[],[],st⟩) a.length ?_ ?_
 · simp -dsimp only [go_sem]
   exact⟨0,by omega,by omega,rfl⟩
 rintro m s ⟨i,rfl,hi,rfl⟩
 simp -dsimp only [go_sem]
 refine ck (fun h1=> ?_) (fun h1=> ?_)
 rotate_left
 · simp -dsimp only [go_sem]
   refine Q0a ?_
   simp -dsimp only [go_sem]
   exact⟨_,rfl⟩
 have hlt:i<a.length:=by have:=of_decide_eq_true h1;omega
 have x1:=X0u i (by omega)
 have eQ:=V0j a i hlt
 have hwi:=hw i hlt
 have hli:=hwi.1
 simp -dsimp only [go_sem,eQ]
 refine⟨by omega,?_⟩
 refine ck (fun h2=> ?_) (fun h2=> ?_)
 · simp -dsimp only [go_sem]
   exact⟨_,rfl⟩
 simp -dsimp only [go_sem]
 refine Q0e [true,false,false,true,true] 0 0 (fun m s=> ∃j,m=(a.getD i []).length-j∧j≤(a.getD i []).length∧s=⟨[.sl .no (encQ a),.junk,.junk,.sc (.int .i64 (i:Nat)),.sc (.int .i64 (j:Nat))]++List.replicate 34 .junk,[],[],st⟩) (a.getD i []).length ?_ ?_
 · simp -dsimp only [go_sem]
   exact⟨0,by omega,by omega,rfl⟩
 rintro m s ⟨j,rfl,hj,rfl⟩
 simp -dsimp only [go_sem,eQ]
 refine⟨by omega,?_⟩
 refine ck (fun h3=> ?_) (fun h3=> ?_)
 rotate_left
 · simp -dsimp only [go_sem]
   refine Q0a ?_
   simp -dsimp only [go_sem,x1]
   exact⟨a.length-(i+1),by omega,i+1,rfl,by omega,rfl⟩
 have hjn:j<(a.getD i []).length:=by have:=of_decide_eq_true h3;omega
 have x2:=X0u j (by omega)
 have eN:=J0q (a.getD i []) j hjn
 simp -dsimp only [go_sem,eQ,eN]
 refine⟨⟨by omega,hlt⟩,⟨by omega,hjn⟩,?_⟩
 refine ck (fun h4=> ?_) (fun h4=> ?_)
 · simp -dsimp only [go_sem]
   exact⟨_,rfl⟩
 · simp -dsimp only [go_sem,x2]
   exact⟨(a.getD i []).length-(j+1),by omega,j+1,rfl,by omega,rfl⟩
def H2t :Nm:=⟨false,1,[1]⟩
def V0y :Nm:=⟨false, -1,[1]⟩
theorem k8a :Q0o [[H2t]] 16=([[V0y]],0):=by decide+kernel
theorem k8b :J0y [[H2t]] 16=([[⟨V0y,V0y⟩]],0):=by decide+kernel
theorem k8c :J0y [[default]] 16=([],3):=by decide+kernel
theorem k8h :hasI ⟨V0y,V0y⟩ V0y=true:=by decide+kernel
theorem k8w (x:Nm) (h:Q0h x=true):wQs [[x]]:=⟨by simp,fun i hi=>by
 have:i=0:=by simpa using hi
 subst this
 refine⟨by simp,fun j hj=> ?_⟩
 have:j=0:=by simpa using hj
 subst this
 exact Q0s h⟩
set_option maxHeartbeats 1000000 in
theorem H2r (st:Q0f):PCalls Tryz.prog 13 [] st (fun r st'=>r= .sc (.bool true)∧st'=st):=by
 have c1:=j0e [[H2t]] 16 st (k8w _ (by decide))
 have c2:=X1d [[H2t]] 16 st (k8w _ (by decide))
 have c3:=X1d [[default]] 16 st (k8w _ (by decide))
 rw [k8a] at c1
 rw [k8b] at c2
 rw [k8c] at c3
 refine Q0b none Tryz.func13 rfl fun E=>Q0a ?_
 simp -dsimp only [go_sem]
 refine c1.mono ?_
 rintro res st' ⟨rfl,rfl⟩
 simp -dsimp only [go_sem]
 refine c2.mono ?_
 rintro res st' ⟨rfl,rfl⟩
 simp -dsimp only [go_sem]
 refine c3.mono ?_
 rintro res st' ⟨rfl,rfl⟩
 simp -dsimp only [go_sem]
 have z0:((0:Int)==0)=true:=rfl
 have z1:(((1:Nat):Int)==1)=true:=rfl
 have z2:((-1:Int)== -1)=true:=rfl
 have z3:((3:Int)==3)=true:=rfl
 have e1:(encQ [[V0y]]).getD 0 .junk= .sl .no (Z0c [V0y]):=rfl
 have e2:(Z0c [V0y]).getD 0 .junk= .agg (encN ⟨false, -1,[1]⟩):=rfl
 have e3:(encM [[(⟨V0y,V0y⟩:Ivl)]]).getD 0 .junk= .sl .no (Z0d [⟨V0y,V0y⟩]):=rfl
 have e4:(Z0d [(⟨V0y,V0y⟩:Ivl)]).getD 0 .junk= .agg (encI ⟨⟨false, -1,[1]⟩,⟨false, -1,[1]⟩⟩):=rfl
 refine Q0j Z0g 87 (.step 0 [] (.step 1 [] (.step 2 [] (.step 3 [] (.step 4 [] (.step 5 [] (.step 6 [] (.step 7 [] (.step 8 [] (.step 9 [] (.step 10 [] (.step 11 [] (.step 12 [] (.step 13 [] (.step 14 [] (.step 15 [] (.step 16 [] (.step 17 [] (.step 18 [] (.step 19 [] (.step 20 [] (.step 21 [] (.step 22 [] (.step 23 [] (.step 24 [] (.step 25 [] (.step 26 [] (.step 27 [] (.step 28 [] (.step 29 [] (.step 30 [] (.step 31 [] (.step 32 [] (.step 33 [] (.step 34 [] (.step 35 [] (.step 36 [] (.step 37 [] (.step 38 [] (.step 39 [] (.step 40 [] (.step 41 [] (.step 42 [] (.step 43 [] (.step 44 [] (.step 45 [] (.step 46 [] (.step 47 [] (.step 48 [] (.step 49 [] (.step 50 [] (.step 51 [] (.step 52 [] (.step 53 [] (.step 54 [18,25,28,39] (.step 55 [] (.step 56 [] (.done)))))))))))))))))))))))))))))))))))))))))))))))))))))))))) (by decide+kernel) (by simp) ?_
 simp -dsimp only [go_sem,z0,z1,z2,z3,e1,e2,e3,e4]
 refine(y2s ⟨V0y,V0y⟩ V0y _ ⟨Q0s (by decide),Q0s (by decide)⟩ (Q0s (by decide))).mono ?_
 rintro res st' ⟨rfl,rfl⟩
 rw [k8h]
 simp -dsimp only [go_sem,z0,z1,z2,z3,e1,e2,e3,e4]
theorem q2c (a:List (List Nm)) (p:Int) (hw:wQs a):PCalls Tryz.prog 3 [.sl .no (encQ a),.sc (.int .i64 p)] [] (fun r st'=>r= .sc (.bool true)):=by
 refine Q0b none Tryz.func3 rfl fun E=>Q0a ?_
 simp -dsimp only [go_sem]
 refine(H2r _).mono ?_
 rintro res st' ⟨rfl,rfl⟩
 simp -dsimp only [go_sem]
 refine(H2n a _ hw).mono ?_
 rintro res st' ⟨b,rfl,rfl⟩
 cases b with
 | false=>
  simp -dsimp only [go_sem]
 | true=>
  simp -dsimp only [go_sem]
  refine(Z3t a p _ hw).mono ?_
  rintro res st' ⟨rfl,rfl⟩
  simp -dsimp only [go_sem]
end Go.Pv
end
