/- Parts of the walk: N153, N154, N155. -/
import Derived.Test.YtofoadghajnglaaGreatDoorZFJ
import Derived.Test.YtofoadghajnglaaGreatDoorZFI
import Derived.Test.YtofoadghajnglaaGreatDoorZAR
set_option linter.unusedVariables false
set_option linter.unusedSimpArgs false
section
/-The document's Sure. -/
set_option maxRecDepth 100000
namespace Go.Pv
open Go.Proofs
theorem w2n {x a:List (List Nm)} {p:Int} (h:(mulM (ofM x) (ofM a) p).2≠0):J0h x a p=(default,(mulM (ofM x) (ofM a) p).2):=by unfold J0h;rw [if_pos h]
theorem w2m {x a:List (List Nm)} {p:Int} (h:(mulM (ofM x) (ofM a) p).2=0) (h2:(opM 1 (idM (x.length:Int)) (mulM (ofM x) (ofM a) p).1 p).2≠0):J0h x a p=(default,(opM 1 (idM (x.length:Int)) (mulM (ofM x) (ofM a) p).1 p).2):=by unfold J0h;rw [if_neg (fun e=>e h),if_pos h2]
theorem w2l {x a:List (List Nm)} {p:Int} (h:(mulM (ofM x) (ofM a) p).2=0) (h2:(opM 1 (idM (x.length:Int)) (mulM (ofM x) (ofM a) p).1 p).2=0):J0h x a p=Z0y (opM 1 (idM (x.length:Int)) (mulM (ofM x) (ofM a) p).1 p).1 p:=by unfold J0h;rw [if_neg (fun e=>e h),if_neg (fun e=>e h2)]
theorem K3z {x:List (List Nm)} {e:Nm} {p:Int} (h:(Q0t 1 oneN e p false).2≠0):radQ x e p=(default,(Q0t 1 oneN e p false).2):=by unfold radQ;rw [if_pos h]
theorem K3y {x:List (List Nm)} {e:Nm} {p:Int} (h:(Q0t 1 oneN e p false).2=0) (h2:(Z0y (ofM x) p).2≠0):radQ x e p=(default,(Z0y (ofM x) p).2):=by unfold radQ;rw [if_neg (fun e=>e h),if_pos h2]
theorem K3x {x:List (List Nm)} {e:Nm} {p:Int} (h:(Q0t 1 oneN e p false).2=0) (h2:(Z0y (ofM x) p).2=0) (h3:(Q0t 2 (Z0y (ofM x) p).1 e p true).2≠0):radQ x e p=(default,(Q0t 2 (Z0y (ofM x) p).1 e p true).2):=by unfold radQ;rw [if_neg (fun e=>e h),if_neg (fun e=>e h2),if_pos h3]
theorem K3w {x:List (List Nm)} {e:Nm} {p:Int} (h:(Q0t 1 oneN e p false).2=0) (h2:(Z0y (ofM x) p).2=0) (h3:(Q0t 2 (Z0y (ofM x) p).1 e p true).2=0):radQ x e p=W0y (Q0t 2 (Z0y (ofM x) p).1 e p true).1 (Q0t 1 oneN e p false).1 p true:=by unfold radQ;rw [if_neg (fun e=>e h),if_neg (fun e=>e h2),if_neg (fun e=>e h3)]
theorem K1h {x:Int} (h:x≠0):(x !=0)=true:=by simpa using h
theorem K1i {x:Int} (h:x=0):(x !=0)=false:=by simpa using h
set_option maxHeartbeats 1000000 in
theorem J2a (a:List (List Nm)) (p:Int) (st:Q0f) (hw:wQs a):PCalls Tryz.prog 59 [.sl .no (encQ a),.sc (.int .i64 p)] st (fun r st'=>r= .tup [.sl .no (encM (K0d a p).1),.sc (.int .i64 (K0d a p).2)]∧st'=st):=by
 refine Q0b none Tryz.func59 rfl fun E=>Q0a ?_
 simp -dsimp only [go_sem]
 refine(Z1t a p _ hw).mono ?_
 rintro res st' ⟨rfl,rfl⟩
 by_cases h1:(Q0q a p).2=0
 rotate_left
 · have g1:=K1h h1
   rw [K1r h1]
   simp -dsimp only [go_sem,g1]
   try rfl
 have g1:=K1i h1
 obtain⟨a1,hp,a3,a4,a5,a6, -, -⟩:=w0a h1
 have hb2:=K1q (p:=p) h1
 have hb3:=K1p (p:=p) h1
 have hb4:=K1o (p:=p) h1
 have hgo:=k1f (p:=p) h1
 simp -dsimp only [go_sem,g1]
 generalize (Q0q a p).1=X at*
 have hXl:=a3.1
 have wX:=a3.wQ a6
 have wa:=a4.wQ a6
 refine(w0r X _ wX).plain.mono ?_
 rintro res st1 ⟨rfl,rfl⟩
 simp -dsimp only [go_sem]
 refine(w0r a _ wa).plain.mono ?_
 rintro res st1 ⟨rfl,rfl⟩
 simp -dsimp only [go_sem]
 refine(H2r (ofM X) (ofM a) p _ (X1e wX) (X1e wa)).mono ?_
 rintro res st1 ⟨rfl,rfl⟩
 by_cases m1:(mulM (ofM X) (ofM a) p).2=0
 rotate_left
 · have g:=K1h m1
   have hr:=w2n m1
   rw [hb2 (by rw [hr];exact m1),hr]
   simp -dsimp only [go_sem,g]
   try rfl
 have g:=K1i m1
 simp -dsimp only [go_sem,g]
 refine(z3m _ _).mono ?_
 rintro res st1 ⟨rfl,rfl⟩
 simp -dsimp only [go_sem]
 refine(w0r (oneQ a.length) _ (x1h _)).plain.mono ?_
 rintro res st1 ⟨rfl,rfl⟩
 rw [x1i,←hXl]
 simp -dsimp only [go_sem]
 refine(H2b (idM (X.length:Int)) (mulM (ofM X) (ofM a) p).1 p _ (by rw [←x1i];exact X1e (x1h _)) (K2d _ _ _)).mono ?_
 rintro res st1 ⟨rfl,rfl⟩
 by_cases m2:(opM 1 (idM (X.length:Int)) (mulM (ofM X) (ofM a) p).1 p).2=0
 rotate_left
 · have g:=K1h m2
   have hr:=w2m m1 m2
   rw [hb2 (by rw [hr];exact m2),hr]
   simp -dsimp only [go_sem,g]
   try rfl
 have g:=K1i m2
 have hr:=w2l m1 m2
 simp -dsimp only [go_sem,g]
 refine(G1j (opM 1 (idM (X.length:Int)) (mulM (ofM X) (ofM a) p).1 p).1 p _ (k2e _ _ _ _)).mono ?_
 rintro res st1 ⟨rfl,rfl⟩
 rw [←hr]
 by_cases h2:(J0h X a p).2=0
 rotate_left
 · have g:=K1h h2
   rw [hb2 h2]
   simp -dsimp only [go_sem,g]
   try rfl
 have g:=K1i h2
 have hb3:=hb3 h2
 have hb4:=hb4 h2
 have hgo:=hgo h2
 have hro:=W1o a3 a4 a5 a6 h2
 have hre:=hro.2.1
 have he0:=hro.1
 clear hr m1 m2 hb2 hro
 simp -dsimp only [go_sem,g]
 generalize (J0h X a p).1=e at*
 have wre:=Q0u hre
 have w1:wN oneN:=Q0u Y0q
 have c1:=v0v e oneN st1 (by unfold wN at wre;omega) (by unfold wN at w1;omega)
 refine c1.mono ?_
 rintro res st2 ⟨rfl,rfl⟩
 simp -dsimp only [go_sem]
 refine ck (fun h3=> ?_) (fun h3=> ?_)
 · have h3:=of_decide_eq_true h3
   rw [hb3 h3]
   simp -dsimp only [go_sem]
   try rfl
 have h3:=of_decide_eq_false h3
 have he1:qN e<1:=by
  rw [Y0u hre Y0q] at h3
  have:=cmpN_lt.1 (Int.not_le.1 h3)
  rwa [k0u] at this
 have hb4:=hb4 h3
 have hgo:=hgo h3
 clear hb3 c1
 have c2:=q0t oneN e p false st2 w1 wre
 simp -dsimp only [go_sem]
 refine c2.mono ?_
 rintro res st1 ⟨rfl,rfl⟩
 by_cases k1:(Q0t 1 oneN e p false).2=0
 rotate_left
 · have g:=K1h k1
   have hr:=K3z (x:=X) k1
   rw [hb4 (by rw [hr];exact k1),hr]
   simp -dsimp only [go_sem,g]
   try rfl
 have g:=K1i k1
 simp -dsimp only [go_sem,g]
 refine(G1j (ofM X) p _ (X1e wX)).mono ?_
 rintro res st2 ⟨rfl,rfl⟩
 by_cases k2:(Z0y (ofM X) p).2=0
 rotate_left
 · have g:=K1h k2
   have hr:=K3y (x:=X) k1 k2
   rw [hb4 (by rw [hr];exact k2),hr]
   simp -dsimp only [go_sem,g]
   try rfl
 have g:=K1i k2
 have rn:=(v0a k2).2.2.2.1
 have wn:=Q0u rn
 simp -dsimp only [go_sem,g]
 refine(y0q (Z0y (ofM X) p).1 e p true _ wn wre).mono ?_
 rintro res st1 ⟨rfl,rfl⟩
 by_cases k3:(Q0t 2 (Z0y (ofM X) p).1 e p true).2=0
 rotate_left
 · have g:=K1h k3
   have hr:=K3x (x:=X) k1 k2 k3
   rw [hb4 (by rw [hr];exact k3),hr]
   simp -dsimp only [go_sem,g]
   try rfl
 have g:=K1i k3
 have hr:=K3w (x:=X) k1 k2 k3
 simp -dsimp only [go_sem,g]
 have c3:=q0s (Q0t 2 (Z0y (ofM X) p).1 e p true).1 (Q0t 1 oneN e p false).1 p true st1 (Z0k _ _ _ _ _) (Z0k _ _ _ _ _) hp
 rw [←hr] at c3
 refine c3.mono ?_
 rintro res st2 ⟨rfl,rfl⟩
 by_cases h4:(radQ X e p).2=0
 rotate_left
 · have g:=K1h h4
   rw [hb4 h4]
   simp -dsimp only [go_sem,g]
   try rfl
 have g:=K1i h4
 have hgo:=hgo h4
 obtain⟨hq0,hqr⟩:=J2d hp he0 he1 h4
 simp -dsimp only [go_sem,g]
 clear hb4 hr c3 c2
 generalize (radQ X e p).1=q at*
 have wq:=Q0u hqr
 rw [hgo]
 generalize hG:(fun i j=>K0r (entQ X i j) q p)=G
 have hg: ∀i j,G i j=K0r (entQ X i j) q p:=fun i j=>by rw [←hG]
 refine X0c 15 1 ?_
 simp -dsimp only [go_sem]
 refine Q0e [false,true,false,false,false,false,true,false,false,false,false,false,false,false,true,true,true] 4 1
  (fun k s=> ∃(i:Nat) (o:Mx),k=a.length-i∧i≤a.length∧o.length=i∧Y0g G a.length=tabF (fun i=>tabF (fun j=>G i j) 0 a.length []) i (a.length-i) o∧
   s=⟨[.junk,.sc (.int .i64 p),.junk,.junk,.junk,.junk,.sl .no (encQ X),.junk,.junk,.junk,.junk,.junk,.junk,.junk,.lp 3 0,.sl (.own 0) (encM o),.sc (.int .i64 (i:Nat))]++List.replicate 150 .junk,[encN e,[.sc (.bool false),.sc (.int .i64 0),.sl .full [.sc (.int .u64 1)]],encN (Q0t 1 oneN e p false).1,encN q],[(o.length,1)],st2⟩) a.length ?_ ?_
 · simp -dsimp only [go_sem]
   exact⟨0,[],by omega,by omega,rfl,rfl,rfl⟩
 rintro k s ⟨i,o,rfl,hi,ho,hr,rfl⟩
 have x1:=X0y i (by omega)
 simp -dsimp only [go_sem]
 refine ck (fun h5=> ?_) (fun h5=> ?_)
 rotate_left
 · have hge:i=a.length:=by have:=of_decide_eq_false h5;omega
   simp -dsimp only [go_sem]
   refine Q0a ?_
   simp -dsimp only [go_sem]
   rw [hr,hge,H0j]
 have hlt:i<a.length:=by have:=of_decide_eq_true h5;omega
 have eQ:=V0f X i (by omega)
 have hrl:=(a3.row hlt).1
 have e4:=Y0y (fun i=>tabF (fun j=>G i j) 0 a.length []) hlt o
 simp -dsimp only [go_sem]
 refine X0c 17 6 ?_
 simp -dsimp only [go_sem]
 refine Q0e [false,true,false,false,false,false,true,false,false,false,false,false,false,false,true,true,true,true,true] 4 2
  (fun k s=> ∃(j:Nat) (r:List Ivl),k=a.length-j∧j≤a.length∧r.length=j∧tabF (fun j=>G i j) 0 a.length []=tabF (fun j=>G i j) j (a.length-j) r∧
   s=⟨[.junk,.sc (.int .i64 p),.junk,.junk,.junk,.junk,.sl .no (encQ X),.junk,.junk,.junk,.junk,.junk,.junk,.junk,.lp 3 0,.sl (.own 0) (encM o),.sc (.int .i64 (i:Nat)),.sl (.own 1) (Z0d r),.sc (.int .i64 (j:Nat))]++List.replicate 148 .junk,[encN e,[.sc (.bool false),.sc (.int .i64 0),.sl .full [.sc (.int .u64 1)]],encN (Q0t 1 oneN e p false).1,encN q],[(o.length,1),(r.length,6)],st2⟩) a.length ?_ ?_
 · simp -dsimp only [go_sem]
   exact⟨0,[],by omega,by omega,rfl,rfl,rfl⟩
 rintro k s ⟨j,r,rfl,hj,hrl2,hrr,rfl⟩
 have x2:=X0y j (by omega)
 simp -dsimp only [go_sem]
 refine ck (fun h6=> ?_) (fun h6=> ?_)
 rotate_left
 · have hge:j=a.length:=by have:=of_decide_eq_false h6;omega
   have q1:tabF (fun j=>G i j) 0 a.length []=(r,0):=by rw [hrr,hge];exact H0j _ _ r
   simp -dsimp only [go_sem]
   refine Q0a ?_
   simp -dsimp only [go_sem]
   refine⟨⟨by omega,by omega⟩,Q0a ?_⟩
   simp -dsimp only [go_sem,x1]
   refine⟨a.length-(i+1),by omega,i+1,o++ [r],rfl,by omega,by simp [ho],?_,?_⟩
   · rw [hr,e4,q1,if_neg (by simp)]
   · simp
 have hjn:j<a.length:=by have:=of_decide_eq_true h6;omega
 have eN:=J0w (X.getD i []) j (by omega)
 have f4:=Y0y (fun j=>G i j) hjn r
 have hyr:=(a3.row hlt).2 _ (Q0s (X.getD i []) j default (by omega))
 have wy:=Q0u hyr
 have hok1:(X.getD i []).getD j default=entQ X i j:=rfl
 have sb:=U1s (y:=(X.getD i []).getD j default) (q:=q) (p:=p)
 have sg:=K1s (y:=(X.getD i []).getD j default) (q:=q) (p:=p)
 have cL:=q0t ((X.getD i []).getD j default) q p false st2 wy wq
 have cH:=y0r ((X.getD i []).getD j default) q p true st2 wy wq
 simp -dsimp only [go_sem]
 refine Q0k Z0f 167 (.step 0 [] (.step 1 [] (.step 2 [] (.step 3 [] (.step 4 [] (.step 5 [] (.step 6 [] (.step 7 [] (.step 8 [] (.alt (.step 9 [] (.step 10 [] (.step 11 [] (.step 12 [] (.step 13 [3,6,7] (.step 14 [] (.step 15 [] (.done)))))))) (.step 13 [3,6,7] (.step 9 [] (.step 10 [] (.step 11 [] (.step 12 [] (.step 14 [] (.step 15 [] (.done)))))))))))))))))) (by decide+kernel) (by simp) ?_
 simp -dsimp only [go_sem,eQ,eN]
 refine⟨by omega,⟨by omega,by omega⟩,?_⟩
 refine And.intro ?_ ?_
 all_goals
  first | refine cL.mono ?_ | skip
  rintro res st3 ⟨rfl,rfl⟩
  simp -dsimp only [go_sem,eQ,eN]
  refine Q0k Z0f 167 (.step 0 [] (.step 1 [] (.step 2 [] (.step 3 [] (.step 4 [] (.step 5 [] (.step 6 [] (.step 7 [] (.step 8 [] (.alt (.step 9 [] (.step 10 [] (.step 11 [] (.step 12 [] (.step 13 [3,6,7] (.step 14 [] (.step 15 [] (.done)))))))) (.step 13 [3,6,7] (.step 9 [] (.step 10 [] (.step 11 [] (.step 12 [] (.step 14 [] (.step 15 [] (.done)))))))))))))))))) (by decide+kernel) (by simp) ?_
  simp -dsimp only [go_sem,eQ,eN]
  refine⟨by omega,⟨by omega,by omega⟩,?_⟩
  refine And.intro ?_ ?_
  all_goals
   first | refine cH.mono ?_ | skip
   rintro res st4 ⟨rfl,rfl⟩
   by_cases f1:(Q0t 1 ((X.getD i []).getD j default) q p false).2=0
   · have b1:=K1i f1
     by_cases f0:(Q0t 0 ((X.getD i []).getD j default) q p true).2=0
     · have b0:=K1i f0
       have hsg:=sg f1 f0
       rw [hok1,←hg] at hsg
       have hz:(G i j).2=0:=by rw [hsg]
       have hv:(G i j).1=⟨(Q0t 1 ((X.getD i []).getD j default) q p false).1,(Q0t 0 ((X.getD i []).getD j default) q p true).1⟩:=by rw [hsg];rfl
       simp -dsimp only [go_sem,eQ,eN,b1,b0,x2]
       refine⟨⟨by omega,by omega⟩,a.length-(j+1),by omega,j+1,r++ [(G i j).1],rfl,by omega,by simp [hrl2],?_,?_⟩
       · rw [hrr,f4,if_neg (fun hh=>hh hz)]
       · rw [hv];simp [Z0d,encI]
     · have b0:=K1h f0
       have hs2:=sb (.inr f0)
       rw [hok1,←hg] at hs2
       have q1:tabF (fun j=>G i j) 0 a.length []=([],2):=by rw [hrr,f4,if_pos (by rw [hs2];decide),hs2]
       simp -dsimp only [go_sem,eQ,eN,b1,b0]
       rw [hr,e4,if_pos (by rw [q1];decide),q1]
       rfl
   · have b1:=K1h f1
     have hs2:=sb (.inl f1)
     rw [hok1,←hg] at hs2
     have q1:tabF (fun j=>G i j) 0 a.length []=([],2):=by rw [hrr,f4,if_pos (by rw [hs2];decide),hs2]
     simp -dsimp only [go_sem,eQ,eN,b1]
     rw [hr,e4,if_pos (by rw [q1];decide),q1]
     rfl
end Go.Pv
end
section
/-Layer 8:both,light,known. -/
set_option maxRecDepth 100000
namespace Go.Pv
open Go.Proofs
theorem q1y (a:List (List Nm)) (p:Int):wQ (Q0q a p).1:=by
 by_cases h:(Q0q a p).2=0
 · obtain⟨-, -,a3, -, -,a6, -, -⟩:=w0a h
   exact a3.wQ a6
 · rw [z1a h];exact⟨by simp,fun i hi=>by simp at hi⟩
theorem U2o {a:List (List Nm)} {p:Int} (h:(K0d a p).2=0):rightM (K0d a p).1=true:=by
 obtain⟨⟨-,h1,h4, -⟩,hl, -,hs⟩:=z1n h
 refine rightM_iff.2 ⟨fun i hi=> ?_,by omega,by omega⟩
 rw [hl] at hi⊢
 refine⟨(hs i hi).1,Z1n (fun j hj=> ?_) (by rw [(hs i hi).1];omega) (by rw [(hs i hi).1];omega)⟩
 rw [(hs i hi).1] at hj
 exact((hs i hi).2 j hj).1
theorem k1e (a:List (List Nm)) (p:Int):wM (K0d a p).1:=by
 by_cases h:(K0d a p).2=0
 · exact G1d (U2o h)
 · rw [w1z h];exact⟨by simp,fun i hi=>by simp at hi⟩
set_option maxHeartbeats 1000000 in
theorem X3e (a:List (List Nm)) (p:Int) (st:Q0f) (hw:wQs a):PCalls Tryz.prog 15 [.sl .no (encQ a),.sc (.int .i64 p)] st (fun r st'=>r= .sc (.bool true)∧st'=st):=by
 refine Q0b none Tryz.func15 rfl fun E=>Q0a ?_
 simp -dsimp only [go_sem]
 refine(j0j a p _ hw).mono ?_
 rintro res st' ⟨rfl,rfl⟩
 simp -dsimp only [go_sem]
 refine(X1n a p _ hw).mono ?_
 rintro res st' ⟨rfl,rfl⟩
 simp -dsimp only [go_sem]
 refine(Z1t a p _ hw).mono ?_
 rintro res st' ⟨rfl,rfl⟩
 simp -dsimp only [go_sem]
 refine(J2a a p _ hw).mono ?_
 rintro res st' ⟨rfl,rfl⟩
 have g1:((Q0q a p).2==(Q0q a p).2)=true:=beq_self_eq_true _
 have g2:((K0d a p).2==(K0d a p).2)=true:=beq_self_eq_true _
 simp -dsimp only [go_sem,g1,g2]
 refine(w2j _ _ _ (q1y a p) (q1y a p)).mono ?_
 rintro res st' ⟨rfl,rfl⟩
 simp -dsimp only [go_sem]
 refine(X2l _ _ _ (k1e a p) (k1e a p)).mono ?_
 rintro res st' ⟨rfl,rfl⟩
 simp -dsimp only [go_sem]
 try simp
def q2p :Nm:=⟨false,1,[1]⟩
def W0f :Nm:=⟨false, -1,[1]⟩
theorem k8a :Q0q [[q2p]] 16=([[W0f]],0):=by decide+kernel
theorem k8b :K0d [[q2p]] 16=([[⟨W0f,W0f⟩]],0):=by decide+kernel
theorem k8c :K0d [[default]] 16=([],3):=by decide+kernel
theorem k8h :hasI ⟨W0f,W0f⟩ W0f=true:=by decide+kernel
theorem k8w (x:Nm) (h:Q0j x=true):wQs [[x]]:=⟨by simp,fun i hi=>by
 have:i=0:=by simpa using hi
 subst this
 refine⟨by simp,fun j hj=> ?_⟩
 have:j=0:=by simpa using hj
 subst this
 exact Q0u h⟩
set_option maxHeartbeats 1000000 in
theorem q2n (st:Q0f):PCalls Tryz.prog 13 [] st (fun r st'=>r= .sc (.bool true)∧st'=st):=by
 have c1:=j0j [[q2p]] 16 st (k8w _ (by decide))
 have c2:=X1n [[q2p]] 16 st (k8w _ (by decide))
 have c3:=X1n [[default]] 16 st (k8w _ (by decide))
 rw [k8a] at c1
 rw [k8b] at c2
 rw [k8c] at c3
 refine Q0b none Tryz.func13 rfl fun E=>Q0a ?_
 simp -dsimp only [go_sem]
 refine c1.mono ?_
 rintro res st' ⟨rfl,rfl⟩
 simp -dsimp only [go_sem]
 refine c2.mono ?_
 rintro res st' ⟨rfl,rfl⟩
 simp -dsimp only [go_sem]
 refine c3.mono ?_
 rintro res st' ⟨rfl,rfl⟩
 simp -dsimp only [go_sem]
 have z0:((0:Int)==0)=true:=rfl
 have z1:(((1:Nat):Int)==1)=true:=rfl
 have z2:((-1:Int)== -1)=true:=rfl
 have z3:((3:Int)==3)=true:=rfl
 have e1:(encQ [[W0f]]).getD 0 .junk= .sl .no (Z0b [W0f]):=rfl
 have e2:(Z0b [W0f]).getD 0 .junk= .agg (encN ⟨false, -1,[1]⟩):=rfl
 have e3:(encM [[(⟨W0f,W0f⟩:Ivl)]]).getD 0 .junk= .sl .no (Z0d [⟨W0f,W0f⟩]):=rfl
 have e4:(Z0d [(⟨W0f,W0f⟩:Ivl)]).getD 0 .junk= .agg (encI ⟨⟨false, -1,[1]⟩,⟨false, -1,[1]⟩⟩):=rfl
 refine Q0k Z0f 87 (.step 0 [] (.step 1 [] (.step 2 [] (.step 3 [] (.step 4 [] (.step 5 [] (.step 6 [] (.step 7 [] (.step 8 [] (.step 9 [] (.step 10 [] (.step 11 [] (.step 12 [] (.step 13 [] (.step 14 [] (.step 15 [] (.step 16 [] (.step 17 [] (.step 18 [] (.step 19 [] (.step 20 [] (.step 21 [] (.step 22 [] (.step 23 [] (.step 24 [] (.step 25 [] (.step 26 [] (.step 27 [] (.step 28 [] (.step 29 [] (.step 30 [] (.step 31 [] (.step 32 [] (.step 33 [] (.step 34 [] (.step 35 [] (.step 36 [] (.step 37 [] (.step 38 [] (.step 39 [] (.step 40 [] (.step 41 [] (.step 42 [] (.step 43 [] (.step 44 [] (.step 45 [] (.step 46 [] (.step 47 [] (.step 48 [] (.step 49 [] (.step 50 [] (.step 51 [] (.step 52 [] (.step 53 [] (.step 54 [18,25,28,39] (.step 55 [] (.step 56 [] (.done)))))))))))))))))))))))))))))))))))))))))))))))))))))))))) (by decide+kernel) (by simp) ?_
 simp -dsimp only [go_sem,z0,z1,z2,z3,e1,e2,e3,e4]
 refine(Q3e ⟨W0f,W0f⟩ W0f _ ⟨Q0u (by decide),Q0u (by decide)⟩ (Q0u (by decide))).mono ?_
 rintro res st' ⟨rfl,rfl⟩
 rw [k8h]
 simp -dsimp only [go_sem,z0,z1,z2,z3,e1,e2,e3,e4]
end Go.Pv
end
section
/-The deck's small points;InvTurns. -/
set_option maxRecDepth 100000
namespace Go.Pv
open Go.Proofs
def okRowS (n:Nat) (q:List Nm):Prop:=q.length=n∧ ∀i,i<n→smN (q.getD i default)
theorem okRowS.sq {n:Nat} {q:List (List Nm)} (hl:q.length=n) (h: ∀m,m<n→okRowS n (q.getD m [])):sqR n q:=by
 refine⟨hl,fun r hr=> ?_⟩
 obtain⟨i,hi,rfl⟩:=List.mem_iff_getElem.1 hr
 have:=h i (by omega)
 rw [List.getD_eq_getElem?_getD,List.getElem?_eq_getElem hi] at this
 refine⟨this.1,fun c hc=> ?_⟩
 obtain⟨j,hj,rfl⟩:=List.mem_iff_getElem.1 hc
 have h2:=this.2 j (by have:=this.1;show j<n;rw [←this];exact hj)
 rw [Option.getD_some,List.getD_eq_getElem?_getD,List.getElem?_eq_getElem hj] at h2
 exact h2.1
theorem sqR.wQs {n:Nat} {a:List (List Nm)} (h:sqR n a) (h4:n≤4):wQs a:=by
 refine⟨by rw [h.1];omega,fun i hi=>⟨?_,fun j hj=> ?_⟩⟩
 · rw [(h.row (by rw [←h.1];exact hi)).1];omega
 · exact Q0u ((h.row (by rw [←h.1];exact hi)).2 _ (Q0s _ _ _ hj))
end Go.Pv
end
