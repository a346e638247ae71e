/- Parts of the walk: N153. -/
import Derived.Test.YtldalepagmhnmaaGreatDoorZFJ
import Derived.Test.YtldalepagmhnmaaGreatDoorZFI
set_option linter.unusedVariables false
set_option linter.unusedSimpArgs false
section
set_option maxRecDepth 100000
namespace Go.Pv
open Go.Proofs
theorem Y3j {x a:List (List Nm)}{p:Int}(h:(mulM (ofM x) (ofM a) p).2≠0):J0u x a p=(default,(mulM (ofM x) (ofM a) p).2):=by unfold J0u;rw[if_pos h]
theorem Y3i {x a:List (List Nm)}{p:Int}(h:(mulM (ofM x) (ofM a) p).2=0)(h2:(opM 1 (idM (x.length:Int)) (mulM (ofM x) (ofM a) p).1 p).2≠0):J0u x a p=(default,(opM 1 (idM (x.length:Int)) (mulM (ofM x) (ofM a) p).1 p).2):=by unfold J0u;rw[if_neg (fun e=>e h),if_pos h2]
theorem Y3h {x a:List (List Nm)}{p:Int}(h:(mulM (ofM x) (ofM a) p).2=0)(h2:(opM 1 (idM (x.length:Int)) (mulM (ofM x) (ofM a) p).1 p).2=0):J0u x a p=X0k (opM 1 (idM (x.length:Int)) (mulM (ofM x) (ofM a) p).1 p).1 p:=by unfold J0u;rw[if_neg (fun e=>e h),if_neg (fun e=>e h2)]
theorem x3k {x:List (List Nm)}{e:Nm}{p:Int}(h:(Q0r 1 oneN e p false).2≠0):radQ x e p=(default,(Q0r 1 oneN e p false).2):=by unfold radQ;rw[if_pos h]
theorem x3j {x:List (List Nm)}{e:Nm}{p:Int}(h:(Q0r 1 oneN e p false).2=0)(h2:(X0k (ofM x) p).2≠0):radQ x e p=(default,(X0k (ofM x) p).2):=by unfold radQ;rw[if_neg (fun e=>e h),if_pos h2]
theorem x3i {x:List (List Nm)}{e:Nm}{p:Int}(h:(Q0r 1 oneN e p false).2=0)(h2:(X0k (ofM x) p).2=0)(h3:(Q0r 2 (X0k (ofM x) p).1 e p true).2≠0):radQ x e p=(default,(Q0r 2 (X0k (ofM x) p).1 e p true).2):=by unfold radQ;rw[if_neg (fun e=>e h),if_neg (fun e=>e h2),if_pos h3]
theorem x3h {x:List (List Nm)}{e:Nm}{p:Int}(h:(Q0r 1 oneN e p false).2=0)(h2:(X0k (ofM x) p).2=0)(h3:(Q0r 2 (X0k (ofM x) p).1 e p true).2=0):radQ x e p=W0n (Q0r 2 (X0k (ofM x) p).1 e p true).1 (Q0r 1 oneN e p false).1 p true:=by unfold radQ;rw[if_neg (fun e=>e h),if_neg (fun e=>e h2),if_neg (fun e=>e h3)]
theorem Y1o {x:Int}(h:x≠0):(x !=0)=true:=by simpa using h
theorem Y1p {x:Int}(h:x=0):(x !=0)=false:=by simpa using h
set_option maxHeartbeats 4000000 in
theorem G2a (a:List (List Nm))(p:Int)(st:Q0g)(hw:wQs a):PR 240 [.sl .no (encQ a),.sc (.int .i64 p)] st (.tup [.sl .no (encM (V0l a p).1),.sc (.int .i64 (V0l a p).2)]):=by
 refine J4z Tryz.func240 fun E=> ?_;refine(w1m a p _ hw).w ?_;rintro st' rfl;by_cases h1:(Q0v a p).2=0;rotate_left;have g1:=Y1o h1;rw[Y1z h1];simp-dsimp only[go_sem,g1]
 try rfl
 have g1:=Y1p h1;obtain⟨a1,hp,a3,a4,a5,a6, -, -⟩:=W1y h1;have hb2:=Y1y (p:=p) h1;have hb3:=Y1x (p:=p) h1;have hb4:=Y1w (p:=p) h1;have hgo:=Z2f (p:=p) h1;simp-dsimp only[go_sem,g1];generalize (Q0v a p).1=X at*
 have hXl:=a3.1;have wX:=a3.wQ a6;have wa:=a4.wQ a6;refine(Y0s X _ wX).plain.w ?_;rintro st1 rfl;refine K4w ?_;refine(Y0s a _ wa).plain.w ?_;rintro st1 rfl;refine K4w ?_;refine(H1s (ofM X) (ofM a) p _ (V1b wX) (V1b wa)).w ?_;rintro st1 rfl;by_cases m1:(mulM (ofM X) (ofM a) p).2=0;rotate_left;have g:=Y1o m1;have hr:=Y3j m1;rw[hb2 (by rw[hr];exact m1),hr];simp-dsimp only[go_sem,g]
 try rfl
 have g:=Y1p m1;simp-dsimp only[go_sem,g];refine(U3f _ _).w ?_;rintro st1 rfl;refine K4w ?_;refine(Y0s (oneQ a.length) _ (Z1b _)).plain.w ?_;rintro st1 rfl;rw[H1o,<-hXl];refine K4w ?_;refine(w2q (idM (X.length:Int)) (mulM (ofM X) (ofM a) p).1 p _ (by rw[<-H1o];exact V1b (Z1b _)) (Z1e _ _ _)).w ?_;rintro st1 rfl;by_cases m2:(opM 1 (idM (X.length:Int)) (mulM (ofM X) (ofM a) p).1 p).2=0;rotate_left;have g:=Y1o m2;have hr:=Y3i m1 m2;rw[hb2 (by rw[hr];exact m2),hr];simp-dsimp only[go_sem,g]
 try rfl
 have g:=Y1p m2;have hr:=Y3h m1 m2;simp-dsimp only[go_sem,g];refine(x1r (opM 1 (idM (X.length:Int)) (mulM (ofM X) (ofM a) p).1 p).1 p _ (K3p _ _ _ _)).w ?_;rintro st1 rfl;rw[<-hr];by_cases h2:(J0u X a p).2=0;rotate_left;have g:=Y1o h2;rw[hb2 h2];simp-dsimp only[go_sem,g]
 try rfl
 have g:=Y1p h2;have hb3:=hb3 h2;have hb4:=hb4 h2;have hgo:=hgo h2;have hro:=H1c a3 a4 a5 a6 h2;have hre:=hro.2.1;have he0:=hro.1;clear hr m1 m2 hb2 hro;simp-dsimp only[go_sem,g];generalize (J0u X a p).1=e at*
 have wre:=Q0o hre;have w1:wN oneN:=Q0o G0b;have c1:=z0q e oneN st1 (by unfold wN at wre;omega) (by unfold wN at w1;omega);refine c1.w ?_;rintro st2 rfl;refine K4a (fun h3=> ?_) (fun h3=> ?_);have h3:=q_b h3;rw[hb3 h3];simp-dsimp only[go_sem]
 try rfl
 have h3:=q_c h3;have he1:qN e<1:=by rw[G0e hre G0b] at h3;have:=cmpN_lt.1 (Int.not_le.1 h3);rwa [X1i] at this
 have hb4:=hb4 h3;have hgo:=hgo h3;clear hb3 c1;have c2:=x0p oneN e p false st2 w1 wre;refine K4w ?_;refine c2.w ?_;rintro st1 rfl;by_cases k1:(Q0r 1 oneN e p false).2=0;rotate_left;have g:=Y1o k1;have hr:=x3k (x:=X) k1;rw[hb4 (by rw[hr];exact k1),hr];simp-dsimp only[go_sem,g]
 try rfl
 have g:=Y1p k1;simp-dsimp only[go_sem,g];refine(x1r (ofM X) p _ (V1b wX)).w ?_;rintro st2 rfl;by_cases k2:(X0k (ofM X) p).2=0;rotate_left;have g:=Y1o k2;have hr:=x3j (x:=X) k1 k2;rw[hb4 (by rw[hr];exact k2),hr];simp-dsimp only[go_sem,g]
 try rfl
 have g:=Y1p k2;have rn:=(y0h k2).2.2.2.1;have wn:=Q0o rn;simp-dsimp only[go_sem,g];refine(x0o (X0k (ofM X) p).1 e p true _ wn wre).w ?_;rintro st1 rfl;by_cases k3:(Q0r 2 (X0k (ofM X) p).1 e p true).2=0;rotate_left;have g:=Y1o k3;have hr:=x3i (x:=X) k1 k2 k3;rw[hb4 (by rw[hr];exact k3),hr];simp-dsimp only[go_sem,g]
 try rfl
 have g:=Y1p k3;have hr:=x3h (x:=X) k1 k2 k3;simp-dsimp only[go_sem,g];have c3:=H0j (Q0r 2 (X0k (ofM X) p).1 e p true).1 (Q0r 1 oneN e p false).1 p true st1 (Z0k _ _ _ _ _) (Z0k _ _ _ _ _) hp;rw[<-hr] at c3;refine c3.w ?_;rintro st2 rfl;by_cases h4:(radQ X e p).2=0;rotate_left;have g:=Y1o h4;rw[hb4 h4];simp-dsimp only[go_sem,g]
 try rfl
 have g:=Y1p h4;have hgo:=hgo h4;obtain⟨hq0,hqr⟩:=G2d hp he0 he1 h4;simp-dsimp only[go_sem,g];clear hb4 hr c3 c2;generalize (radQ X e p).1=q at*
 have wq:=Q0o hqr;rw[hgo];generalize hG:(fun i j=>V0h (entQ X i j) q p)=G;have hg: ∀i j,G i j=V0h (entQ X i j) q p:=fun i j=>(by rw[<-hG]);refine Z0j 15 1 ?_;refine K4w ?_;refine Q0d ([false,true,false,false,false,false,true]++rF 7++ [true,true,true]) 4 1
  (fun k s=> ∃(i:Nat) (o:Mx),k=a.length-i/\i<=a.length/\o.length=i/\Y0x G a.length=tabF (fun i=>tabF (fun j=>G i j) 0 a.length []) i (a.length-i) o/\
   s=⟨[.junk,.sc (.int .i64 p),.junk,.junk,.junk,.junk,.sl .no (encQ X)]++jk 7++ [.lp 3 0,.sl (.own 0) (encM o),.sc (.int .i64 (i:Nat))]++jk 150,[encN e,[.sc (.bool false),.sc (.int .i64 0),.sl .full [.sc (.int .u64 1)]],encN (Q0r 1 oneN e p false).1,encN q],[(o.length,1)],st2⟩) a.length ?_ ?_
 refine K4w ?_;exact⟨0,[],oG,oG,rfl,rfl,rfl⟩;rintro k s ⟨i,o,rfl,hi,ho,hr,rfl⟩;have x1:=Z0s i oG;refine K4a (fun h5=> ?_) (fun h5=> ?_);rotate_left;have hge:i=a.length:=(oF h5);refine K4w ?_;refine J4y ?_;rw[hr,hge,K0q];have hlt:i<a.length:=(oT h5);have eQ:=X0z X i oG;have hrl:=(a3.row hlt).1;have e4:=J0l (fun i=>tabF (fun j=>G i j) 0 a.length []) hlt o;refine K4w ?_;refine Z0j 17 6 ?_;refine K4w ?_;refine Q0d ([false,true,false,false,false,false,true]++rF 7++ [true,true,true,true,true]) 4 2
  (fun k s=> ∃(j:Nat) (r:List Ivl),k=a.length-j/\j<=a.length/\r.length=j/\tabF (fun j=>G i j) 0 a.length []=tabF (fun j=>G i j) j (a.length-j) r/\
   s=⟨[.junk,.sc (.int .i64 p),.junk,.junk,.junk,.junk,.sl .no (encQ X)]++jk 7++ [.lp 3 0,.sl (.own 0) (encM o),.sc (.int .i64 (i:Nat)),.sl (.own 1) (Q0z r),.sc (.int .i64 (j:Nat))]++jk 148,[encN e,[.sc (.bool false),.sc (.int .i64 0),.sl .full [.sc (.int .u64 1)]],encN (Q0r 1 oneN e p false).1,encN q],[(o.length,1),(r.length,6)],st2⟩) a.length ?_ ?_
 refine K4w ?_;exact⟨0,[],oG,oG,rfl,rfl,rfl⟩;rintro k s ⟨j,r,rfl,hj,hrl2,hrr,rfl⟩;have x2:=Z0s j oG;refine K4a (fun h6=> ?_) (fun h6=> ?_);rotate_left;have hge:j=a.length:=(oF h6);have q1:tabF (fun j=>G i j) 0 a.length []=(r,0):=(by rw[hrr,hge];exact K0q _ _ r);refine K4w ?_;refine J4y ?_;refine⟨⟨oG,oG⟩,Q0a ?_⟩;simp-dsimp only[go_sem,x1];refine⟨a.length-(i+1),oG,i+1,o++ [r],rfl,oG,by simp[ho],?_,?_⟩;rw[hr,e4,q1,if_neg (by simp)];simp;have hjn:j<a.length:=(oT h6);have eN:=Z0d (X.getD i []) j oG;have f4:=J0l (fun j=>G i j) hjn r;have hyr:=(a3.row hlt).2 _ (Q0q (X.getD i []) j default oG);have wy:=Q0o hyr;have hok1:(X.getD i []).getD j default=entQ X i j:=rfl;have sb:=z1x (y:=(X.getD i []).getD j default) (q:=q) (p:=p);have sg:=U1a (y:=(X.getD i []).getD j default) (q:=q) (p:=p);have cL:=x0p ((X.getD i []).getD j default) q p false st2 wy wq;have cH:=x0q ((X.getD i []).getD j default) q p true st2 wy wq;refine K4w ?_;refine Q0k Z0c 167 (Z2k [0,1,2,3,4,5,6,7,8] (.alt (Z2k [9,10,11,12] (.step 13 [3,6,7] (.step 14 [] (.step 15 [] (.done))))) (.step 13 [3,6,7] (Z2k [9,10,11,12,14,15] .done)))) (by decide+kernel) (by simp) ?_;simp-dsimp only[go_sem,eQ,eN];refine⟨oG,⟨oG,oG⟩,?_⟩;refine And.intro ?_ ?_
 all_goals
  first | refine cL.mono ?_ | skip
  rintro res st3 ⟨rfl,rfl⟩;simp-dsimp only[go_sem,eQ,eN];refine Q0k Z0c 167 (Z2k [0,1,2,3,4,5,6,7,8] (.alt (Z2k [9,10,11,12] (.step 13 [3,6,7] (.step 14 [] (.step 15 [] (.done))))) (.step 13 [3,6,7] (Z2k [9,10,11,12,14,15] .done)))) (by decide+kernel) (by simp) ?_;simp-dsimp only[go_sem,eQ,eN];refine⟨oG,⟨oG,oG⟩,?_⟩;refine And.intro ?_ ?_
  all_goals
   first | refine cH.mono ?_ | skip
   rintro res st4 ⟨rfl,rfl⟩;by_cases f1:(Q0r 1 ((X.getD i []).getD j default) q p false).2=0;have b1:=Y1p f1;by_cases f0:(Q0r 0 ((X.getD i []).getD j default) q p true).2=0;have b0:=Y1p f0;have hsg:=sg f1 f0;rw[hok1,<-hg] at hsg;have hz:(G i j).2=0:=(by rw[hsg]);have hv:(G i j).1=⟨(Q0r 1 ((X.getD i []).getD j default) q p false).1,(Q0r 0 ((X.getD i []).getD j default) q p true).1⟩:=(by rw[hsg];rfl);simp-dsimp only[go_sem,eQ,eN,b1,b0,x2];refine⟨⟨oG,oG⟩,a.length-(j+1),oG,j+1,r++ [(G i j).1],rfl,oG,by simp[hrl2],?_,?_⟩;rw[hrr,f4,if_neg (fun hh=>hh hz)];rw[hv];simp[Q0z,encI];have b0:=Y1o f0;have hs2:=sb (.inr f0);rw[hok1,<-hg] at hs2;have q1:tabF (fun j=>G i j) 0 a.length []=([],2):=(by rw[hrr,f4,if_pos (by rw[hs2];decide),hs2]);simp-dsimp only[go_sem,eQ,eN,b1,b0];rw[hr,e4,if_pos (by rw[q1];decide),q1];rfl;have b1:=Y1o f1;have hs2:=sb (.inl f1);rw[hok1,<-hg] at hs2;have q1:tabF (fun j=>G i j) 0 a.length []=([],2):=(by rw[hrr,f4,if_pos (by rw[hs2];decide),hs2]);simp-dsimp only[go_sem,eQ,eN,b1];rw[hr,e4,if_pos (by rw[q1];decide),q1];rfl
end Go.Pv
end
