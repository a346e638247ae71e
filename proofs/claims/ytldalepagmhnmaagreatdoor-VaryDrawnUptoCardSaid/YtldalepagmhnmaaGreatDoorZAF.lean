/- Parts of the walk: N17, N18, N19, N20, N21, N22, N24, N25, N23, N26. -/
import Derived.Test.YtldalepagmhnmaaGreatDoorZAE
import Derived.Test.YtldalepagmhnmaaGreatDoorZAA
set_option linter.unusedVariables false
set_option linter.unusedSimpArgs false
section
set_option maxRecDepth 100000
namespace Go.Pv
open Go.Proofs
theorem W0q {v:Vl}{n k:Nat}(h:bdV n k v)(h1:n<=1000000000000)(h2:k<=100000000000):smV v:=⟨by have:=h.1;omega,by have:=h.2.1;omega,by have:=h.2.2;omega⟩
theorem Y0z {x:Nm}(h:Q0r x=true):x.w.length<=1000000000000:=by have:=(X0i h).1;omega
theorem U1t (p:Int)(st:Q0f):PCalls Tryz.prog 203 [.sc (.int .i64 p)] st (fun r st'=>r= .sc (.bool (Z0q p))/\st'=st):=by
 refine Q0b none Tryz.func203 rfl fun E=>Q0a ?_;unfold Z0q;by_cases h:8<=p;have f1:decide (p>=8)=true:=q_h h;have f2:decide (8<=p)=true:=q_h h;simp-dsimp only[go_sem,f1,f2]
 try simp
 have f1:decide (p>=8)=false:=q_g h;have f2:decide (8<=p)=false:=q_g h;simp-dsimp only[go_sem,f1,f2]
 try simp
theorem v1f (lo hi:Vl)(st:Q0f)(h1:(Q0c lo.m).length<=1000000000000)(h2:(Q0c hi.m).length<=1000000000000):PCalls Tryz.prog 204 [.agg (encV lo),.agg (encV hi)] st
 (fun r st'=>r= .tup [.agg (encI (Y0i lo hi).1),.sc (.int .i64 (Y0i lo hi).2)]/\st'=st):=by
 refine Q0b none Tryz.func204 rfl fun E=>Q0a ?_;unfold Y0i;simp-dsimp only[go_sem];refine(V1y lo _ h1).mono ?_;rintro r st ⟨rfl,rfl⟩;simp-dsimp only[go_sem];refine(V1y hi _ h2).mono ?_;rintro r st ⟨rfl,rfl⟩;by_cases c1:(numV lo).2=0;have f1:((numV lo).2 !=0)=false:=(by rw[c1];rfl);by_cases c2:(numV hi).2=0;have f2:((numV hi).2 !=0)=false:=(by rw[c2];rfl);rw[if_pos ⟨c1,c2⟩];simp-dsimp only[go_sem,f1,f2]
 try rfl
 have f2:((numV hi).2 !=0)=true:=bne_iff_ne.2 c2;rw[if_neg (fun h=>c2 h.2)];simp-dsimp only[go_sem,f1,f2]
 try rfl
 have f1:((numV lo).2 !=0)=true:=bne_iff_ne.2 c1;rw[if_neg (fun h=>c1 h.1)];simp-dsimp only[go_sem,f1]
 try rfl
theorem y1r (x y u v:Vl)(st:Q0f)(hx:bdV 10000000 10000000 x)(hy:bdV 10000000 10000000 y)(hu:bdV 10000000 10000000 u)(hv:bdV 10000000 10000000 v):PCalls Tryz.prog 207 [.agg (encV x),.agg (encV y),.agg (encV u),.agg (encV v)] st (fun r st'=>r= .agg (encV (V0j x y u v))/\st'=st):=by
 have sx:=W0q hx (by omega) (by omega);have sy:=W0q hy (by omega) (by omega);have su:=W0q hu (by omega) (by omega);have sv:=W0q hv (by omega) (by omega);refine Q0b none Tryz.func207 rfl fun E=>Q0a ?_;unfold V0j;simp-dsimp only[go_sem];refine(W0y x _).mono ?_;rintro r st ⟨rfl,rfl⟩;by_cases c1:0<=J0c x;have f1:decide (J0c x>=0)=true:=q_h c1;simp-dsimp only[go_sem,f1];refine(W0y u _).mono ?_;rintro r st ⟨rfl,rfl⟩;by_cases c2:0<=J0c u;have f2:decide (J0c u>=0)=true:=q_h c2;rw[if_pos ⟨c1,c2⟩];simp-dsimp only[go_sem,f1,f2];refine(by_c x u _ sx su).mono ?_;rintro r st ⟨rfl,rfl⟩;simp-dsimp only[go_sem];have f2:decide (J0c u>=0)=false:=q_g c2;rw[if_neg (fun h=>c2 h.2),if_pos c1];simp-dsimp only[go_sem,f1,f2];refine(W0y x _).mono ?_;rintro r st ⟨rfl,rfl⟩;simp-dsimp only[go_sem,f1,f2];refine(by_c y u _ sy su).mono ?_;rintro r st ⟨rfl,rfl⟩;simp-dsimp only[go_sem];have f1:decide (J0c x>=0)=false:=q_g c1;rw[if_neg (fun h=>c1 h.1),if_neg c1];simp-dsimp only[go_sem,f1];refine(W0y x _).mono ?_;rintro r st ⟨rfl,rfl⟩;simp-dsimp only[go_sem,f1];refine(W0y u _).mono ?_;rintro r st ⟨rfl,rfl⟩;by_cases c2:0<=J0c u;have f2:decide (J0c u>=0)=true:=q_h c2;rw[if_pos c2];simp-dsimp only[go_sem,f1,f2];refine(by_c x v _ sx sv).mono ?_;rintro r st ⟨rfl,rfl⟩;simp-dsimp only[go_sem];have f2:decide (J0c u>=0)=false:=q_g c2;rw[if_neg c2];simp-dsimp only[go_sem,f1,f2];refine(W0y y _).mono ?_;rintro r st ⟨rfl,rfl⟩;by_cases c3:J0c y<=0/\J0c v<=0;have f3:decide (J0c y<=0)=true:=q_h c3.1;have f4:decide (J0c v<=0)=true:=q_h c3.2;rw[if_pos c3];simp-dsimp only[go_sem,f3];refine(W0y v _).mono ?_;rintro r st ⟨rfl,rfl⟩;simp-dsimp only[go_sem,f3,f4];refine(by_c y v _ sy sv).mono ?_;rintro r st ⟨rfl,rfl⟩;simp-dsimp only[go_sem];rw[if_neg c3];have q1:=Q2n hx hv;have q2:=Q2n hy hu;have tail: ∀(Z:Prop),Z->Z:=fun _ h=>h;cases f3:decide (J0c y<=0) with
 | false=>
  simp-dsimp only[go_sem,f3];refine Q0a ?_;simp-dsimp only[go_sem];refine j0f Z0a 61 [0,1,2,3,4,5] [6,7] [8,9] (.step 0 [] (.step 1 [] (.step 3 [] (.step 4 [] (.step 2 [3,4] (.step 5 [] (.done))))))) (.step 8 [] (.step 9 [] (.done))) (by decide+kernel) (by simp) ?_;simp-dsimp only[go_sem];refine(by_c x v _ sx sv).mono ?_;rintro r st ⟨rfl,rfl⟩;simp-dsimp only[go_sem];refine(by_c y u _ sy su).mono ?_;rintro r st ⟨rfl,rfl⟩;simp-dsimp only[go_sem];refine(k1j _ _ _ (W0q q2 (by omega) (by omega)) (W0q q1 (by omega) (by omega))).mono ?_;rintro r st ⟨rfl,rfl⟩;simp-dsimp only[go_sem];refine ck (fun h=> ?_) (fun h=> ?_);have hc:G0h (byV y u) (byV x v)<0:=q_b h;rw[if_pos hc];simp-dsimp only[go_sem]
  try rfl
  have hc: ¬G0h (byV y u) (byV x v)<0:=q_c h;rw[if_neg hc];simp-dsimp only[go_sem]
  try rfl
 | true=>
  have f4:decide (J0c v<=0)=false:=q_g fun h=>c3 ⟨q_b f3,h⟩;simp-dsimp only[go_sem,f3];refine(W0y v _).mono ?_;rintro r st ⟨rfl,rfl⟩;simp-dsimp only[go_sem,f3,f4];refine Q0a ?_;simp-dsimp only[go_sem];refine j0f Z0a 61 [0,1,2,3,4,5] [6,7] [8,9] (.step 0 [] (.step 1 [] (.step 3 [] (.step 4 [] (.step 2 [3,4] (.step 5 [] (.done))))))) (.step 8 [] (.step 9 [] (.done))) (by decide+kernel) (by simp) ?_;simp-dsimp only[go_sem];refine(by_c x v _ sx sv).mono ?_;rintro r st ⟨rfl,rfl⟩;simp-dsimp only[go_sem];refine(by_c y u _ sy su).mono ?_;rintro r st ⟨rfl,rfl⟩;simp-dsimp only[go_sem];refine(k1j _ _ _ (W0q q2 (by omega) (by omega)) (W0q q1 (by omega) (by omega))).mono ?_;rintro r st ⟨rfl,rfl⟩;simp-dsimp only[go_sem];refine ck (fun h=> ?_) (fun h=> ?_);have hc:G0h (byV y u) (byV x v)<0:=q_b h;rw[if_pos hc];simp-dsimp only[go_sem]
  try rfl
  have hc: ¬G0h (byV y u) (byV x v)<0:=q_c h;rw[if_neg hc];simp-dsimp only[go_sem]
  try rfl
theorem w2k (x y u v:Vl)(st:Q0f)(hx:bdV 10000000 10000000 x)(hy:bdV 10000000 10000000 y)(hu:bdV 10000000 10000000 u)(hv:bdV 10000000 10000000 v):PCalls Tryz.prog 208 [.agg (encV x),.agg (encV y),.agg (encV u),.agg (encV v)] st (fun r st'=>r= .agg (encV (G0o x y u v))/\st'=st):=by
 refine Q0b none Tryz.func208 rfl fun E=>Q0a ?_;simp-dsimp only[go_sem];refine Q0j Z0a 17 (.step 0 [] (.step 2 [] (.step 4 [] (.step 5 [] (.step 1 [2,4,5] (.step 3 [4,5] (.step 6 [] (.step 7 [] (.step 8 [] (.done)))))))))) (by decide+kernel) (by simp) ?_;simp-dsimp only[go_sem];refine(Z1o y _).mono ?_;rintro r st ⟨rfl,rfl⟩;simp-dsimp only[go_sem];refine(Z1o x _).mono ?_;rintro r st ⟨rfl,rfl⟩;simp-dsimp only[go_sem];refine(y1r (V0g y) (V0g x) u v _ (y0f hy) (y0f hx) hu hv).mono ?_;rintro r st ⟨rfl,rfl⟩;simp-dsimp only[go_sem];refine(Z1o _ _).mono ?_;rintro r st ⟨rfl,rfl⟩;simp-dsimp only[go_sem]
 try rfl
theorem Z1s (a b:Ivl)(p:Int)(st:Q0f)(ha:wI a)(hb:wI b):PCalls Tryz.prog 140 [.sc (.int .i64 0),.agg (encI a),.agg (encI b),.sc (.int .i64 p)] st (fun r st'=>r= .tup [.agg (encI (opI 0 a b p).1),.sc (.int .i64 (opI 0 a b p).2)]/\st'=st):=by
 refine Q0b none Tryz.func140 rfl fun E=>Q0a ?_;simp-dsimp only[go_sem];refine(X0g a _ ha).mono ?_;rintro r st ⟨rfl,rfl⟩;cases r1:Q0m a with
 | false=>
  simp-dsimp only[go_sem];rw[opI,if_neg (by simp[r1])];rfl
 | true=>
  simp-dsimp only[go_sem];refine(X0g b _ hb).mono ?_;rintro r st ⟨rfl,rfl⟩;cases r2:Q0m b with
  | false=>
   simp-dsimp only[go_sem];rw[opI,if_neg (by simp[r2])];rfl
  | true=>
   simp-dsimp only[go_sem];refine(U1t p _).mono ?_;rintro r st ⟨rfl,rfl⟩;cases r3:Z0q p with
   | false=>
    simp-dsimp only[go_sem];rw[opI,if_neg (by simp[r3])];rfl
   | true=>
    obtain⟨q,rfl,q1,q2,q3⟩:=q0a r3;obtain⟨a1,a2,_⟩:=Z0n r1;obtain⟨b1,b2,_⟩:=Z0n r2;have hm:opI 0 a b q=Y0i (Z0e (loV 0 (ofN a.lo) (ofN a.hi) (ofN b.lo) (ofN b.hi)) q false) (Z0e (hiV 0 (ofN a.lo) (ofN a.hi) (ofN b.lo) (ofN b.hi)) q true):=(by rw[opI,if_pos ⟨r1,r2,r3⟩,q3]);rw[hm];have d1:=Y0s a1;have d2:=Y0s a2;have d3:=Y0s b1;have d4:=Y0s b2;simp-dsimp only[go_sem];refine j0f Z0a 110 [0,1,2,3,4,5,6,7,8,9,10,11] [12,13,14,15] [16,17,18,19] (.step 0 [] (.step 1 [] (.step 3 [] (.step 4 [] (.step 6 [] (.step 7 [] (.step 9 [] (.step 10 [] (.step 2 [4,7,10] (.step 5 [7,10] (.step 8 [10] (.step 11 [1] (.done))))))))))))) (.step 16 [4] (.step 17 [7] (.step 18 [] (.step 19 [] (.done))))) (by decide+kernel) (by simp) ?_;simp-dsimp only[go_sem];refine(of_c a.lo _ (Y0z a1)).mono ?_;rintro r st ⟨rfl,rfl⟩;simp-dsimp only[go_sem];refine(of_c a.hi _ (Y0z a2)).mono ?_;rintro r st ⟨rfl,rfl⟩;simp-dsimp only[go_sem];refine(of_c b.lo _ (Y0z b1)).mono ?_;rintro r st ⟨rfl,rfl⟩;simp-dsimp only[go_sem];refine(of_c b.hi _ (Y0z b2)).mono ?_;rintro r st ⟨rfl,rfl⟩;generalize ofN a.lo=x at*
    generalize ofN a.hi=y at*
    generalize ofN b.lo=u at*
    generalize ofN b.hi=v at*
    simp-dsimp only[go_sem];rw[loV0,hiV0];refine Q0j Z0a 110 (.step 0 [] (.step 1 [] (.step 3 [] (.step 5 [] (.step 6 [] (.step 8 [] (.step 2 [5,6] (.step 4 [5,6] (.step 7 [] (.step 9 [0,1] (.step 10 [] (.step 11 [] (.step 12 [] (.step 13 [] (.step 14 [] (.done)))))))))))))))) (by decide+kernel) (by simp) ?_;simp-dsimp only[go_sem];refine(y1a _ _ _ (W0q d1 (by omega) (by omega)) (W0q d3 (by omega) (by omega))).mono ?_;rintro r st ⟨rfl,rfl⟩;have e1:=Q2m d1 d3;simp-dsimp only[go_sem];refine(y0w _ q false _ (W0q e1 (by omega) (by omega)) (by omega)).mono ?_;rintro r st ⟨rfl,rfl⟩;have e2:=q0l e1 q false;simp-dsimp only[go_sem];refine(y1a _ _ _ (W0q d2 (by omega) (by omega)) (W0q d4 (by omega) (by omega))).mono ?_;rintro r st ⟨rfl,rfl⟩;have e3:=Q2m d2 d4;simp-dsimp only[go_sem];refine(y0w _ q true _ (W0q e3 (by omega) (by omega)) (by omega)).mono ?_;rintro r st ⟨rfl,rfl⟩;have e4:=q0l e3 q true;simp-dsimp only[go_sem];refine(v1f _ _ _ (V0d e2 (by omega)) (V0d e4 (by omega))).mono ?_;rintro r st ⟨rfl,rfl⟩;simp-dsimp only[go_sem]
theorem U1p (a b:Ivl)(p:Int)(st:Q0f)(ha:wI a)(hb:wI b):PCalls Tryz.prog 140 [.sc (.int .i64 2),.agg (encI a),.agg (encI b),.sc (.int .i64 p)] st (fun r st'=>r= .tup [.agg (encI (opI 2 a b p).1),.sc (.int .i64 (opI 2 a b p).2)]/\st'=st):=by
 refine Q0b none Tryz.func140 rfl fun E=>Q0a ?_;simp-dsimp only[go_sem];refine(X0g a _ ha).mono ?_;rintro r st ⟨rfl,rfl⟩;cases r1:Q0m a with
 | false=>
  simp-dsimp only[go_sem];rw[opI,if_neg (by simp[r1])];rfl
 | true=>
  simp-dsimp only[go_sem];refine(X0g b _ hb).mono ?_;rintro r st ⟨rfl,rfl⟩;cases r2:Q0m b with
  | false=>
   simp-dsimp only[go_sem];rw[opI,if_neg (by simp[r2])];rfl
  | true=>
   simp-dsimp only[go_sem];refine(U1t p _).mono ?_;rintro r st ⟨rfl,rfl⟩;cases r3:Z0q p with
   | false=>
    simp-dsimp only[go_sem];rw[opI,if_neg (by simp[r3])];rfl
   | true=>
    obtain⟨q,rfl,q1,q2,q3⟩:=q0a r3;obtain⟨a1,a2,_⟩:=Z0n r1;obtain⟨b1,b2,_⟩:=Z0n r2;have hm:opI 2 a b q=Y0i (Z0e (loV 2 (ofN a.lo) (ofN a.hi) (ofN b.lo) (ofN b.hi)) q false) (Z0e (hiV 2 (ofN a.lo) (ofN a.hi) (ofN b.lo) (ofN b.hi)) q true):=(by rw[opI,if_pos ⟨r1,r2,r3⟩,q3]);rw[hm];have d1:=Y0s a1;have d2:=Y0s a2;have d3:=Y0s b1;have d4:=Y0s b2;simp-dsimp only[go_sem];refine j0f Z0a 110 [0,1,2,3,4,5,6,7,8,9,10,11] [12,13,14,15] [16,17,18,19] (.step 0 [] (.step 1 [] (.step 3 [] (.step 4 [] (.step 6 [] (.step 7 [] (.step 9 [] (.step 10 [] (.step 2 [4,7,10] (.step 5 [7,10] (.step 8 [10] (.step 11 [1] (.done))))))))))))) (.step 16 [4] (.step 17 [7] (.step 18 [] (.step 19 [] (.done))))) (by decide+kernel) (by simp) ?_;simp-dsimp only[go_sem];refine(of_c a.lo _ (Y0z a1)).mono ?_;rintro r st ⟨rfl,rfl⟩;simp-dsimp only[go_sem];refine(of_c a.hi _ (Y0z a2)).mono ?_;rintro r st ⟨rfl,rfl⟩;simp-dsimp only[go_sem];refine(of_c b.lo _ (Y0z b1)).mono ?_;rintro r st ⟨rfl,rfl⟩;simp-dsimp only[go_sem];refine(of_c b.hi _ (Y0z b2)).mono ?_;rintro r st ⟨rfl,rfl⟩;generalize ofN a.lo=x at*
    generalize ofN a.hi=y at*
    generalize ofN b.lo=u at*
    generalize ofN b.hi=v at*
    simp-dsimp only[go_sem];refine Q0a ?_;simp-dsimp only[go_sem];refine j0f Z0a 110 [0,1,2,3,4,5,6,7,8,9] [10,11] [12,13] (.step 0 [] (.step 1 [] (.step 2 [] (.step 3 [] (.step 5 [] (.step 6 [] (.step 7 [] (.step 8 [] (.step 4 [5,6,7,8] (.step 9 [] (.done))))))))))) (.step 12 [] (.step 13 [] (.done))) (by decide+kernel) (by simp) ?_;simp-dsimp only[go_sem];refine(y1r x y u v _ (d1.mono (by omega) (by omega)) (d2.mono (by omega) (by omega)) (d3.mono (by omega) (by omega)) (d4.mono (by omega) (by omega))).mono ?_;rintro r st ⟨rfl,rfl⟩;simp-dsimp only[go_sem];refine(w2k x y u v _ (d1.mono (by omega) (by omega)) (d2.mono (by omega) (by omega)) (d3.mono (by omega) (by omega)) (d4.mono (by omega) (by omega))).mono ?_;rintro r st ⟨rfl,rfl⟩;have e1:=x1v d1 d2 d3 d4;have e3:=q2x d1 d2 d3 d4;have hl2:loV 2 x y u v=V0j x y u v:=rfl;have hh2:hiV 2 x y u v=G0o x y u v:=rfl;rw[hl2,hh2];generalize V0j x y u v=lo at*
    generalize G0o x y u v=hi at*
    simp-dsimp only[go_sem];refine Q0j Z0a 110 (.step 0 [] (.step 1 [] (.step 3 [] (.step 4 [] (.step 2 [3] (.step 5 [] (.step 6 [] (.step 7 [] (.step 8 [] (.step 9 [] (.step 10 [] (.done)))))))))))) (by decide+kernel) (by simp) ?_;simp-dsimp only[go_sem];refine(y0w _ q false _ (W0q e1 (by omega) (by omega)) (by omega)).mono ?_;rintro r st ⟨rfl,rfl⟩;have e2:=q0l e1 q false;simp-dsimp only[go_sem];refine(y0w _ q true _ (W0q e3 (by omega) (by omega)) (by omega)).mono ?_;rintro r st ⟨rfl,rfl⟩;have e4:=q0l e3 q true;simp-dsimp only[go_sem];refine(v1f _ _ _ (V0d e2 (by omega)) (V0d e4 (by omega))).mono ?_;rintro r st ⟨rfl,rfl⟩;simp-dsimp only[go_sem]
theorem j2l (a:Ivl)(x:Nm)(st:Q0f)(ha:wI a)(hx:wN x):PCalls Tryz.prog 111 [.agg (encI a),.agg (encN x)] st (fun r st'=>r= .sc (.bool (hasI a x))/\st'=st):=by
 refine Q0b none Tryz.func111 rfl fun E=>Q0a ?_;unfold hasI;simp-dsimp only[go_sem];refine(X0g a _ ha).mono ?_;rintro r st ⟨rfl,rfl⟩;cases r1:Q0m a with
 | false=>simp-dsimp only[go_sem];try rfl
 | true=>
  simp-dsimp only[go_sem];refine(Y0m x _ (by unfold wN at hx;omega)).mono ?_;rintro r st ⟨rfl,rfl⟩;cases r2:Q0r x with
  | false=>simp-dsimp only[go_sem];try rfl
  | true=>
   have a1:=(Z0n r1).1;have a2:=(Z0n r1).2.1;have e1:cmpR a.lo x=cmpN a.lo x:=if_pos ⟨a1,r2⟩;have e2:cmpR x a.hi=cmpN x a.hi:=if_pos ⟨r2,a2⟩;simp-dsimp only[go_sem];refine(X1h a.lo x _ (Y0z a1) (Y0z r2)).mono ?_;rintro r st ⟨rfl,rfl⟩;rw[e1];cases c1:decide (cmpN a.lo x<=0) with
   | false=>simp-dsimp only[go_sem,c1];try rfl
   | true=>
    simp-dsimp only[go_sem,c1];refine(X1h x a.hi _ (Y0z r2) (Y0z a2)).mono ?_;rintro r st ⟨rfl,rfl⟩;rw[e2];simp-dsimp only[go_sem,c1]
    try rfl
theorem Z1x (p:Int)(st:Q0f):PCalls Tryz.prog 209 [.sc (.int .i64 p)] st (fun r st'=>r= .sc (.bool (Z0q p))/\st'=st):=by
 refine Q0b none Tryz.func209 rfl fun E=>Q0a ?_;unfold Z0q;by_cases h:8<=p;have f1:decide (p>=8)=true:=q_h h;have f2:decide (8<=p)=true:=q_h h;simp-dsimp only[go_sem,f1,f2]
 try simp
 have f1:decide (p>=8)=false:=q_g h;have f2:decide (8<=p)=false:=q_g h;simp-dsimp only[go_sem,f1,f2]
 try simp
theorem k2g (q:List Nm)(st:Q0f)(hq:wNs q):PCalls Tryz.prog 170 [.sl .no (X0h q)] st (fun r st'=>r= .sl (.fresh 6) (Q0p (ofB q))/\st'=st):=by
 obtain⟨hl,hw⟩:=hq;refine Q0b none Tryz.func170 rfl fun E=>Q0a ?_;simp-dsimp only[go_sem];refine Q0v 3 6 ?_;simp-dsimp only[go_sem];refine Q0e [true,false,false,true,true] 0 1
  (fun n s=> ∃i,n=q.length-i/\i<=q.length/\s=⟨[.sl .no (X0h q),.junk,.junk,.sl (.own 0) (Q0p (ofB (q.take i))),.sc (.int .i64 (i:Nat))]++List.replicate 15 .junk,[],[((ofB (q.take i)).length,6)],st⟩) q.length ?_ ?_
 simp-dsimp only[go_sem];exact⟨0,by omega,by omega,rfl⟩;rintro n s ⟨i,rfl,hi,rfl⟩;simp-dsimp only[go_sem];refine ck (fun h'=> ?_) (fun h'=> ?_);have hlt:i<q.length:=(by have:=q_b h';omega);have e1:=K1h q i hlt;have e3:IntKind.i64.wrap ((i:Int)+1)=((i+1:Nat):Int):=(by rw[Q0i _ (by omega) (by omega)];omega);have ll:(ofB (q.take i)).length=i:=(by simp[ofB];omega);simp-dsimp only[go_sem,e1];refine⟨⟨by omega,hlt⟩,?_⟩;refine(U1v _ _).mono ?_;rintro r st ⟨rfl,rfl⟩;simp-dsimp only[go_sem,e3];refine⟨⟨by omega,by omega⟩,q.length-(i+1),by omega,i+1,rfl,by omega,?_⟩;rw[k2r q i hlt];simp[Q0p,encI];have hge:i=q.length:=(by have:=q_c h';omega);simp-dsimp only[go_sem];refine Q0a ?_;simp-dsimp only[go_sem];rw[hge,List.take_length]
theorem k2m (a b:List Ivl)(p:Int)(st:Q0f)(ha:wB a)(hb:wB b):PCalls Tryz.prog 169 [.sc (.int .i64 0),.sl .no (Q0p a),.sl .no (Q0p b),.sc (.int .i64 p)] st (fun r st'=>r= .tup [.sl .no (Q0p (opB 0 a b p).1),.sc (.int .i64 (opB 0 a b p).2)]/\st'=st):=by
 refine Q0b none Tryz.func169 rfl fun E=>Q0a ?_;simp-dsimp only[go_sem];refine(H0z a _ ha).mono ?_;rintro r st ⟨rfl,rfl⟩;cases r1:rightB a with
 | false=>
  simp-dsimp only[go_sem];rw[opB,if_neg (by simp[r1])];rfl
 | true=>
  simp-dsimp only[go_sem];refine(H0z b _ hb).mono ?_;rintro r st ⟨rfl,rfl⟩;cases r2:rightB b with
  | false=>
   simp-dsimp only[go_sem];rw[opB,if_neg (by simp[r2])];rfl
  | true=>
   by_cases hl:a.length=b.length
   . have f1:((a.length:Int) !=(b.length:Int))=false:=by rw[hl];simp
     simp-dsimp only[go_sem,f1];refine(Z1x p _).mono ?_;rintro r st ⟨rfl,rfl⟩;cases r3:Z0q p with
     | false=>
      simp-dsimp only[go_sem,f1];rw[opB,if_neg (by simp[r3])];rfl
     | true=>
      have hla:=ha.1;have hab:opB 0 a b p=v0f (fun i x=>opI 0 x (b.getD i default) p) 0 a []:=if_pos ⟨r1,r2,hl,r3⟩;rw[hab];simp-dsimp only[go_sem,f1];refine Q0v 10 6 ?_;simp-dsimp only[go_sem];refine Q0e [true,true,true,true,false,false,false,false,false,false,true,true] 0 1 (fun n s=> ∃i o,n=a.length-i/\i<=a.length/\o.length=i/\v0f (fun i x=>opI 0 x (b.getD i default) p) 0 a []=v0f (fun i x=>opI 0 x (b.getD i default) p) i (a.drop i) o/\s=⟨[.sc (.int .i64 0),.sl .no (Q0p a),.sl .no (Q0p b),.sc (.int .i64 p),.junk,.junk,.junk,.junk,.junk,.junk,.sl (.own 0) (Q0p o),.sc (.int .i64 (i:Nat))]++List.replicate 50 .junk,[],[(o.length,6)],st⟩) a.length ?_ ?_;simp-dsimp only[go_sem];exact⟨0,[],by omega,by omega,rfl,rfl,rfl⟩
      . rintro n s ⟨i,o,rfl,hi,ho,hr,rfl⟩;simp-dsimp only[go_sem];refine ck (fun h'=> ?_) (fun h'=> ?_)
        . have hlt:i<a.length:=by have:=q_b h';omega
          have e1:=Z0h a i hlt;have e2:=Z0h b i (by omega);have e3:IntKind.i64.wrap ((i:Int)+1)=((i+1:Nat):Int):=(by rw[Q0i _ (by omega) (by omega)];omega);have e4:=Y1k (fun i x=>opI 0 x (b.getD i default) p) a i o hlt;simp-dsimp only[go_sem];refine Q0j Z0a 62 (.step 0 [] (.step 1 [] (.step 2 [] (.step 3 [] (.step 4 [] (.step 5 [] (.step 6 [] (.step 7 [] (.step 8 [] (.step 9 [] (.alt (.step 10 [] (.step 11 [] (.step 12 [] (.step 13 [] (.step 14 [4,8] (.step 15 [] (.step 16 [] (.done)))))))) (.step 14 [4,8] (.step 10 [] (.step 11 [] (.step 12 [] (.step 13 [] (.step 15 [] (.step 16 [] (.done))))))))))))))))))) (by decide+kernel) (by simp) ?_;simp-dsimp only[go_sem,e1,e2];refine⟨⟨by omega,by omega⟩,⟨by omega,by omega⟩,?_,?_⟩
          all_goals
           refine(Z1s _ _ p _ (ha.2 i hlt) (hb.2 i (by omega))).mono ?_;rintro r st ⟨rfl,rfl⟩;simp-dsimp only[go_sem,e1,e2];refine ck (fun h2=> ?_) (fun h2=> ?_);have hne:=U0l h2;simp-dsimp only[go_sem];rw[hr,e4,if_pos hne];rfl;have he:=G0c h2;simp-dsimp only[go_sem,e3];refine⟨by omega,a.length-(i+1),by omega,i+1,o++ [(opI 0 (a.getD i default) (b.getD i default) p).1],rfl,by omega,by simp[ho],?_,?_⟩;rw[hr,e4,if_neg (fun hh=>hh he)];simp[Q0p,encI]
        have hge:i=a.length:=by have:=q_c h';omega
        simp-dsimp only[go_sem];refine Q0a ?_;simp-dsimp only[go_sem];rw[hr,hge,List.drop_length];rfl
   have f1:((a.length:Int) !=(b.length:Int))=true:=by rw[bne_iff_ne];omega
   simp-dsimp only[go_sem,f1];rw[opB,if_neg (fun h=>hl h.2.2.1)];rfl
theorem x2l (x:Ivl)(b:List Ivl)(p:Int)(st:Q0f)(hx:wI x)(hb:wB b):PCalls Tryz.prog 210 [.agg (encI x),.sl .no (Q0p b),.sc (.int .i64 p)] st (fun r st'=>r= .tup [.sl .no (Q0p (V0h x b p).1),.sc (.int .i64 (V0h x b p).2)]/\st'=st):=by
 refine Q0b none Tryz.func210 rfl fun E=>Q0a ?_;simp-dsimp only[go_sem];refine(H0z b _ hb).mono ?_;rintro r st ⟨rfl,rfl⟩;cases r1:rightB b with
 | false=>
  simp-dsimp only[go_sem];rw[V0h,if_neg (by simp[r1])];rfl
 | true=>
  simp-dsimp only[go_sem];refine(X0g x _ hx).mono ?_;rintro r st ⟨rfl,rfl⟩;cases r2:Q0m x with
  | false=>
   simp-dsimp only[go_sem];rw[V0h,if_neg (by simp[r2])];rfl
  | true=>
   simp-dsimp only[go_sem];refine(Z1x p _).mono ?_;rintro r st ⟨rfl,rfl⟩;cases r3:Z0q p with
   | false=>
    simp-dsimp only[go_sem];rw[V0h,if_neg (by simp[r3])];rfl
   | true=>
    have hla:=hb.1;have hab:V0h x b p=v0f (fun _ y=>opI 2 x y p) 0 b []:=if_pos ⟨r1,r2,r3⟩;rw[hab];simp-dsimp only[go_sem];refine Q0v 8 6 ?_;simp-dsimp only[go_sem];refine Q0e [false,true,true,true,false,false,false,false,true,true] 1 1 (fun n s=> ∃i o,n=b.length-i/\i<=b.length/\o.length=i/\v0f (fun _ y=>opI 2 x y p) 0 b []=v0f (fun _ y=>opI 2 x y p) i (b.drop i) o/\s=⟨[.junk,.sl .no (Q0p b),.sc (.int .i64 p),.lp 0 0,.junk,.junk,.junk,.junk,.sl (.own 0) (Q0p o),.sc (.int .i64 (i:Nat))]++List.replicate 39 .junk,[encI x],[(o.length,6)],st⟩) b.length ?_ ?_;simp-dsimp only[go_sem];exact⟨0,[],by omega,by omega,rfl,rfl,rfl⟩
    . rintro n s ⟨i,o,rfl,hi,ho,hr,rfl⟩;simp-dsimp only[go_sem];refine ck (fun h'=> ?_) (fun h'=> ?_)
      . have hlt:i<b.length:=by have:=q_b h';omega
        have e1:=Z0h b i hlt;have e3:IntKind.i64.wrap ((i:Int)+1)=((i+1:Nat):Int):=(by rw[Q0i _ (by omega) (by omega)];omega);have e4:=Y1k (fun _ y=>opI 2 x y p) b i o hlt;simp-dsimp only[go_sem];refine Q0j Z0a 49 (.step 0 [] (.step 1 [] (.step 2 [] (.step 3 [] (.step 4 [] (.step 5 [] (.alt (.step 6 [] (.step 7 [] (.step 8 [] (.step 9 [] (.step 10 [0,4] (.step 11 [] (.step 12 [] (.done)))))))) (.step 10 [0,4] (.step 6 [] (.step 7 [] (.step 8 [] (.step 9 [] (.step 11 [] (.step 12 [] (.done))))))))))))))) (by decide+kernel) (by simp) ?_;simp-dsimp only[go_sem,e1];refine⟨⟨by omega,by omega⟩,?_,?_⟩
        all_goals
         refine(U1p x _ p _ hx (hb.2 i hlt)).mono ?_;rintro r st ⟨rfl,rfl⟩;simp-dsimp only[go_sem,e1];refine ck (fun h2=> ?_) (fun h2=> ?_);have hne:=U0l h2;simp-dsimp only[go_sem];rw[hr,e4,if_pos hne];rfl;have he:=G0c h2;simp-dsimp only[go_sem,e3];refine⟨by omega,b.length-(i+1),by omega,i+1,o++ [(opI 2 x (b.getD i default) p).1],rfl,by omega,by simp[ho],?_,?_⟩;rw[hr,e4,if_neg (fun hh=>hh he)];simp[Q0p,encI]
      have hge:i=b.length:=by have:=q_c h';omega
      simp-dsimp only[go_sem];refine Q0a ?_;simp-dsimp only[go_sem];rw[hr,hge,List.drop_length];rfl
theorem Z2c (k:Nat)(a b:Ivl)(p:Int):wI (opI k a b p).1:=X0x (X0t k a b p)
def k1 :Nm:=⟨false,0,[1]⟩
def k2 :Nm:=⟨false,1,[1]⟩
def k4 :Nm:=⟨false,2,[1]⟩
theorem X0q (i:Nat)(h:i<100000000000000):IntKind.i64.wrap ((i:Int)+1)=((i+1:Nat):Int):=by rw[Q0i _ (by omega) (by omega)];omega
theorem q3f (l:List UInt64)(i k:Nat)(st:Q0f)(h:atD st k l i)(hi:i<=1000000000):PCalls Tryz.prog 17 [.gp k 0] st
 (fun r st'=> ∃(p j:Nat),8<=p/\p<=256/\i<=j/\j<=i+2/\r= .sc (.int .i64 p)/\st'=st.set k (dk l j)):=by
 refine Q0b none Tryz.func17 rfl fun E=>Q0a ?_;simp-dsimp only[go_sem];refine(x0m l i k 6 st h (by omega) (by omega) (by omega)).mono ?_;rintro r st' ⟨rfl,rfl⟩;simp-dsimp only[go_sem];refine ck (fun h1=> ?_) (fun h1=> ?_);simp-dsimp only[go_sem];exact⟨8,i+1,by omega,by omega,by omega,by omega,rfl,rfl⟩;simp-dsimp only[go_sem];refine ck (fun h2=> ?_) (fun h2=> ?_);simp-dsimp only[go_sem];exact⟨256,i+1,by omega,by omega,by omega,by omega,rfl,rfl⟩;simp-dsimp only[go_sem];refine(x0m l (i+1) k 60 _ (h.set (i+1)) (by omega) (by omega) (by omega)).mono ?_;rintro r st' ⟨rfl,rfl⟩;have n1:=Y2w l (i+1) (n:=60) (by omega);have x1:IntKind.i64.wrap (12+(nx l (i+1) 60:Int))=((12+nx l (i+1) 60:Nat):Int):=(by rw[show(12+(nx l (i+1) 60:Int))=((12+nx l (i+1) 60:Nat):Int) from by omega,Q0o _ (by omega)]);simp-dsimp only[go_sem,w0a,x1];exact⟨12+nx l (i+1) 60,i+2,by omega,by omega,by omega,by omega,rfl,rfl⟩
end Go.Pv
end
