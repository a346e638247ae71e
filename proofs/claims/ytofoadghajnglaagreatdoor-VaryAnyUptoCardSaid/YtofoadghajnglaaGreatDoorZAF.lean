/- Parts of the walk: N17, N18, N19, N20, N21, N22, N24, N25. -/
import Derived.Test.YtofoadghajnglaaGreatDoorZAE
import Derived.Test.YtofoadghajnglaaGreatDoorZAA
import Derived.Test.YtofoadghajnglaaGreatDoorZY
import Derived.Test.YtofoadghajnglaaGreatDoorZH
import Derived.Test.YtofoadghajnglaaGreatDoorZM
set_option linter.unusedVariables false
set_option linter.unusedSimpArgs false
section
set_option maxRecDepth 100000
namespace Go.Pv
open Go.Proofs
theorem W0k {v:Vl} {n k:Nat} (h:bdV n k v) (h1:n<=1000000000000) (h2:k<=100000000000):smV v:=⟨by have:=h.1;omega,by have:=h.2.1;omega,by have:=h.2.2;omega⟩
theorem Y0t {x:Nm} (h:Q0r x=true):x.w.length<=1000000000000:=by have:=(X0g h).1;omega
theorem Y1s (p:Int) (st:Q0f):PCalls Tryz.prog 222 [.sc (.int .i64 p)] st (fun r st'=>r= .sc (.bool (Z0m p))/\st'=st):=by
 refine Q0b none Tryz.func222 rfl fun E=>Q0a ?_;unfold Z0m;by_cases h:8<=p;have f1:decide (p>=8)=true:=decide_eq_true h;have f2:decide (8<=p)=true:=decide_eq_true h;simp -dsimp only [go_sem,f1,f2]
 try simp
 have f1:decide (p>=8)=false:=decide_eq_false h;have f2:decide (8<=p)=false:=decide_eq_false h;simp -dsimp only [go_sem,f1,f2]
 try simp
theorem k1a (lo hi:Vl) (st:Q0f) (h1:(Q0c lo.m).length<=1000000000000) (h2:(Q0c hi.m).length<=1000000000000):PCalls Tryz.prog 224 [.agg (encV lo),.agg (encV hi)] st
 (fun r st'=>r= .tup [.agg (encI (Y0a lo hi).1),.sc (.int .i64 (Y0a lo hi).2)]/\st'=st):=by
 refine Q0b none Tryz.func224 rfl fun E=>Q0a ?_;unfold Y0a;simp -dsimp only [go_sem];refine(v1a lo _ h1).mono ?_;rintro r st ⟨rfl,rfl⟩;simp -dsimp only [go_sem];refine(v1a hi _ h2).mono ?_;rintro r st ⟨rfl,rfl⟩;by_cases c1:(numV lo).2=0;have f1:((numV lo).2 !=0)=false:=(by rw [c1];rfl);by_cases c2:(numV hi).2=0;have f2:((numV hi).2 !=0)=false:=(by rw [c2];rfl);rw [if_pos ⟨c1,c2⟩];simp -dsimp only [go_sem,f1,f2]
 try rfl
 have f2:((numV hi).2 !=0)=true:=bne_iff_ne.2 c2;rw [if_neg (fun h=>c2 h.2)];simp -dsimp only [go_sem,f1,f2]
 try rfl
 have f1:((numV lo).2 !=0)=true:=bne_iff_ne.2 c1;rw [if_neg (fun h=>c1 h.1)];simp -dsimp only [go_sem,f1]
 try rfl
theorem w1m (x y u v:Vl) (st:Q0f) (hx:bdV 10000000 10000000 x) (hy:bdV 10000000 10000000 y) (hu:bdV 10000000 10000000 u) (hv:bdV 10000000 10000000 v):PCalls Tryz.prog 226 [.agg (encV x),.agg (encV y),.agg (encV u),.agg (encV v)] st (fun r st'=>r= .agg (encV (V0f x y u v))/\st'=st):=by
 have sx:=W0k hx (by omega) (by omega);have sy:=W0k hy (by omega) (by omega);have su:=W0k hu (by omega) (by omega);have sv:=W0k hv (by omega) (by omega);refine Q0b none Tryz.func226 rfl fun E=>Q0a ?_;unfold V0f;simp -dsimp only [go_sem];refine(Y0d x _).mono ?_;rintro r st ⟨rfl,rfl⟩;by_cases c1:0<=J0v x;have f1:decide (J0v x>=0)=true:=decide_eq_true c1;simp -dsimp only [go_sem,f1];refine(Y0d u _).mono ?_;rintro r st ⟨rfl,rfl⟩;by_cases c2:0<=J0v u;have f2:decide (J0v u>=0)=true:=decide_eq_true c2;rw [if_pos ⟨c1,c2⟩];simp -dsimp only [go_sem,f1,f2];refine(by_c x u _ sx su).mono ?_;rintro r st ⟨rfl,rfl⟩;simp -dsimp only [go_sem];have f2:decide (J0v u>=0)=false:=decide_eq_false c2;rw [if_neg (fun h=>c2 h.2),if_pos c1];simp -dsimp only [go_sem,f1,f2];refine(Y0d x _).mono ?_;rintro r st ⟨rfl,rfl⟩;simp -dsimp only [go_sem,f1,f2];refine(by_c y u _ sy su).mono ?_;rintro r st ⟨rfl,rfl⟩;simp -dsimp only [go_sem];have f1:decide (J0v x>=0)=false:=decide_eq_false c1;rw [if_neg (fun h=>c1 h.1),if_neg c1];simp -dsimp only [go_sem,f1];refine(Y0d x _).mono ?_;rintro r st ⟨rfl,rfl⟩;simp -dsimp only [go_sem,f1];refine(Y0d u _).mono ?_;rintro r st ⟨rfl,rfl⟩;by_cases c2:0<=J0v u;have f2:decide (J0v u>=0)=true:=decide_eq_true c2;rw [if_pos c2];simp -dsimp only [go_sem,f1,f2];refine(by_c x v _ sx sv).mono ?_;rintro r st ⟨rfl,rfl⟩;simp -dsimp only [go_sem];have f2:decide (J0v u>=0)=false:=decide_eq_false c2;rw [if_neg c2];simp -dsimp only [go_sem,f1,f2];refine(Y0d y _).mono ?_;rintro r st ⟨rfl,rfl⟩;by_cases c3:J0v y<=0/\J0v v<=0;have f3:decide (J0v y<=0)=true:=decide_eq_true c3.1;have f4:decide (J0v v<=0)=true:=decide_eq_true c3.2;rw [if_pos c3];simp -dsimp only [go_sem,f3];refine(Y0d v _).mono ?_;rintro r st ⟨rfl,rfl⟩;simp -dsimp only [go_sem,f3,f4];refine(by_c y v _ sy sv).mono ?_;rintro r st ⟨rfl,rfl⟩;simp -dsimp only [go_sem];rw [if_neg c3];have q1:=y1g hx hv;have q2:=y1g hy hu;have tail: ∀(Z:Prop),Z->Z:=fun _ h=>h;cases f3:decide (J0v y<=0) with
 | false=>
  simp -dsimp only [go_sem,f3];refine Q0a ?_;simp -dsimp only [go_sem];refine x0o Z0d 61 [0,1,2,3,4,5] [6,7] [8,9] (.step 0 [] (.step 1 [] (.step 3 [] (.step 4 [] (.step 2 [3,4] (.step 5 [] (.done))))))) (.step 8 [] (.step 9 [] (.done))) (by decide+kernel) (by simp) ?_;simp -dsimp only [go_sem];refine(by_c x v _ sx sv).mono ?_;rintro r st ⟨rfl,rfl⟩;simp -dsimp only [go_sem];refine(by_c y u _ sy su).mono ?_;rintro r st ⟨rfl,rfl⟩;simp -dsimp only [go_sem];refine(j1e _ _ _ (W0k q2 (by omega) (by omega)) (W0k q1 (by omega) (by omega))).mono ?_;rintro r st ⟨rfl,rfl⟩;simp -dsimp only [go_sem];refine ck (fun h=> ?_) (fun h=> ?_);have hc:U0y (byV y u) (byV x v)<0:=of_decide_eq_true h;rw [if_pos hc];simp -dsimp only [go_sem]
  try rfl
  have hc: ¬U0y (byV y u) (byV x v)<0:=of_decide_eq_false h;rw [if_neg hc];simp -dsimp only [go_sem]
  try rfl
 | true=>
  have f4:decide (J0v v<=0)=false:=decide_eq_false fun h=>c3 ⟨of_decide_eq_true f3,h⟩;simp -dsimp only [go_sem,f3];refine(Y0d v _).mono ?_;rintro r st ⟨rfl,rfl⟩;simp -dsimp only [go_sem,f3,f4];refine Q0a ?_;simp -dsimp only [go_sem];refine x0o Z0d 61 [0,1,2,3,4,5] [6,7] [8,9] (.step 0 [] (.step 1 [] (.step 3 [] (.step 4 [] (.step 2 [3,4] (.step 5 [] (.done))))))) (.step 8 [] (.step 9 [] (.done))) (by decide+kernel) (by simp) ?_;simp -dsimp only [go_sem];refine(by_c x v _ sx sv).mono ?_;rintro r st ⟨rfl,rfl⟩;simp -dsimp only [go_sem];refine(by_c y u _ sy su).mono ?_;rintro r st ⟨rfl,rfl⟩;simp -dsimp only [go_sem];refine(j1e _ _ _ (W0k q2 (by omega) (by omega)) (W0k q1 (by omega) (by omega))).mono ?_;rintro r st ⟨rfl,rfl⟩;simp -dsimp only [go_sem];refine ck (fun h=> ?_) (fun h=> ?_);have hc:U0y (byV y u) (byV x v)<0:=of_decide_eq_true h;rw [if_pos hc];simp -dsimp only [go_sem]
  try rfl
  have hc: ¬U0y (byV y u) (byV x v)<0:=of_decide_eq_false h;rw [if_neg hc];simp -dsimp only [go_sem]
  try rfl
theorem k2v (x y u v:Vl) (st:Q0f) (hx:bdV 10000000 10000000 x) (hy:bdV 10000000 10000000 y) (hu:bdV 10000000 10000000 u) (hv:bdV 10000000 10000000 v):PCalls Tryz.prog 227 [.agg (encV x),.agg (encV y),.agg (encV u),.agg (encV v)] st (fun r st'=>r= .agg (encV (G0e x y u v))/\st'=st):=by
 refine Q0b none Tryz.func227 rfl fun E=>Q0a ?_;simp -dsimp only [go_sem];refine Q0k Z0d 17 (.step 0 [] (.step 2 [] (.step 4 [] (.step 5 [] (.step 1 [2,4,5] (.step 3 [4,5] (.step 6 [] (.step 7 [] (.step 8 [] (.done)))))))))) (by decide+kernel) (by simp) ?_;simp -dsimp only [go_sem];refine(Q1u y _).mono ?_;rintro r st ⟨rfl,rfl⟩;simp -dsimp only [go_sem];refine(Q1u x _).mono ?_;rintro r st ⟨rfl,rfl⟩;simp -dsimp only [go_sem];refine(w1m (V0b y) (V0b x) u v _ (w0m hy) (w0m hx) hu hv).mono ?_;rintro r st ⟨rfl,rfl⟩;simp -dsimp only [go_sem];refine(Q1u _ _).mono ?_;rintro r st ⟨rfl,rfl⟩;simp -dsimp only [go_sem]
 try rfl
theorem Q1x (a b:Ivl) (p:Int) (st:Q0f) (ha:wI a) (hb:wI b):PCalls Tryz.prog 160 [.sc (.int .i64 0),.agg (encI a),.agg (encI b),.sc (.int .i64 p)] st (fun r st'=>r= .tup [.agg (encI (opI 0 a b p).1),.sc (.int .i64 (opI 0 a b p).2)]/\st'=st):=by
 refine Q0b none Tryz.func160 rfl fun E=>Q0a ?_;simp -dsimp only [go_sem];refine(X0e a _ ha).mono ?_;rintro r st ⟨rfl,rfl⟩;cases r1:Q0l a with
 | false=>
  simp -dsimp only [go_sem];rw [opI,if_neg (by simp [r1])];rfl
 | true=>
  simp -dsimp only [go_sem];refine(X0e b _ hb).mono ?_;rintro r st ⟨rfl,rfl⟩;cases r2:Q0l b with
  | false=>
   simp -dsimp only [go_sem];rw [opI,if_neg (by simp [r2])];rfl
  | true=>
   simp -dsimp only [go_sem];refine(Y1s p _).mono ?_;rintro r st ⟨rfl,rfl⟩;cases r3:Z0m p with
   | false=>
    simp -dsimp only [go_sem];rw [opI,if_neg (by simp [r3])];rfl
   | true=>
    obtain⟨q,rfl,q1,q2,q3⟩:=H0o r3;obtain⟨a1,a2,_⟩:=Z0l r1;obtain⟨b1,b2,_⟩:=Z0l r2;have hm:opI 0 a b q=Y0a (Z0c (loV 0 (ofN a.lo) (ofN a.hi) (ofN b.lo) (ofN b.hi)) q false) (Z0c (hiV 0 (ofN a.lo) (ofN a.hi) (ofN b.lo) (ofN b.hi)) q true):=(by rw [opI,if_pos ⟨r1,r2,r3⟩,q3]);rw [hm];have d1:=Y0k a1;have d2:=Y0k a2;have d3:=Y0k b1;have d4:=Y0k b2;simp -dsimp only [go_sem];refine x0o Z0d 110 [0,1,2,3,4,5,6,7,8,9,10,11] [12,13,14,15] [16,17,18,19] (.step 0 [] (.step 1 [] (.step 3 [] (.step 4 [] (.step 6 [] (.step 7 [] (.step 9 [] (.step 10 [] (.step 2 [4,7,10] (.step 5 [7,10] (.step 8 [10] (.step 11 [1] (.done))))))))))))) (.step 16 [4] (.step 17 [7] (.step 18 [] (.step 19 [] (.done))))) (by decide+kernel) (by simp) ?_;simp -dsimp only [go_sem];refine(of_c a.lo _ (Y0t a1)).mono ?_;rintro r st ⟨rfl,rfl⟩;simp -dsimp only [go_sem];refine(of_c a.hi _ (Y0t a2)).mono ?_;rintro r st ⟨rfl,rfl⟩;simp -dsimp only [go_sem];refine(of_c b.lo _ (Y0t b1)).mono ?_;rintro r st ⟨rfl,rfl⟩;simp -dsimp only [go_sem];refine(of_c b.hi _ (Y0t b2)).mono ?_;rintro r st ⟨rfl,rfl⟩;generalize ofN a.lo=x at*
    generalize ofN a.hi=y at*
    generalize ofN b.lo=u at*
    generalize ofN b.hi=v at*
    simp -dsimp only [go_sem];rw [loV0,hiV0];refine Q0k Z0d 110 (.step 0 [] (.step 1 [] (.step 3 [] (.step 5 [] (.step 6 [] (.step 8 [] (.step 2 [5,6] (.step 4 [5,6] (.step 7 [] (.step 9 [0,1] (.step 10 [] (.step 11 [] (.step 12 [] (.step 13 [] (.step 14 [] (.done)))))))))))))))) (by decide+kernel) (by simp) ?_;simp -dsimp only [go_sem];refine(V2u _ _ _ (W0k d1 (by omega) (by omega)) (W0k d3 (by omega) (by omega))).mono ?_;rintro r st ⟨rfl,rfl⟩;have e1:=y1f d1 d3;simp -dsimp only [go_sem];refine(y0c _ q false _ (W0k e1 (by omega) (by omega)) (by omega)).mono ?_;rintro r st ⟨rfl,rfl⟩;have e2:=q0b e1 q false;simp -dsimp only [go_sem];refine(V2u _ _ _ (W0k d2 (by omega) (by omega)) (W0k d4 (by omega) (by omega))).mono ?_;rintro r st ⟨rfl,rfl⟩;have e3:=y1f d2 d4;simp -dsimp only [go_sem];refine(y0c _ q true _ (W0k e3 (by omega) (by omega)) (by omega)).mono ?_;rintro r st ⟨rfl,rfl⟩;have e4:=q0b e3 q true;simp -dsimp only [go_sem];refine(k1a _ _ _ (V0r e2 (by omega)) (V0r e4 (by omega))).mono ?_;rintro r st ⟨rfl,rfl⟩;simp -dsimp only [go_sem]
theorem Y1p (a b:Ivl) (p:Int) (st:Q0f) (ha:wI a) (hb:wI b):PCalls Tryz.prog 160 [.sc (.int .i64 2),.agg (encI a),.agg (encI b),.sc (.int .i64 p)] st (fun r st'=>r= .tup [.agg (encI (opI 2 a b p).1),.sc (.int .i64 (opI 2 a b p).2)]/\st'=st):=by
 refine Q0b none Tryz.func160 rfl fun E=>Q0a ?_;simp -dsimp only [go_sem];refine(X0e a _ ha).mono ?_;rintro r st ⟨rfl,rfl⟩;cases r1:Q0l a with
 | false=>
  simp -dsimp only [go_sem];rw [opI,if_neg (by simp [r1])];rfl
 | true=>
  simp -dsimp only [go_sem];refine(X0e b _ hb).mono ?_;rintro r st ⟨rfl,rfl⟩;cases r2:Q0l b with
  | false=>
   simp -dsimp only [go_sem];rw [opI,if_neg (by simp [r2])];rfl
  | true=>
   simp -dsimp only [go_sem];refine(Y1s p _).mono ?_;rintro r st ⟨rfl,rfl⟩;cases r3:Z0m p with
   | false=>
    simp -dsimp only [go_sem];rw [opI,if_neg (by simp [r3])];rfl
   | true=>
    obtain⟨q,rfl,q1,q2,q3⟩:=H0o r3;obtain⟨a1,a2,_⟩:=Z0l r1;obtain⟨b1,b2,_⟩:=Z0l r2;have hm:opI 2 a b q=Y0a (Z0c (loV 2 (ofN a.lo) (ofN a.hi) (ofN b.lo) (ofN b.hi)) q false) (Z0c (hiV 2 (ofN a.lo) (ofN a.hi) (ofN b.lo) (ofN b.hi)) q true):=(by rw [opI,if_pos ⟨r1,r2,r3⟩,q3]);rw [hm];have d1:=Y0k a1;have d2:=Y0k a2;have d3:=Y0k b1;have d4:=Y0k b2;simp -dsimp only [go_sem];refine x0o Z0d 110 [0,1,2,3,4,5,6,7,8,9,10,11] [12,13,14,15] [16,17,18,19] (.step 0 [] (.step 1 [] (.step 3 [] (.step 4 [] (.step 6 [] (.step 7 [] (.step 9 [] (.step 10 [] (.step 2 [4,7,10] (.step 5 [7,10] (.step 8 [10] (.step 11 [1] (.done))))))))))))) (.step 16 [4] (.step 17 [7] (.step 18 [] (.step 19 [] (.done))))) (by decide+kernel) (by simp) ?_;simp -dsimp only [go_sem];refine(of_c a.lo _ (Y0t a1)).mono ?_;rintro r st ⟨rfl,rfl⟩;simp -dsimp only [go_sem];refine(of_c a.hi _ (Y0t a2)).mono ?_;rintro r st ⟨rfl,rfl⟩;simp -dsimp only [go_sem];refine(of_c b.lo _ (Y0t b1)).mono ?_;rintro r st ⟨rfl,rfl⟩;simp -dsimp only [go_sem];refine(of_c b.hi _ (Y0t b2)).mono ?_;rintro r st ⟨rfl,rfl⟩;generalize ofN a.lo=x at*
    generalize ofN a.hi=y at*
    generalize ofN b.lo=u at*
    generalize ofN b.hi=v at*
    simp -dsimp only [go_sem];refine Q0a ?_;simp -dsimp only [go_sem];refine x0o Z0d 110 [0,1,2,3,4,5,6,7,8,9] [10,11] [12,13] (.step 0 [] (.step 1 [] (.step 2 [] (.step 3 [] (.step 5 [] (.step 6 [] (.step 7 [] (.step 8 [] (.step 4 [5,6,7,8] (.step 9 [] (.done))))))))))) (.step 12 [] (.step 13 [] (.done))) (by decide+kernel) (by simp) ?_;simp -dsimp only [go_sem];refine(w1m x y u v _ (d1.mono (by omega) (by omega)) (d2.mono (by omega) (by omega)) (d3.mono (by omega) (by omega)) (d4.mono (by omega) (by omega))).mono ?_;rintro r st ⟨rfl,rfl⟩;simp -dsimp only [go_sem];refine(k2v x y u v _ (d1.mono (by omega) (by omega)) (d2.mono (by omega) (by omega)) (d3.mono (by omega) (by omega)) (d4.mono (by omega) (by omega))).mono ?_;rintro r st ⟨rfl,rfl⟩;have e1:=z1q d1 d2 d3 d4;have e3:=H2g d1 d2 d3 d4;have hl2:loV 2 x y u v=V0f x y u v:=rfl;have hh2:hiV 2 x y u v=G0e x y u v:=rfl;rw [hl2,hh2];generalize V0f x y u v=lo at*
    generalize G0e x y u v=hi at*
    simp -dsimp only [go_sem];refine Q0k Z0d 110 (.step 0 [] (.step 1 [] (.step 3 [] (.step 4 [] (.step 2 [3] (.step 5 [] (.step 6 [] (.step 7 [] (.step 8 [] (.step 9 [] (.step 10 [] (.done)))))))))))) (by decide+kernel) (by simp) ?_;simp -dsimp only [go_sem];refine(y0c _ q false _ (W0k e1 (by omega) (by omega)) (by omega)).mono ?_;rintro r st ⟨rfl,rfl⟩;have e2:=q0b e1 q false;simp -dsimp only [go_sem];refine(y0c _ q true _ (W0k e3 (by omega) (by omega)) (by omega)).mono ?_;rintro r st ⟨rfl,rfl⟩;have e4:=q0b e3 q true;simp -dsimp only [go_sem];refine(k1a _ _ _ (V0r e2 (by omega)) (V0r e4 (by omega))).mono ?_;rintro r st ⟨rfl,rfl⟩;simp -dsimp only [go_sem]
theorem z2w (a:Ivl) (x:Nm) (st:Q0f) (ha:wI a) (hx:wN x):PCalls Tryz.prog 223 [.agg (encI a),.agg (encN x)] st (fun r st'=>r= .sc (.bool (hasI a x))/\st'=st):=by
 refine Q0b none Tryz.func223 rfl fun E=>Q0a ?_;unfold hasI;simp -dsimp only [go_sem];refine(X0e a _ ha).mono ?_;rintro r st ⟨rfl,rfl⟩;cases r1:Q0l a with
 | false=>simp -dsimp only [go_sem];try rfl
 | true=>
  simp -dsimp only [go_sem];refine(Y0e x _ (by unfold wN at hx;omega)).mono ?_;rintro r st ⟨rfl,rfl⟩;cases r2:Q0r x with
  | false=>simp -dsimp only [go_sem];try rfl
  | true=>
   have a1:=(Z0l r1).1;have a2:=(Z0l r1).2.1;have e1:cmpR a.lo x=cmpN a.lo x:=if_pos ⟨a1,r2⟩;have e2:cmpR x a.hi=cmpN x a.hi:=if_pos ⟨r2,a2⟩;simp -dsimp only [go_sem];refine(U1l a.lo x _ (Y0t a1) (Y0t r2)).mono ?_;rintro r st ⟨rfl,rfl⟩;rw [e1];cases c1:decide (cmpN a.lo x<=0) with
   | false=>simp -dsimp only [go_sem,c1];try rfl
   | true=>
    simp -dsimp only [go_sem,c1];refine(U1l x a.hi _ (Y0t r2) (Y0t a2)).mono ?_;rintro r st ⟨rfl,rfl⟩;rw [e2];simp -dsimp only [go_sem,c1]
    try rfl
theorem Z1b (p:Int) (st:Q0f):PCalls Tryz.prog 123 [.sc (.int .i64 p)] st (fun r st'=>r= .sc (.bool (Z0m p))/\st'=st):=by
 refine Q0b none Tryz.func123 rfl fun E=>Q0a ?_;unfold Z0m;by_cases h:8<=p;have f1:decide (p>=8)=true:=decide_eq_true h;have f2:decide (8<=p)=true:=decide_eq_true h;simp -dsimp only [go_sem,f1,f2]
 try simp
 have f1:decide (p>=8)=false:=decide_eq_false h;have f2:decide (8<=p)=false:=decide_eq_false h;simp -dsimp only [go_sem,f1,f2]
 try simp
theorem x2s (q:List Nm) (st:Q0f) (hq:wNs q):PCalls Tryz.prog 192 [.sl .no (X0f q)] st (fun r st'=>r= .sl (.fresh 6) (Q0o (ofB q))/\st'=st):=by
 obtain⟨hl,hw⟩:=hq;refine Q0b none Tryz.func192 rfl fun E=>Q0a ?_;simp -dsimp only [go_sem];refine Q0y 3 6 ?_;simp -dsimp only [go_sem];refine Q0d [true,false,false,true,true] 0 1
  (fun n s=> ∃i,n=q.length-i/\i<=q.length/\s=⟨[.sl .no (X0f q),.junk,.junk,.sl (.own 0) (Q0o (ofB (q.take i))),.sc (.int .i64 (i:Nat))]++List.replicate 15 .junk,[],[((ofB (q.take i)).length,6)],st⟩) q.length ?_ ?_
 simp -dsimp only [go_sem];exact⟨0,by omega,by omega,rfl⟩;rintro n s ⟨i,rfl,hi,rfl⟩;simp -dsimp only [go_sem];refine ck (fun h'=> ?_) (fun h'=> ?_);have hlt:i<q.length:=(by have:=of_decide_eq_true h';omega);have e1:=J1p q i hlt;have e3:IntKind.i64.wrap ((i:Int)+1)=((i+1:Nat):Int):=(by rw [Q0i _ (by omega) (by omega)];omega);have ll:(ofB (q.take i)).length=i:=(by simp [ofB];omega);simp -dsimp only [go_sem,e1];refine⟨⟨by omega,hlt⟩,?_⟩;refine(x1w _ _).mono ?_;rintro r st ⟨rfl,rfl⟩;simp -dsimp only [go_sem,e3];refine⟨⟨by omega,by omega⟩,q.length-(i+1),by omega,i+1,rfl,by omega,?_⟩;rw [j2d q i hlt];simp [Q0o,encI];have hge:i=q.length:=(by have:=of_decide_eq_false h';omega);simp -dsimp only [go_sem];refine Q0a ?_;simp -dsimp only [go_sem];rw [hge,List.take_length]
theorem x2y (a b:List Ivl) (p:Int) (st:Q0f) (ha:wB a) (hb:wB b):PCalls Tryz.prog 168 [.sc (.int .i64 0),.sl .no (Q0o a),.sl .no (Q0o b),.sc (.int .i64 p)] st (fun r st'=>r= .tup [.sl .no (Q0o (opB 0 a b p).1),.sc (.int .i64 (opB 0 a b p).2)]/\st'=st):=by
 refine Q0b none Tryz.func168 rfl fun E=>Q0a ?_;simp -dsimp only [go_sem];refine(H0n a _ ha).mono ?_;rintro r st ⟨rfl,rfl⟩;cases r1:rightB a with
 | false=>
  simp -dsimp only [go_sem];rw [opB,if_neg (by simp [r1])];rfl
 | true=>
  simp -dsimp only [go_sem];refine(H0n b _ hb).mono ?_;rintro r st ⟨rfl,rfl⟩;cases r2:rightB b with
  | false=>
   simp -dsimp only [go_sem];rw [opB,if_neg (by simp [r2])];rfl
  | true=>
   by_cases hl:a.length=b.length
   . have f1:((a.length:Int) !=(b.length:Int))=false:=by rw [hl];simp
     simp -dsimp only [go_sem,f1];refine(Z1b p _).mono ?_;rintro r st ⟨rfl,rfl⟩;cases r3:Z0m p with
     | false=>
      simp -dsimp only [go_sem,f1];rw [opB,if_neg (by simp [r3])];rfl
     | true=>
      have hla:=ha.1;have hab:opB 0 a b p=k0l (fun i x=>opI 0 x (b.getD i default) p) 0 a []:=if_pos ⟨r1,r2,hl,r3⟩;rw [hab];simp -dsimp only [go_sem,f1];refine Q0y 10 6 ?_;simp -dsimp only [go_sem];refine Q0d [true,true,true,true,false,false,false,false,false,false,true,true] 0 1 (fun n s=> ∃i o,n=a.length-i/\i<=a.length/\o.length=i/\k0l (fun i x=>opI 0 x (b.getD i default) p) 0 a []=k0l (fun i x=>opI 0 x (b.getD i default) p) i (a.drop i) o/\s=⟨[.sc (.int .i64 0),.sl .no (Q0o a),.sl .no (Q0o b),.sc (.int .i64 p),.junk,.junk,.junk,.junk,.junk,.junk,.sl (.own 0) (Q0o o),.sc (.int .i64 (i:Nat))]++List.replicate 50 .junk,[],[(o.length,6)],st⟩) a.length ?_ ?_;simp -dsimp only [go_sem];exact⟨0,[],by omega,by omega,rfl,rfl,rfl⟩
      . rintro n s ⟨i,o,rfl,hi,ho,hr,rfl⟩;simp -dsimp only [go_sem];refine ck (fun h'=> ?_) (fun h'=> ?_)
        . have hlt:i<a.length:=by have:=of_decide_eq_true h';omega
          have e1:=Z0e a i hlt;have e2:=Z0e b i (by omega);have e3:IntKind.i64.wrap ((i:Int)+1)=((i+1:Nat):Int):=(by rw [Q0i _ (by omega) (by omega)];omega);have e4:=W1l (fun i x=>opI 0 x (b.getD i default) p) a i o hlt;simp -dsimp only [go_sem];refine Q0k Z0d 62 (.step 0 [] (.step 1 [] (.step 2 [] (.step 3 [] (.step 4 [] (.step 5 [] (.step 6 [] (.step 7 [] (.step 8 [] (.step 9 [] (.alt (.step 10 [] (.step 11 [] (.step 12 [] (.step 13 [] (.step 14 [4,8] (.step 15 [] (.step 16 [] (.done)))))))) (.step 14 [4,8] (.step 10 [] (.step 11 [] (.step 12 [] (.step 13 [] (.step 15 [] (.step 16 [] (.done))))))))))))))))))) (by decide+kernel) (by simp) ?_;simp -dsimp only [go_sem,e1,e2];refine⟨⟨by omega,by omega⟩,⟨by omega,by omega⟩,?_,?_⟩
          all_goals
           refine(Q1x _ _ p _ (ha.2 i hlt) (hb.2 i (by omega))).mono ?_;rintro r st ⟨rfl,rfl⟩;simp -dsimp only [go_sem,e1,e2];refine ck (fun h2=> ?_) (fun h2=> ?_);have hne:=U0u h2;simp -dsimp only [go_sem];rw [hr,e4,if_pos hne];rfl;have he:=G0o h2;simp -dsimp only [go_sem,e3];refine⟨by omega,a.length-(i+1),by omega,i+1,o++ [(opI 0 (a.getD i default) (b.getD i default) p).1],rfl,by omega,by simp [ho],?_,?_⟩;rw [hr,e4,if_neg (fun hh=>hh he)];simp [Q0o,encI]
        have hge:i=a.length:=by have:=of_decide_eq_false h';omega
        simp -dsimp only [go_sem];refine Q0a ?_;simp -dsimp only [go_sem];rw [hr,hge,List.drop_length];rfl
   have f1:((a.length:Int) !=(b.length:Int))=true:=by rw [bne_iff_ne];omega
   simp -dsimp only [go_sem,f1];rw [opB,if_neg (fun h=>hl h.2.2.1)];rfl
theorem q2w (x:Ivl) (b:List Ivl) (p:Int) (st:Q0f) (hx:wI x) (hb:wB b):PCalls Tryz.prog 167 [.agg (encI x),.sl .no (Q0o b),.sc (.int .i64 p)] st (fun r st'=>r= .tup [.sl .no (Q0o (V0c x b p).1),.sc (.int .i64 (V0c x b p).2)]/\st'=st):=by
 refine Q0b none Tryz.func167 rfl fun E=>Q0a ?_;simp -dsimp only [go_sem];refine(H0n b _ hb).mono ?_;rintro r st ⟨rfl,rfl⟩;cases r1:rightB b with
 | false=>
  simp -dsimp only [go_sem];rw [V0c,if_neg (by simp [r1])];rfl
 | true=>
  simp -dsimp only [go_sem];refine(X0e x _ hx).mono ?_;rintro r st ⟨rfl,rfl⟩;cases r2:Q0l x with
  | false=>
   simp -dsimp only [go_sem];rw [V0c,if_neg (by simp [r2])];rfl
  | true=>
   simp -dsimp only [go_sem];refine(Z1b p _).mono ?_;rintro r st ⟨rfl,rfl⟩;cases r3:Z0m p with
   | false=>
    simp -dsimp only [go_sem];rw [V0c,if_neg (by simp [r3])];rfl
   | true=>
    have hla:=hb.1;have hab:V0c x b p=k0l (fun _ y=>opI 2 x y p) 0 b []:=if_pos ⟨r1,r2,r3⟩;rw [hab];simp -dsimp only [go_sem];refine Q0y 8 6 ?_;simp -dsimp only [go_sem];refine Q0d [false,true,true,true,false,false,false,false,true,true] 1 1 (fun n s=> ∃i o,n=b.length-i/\i<=b.length/\o.length=i/\k0l (fun _ y=>opI 2 x y p) 0 b []=k0l (fun _ y=>opI 2 x y p) i (b.drop i) o/\s=⟨[.junk,.sl .no (Q0o b),.sc (.int .i64 p),.lp 0 0,.junk,.junk,.junk,.junk,.sl (.own 0) (Q0o o),.sc (.int .i64 (i:Nat))]++List.replicate 39 .junk,[encI x],[(o.length,6)],st⟩) b.length ?_ ?_;simp -dsimp only [go_sem];exact⟨0,[],by omega,by omega,rfl,rfl,rfl⟩
    . rintro n s ⟨i,o,rfl,hi,ho,hr,rfl⟩;simp -dsimp only [go_sem];refine ck (fun h'=> ?_) (fun h'=> ?_)
      . have hlt:i<b.length:=by have:=of_decide_eq_true h';omega
        have e1:=Z0e b i hlt;have e3:IntKind.i64.wrap ((i:Int)+1)=((i+1:Nat):Int):=(by rw [Q0i _ (by omega) (by omega)];omega);have e4:=W1l (fun _ y=>opI 2 x y p) b i o hlt;simp -dsimp only [go_sem];refine Q0k Z0d 49 (.step 0 [] (.step 1 [] (.step 2 [] (.step 3 [] (.step 4 [] (.step 5 [] (.alt (.step 6 [] (.step 7 [] (.step 8 [] (.step 9 [] (.step 10 [0,4] (.step 11 [] (.step 12 [] (.done)))))))) (.step 10 [0,4] (.step 6 [] (.step 7 [] (.step 8 [] (.step 9 [] (.step 11 [] (.step 12 [] (.done))))))))))))))) (by decide+kernel) (by simp) ?_;simp -dsimp only [go_sem,e1];refine⟨⟨by omega,by omega⟩,?_,?_⟩
        all_goals
         refine(Y1p x _ p _ hx (hb.2 i hlt)).mono ?_;rintro r st ⟨rfl,rfl⟩;simp -dsimp only [go_sem,e1];refine ck (fun h2=> ?_) (fun h2=> ?_);have hne:=U0u h2;simp -dsimp only [go_sem];rw [hr,e4,if_pos hne];rfl;have he:=G0o h2;simp -dsimp only [go_sem,e3];refine⟨by omega,b.length-(i+1),by omega,i+1,o++ [(opI 2 x (b.getD i default) p).1],rfl,by omega,by simp [ho],?_,?_⟩;rw [hr,e4,if_neg (fun hh=>hh he)];simp [Q0o,encI]
      have hge:i=b.length:=by have:=of_decide_eq_false h';omega
      simp -dsimp only [go_sem];refine Q0a ?_;simp -dsimp only [go_sem];rw [hr,hge,List.drop_length];rfl
theorem y1w (k:Nat) (a b:Ivl) (p:Int):wI (opI k a b p).1:=J0m (X0p k a b p)
def k1 :Nm:=⟨false,0,[1]⟩
def k2 :Nm:=⟨false,1,[1]⟩
def k4 :Nm:=⟨false,2,[1]⟩
theorem J0f (i:Nat) (h:i<100000000000000):IntKind.i64.wrap ((i:Int)+1)=((i+1:Nat):Int):=by rw [Q0i _ (by omega) (by omega)];omega
end Go.Pv
end
