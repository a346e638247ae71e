/- Parts of the walk: N17, N18, N19, N20, N21, N22, N24, N25. -/
import Derived.Test.YtldalepagmhnmaaGreatDoorZAE
import Derived.Test.YtldalepagmhnmaaGreatDoorZAA
set_option linter.unusedVariables false
set_option linter.unusedSimpArgs false
section
set_option maxRecDepth 100000
namespace Go.Pv
open Go.Proofs
theorem X0u {v:Vl}{n k:Nat}(h:bdV n k v)(h1:n<=1000000000000)(h2:k<=100000000000):smV v:=⟨by have:=h.1;omega,by have:=h.2.1;omega,by have:=h.2.2;omega⟩
theorem K0j {x:Nm}(h:Q0h x=true):x.w.length<=1000000000000:=by have:=(Z0v h).1;omega
theorem J1a (p:Int)(st:Q0g):PR 203 [.sc (.int .i64 p)] st (.sc (.bool (Z0b p))):=by
 refine Q0b none Tryz.func203 rfl fun E=>Q0a ?_;unfold Z0b;by_cases h:8<=p;have f1:decide (p>=8)=true:=q_h h;have f2:decide (8<=p)=true:=q_h h;simp-dsimp only[go_sem,f1,f2]
 try simp
 have f1:decide (p>=8)=false:=q_g h;have f2:decide (8<=p)=false:=q_g h;simp-dsimp only[go_sem,f1,f2]
 try simp
theorem w2a (a:Ivl)(p:Int)(st:Q0g)(ha:wI a):PR 236 [.agg (encI a),.sc (.int .i64 p)] st (.tup [.agg (encN (midI a p).1),.sc (.int .i64 (midI a p).2)]):=by
 refine J4z Tryz.func236 fun E=> ?_;refine(J0i a _ ha).q ?_;cases r1:Q0y a with
 | false=>
  refine K4w ?_;rw[midI,if_neg (by simp[r1])];rfl
 | true=>
  refine K4w ?_;refine(J1a p _).q ?_;cases r3:Z0b p with
  | false=>
   refine K4w ?_;rw[midI,if_neg (by simp[r3])];rfl
  | true=>
   obtain⟨q,rfl,q1,q2,q3⟩:=J0w r3;obtain⟨a1,a2,_⟩:=Q0x r1;have hm:midI a q=if W0d (midV a q) (ofN a.lo)<0 then(a.lo,0) else numV (midV a q):=(by rw[midI,if_pos ⟨r1,r3⟩,q3]);rw[hm];refine K4w ?_;refine Y0b Z0c 46 [0,1,2,3,4,5,6] [7] [8] (.step 0 [] (.step 1 [] (.step 3 [] (.step 4 [] (.step 2 [4] (.step 5 [] (.step 6 [] (.done)))))))) (.step 8 [] (.done)) (by decide+kernel) (by simp) ?_;have b1:=J0c a1;have b2:=J0c a2;have b3:=J3c (k0g b1 b2);have b4:=V0v b3 q false;refine K4w ?_;refine(of_c a.lo _ (K0j a1)).Q ?_;refine(of_c a.hi _ (K0j a2)).Q ?_;refine(j1d _ _ _ (X0u b1 oG oG) (X0u b2 oG oG)).q ?_;have e0:=k0g b1 b2;have hv:midV a q=Z0o (y0r (U0v (ofN a.lo) (ofN a.hi))) q false:=rfl;rw[hv];generalize U0v (ofN a.lo) (ofN a.hi)=v at*
   have x1:IntKind.i64.wrap (v.e-1)=v.e-1:=Q0s _ (by have:=e0.2.1;omega) (by have:=e0.2.2;omega);refine K4a (fun h=> ?_) (fun h=> ?_)
   case' refine_1=>
    have h0:v.m≠0:=fun e=>by rw[e,Z0q] at h;cases h
    have hh:y0r v= { v with e:=v.e-1 } :=(by rw[y0r,if_neg h0]);rw[hh] at b3 b4⊢;generalize hz:({ v with e:=v.e-1 } :Vl)=z at*
    have z1:v.neg=z.neg:=(by rw[<-hz]);have z2:v.m=z.m:=(by rw[<-hz]);have z3:v.e-1=z.e:=(by rw[<-hz]);simp-dsimp only[go_sem,x1];rw[z1,z2,z3]
   case' refine_2=>
    have h0:v.m=0:=by have:=q_c h;exact digitsOf_nil.1 (List.length_eq_zero_iff.1 oG)
    have hh:y0r v=v:=(by rw[y0r,if_pos h0]);rw[hh] at b3 b4⊢;generalize v=z at*
    simp-dsimp only[go_sem]
   all_goals
    refine(U0t z q false _ (X0u b3 oG oG) oG).q ?_;generalize Z0o z q false=y at*
    refine K4w ?_;refine Q0k Z0c 46 (Z2k [0,1,2] (.step 3 [0] (.step 4 [] (.step 5 [] (.done))))) (by decide+kernel) (by simp) ?_;refine K4w ?_;refine(of_c a.lo _ (K0j a1)).q ?_;refine K4w ?_;refine(H1m _ _ _ (X0u b4 oG oG) (X0u b1 oG oG)).q ?_;refine K4a (fun h=> ?_) (fun h=> ?_);have hc:W0d y (ofN a.lo)<0:=q_b h;rw[if_pos hc];simp-dsimp only[go_sem]
    try rfl
    have hc: ¬W0d y (ofN a.lo)<0:=q_c h;rw[if_neg hc];refine K4w ?_;refine(X1b y _ (X0x b4 oG)).Q0
theorem Q2a (lo hi:Vl)(st:Q0g)(h1:(Q0f lo.m).length<=1000000000000)(h2:(Q0f hi.m).length<=1000000000000):PCalls Tryz.prog 204 [.agg (encV lo),.agg (encV hi)] st
 (fun r st'=>r= .tup [.agg (encI (x0c lo hi).1),.sc (.int .i64 (x0c lo hi).2)]/\st'=st):=by
 refine Q0b none Tryz.func204 rfl fun E=>Q0a ?_;unfold x0c;refine K4w ?_;refine(X1b lo _ h1).Q ?_;refine(X1b hi _ h2).q ?_;by_cases c1:(numV lo).2=0;have f1:((numV lo).2 !=0)=false:=(by rw[c1];rfl);by_cases c2:(numV hi).2=0;have f2:((numV hi).2 !=0)=false:=(by rw[c2];rfl);rw[if_pos ⟨c1,c2⟩];simp-dsimp only[go_sem,f1,f2]
 try rfl
 have f2:((numV hi).2 !=0)=true:=bne_iff_ne.2 c2;rw[if_neg (fun h=>c2 h.2)];simp-dsimp only[go_sem,f1,f2]
 try rfl
 have f1:((numV lo).2 !=0)=true:=bne_iff_ne.2 c1;rw[if_neg (fun h=>c1 h.1)];simp-dsimp only[go_sem,f1]
 try rfl
theorem X2x (x y u v:Vl)(st:Q0g)(hx:bdV 10000000 10000000 x)(hy:bdV 10000000 10000000 y)(hu:bdV 10000000 10000000 u)(hv:bdV 10000000 10000000 v):PR 207 [.agg (encV x),.agg (encV y),.agg (encV u),.agg (encV v)] st (.agg (encV (V0p x y u v))):=by
 have sx:=X0u hx oG oG;have sy:=X0u hy oG oG;have su:=X0u hu oG oG;have sv:=X0u hv oG oG;refine Q0b none Tryz.func207 rfl fun E=>Q0a ?_;unfold V0p;refine K4w ?_;refine(z0b x _).q ?_;by_cases c1:0<=V0m x;have f1:decide (V0m x>=0)=true:=q_h c1;simp-dsimp only[go_sem,f1];refine(z0b u _).q ?_;by_cases c2:0<=V0m u;have f2:decide (V0m u>=0)=true:=q_h c2;rw[if_pos ⟨c1,c2⟩];simp-dsimp only[go_sem,f1,f2];refine(by_c x u _ sx su).Q0;have f2:decide (V0m u>=0)=false:=q_g c2;rw[if_neg (fun h=>c2 h.2),if_pos c1];simp-dsimp only[go_sem,f1,f2];refine(z0b x _).q ?_;simp-dsimp only[go_sem,f1,f2];refine(by_c y u _ sy su).Q0;have f1:decide (V0m x>=0)=false:=q_g c1;rw[if_neg (fun h=>c1 h.1),if_neg c1];simp-dsimp only[go_sem,f1];refine(z0b x _).q ?_;simp-dsimp only[go_sem,f1];refine(z0b u _).q ?_;by_cases c2:0<=V0m u;have f2:decide (V0m u>=0)=true:=q_h c2;rw[if_pos c2];simp-dsimp only[go_sem,f1,f2];refine(by_c x v _ sx sv).Q0;have f2:decide (V0m u>=0)=false:=q_g c2;rw[if_neg c2];simp-dsimp only[go_sem,f1,f2];refine(z0b y _).q ?_;by_cases c3:V0m y<=0/\V0m v<=0;have f3:decide (V0m y<=0)=true:=q_h c3.1;have f4:decide (V0m v<=0)=true:=q_h c3.2;rw[if_pos c3];simp-dsimp only[go_sem,f3];refine(z0b v _).q ?_;simp-dsimp only[go_sem,f3,f4];refine(by_c y v _ sy sv).Q0;rw[if_neg c3];have q1:=J2x hx hv;have q2:=J2x hy hu;have tail: ∀(Z:Prop),Z->Z:=fun _ h=>h;cases f3:decide (V0m y<=0) with
 | false=>
  simp-dsimp only[go_sem,f3];refine J4y ?_;refine Y0b Z0c 61 [0,1,2,3,4,5] [6,7] [8,9] (.step 0 [] (.step 1 [] (.step 3 [] (.step 4 [] (.step 2 [3,4] (.step 5 [] (.done))))))) (.step 8 [] (.step 9 [] (.done))) (by decide+kernel) (by simp) ?_;refine K4w ?_;refine(by_c x v _ sx sv).Q ?_;refine(by_c y u _ sy su).Q ?_;refine(H1m _ _ _ (X0u q2 oG oG) (X0u q1 oG oG)).Q ?_;refine ck (fun h=> ?_) (fun h=> ?_);have hc:W0d (byV y u) (byV x v)<0:=q_b h;rw[if_pos hc];simp-dsimp only[go_sem]
  try rfl
  have hc: ¬W0d (byV y u) (byV x v)<0:=q_c h;rw[if_neg hc];simp-dsimp only[go_sem]
  try rfl
 | true=>
  have f4:decide (V0m v<=0)=false:=q_g fun h=>c3 ⟨q_b f3,h⟩;simp-dsimp only[go_sem,f3];refine(z0b v _).q ?_;simp-dsimp only[go_sem,f3,f4];refine J4y ?_;refine Y0b Z0c 61 [0,1,2,3,4,5] [6,7] [8,9] (.step 0 [] (.step 1 [] (.step 3 [] (.step 4 [] (.step 2 [3,4] (.step 5 [] (.done))))))) (.step 8 [] (.step 9 [] (.done))) (by decide+kernel) (by simp) ?_;refine K4w ?_;refine(by_c x v _ sx sv).Q ?_;refine(by_c y u _ sy su).Q ?_;refine(H1m _ _ _ (X0u q2 oG oG) (X0u q1 oG oG)).Q ?_;refine ck (fun h=> ?_) (fun h=> ?_);have hc:W0d (byV y u) (byV x v)<0:=q_b h;rw[if_pos hc];simp-dsimp only[go_sem]
  try rfl
  have hc: ¬W0d (byV y u) (byV x v)<0:=q_c h;rw[if_neg hc];simp-dsimp only[go_sem]
  try rfl
theorem Z3c (x y u v:Vl)(st:Q0g)(hx:bdV 10000000 10000000 x)(hy:bdV 10000000 10000000 y)(hu:bdV 10000000 10000000 u)(hv:bdV 10000000 10000000 v):PR 208 [.agg (encV x),.agg (encV y),.agg (encV u),.agg (encV v)] st (.agg (encV (G0x x y u v))):=by
 refine J4z Tryz.func208 fun E=> ?_;refine Q0k Z0c 17 (Z2k [0,2,4,5] (.step 1 [2,4,5] (.step 3 [4,5] (Z2k [6,7,8] .done)))) (by decide+kernel) (by simp) ?_;refine K4w ?_;refine(X1w y _).Q ?_;refine(X1w x _).Q ?_;refine(X2x (V0g y) (V0g x) u v _ (k0f hy) (k0f hx) hu hv).Q ?_;refine(X1w _ _).q ?_;simp-dsimp only[go_sem]
 try rfl
theorem Z2t (a b:Ivl)(p:Int)(st:Q0g)(ha:wI a)(hb:wI b):PR 140 [.sc (.int .i64 0),.agg (encI a),.agg (encI b),.sc (.int .i64 p)] st (.tup [.agg (encI (opI 0 a b p).1),.sc (.int .i64 (opI 0 a b p).2)]):=by
 refine J4z Tryz.func140 fun E=> ?_;refine(J0i a _ ha).q ?_;cases r1:Q0y a with
 | false=>
  refine K4w ?_;rw[opI,if_neg (by simp[r1])];rfl
 | true=>
  refine K4w ?_;refine(J0i b _ hb).q ?_;cases r2:Q0y b with
  | false=>
   refine K4w ?_;rw[opI,if_neg (by simp[r2])];rfl
  | true=>
   refine K4w ?_;refine(J1a p _).q ?_;cases r3:Z0b p with
   | false=>
    refine K4w ?_;rw[opI,if_neg (by simp[r3])];rfl
   | true=>
    obtain⟨q,rfl,q1,q2,q3⟩:=J0w r3;obtain⟨a1,a2,_⟩:=Q0x r1;obtain⟨b1,b2,_⟩:=Q0x r2;have hm:opI 0 a b q=x0c (Z0o (loV 0 (ofN a.lo) (ofN a.hi) (ofN b.lo) (ofN b.hi)) q false) (Z0o (hiV 0 (ofN a.lo) (ofN a.hi) (ofN b.lo) (ofN b.hi)) q true):=(by rw[opI,if_pos ⟨r1,r2,r3⟩,q3]);rw[hm];have d1:=J0c a1;have d2:=J0c a2;have d3:=J0c b1;have d4:=J0c b2;refine K4w ?_;refine Y0b Z0c 110 [0,1,2,3,4,5,6,7,8,9,10,11] [12,13,14,15] [16,17,18,19] (.step 0 [] (.step 1 [] (.step 3 [] (.step 4 [] (.step 6 [] (.step 7 [] (.step 9 [] (.step 10 [] (.step 2 [4,7,10] (.step 5 [7,10] (.step 8 [10] (.step 11 [1] (.done))))))))))))) (.step 16 [4] (.step 17 [7] (.step 18 [] (.step 19 [] (.done))))) (by decide+kernel) (by simp) ?_;refine K4w ?_;refine(of_c a.lo _ (K0j a1)).Q ?_;refine(of_c a.hi _ (K0j a2)).Q ?_;refine(of_c b.lo _ (K0j b1)).Q ?_;refine(of_c b.hi _ (K0j b2)).q ?_;generalize ofN a.lo=x at*
    generalize ofN a.hi=y at*
    generalize ofN b.lo=u at*
    generalize ofN b.hi=v at*
    refine K4w ?_;rw[loV0,hiV0];refine Q0k Z0c 110 (Z2k [0,1,3,5,6,8] (.step 2 [5,6] (.step 4 [5,6] (.step 7 [] (.step 9 [0,1] (Z2k [10,11,12,13,14] .done)))))) (by decide+kernel) (by simp) ?_;refine K4w ?_;refine(j1d _ _ _ (X0u d1 oG oG) (X0u d3 oG oG)).q ?_;have e1:=k0g d1 d3;refine K4w ?_;refine(U0t _ q false _ (X0u e1 oG oG) oG).q ?_;have e2:=V0v e1 q false;refine K4w ?_;refine(j1d _ _ _ (X0u d2 oG oG) (X0u d4 oG oG)).q ?_;have e3:=k0g d2 d4;refine K4w ?_;refine(U0t _ q true _ (X0u e3 oG oG) oG).q ?_;have e4:=V0v e3 q true;refine K4w ?_;refine(Q2a _ _ _ (X0x e2 oG) (X0x e4 oG)).Q0
theorem v2y (a b:Ivl)(p:Int)(st:Q0g)(ha:wI a)(hb:wI b):PR 140 [.sc (.int .i64 1),.agg (encI a),.agg (encI b),.sc (.int .i64 p)] st (.tup [.agg (encI (opI 1 a b p).1),.sc (.int .i64 (opI 1 a b p).2)]):=by
 refine J4z Tryz.func140 fun E=> ?_;refine(J0i a _ ha).q ?_;cases r1:Q0y a with
 | false=>
  refine K4w ?_;rw[opI,if_neg (by simp[r1])];rfl
 | true=>
  refine K4w ?_;refine(J0i b _ hb).q ?_;cases r2:Q0y b with
  | false=>
   refine K4w ?_;rw[opI,if_neg (by simp[r2])];rfl
  | true=>
   refine K4w ?_;refine(J1a p _).q ?_;cases r3:Z0b p with
   | false=>
    refine K4w ?_;rw[opI,if_neg (by simp[r3])];rfl
   | true=>
    obtain⟨q,rfl,q1,q2,q3⟩:=J0w r3;obtain⟨a1,a2,_⟩:=Q0x r1;obtain⟨b1,b2,_⟩:=Q0x r2;have hm:opI 1 a b q=x0c (Z0o (loV 1 (ofN a.lo) (ofN a.hi) (ofN b.lo) (ofN b.hi)) q false) (Z0o (hiV 1 (ofN a.lo) (ofN a.hi) (ofN b.lo) (ofN b.hi)) q true):=(by rw[opI,if_pos ⟨r1,r2,r3⟩,q3]);rw[hm];have d1:=J0c a1;have d2:=J0c a2;have d3:=J0c b1;have d4:=J0c b2;refine K4w ?_;refine Y0b Z0c 110 [0,1,2,3,4,5,6,7,8,9,10,11] [12,13,14,15] [16,17,18,19] (.step 0 [] (.step 1 [] (.step 3 [] (.step 4 [] (.step 6 [] (.step 7 [] (.step 9 [] (.step 10 [] (.step 2 [4,7,10] (.step 5 [7,10] (.step 8 [10] (.step 11 [1] (.done))))))))))))) (.step 16 [4] (.step 17 [7] (.step 18 [] (.step 19 [] (.done))))) (by decide+kernel) (by simp) ?_;refine K4w ?_;refine(of_c a.lo _ (K0j a1)).Q ?_;refine(of_c a.hi _ (K0j a2)).Q ?_;refine(of_c b.lo _ (K0j b1)).Q ?_;refine(of_c b.hi _ (K0j b2)).q ?_;generalize ofN a.lo=x at*
    generalize ofN a.hi=y at*
    generalize ofN b.lo=u at*
    generalize ofN b.hi=v at*
    refine K4w ?_;rw[loV1,hiV1];refine Q0k Z0c 110 (Z2k [0,1,3,5,6,8] (.step 2 [5,6] (.step 4 [5,6] (.step 7 [] (.step 9 [0,1] (Z2k [10,11,12,13,14] .done)))))) (by decide+kernel) (by simp) ?_;refine K4w ?_;refine(X2w _ _ _ (X0u d1 oG oG) (X0u d4 oG oG)).q ?_;have e1:=z1b d1 d4;refine K4w ?_;refine(U0t _ q false _ (X0u e1 oG oG) oG).q ?_;have e2:=V0v e1 q false;refine K4w ?_;refine(X2w _ _ _ (X0u d2 oG oG) (X0u d3 oG oG)).q ?_;have e3:=z1b d2 d3;refine K4w ?_;refine(U0t _ q true _ (X0u e3 oG oG) oG).q ?_;have e4:=V0v e3 q true;refine K4w ?_;refine(Q2a _ _ _ (X0x e2 oG) (X0x e4 oG)).Q0
theorem v2x (a b:Ivl)(p:Int)(st:Q0g)(ha:wI a)(hb:wI b):PR 140 [.sc (.int .i64 2),.agg (encI a),.agg (encI b),.sc (.int .i64 p)] st (.tup [.agg (encI (opI 2 a b p).1),.sc (.int .i64 (opI 2 a b p).2)]):=by
 refine J4z Tryz.func140 fun E=> ?_;refine(J0i a _ ha).q ?_;cases r1:Q0y a with
 | false=>
  refine K4w ?_;rw[opI,if_neg (by simp[r1])];rfl
 | true=>
  refine K4w ?_;refine(J0i b _ hb).q ?_;cases r2:Q0y b with
  | false=>
   refine K4w ?_;rw[opI,if_neg (by simp[r2])];rfl
  | true=>
   refine K4w ?_;refine(J1a p _).q ?_;cases r3:Z0b p with
   | false=>
    refine K4w ?_;rw[opI,if_neg (by simp[r3])];rfl
   | true=>
    obtain⟨q,rfl,q1,q2,q3⟩:=J0w r3;obtain⟨a1,a2,_⟩:=Q0x r1;obtain⟨b1,b2,_⟩:=Q0x r2;have hm:opI 2 a b q=x0c (Z0o (loV 2 (ofN a.lo) (ofN a.hi) (ofN b.lo) (ofN b.hi)) q false) (Z0o (hiV 2 (ofN a.lo) (ofN a.hi) (ofN b.lo) (ofN b.hi)) q true):=(by rw[opI,if_pos ⟨r1,r2,r3⟩,q3]);rw[hm];have d1:=J0c a1;have d2:=J0c a2;have d3:=J0c b1;have d4:=J0c b2;refine K4w ?_;refine Y0b Z0c 110 [0,1,2,3,4,5,6,7,8,9,10,11] [12,13,14,15] [16,17,18,19] (.step 0 [] (.step 1 [] (.step 3 [] (.step 4 [] (.step 6 [] (.step 7 [] (.step 9 [] (.step 10 [] (.step 2 [4,7,10] (.step 5 [7,10] (.step 8 [10] (.step 11 [1] (.done))))))))))))) (.step 16 [4] (.step 17 [7] (.step 18 [] (.step 19 [] (.done))))) (by decide+kernel) (by simp) ?_;refine K4w ?_;refine(of_c a.lo _ (K0j a1)).Q ?_;refine(of_c a.hi _ (K0j a2)).Q ?_;refine(of_c b.lo _ (K0j b1)).Q ?_;refine(of_c b.hi _ (K0j b2)).q ?_;generalize ofN a.lo=x at*
    generalize ofN a.hi=y at*
    generalize ofN b.lo=u at*
    generalize ofN b.hi=v at*
    refine K4w ?_;refine J4y ?_;refine Y0b Z0c 110 [0,1,2,3,4,5,6,7,8,9] [10,11] [12,13] (.step 0 [] (.step 1 [] (.step 2 [] (.step 3 [] (.step 5 [] (.step 6 [] (.step 7 [] (.step 8 [] (.step 4 [5,6,7,8] (.step 9 [] (.done))))))))))) (.step 12 [] (.step 13 [] (.done))) (by decide+kernel) (by simp) ?_;refine K4w ?_;refine(X2x x y u v _ (d1.mono oG oG) (d2.mono oG oG) (d3.mono oG oG) (d4.mono oG oG)).Q ?_;refine(Z3c x y u v _ (d1.mono oG oG) (d2.mono oG oG) (d3.mono oG oG) (d4.mono oG oG)).q ?_;have e1:=v1q d1 d2 d3 d4;have e3:=j2m d1 d2 d3 d4;have hl2:loV 2 x y u v=V0p x y u v:=rfl;have hh2:hiV 2 x y u v=G0x x y u v:=rfl;rw[hl2,hh2];generalize V0p x y u v=lo at*
    generalize G0x x y u v=hi at*
    refine K4w ?_;refine Q0k Z0c 110 (Z2k [0,1,3,4] (.step 2 [3] (Z2k [5,6,7,8,9,10] .done))) (by decide+kernel) (by simp) ?_;refine K4w ?_;refine(U0t _ q false _ (X0u e1 oG oG) oG).q ?_;have e2:=V0v e1 q false;refine K4w ?_;refine(U0t _ q true _ (X0u e3 oG oG) oG).q ?_;have e4:=V0v e3 q true;refine K4w ?_;refine(Q2a _ _ _ (X0x e2 oG) (X0x e4 oG)).Q0
theorem J3d (p:Int)(l:List Nm)(st:Q0g)(hl:l.length<=1000000)(hw: ∀i,i<l.length->wN (l.getD i default)):PR 306 [.sc (.int .i64 p),.sl .no (Q0t l)] st (.sc (.bool (!(l.all Q0h&&Z0b p)))):=by
 refine J4z Tryz.func306 fun E=> ?_;refine Q0d [true,true,false,false,false,true] 0 0 (fun n s=> ∃i,n=l.length-i/\i<=l.length/\(∀j,j<i->Q0h (l.getD j default)=true)/\s=⟨[.sc (.int .i64 p),.sl .no (Q0t l),.junk,.junk,.junk,.sc (.int .i64 (i:Nat))]++jk 18,[],[],st⟩) l.length ?_ ?_;refine K4w ?_;exact⟨0,oG,oG,fun j hj=>oG,rfl⟩;rintro n s ⟨i,rfl,hi,hr,rfl⟩;refine K4a (fun h=> ?_) (fun h=> ?_);have hlt:i<l.length:=(oT h);have e1:=Z0d l i hlt;have e3:IntKind.i64.wrap ((i:Int)+1)=((i+1:Nat):Int):=(by rw[Q0s _ oG oG];omega);have w:=hw i hlt;simp-dsimp only[go_sem,e1];refine⟨⟨oG,hlt⟩,?_⟩;refine(K0y _ _ (by unfold wN at w;omega)).Q ?_;refine ck (fun h=> ?_) (fun h=> ?_);have hf:Q0h (l.getD i default)=false:=(by simpa using h);have ha:l.all Q0h=false:=by
  cases hb:l.all Q0h with
  | false=>rfl
  | true=>rw[(z0r default Q0h l).1 hb i hlt] at hf;cases hf
 refine K4w ?_;rw[ha];rfl;have ht:Q0h (l.getD i default)=true:=(by simpa using h);simp-dsimp only[go_sem,e3];refine⟨l.length-(i+1),oG,i+1,rfl,oG,fun j hj=> ?_,rfl⟩;by_cases e:j=i;subst e;exact ht;exact hr j oG;have hge:i=l.length:=(oF h);have ha:l.all Q0h=true:=(z0r default Q0h l).2 fun j hj=>hr j oG;rw[ha];refine K4w ?_;refine Q0a ?_;unfold Z0b;by_cases c1:p<8;have f1:decide (p<8)=true:=q_h c1;have f2:decide (8<=p)=false:=q_g oG;simp-dsimp only[go_sem,f1,f2]
 try rfl
 have f1:decide (p<8)=false:=q_g c1;have f2:decide (8<=p)=true:=q_h oG;have f3:decide (p>256)= !decide (p<=256):=by by_cases c:p<=256;rw[q_h c,q_g oG];rfl;rw[q_g c,q_h oG];rfl
 simp-dsimp only[go_sem,f1,f2,f3]
 try rfl
theorem x0q (a b:Nm)(p:Int)(up:Bool)(st:Q0g)(ha:wN a)(hb:wN b):PR 279 [.sc (.int .i64 0),.agg (encN a),.agg (encN b),.sc (.int .i64 p),.sc (.bool up)] st (.tup [.agg (encN (Q0r 0 a b p up).1),.sc (.int .i64 (Q0r 0 a b p up).2)]):=by
 refine Q0b none Tryz.func279 rfl fun E=>Q0a ?_;have e0: ∀x y:Nm,[PV.agg [.sc (.bool x.neg),.sc (.int .i64 x.exp),.sl .no (encW x.w)],.agg [.sc (.bool y.neg),.sc (.int .i64 y.exp),.sl .no (encW y.w)]]=Q0t [x,y]:=fun x y=>rfl;simp-dsimp only[go_sem,e0];refine(J3d p [a,b] _ (by simp) (fun i hi=>by
  match i,hi with
  | 0,_=>exact ha
  | 1,_=>exact hb)).mono ?_
 rintro r st ⟨rfl,rfl⟩;refine K4a (fun h=> ?_) (fun h=> ?_);refine K4w ?_;rw[Q0r,if_neg (fun hh=>by simp[hh.1,hh.2.1,hh.2.2] at h)];rfl;have hv:Q0h a=true/\Q0h b=true/\Z0b p=true:=(by simpa[and_assoc] using h);obtain⟨r1,r2,r3⟩:=hv;obtain⟨q,rfl,q1,q2,q3⟩:=J0w r3;have hm:Q0r 0 a b q up=numV (Z0o (U0v (ofN a) (ofN b)) q up):=(by rw[Q0r,if_pos ⟨r1,r2,r3⟩,q3];rfl);rw[hm];have d1:=J0c r1;have d2:=J0c r2;refine K4w ?_;refine Y0b Z0c 49 [0,1,2,3] [4,5] [6,7] (.step 0 [] (.step 2 [] (.step 1 [2] (.step 3 [] (.done))))) (.step 6 [] (.step 7 [] (.done))) (by decide+kernel) (by simp) ?_;refine K4w ?_;refine(of_c a _ (K0j r1)).Q ?_;refine(of_c b _ (K0j r2)).q ?_;generalize ofN a=x at*
 generalize ofN b=y at*
 refine K4w ?_;refine(W2q x y _ (X0u d1 oG oG) (X0u d2 oG oG)).q ?_;have e1:=k0g d1 d2;refine K4w ?_;refine(U0t _ q up _ (X0u e1 oG oG) oG).q ?_;have e2:=V0v e1 q up;refine K4w ?_;refine(X1b _ _ (X0x e2 oG)).Q0
theorem x0p (a b:Nm)(p:Int)(up:Bool)(st:Q0g)(ha:wN a)(hb:wN b):PR 279 [.sc (.int .i64 1),.agg (encN a),.agg (encN b),.sc (.int .i64 p),.sc (.bool up)] st (.tup [.agg (encN (Q0r 1 a b p up).1),.sc (.int .i64 (Q0r 1 a b p up).2)]):=by
 refine Q0b none Tryz.func279 rfl fun E=>Q0a ?_;have e0: ∀x y:Nm,[PV.agg [.sc (.bool x.neg),.sc (.int .i64 x.exp),.sl .no (encW x.w)],.agg [.sc (.bool y.neg),.sc (.int .i64 y.exp),.sl .no (encW y.w)]]=Q0t [x,y]:=fun x y=>rfl;simp-dsimp only[go_sem,e0];refine(J3d p [a,b] _ (by simp) (fun i hi=>by
  match i,hi with
  | 0,_=>exact ha
  | 1,_=>exact hb)).mono ?_
 rintro r st ⟨rfl,rfl⟩;refine K4a (fun h=> ?_) (fun h=> ?_);refine K4w ?_;rw[Q0r,if_neg (fun hh=>by simp[hh.1,hh.2.1,hh.2.2] at h)];rfl;have hv:Q0h a=true/\Q0h b=true/\Z0b p=true:=(by simpa[and_assoc] using h);obtain⟨r1,r2,r3⟩:=hv;obtain⟨q,rfl,q1,q2,q3⟩:=J0w r3;have hm:Q0r 1 a b q up=numV (Z0o (q0n (ofN a) (ofN b)) q up):=(by rw[Q0r,if_pos ⟨r1,r2,r3⟩,q3];rfl);rw[hm];have d1:=J0c r1;have d2:=J0c r2;refine K4w ?_;refine Y0b Z0c 49 [0,1,2,3] [4,5] [6,7] (.step 0 [] (.step 2 [] (.step 1 [2] (.step 3 [] (.done))))) (.step 6 [] (.step 7 [] (.done))) (by decide+kernel) (by simp) ?_;refine K4w ?_;refine(of_c a _ (K0j r1)).Q ?_;refine(of_c b _ (K0j r2)).q ?_;generalize ofN a=x at*
 generalize ofN b=y at*
 refine K4w ?_;refine(y1w x y _ (X0u d1 oG oG) (X0u d2 oG oG)).q ?_;have e1:=z1b d1 d2;refine K4w ?_;refine(U0t _ q up _ (X0u e1 oG oG) oG).q ?_;have e2:=V0v e1 q up;refine K4w ?_;refine(X1b _ _ (X0x e2 oG)).Q0
theorem x0o (a b:Nm)(p:Int)(up:Bool)(st:Q0g)(ha:wN a)(hb:wN b):PR 279 [.sc (.int .i64 2),.agg (encN a),.agg (encN b),.sc (.int .i64 p),.sc (.bool up)] st (.tup [.agg (encN (Q0r 2 a b p up).1),.sc (.int .i64 (Q0r 2 a b p up).2)]):=by
 refine Q0b none Tryz.func279 rfl fun E=>Q0a ?_;have e0: ∀x y:Nm,[PV.agg [.sc (.bool x.neg),.sc (.int .i64 x.exp),.sl .no (encW x.w)],.agg [.sc (.bool y.neg),.sc (.int .i64 y.exp),.sl .no (encW y.w)]]=Q0t [x,y]:=fun x y=>rfl;simp-dsimp only[go_sem,e0];refine(J3d p [a,b] _ (by simp) (fun i hi=>by
  match i,hi with
  | 0,_=>exact ha
  | 1,_=>exact hb)).mono ?_
 rintro r st ⟨rfl,rfl⟩;refine K4a (fun h=> ?_) (fun h=> ?_);refine K4w ?_;rw[Q0r,if_neg (fun hh=>by simp[hh.1,hh.2.1,hh.2.2] at h)];rfl;have hv:Q0h a=true/\Q0h b=true/\Z0b p=true:=(by simpa[and_assoc] using h);obtain⟨r1,r2,r3⟩:=hv;obtain⟨q,rfl,q1,q2,q3⟩:=J0w r3;have hm:Q0r 2 a b q up=numV (Z0o (byV (ofN a) (ofN b)) q up):=(by rw[Q0r,if_pos ⟨r1,r2,r3⟩,q3];rfl);rw[hm];have d1:=J0c r1;have d2:=J0c r2;refine K4w ?_;refine Y0b Z0c 49 [0,1,2,3] [4,5] [6,7] (.step 0 [] (.step 2 [] (.step 1 [2] (.step 3 [] (.done))))) (.step 6 [] (.step 7 [] (.done))) (by decide+kernel) (by simp) ?_;refine K4w ?_;refine(of_c a _ (K0j r1)).Q ?_;refine(of_c b _ (K0j r2)).q ?_;generalize ofN a=x at*
 generalize ofN b=y at*
 refine K4w ?_;refine(y1v x y _ (X0u d1 oG oG) (X0u d2 oG oG)).q ?_;have e1:=J2x d1 d2;refine K4w ?_;refine(U0t _ q up _ (X0u e1 oG oG) oG).q ?_;have e2:=V0v e1 q up;refine K4w ?_;refine(X1b _ _ (X0x e2 oG)).Q0
theorem V2h (x:Nm)(k:Int)(st:Q0g)(hx:wN x):PR 276 [.agg (encN x),.sc (.int .i64 k)] st (.tup [.agg (encN (Y0o x k).1),.sc (.int .i64 (Y0o x k).2)]):=by
 unfold wN at hx;refine J4z Tryz.func276 fun E=> ?_;refine(K0y x _ oG).q ?_;cases r1:Q0h x with
 | false=>
  refine K4w ?_;rw[Y0o,if_neg (by rw[r1];simp)];rfl
 | true=>
  rw[Y0o,if_pos r1];refine K4a (fun h=> ?_) (fun h=> ?_);have h0:x.w= []:=List.length_eq_zero_iff.1 (G0r (b:=0) h);refine K4w ?_;rw[if_pos h0];have h0:x.w≠ []:=fun e=>(by rw[e] at h;cases h);have hb:=Z0v r1;have b2:=hb.2.1;have b3:=hb.2.2;rw[if_neg h0];by_cases c1:131072<k;have f1:decide (k>131072)=true:=q_h c1;simp-dsimp only[go_sem,f1];rw[if_pos (.inr c1)];rfl;have f1:decide (k>131072)=false:=q_g c1;by_cases c2:k< -131072;have f2:decide (k< -131072)=true:=q_h c2;simp-dsimp only[go_sem,f1,f2];rw[if_pos (.inl c2)];rfl;have f2:decide (k< -131072)=false:=q_g c2;have x1:IntKind.i64.wrap (x.exp+k)=x.exp+k:=Q0s _ oG oG;rw[if_neg oG];simp-dsimp only[go_sem,f1,f2];refine Q0k Z0c 35 (Z2k [0,1,2,3,5,6,7,8] (.step 4 [1,6] (Z2k [9,10,11,12,13,14] .done))) (by decide+kernel) (by simp) ?_;simp-dsimp only[go_sem,x1];refine(G2q x.w _ oG).q ?_;simp-dsimp only[go_sem,x1];have hd:=X0x (J0c r1) oG;refine(X1b ⟨x.neg,valW x.w,x.exp+k⟩ _ hd).Q0
theorem w2b (a:Ivl)(x:Nm)(st:Q0g)(ha:wI a)(hx:wN x):PR 111 [.agg (encI a),.agg (encN x)] st (.sc (.bool (hasI a x))):=by
 refine Q0b none Tryz.func111 rfl fun E=>Q0a ?_;unfold hasI;refine K4w ?_;refine(J0i a _ ha).q ?_;cases r1:Q0y a with
 | false=>simp-dsimp only[go_sem];try rfl
 | true=>
  refine K4w ?_;refine(K0y x _ (by unfold wN at hx;omega)).q ?_;cases r2:Q0h x with
  | false=>simp-dsimp only[go_sem];try rfl
  | true=>
   have a1:=(Q0x r1).1;have a2:=(Q0x r1).2.1;have e1:cmpR a.lo x=cmpN a.lo x:=if_pos ⟨a1,r2⟩;have e2:cmpR x a.hi=cmpN x a.hi:=if_pos ⟨r2,a2⟩;refine K4w ?_;refine(z0q a.lo x _ (K0j a1) (K0j r2)).q ?_;rw[e1];cases c1:decide (cmpN a.lo x<=0) with
   | false=>simp-dsimp only[go_sem,c1];try rfl
   | true=>
    simp-dsimp only[go_sem,c1];refine(z0q x a.hi _ (K0j r2) (K0j a2)).q ?_;rw[e2];simp-dsimp only[go_sem,c1]
    try rfl
theorem U0d (p:Int)(st:Q0g):PR 209 [.sc (.int .i64 p)] st (.sc (.bool (Z0b p))):=by
 refine Q0b none Tryz.func209 rfl fun E=>Q0a ?_;unfold Z0b;by_cases h:8<=p;have f1:decide (p>=8)=true:=q_h h;have f2:decide (8<=p)=true:=q_h h;simp-dsimp only[go_sem,f1,f2]
 try simp
 have f1:decide (p>=8)=false:=q_g h;have f2:decide (8<=p)=false:=q_g h;simp-dsimp only[go_sem,f1,f2]
 try simp
theorem J1b (q:List Nm)(st:Q0g)(hq:wNs q):PR 170 [.sl .no (Q0t q)] st (.sl (.fresh 6) (Q0z (ofB q))):=by
 obtain⟨hl,hw⟩:=hq;refine J4z Tryz.func170 fun E=> ?_;refine Z0j 3 6 ?_;refine K4w ?_;refine Q0d [true,false,false,true,true] 0 1
  (fun n s=> ∃i,n=q.length-i/\i<=q.length/\s=⟨[.sl .no (Q0t q),.junk,.junk,.sl (.own 0) (Q0z (ofB (q.take i))),.sc (.int .i64 (i:Nat))]++jk 15,[],[((ofB (q.take i)).length,6)],st⟩) q.length ?_ ?_
 refine K4w ?_;exact⟨0,oG,oG,rfl⟩;rintro n s ⟨i,rfl,hi,rfl⟩;refine K4a (fun h'=> ?_) (fun h'=> ?_);have hlt:i<q.length:=(by have:=q_b h';omega);have e1:=Z0d q i hlt;have e3:IntKind.i64.wrap ((i:Int)+1)=((i+1:Nat):Int):=(by rw[Q0s _ oG oG];omega);have ll:(ofB (q.take i)).length=i:=(by simp[ofB];omega);simp-dsimp only[go_sem,e1];refine⟨⟨oG,hlt⟩,?_⟩;refine(Y3x _ _).q ?_;simp-dsimp only[go_sem,e3];refine⟨⟨oG,oG⟩,q.length-(i+1),oG,i+1,rfl,oG,?_⟩;rw[H1p q i hlt];simp[Q0z,encI];have hge:i=q.length:=(by have:=q_c h';omega);refine K4w ?_;refine J4y ?_;rw[hge,List.take_length]
theorem X2f (a b:List Ivl)(p:Int)(st:Q0g)(ha:wB a)(hb:wB b):PR 169 [.sc (.int .i64 0),.sl .no (Q0z a),.sl .no (Q0z b),.sc (.int .i64 p)] st (.tup [.sl .no (Q0z (opB 0 a b p).1),.sc (.int .i64 (opB 0 a b p).2)]):=by
 refine J4z Tryz.func169 fun E=> ?_;refine(V0x a _ ha).q ?_;cases r1:rightB a with
 | false=>
  refine K4w ?_;rw[opB,if_neg (by simp[r1])];rfl
 | true=>
  refine K4w ?_;refine(V0x b _ hb).q ?_;cases r2:rightB b with
  | false=>
   refine K4w ?_;rw[opB,if_neg (by simp[r2])];rfl
  | true=>
   by_cases hl:a.length=b.length
   . have f1:((a.length:Int) !=(b.length:Int))=false:=by rw[hl];simp
     simp-dsimp only[go_sem,f1];refine(U0d p _).q ?_;cases r3:Z0b p with
     | false=>
      simp-dsimp only[go_sem,f1];rw[opB,if_neg (by simp[r3])];rfl
     | true=>
      have hla:=ha.1;have hab:opB 0 a b p=V0d (fun i x=>opI 0 x (b.getD i default) p) 0 a []:=if_pos ⟨r1,r2,hl,r3⟩;rw[hab];simp-dsimp only[go_sem,f1];refine Z0j 10 6 ?_;refine K4w ?_;refine Q0d [true,true,true,true,false,false,false,false,false,false,true,true] 0 1 (fun n s=> ∃i o,n=a.length-i/\i<=a.length/\o.length=i/\V0d (fun i x=>opI 0 x (b.getD i default) p) 0 a []=V0d (fun i x=>opI 0 x (b.getD i default) p) i (a.drop i) o/\s=⟨[.sc (.int .i64 0),.sl .no (Q0z a),.sl .no (Q0z b),.sc (.int .i64 p),.junk,.junk,.junk,.junk,.junk,.junk,.sl (.own 0) (Q0z o),.sc (.int .i64 (i:Nat))]++jk 50,[],[(o.length,6)],st⟩) a.length ?_ ?_;refine K4w ?_;exact⟨0,[],oG,oG,rfl,rfl,rfl⟩
      . rintro n s ⟨i,o,rfl,hi,ho,hr,rfl⟩;refine K4a (fun h'=> ?_) (fun h'=> ?_)
        . have hlt:i<a.length:=by have:=q_b h';omega
          have e1:=Z0p a i hlt;have e2:=Z0p b i oG;have e3:IntKind.i64.wrap ((i:Int)+1)=((i+1:Nat):Int):=(by rw[Q0s _ oG oG];omega);have e4:=q0t (fun i x=>opI 0 x (b.getD i default) p) a i o hlt;refine K4w ?_;refine Q0k Z0c 62 (Z2k [0,1,2,3,4,5,6,7,8,9] (.alt (Z2k [10,11,12,13] (.step 14 [4,8] (.step 15 [] (.step 16 [] (.done))))) (.step 14 [4,8] (Z2k [10,11,12,13,15,16] .done)))) (by decide+kernel) (by simp) ?_;simp-dsimp only[go_sem,e1,e2];refine⟨⟨oG,oG⟩,⟨oG,oG⟩,?_,?_⟩
          all_goals
           refine(Z2t _ _ p _ (ha.2 i hlt) (hb.2 i oG)).q ?_;simp-dsimp only[go_sem,e1,e2];refine ck (fun h2=> ?_) (fun h2=> ?_);have hne:=W0z h2;refine K4w ?_;rw[hr,e4,if_pos hne];rfl;have he:=Y0n h2;simp-dsimp only[go_sem,e3];refine⟨oG,a.length-(i+1),oG,i+1,o++ [(opI 0 (a.getD i default) (b.getD i default) p).1],rfl,oG,by simp[ho],?_,?_⟩;rw[hr,e4,if_neg (fun hh=>hh he)];simp[Q0z,encI]
        have hge:i=a.length:=by have:=q_c h';omega
        refine K4w ?_;refine J4y ?_;rw[hr,hge,List.drop_length];rfl
   have f1:((a.length:Int) !=(b.length:Int))=true:=by rw[bne_iff_ne];omega
   simp-dsimp only[go_sem,f1];rw[opB,if_neg (fun h=>hl h.2.2.1)];rfl
theorem H1n (a b:List Ivl)(p:Int)(st:Q0g)(ha:wB a)(hb:wB b):PR 169 [.sc (.int .i64 1),.sl .no (Q0z a),.sl .no (Q0z b),.sc (.int .i64 p)] st (.tup [.sl .no (Q0z (opB 1 a b p).1),.sc (.int .i64 (opB 1 a b p).2)]):=by
 refine J4z Tryz.func169 fun E=> ?_;refine(V0x a _ ha).q ?_;cases r1:rightB a with
 | false=>
  refine K4w ?_;rw[opB,if_neg (by simp[r1])];rfl
 | true=>
  refine K4w ?_;refine(V0x b _ hb).q ?_;cases r2:rightB b with
  | false=>
   refine K4w ?_;rw[opB,if_neg (by simp[r2])];rfl
  | true=>
   by_cases hl:a.length=b.length
   . have f1:((a.length:Int) !=(b.length:Int))=false:=by rw[hl];simp
     simp-dsimp only[go_sem,f1];refine(U0d p _).q ?_;cases r3:Z0b p with
     | false=>
      simp-dsimp only[go_sem,f1];rw[opB,if_neg (by simp[r3])];rfl
     | true=>
      have hla:=ha.1;have hab:opB 1 a b p=V0d (fun i x=>opI 1 x (b.getD i default) p) 0 a []:=if_pos ⟨r1,r2,hl,r3⟩;rw[hab];simp-dsimp only[go_sem,f1];refine Z0j 10 6 ?_;refine K4w ?_;refine Q0d [true,true,true,true,false,false,false,false,false,false,true,true] 0 1 (fun n s=> ∃i o,n=a.length-i/\i<=a.length/\o.length=i/\V0d (fun i x=>opI 1 x (b.getD i default) p) 0 a []=V0d (fun i x=>opI 1 x (b.getD i default) p) i (a.drop i) o/\s=⟨[.sc (.int .i64 1),.sl .no (Q0z a),.sl .no (Q0z b),.sc (.int .i64 p),.junk,.junk,.junk,.junk,.junk,.junk,.sl (.own 0) (Q0z o),.sc (.int .i64 (i:Nat))]++jk 50,[],[(o.length,6)],st⟩) a.length ?_ ?_;refine K4w ?_;exact⟨0,[],oG,oG,rfl,rfl,rfl⟩
      . rintro n s ⟨i,o,rfl,hi,ho,hr,rfl⟩;refine K4a (fun h'=> ?_) (fun h'=> ?_)
        . have hlt:i<a.length:=by have:=q_b h';omega
          have e1:=Z0p a i hlt;have e2:=Z0p b i oG;have e3:IntKind.i64.wrap ((i:Int)+1)=((i+1:Nat):Int):=(by rw[Q0s _ oG oG];omega);have e4:=q0t (fun i x=>opI 1 x (b.getD i default) p) a i o hlt;refine K4w ?_;refine Q0k Z0c 62 (Z2k [0,1,2,3,4,5,6,7,8,9] (.alt (Z2k [10,11,12,13] (.step 14 [4,8] (.step 15 [] (.step 16 [] (.done))))) (.step 14 [4,8] (Z2k [10,11,12,13,15,16] .done)))) (by decide+kernel) (by simp) ?_;simp-dsimp only[go_sem,e1,e2];refine⟨⟨oG,oG⟩,⟨oG,oG⟩,?_,?_⟩
          all_goals
           refine(v2y _ _ p _ (ha.2 i hlt) (hb.2 i oG)).q ?_;simp-dsimp only[go_sem,e1,e2];refine ck (fun h2=> ?_) (fun h2=> ?_);have hne:=W0z h2;refine K4w ?_;rw[hr,e4,if_pos hne];rfl;have he:=Y0n h2;simp-dsimp only[go_sem,e3];refine⟨oG,a.length-(i+1),oG,i+1,o++ [(opI 1 (a.getD i default) (b.getD i default) p).1],rfl,oG,by simp[ho],?_,?_⟩;rw[hr,e4,if_neg (fun hh=>hh he)];simp[Q0z,encI]
        have hge:i=a.length:=by have:=q_c h';omega
        refine K4w ?_;refine J4y ?_;rw[hr,hge,List.drop_length];rfl
   have f1:((a.length:Int) !=(b.length:Int))=true:=by rw[bne_iff_ne];omega
   simp-dsimp only[go_sem,f1];rw[opB,if_neg (fun h=>hl h.2.2.1)];rfl
theorem H1u (b:List Ivl)(p:Int)(st:Q0g)(hb:wB b):PR 171 [.sl .no (Q0z b),.sc (.int .i64 p)] st (.tup [.sl .no (Q0t (midB b p).1),.sc (.int .i64 (midB b p).2)]):=by
 refine J4z Tryz.func171 fun E=> ?_;refine(V0x b _ hb).q ?_;cases r1:rightB b with
 | false=>
  refine K4w ?_;rw[midB,if_neg (by simp[r1])];rfl
 | true=>
  refine K4w ?_;refine(U0d p _).q ?_;cases r3:Z0b p with
  | false=>
   refine K4w ?_;rw[midB,if_neg (by simp[r3])];rfl
  | true=>
   have hla:=hb.1;have hab:midB b p=V0d (fun _ a=>midI a p) 0 b []:=if_pos ⟨r1,r3⟩;rw[hab];refine K4w ?_;refine Z0j 6 3 ?_;refine K4w ?_;refine Q0d [true,true,false,false,false,false,true,true] 0 1 (fun n s=> ∃i o,n=b.length-i/\i<=b.length/\o.length=i/\V0d (fun _ a=>midI a p) 0 b []=V0d (fun _ a=>midI a p) i (b.drop i) o/\s=⟨[.sl .no (Q0z b),.sc (.int .i64 p),.junk,.junk,.junk,.junk,.sl (.own 0) (Q0t o),.sc (.int .i64 (i:Nat))]++jk 33,[],[(o.length,3)],st⟩) b.length ?_ ?_;refine K4w ?_;exact⟨0,[],oG,oG,rfl,rfl,rfl⟩;rintro n s ⟨i,o,rfl,hi,ho,hr,rfl⟩;refine K4a (fun h'=> ?_) (fun h'=> ?_);have hlt:i<b.length:=(by have:=q_b h';omega);have e1:=Z0p b i hlt;have e3:IntKind.i64.wrap ((i:Int)+1)=((i+1:Nat):Int):=(by rw[Q0s _ oG oG];omega);have e4:=q0t (fun _ a=>midI a p) b i o hlt;simp-dsimp only[go_sem,e1];refine⟨⟨oG,oG⟩,?_⟩;refine(w2a _ p _ (hb.2 i hlt)).q ?_;simp-dsimp only[go_sem,e1];refine ck (fun h2=> ?_) (fun h2=> ?_);have hne:=W0z h2;refine K4w ?_;rw[hr,e4,if_pos hne];rfl;have he:=Y0n h2;simp-dsimp only[go_sem,e3];refine⟨oG,b.length-(i+1),oG,i+1,o++ [(midI (b.getD i default) p).1],rfl,oG,by simp[ho],?_,?_⟩;rw[hr,e4,if_neg (fun hh=>hh he)];simp[Q0t,encN];have hge:i=b.length:=(by have:=q_c h';omega);refine K4w ?_;refine J4y ?_;rw[hr,hge,List.drop_length];rfl
theorem k1o {α β:Type}(F:Nat->α->β×Int)(P:β->Prop)(hp: ∀i x,x∈([]:List α)\/P (F i x).1): ∀(l:List α) (i:Nat) (acc:List β),(∀y,y∈acc->P y)->(∀y,y∈(V0d F i l acc).1->P y)/\(V0d F i l acc).1.length<=acc.length+l.length
 | [],i,acc,h=>⟨h,by simp[V0d]⟩
 | x::l,i,acc,h=>by unfold V0d;split;exact⟨fun y hy=>by simp at hy,by simp⟩;obtain⟨h1,h2⟩:=k1o F P hp l (i+1) (acc++ [(F i x).1]) (fun y hy=>by rcases List.mem_append.1 hy with h3 | h3;exact h y h3;rw[List.mem_singleton.1 h3];rcases hp i x with h4 | h4;simp at h4;exact h4);exact⟨h1,by simp at h2⊢;omega⟩
theorem z2z (F:Nat->Ivl->Nm×Int)(hF: ∀i x,wN (F i x).1)(l:List Ivl)(hl:l.length<=100000000000):wNs (V0d F 0 l []).1:=by obtain⟨h1,h2⟩:=k1o F wN (fun i x=> .inr (hF i x)) l 0 [] (fun y hy=>by simp at hy);exact⟨by simp at h2;omega,fun i hi=>h1 _ (Q0q _ i default hi)⟩
theorem W3b :wNs []:=⟨by simp,fun i hi=>by simp at hi⟩
theorem G1o (b:List Ivl)(p:Int)(hb:wB b):wNs (midB b p).1:=by unfold midB;split;exact z2z _ (fun i x=>x0i (Z0n (Z1f _ _))) b hb.1;exact W3b
def k1 :Nm:=⟨false,0,[1]⟩
def k2 :Nm:=⟨false,1,[1]⟩
def k4 :Nm:=⟨false,2,[1]⟩
theorem Y1c {P:Program}{ops l m:List Oper}{x:Oper}{K:PFS->Prop}{s:PFS} :OL P ops (List.append (x::l) m) K s=OL P ops (x::List.append l m) K s:=rfl
theorem v0y {P:Program}{ops m:List Oper}{K:PFS->Prop}{s:PFS} :OL P ops (List.append [] m) K s=OL P ops m K s:=rfl
theorem Z0s (i:Nat)(h:i<100000000000000):IntKind.i64.wrap ((i:Int)+1)=((i+1:Nat):Int):=by rw[Q0s _ oG oG];omega
end Go.Pv
end
