/- Parts of the walk: N17, N18, N19, N20, N21, N22, N24, N25, N23, N26. -/
import Derived.Test.YtldalepagmhnmaaGreatDoorZAE
import Derived.Test.YtldalepagmhnmaaGreatDoorZAA
set_option linter.unusedVariables false
set_option linter.unusedSimpArgs false
section
set_option maxRecDepth 100000
namespace Go.Pv
open Go.Proofs
theorem X0l {v:Vl}{n k:Nat}(h:bdV n k v)(h1:n<=1000000000000)(h2:k<=100000000000):smV v:=⟨by have:=h.1;omega,by have:=h.2.1;omega,by have:=h.2.2;omega⟩
theorem K0a {x:Nm}(h:Q0h x=true):x.w.length<=1000000000000:=by have:=(X0a h).1;omega
theorem J1s (p:Int)(st:Q0f):PR 203 [.sc (.int .i64 p)] st (.sc (.bool (Z0c p))):=by
 refine Q0b none Tryz.func203 rfl fun E=>Q0a ?_;unfold Z0c;by_cases h:8<=p;have f1:decide (p>=8)=true:=q_h h;have f2:decide (8<=p)=true:=q_h h;simp-dsimp only[go_sem,f1,f2]
 try simp
 have f1:decide (p>=8)=false:=q_g h;have f2:decide (8<=p)=false:=q_g h;simp-dsimp only[go_sem,f1,f2]
 try simp
theorem Q3d (a:Ivl)(p:Int)(st:Q0f)(ha:wI a):PR 236 [.agg (encI a),.sc (.int .i64 p)] st (.tup [.agg (encN (midI a p).1),.sc (.int .i64 (midI a p).2)]):=by
 refine W4y Tryz.func236 fun E=> ?_;refine(J0p a _ ha).q ?_;cases r1:Q0w a with
 | false=>
  refine Y4w ?_;rw[midI,if_neg (by simp[r1])];rfl
 | true=>
  refine Y4w ?_;refine(J1s p _).q ?_;cases r3:Z0c p with
  | false=>
   refine Y4w ?_;rw[midI,if_neg (by simp[r3])];rfl
  | true=>
   obtain⟨q,rfl,q1,q2,q3⟩:=K0c r3;obtain⟨a1,a2,_⟩:=Q0x r1;have hm:midI a q=if W0g (midV a q) (ofN a.lo)<0 then(a.lo,0) else numV (midV a q):=(by rw[midI,if_pos ⟨r1,r3⟩,q3]);rw[hm];refine Y4w ?_;refine W0q Z0b 46 [0,1,2,3,4,5,6] [7] [8] (.step 0 [] (.step 1 [] (.step 3 [] (.step 4 [] (.step 2 [4] (.step 5 [] (.step 6 [] (.done)))))))) (.step 8 [] (.done)) (by decide+kernel) (by simp) ?_;have b1:=X0x a1;have b2:=X0x a2;have b3:=V3m (x0h b1 b2);have b4:=V0x b3 q false;refine Y4w ?_;refine(of_c a.lo _ (K0a a1)).Q ?_;refine(of_c a.hi _ (K0a a2)).Q ?_;refine(U1x _ _ _ (X0l b1 oG oG) (X0l b2 oG oG)).q ?_;have e0:=x0h b1 b2;have hv:midV a q=Z0p (Q1e (Y0n (ofN a.lo) (ofN a.hi))) q false:=rfl;rw[hv];generalize Y0n (ofN a.lo) (ofN a.hi)=v at*
   have x1:IntKind.i64.wrap (v.e-1)=v.e-1:=Q0q _ (by have:=e0.2.1;omega) (by have:=e0.2.2;omega);refine W4z (fun h=> ?_) (fun h=> ?_)
   case' refine_1=>
    have h0:v.m≠0:=fun e=>by rw[e,Z0o] at h;cases h
    have hh:Q1e v= { v with e:=v.e-1 } :=(by rw[Q1e,if_neg h0]);rw[hh] at b3 b4⊢;generalize hz:({ v with e:=v.e-1 } :Vl)=z at*
    have z1:v.neg=z.neg:=(by rw[<-hz]);have z2:v.m=z.m:=(by rw[<-hz]);have z3:v.e-1=z.e:=(by rw[<-hz]);simp-dsimp only[go_sem,x1];rw[z1,z2,z3]
   case' refine_2=>
    have h0:v.m=0:=by have:=q_c h;exact digitsOf_nil.1 (List.length_eq_zero_iff.1 oG)
    have hh:Q1e v=v:=(by rw[Q1e,if_pos h0]);rw[hh] at b3 b4⊢;generalize v=z at*
    simp-dsimp only[go_sem]
   all_goals
    refine(G0d z q false _ (X0l b3 oG oG) oG).q ?_;generalize Z0p z q false=y at*
    refine Y4w ?_;refine Q0k Z0b 46 (X2p [0,1,2] (.step 3 [0] (.step 4 [] (.step 5 [] (.done))))) (by decide+kernel) (by simp) ?_;refine Y4w ?_;refine(of_c a.lo _ (K0a a1)).q ?_;refine Y4w ?_;refine(q1i _ _ _ (X0l b4 oG oG) (X0l b1 oG oG)).q ?_;refine W4z (fun h=> ?_) (fun h=> ?_);have hc:W0g y (ofN a.lo)<0:=q_b h;rw[if_pos hc];simp-dsimp only[go_sem]
    try rfl
    have hc: ¬W0g y (ofN a.lo)<0:=q_c h;rw[if_neg hc];refine Y4w ?_;refine(v0d y _ (X0w b4 oG)).Q0
theorem Z2c (lo hi:Vl)(st:Q0f)(h1:(Q0g lo.m).length<=1000000000000)(h2:(Q0g hi.m).length<=1000000000000):PCalls Tryz.prog 204 [.agg (encV lo),.agg (encV hi)] st
 (fun r st'=>r= .tup [.agg (encI (x0t lo hi).1),.sc (.int .i64 (x0t lo hi).2)]/\st'=st):=by
 refine Q0b none Tryz.func204 rfl fun E=>Q0a ?_;unfold x0t;refine Y4w ?_;refine(v0d lo _ h1).Q ?_;refine(v0d hi _ h2).q ?_;by_cases c1:(numV lo).2=0;have f1:((numV lo).2 !=0)=false:=(by rw[c1];rfl);by_cases c2:(numV hi).2=0;have f2:((numV hi).2 !=0)=false:=(by rw[c2];rfl);rw[if_pos ⟨c1,c2⟩];simp-dsimp only[go_sem,f1,f2]
 try rfl
 have f2:((numV hi).2 !=0)=true:=bne_iff_ne.2 c2;rw[if_neg (fun h=>c2 h.2)];simp-dsimp only[go_sem,f1,f2]
 try rfl
 have f1:((numV lo).2 !=0)=true:=bne_iff_ne.2 c1;rw[if_neg (fun h=>c1 h.1)];simp-dsimp only[go_sem,f1]
 try rfl
theorem K2d (x y u v:Vl)(st:Q0f)(hx:bdV 10000000 10000000 x)(hy:bdV 10000000 10000000 y)(hu:bdV 10000000 10000000 u)(hv:bdV 10000000 10000000 v):PR 207 [.agg (encV x),.agg (encV y),.agg (encV u),.agg (encV v)] st (.agg (encV (V0s x y u v))):=by
 have sx:=X0l hx oG oG;have sy:=X0l hy oG oG;have su:=X0l hu oG oG;have sv:=X0l hv oG oG;refine Q0b none Tryz.func207 rfl fun E=>Q0a ?_;unfold V0s;refine Y4w ?_;refine(q0k x _).q ?_;by_cases c1:0<=K0v x;have f1:decide (K0v x>=0)=true:=q_h c1;simp-dsimp only[go_sem,f1];refine(q0k u _).q ?_;by_cases c2:0<=K0v u;have f2:decide (K0v u>=0)=true:=q_h c2;rw[if_pos ⟨c1,c2⟩];simp-dsimp only[go_sem,f1,f2];refine(by_c x u _ sx su).Q0;have f2:decide (K0v u>=0)=false:=q_g c2;rw[if_neg (fun h=>c2 h.2),if_pos c1];simp-dsimp only[go_sem,f1,f2];refine(q0k x _).q ?_;simp-dsimp only[go_sem,f1,f2];refine(by_c y u _ sy su).Q0;have f1:decide (K0v x>=0)=false:=q_g c1;rw[if_neg (fun h=>c1 h.1),if_neg c1];simp-dsimp only[go_sem,f1];refine(q0k x _).q ?_;simp-dsimp only[go_sem,f1];refine(q0k u _).q ?_;by_cases c2:0<=K0v u;have f2:decide (K0v u>=0)=true:=q_h c2;rw[if_pos c2];simp-dsimp only[go_sem,f1,f2];refine(by_c x v _ sx sv).Q0;have f2:decide (K0v u>=0)=false:=q_g c2;rw[if_neg c2];simp-dsimp only[go_sem,f1,f2];refine(q0k y _).q ?_;by_cases c3:K0v y<=0/\K0v v<=0;have f3:decide (K0v y<=0)=true:=q_h c3.1;have f4:decide (K0v v<=0)=true:=q_h c3.2;rw[if_pos c3];simp-dsimp only[go_sem,f3];refine(q0k v _).q ?_;simp-dsimp only[go_sem,f3,f4];refine(by_c y v _ sy sv).Q0;rw[if_neg c3];have q1:=H1d hx hv;have q2:=H1d hy hu;have tail: ∀(Z:Prop),Z->Z:=fun _ h=>h;cases f3:decide (K0v y<=0) with
 | false=>
  simp-dsimp only[go_sem,f3];refine W4u ?_;refine W0q Z0b 61 [0,1,2,3,4,5] [6,7] [8,9] (.step 0 [] (.step 1 [] (.step 3 [] (.step 4 [] (.step 2 [3,4] (.step 5 [] (.done))))))) (.step 8 [] (.step 9 [] (.done))) (by decide+kernel) (by simp) ?_;refine Y4w ?_;refine(by_c x v _ sx sv).Q ?_;refine(by_c y u _ sy su).Q ?_;refine(q1i _ _ _ (X0l q2 oG oG) (X0l q1 oG oG)).Q ?_;refine ck (fun h=> ?_) (fun h=> ?_);have hc:W0g (byV y u) (byV x v)<0:=q_b h;rw[if_pos hc];simp-dsimp only[go_sem]
  try rfl
  have hc: ¬W0g (byV y u) (byV x v)<0:=q_c h;rw[if_neg hc];simp-dsimp only[go_sem]
  try rfl
 | true=>
  have f4:decide (K0v v<=0)=false:=q_g fun h=>c3 ⟨q_b f3,h⟩;simp-dsimp only[go_sem,f3];refine(q0k v _).q ?_;simp-dsimp only[go_sem,f3,f4];refine W4u ?_;refine W0q Z0b 61 [0,1,2,3,4,5] [6,7] [8,9] (.step 0 [] (.step 1 [] (.step 3 [] (.step 4 [] (.step 2 [3,4] (.step 5 [] (.done))))))) (.step 8 [] (.step 9 [] (.done))) (by decide+kernel) (by simp) ?_;refine Y4w ?_;refine(by_c x v _ sx sv).Q ?_;refine(by_c y u _ sy su).Q ?_;refine(q1i _ _ _ (X0l q2 oG oG) (X0l q1 oG oG)).Q ?_;refine ck (fun h=> ?_) (fun h=> ?_);have hc:W0g (byV y u) (byV x v)<0:=q_b h;rw[if_pos hc];simp-dsimp only[go_sem]
  try rfl
  have hc: ¬W0g (byV y u) (byV x v)<0:=q_c h;rw[if_neg hc];simp-dsimp only[go_sem]
  try rfl
theorem J3j (x y u v:Vl)(st:Q0f)(hx:bdV 10000000 10000000 x)(hy:bdV 10000000 10000000 y)(hu:bdV 10000000 10000000 u)(hv:bdV 10000000 10000000 v):PR 208 [.agg (encV x),.agg (encV y),.agg (encV u),.agg (encV v)] st (.agg (encV (H0g x y u v))):=by
 refine W4y Tryz.func208 fun E=> ?_;refine Q0k Z0b 17 (X2p [0,2,4,5] (.step 1 [2,4,5] (.step 3 [4,5] (X2p [6,7,8] .done)))) (by decide+kernel) (by simp) ?_;refine Y4w ?_;refine(J1n y _).Q ?_;refine(J1n x _).Q ?_;refine(K2d (V0j y) (V0j x) u v _ (k0v hy) (k0v hx) hu hv).Q ?_;refine(J1n _ _).q ?_;simp-dsimp only[go_sem]
 try rfl
theorem X2y (a b:Ivl)(p:Int)(st:Q0f)(ha:wI a)(hb:wI b):PR 140 [.sc (.int .i64 0),.agg (encI a),.agg (encI b),.sc (.int .i64 p)] st (.tup [.agg (encI (opI 0 a b p).1),.sc (.int .i64 (opI 0 a b p).2)]):=by
 refine W4y Tryz.func140 fun E=> ?_;refine(J0p a _ ha).q ?_;cases r1:Q0w a with
 | false=>
  refine Y4w ?_;rw[opI,if_neg (by simp[r1])];rfl
 | true=>
  refine Y4w ?_;refine(J0p b _ hb).q ?_;cases r2:Q0w b with
  | false=>
   refine Y4w ?_;rw[opI,if_neg (by simp[r2])];rfl
  | true=>
   refine Y4w ?_;refine(J1s p _).q ?_;cases r3:Z0c p with
   | false=>
    refine Y4w ?_;rw[opI,if_neg (by simp[r3])];rfl
   | true=>
    obtain⟨q,rfl,q1,q2,q3⟩:=K0c r3;obtain⟨a1,a2,_⟩:=Q0x r1;obtain⟨b1,b2,_⟩:=Q0x r2;have hm:opI 0 a b q=x0t (Z0p (loV 0 (ofN a.lo) (ofN a.hi) (ofN b.lo) (ofN b.hi)) q false) (Z0p (hiV 0 (ofN a.lo) (ofN a.hi) (ofN b.lo) (ofN b.hi)) q true):=(by rw[opI,if_pos ⟨r1,r2,r3⟩,q3]);rw[hm];have d1:=X0x a1;have d2:=X0x a2;have d3:=X0x b1;have d4:=X0x b2;refine Y4w ?_;refine W0q Z0b 110 [0,1,2,3,4,5,6,7,8,9,10,11] [12,13,14,15] [16,17,18,19] (.step 0 [] (.step 1 [] (.step 3 [] (.step 4 [] (.step 6 [] (.step 7 [] (.step 9 [] (.step 10 [] (.step 2 [4,7,10] (.step 5 [7,10] (.step 8 [10] (.step 11 [1] (.done))))))))))))) (.step 16 [4] (.step 17 [7] (.step 18 [] (.step 19 [] (.done))))) (by decide+kernel) (by simp) ?_;refine Y4w ?_;refine(of_c a.lo _ (K0a a1)).Q ?_;refine(of_c a.hi _ (K0a a2)).Q ?_;refine(of_c b.lo _ (K0a b1)).Q ?_;refine(of_c b.hi _ (K0a b2)).q ?_;generalize ofN a.lo=x at*
    generalize ofN a.hi=y at*
    generalize ofN b.lo=u at*
    generalize ofN b.hi=v at*
    refine Y4w ?_;rw[loV0,hiV0];refine Q0k Z0b 110 (X2p [0,1,3,5,6,8] (.step 2 [5,6] (.step 4 [5,6] (.step 7 [] (.step 9 [0,1] (X2p [10,11,12,13,14] .done)))))) (by decide+kernel) (by simp) ?_;refine Y4w ?_;refine(U1x _ _ _ (X0l d1 oG oG) (X0l d3 oG oG)).q ?_;have e1:=x0h d1 d3;refine Y4w ?_;refine(G0d _ q false _ (X0l e1 oG oG) oG).q ?_;have e2:=V0x e1 q false;refine Y4w ?_;refine(U1x _ _ _ (X0l d2 oG oG) (X0l d4 oG oG)).q ?_;have e3:=x0h d2 d4;refine Y4w ?_;refine(G0d _ q true _ (X0l e3 oG oG) oG).q ?_;have e4:=V0x e3 q true;refine Y4w ?_;refine(Z2c _ _ _ (X0w e2 oG) (X0w e4 oG)).Q0
theorem Q3b (a b:Ivl)(p:Int)(st:Q0f)(ha:wI a)(hb:wI b):PR 140 [.sc (.int .i64 1),.agg (encI a),.agg (encI b),.sc (.int .i64 p)] st (.tup [.agg (encI (opI 1 a b p).1),.sc (.int .i64 (opI 1 a b p).2)]):=by
 refine W4y Tryz.func140 fun E=> ?_;refine(J0p a _ ha).q ?_;cases r1:Q0w a with
 | false=>
  refine Y4w ?_;rw[opI,if_neg (by simp[r1])];rfl
 | true=>
  refine Y4w ?_;refine(J0p b _ hb).q ?_;cases r2:Q0w b with
  | false=>
   refine Y4w ?_;rw[opI,if_neg (by simp[r2])];rfl
  | true=>
   refine Y4w ?_;refine(J1s p _).q ?_;cases r3:Z0c p with
   | false=>
    refine Y4w ?_;rw[opI,if_neg (by simp[r3])];rfl
   | true=>
    obtain⟨q,rfl,q1,q2,q3⟩:=K0c r3;obtain⟨a1,a2,_⟩:=Q0x r1;obtain⟨b1,b2,_⟩:=Q0x r2;have hm:opI 1 a b q=x0t (Z0p (loV 1 (ofN a.lo) (ofN a.hi) (ofN b.lo) (ofN b.hi)) q false) (Z0p (hiV 1 (ofN a.lo) (ofN a.hi) (ofN b.lo) (ofN b.hi)) q true):=(by rw[opI,if_pos ⟨r1,r2,r3⟩,q3]);rw[hm];have d1:=X0x a1;have d2:=X0x a2;have d3:=X0x b1;have d4:=X0x b2;refine Y4w ?_;refine W0q Z0b 110 [0,1,2,3,4,5,6,7,8,9,10,11] [12,13,14,15] [16,17,18,19] (.step 0 [] (.step 1 [] (.step 3 [] (.step 4 [] (.step 6 [] (.step 7 [] (.step 9 [] (.step 10 [] (.step 2 [4,7,10] (.step 5 [7,10] (.step 8 [10] (.step 11 [1] (.done))))))))))))) (.step 16 [4] (.step 17 [7] (.step 18 [] (.step 19 [] (.done))))) (by decide+kernel) (by simp) ?_;refine Y4w ?_;refine(of_c a.lo _ (K0a a1)).Q ?_;refine(of_c a.hi _ (K0a a2)).Q ?_;refine(of_c b.lo _ (K0a b1)).Q ?_;refine(of_c b.hi _ (K0a b2)).q ?_;generalize ofN a.lo=x at*
    generalize ofN a.hi=y at*
    generalize ofN b.lo=u at*
    generalize ofN b.hi=v at*
    refine Y4w ?_;rw[loV1,hiV1];refine Q0k Z0b 110 (X2p [0,1,3,5,6,8] (.step 2 [5,6] (.step 4 [5,6] (.step 7 [] (.step 9 [0,1] (X2p [10,11,12,13,14] .done)))))) (by decide+kernel) (by simp) ?_;refine Y4w ?_;refine(K2c _ _ _ (X0l d1 oG oG) (X0l d4 oG oG)).q ?_;have e1:=z1x d1 d4;refine Y4w ?_;refine(G0d _ q false _ (X0l e1 oG oG) oG).q ?_;have e2:=V0x e1 q false;refine Y4w ?_;refine(K2c _ _ _ (X0l d2 oG oG) (X0l d3 oG oG)).q ?_;have e3:=z1x d2 d3;refine Y4w ?_;refine(G0d _ q true _ (X0l e3 oG oG) oG).q ?_;have e4:=V0x e3 q true;refine Y4w ?_;refine(Z2c _ _ _ (X0w e2 oG) (X0w e4 oG)).Q0
theorem Q3a (a b:Ivl)(p:Int)(st:Q0f)(ha:wI a)(hb:wI b):PR 140 [.sc (.int .i64 2),.agg (encI a),.agg (encI b),.sc (.int .i64 p)] st (.tup [.agg (encI (opI 2 a b p).1),.sc (.int .i64 (opI 2 a b p).2)]):=by
 refine W4y Tryz.func140 fun E=> ?_;refine(J0p a _ ha).q ?_;cases r1:Q0w a with
 | false=>
  refine Y4w ?_;rw[opI,if_neg (by simp[r1])];rfl
 | true=>
  refine Y4w ?_;refine(J0p b _ hb).q ?_;cases r2:Q0w b with
  | false=>
   refine Y4w ?_;rw[opI,if_neg (by simp[r2])];rfl
  | true=>
   refine Y4w ?_;refine(J1s p _).q ?_;cases r3:Z0c p with
   | false=>
    refine Y4w ?_;rw[opI,if_neg (by simp[r3])];rfl
   | true=>
    obtain⟨q,rfl,q1,q2,q3⟩:=K0c r3;obtain⟨a1,a2,_⟩:=Q0x r1;obtain⟨b1,b2,_⟩:=Q0x r2;have hm:opI 2 a b q=x0t (Z0p (loV 2 (ofN a.lo) (ofN a.hi) (ofN b.lo) (ofN b.hi)) q false) (Z0p (hiV 2 (ofN a.lo) (ofN a.hi) (ofN b.lo) (ofN b.hi)) q true):=(by rw[opI,if_pos ⟨r1,r2,r3⟩,q3]);rw[hm];have d1:=X0x a1;have d2:=X0x a2;have d3:=X0x b1;have d4:=X0x b2;refine Y4w ?_;refine W0q Z0b 110 [0,1,2,3,4,5,6,7,8,9,10,11] [12,13,14,15] [16,17,18,19] (.step 0 [] (.step 1 [] (.step 3 [] (.step 4 [] (.step 6 [] (.step 7 [] (.step 9 [] (.step 10 [] (.step 2 [4,7,10] (.step 5 [7,10] (.step 8 [10] (.step 11 [1] (.done))))))))))))) (.step 16 [4] (.step 17 [7] (.step 18 [] (.step 19 [] (.done))))) (by decide+kernel) (by simp) ?_;refine Y4w ?_;refine(of_c a.lo _ (K0a a1)).Q ?_;refine(of_c a.hi _ (K0a a2)).Q ?_;refine(of_c b.lo _ (K0a b1)).Q ?_;refine(of_c b.hi _ (K0a b2)).q ?_;generalize ofN a.lo=x at*
    generalize ofN a.hi=y at*
    generalize ofN b.lo=u at*
    generalize ofN b.hi=v at*
    refine Y4w ?_;refine W4u ?_;refine W0q Z0b 110 [0,1,2,3,4,5,6,7,8,9] [10,11] [12,13] (.step 0 [] (.step 1 [] (.step 2 [] (.step 3 [] (.step 5 [] (.step 6 [] (.step 7 [] (.step 8 [] (.step 4 [5,6,7,8] (.step 9 [] (.done))))))))))) (.step 12 [] (.step 13 [] (.done))) (by decide+kernel) (by simp) ?_;refine Y4w ?_;refine(K2d x y u v _ (d1.mono oG oG) (d2.mono oG oG) (d3.mono oG oG) (d4.mono oG oG)).Q ?_;refine(J3j x y u v _ (d1.mono oG oG) (d2.mono oG oG) (d3.mono oG oG) (d4.mono oG oG)).q ?_;have e1:=w1r d1 d2 d3 d4;have e3:=v2n d1 d2 d3 d4;have hl2:loV 2 x y u v=V0s x y u v:=rfl;have hh2:hiV 2 x y u v=H0g x y u v:=rfl;rw[hl2,hh2];generalize V0s x y u v=lo at*
    generalize H0g x y u v=hi at*
    refine Y4w ?_;refine Q0k Z0b 110 (X2p [0,1,3,4] (.step 2 [3] (X2p [5,6,7,8,9,10] .done))) (by decide+kernel) (by simp) ?_;refine Y4w ?_;refine(G0d _ q false _ (X0l e1 oG oG) oG).q ?_;have e2:=V0x e1 q false;refine Y4w ?_;refine(G0d _ q true _ (X0l e3 oG oG) oG).q ?_;have e4:=V0x e3 q true;refine Y4w ?_;refine(Z2c _ _ _ (X0w e2 oG) (X0w e4 oG)).Q0
theorem V3n (p:Int)(l:List Nm)(st:Q0f)(hl:l.length<=1000000)(hw: ∀i,i<l.length->wN (l.getD i default)):PR 306 [.sc (.int .i64 p),.sl .no (Q0u l)] st (.sc (.bool (!(l.all Q0h&&Z0c p)))):=by
 refine W4y Tryz.func306 fun E=> ?_;refine Q0e [true,true,false,false,false,true] 0 0 (fun n s=> ∃i,n=l.length-i/\i<=l.length/\(∀j,j<i->Q0h (l.getD j default)=true)/\s=⟨[.sc (.int .i64 p),.sl .no (Q0u l),.junk,.junk,.junk,.sc (.int .i64 (i:Nat))]++jk 18,[],[],st⟩) l.length ?_ ?_;refine Y4w ?_;exact⟨0,oG,oG,fun j hj=>oG,rfl⟩;rintro n s ⟨i,rfl,hi,hr,rfl⟩;refine W4z (fun h=> ?_) (fun h=> ?_);have hlt:i<l.length:=(oT h);have e1:=Z0k l i hlt;have e3:IntKind.i64.wrap ((i:Int)+1)=((i+1:Nat):Int):=(by rw[Q0q _ oG oG];omega);have w:=hw i hlt;simp-dsimp only[go_sem,e1];refine⟨⟨oG,hlt⟩,?_⟩;refine(K0o _ _ (by unfold wN at w;omega)).Q ?_;refine ck (fun h=> ?_) (fun h=> ?_);have hf:Q0h (l.getD i default)=false:=(by simpa using h);have ha:l.all Q0h=false:=by
  cases hb:l.all Q0h with
  | false=>rfl
  | true=>rw[(x0i default Q0h l).1 hb i hlt] at hf;cases hf
 refine Y4w ?_;rw[ha];rfl;have ht:Q0h (l.getD i default)=true:=(by simpa using h);simp-dsimp only[go_sem,e3];refine⟨l.length-(i+1),oG,i+1,rfl,oG,fun j hj=> ?_,rfl⟩;by_cases e:j=i;subst e;exact ht;exact hr j oG;have hge:i=l.length:=(oF h);have ha:l.all Q0h=true:=(x0i default Q0h l).2 fun j hj=>hr j oG;rw[ha];refine Y4w ?_;refine Q0a ?_;unfold Z0c;by_cases c1:p<8;have f1:decide (p<8)=true:=q_h c1;have f2:decide (8<=p)=false:=q_g oG;simp-dsimp only[go_sem,f1,f2]
 try rfl
 have f1:decide (p<8)=false:=q_g c1;have f2:decide (8<=p)=true:=q_h oG;have f3:decide (p>256)= !decide (p<=256):=by by_cases c:p<=256;rw[q_h c,q_g oG];rfl;rw[q_g c,q_h oG];rfl
 simp-dsimp only[go_sem,f1,f2,f3]
 try rfl
theorem j0h (a b:Nm)(p:Int)(up:Bool)(st:Q0f)(ha:wN a)(hb:wN b):PR 279 [.sc (.int .i64 0),.agg (encN a),.agg (encN b),.sc (.int .i64 p),.sc (.bool up)] st (.tup [.agg (encN (Q0t 0 a b p up).1),.sc (.int .i64 (Q0t 0 a b p up).2)]):=by
 refine Q0b none Tryz.func279 rfl fun E=>Q0a ?_;have e0: ∀x y:Nm,[PV.agg [.sc (.bool x.neg),.sc (.int .i64 x.exp),.sl .no (encW x.w)],.agg [.sc (.bool y.neg),.sc (.int .i64 y.exp),.sl .no (encW y.w)]]=Q0u [x,y]:=fun x y=>rfl;simp-dsimp only[go_sem,e0];refine(V3n p [a,b] _ (by simp) (fun i hi=>by
  match i,hi with
  | 0,_=>exact ha
  | 1,_=>exact hb)).mono ?_
 rintro r st ⟨rfl,rfl⟩;refine W4z (fun h=> ?_) (fun h=> ?_);refine Y4w ?_;rw[Q0t,if_neg (fun hh=>by simp[hh.1,hh.2.1,hh.2.2] at h)];rfl;have hv:Q0h a=true/\Q0h b=true/\Z0c p=true:=(by simpa[and_assoc] using h);obtain⟨r1,r2,r3⟩:=hv;obtain⟨q,rfl,q1,q2,q3⟩:=K0c r3;have hm:Q0t 0 a b q up=numV (Z0p (Y0n (ofN a) (ofN b)) q up):=(by rw[Q0t,if_pos ⟨r1,r2,r3⟩,q3];rfl);rw[hm];have d1:=X0x r1;have d2:=X0x r2;refine Y4w ?_;refine W0q Z0b 49 [0,1,2,3] [4,5] [6,7] (.step 0 [] (.step 2 [] (.step 1 [2] (.step 3 [] (.done))))) (.step 6 [] (.step 7 [] (.done))) (by decide+kernel) (by simp) ?_;refine Y4w ?_;refine(of_c a _ (K0a r1)).Q ?_;refine(of_c b _ (K0a r2)).q ?_;generalize ofN a=x at*
 generalize ofN b=y at*
 refine Y4w ?_;refine(U2a x y _ (X0l d1 oG oG) (X0l d2 oG oG)).q ?_;have e1:=x0h d1 d2;refine Y4w ?_;refine(G0d _ q up _ (X0l e1 oG oG) oG).q ?_;have e2:=V0x e1 q up;refine Y4w ?_;refine(v0d _ _ (X0w e2 oG)).Q0
theorem j0g (a b:Nm)(p:Int)(up:Bool)(st:Q0f)(ha:wN a)(hb:wN b):PR 279 [.sc (.int .i64 1),.agg (encN a),.agg (encN b),.sc (.int .i64 p),.sc (.bool up)] st (.tup [.agg (encN (Q0t 1 a b p up).1),.sc (.int .i64 (Q0t 1 a b p up).2)]):=by
 refine Q0b none Tryz.func279 rfl fun E=>Q0a ?_;have e0: ∀x y:Nm,[PV.agg [.sc (.bool x.neg),.sc (.int .i64 x.exp),.sl .no (encW x.w)],.agg [.sc (.bool y.neg),.sc (.int .i64 y.exp),.sl .no (encW y.w)]]=Q0u [x,y]:=fun x y=>rfl;simp-dsimp only[go_sem,e0];refine(V3n p [a,b] _ (by simp) (fun i hi=>by
  match i,hi with
  | 0,_=>exact ha
  | 1,_=>exact hb)).mono ?_
 rintro r st ⟨rfl,rfl⟩;refine W4z (fun h=> ?_) (fun h=> ?_);refine Y4w ?_;rw[Q0t,if_neg (fun hh=>by simp[hh.1,hh.2.1,hh.2.2] at h)];rfl;have hv:Q0h a=true/\Q0h b=true/\Z0c p=true:=(by simpa[and_assoc] using h);obtain⟨r1,r2,r3⟩:=hv;obtain⟨q,rfl,q1,q2,q3⟩:=K0c r3;have hm:Q0t 1 a b q up=numV (Z0p (z0e (ofN a) (ofN b)) q up):=(by rw[Q0t,if_pos ⟨r1,r2,r3⟩,q3];rfl);rw[hm];have d1:=X0x r1;have d2:=X0x r2;refine Y4w ?_;refine W0q Z0b 49 [0,1,2,3] [4,5] [6,7] (.step 0 [] (.step 2 [] (.step 1 [2] (.step 3 [] (.done))))) (.step 6 [] (.step 7 [] (.done))) (by decide+kernel) (by simp) ?_;refine Y4w ?_;refine(of_c a _ (K0a r1)).Q ?_;refine(of_c b _ (K0a r2)).q ?_;generalize ofN a=x at*
 generalize ofN b=y at*
 refine Y4w ?_;refine(Q2y x y _ (X0l d1 oG oG) (X0l d2 oG oG)).q ?_;have e1:=z1x d1 d2;refine Y4w ?_;refine(G0d _ q up _ (X0l e1 oG oG) oG).q ?_;have e2:=V0x e1 q up;refine Y4w ?_;refine(v0d _ _ (X0w e2 oG)).Q0
theorem j0f (a b:Nm)(p:Int)(up:Bool)(st:Q0f)(ha:wN a)(hb:wN b):PR 279 [.sc (.int .i64 2),.agg (encN a),.agg (encN b),.sc (.int .i64 p),.sc (.bool up)] st (.tup [.agg (encN (Q0t 2 a b p up).1),.sc (.int .i64 (Q0t 2 a b p up).2)]):=by
 refine Q0b none Tryz.func279 rfl fun E=>Q0a ?_;have e0: ∀x y:Nm,[PV.agg [.sc (.bool x.neg),.sc (.int .i64 x.exp),.sl .no (encW x.w)],.agg [.sc (.bool y.neg),.sc (.int .i64 y.exp),.sl .no (encW y.w)]]=Q0u [x,y]:=fun x y=>rfl;simp-dsimp only[go_sem,e0];refine(V3n p [a,b] _ (by simp) (fun i hi=>by
  match i,hi with
  | 0,_=>exact ha
  | 1,_=>exact hb)).mono ?_
 rintro r st ⟨rfl,rfl⟩;refine W4z (fun h=> ?_) (fun h=> ?_);refine Y4w ?_;rw[Q0t,if_neg (fun hh=>by simp[hh.1,hh.2.1,hh.2.2] at h)];rfl;have hv:Q0h a=true/\Q0h b=true/\Z0c p=true:=(by simpa[and_assoc] using h);obtain⟨r1,r2,r3⟩:=hv;obtain⟨q,rfl,q1,q2,q3⟩:=K0c r3;have hm:Q0t 2 a b q up=numV (Z0p (byV (ofN a) (ofN b)) q up):=(by rw[Q0t,if_pos ⟨r1,r2,r3⟩,q3];rfl);rw[hm];have d1:=X0x r1;have d2:=X0x r2;refine Y4w ?_;refine W0q Z0b 49 [0,1,2,3] [4,5] [6,7] (.step 0 [] (.step 2 [] (.step 1 [2] (.step 3 [] (.done))))) (.step 6 [] (.step 7 [] (.done))) (by decide+kernel) (by simp) ?_;refine Y4w ?_;refine(of_c a _ (K0a r1)).Q ?_;refine(of_c b _ (K0a r2)).q ?_;generalize ofN a=x at*
 generalize ofN b=y at*
 refine Y4w ?_;refine(Q2x x y _ (X0l d1 oG oG) (X0l d2 oG oG)).q ?_;have e1:=H1d d1 d2;refine Y4w ?_;refine(G0d _ q up _ (X0l e1 oG oG) oG).q ?_;have e2:=V0x e1 q up;refine Y4w ?_;refine(v0d _ _ (X0w e2 oG)).Q0
theorem W2q (x:Nm)(k:Int)(st:Q0f)(hx:wN x):PR 276 [.agg (encN x),.sc (.int .i64 k)] st (.tup [.agg (encN (Y0x x k).1),.sc (.int .i64 (Y0x x k).2)]):=by
 unfold wN at hx;refine W4y Tryz.func276 fun E=> ?_;refine(K0o x _ oG).q ?_;cases r1:Q0h x with
 | false=>
  refine Y4w ?_;rw[Y0x,if_neg (by rw[r1];simp)];rfl
 | true=>
  rw[Y0x,if_pos r1];refine W4z (fun h=> ?_) (fun h=> ?_);have h0:x.w= []:=List.length_eq_zero_iff.1 (Y0o (b:=0) h);refine Y4w ?_;rw[if_pos h0];have h0:x.w≠ []:=fun e=>(by rw[e] at h;cases h);have hb:=X0a r1;have b2:=hb.2.1;have b3:=hb.2.2;rw[if_neg h0];by_cases c1:131072<k;have f1:decide (k>131072)=true:=q_h c1;simp-dsimp only[go_sem,f1];rw[if_pos (.inr c1)];rfl;have f1:decide (k>131072)=false:=q_g c1;by_cases c2:k< -131072;have f2:decide (k< -131072)=true:=q_h c2;simp-dsimp only[go_sem,f1,f2];rw[if_pos (.inl c2)];rfl;have f2:decide (k< -131072)=false:=q_g c2;have x1:IntKind.i64.wrap (x.exp+k)=x.exp+k:=Q0q _ oG oG;rw[if_neg oG];simp-dsimp only[go_sem,f1,f2];refine Q0k Z0b 35 (X2p [0,1,2,3,5,6,7,8] (.step 4 [1,6] (X2p [9,10,11,12,13,14] .done))) (by decide+kernel) (by simp) ?_;simp-dsimp only[go_sem,x1];refine(k1b x.w _ oG).q ?_;simp-dsimp only[go_sem,x1];have hd:=X0w (X0x r1) oG;refine(v0d ⟨x.neg,valW x.w,x.exp+k⟩ _ hd).Q0
theorem Q3e (a:Ivl)(x:Nm)(st:Q0f)(ha:wI a)(hx:wN x):PR 111 [.agg (encI a),.agg (encN x)] st (.sc (.bool (hasI a x))):=by
 refine Q0b none Tryz.func111 rfl fun E=>Q0a ?_;unfold hasI;refine Y4w ?_;refine(J0p a _ ha).q ?_;cases r1:Q0w a with
 | false=>simp-dsimp only[go_sem];try rfl
 | true=>
  refine Y4w ?_;refine(K0o x _ (by unfold wN at hx;omega)).q ?_;cases r2:Q0h x with
  | false=>simp-dsimp only[go_sem];try rfl
  | true=>
   have a1:=(Q0x r1).1;have a2:=(Q0x r1).2.1;have e1:cmpR a.lo x=cmpN a.lo x:=if_pos ⟨a1,r2⟩;have e2:cmpR x a.hi=cmpN x a.hi:=if_pos ⟨r2,a2⟩;refine Y4w ?_;refine(q0g a.lo x _ (K0a a1) (K0a r2)).q ?_;rw[e1];cases c1:decide (cmpN a.lo x<=0) with
   | false=>simp-dsimp only[go_sem,c1];try rfl
   | true=>
    simp-dsimp only[go_sem,c1];refine(q0g x a.hi _ (K0a r2) (K0a a2)).q ?_;rw[e2];simp-dsimp only[go_sem,c1]
    try rfl
theorem U0n (p:Int)(st:Q0f):PR 209 [.sc (.int .i64 p)] st (.sc (.bool (Z0c p))):=by
 refine Q0b none Tryz.func209 rfl fun E=>Q0a ?_;unfold Z0c;by_cases h:8<=p;have f1:decide (p>=8)=true:=q_h h;have f2:decide (8<=p)=true:=q_h h;simp-dsimp only[go_sem,f1,f2]
 try simp
 have f1:decide (p>=8)=false:=q_g h;have f2:decide (8<=p)=false:=q_g h;simp-dsimp only[go_sem,f1,f2]
 try simp
theorem J1t (q:List Nm)(st:Q0f)(hq:wNs q):PR 170 [.sl .no (Q0u q)] st (.sl (.fresh 6) (Q0z (ofB q))):=by
 obtain⟨hl,hw⟩:=hq;refine W4y Tryz.func170 fun E=> ?_;refine Z0d 3 6 ?_;refine Y4w ?_;refine Q0e [true,false,false,true,true] 0 1
  (fun n s=> ∃i,n=q.length-i/\i<=q.length/\s=⟨[.sl .no (Q0u q),.junk,.junk,.sl (.own 0) (Q0z (ofB (q.take i))),.sc (.int .i64 (i:Nat))]++jk 15,[],[((ofB (q.take i)).length,6)],st⟩) q.length ?_ ?_
 refine Y4w ?_;exact⟨0,oG,oG,rfl⟩;rintro n s ⟨i,rfl,hi,rfl⟩;refine W4z (fun h'=> ?_) (fun h'=> ?_);have hlt:i<q.length:=(by have:=q_b h';omega);have e1:=Z0k q i hlt;have e3:IntKind.i64.wrap ((i:Int)+1)=((i+1:Nat):Int):=(by rw[Q0q _ oG oG];omega);have ll:(ofB (q.take i)).length=i:=(by simp[ofB];omega);simp-dsimp only[go_sem,e1];refine⟨⟨oG,hlt⟩,?_⟩;refine(q2l _ _).q ?_;simp-dsimp only[go_sem,e3];refine⟨⟨oG,oG⟩,q.length-(i+1),oG,i+1,rfl,oG,?_⟩;rw[q1l q i hlt];simp[Q0z,encI];have hge:i=q.length:=(by have:=q_c h';omega);refine Y4w ?_;refine W4u ?_;rw[hge,List.take_length]
theorem J2m (a b:List Ivl)(p:Int)(st:Q0f)(ha:wB a)(hb:wB b):PR 169 [.sc (.int .i64 0),.sl .no (Q0z a),.sl .no (Q0z b),.sc (.int .i64 p)] st (.tup [.sl .no (Q0z (opB 0 a b p).1),.sc (.int .i64 (opB 0 a b p).2)]):=by
 refine W4y Tryz.func169 fun E=> ?_;refine(V0z a _ ha).q ?_;cases r1:rightB a with
 | false=>
  refine Y4w ?_;rw[opB,if_neg (by simp[r1])];rfl
 | true=>
  refine Y4w ?_;refine(V0z b _ hb).q ?_;cases r2:rightB b with
  | false=>
   refine Y4w ?_;rw[opB,if_neg (by simp[r2])];rfl
  | true=>
   by_cases hl:a.length=b.length
   . have f1:((a.length:Int) !=(b.length:Int))=false:=by rw[hl];simp
     simp-dsimp only[go_sem,f1];refine(U0n p _).q ?_;cases r3:Z0c p with
     | false=>
      simp-dsimp only[go_sem,f1];rw[opB,if_neg (by simp[r3])];rfl
     | true=>
      have hla:=ha.1;have hab:opB 0 a b p=V0g (fun i x=>opI 0 x (b.getD i default) p) 0 a []:=if_pos ⟨r1,r2,hl,r3⟩;rw[hab];simp-dsimp only[go_sem,f1];refine Z0d 10 6 ?_;refine Y4w ?_;refine Q0e [true,true,true,true,false,false,false,false,false,false,true,true] 0 1 (fun n s=> ∃i o,n=a.length-i/\i<=a.length/\o.length=i/\V0g (fun i x=>opI 0 x (b.getD i default) p) 0 a []=V0g (fun i x=>opI 0 x (b.getD i default) p) i (a.drop i) o/\s=⟨[.sc (.int .i64 0),.sl .no (Q0z a),.sl .no (Q0z b),.sc (.int .i64 p),.junk,.junk,.junk,.junk,.junk,.junk,.sl (.own 0) (Q0z o),.sc (.int .i64 (i:Nat))]++jk 50,[],[(o.length,6)],st⟩) a.length ?_ ?_;refine Y4w ?_;exact⟨0,[],oG,oG,rfl,rfl,rfl⟩
      . rintro n s ⟨i,o,rfl,hi,ho,hr,rfl⟩;refine W4z (fun h'=> ?_) (fun h'=> ?_)
        . have hlt:i<a.length:=by have:=q_b h';omega
          have e1:=Z0q a i hlt;have e2:=Z0q b i oG;have e3:IntKind.i64.wrap ((i:Int)+1)=((i+1:Nat):Int):=(by rw[Q0q _ oG oG];omega);have e4:=z0k (fun i x=>opI 0 x (b.getD i default) p) a i o hlt;refine Y4w ?_;refine Q0k Z0b 62 (X2p [0,1,2,3,4,5,6,7,8,9] (.alt (X2p [10,11,12,13] (.step 14 [4,8] (.step 15 [] (.step 16 [] (.done))))) (.step 14 [4,8] (X2p [10,11,12,13,15,16] .done)))) (by decide+kernel) (by simp) ?_;simp-dsimp only[go_sem,e1,e2];refine⟨⟨oG,oG⟩,⟨oG,oG⟩,?_,?_⟩
          all_goals
           refine(X2y _ _ p _ (ha.2 i hlt) (hb.2 i oG)).q ?_;simp-dsimp only[go_sem,e1,e2];refine ck (fun h2=> ?_) (fun h2=> ?_);have hne:=W0k h2;refine Y4w ?_;rw[hr,e4,if_pos hne];rfl;have he:=W0y h2;simp-dsimp only[go_sem,e3];refine⟨oG,a.length-(i+1),oG,i+1,o++ [(opI 0 (a.getD i default) (b.getD i default) p).1],rfl,oG,by simp[ho],?_,?_⟩;rw[hr,e4,if_neg (fun hh=>hh he)];simp[Q0z,encI]
        have hge:i=a.length:=by have:=q_c h';omega
        refine Y4w ?_;refine W4u ?_;rw[hr,hge,List.drop_length];rfl
   have f1:((a.length:Int) !=(b.length:Int))=true:=by rw[bne_iff_ne];omega
   simp-dsimp only[go_sem,f1];rw[opB,if_neg (fun h=>hl h.2.2.1)];rfl
theorem q1j (a b:List Ivl)(p:Int)(st:Q0f)(ha:wB a)(hb:wB b):PR 169 [.sc (.int .i64 1),.sl .no (Q0z a),.sl .no (Q0z b),.sc (.int .i64 p)] st (.tup [.sl .no (Q0z (opB 1 a b p).1),.sc (.int .i64 (opB 1 a b p).2)]):=by
 refine W4y Tryz.func169 fun E=> ?_;refine(V0z a _ ha).q ?_;cases r1:rightB a with
 | false=>
  refine Y4w ?_;rw[opB,if_neg (by simp[r1])];rfl
 | true=>
  refine Y4w ?_;refine(V0z b _ hb).q ?_;cases r2:rightB b with
  | false=>
   refine Y4w ?_;rw[opB,if_neg (by simp[r2])];rfl
  | true=>
   by_cases hl:a.length=b.length
   . have f1:((a.length:Int) !=(b.length:Int))=false:=by rw[hl];simp
     simp-dsimp only[go_sem,f1];refine(U0n p _).q ?_;cases r3:Z0c p with
     | false=>
      simp-dsimp only[go_sem,f1];rw[opB,if_neg (by simp[r3])];rfl
     | true=>
      have hla:=ha.1;have hab:opB 1 a b p=V0g (fun i x=>opI 1 x (b.getD i default) p) 0 a []:=if_pos ⟨r1,r2,hl,r3⟩;rw[hab];simp-dsimp only[go_sem,f1];refine Z0d 10 6 ?_;refine Y4w ?_;refine Q0e [true,true,true,true,false,false,false,false,false,false,true,true] 0 1 (fun n s=> ∃i o,n=a.length-i/\i<=a.length/\o.length=i/\V0g (fun i x=>opI 1 x (b.getD i default) p) 0 a []=V0g (fun i x=>opI 1 x (b.getD i default) p) i (a.drop i) o/\s=⟨[.sc (.int .i64 1),.sl .no (Q0z a),.sl .no (Q0z b),.sc (.int .i64 p),.junk,.junk,.junk,.junk,.junk,.junk,.sl (.own 0) (Q0z o),.sc (.int .i64 (i:Nat))]++jk 50,[],[(o.length,6)],st⟩) a.length ?_ ?_;refine Y4w ?_;exact⟨0,[],oG,oG,rfl,rfl,rfl⟩
      . rintro n s ⟨i,o,rfl,hi,ho,hr,rfl⟩;refine W4z (fun h'=> ?_) (fun h'=> ?_)
        . have hlt:i<a.length:=by have:=q_b h';omega
          have e1:=Z0q a i hlt;have e2:=Z0q b i oG;have e3:IntKind.i64.wrap ((i:Int)+1)=((i+1:Nat):Int):=(by rw[Q0q _ oG oG];omega);have e4:=z0k (fun i x=>opI 1 x (b.getD i default) p) a i o hlt;refine Y4w ?_;refine Q0k Z0b 62 (X2p [0,1,2,3,4,5,6,7,8,9] (.alt (X2p [10,11,12,13] (.step 14 [4,8] (.step 15 [] (.step 16 [] (.done))))) (.step 14 [4,8] (X2p [10,11,12,13,15,16] .done)))) (by decide+kernel) (by simp) ?_;simp-dsimp only[go_sem,e1,e2];refine⟨⟨oG,oG⟩,⟨oG,oG⟩,?_,?_⟩
          all_goals
           refine(Q3b _ _ p _ (ha.2 i hlt) (hb.2 i oG)).q ?_;simp-dsimp only[go_sem,e1,e2];refine ck (fun h2=> ?_) (fun h2=> ?_);have hne:=W0k h2;refine Y4w ?_;rw[hr,e4,if_pos hne];rfl;have he:=W0y h2;simp-dsimp only[go_sem,e3];refine⟨oG,a.length-(i+1),oG,i+1,o++ [(opI 1 (a.getD i default) (b.getD i default) p).1],rfl,oG,by simp[ho],?_,?_⟩;rw[hr,e4,if_neg (fun hh=>hh he)];simp[Q0z,encI]
        have hge:i=a.length:=by have:=q_c h';omega
        refine Y4w ?_;refine W4u ?_;rw[hr,hge,List.drop_length];rfl
   have f1:((a.length:Int) !=(b.length:Int))=true:=by rw[bne_iff_ne];omega
   simp-dsimp only[go_sem,f1];rw[opB,if_neg (fun h=>hl h.2.2.1)];rfl
theorem q1q (b:List Ivl)(p:Int)(st:Q0f)(hb:wB b):PR 171 [.sl .no (Q0z b),.sc (.int .i64 p)] st (.tup [.sl .no (Q0u (midB b p).1),.sc (.int .i64 (midB b p).2)]):=by
 refine W4y Tryz.func171 fun E=> ?_;refine(V0z b _ hb).q ?_;cases r1:rightB b with
 | false=>
  refine Y4w ?_;rw[midB,if_neg (by simp[r1])];rfl
 | true=>
  refine Y4w ?_;refine(U0n p _).q ?_;cases r3:Z0c p with
  | false=>
   refine Y4w ?_;rw[midB,if_neg (by simp[r3])];rfl
  | true=>
   have hla:=hb.1;have hab:midB b p=V0g (fun _ a=>midI a p) 0 b []:=if_pos ⟨r1,r3⟩;rw[hab];refine Y4w ?_;refine Z0d 6 3 ?_;refine Y4w ?_;refine Q0e [true,true,false,false,false,false,true,true] 0 1 (fun n s=> ∃i o,n=b.length-i/\i<=b.length/\o.length=i/\V0g (fun _ a=>midI a p) 0 b []=V0g (fun _ a=>midI a p) i (b.drop i) o/\s=⟨[.sl .no (Q0z b),.sc (.int .i64 p),.junk,.junk,.junk,.junk,.sl (.own 0) (Q0u o),.sc (.int .i64 (i:Nat))]++jk 33,[],[(o.length,3)],st⟩) b.length ?_ ?_;refine Y4w ?_;exact⟨0,[],oG,oG,rfl,rfl,rfl⟩;rintro n s ⟨i,o,rfl,hi,ho,hr,rfl⟩;refine W4z (fun h'=> ?_) (fun h'=> ?_);have hlt:i<b.length:=(by have:=q_b h';omega);have e1:=Z0q b i hlt;have e3:IntKind.i64.wrap ((i:Int)+1)=((i+1:Nat):Int):=(by rw[Q0q _ oG oG];omega);have e4:=z0k (fun _ a=>midI a p) b i o hlt;simp-dsimp only[go_sem,e1];refine⟨⟨oG,oG⟩,?_⟩;refine(Q3d _ p _ (hb.2 i hlt)).q ?_;simp-dsimp only[go_sem,e1];refine ck (fun h2=> ?_) (fun h2=> ?_);have hne:=W0k h2;refine Y4w ?_;rw[hr,e4,if_pos hne];rfl;have he:=W0y h2;simp-dsimp only[go_sem,e3];refine⟨oG,b.length-(i+1),oG,i+1,o++ [(midI (b.getD i default) p).1],rfl,oG,by simp[ho],?_,?_⟩;rw[hr,e4,if_neg (fun hh=>hh he)];simp[Q0u,encN];have hge:i=b.length:=(by have:=q_c h';omega);refine Y4w ?_;refine W4u ?_;rw[hr,hge,List.drop_length];rfl
theorem v1o {α β:Type}(F:Nat->α->β×Int)(P:β->Prop)(hp: ∀i x,x∈([]:List α)\/P (F i x).1): ∀(l:List α) (i:Nat) (acc:List β),(∀y,y∈acc->P y)->(∀y,y∈(V0g F i l acc).1->P y)/\(V0g F i l acc).1.length<=acc.length+l.length
 | [],i,acc,h=>⟨h,by simp[V0g]⟩
 | x::l,i,acc,h=>by unfold V0g;split;exact⟨fun y hy=>by simp at hy,by simp⟩;obtain⟨h1,h2⟩:=v1o F P hp l (i+1) (acc++ [(F i x).1]) (fun y hy=>by rcases List.mem_append.1 hy with h3 | h3;exact h y h3;rw[List.mem_singleton.1 h3];rcases hp i x with h4 | h4;simp at h4;exact h4);exact⟨h1,by simp at h2⊢;omega⟩
theorem j2y (F:Nat->Ivl->Nm×Int)(hF: ∀i x,wN (F i x).1)(l:List Ivl)(hl:l.length<=100000000000):wNs (V0g F 0 l []).1:=by obtain⟨h1,h2⟩:=v1o F wN (fun i x=> .inr (hF i x)) l 0 [] (fun y hy=>by simp at hy);exact⟨by simp at h2;omega,fun i hi=>h1 _ (Q0r _ i default hi)⟩
theorem U3k :wNs []:=⟨by simp,fun i hi=>by simp at hi⟩
theorem H1i (b:List Ivl)(p:Int)(hb:wB b):wNs (midB b p).1:=by unfold midB;split;exact j2y _ (fun i x=>x0q (Z0n (Z1w _ _))) b hb.1;exact U3k
def k1 :Nm:=⟨false,0,[1]⟩
def k2 :Nm:=⟨false,1,[1]⟩
def k4 :Nm:=⟨false,2,[1]⟩
theorem Y1r {P:Program}{ops l m:List Oper}{x:Oper}{K:PFS->Prop}{s:PFS} :OL P ops (List.append (x::l) m) K s=OL P ops (x::List.append l m) K s:=rfl
theorem w0m {P:Program}{ops m:List Oper}{K:PFS->Prop}{s:PFS} :OL P ops (List.append [] m) K s=OL P ops m K s:=rfl
theorem Z0x (i:Nat)(h:i<100000000000000):IntKind.i64.wrap ((i:Int)+1)=((i+1:Nat):Int):=by rw[Q0q _ oG oG];omega
theorem k3z (l:List UInt64)(i k:Nat)(st:Q0f)(h:atD st k l i)(hi:i<=1000000000):PCalls Tryz.prog 17 [.gp k 0] st
 (fun r st'=> ∃(p j:Nat),8<=p/\p<=256/\i<=j/\j<=i+2/\r= .sc (.int .i64 p)/\st'=st.set k (dk l j)):=by
 refine W4y Tryz.func17 fun E=> ?_;refine(Y1a l i k 6 st h oG oG oG).w ?_;rintro st' rfl;refine W4z (fun h1=> ?_) (fun h1=> ?_);refine Y4w ?_;exact⟨8,i+1,oG,oG,oG,oG,rfl,rfl⟩;refine W4z (fun h2=> ?_) (fun h2=> ?_);refine Y4w ?_;exact⟨256,i+1,oG,oG,oG,oG,rfl,rfl⟩;refine Y4w ?_;refine(Y1a l (i+1) k 60 _ (h.set (i+1)) oG oG oG).w ?_;rintro st' rfl;have n1:=Z3e l (i+1) (n:=60) oG;have x1:IntKind.i64.wrap (12+(nx l (i+1) 60:Int))=((12+nx l (i+1) 60:Nat):Int):=(by rw[show(12+(nx l (i+1) 60:Int))=((12+nx l (i+1) 60:Nat):Int) from oG,Q0n _ oG]);simp-dsimp only[go_sem,q0w,x1];exact⟨12+nx l (i+1) 60,i+2,oG,oG,oG,oG,rfl,rfl⟩
set_option maxHeartbeats 4000000 in
theorem K3t (l:List UInt64)(i k:Nat)(a:Ivl)(st:Q0f)(h:atD st k l i)(hi:i<=1000000000)(ha:Q0w a=true):PCalls Tryz.prog 77 [.gp k 0,.agg (encI a)] st
 (fun r st'=>r= .agg (encN (inN a (nx l i 9)))/\st'=st.set k (dk l (i+1))):=by
 have hlt:=Z3e l i (n:=9) oG;obtain⟨a1,a2,_⟩:=Q0x ha;have d1:=X0x a1;have d2:=X0x a2;refine W4y Tryz.func77 fun E=> ?_;refine(Y1a l i k 9 st h oG oG oG).w ?_;rintro st' rfl;generalize nx l i 9=n at*
 unfold inN;have x0:IntKind.i64.wrap (n:Int)=(n:Int):=Q0n _ oG;simp-dsimp only[go_sem,x0];refine ck (fun h1=> ?_) (fun h1=> ?_);have h0:n=0:=Y0o (b:=0) h1;rw[if_pos h0];exact Y4v
 . have h0:n≠0:=H0z (b:=0) h1;rw[if_neg h0];refine W4z (fun h2=> ?_) (fun h2=> ?_);have h8:n=8:=Y0o (b:=8) h2;rw[if_pos h8];exact Y4v
   . have h8:n≠8:=H0z (b:=8) h2;rw[if_neg h8];have x1:IntKind.i64.wrap (8-(n:Int))=((8-n:Nat):Int):=(by rw[show 8-(n:Int)=((8-n:Nat):Int) from oG,Q0n _ oG]);have w1:=w1q (k:=8-n) oG;have w2:=w1q (k:=n) oG;have b1:=H1d d1 w1;have b2:=H1d d2 w2;have b3:=x0h b1 b2;have b4:=U2i b3;have hin:inV a n=H0j (Y0n (byV (ofN a.lo) (oddV false (8-n) 0)) (byV (ofN a.hi) (oddV false n 0))):=rfl;rw[hin];refine Y4w ?_;refine W0q Z0b 50 [0,1,2,3,4,5,6,7,8,9,10,11,12,13] [14] [15] (.step 0 [] (.step 1 [] (.step 3 [] (.step 4 [] (.step 7 [] (.step 8 [] (.step 10 [] (.step 2 [8] (.step 5 [8] (.step 6 [8] (.step 9 [] (.step 11 [1] (.step 12 [1] (.step 13 [] (.done))))))))))))))) (.step 15 [] (.done)) (by decide+kernel) (by simp) ?_;simp-dsimp only[go_sem,x1];refine(of_c a.lo _ (K0a a1)).w ?_;rintro st' rfl;simp-dsimp only[go_sem,x1];refine(U2x (8-n) _ oG).w ?_;rintro st' rfl;simp-dsimp only[go_sem,x1];refine(by_c _ _ _ (X0l d1 oG oG) (X0l w1 oG oG)).w ?_;rintro st' rfl;refine Y4w ?_;refine(of_c a.hi _ (K0a a2)).w ?_;rintro st' rfl;refine Y4w ?_;refine(U2x n _ oG).w ?_;rintro st' rfl;refine Y4w ?_;refine(by_c _ _ _ (X0l d2 oG oG) (X0l w2 oG oG)).w ?_;rintro st' rfl;refine Y4w ?_;refine(U1x _ _ _ (X0l b1 oG oG) (X0l b2 oG oG)).w ?_;rintro st' rfl;generalize Y0n (byV (ofN a.lo) (oddV false (8-n) 0)) (byV (ofN a.hi) (oddV false n 0))=v at*
     have x2:IntKind.i64.wrap (v.e-3)=v.e-3:=Q0q _ (by have:=b3.2.1;omega) (by have:=b3.2.2;omega);refine Y4w ?_;refine(q0k v _).w ?_;rintro st' rfl;refine W4z (fun h3=> ?_) (fun h3=> ?_)
     case' refine_1=>
      have hz:=W0k h3;have he:H0j v= { v with e:=v.e-3 } :=if_pos hz;rw[he] at b4⊢;generalize hzz:({ v with e:=v.e-3 } :Vl)=z at*
      have z1:v.neg=z.neg:=(by rw[<-hzz]);have z2:v.m=z.m:=(by rw[<-hzz]);have z3:v.e-3=z.e:=(by rw[<-hzz]);simp-dsimp only[go_sem,x2];rw[z1,z2,z3]
     case' refine_2=>
      have hz:=W0y h3;have he:H0j v=v:=if_neg (fun e=>e hz);rw[he] at b4⊢;generalize v=z at*
      simp-dsimp only[go_sem]
     all_goals
      refine(v0d z _ (X0w b4 oG)).w ?_;rintro st' rfl;refine W4z (fun h4=> ?_) (fun h4=> ?_);have hne:=W0k h4;rw[if_pos hne];exact Y4v;have hne:=W0y h4;rw[if_neg (fun e=>e hne)];exact Y4v
theorem J3d (l:List UInt64)(i k:Nat)(b:List Ivl)(st:Q0f)(h:atD st k l i)(hi:i<=100000000)(hl:b.length<=1000000)(hb: ∀j,j<b.length->Q0w (b.getD j default)=true):PCalls Tryz.prog 21 [.gp k 0,.sl .no (Q0z b)] st
 (fun r st'=> ∃q,q.length=b.length/\(∀j,j<b.length-> ∃n,n<=8/\q.getD j default=inN (b.getD j default) n)/\r= .sl .no (Q0u q)/\st'=st.set k (dk l (i+b.length))):=by
 refine W4y Tryz.func21 fun E=> ?_;refine Z0d 5 3 ?_;refine Y4w ?_;refine Q0e [true,true,false,false,false,true,true] 0 1 (fun m s=> ∃q,m=b.length-q.length/\q.length<=b.length/\(∀j,j<q.length-> ∃n,n<=8/\q.getD j default=inN (b.getD j default) n)/\
  s=⟨[.gp k 0,.sl .no (Q0z b),.junk,.junk,.junk,.sl (.own 0) (Q0u q),.sc (.int .i64 (q.length:Nat))]++jk 16,[],[(q.length,3)],st.set k (dk l (i+q.length))⟩) b.length ?_ ?_
 refine Y4w ?_;refine⟨[],by simp,by simp,(fun j hj=>by simp at hj),?_⟩;show _=PFS.mk _ _ _ (st.set k (dk l i));rw[h.same];rfl;rintro m s ⟨q,rfl,hq,hr,rfl⟩;refine W4z (fun h1=> ?_) (fun h1=> ?_);have hlt:q.length<b.length:=(oT h1);have e1:=Z0q b q.length hlt;have x1:IntKind.i64.wrap ((q.length:Int)+1)=((q.length+1:Nat):Int):=(by rw[show((q.length:Int)+1)=((q.length+1:Nat):Int) from rfl,Q0n _ oG]);have n1:=Z3e l (i+q.length) (n:=9) oG;simp-dsimp only[go_sem,e1];refine⟨⟨oG,hlt⟩,?_⟩;refine(K3t l (i+q.length) k _ _ (h.set (i+q.length)) oG (hb _ hlt)).w ?_;rintro st' rfl;simp-dsimp only[go_sem,q0w,x1];refine⟨oG,b.length-(q.length+1),oG,q++ [inN (b.getD q.length default) (nx l (i+q.length) 9)],by simp,by simp;omega,fun j hj=> ?_,by simp[Q0u,encN,Nat.add_assoc]⟩;by_cases hj2:j<q.length;rw[x1t _ _ _ _ hj2];exact hr j hj2;have e:j=q.length:=(by simp at hj;omega);rw[e,X1s];exact⟨_,oG,rfl⟩;have hge:q.length=b.length:=(oF h1);refine Y4w ?_;refine K0w [false,false,false,false,false,true] (Q0a ?_);refine Y4w ?_;exact⟨q,hge,fun j hj=>hr j oG,rfl,by rw[hge]⟩
theorem G2b {b:List Ivl}(h:wB b)(n:Nat):wB (b.take n):=⟨by have:=h.1;simp;omega,fun i hi=>by simp at hi;rw[Y2v _ _ _ _ oG];exact h.2 i oG⟩
end Go.Pv
end
