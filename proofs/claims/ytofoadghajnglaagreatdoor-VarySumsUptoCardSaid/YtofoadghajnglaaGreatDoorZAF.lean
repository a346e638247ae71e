/- Parts of the walk: N17, N18, N19, N20, N21, N22, N24, N25, N23, N26. -/
import Derived.Test.YtofoadghajnglaaGreatDoorZAE
import Derived.Test.YtofoadghajnglaaGreatDoorZAA
import Derived.Test.YtofoadghajnglaaGreatDoorZY
import Derived.Test.YtofoadghajnglaaGreatDoorZH
import Derived.Test.YtofoadghajnglaaGreatDoorZM
set_option linter.unusedVariables false
set_option linter.unusedSimpArgs false
section
/-The document's Wide,Mid,least,greatest,ends,Op. -/
set_option maxRecDepth 100000
namespace Go.Pv
open Go.Proofs
theorem W0u {v:Vl} {n k:Nat} (h:bdV n k v) (h1:n≤1000000000000) (h2:k≤100000000000):smV v:=⟨by have:=h.1;omega,by have:=h.2.1;omega,by have:=h.2.2;omega⟩
theorem w0k {x:Nm} (h:Q0r x=true):x.w.length≤1000000000000:=by have:=(Z0z h).1;omega
theorem x1x (p:Int) (st:Q0e):PCalls Tryz.prog 222 [.sc (.int .i64 p)] st (fun r st'=>r= .sc (.bool (Z0i p))∧st'=st):=by
 refine Q0b none Tryz.func222 rfl fun E=>Q0a ?_
 unfold Z0i
 by_cases h:8≤p
 · have f1:decide (p≥8)=true:=decide_eq_true h
   have f2:decide (8≤p)=true:=decide_eq_true h
   simp -dsimp only [go_sem,f1,f2]
   try simp
 · have f1:decide (p≥8)=false:=decide_eq_false h
   have f2:decide (8≤p)=false:=decide_eq_false h
   simp -dsimp only [go_sem,f1,f2]
   try simp
theorem V2i (lo hi:Vl) (st:Q0e) (h1:(Q0d lo.m).length≤1000000000000) (h2:(Q0d hi.m).length≤1000000000000):PCalls Tryz.prog 224 [.agg (encV lo),.agg (encV hi)] st
 (fun r st'=>r= .tup [.agg (encI (W0s lo hi).1),.sc (.int .i64 (W0s lo hi).2)]∧st'=st):=by
 refine Q0b none Tryz.func224 rfl fun E=>Q0a ?_
 unfold W0s
 simp -dsimp only [go_sem]
 refine(Q2l lo _ h1).mono ?_
 rintro r st ⟨rfl,rfl⟩
 simp -dsimp only [go_sem]
 refine(Q2l hi _ h2).mono ?_
 rintro r st ⟨rfl,rfl⟩
 by_cases c1:(numV lo).2=0
 · have f1:((numV lo).2 !=0)=false:=by rw [c1];rfl
   by_cases c2:(numV hi).2=0
   · have f2:((numV hi).2 !=0)=false:=by rw [c2];rfl
     rw [if_pos ⟨c1,c2⟩]
     simp -dsimp only [go_sem,f1,f2]
     try rfl
   · have f2:((numV hi).2 !=0)=true:=bne_iff_ne.2 c2
     rw [if_neg (fun h=>c2 h.2)]
     simp -dsimp only [go_sem,f1,f2]
     try rfl
 · have f1:((numV lo).2 !=0)=true:=bne_iff_ne.2 c1
   rw [if_neg (fun h=>c1 h.1)]
   simp -dsimp only [go_sem,f1]
   try rfl
end Go.Pv
end
section
/-The document's least,greatest,Op. -/
set_option maxRecDepth 100000
namespace Go.Pv
open Go.Proofs
theorem j1n (x y u v:Vl) (st:Q0e) (hx:bdV 10000000 10000000 x) (hy:bdV 10000000 10000000 y) (hu:bdV 10000000 10000000 u) (hv:bdV 10000000 10000000 v):PCalls Tryz.prog 226 [.agg (encV x),.agg (encV y),.agg (encV u),.agg (encV v)] st (fun r st'=>r= .agg (encV (K0k x y u v))∧st'=st):=by
 have sx:=W0u hx (by omega) (by omega)
 have sy:=W0u hy (by omega) (by omega)
 have su:=W0u hu (by omega) (by omega)
 have sv:=W0u hv (by omega) (by omega)
 refine Q0b none Tryz.func226 rfl fun E=>Q0a ?_
 unfold K0k
 simp -dsimp only [go_sem]
 refine(G0u x _).mono ?_
 rintro r st ⟨rfl,rfl⟩
 by_cases c1:0≤K0t x
 · have f1:decide (K0t x≥0)=true:=decide_eq_true c1
   simp -dsimp only [go_sem,f1]
   refine(G0u u _).mono ?_
   rintro r st ⟨rfl,rfl⟩
   by_cases c2:0≤K0t u
   · have f2:decide (K0t u≥0)=true:=decide_eq_true c2
     rw [if_pos ⟨c1,c2⟩]
     simp -dsimp only [go_sem,f1,f2]
     refine(by_c x u _ sx su).mono ?_
     rintro r st ⟨rfl,rfl⟩
     simp -dsimp only [go_sem]
   · have f2:decide (K0t u≥0)=false:=decide_eq_false c2
     rw [if_neg (fun h=>c2 h.2),if_pos c1]
     simp -dsimp only [go_sem,f1,f2]
     refine(G0u x _).mono ?_
     rintro r st ⟨rfl,rfl⟩
     simp -dsimp only [go_sem,f1,f2]
     refine(by_c y u _ sy su).mono ?_
     rintro r st ⟨rfl,rfl⟩
     simp -dsimp only [go_sem]
 · have f1:decide (K0t x≥0)=false:=decide_eq_false c1
   rw [if_neg (fun h=>c1 h.1),if_neg c1]
   simp -dsimp only [go_sem,f1]
   refine(G0u x _).mono ?_
   rintro r st ⟨rfl,rfl⟩
   simp -dsimp only [go_sem,f1]
   refine(G0u u _).mono ?_
   rintro r st ⟨rfl,rfl⟩
   by_cases c2:0≤K0t u
   · have f2:decide (K0t u≥0)=true:=decide_eq_true c2
     rw [if_pos c2]
     simp -dsimp only [go_sem,f1,f2]
     refine(by_c x v _ sx sv).mono ?_
     rintro r st ⟨rfl,rfl⟩
     simp -dsimp only [go_sem]
   · have f2:decide (K0t u≥0)=false:=decide_eq_false c2
     rw [if_neg c2]
     simp -dsimp only [go_sem,f1,f2]
     refine(G0u y _).mono ?_
     rintro r st ⟨rfl,rfl⟩
     by_cases c3:K0t y≤0∧K0t v≤0
     · have f3:decide (K0t y≤0)=true:=decide_eq_true c3.1
       have f4:decide (K0t v≤0)=true:=decide_eq_true c3.2
       rw [if_pos c3]
       simp -dsimp only [go_sem,f3]
       refine(G0u v _).mono ?_
       rintro r st ⟨rfl,rfl⟩
       simp -dsimp only [go_sem,f3,f4]
       refine(by_c y v _ sy sv).mono ?_
       rintro r st ⟨rfl,rfl⟩
       simp -dsimp only [go_sem]
     · rw [if_neg c3]
       have q1:=Y2c hx hv
       have q2:=Y2c hy hu
       have tail: ∀(Z:Prop),Z→Z:=fun _ h=>h
       cases f3:decide (K0t y≤0) with
       | false=>
        simp -dsimp only [go_sem,f3]
        refine Q0a ?_
        simp -dsimp only [go_sem]
        refine j0v Z0g 61 [0,1,2,3,4,5] [6,7] [8,9] (.step 0 [] (.step 1 [] (.step 3 [] (.step 4 [] (.step 2 [3,4] (.step 5 [] (.done))))))) (.step 8 [] (.step 9 [] (.done))) (by decide+kernel) (by simp) ?_
        simp -dsimp only [go_sem]
        refine(by_c x v _ sx sv).mono ?_
        rintro r st ⟨rfl,rfl⟩
        simp -dsimp only [go_sem]
        refine(by_c y u _ sy su).mono ?_
        rintro r st ⟨rfl,rfl⟩
        simp -dsimp only [go_sem]
        refine(q1k _ _ _ (W0u q2 (by omega) (by omega)) (W0u q1 (by omega) (by omega))).mono ?_
        rintro r st ⟨rfl,rfl⟩
        simp -dsimp only [go_sem]
        refine ck (fun h=> ?_) (fun h=> ?_)
        · have hc:Y0p (byV y u) (byV x v)<0:=of_decide_eq_true h
          rw [if_pos hc]
          simp -dsimp only [go_sem]
          try rfl
        · have hc: ¬Y0p (byV y u) (byV x v)<0:=of_decide_eq_false h
          rw [if_neg hc]
          simp -dsimp only [go_sem]
          try rfl
       | true=>
        have f4:decide (K0t v≤0)=false:=decide_eq_false fun h=>c3 ⟨of_decide_eq_true f3,h⟩
        simp -dsimp only [go_sem,f3]
        refine(G0u v _).mono ?_
        rintro r st ⟨rfl,rfl⟩
        simp -dsimp only [go_sem,f3,f4]
        refine Q0a ?_
        simp -dsimp only [go_sem]
        refine j0v Z0g 61 [0,1,2,3,4,5] [6,7] [8,9] (.step 0 [] (.step 1 [] (.step 3 [] (.step 4 [] (.step 2 [3,4] (.step 5 [] (.done))))))) (.step 8 [] (.step 9 [] (.done))) (by decide+kernel) (by simp) ?_
        simp -dsimp only [go_sem]
        refine(by_c x v _ sx sv).mono ?_
        rintro r st ⟨rfl,rfl⟩
        simp -dsimp only [go_sem]
        refine(by_c y u _ sy su).mono ?_
        rintro r st ⟨rfl,rfl⟩
        simp -dsimp only [go_sem]
        refine(q1k _ _ _ (W0u q2 (by omega) (by omega)) (W0u q1 (by omega) (by omega))).mono ?_
        rintro r st ⟨rfl,rfl⟩
        simp -dsimp only [go_sem]
        refine ck (fun h=> ?_) (fun h=> ?_)
        · have hc:Y0p (byV y u) (byV x v)<0:=of_decide_eq_true h
          rw [if_pos hc]
          simp -dsimp only [go_sem]
          try rfl
        · have hc: ¬Y0p (byV y u) (byV x v)<0:=of_decide_eq_false h
          rw [if_neg hc]
          simp -dsimp only [go_sem]
          try rfl
theorem z2k (x y u v:Vl) (st:Q0e) (hx:bdV 10000000 10000000 x) (hy:bdV 10000000 10000000 y) (hu:bdV 10000000 10000000 u) (hv:bdV 10000000 10000000 v):PCalls Tryz.prog 227 [.agg (encV x),.agg (encV y),.agg (encV u),.agg (encV v)] st (fun r st'=>r= .agg (encV (Y0v x y u v))∧st'=st):=by
 refine Q0b none Tryz.func227 rfl fun E=>Q0a ?_
 simp -dsimp only [go_sem]
 refine Q0p Z0g 17 (.step 0 [] (.step 2 [] (.step 4 [] (.step 5 [] (.step 1 [2,4,5] (.step 3 [4,5] (.step 6 [] (.step 7 [] (.step 8 [] (.done)))))))))) (by decide+kernel) (by simp) ?_
 simp -dsimp only [go_sem]
 refine(y0g y _).mono ?_
 rintro r st ⟨rfl,rfl⟩
 simp -dsimp only [go_sem]
 refine(y0g x _).mono ?_
 rintro r st ⟨rfl,rfl⟩
 simp -dsimp only [go_sem]
 refine(j1n (K0h y) (K0h x) u v _ (k0u hy) (k0u hx) hu hv).mono ?_
 rintro r st ⟨rfl,rfl⟩
 simp -dsimp only [go_sem]
 refine(y0g _ _).mono ?_
 rintro r st ⟨rfl,rfl⟩
 simp -dsimp only [go_sem]
 try rfl
theorem G2m (a b:Ivl) (p:Int) (st:Q0e) (ha:wI a) (hb:wI b):PCalls Tryz.prog 160 [.sc (.int .i64 0),.agg (encI a),.agg (encI b),.sc (.int .i64 p)] st (fun r st'=>r= .tup [.agg (encI (opI 0 a b p).1),.sc (.int .i64 (opI 0 a b p).2)]∧st'=st):=by
 refine Q0b none Tryz.func160 rfl fun E=>Q0a ?_
 simp -dsimp only [go_sem]
 refine(J0p a _ ha).mono ?_
 rintro r st ⟨rfl,rfl⟩
 cases r1:Q0m a with
 | false=>
  simp -dsimp only [go_sem]
  rw [opI,if_neg (by simp [r1])];rfl
 | true=>
  simp -dsimp only [go_sem]
  refine(J0p b _ hb).mono ?_
  rintro r st ⟨rfl,rfl⟩
  cases r2:Q0m b with
  | false=>
   simp -dsimp only [go_sem]
   rw [opI,if_neg (by simp [r2])];rfl
  | true=>
   simp -dsimp only [go_sem]
   refine(x1x p _).mono ?_
   rintro r st ⟨rfl,rfl⟩
   cases r3:Z0i p with
   | false=>
    simp -dsimp only [go_sem]
    rw [opI,if_neg (by simp [r3])];rfl
   | true=>
    obtain⟨q,rfl,q1,q2,q3⟩:=H0w r3
    obtain⟨a1,a2,_⟩:=Z0n r1
    obtain⟨b1,b2,_⟩:=Z0n r2
    have hm:opI 0 a b q=W0s (Z0f (loV 0 (ofN a.lo) (ofN a.hi) (ofN b.lo) (ofN b.hi)) q false) (Z0f (hiV 0 (ofN a.lo) (ofN a.hi) (ofN b.lo) (ofN b.hi)) q true):=by rw [opI,if_pos ⟨r1,r2,r3⟩,q3]
    rw [hm]
    have d1:=q0p a1
    have d2:=q0p a2
    have d3:=q0p b1
    have d4:=q0p b2
    simp -dsimp only [go_sem]
    refine j0v Z0g 110 [0,1,2,3,4,5,6,7,8,9,10,11] [12,13,14,15] [16,17,18,19] (.step 0 [] (.step 1 [] (.step 3 [] (.step 4 [] (.step 6 [] (.step 7 [] (.step 9 [] (.step 10 [] (.step 2 [4,7,10] (.step 5 [7,10] (.step 8 [10] (.step 11 [1] (.done))))))))))))) (.step 16 [4] (.step 17 [7] (.step 18 [] (.step 19 [] (.done))))) (by decide+kernel) (by simp) ?_
    simp -dsimp only [go_sem]
    refine(of_c a.lo _ (w0k a1)).mono ?_
    rintro r st ⟨rfl,rfl⟩
    simp -dsimp only [go_sem]
    refine(of_c a.hi _ (w0k a2)).mono ?_
    rintro r st ⟨rfl,rfl⟩
    simp -dsimp only [go_sem]
    refine(of_c b.lo _ (w0k b1)).mono ?_
    rintro r st ⟨rfl,rfl⟩
    simp -dsimp only [go_sem]
    refine(of_c b.hi _ (w0k b2)).mono ?_
    rintro r st ⟨rfl,rfl⟩
    generalize ofN a.lo=x at*
    generalize ofN a.hi=y at*
    generalize ofN b.lo=u at*
    generalize ofN b.hi=v at*
    simp -dsimp only [go_sem]
    rw [loV0,hiV0]
    refine Q0p Z0g 110 (.step 0 [] (.step 1 [] (.step 3 [] (.step 5 [] (.step 6 [] (.step 8 [] (.step 2 [5,6] (.step 4 [5,6] (.step 7 [] (.step 9 [0,1] (.step 10 [] (.step 11 [] (.step 12 [] (.step 13 [] (.step 14 [] (.done)))))))))))))))) (by decide+kernel) (by simp) ?_
    simp -dsimp only [go_sem]
    refine(X2o _ _ _ (W0u d1 (by omega) (by omega)) (W0u d3 (by omega) (by omega))).mono ?_
    rintro r st ⟨rfl,rfl⟩
    have e1:=k1d d1 d3
    simp -dsimp only [go_sem]
    refine(V1b _ q false _ (W0u e1 (by omega) (by omega)) (by omega)).mono ?_
    rintro r st ⟨rfl,rfl⟩
    have e2:=k0v e1 q false
    simp -dsimp only [go_sem]
    refine(X2o _ _ _ (W0u d2 (by omega) (by omega)) (W0u d4 (by omega) (by omega))).mono ?_
    rintro r st ⟨rfl,rfl⟩
    have e3:=k1d d2 d4
    simp -dsimp only [go_sem]
    refine(V1b _ q true _ (W0u e3 (by omega) (by omega)) (by omega)).mono ?_
    rintro r st ⟨rfl,rfl⟩
    have e4:=k0v e3 q true
    simp -dsimp only [go_sem]
    refine(V2i _ _ _ (z0n e2 (by omega)) (z0n e4 (by omega))).mono ?_
    rintro r st ⟨rfl,rfl⟩
    simp -dsimp only [go_sem]
theorem G2l (a b:Ivl) (p:Int) (st:Q0e) (ha:wI a) (hb:wI b):PCalls Tryz.prog 160 [.sc (.int .i64 2),.agg (encI a),.agg (encI b),.sc (.int .i64 p)] st (fun r st'=>r= .tup [.agg (encI (opI 2 a b p).1),.sc (.int .i64 (opI 2 a b p).2)]∧st'=st):=by
 refine Q0b none Tryz.func160 rfl fun E=>Q0a ?_
 simp -dsimp only [go_sem]
 refine(J0p a _ ha).mono ?_
 rintro r st ⟨rfl,rfl⟩
 cases r1:Q0m a with
 | false=>
  simp -dsimp only [go_sem]
  rw [opI,if_neg (by simp [r1])];rfl
 | true=>
  simp -dsimp only [go_sem]
  refine(J0p b _ hb).mono ?_
  rintro r st ⟨rfl,rfl⟩
  cases r2:Q0m b with
  | false=>
   simp -dsimp only [go_sem]
   rw [opI,if_neg (by simp [r2])];rfl
  | true=>
   simp -dsimp only [go_sem]
   refine(x1x p _).mono ?_
   rintro r st ⟨rfl,rfl⟩
   cases r3:Z0i p with
   | false=>
    simp -dsimp only [go_sem]
    rw [opI,if_neg (by simp [r3])];rfl
   | true=>
    obtain⟨q,rfl,q1,q2,q3⟩:=H0w r3
    obtain⟨a1,a2,_⟩:=Z0n r1
    obtain⟨b1,b2,_⟩:=Z0n r2
    have hm:opI 2 a b q=W0s (Z0f (loV 2 (ofN a.lo) (ofN a.hi) (ofN b.lo) (ofN b.hi)) q false) (Z0f (hiV 2 (ofN a.lo) (ofN a.hi) (ofN b.lo) (ofN b.hi)) q true):=by rw [opI,if_pos ⟨r1,r2,r3⟩,q3]
    rw [hm]
    have d1:=q0p a1
    have d2:=q0p a2
    have d3:=q0p b1
    have d4:=q0p b2
    simp -dsimp only [go_sem]
    refine j0v Z0g 110 [0,1,2,3,4,5,6,7,8,9,10,11] [12,13,14,15] [16,17,18,19] (.step 0 [] (.step 1 [] (.step 3 [] (.step 4 [] (.step 6 [] (.step 7 [] (.step 9 [] (.step 10 [] (.step 2 [4,7,10] (.step 5 [7,10] (.step 8 [10] (.step 11 [1] (.done))))))))))))) (.step 16 [4] (.step 17 [7] (.step 18 [] (.step 19 [] (.done))))) (by decide+kernel) (by simp) ?_
    simp -dsimp only [go_sem]
    refine(of_c a.lo _ (w0k a1)).mono ?_
    rintro r st ⟨rfl,rfl⟩
    simp -dsimp only [go_sem]
    refine(of_c a.hi _ (w0k a2)).mono ?_
    rintro r st ⟨rfl,rfl⟩
    simp -dsimp only [go_sem]
    refine(of_c b.lo _ (w0k b1)).mono ?_
    rintro r st ⟨rfl,rfl⟩
    simp -dsimp only [go_sem]
    refine(of_c b.hi _ (w0k b2)).mono ?_
    rintro r st ⟨rfl,rfl⟩
    generalize ofN a.lo=x at*
    generalize ofN a.hi=y at*
    generalize ofN b.lo=u at*
    generalize ofN b.hi=v at*
    simp -dsimp only [go_sem]
    refine Q0a ?_
    simp -dsimp only [go_sem]
    refine j0v Z0g 110 [0,1,2,3,4,5,6,7,8,9] [10,11] [12,13] (.step 0 [] (.step 1 [] (.step 2 [] (.step 3 [] (.step 5 [] (.step 6 [] (.step 7 [] (.step 8 [] (.step 4 [5,6,7,8] (.step 9 [] (.done))))))))))) (.step 12 [] (.step 13 [] (.done))) (by decide+kernel) (by simp) ?_
    simp -dsimp only [go_sem]
    refine(j1n x y u v _ (d1.mono (by omega) (by omega)) (d2.mono (by omega) (by omega)) (d3.mono (by omega) (by omega)) (d4.mono (by omega) (by omega))).mono ?_
    rintro r st ⟨rfl,rfl⟩
    simp -dsimp only [go_sem]
    refine(z2k x y u v _ (d1.mono (by omega) (by omega)) (d2.mono (by omega) (by omega)) (d3.mono (by omega) (by omega)) (d4.mono (by omega) (by omega))).mono ?_
    rintro r st ⟨rfl,rfl⟩
    have e1:=G1x d1 d2 d3 d4
    have e3:=Y2b d1 d2 d3 d4
    have hl2:loV 2 x y u v=K0k x y u v:=rfl
    have hh2:hiV 2 x y u v=Y0v x y u v:=rfl
    rw [hl2,hh2]
    generalize K0k x y u v=lo at*
    generalize Y0v x y u v=hi at*
    simp -dsimp only [go_sem]
    refine Q0p Z0g 110 (.step 0 [] (.step 1 [] (.step 3 [] (.step 4 [] (.step 2 [3] (.step 5 [] (.step 6 [] (.step 7 [] (.step 8 [] (.step 9 [] (.step 10 [] (.done)))))))))))) (by decide+kernel) (by simp) ?_
    simp -dsimp only [go_sem]
    refine(V1b _ q false _ (W0u e1 (by omega) (by omega)) (by omega)).mono ?_
    rintro r st ⟨rfl,rfl⟩
    have e2:=k0v e1 q false
    simp -dsimp only [go_sem]
    refine(V1b _ q true _ (W0u e3 (by omega) (by omega)) (by omega)).mono ?_
    rintro r st ⟨rfl,rfl⟩
    have e4:=k0v e3 q true
    simp -dsimp only [go_sem]
    refine(V2i _ _ _ (z0n e2 (by omega)) (z0n e4 (by omega))).mono ?_
    rintro r st ⟨rfl,rfl⟩
    simp -dsimp only [go_sem]
end Go.Pv
end
section
/-The document's boxes:Points,HasPoint,InBox,MeetBox,OpBox,Times,MidBox. -/
set_option maxRecDepth 100000
namespace Go.Pv
open Go.Proofs
theorem y0j (p:Int) (st:Q0e):PCalls Tryz.prog 123 [.sc (.int .i64 p)] st (fun r st'=>r= .sc (.bool (Z0i p))∧st'=st):=by
 refine Q0b none Tryz.func123 rfl fun E=>Q0a ?_
 unfold Z0i
 by_cases h:8≤p
 · have f1:decide (p≥8)=true:=decide_eq_true h
   have f2:decide (8≤p)=true:=decide_eq_true h
   simp -dsimp only [go_sem,f1,f2]
   try simp
 · have f1:decide (p≥8)=false:=decide_eq_false h
   have f2:decide (8≤p)=false:=decide_eq_false h
   simp -dsimp only [go_sem,f1,f2]
   try simp
theorem H2n (a b:List Ivl) (p:Int) (st:Q0e) (ha:wB a) (hb:wB b):PCalls Tryz.prog 168 [.sc (.int .i64 0),.sl .no (Q0s a),.sl .no (Q0s b),.sc (.int .i64 p)] st (fun r st'=>r= .tup [.sl .no (Q0s (opB 0 a b p).1),.sc (.int .i64 (opB 0 a b p).2)]∧st'=st):=by
 refine Q0b none Tryz.func168 rfl fun E=>Q0a ?_
 simp -dsimp only [go_sem]
 refine(z0c a _ ha).mono ?_
 rintro r st ⟨rfl,rfl⟩
 cases r1:rightB a with
 | false=>
  simp -dsimp only [go_sem]
  rw [opB,if_neg (by simp [r1])];rfl
 | true=>
  simp -dsimp only [go_sem]
  refine(z0c b _ hb).mono ?_
  rintro r st ⟨rfl,rfl⟩
  cases r2:rightB b with
  | false=>
   simp -dsimp only [go_sem]
   rw [opB,if_neg (by simp [r2])];rfl
  | true=>
   by_cases hl:a.length=b.length
   · have f1:((a.length:Int) !=(b.length:Int))=false:=by rw [hl];simp
     simp -dsimp only [go_sem,f1]
     refine(y0j p _).mono ?_
     rintro r st ⟨rfl,rfl⟩
     cases r3:Z0i p with
     | false=>
      simp -dsimp only [go_sem,f1]
      rw [opB,if_neg (by simp [r3])];rfl
     | true=>
      have hla:=ha.1
      have hab:opB 0 a b p=x0v (fun i x=>opI 0 x (b.getD i default) p) 0 a []:=if_pos ⟨r1,r2,hl,r3⟩
      rw [hab]
      simp -dsimp only [go_sem,f1]
      refine Z0l 10 6 ?_
      simp -dsimp only [go_sem]
      refine Q0f [true,true,true,true,false,false,false,false,false,false,true,true] 0 1 (fun n s=> ∃i o,n=a.length-i∧i≤a.length∧o.length=i∧x0v (fun i x=>opI 0 x (b.getD i default) p) 0 a []=x0v (fun i x=>opI 0 x (b.getD i default) p) i (a.drop i) o∧s=⟨[.sc (.int .i64 0),.sl .no (Q0s a),.sl .no (Q0s b),.sc (.int .i64 p),.junk,.junk,.junk,.junk,.junk,.junk,.sl (.own 0) (Q0s o),.sc (.int .i64 (i:Nat))]++List.replicate 50 .junk,[],[(o.length,6)],st⟩) a.length ?_ ?_
      · simp -dsimp only [go_sem]
        exact⟨0,[],by omega,by omega,rfl,rfl,rfl⟩
      · rintro n s ⟨i,o,rfl,hi,ho,hr,rfl⟩
        simp -dsimp only [go_sem]
        refine ck (fun h'=> ?_) (fun h'=> ?_)
        · have hlt:i<a.length:=by have:=of_decide_eq_true h';omega
          have e1:=Z0m a i hlt
          have e2:=Z0m b i (by omega)
          have e3:IntKind.i64.wrap ((i:Int)+1)=((i+1:Nat):Int):=by rw [Q0k _ (by omega) (by omega)];omega
          have e4:=J1z (fun i x=>opI 0 x (b.getD i default) p) a i o hlt
          simp -dsimp only [go_sem]
          refine Q0p Z0g 62 (.step 0 [] (.step 1 [] (.step 2 [] (.step 3 [] (.step 4 [] (.step 5 [] (.step 6 [] (.step 7 [] (.step 8 [] (.step 9 [] (.alt (.step 10 [] (.step 11 [] (.step 12 [] (.step 13 [] (.step 14 [4,8] (.step 15 [] (.step 16 [] (.done)))))))) (.step 14 [4,8] (.step 10 [] (.step 11 [] (.step 12 [] (.step 13 [] (.step 15 [] (.step 16 [] (.done))))))))))))))))))) (by decide+kernel) (by simp) ?_
          simp -dsimp only [go_sem,e1,e2]
          refine⟨⟨by omega,by omega⟩,⟨by omega,by omega⟩,?_,?_⟩
          all_goals
           refine(G2m _ _ p _ (ha.2 i hlt) (hb.2 i (by omega))).mono ?_
           rintro r st ⟨rfl,rfl⟩
           simp -dsimp only [go_sem,e1,e2]
           refine ck (fun h2=> ?_) (fun h2=> ?_)
           · have hne:=H0b h2
             simp -dsimp only [go_sem]
             rw [hr,e4,if_pos hne];rfl
           · have he:=H0i h2
             simp -dsimp only [go_sem,e3]
             refine⟨by omega,a.length-(i+1),by omega,i+1,o++ [(opI 0 (a.getD i default) (b.getD i default) p).1],rfl,by omega,by simp [ho],?_,?_⟩
             · rw [hr,e4,if_neg (fun hh=>hh he)]
             · simp [Q0s,encI]
        · have hge:i=a.length:=by have:=of_decide_eq_false h';omega
          simp -dsimp only [go_sem]
          refine Q0a ?_
          simp -dsimp only [go_sem]
          rw [hr,hge,List.drop_length];rfl
   · have f1:((a.length:Int) !=(b.length:Int))=true:=by rw [bne_iff_ne];omega
     simp -dsimp only [go_sem,f1]
     rw [opB,if_neg (fun h=>hl h.2.2.1)];rfl
theorem U2n (x:Ivl) (b:List Ivl) (p:Int) (st:Q0e) (hx:wI x) (hb:wB b):PCalls Tryz.prog 167 [.agg (encI x),.sl .no (Q0s b),.sc (.int .i64 p)] st (fun r st'=>r= .tup [.sl .no (Q0s (K0i x b p).1),.sc (.int .i64 (K0i x b p).2)]∧st'=st):=by
 refine Q0b none Tryz.func167 rfl fun E=>Q0a ?_
 simp -dsimp only [go_sem]
 refine(z0c b _ hb).mono ?_
 rintro r st ⟨rfl,rfl⟩
 cases r1:rightB b with
 | false=>
  simp -dsimp only [go_sem]
  rw [K0i,if_neg (by simp [r1])];rfl
 | true=>
  simp -dsimp only [go_sem]
  refine(J0p x _ hx).mono ?_
  rintro r st ⟨rfl,rfl⟩
  cases r2:Q0m x with
  | false=>
   simp -dsimp only [go_sem]
   rw [K0i,if_neg (by simp [r2])];rfl
  | true=>
   simp -dsimp only [go_sem]
   refine(y0j p _).mono ?_
   rintro r st ⟨rfl,rfl⟩
   cases r3:Z0i p with
   | false=>
    simp -dsimp only [go_sem]
    rw [K0i,if_neg (by simp [r3])];rfl
   | true=>
    have hla:=hb.1
    have hab:K0i x b p=x0v (fun _ y=>opI 2 x y p) 0 b []:=if_pos ⟨r1,r2,r3⟩
    rw [hab]
    simp -dsimp only [go_sem]
    refine Z0l 8 6 ?_
    simp -dsimp only [go_sem]
    refine Q0f [false,true,true,true,false,false,false,false,true,true] 1 1 (fun n s=> ∃i o,n=b.length-i∧i≤b.length∧o.length=i∧x0v (fun _ y=>opI 2 x y p) 0 b []=x0v (fun _ y=>opI 2 x y p) i (b.drop i) o∧s=⟨[.junk,.sl .no (Q0s b),.sc (.int .i64 p),.lp 0 0,.junk,.junk,.junk,.junk,.sl (.own 0) (Q0s o),.sc (.int .i64 (i:Nat))]++List.replicate 39 .junk,[encI x],[(o.length,6)],st⟩) b.length ?_ ?_
    · simp -dsimp only [go_sem]
      exact⟨0,[],by omega,by omega,rfl,rfl,rfl⟩
    · rintro n s ⟨i,o,rfl,hi,ho,hr,rfl⟩
      simp -dsimp only [go_sem]
      refine ck (fun h'=> ?_) (fun h'=> ?_)
      · have hlt:i<b.length:=by have:=of_decide_eq_true h';omega
        have e1:=Z0m b i hlt
        have e3:IntKind.i64.wrap ((i:Int)+1)=((i+1:Nat):Int):=by rw [Q0k _ (by omega) (by omega)];omega
        have e4:=J1z (fun _ y=>opI 2 x y p) b i o hlt
        simp -dsimp only [go_sem]
        refine Q0p Z0g 49 (.step 0 [] (.step 1 [] (.step 2 [] (.step 3 [] (.step 4 [] (.step 5 [] (.alt (.step 6 [] (.step 7 [] (.step 8 [] (.step 9 [] (.step 10 [0,4] (.step 11 [] (.step 12 [] (.done)))))))) (.step 10 [0,4] (.step 6 [] (.step 7 [] (.step 8 [] (.step 9 [] (.step 11 [] (.step 12 [] (.done))))))))))))))) (by decide+kernel) (by simp) ?_
        simp -dsimp only [go_sem,e1]
        refine⟨⟨by omega,by omega⟩,?_,?_⟩
        all_goals
         refine(G2l x _ p _ hx (hb.2 i hlt)).mono ?_
         rintro r st ⟨rfl,rfl⟩
         simp -dsimp only [go_sem,e1]
         refine ck (fun h2=> ?_) (fun h2=> ?_)
         · have hne:=H0b h2
           simp -dsimp only [go_sem]
           rw [hr,e4,if_pos hne];rfl
         · have he:=H0i h2
           simp -dsimp only [go_sem,e3]
           refine⟨by omega,b.length-(i+1),by omega,i+1,o++ [(opI 2 x (b.getD i default) p).1],rfl,by omega,by simp [ho],?_,?_⟩
           · rw [hr,e4,if_neg (fun hh=>hh he)]
           · simp [Q0s,encI]
      · have hge:i=b.length:=by have:=of_decide_eq_false h';omega
        simp -dsimp only [go_sem]
        refine Q0a ?_
        simp -dsimp only [go_sem]
        rw [hr,hge,List.drop_length];rfl
end Go.Pv
end
section
/-The law's parts and reckons. -/
set_option maxRecDepth 100000
namespace Go.Pv
open Go.Proofs
theorem v2p (k:Nat) (a b:Ivl) (p:Int):wI (opI k a b p).1:=J0r (X0g k a b p)
end Go.Pv
end
section
/-The law's known and light. -/
set_option maxRecDepth 100000
namespace Go.Pv
open Go.Proofs
def k1 :Nm:=⟨false,0,[1]⟩
def k2 :Nm:=⟨false,1,[1]⟩
def k4 :Nm:=⟨false,2,[1]⟩
theorem V0a (i:Nat) (h:i<100000000000000):IntKind.i64.wrap ((i:Int)+1)=((i+1:Nat):Int):=by rw [Q0k _ (by omega) (by omega)];omega
end Go.Pv
end
section
/-The deck:In,Part,InBox,PartBox,Prec. -/
set_option maxRecDepth 100000
namespace Go.Pv
open Go.Proofs
theorem V3z (l:List UInt64) (i k:Nat) (st:Q0e) (h:atD st k l i) (hi:i≤1000000000):PCalls Tryz.prog 21 [.gp k 0] st
 (fun r st'=> ∃(p j:Nat),8≤p∧p≤256∧i≤j∧j≤i+2∧r= .sc (.int .i64 p)∧st'=st.set k (dk l j)):=by
 refine Q0b none Tryz.func21 rfl fun E=>Q0a ?_
 simp -dsimp only [go_sem]
 refine(Z1n l i k 6 st h (by omega) (by omega) (by omega)).mono ?_
 rintro r st' ⟨rfl,rfl⟩
 simp -dsimp only [go_sem]
 refine ck (fun h1=> ?_) (fun h1=> ?_)
 · simp -dsimp only [go_sem]
   exact⟨8,i+1,by omega,by omega,by omega,by omega,rfl,rfl⟩
 · simp -dsimp only [go_sem]
   refine ck (fun h2=> ?_) (fun h2=> ?_)
   · simp -dsimp only [go_sem]
     exact⟨256,i+1,by omega,by omega,by omega,by omega,rfl,rfl⟩
   · simp -dsimp only [go_sem]
     refine(Z1n l (i+1) k 60 _ (h.set (i+1)) (by omega) (by omega) (by omega)).mono ?_
     rintro r st' ⟨rfl,rfl⟩
     have n1:=y2o l (i+1) (n:=60) (by omega)
     have x1:IntKind.i64.wrap (12+(nx l (i+1) 60:Int))=((12+nx l (i+1) 60:Nat):Int):=by rw [show(12+(nx l (i+1) 60:Int))=((12+nx l (i+1) 60:Nat):Int) from by omega,Q0n _ (by omega)]
     simp -dsimp only [go_sem,J1c,x1]
     exact⟨12+nx l (i+1) 60,i+2,by omega,by omega,by omega,by omega,rfl,rfl⟩
end Go.Pv
end
