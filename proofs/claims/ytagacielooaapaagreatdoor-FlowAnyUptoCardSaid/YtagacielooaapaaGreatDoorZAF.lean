/- Parts of the walk: N17, N18, N19, N20, N21, N22, N24, N25, N23, N26. -/
import Derived.Test.YtagacielooaapaaGreatDoorZAE
import Derived.Test.YtagacielooaapaaGreatDoorZAA
import Derived.Test.YtagacielooaapaaGreatDoorZY
import Derived.Test.YtagacielooaapaaGreatDoorZH
import Derived.Test.YtagacielooaapaaGreatDoorZI
import Derived.Test.YtagacielooaapaaGreatDoorZM
set_option linter.unusedVariables false
set_option linter.unusedSimpArgs false
section
/-The document's Wide,Mid,least,greatest,ends,Op. -/
set_option maxRecDepth 100000
namespace Go.Pv
open Go.Proofs
theorem K0f {v:Vl} {n k:Nat} (h:bdV n k v) (h1:n≤1000000000000) (h2:k≤100000000000):smV v:=⟨by have:=h.1;omega,by have:=h.2.1;omega,by have:=h.2.2;omega⟩
theorem W0x {x:Nm} (h:Q0j x=true):x.w.length≤1000000000000:=by have:=(X0q h).1;omega
theorem H1c (p:Int) (st:Q0g):PCalls Tryz.prog 200 [.sc (.int .i64 p)] st (fun r st'=>r= .sc (.bool (Z0b p))∧st'=st):=by
 refine Q0b none Tryz.func200 rfl fun E=>Q0a ?_
 unfold Z0b
 by_cases h:8≤p
 · have f1:decide (p≥8)=true:=decide_eq_true h
   have f2:decide (8≤p)=true:=decide_eq_true h
   simp -dsimp only [go_sem,f1,f2]
   try simp
 · have f1:decide (p≥8)=false:=decide_eq_false h
   have f2:decide (8≤p)=false:=decide_eq_false h
   simp -dsimp only [go_sem,f1,f2]
   try simp
theorem y1m (lo hi:Vl) (st:Q0g) (h1:(Q0c lo.m).length≤1000000000000) (h2:(Q0c hi.m).length≤1000000000000):PCalls Tryz.prog 202 [.agg (encV lo),.agg (encV hi)] st
 (fun r st'=>r= .tup [.agg (encI (Y0f lo hi).1),.sc (.int .i64 (Y0f lo hi).2)]∧st'=st):=by
 refine Q0b none Tryz.func202 rfl fun E=>Q0a ?_
 unfold Y0f
 simp -dsimp only [go_sem]
 refine(Y1m lo _ h1).mono ?_
 rintro r st ⟨rfl,rfl⟩
 simp -dsimp only [go_sem]
 refine(Y1m hi _ h2).mono ?_
 rintro r st ⟨rfl,rfl⟩
 by_cases c1:(numV lo).2=0
 · have f1:((numV lo).2 !=0)=false:=by rw [c1];rfl
   by_cases c2:(numV hi).2=0
   · have f2:((numV hi).2 !=0)=false:=by rw [c2];rfl
     rw [if_pos ⟨c1,c2⟩]
     simp -dsimp only [go_sem,f1,f2]
     try rfl
   · have f2:((numV hi).2 !=0)=true:=bne_iff_ne.2 c2
     rw [if_neg (fun h=>c2 h.2)]
     simp -dsimp only [go_sem,f1,f2]
     try rfl
 · have f1:((numV lo).2 !=0)=true:=bne_iff_ne.2 c1
   rw [if_neg (fun h=>c1 h.1)]
   simp -dsimp only [go_sem,f1]
   try rfl
end Go.Pv
end
section
/-The document's least,greatest,Op. -/
set_option maxRecDepth 100000
namespace Go.Pv
open Go.Proofs
theorem X2l (x y u v:Vl) (st:Q0g) (hx:bdV 10000000 10000000 x) (hy:bdV 10000000 10000000 y) (hu:bdV 10000000 10000000 u) (hv:bdV 10000000 10000000 v):PCalls Tryz.prog 205 [.agg (encV x),.agg (encV y),.agg (encV u),.agg (encV v)] st (fun r st'=>r= .agg (encV (K0t x y u v))∧st'=st):=by
 have sx:=K0f hx (by omega) (by omega)
 have sy:=K0f hy (by omega) (by omega)
 have su:=K0f hu (by omega) (by omega)
 have sv:=K0f hv (by omega) (by omega)
 refine Q0b none Tryz.func205 rfl fun E=>Q0a ?_
 unfold K0t
 simp -dsimp only [go_sem]
 refine(W0n x _).mono ?_
 rintro r st ⟨rfl,rfl⟩
 by_cases c1:0≤X0n x
 · have f1:decide (X0n x≥0)=true:=decide_eq_true c1
   simp -dsimp only [go_sem,f1]
   refine(W0n u _).mono ?_
   rintro r st ⟨rfl,rfl⟩
   by_cases c2:0≤X0n u
   · have f2:decide (X0n u≥0)=true:=decide_eq_true c2
     rw [if_pos ⟨c1,c2⟩]
     simp -dsimp only [go_sem,f1,f2]
     refine(by_c x u _ sx su).mono ?_
     rintro r st ⟨rfl,rfl⟩
     simp -dsimp only [go_sem]
   · have f2:decide (X0n u≥0)=false:=decide_eq_false c2
     rw [if_neg (fun h=>c2 h.2),if_pos c1]
     simp -dsimp only [go_sem,f1,f2]
     refine(W0n x _).mono ?_
     rintro r st ⟨rfl,rfl⟩
     simp -dsimp only [go_sem,f1,f2]
     refine(by_c y u _ sy su).mono ?_
     rintro r st ⟨rfl,rfl⟩
     simp -dsimp only [go_sem]
 · have f1:decide (X0n x≥0)=false:=decide_eq_false c1
   rw [if_neg (fun h=>c1 h.1),if_neg c1]
   simp -dsimp only [go_sem,f1]
   refine(W0n x _).mono ?_
   rintro r st ⟨rfl,rfl⟩
   simp -dsimp only [go_sem,f1]
   refine(W0n u _).mono ?_
   rintro r st ⟨rfl,rfl⟩
   by_cases c2:0≤X0n u
   · have f2:decide (X0n u≥0)=true:=decide_eq_true c2
     rw [if_pos c2]
     simp -dsimp only [go_sem,f1,f2]
     refine(by_c x v _ sx sv).mono ?_
     rintro r st ⟨rfl,rfl⟩
     simp -dsimp only [go_sem]
   · have f2:decide (X0n u≥0)=false:=decide_eq_false c2
     rw [if_neg c2]
     simp -dsimp only [go_sem,f1,f2]
     refine(W0n y _).mono ?_
     rintro r st ⟨rfl,rfl⟩
     by_cases c3:X0n y≤0∧X0n v≤0
     · have f3:decide (X0n y≤0)=true:=decide_eq_true c3.1
       have f4:decide (X0n v≤0)=true:=decide_eq_true c3.2
       rw [if_pos c3]
       simp -dsimp only [go_sem,f3]
       refine(W0n v _).mono ?_
       rintro r st ⟨rfl,rfl⟩
       simp -dsimp only [go_sem,f3,f4]
       refine(by_c y v _ sy sv).mono ?_
       rintro r st ⟨rfl,rfl⟩
       simp -dsimp only [go_sem]
     · rw [if_neg c3]
       have q1:=W1m hx hv
       have q2:=W1m hy hu
       have tail: ∀(Z:Prop),Z→Z:=fun _ h=>h
       cases f3:decide (X0n y≤0) with
       | false=>
        simp -dsimp only [go_sem,f3]
        refine Q0a ?_
        simp -dsimp only [go_sem]
        refine q0y Z0k 61 [0,1,2,3,4,5] [6,7] [8,9] (.step 0 [] (.step 1 [] (.step 3 [] (.step 4 [] (.step 2 [3,4] (.step 5 [] (.done))))))) (.step 8 [] (.step 9 [] (.done))) (by decide+kernel) (by simp) ?_
        simp -dsimp only [go_sem]
        refine(by_c x v _ sx sv).mono ?_
        rintro r st ⟨rfl,rfl⟩
        simp -dsimp only [go_sem]
        refine(by_c y u _ sy su).mono ?_
        rintro r st ⟨rfl,rfl⟩
        simp -dsimp only [go_sem]
        refine(w1n _ _ _ (K0f q2 (by omega) (by omega)) (K0f q1 (by omega) (by omega))).mono ?_
        rintro r st ⟨rfl,rfl⟩
        simp -dsimp only [go_sem]
        refine ck (fun h=> ?_) (fun h=> ?_)
        · have hc:V0m (byV y u) (byV x v)<0:=of_decide_eq_true h
          rw [if_pos hc]
          simp -dsimp only [go_sem]
          try rfl
        · have hc: ¬V0m (byV y u) (byV x v)<0:=of_decide_eq_false h
          rw [if_neg hc]
          simp -dsimp only [go_sem]
          try rfl
       | true=>
        have f4:decide (X0n v≤0)=false:=decide_eq_false fun h=>c3 ⟨of_decide_eq_true f3,h⟩
        simp -dsimp only [go_sem,f3]
        refine(W0n v _).mono ?_
        rintro r st ⟨rfl,rfl⟩
        simp -dsimp only [go_sem,f3,f4]
        refine Q0a ?_
        simp -dsimp only [go_sem]
        refine q0y Z0k 61 [0,1,2,3,4,5] [6,7] [8,9] (.step 0 [] (.step 1 [] (.step 3 [] (.step 4 [] (.step 2 [3,4] (.step 5 [] (.done))))))) (.step 8 [] (.step 9 [] (.done))) (by decide+kernel) (by simp) ?_
        simp -dsimp only [go_sem]
        refine(by_c x v _ sx sv).mono ?_
        rintro r st ⟨rfl,rfl⟩
        simp -dsimp only [go_sem]
        refine(by_c y u _ sy su).mono ?_
        rintro r st ⟨rfl,rfl⟩
        simp -dsimp only [go_sem]
        refine(w1n _ _ _ (K0f q2 (by omega) (by omega)) (K0f q1 (by omega) (by omega))).mono ?_
        rintro r st ⟨rfl,rfl⟩
        simp -dsimp only [go_sem]
        refine ck (fun h=> ?_) (fun h=> ?_)
        · have hc:V0m (byV y u) (byV x v)<0:=of_decide_eq_true h
          rw [if_pos hc]
          simp -dsimp only [go_sem]
          try rfl
        · have hc: ¬V0m (byV y u) (byV x v)<0:=of_decide_eq_false h
          rw [if_neg hc]
          simp -dsimp only [go_sem]
          try rfl
theorem w2y (x y u v:Vl) (st:Q0g) (hx:bdV 10000000 10000000 x) (hy:bdV 10000000 10000000 y) (hu:bdV 10000000 10000000 u) (hv:bdV 10000000 10000000 v):PCalls Tryz.prog 206 [.agg (encV x),.agg (encV y),.agg (encV u),.agg (encV v)] st (fun r st'=>r= .agg (encV (U0d x y u v))∧st'=st):=by
 refine Q0b none Tryz.func206 rfl fun E=>Q0a ?_
 simp -dsimp only [go_sem]
 refine Q0l Z0k 17 (.step 0 [] (.step 2 [] (.step 4 [] (.step 5 [] (.step 1 [2,4,5] (.step 3 [4,5] (.step 6 [] (.step 7 [] (.step 8 [] (.done)))))))))) (by decide+kernel) (by simp) ?_
 simp -dsimp only [go_sem]
 refine(X1i y _).mono ?_
 rintro r st ⟨rfl,rfl⟩
 simp -dsimp only [go_sem]
 refine(X1i x _).mono ?_
 rintro r st ⟨rfl,rfl⟩
 simp -dsimp only [go_sem]
 refine(X2l (J0x y) (J0x x) u v _ (y0m hy) (y0m hx) hu hv).mono ?_
 rintro r st ⟨rfl,rfl⟩
 simp -dsimp only [go_sem]
 refine(X1i _ _).mono ?_
 rintro r st ⟨rfl,rfl⟩
 simp -dsimp only [go_sem]
 try rfl
theorem G1w (a b:Ivl) (p:Int) (st:Q0g) (ha:wI a) (hb:wI b):PCalls Tryz.prog 145 [.sc (.int .i64 0),.agg (encI a),.agg (encI b),.sc (.int .i64 p)] st (fun r st'=>r= .tup [.agg (encI (opI 0 a b p).1),.sc (.int .i64 (opI 0 a b p).2)]∧st'=st):=by
 refine Q0b none Tryz.func145 rfl fun E=>Q0a ?_
 simp -dsimp only [go_sem]
 refine(X0w a _ ha).mono ?_
 rintro r st ⟨rfl,rfl⟩
 cases r1:Q0i a with
 | false=>
  simp -dsimp only [go_sem]
  rw [opI,if_neg (by simp [r1])];rfl
 | true=>
  simp -dsimp only [go_sem]
  refine(X0w b _ hb).mono ?_
  rintro r st ⟨rfl,rfl⟩
  cases r2:Q0i b with
  | false=>
   simp -dsimp only [go_sem]
   rw [opI,if_neg (by simp [r2])];rfl
  | true=>
   simp -dsimp only [go_sem]
   refine(H1c p _).mono ?_
   rintro r st ⟨rfl,rfl⟩
   cases r3:Z0b p with
   | false=>
    simp -dsimp only [go_sem]
    rw [opI,if_neg (by simp [r3])];rfl
   | true=>
    obtain⟨q,rfl,q1,q2,q3⟩:=q0f r3
    obtain⟨a1,a2,_⟩:=Q0p r1
    obtain⟨b1,b2,_⟩:=Q0p r2
    have hm:opI 0 a b q=Y0f (Q0r (loV 0 (ofN a.lo) (ofN a.hi) (ofN b.lo) (ofN b.hi)) q false) (Q0r (hiV 0 (ofN a.lo) (ofN a.hi) (ofN b.lo) (ofN b.hi)) q true):=by rw [opI,if_pos ⟨r1,r2,r3⟩,q3]
    rw [hm]
    have d1:=Y0g a1
    have d2:=Y0g a2
    have d3:=Y0g b1
    have d4:=Y0g b2
    simp -dsimp only [go_sem]
    refine q0y Z0k 110 [0,1,2,3,4,5,6,7,8,9,10,11] [12,13,14,15] [16,17,18,19] (.step 0 [] (.step 1 [] (.step 3 [] (.step 4 [] (.step 6 [] (.step 7 [] (.step 9 [] (.step 10 [] (.step 2 [4,7,10] (.step 5 [7,10] (.step 8 [10] (.step 11 [1] (.done))))))))))))) (.step 16 [4] (.step 17 [7] (.step 18 [] (.step 19 [] (.done))))) (by decide+kernel) (by simp) ?_
    simp -dsimp only [go_sem]
    refine(of_c a.lo _ (W0x a1)).mono ?_
    rintro r st ⟨rfl,rfl⟩
    simp -dsimp only [go_sem]
    refine(of_c a.hi _ (W0x a2)).mono ?_
    rintro r st ⟨rfl,rfl⟩
    simp -dsimp only [go_sem]
    refine(of_c b.lo _ (W0x b1)).mono ?_
    rintro r st ⟨rfl,rfl⟩
    simp -dsimp only [go_sem]
    refine(of_c b.hi _ (W0x b2)).mono ?_
    rintro r st ⟨rfl,rfl⟩
    generalize ofN a.lo=x at*
    generalize ofN a.hi=y at*
    generalize ofN b.lo=u at*
    generalize ofN b.hi=v at*
    simp -dsimp only [go_sem]
    rw [loV0,hiV0]
    refine Q0l Z0k 110 (.step 0 [] (.step 1 [] (.step 3 [] (.step 5 [] (.step 6 [] (.step 8 [] (.step 2 [5,6] (.step 4 [5,6] (.step 7 [] (.step 9 [0,1] (.step 10 [] (.step 11 [] (.step 12 [] (.step 13 [] (.step 14 [] (.done)))))))))))))))) (by decide+kernel) (by simp) ?_
    simp -dsimp only [go_sem]
    refine(x1f _ _ _ (K0f d1 (by omega) (by omega)) (K0f d3 (by omega) (by omega))).mono ?_
    rintro r st ⟨rfl,rfl⟩
    have e1:=J1g d1 d3
    simp -dsimp only [go_sem]
    refine(Q1b _ q false _ (K0f e1 (by omega) (by omega)) (by omega)).mono ?_
    rintro r st ⟨rfl,rfl⟩
    have e2:=q0s e1 q false
    simp -dsimp only [go_sem]
    refine(x1f _ _ _ (K0f d2 (by omega) (by omega)) (K0f d4 (by omega) (by omega))).mono ?_
    rintro r st ⟨rfl,rfl⟩
    have e3:=J1g d2 d4
    simp -dsimp only [go_sem]
    refine(Q1b _ q true _ (K0f e3 (by omega) (by omega)) (by omega)).mono ?_
    rintro r st ⟨rfl,rfl⟩
    have e4:=q0s e3 q true
    simp -dsimp only [go_sem]
    refine(y1m _ _ _ (K0o e2 (by omega)) (K0o e4 (by omega))).mono ?_
    rintro r st ⟨rfl,rfl⟩
    simp -dsimp only [go_sem]
theorem Q2z (a b:Ivl) (p:Int) (st:Q0g) (ha:wI a) (hb:wI b):PCalls Tryz.prog 145 [.sc (.int .i64 2),.agg (encI a),.agg (encI b),.sc (.int .i64 p)] st (fun r st'=>r= .tup [.agg (encI (opI 2 a b p).1),.sc (.int .i64 (opI 2 a b p).2)]∧st'=st):=by
 refine Q0b none Tryz.func145 rfl fun E=>Q0a ?_
 simp -dsimp only [go_sem]
 refine(X0w a _ ha).mono ?_
 rintro r st ⟨rfl,rfl⟩
 cases r1:Q0i a with
 | false=>
  simp -dsimp only [go_sem]
  rw [opI,if_neg (by simp [r1])];rfl
 | true=>
  simp -dsimp only [go_sem]
  refine(X0w b _ hb).mono ?_
  rintro r st ⟨rfl,rfl⟩
  cases r2:Q0i b with
  | false=>
   simp -dsimp only [go_sem]
   rw [opI,if_neg (by simp [r2])];rfl
  | true=>
   simp -dsimp only [go_sem]
   refine(H1c p _).mono ?_
   rintro r st ⟨rfl,rfl⟩
   cases r3:Z0b p with
   | false=>
    simp -dsimp only [go_sem]
    rw [opI,if_neg (by simp [r3])];rfl
   | true=>
    obtain⟨q,rfl,q1,q2,q3⟩:=q0f r3
    obtain⟨a1,a2,_⟩:=Q0p r1
    obtain⟨b1,b2,_⟩:=Q0p r2
    have hm:opI 2 a b q=Y0f (Q0r (loV 2 (ofN a.lo) (ofN a.hi) (ofN b.lo) (ofN b.hi)) q false) (Q0r (hiV 2 (ofN a.lo) (ofN a.hi) (ofN b.lo) (ofN b.hi)) q true):=by rw [opI,if_pos ⟨r1,r2,r3⟩,q3]
    rw [hm]
    have d1:=Y0g a1
    have d2:=Y0g a2
    have d3:=Y0g b1
    have d4:=Y0g b2
    simp -dsimp only [go_sem]
    refine q0y Z0k 110 [0,1,2,3,4,5,6,7,8,9,10,11] [12,13,14,15] [16,17,18,19] (.step 0 [] (.step 1 [] (.step 3 [] (.step 4 [] (.step 6 [] (.step 7 [] (.step 9 [] (.step 10 [] (.step 2 [4,7,10] (.step 5 [7,10] (.step 8 [10] (.step 11 [1] (.done))))))))))))) (.step 16 [4] (.step 17 [7] (.step 18 [] (.step 19 [] (.done))))) (by decide+kernel) (by simp) ?_
    simp -dsimp only [go_sem]
    refine(of_c a.lo _ (W0x a1)).mono ?_
    rintro r st ⟨rfl,rfl⟩
    simp -dsimp only [go_sem]
    refine(of_c a.hi _ (W0x a2)).mono ?_
    rintro r st ⟨rfl,rfl⟩
    simp -dsimp only [go_sem]
    refine(of_c b.lo _ (W0x b1)).mono ?_
    rintro r st ⟨rfl,rfl⟩
    simp -dsimp only [go_sem]
    refine(of_c b.hi _ (W0x b2)).mono ?_
    rintro r st ⟨rfl,rfl⟩
    generalize ofN a.lo=x at*
    generalize ofN a.hi=y at*
    generalize ofN b.lo=u at*
    generalize ofN b.hi=v at*
    simp -dsimp only [go_sem]
    refine Q0a ?_
    simp -dsimp only [go_sem]
    refine q0y Z0k 110 [0,1,2,3,4,5,6,7,8,9] [10,11] [12,13] (.step 0 [] (.step 1 [] (.step 2 [] (.step 3 [] (.step 5 [] (.step 6 [] (.step 7 [] (.step 8 [] (.step 4 [5,6,7,8] (.step 9 [] (.done))))))))))) (.step 12 [] (.step 13 [] (.done))) (by decide+kernel) (by simp) ?_
    simp -dsimp only [go_sem]
    refine(X2l x y u v _ (d1.mono (by omega) (by omega)) (d2.mono (by omega) (by omega)) (d3.mono (by omega) (by omega)) (d4.mono (by omega) (by omega))).mono ?_
    rintro r st ⟨rfl,rfl⟩
    simp -dsimp only [go_sem]
    refine(w2y x y u v _ (d1.mono (by omega) (by omega)) (d2.mono (by omega) (by omega)) (d3.mono (by omega) (by omega)) (d4.mono (by omega) (by omega))).mono ?_
    rintro r st ⟨rfl,rfl⟩
    have e1:=k1t d1 d2 d3 d4
    have e3:=x2p d1 d2 d3 d4
    have hl2:loV 2 x y u v=K0t x y u v:=rfl
    have hh2:hiV 2 x y u v=U0d x y u v:=rfl
    rw [hl2,hh2]
    generalize K0t x y u v=lo at*
    generalize U0d x y u v=hi at*
    simp -dsimp only [go_sem]
    refine Q0l Z0k 110 (.step 0 [] (.step 1 [] (.step 3 [] (.step 4 [] (.step 2 [3] (.step 5 [] (.step 6 [] (.step 7 [] (.step 8 [] (.step 9 [] (.step 10 [] (.done)))))))))))) (by decide+kernel) (by simp) ?_
    simp -dsimp only [go_sem]
    refine(Q1b _ q false _ (K0f e1 (by omega) (by omega)) (by omega)).mono ?_
    rintro r st ⟨rfl,rfl⟩
    have e2:=q0s e1 q false
    simp -dsimp only [go_sem]
    refine(Q1b _ q true _ (K0f e3 (by omega) (by omega)) (by omega)).mono ?_
    rintro r st ⟨rfl,rfl⟩
    have e4:=q0s e3 q true
    simp -dsimp only [go_sem]
    refine(y1m _ _ _ (K0o e2 (by omega)) (K0o e4 (by omega))).mono ?_
    rintro r st ⟨rfl,rfl⟩
    simp -dsimp only [go_sem]
end Go.Pv
end
section
/-The document's bad,Reckon,Scale,Has,In. -/
set_option maxRecDepth 100000
namespace Go.Pv
open Go.Proofs
theorem k2j (a:Ivl) (x:Nm) (st:Q0g) (ha:wI a) (hx:wN x):PCalls Tryz.prog 201 [.agg (encI a),.agg (encN x)] st (fun r st'=>r= .sc (.bool (hasI a x))∧st'=st):=by
 refine Q0b none Tryz.func201 rfl fun E=>Q0a ?_
 unfold hasI
 simp -dsimp only [go_sem]
 refine(X0w a _ ha).mono ?_
 rintro r st ⟨rfl,rfl⟩
 cases r1:Q0i a with
 | false=>simp -dsimp only [go_sem];try rfl
 | true=>
  simp -dsimp only [go_sem]
  refine(Y0a x _ (by unfold wN at hx;omega)).mono ?_
  rintro r st ⟨rfl,rfl⟩
  cases r2:Q0j x with
  | false=>simp -dsimp only [go_sem];try rfl
  | true=>
   have a1:=(Q0p r1).1
   have a2:=(Q0p r1).2.1
   have e1:cmpR a.lo x=cmpN a.lo x:=if_pos ⟨a1,r2⟩
   have e2:cmpR x a.hi=cmpN x a.hi:=if_pos ⟨r2,a2⟩
   simp -dsimp only [go_sem]
   refine(J1e a.lo x _ (W0x a1) (W0x r2)).mono ?_
   rintro r st ⟨rfl,rfl⟩
   rw [e1]
   cases c1:decide (cmpN a.lo x≤0) with
   | false=>simp -dsimp only [go_sem,c1];try rfl
   | true=>
    simp -dsimp only [go_sem,c1]
    refine(J1e x a.hi _ (W0x r2) (W0x a2)).mono ?_
    rintro r st ⟨rfl,rfl⟩
    rw [e2]
    simp -dsimp only [go_sem,c1]
    try rfl
end Go.Pv
end
section
/-The document's boxes:MeetBox,widest,WideBox,Blow;Nums. -/
set_option maxRecDepth 100000
namespace Go.Pv
open Go.Proofs
def G4g (o:List Nm):Nm:=if o.length=0 then default else o.getD (amax o o.length) default
end Go.Pv
end
section
/-The law's parts and reckons. -/
set_option maxRecDepth 100000
namespace Go.Pv
open Go.Proofs
theorem Y2f (k:Nat) (a b:Ivl) (p:Int):wI (opI k a b p).1:=U0g (Y0q k a b p)
end Go.Pv
end
section
/-The law's known and light. -/
set_option maxRecDepth 100000
namespace Go.Pv
open Go.Proofs
def k1 :Nm:=⟨false,0,[1]⟩
def k2 :Nm:=⟨false,1,[1]⟩
def k4 :Nm:=⟨false,2,[1]⟩
def kB :List Ivl:= [⟨default,k1⟩,⟨default,k4⟩]
def kX :List Ivl:= [⟨default,k1⟩,⟨default,k2⟩]
def kY :List Ivl:= [⟨default,k1⟩,⟨k2,k4⟩]
def kSm :List Ivl:= [⟨default,k2⟩,⟨k2,⟨false,1,[3]⟩⟩]
def kM :List Nm:= [⟨false, -1,[1]⟩,k2]
def kZ :List Ivl:= [⟨⟨true, -2,[1]⟩,⟨false, -2,[5]⟩⟩,⟨⟨true,0,[1]⟩,⟨false,0,[5]⟩⟩]
theorem k0n (i:Nat) (h:i<100000000000000):IntKind.i64.wrap ((i:Int)+1)=((i+1:Nat):Int):=by rw [Q0h _ (by omega) (by omega)];omega
def U4g (l:List (List Ivl)):List PV:=l.map fun c=> .sl .no (Q0n c)
end Go.Pv
end
section
/-The deck:In,Part,InBox,PartBox,Prec. -/
set_option maxRecDepth 100000
namespace Go.Pv
open Go.Proofs
theorem Z3v (l:List UInt64) (i k:Nat) (st:Q0g) (h:atD st k l i) (hi:i≤1000000000):PCalls Tryz.prog 19 [.gp k 0] st
 (fun r st'=> ∃(p j:Nat),8≤p∧p≤256∧i≤j∧j≤i+2∧r= .sc (.int .i64 p)∧st'=st.set k (dk l j)):=by
 refine Q0b none Tryz.func19 rfl fun E=>Q0a ?_
 simp -dsimp only [go_sem]
 refine(G0u l i k 6 st h (by omega) (by omega) (by omega)).mono ?_
 rintro r st' ⟨rfl,rfl⟩
 simp -dsimp only [go_sem]
 refine ck (fun h1=> ?_) (fun h1=> ?_)
 · simp -dsimp only [go_sem]
   exact⟨8,i+1,by omega,by omega,by omega,by omega,rfl,rfl⟩
 · simp -dsimp only [go_sem]
   refine ck (fun h2=> ?_) (fun h2=> ?_)
   · simp -dsimp only [go_sem]
     exact⟨256,i+1,by omega,by omega,by omega,by omega,rfl,rfl⟩
   · simp -dsimp only [go_sem]
     refine(G0u l (i+1) k 60 _ (h.set (i+1)) (by omega) (by omega) (by omega)).mono ?_
     rintro r st' ⟨rfl,rfl⟩
     have n1:=W1x l (i+1) (n:=60) (by omega)
     have x1:IntKind.i64.wrap (12+(nx l (i+1) 60:Int))=((12+nx l (i+1) 60:Nat):Int):=by rw [show(12+(nx l (i+1) 60:Int))=((12+nx l (i+1) 60:Nat):Int) from by omega,Q0k _ (by omega)]
     simp -dsimp only [go_sem,z0y,x1]
     exact⟨12+nx l (i+1) 60,i+2,by omega,by omega,by omega,by omega,rfl,rfl⟩
set_option maxHeartbeats 1000000 in
theorem X2y (l:List UInt64) (i k:Nat) (a:Ivl) (st:Q0g) (h:atD st k l i) (hi:i≤1000000000) (ha:Q0i a=true):PCalls Tryz.prog 41 [.gp k 0,.agg (encI a)] st
 (fun r st'=>r= .agg (encN (inN a (nx l i 9)))∧st'=st.set k (dk l (i+1))):=by
 have hlt:=W1x l i (n:=9) (by omega)
 obtain⟨a1,a2,_⟩:=Q0p ha
 have d1:=Y0g a1
 have d2:=Y0g a2
 refine Q0b none Tryz.func41 rfl fun E=>Q0a ?_
 simp -dsimp only [go_sem]
 refine(G0u l i k 9 st h (by omega) (by omega) (by omega)).mono ?_
 rintro r st' ⟨rfl,rfl⟩
 generalize nx l i 9=n at*
 unfold inN
 have x0:IntKind.i64.wrap (n:Int)=(n:Int):=Q0k _ (by omega)
 simp -dsimp only [go_sem,x0]
 refine ck (fun h1=> ?_) (fun h1=> ?_)
 · have h0:n=0:=U0c (b:=0) h1
   rw [if_pos h0]
   simp -dsimp only [go_sem]
 · have h0:n≠0:=q0h (b:=0) h1
   rw [if_neg h0]
   simp -dsimp only [go_sem]
   refine ck (fun h2=> ?_) (fun h2=> ?_)
   · have h8:n=8:=U0c (b:=8) h2
     rw [if_pos h8]
     simp -dsimp only [go_sem]
   · have h8:n≠8:=q0h (b:=8) h2
     rw [if_neg h8]
     have x1:IntKind.i64.wrap (8-(n:Int))=((8-n:Nat):Int):=by rw [show 8-(n:Int)=((8-n:Nat):Int) from by omega,Q0k _ (by omega)]
     have w1:=y0l (k:=8-n) (by omega)
     have w2:=y0l (k:=n) (by omega)
     have b1:=W1m d1 w1
     have b2:=W1m d2 w2
     have b3:=J1g b1 b2
     have b4:=G1g b3
     have hin:inV a n=G0t (V0d (byV (ofN a.lo) (oddV false (8-n) 0)) (byV (ofN a.hi) (oddV false n 0))):=rfl
     rw [hin]
     simp -dsimp only [go_sem]
     refine q0y Z0k 50 [0,1,2,3,4,5,6,7,8,9,10,11,12,13] [14] [15] (.step 0 [] (.step 1 [] (.step 3 [] (.step 4 [] (.step 7 [] (.step 8 [] (.step 10 [] (.step 2 [8] (.step 5 [8] (.step 6 [8] (.step 9 [] (.step 11 [1] (.step 12 [1] (.step 13 [] (.done))))))))))))))) (.step 15 [] (.done)) (by decide+kernel) (by simp) ?_
     simp -dsimp only [go_sem,x1]
     refine(of_c a.lo _ (W0x a1)).mono ?_
     rintro r st' ⟨rfl,rfl⟩
     simp -dsimp only [go_sem,x1]
     refine(v1b (8-n) _ (by omega)).mono ?_
     rintro r st' ⟨rfl,rfl⟩
     simp -dsimp only [go_sem,x1]
     refine(by_c _ _ _ (K0f d1 (by omega) (by omega)) (K0f w1 (by omega) (by omega))).mono ?_
     rintro r st' ⟨rfl,rfl⟩
     simp -dsimp only [go_sem]
     refine(of_c a.hi _ (W0x a2)).mono ?_
     rintro r st' ⟨rfl,rfl⟩
     simp -dsimp only [go_sem]
     refine(v1b n _ (by omega)).mono ?_
     rintro r st' ⟨rfl,rfl⟩
     simp -dsimp only [go_sem]
     refine(by_c _ _ _ (K0f d2 (by omega) (by omega)) (K0f w2 (by omega) (by omega))).mono ?_
     rintro r st' ⟨rfl,rfl⟩
     simp -dsimp only [go_sem]
     refine(x1f _ _ _ (K0f b1 (by omega) (by omega)) (K0f b2 (by omega) (by omega))).mono ?_
     rintro r st' ⟨rfl,rfl⟩
     generalize V0d (byV (ofN a.lo) (oddV false (8-n) 0)) (byV (ofN a.hi) (oddV false n 0))=v at*
     have x2:IntKind.i64.wrap (v.e-3)=v.e-3:=Q0h _ (by have:=b3.2.1;omega) (by have:=b3.2.2;omega)
     simp -dsimp only [go_sem]
     refine(W0n v _).mono ?_
     rintro r st' ⟨rfl,rfl⟩
     simp -dsimp only [go_sem]
     refine ck (fun h3=> ?_) (fun h3=> ?_)
     case' refine_1=>
      have hz:=v0q h3
      have he:G0t v= { v with e:=v.e-3 } :=if_pos hz
      rw [he] at b4⊢
      generalize hzz:({ v with e:=v.e-3 } :Vl)=z at*
      have z1:v.neg=z.neg:=by rw [←hzz]
      have z2:v.m=z.m:=by rw [←hzz]
      have z3:v.e-3=z.e:=by rw [←hzz]
      simp -dsimp only [go_sem,x2]
      rw [z1,z2,z3]
     case' refine_2=>
      have hz:=Z1l h3
      have he:G0t v=v:=if_neg (fun e=>e hz)
      rw [he] at b4⊢
      generalize v=z at*
      simp -dsimp only [go_sem]
     all_goals
      refine(Y1m z _ (K0o b4 (by omega))).mono ?_
      rintro r st' ⟨rfl,rfl⟩
      simp -dsimp only [go_sem]
      refine ck (fun h4=> ?_) (fun h4=> ?_)
      · have hne:=v0q h4
        rw [if_pos hne]
        simp -dsimp only [go_sem]
      · have hne:=Z1l h4
        rw [if_neg (fun e=>e hne)]
        simp -dsimp only [go_sem]
theorem w1k {a:Ivl} {x y:Nm} (ha:Q0i a=true) (hx:Q0j x=true) (hy:Q0j y=true) (h1:memI (qN x) a) (h2:memI (qN y) a):Q0i (betw x y)=true∧inI (betw x y) a=true:=by
 have hb:betw x y=⟨x,y⟩∧qN x≤qN y∨betw x y=⟨y,x⟩∧qN y≤qN x:=by
  unfold betw
  have hc:cmpR x y=cmpN x y:=if_pos ⟨hx,hy⟩
  split
  · rename_i h
    rw [hc] at h
    exact .inr ⟨rfl,Rat.le_of_lt (cmpN_gt.1 (by omega))⟩
  · rename_i h
    rw [hc] at h
    exact .inl ⟨rfl,cmpN_le.1 (by omega)⟩
 rcases hb with ⟨e,h⟩ | ⟨e,h⟩
 · have hr:Q0i (betw x y)=true:=by rw [e];exact K0v hx hy (cmpN_le.2 h)
   refine⟨hr,?_⟩
   rw [e] at hr⊢
   unfold inI
   rw [hr,ha]
   simp only [Bool.true_and,Bool.and_eq_true,decide_eq_true_eq]
   exact⟨cmpN_ge.2 h1.1,cmpN_ge.2 h2.2⟩
 · have hr:Q0i (betw x y)=true:=by rw [e];exact K0v hy hx (cmpN_le.2 h)
   refine⟨hr,?_⟩
   rw [e] at hr⊢
   unfold inI
   rw [hr,ha]
   simp only [Bool.true_and,Bool.and_eq_true,decide_eq_true_eq]
   exact⟨cmpN_ge.2 h2.1,cmpN_ge.2 h1.2⟩
end Go.Pv
end
