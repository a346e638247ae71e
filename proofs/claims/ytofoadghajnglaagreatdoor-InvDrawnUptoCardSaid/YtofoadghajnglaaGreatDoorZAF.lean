/- Parts of the walk: N17, N18, N19, N20. -/
import Derived.Test.YtofoadghajnglaaGreatDoorZAE
import Derived.Test.YtofoadghajnglaaGreatDoorZAA
import Derived.Test.YtofoadghajnglaaGreatDoorZY
import Derived.Test.YtofoadghajnglaaGreatDoorZH
import Derived.Test.YtofoadghajnglaaGreatDoorZM
set_option linter.unusedVariables false
set_option linter.unusedSimpArgs false
section
/-The document's Wide,Mid,least,greatest,ends,Op. -/
set_option maxRecDepth 100000
namespace Go.Pv
open Go.Proofs
theorem X0p {v:Vl} {n k:Nat} (h:bdV n k v) (h1:n≤1000000000000) (h2:k≤100000000000):smV v:=⟨by have:=h.1;omega,by have:=h.2.1;omega,by have:=h.2.2;omega⟩
theorem V0u {x:Nm} (h:Q0j x=true):x.w.length≤1000000000000:=by have:=(Z0z h).1;omega
theorem W1t (p:Int) (st:Q0f):PCalls Tryz.prog 222 [.sc (.int .i64 p)] st (fun r st'=>r= .sc (.bool (Z0p p))∧st'=st):=by
 refine Q0b none Tryz.func222 rfl fun E=>Q0a ?_
 unfold Z0p
 by_cases h:8≤p
 · have f1:decide (p≥8)=true:=decide_eq_true h
   have f2:decide (8≤p)=true:=decide_eq_true h
   simp -dsimp only [go_sem,f1,f2]
   try simp
 · have f1:decide (p≥8)=false:=decide_eq_false h
   have f2:decide (8≤p)=false:=decide_eq_false h
   simp -dsimp only [go_sem,f1,f2]
   try simp
theorem j1c (lo hi:Vl) (st:Q0f) (h1:(Q0c lo.m).length≤1000000000000) (h2:(Q0c hi.m).length≤1000000000000):PCalls Tryz.prog 224 [.agg (encV lo),.agg (encV hi)] st
 (fun r st'=>r= .tup [.agg (encI (j0q lo hi).1),.sc (.int .i64 (j0q lo hi).2)]∧st'=st):=by
 refine Q0b none Tryz.func224 rfl fun E=>Q0a ?_
 unfold j0q
 simp -dsimp only [go_sem]
 refine(Q1t lo _ h1).mono ?_
 rintro r st ⟨rfl,rfl⟩
 simp -dsimp only [go_sem]
 refine(Q1t hi _ h2).mono ?_
 rintro r st ⟨rfl,rfl⟩
 by_cases c1:(numV lo).2=0
 · have f1:((numV lo).2 !=0)=false:=by rw [c1];rfl
   by_cases c2:(numV hi).2=0
   · have f2:((numV hi).2 !=0)=false:=by rw [c2];rfl
     rw [if_pos ⟨c1,c2⟩]
     simp -dsimp only [go_sem,f1,f2]
     try rfl
   · have f2:((numV hi).2 !=0)=true:=bne_iff_ne.2 c2
     rw [if_neg (fun h=>c2 h.2)]
     simp -dsimp only [go_sem,f1,f2]
     try rfl
 · have f1:((numV lo).2 !=0)=true:=bne_iff_ne.2 c1
   rw [if_neg (fun h=>c1 h.1)]
   simp -dsimp only [go_sem,f1]
   try rfl
end Go.Pv
end
section
/-The document's least,greatest,Op. -/
set_option maxRecDepth 100000
namespace Go.Pv
open Go.Proofs
theorem v1r (x y u v:Vl) (st:Q0f) (hx:bdV 10000000 10000000 x) (hy:bdV 10000000 10000000 y) (hu:bdV 10000000 10000000 u) (hv:bdV 10000000 10000000 v):PCalls Tryz.prog 226 [.agg (encV x),.agg (encV y),.agg (encV u),.agg (encV v)] st (fun r st'=>r= .agg (encV (K0y x y u v))∧st'=st):=by
 have sx:=X0p hx (by omega) (by omega)
 have sy:=X0p hy (by omega) (by omega)
 have su:=X0p hu (by omega) (by omega)
 have sv:=X0p hv (by omega) (by omega)
 refine Q0b none Tryz.func226 rfl fun E=>Q0a ?_
 unfold K0y
 simp -dsimp only [go_sem]
 refine(H0k x _).mono ?_
 rintro r st ⟨rfl,rfl⟩
 by_cases c1:0≤K0u x
 · have f1:decide (K0u x≥0)=true:=decide_eq_true c1
   simp -dsimp only [go_sem,f1]
   refine(H0k u _).mono ?_
   rintro r st ⟨rfl,rfl⟩
   by_cases c2:0≤K0u u
   · have f2:decide (K0u u≥0)=true:=decide_eq_true c2
     rw [if_pos ⟨c1,c2⟩]
     simp -dsimp only [go_sem,f1,f2]
     refine(by_c x u _ sx su).mono ?_
     rintro r st ⟨rfl,rfl⟩
     simp -dsimp only [go_sem]
   · have f2:decide (K0u u≥0)=false:=decide_eq_false c2
     rw [if_neg (fun h=>c2 h.2),if_pos c1]
     simp -dsimp only [go_sem,f1,f2]
     refine(H0k x _).mono ?_
     rintro r st ⟨rfl,rfl⟩
     simp -dsimp only [go_sem,f1,f2]
     refine(by_c y u _ sy su).mono ?_
     rintro r st ⟨rfl,rfl⟩
     simp -dsimp only [go_sem]
 · have f1:decide (K0u x≥0)=false:=decide_eq_false c1
   rw [if_neg (fun h=>c1 h.1),if_neg c1]
   simp -dsimp only [go_sem,f1]
   refine(H0k x _).mono ?_
   rintro r st ⟨rfl,rfl⟩
   simp -dsimp only [go_sem,f1]
   refine(H0k u _).mono ?_
   rintro r st ⟨rfl,rfl⟩
   by_cases c2:0≤K0u u
   · have f2:decide (K0u u≥0)=true:=decide_eq_true c2
     rw [if_pos c2]
     simp -dsimp only [go_sem,f1,f2]
     refine(by_c x v _ sx sv).mono ?_
     rintro r st ⟨rfl,rfl⟩
     simp -dsimp only [go_sem]
   · have f2:decide (K0u u≥0)=false:=decide_eq_false c2
     rw [if_neg c2]
     simp -dsimp only [go_sem,f1,f2]
     refine(H0k y _).mono ?_
     rintro r st ⟨rfl,rfl⟩
     by_cases c3:K0u y≤0∧K0u v≤0
     · have f3:decide (K0u y≤0)=true:=decide_eq_true c3.1
       have f4:decide (K0u v≤0)=true:=decide_eq_true c3.2
       rw [if_pos c3]
       simp -dsimp only [go_sem,f3]
       refine(H0k v _).mono ?_
       rintro r st ⟨rfl,rfl⟩
       simp -dsimp only [go_sem,f3,f4]
       refine(by_c y v _ sy sv).mono ?_
       rintro r st ⟨rfl,rfl⟩
       simp -dsimp only [go_sem]
     · rw [if_neg c3]
       have q1:=w1g hx hv
       have q2:=w1g hy hu
       have tail: ∀(Z:Prop),Z→Z:=fun _ h=>h
       cases f3:decide (K0u y≤0) with
       | false=>
        simp -dsimp only [go_sem,f3]
        refine Q0a ?_
        simp -dsimp only [go_sem]
        refine W0r Z0f 61 [0,1,2,3,4,5] [6,7] [8,9] (.step 0 [] (.step 1 [] (.step 3 [] (.step 4 [] (.step 2 [3,4] (.step 5 [] (.done))))))) (.step 8 [] (.step 9 [] (.done))) (by decide+kernel) (by simp) ?_
        simp -dsimp only [go_sem]
        refine(by_c x v _ sx sv).mono ?_
        rintro r st ⟨rfl,rfl⟩
        simp -dsimp only [go_sem]
        refine(by_c y u _ sy su).mono ?_
        rintro r st ⟨rfl,rfl⟩
        simp -dsimp only [go_sem]
        refine(x1f _ _ _ (X0p q2 (by omega) (by omega)) (X0p q1 (by omega) (by omega))).mono ?_
        rintro r st ⟨rfl,rfl⟩
        simp -dsimp only [go_sem]
        refine ck (fun h=> ?_) (fun h=> ?_)
        · have hc:U0b (byV y u) (byV x v)<0:=of_decide_eq_true h
          rw [if_pos hc]
          simp -dsimp only [go_sem]
          try rfl
        · have hc: ¬U0b (byV y u) (byV x v)<0:=of_decide_eq_false h
          rw [if_neg hc]
          simp -dsimp only [go_sem]
          try rfl
       | true=>
        have f4:decide (K0u v≤0)=false:=decide_eq_false fun h=>c3 ⟨of_decide_eq_true f3,h⟩
        simp -dsimp only [go_sem,f3]
        refine(H0k v _).mono ?_
        rintro r st ⟨rfl,rfl⟩
        simp -dsimp only [go_sem,f3,f4]
        refine Q0a ?_
        simp -dsimp only [go_sem]
        refine W0r Z0f 61 [0,1,2,3,4,5] [6,7] [8,9] (.step 0 [] (.step 1 [] (.step 3 [] (.step 4 [] (.step 2 [3,4] (.step 5 [] (.done))))))) (.step 8 [] (.step 9 [] (.done))) (by decide+kernel) (by simp) ?_
        simp -dsimp only [go_sem]
        refine(by_c x v _ sx sv).mono ?_
        rintro r st ⟨rfl,rfl⟩
        simp -dsimp only [go_sem]
        refine(by_c y u _ sy su).mono ?_
        rintro r st ⟨rfl,rfl⟩
        simp -dsimp only [go_sem]
        refine(x1f _ _ _ (X0p q2 (by omega) (by omega)) (X0p q1 (by omega) (by omega))).mono ?_
        rintro r st ⟨rfl,rfl⟩
        simp -dsimp only [go_sem]
        refine ck (fun h=> ?_) (fun h=> ?_)
        · have hc:U0b (byV y u) (byV x v)<0:=of_decide_eq_true h
          rw [if_pos hc]
          simp -dsimp only [go_sem]
          try rfl
        · have hc: ¬U0b (byV y u) (byV x v)<0:=of_decide_eq_false h
          rw [if_neg hc]
          simp -dsimp only [go_sem]
          try rfl
theorem z2e (x y u v:Vl) (st:Q0f) (hx:bdV 10000000 10000000 x) (hy:bdV 10000000 10000000 y) (hu:bdV 10000000 10000000 u) (hv:bdV 10000000 10000000 v):PCalls Tryz.prog 227 [.agg (encV x),.agg (encV y),.agg (encV u),.agg (encV v)] st (fun r st'=>r= .agg (encV (U0h x y u v))∧st'=st):=by
 refine Q0b none Tryz.func227 rfl fun E=>Q0a ?_
 simp -dsimp only [go_sem]
 refine Q0k Z0f 17 (.step 0 [] (.step 2 [] (.step 4 [] (.step 5 [] (.step 1 [2,4,5] (.step 3 [4,5] (.step 6 [] (.step 7 [] (.step 8 [] (.done)))))))))) (by decide+kernel) (by simp) ?_
 simp -dsimp only [go_sem]
 refine(Q1e y _).mono ?_
 rintro r st ⟨rfl,rfl⟩
 simp -dsimp only [go_sem]
 refine(Q1e x _).mono ?_
 rintro r st ⟨rfl,rfl⟩
 simp -dsimp only [go_sem]
 refine(v1r (K0q y) (K0q x) u v _ (x0g hy) (x0g hx) hu hv).mono ?_
 rintro r st ⟨rfl,rfl⟩
 simp -dsimp only [go_sem]
 refine(Q1e _ _).mono ?_
 rintro r st ⟨rfl,rfl⟩
 simp -dsimp only [go_sem]
 try rfl
theorem G2l (a b:Ivl) (p:Int) (st:Q0f) (ha:wI a) (hb:wI b):PCalls Tryz.prog 160 [.sc (.int .i64 0),.agg (encI a),.agg (encI b),.sc (.int .i64 p)] st (fun r st'=>r= .tup [.agg (encI (opI 0 a b p).1),.sc (.int .i64 (opI 0 a b p).2)]∧st'=st):=by
 refine Q0b none Tryz.func160 rfl fun E=>Q0a ?_
 simp -dsimp only [go_sem]
 refine(K0b a _ ha).mono ?_
 rintro r st ⟨rfl,rfl⟩
 cases r1:Q0w a with
 | false=>
  simp -dsimp only [go_sem]
  rw [opI,if_neg (by simp [r1])];rfl
 | true=>
  simp -dsimp only [go_sem]
  refine(K0b b _ hb).mono ?_
  rintro r st ⟨rfl,rfl⟩
  cases r2:Q0w b with
  | false=>
   simp -dsimp only [go_sem]
   rw [opI,if_neg (by simp [r2])];rfl
  | true=>
   simp -dsimp only [go_sem]
   refine(W1t p _).mono ?_
   rintro r st ⟨rfl,rfl⟩
   cases r3:Z0p p with
   | false=>
    simp -dsimp only [go_sem]
    rw [opI,if_neg (by simp [r3])];rfl
   | true=>
    obtain⟨q,rfl,q1,q2,q3⟩:=K0e r3
    obtain⟨a1,a2,_⟩:=Q0x r1
    obtain⟨b1,b2,_⟩:=Q0x r2
    have hm:opI 0 a b q=j0q (Z0h (loV 0 (ofN a.lo) (ofN a.hi) (ofN b.lo) (ofN b.hi)) q false) (Z0h (hiV 0 (ofN a.lo) (ofN a.hi) (ofN b.lo) (ofN b.hi)) q true):=by rw [opI,if_pos ⟨r1,r2,r3⟩,q3]
    rw [hm]
    have d1:=J0x a1
    have d2:=J0x a2
    have d3:=J0x b1
    have d4:=J0x b2
    simp -dsimp only [go_sem]
    refine W0r Z0f 110 [0,1,2,3,4,5,6,7,8,9,10,11] [12,13,14,15] [16,17,18,19] (.step 0 [] (.step 1 [] (.step 3 [] (.step 4 [] (.step 6 [] (.step 7 [] (.step 9 [] (.step 10 [] (.step 2 [4,7,10] (.step 5 [7,10] (.step 8 [10] (.step 11 [1] (.done))))))))))))) (.step 16 [4] (.step 17 [7] (.step 18 [] (.step 19 [] (.done))))) (by decide+kernel) (by simp) ?_
    simp -dsimp only [go_sem]
    refine(of_c a.lo _ (V0u a1)).mono ?_
    rintro r st ⟨rfl,rfl⟩
    simp -dsimp only [go_sem]
    refine(of_c a.hi _ (V0u a2)).mono ?_
    rintro r st ⟨rfl,rfl⟩
    simp -dsimp only [go_sem]
    refine(of_c b.lo _ (V0u b1)).mono ?_
    rintro r st ⟨rfl,rfl⟩
    simp -dsimp only [go_sem]
    refine(of_c b.hi _ (V0u b2)).mono ?_
    rintro r st ⟨rfl,rfl⟩
    generalize ofN a.lo=x at*
    generalize ofN a.hi=y at*
    generalize ofN b.lo=u at*
    generalize ofN b.hi=v at*
    simp -dsimp only [go_sem]
    rw [loV0,hiV0]
    refine Q0k Z0f 110 (.step 0 [] (.step 1 [] (.step 3 [] (.step 5 [] (.step 6 [] (.step 8 [] (.step 2 [5,6] (.step 4 [5,6] (.step 7 [] (.step 9 [0,1] (.step 10 [] (.step 11 [] (.step 12 [] (.step 13 [] (.step 14 [] (.done)))))))))))))))) (by decide+kernel) (by simp) ?_
    simp -dsimp only [go_sem]
    refine(v1a _ _ _ (X0p d1 (by omega) (by omega)) (X0p d3 (by omega) (by omega))).mono ?_
    rintro r st ⟨rfl,rfl⟩
    have e1:=Q1p d1 d3
    simp -dsimp only [go_sem]
    refine(Y0z _ q false _ (X0p e1 (by omega) (by omega)) (by omega)).mono ?_
    rintro r st ⟨rfl,rfl⟩
    have e2:=V0n e1 q false
    simp -dsimp only [go_sem]
    refine(v1a _ _ _ (X0p d2 (by omega) (by omega)) (X0p d4 (by omega) (by omega))).mono ?_
    rintro r st ⟨rfl,rfl⟩
    have e3:=Q1p d2 d4
    simp -dsimp only [go_sem]
    refine(Y0z _ q true _ (X0p e3 (by omega) (by omega)) (by omega)).mono ?_
    rintro r st ⟨rfl,rfl⟩
    have e4:=V0n e3 q true
    simp -dsimp only [go_sem]
    refine(j1c _ _ _ (J0f e2 (by omega)) (J0f e4 (by omega))).mono ?_
    rintro r st ⟨rfl,rfl⟩
    simp -dsimp only [go_sem]
theorem G2k (a b:Ivl) (p:Int) (st:Q0f) (ha:wI a) (hb:wI b):PCalls Tryz.prog 160 [.sc (.int .i64 1),.agg (encI a),.agg (encI b),.sc (.int .i64 p)] st (fun r st'=>r= .tup [.agg (encI (opI 1 a b p).1),.sc (.int .i64 (opI 1 a b p).2)]∧st'=st):=by
 refine Q0b none Tryz.func160 rfl fun E=>Q0a ?_
 simp -dsimp only [go_sem]
 refine(K0b a _ ha).mono ?_
 rintro r st ⟨rfl,rfl⟩
 cases r1:Q0w a with
 | false=>
  simp -dsimp only [go_sem]
  rw [opI,if_neg (by simp [r1])];rfl
 | true=>
  simp -dsimp only [go_sem]
  refine(K0b b _ hb).mono ?_
  rintro r st ⟨rfl,rfl⟩
  cases r2:Q0w b with
  | false=>
   simp -dsimp only [go_sem]
   rw [opI,if_neg (by simp [r2])];rfl
  | true=>
   simp -dsimp only [go_sem]
   refine(W1t p _).mono ?_
   rintro r st ⟨rfl,rfl⟩
   cases r3:Z0p p with
   | false=>
    simp -dsimp only [go_sem]
    rw [opI,if_neg (by simp [r3])];rfl
   | true=>
    obtain⟨q,rfl,q1,q2,q3⟩:=K0e r3
    obtain⟨a1,a2,_⟩:=Q0x r1
    obtain⟨b1,b2,_⟩:=Q0x r2
    have hm:opI 1 a b q=j0q (Z0h (loV 1 (ofN a.lo) (ofN a.hi) (ofN b.lo) (ofN b.hi)) q false) (Z0h (hiV 1 (ofN a.lo) (ofN a.hi) (ofN b.lo) (ofN b.hi)) q true):=by rw [opI,if_pos ⟨r1,r2,r3⟩,q3]
    rw [hm]
    have d1:=J0x a1
    have d2:=J0x a2
    have d3:=J0x b1
    have d4:=J0x b2
    simp -dsimp only [go_sem]
    refine W0r Z0f 110 [0,1,2,3,4,5,6,7,8,9,10,11] [12,13,14,15] [16,17,18,19] (.step 0 [] (.step 1 [] (.step 3 [] (.step 4 [] (.step 6 [] (.step 7 [] (.step 9 [] (.step 10 [] (.step 2 [4,7,10] (.step 5 [7,10] (.step 8 [10] (.step 11 [1] (.done))))))))))))) (.step 16 [4] (.step 17 [7] (.step 18 [] (.step 19 [] (.done))))) (by decide+kernel) (by simp) ?_
    simp -dsimp only [go_sem]
    refine(of_c a.lo _ (V0u a1)).mono ?_
    rintro r st ⟨rfl,rfl⟩
    simp -dsimp only [go_sem]
    refine(of_c a.hi _ (V0u a2)).mono ?_
    rintro r st ⟨rfl,rfl⟩
    simp -dsimp only [go_sem]
    refine(of_c b.lo _ (V0u b1)).mono ?_
    rintro r st ⟨rfl,rfl⟩
    simp -dsimp only [go_sem]
    refine(of_c b.hi _ (V0u b2)).mono ?_
    rintro r st ⟨rfl,rfl⟩
    generalize ofN a.lo=x at*
    generalize ofN a.hi=y at*
    generalize ofN b.lo=u at*
    generalize ofN b.hi=v at*
    simp -dsimp only [go_sem]
    rw [loV1,hiV1]
    refine Q0k Z0f 110 (.step 0 [] (.step 1 [] (.step 3 [] (.step 5 [] (.step 6 [] (.step 8 [] (.step 2 [5,6] (.step 4 [5,6] (.step 7 [] (.step 9 [0,1] (.step 10 [] (.step 11 [] (.step 12 [] (.step 13 [] (.step 14 [] (.done)))))))))))))))) (by decide+kernel) (by simp) ?_
    simp -dsimp only [go_sem]
    refine(v1q _ _ _ (X0p d1 (by omega) (by omega)) (X0p d4 (by omega) (by omega))).mono ?_
    rintro r st ⟨rfl,rfl⟩
    have e1:=Y1z d1 d4
    simp -dsimp only [go_sem]
    refine(Y0z _ q false _ (X0p e1 (by omega) (by omega)) (by omega)).mono ?_
    rintro r st ⟨rfl,rfl⟩
    have e2:=V0n e1 q false
    simp -dsimp only [go_sem]
    refine(v1q _ _ _ (X0p d2 (by omega) (by omega)) (X0p d3 (by omega) (by omega))).mono ?_
    rintro r st ⟨rfl,rfl⟩
    have e3:=Y1z d2 d3
    simp -dsimp only [go_sem]
    refine(Y0z _ q true _ (X0p e3 (by omega) (by omega)) (by omega)).mono ?_
    rintro r st ⟨rfl,rfl⟩
    have e4:=V0n e3 q true
    simp -dsimp only [go_sem]
    refine(j1c _ _ _ (J0f e2 (by omega)) (J0f e4 (by omega))).mono ?_
    rintro r st ⟨rfl,rfl⟩
    simp -dsimp only [go_sem]
theorem G2j (a b:Ivl) (p:Int) (st:Q0f) (ha:wI a) (hb:wI b):PCalls Tryz.prog 160 [.sc (.int .i64 2),.agg (encI a),.agg (encI b),.sc (.int .i64 p)] st (fun r st'=>r= .tup [.agg (encI (opI 2 a b p).1),.sc (.int .i64 (opI 2 a b p).2)]∧st'=st):=by
 refine Q0b none Tryz.func160 rfl fun E=>Q0a ?_
 simp -dsimp only [go_sem]
 refine(K0b a _ ha).mono ?_
 rintro r st ⟨rfl,rfl⟩
 cases r1:Q0w a with
 | false=>
  simp -dsimp only [go_sem]
  rw [opI,if_neg (by simp [r1])];rfl
 | true=>
  simp -dsimp only [go_sem]
  refine(K0b b _ hb).mono ?_
  rintro r st ⟨rfl,rfl⟩
  cases r2:Q0w b with
  | false=>
   simp -dsimp only [go_sem]
   rw [opI,if_neg (by simp [r2])];rfl
  | true=>
   simp -dsimp only [go_sem]
   refine(W1t p _).mono ?_
   rintro r st ⟨rfl,rfl⟩
   cases r3:Z0p p with
   | false=>
    simp -dsimp only [go_sem]
    rw [opI,if_neg (by simp [r3])];rfl
   | true=>
    obtain⟨q,rfl,q1,q2,q3⟩:=K0e r3
    obtain⟨a1,a2,_⟩:=Q0x r1
    obtain⟨b1,b2,_⟩:=Q0x r2
    have hm:opI 2 a b q=j0q (Z0h (loV 2 (ofN a.lo) (ofN a.hi) (ofN b.lo) (ofN b.hi)) q false) (Z0h (hiV 2 (ofN a.lo) (ofN a.hi) (ofN b.lo) (ofN b.hi)) q true):=by rw [opI,if_pos ⟨r1,r2,r3⟩,q3]
    rw [hm]
    have d1:=J0x a1
    have d2:=J0x a2
    have d3:=J0x b1
    have d4:=J0x b2
    simp -dsimp only [go_sem]
    refine W0r Z0f 110 [0,1,2,3,4,5,6,7,8,9,10,11] [12,13,14,15] [16,17,18,19] (.step 0 [] (.step 1 [] (.step 3 [] (.step 4 [] (.step 6 [] (.step 7 [] (.step 9 [] (.step 10 [] (.step 2 [4,7,10] (.step 5 [7,10] (.step 8 [10] (.step 11 [1] (.done))))))))))))) (.step 16 [4] (.step 17 [7] (.step 18 [] (.step 19 [] (.done))))) (by decide+kernel) (by simp) ?_
    simp -dsimp only [go_sem]
    refine(of_c a.lo _ (V0u a1)).mono ?_
    rintro r st ⟨rfl,rfl⟩
    simp -dsimp only [go_sem]
    refine(of_c a.hi _ (V0u a2)).mono ?_
    rintro r st ⟨rfl,rfl⟩
    simp -dsimp only [go_sem]
    refine(of_c b.lo _ (V0u b1)).mono ?_
    rintro r st ⟨rfl,rfl⟩
    simp -dsimp only [go_sem]
    refine(of_c b.hi _ (V0u b2)).mono ?_
    rintro r st ⟨rfl,rfl⟩
    generalize ofN a.lo=x at*
    generalize ofN a.hi=y at*
    generalize ofN b.lo=u at*
    generalize ofN b.hi=v at*
    simp -dsimp only [go_sem]
    refine Q0a ?_
    simp -dsimp only [go_sem]
    refine W0r Z0f 110 [0,1,2,3,4,5,6,7,8,9] [10,11] [12,13] (.step 0 [] (.step 1 [] (.step 2 [] (.step 3 [] (.step 5 [] (.step 6 [] (.step 7 [] (.step 8 [] (.step 4 [5,6,7,8] (.step 9 [] (.done))))))))))) (.step 12 [] (.step 13 [] (.done))) (by decide+kernel) (by simp) ?_
    simp -dsimp only [go_sem]
    refine(v1r x y u v _ (d1.mono (by omega) (by omega)) (d2.mono (by omega) (by omega)) (d3.mono (by omega) (by omega)) (d4.mono (by omega) (by omega))).mono ?_
    rintro r st ⟨rfl,rfl⟩
    simp -dsimp only [go_sem]
    refine(z2e x y u v _ (d1.mono (by omega) (by omega)) (d2.mono (by omega) (by omega)) (d3.mono (by omega) (by omega)) (d4.mono (by omega) (by omega))).mono ?_
    rintro r st ⟨rfl,rfl⟩
    have e1:=q1x d1 d2 d3 d4
    have e3:=Y2e d1 d2 d3 d4
    have hl2:loV 2 x y u v=K0y x y u v:=rfl
    have hh2:hiV 2 x y u v=U0h x y u v:=rfl
    rw [hl2,hh2]
    generalize K0y x y u v=lo at*
    generalize U0h x y u v=hi at*
    simp -dsimp only [go_sem]
    refine Q0k Z0f 110 (.step 0 [] (.step 1 [] (.step 3 [] (.step 4 [] (.step 2 [3] (.step 5 [] (.step 6 [] (.step 7 [] (.step 8 [] (.step 9 [] (.step 10 [] (.done)))))))))))) (by decide+kernel) (by simp) ?_
    simp -dsimp only [go_sem]
    refine(Y0z _ q false _ (X0p e1 (by omega) (by omega)) (by omega)).mono ?_
    rintro r st ⟨rfl,rfl⟩
    have e2:=V0n e1 q false
    simp -dsimp only [go_sem]
    refine(Y0z _ q true _ (X0p e3 (by omega) (by omega)) (by omega)).mono ?_
    rintro r st ⟨rfl,rfl⟩
    have e4:=V0n e3 q true
    simp -dsimp only [go_sem]
    refine(j1c _ _ _ (J0f e2 (by omega)) (J0f e4 (by omega))).mono ?_
    rintro r st ⟨rfl,rfl⟩
    simp -dsimp only [go_sem]
end Go.Pv
end
section
/-The document's bad,Reckon,Scale,Has,In. -/
set_option maxRecDepth 100000
namespace Go.Pv
open Go.Proofs
theorem x2x (p:Int) (l:List Nm) (st:Q0f) (hl:l.length≤1000000) (hw: ∀i,i<l.length→wN (l.getD i default)):PCalls Tryz.prog 188 [.sc (.int .i64 p),.sl .no (Z0b l)] st (fun r st'=>r= .sc (.bool (!(l.all Q0j&&Z0p p)))∧st'=st):=by
 refine Q0b none Tryz.func188 rfl fun E=>Q0a ?_
 simp -dsimp only [go_sem]
 refine Q0e [true,true,false,false,false,true] 0 0 (fun n s=> ∃i,n=l.length-i∧i≤l.length∧(∀j,j<i→Q0j (l.getD j default)=true)∧s=⟨[.sc (.int .i64 p),.sl .no (Z0b l),.junk,.junk,.junk,.sc (.int .i64 (i:Nat))]++List.replicate 18 .junk,[],[],st⟩) l.length ?_ ?_
 · simp -dsimp only [go_sem]
   exact⟨0,by omega,by omega,fun j hj=>by omega,rfl⟩
 · rintro n s ⟨i,rfl,hi,hr,rfl⟩
   simp -dsimp only [go_sem]
   refine ck (fun h=> ?_) (fun h=> ?_)
   · have hlt:i<l.length:=by have:=of_decide_eq_true h;omega
     have e1:=J0w l i hlt
     have e3:IntKind.i64.wrap ((i:Int)+1)=((i+1:Nat):Int):=by rw [Q0r _ (by omega) (by omega)];omega
     have w:=hw i hlt
     simp -dsimp only [go_sem,e1]
     refine⟨⟨by omega,hlt⟩,?_⟩
     refine(W0i _ _ (by unfold wN at w;omega)).mono ?_
     rintro r st ⟨rfl,rfl⟩
     simp -dsimp only [go_sem]
     refine ck (fun h=> ?_) (fun h=> ?_)
     · have hf:Q0j (l.getD i default)=false:=by simpa using h
       have ha:l.all Q0j=false:=by
        cases hb:l.all Q0j with
        | false=>rfl
        | true=>rw [(H0z default Q0j l).1 hb i hlt] at hf;cases hf
       simp -dsimp only [go_sem]
       rw [ha];rfl
     · have ht:Q0j (l.getD i default)=true:=by simpa using h
       simp -dsimp only [go_sem,e3]
       refine⟨l.length-(i+1),by omega,i+1,rfl,by omega,fun j hj=> ?_,rfl⟩
       by_cases e:j=i
       · subst e;exact ht
       · exact hr j (by omega)
   · have hge:i=l.length:=by have:=of_decide_eq_false h;omega
     have ha:l.all Q0j=true:=(H0z default Q0j l).2 fun j hj=>hr j (by omega)
     rw [ha]
     simp -dsimp only [go_sem]
     refine Q0a ?_
     unfold Z0p
     by_cases c1:p<8
     · have f1:decide (p<8)=true:=decide_eq_true c1
       have f2:decide (8≤p)=false:=decide_eq_false (by omega)
       simp -dsimp only [go_sem,f1,f2]
       try rfl
     · have f1:decide (p<8)=false:=decide_eq_false c1
       have f2:decide (8≤p)=true:=decide_eq_true (by omega)
       have f3:decide (p>256)= !decide (p≤256):=by
        by_cases c:p≤256
        · rw [decide_eq_true c,decide_eq_false (by omega)];rfl
        · rw [decide_eq_false c,decide_eq_true (by omega)];rfl
       simp -dsimp only [go_sem,f1,f2,f3]
       try rfl
theorem y0r (a b:Nm) (p:Int) (up:Bool) (st:Q0f) (ha:wN a) (hb:wN b):PCalls Tryz.prog 127 [.sc (.int .i64 0),.agg (encN a),.agg (encN b),.sc (.int .i64 p),.sc (.bool up)] st (fun r st'=>r= .tup [.agg (encN (Q0t 0 a b p up).1),.sc (.int .i64 (Q0t 0 a b p up).2)]∧st'=st):=by
 refine Q0b none Tryz.func127 rfl fun E=>Q0a ?_
 have e0: ∀x y:Nm,[PV.agg [.sc (.bool x.neg),.sc (.int .i64 x.exp),.sl .no (encW x.w)],.agg [.sc (.bool y.neg),.sc (.int .i64 y.exp),.sl .no (encW y.w)]]=Z0b [x,y]:=fun x y=>rfl
 simp -dsimp only [go_sem,e0]
 refine(x2x p [a,b] _ (by simp) (fun i hi=>by
  match i,hi with
  | 0,_=>exact ha
  | 1,_=>exact hb)).mono ?_
 rintro r st ⟨rfl,rfl⟩
 simp -dsimp only [go_sem]
 refine ck (fun h=> ?_) (fun h=> ?_)
 · simp -dsimp only [go_sem]
   rw [Q0t,if_neg (fun hh=>by simp [hh.1,hh.2.1,hh.2.2] at h)];rfl
 · have hv:Q0j a=true∧Q0j b=true∧Z0p p=true:=by simpa [and_assoc] using h
   obtain⟨r1,r2,r3⟩:=hv
   obtain⟨q,rfl,q1,q2,q3⟩:=K0e r3
   have hm:Q0t 0 a b q up=numV (Z0h (G0w (ofN a) (ofN b)) q up):=by rw [Q0t,if_pos ⟨r1,r2,r3⟩,q3];rfl
   rw [hm]
   have d1:=J0x r1
   have d2:=J0x r2
   simp -dsimp only [go_sem]
   refine W0r Z0f 49 [0,1,2,3] [4,5] [6,7] (.step 0 [] (.step 2 [] (.step 1 [2] (.step 3 [] (.done))))) (.step 6 [] (.step 7 [] (.done))) (by decide+kernel) (by simp) ?_
   simp -dsimp only [go_sem]
   refine(of_c a _ (V0u r1)).mono ?_
   rintro r st ⟨rfl,rfl⟩
   simp -dsimp only [go_sem]
   refine(of_c b _ (V0u r2)).mono ?_
   rintro r st ⟨rfl,rfl⟩
   generalize ofN a=x at*
   generalize ofN b=y at*
   simp -dsimp only [go_sem]
   refine(Q2w x y _ (X0p d1 (by omega) (by omega)) (X0p d2 (by omega) (by omega))).mono ?_
   rintro r st ⟨rfl,rfl⟩
   have e1:=Q1p d1 d2
   simp -dsimp only [go_sem]
   refine(Y0z _ q up _ (X0p e1 (by omega) (by omega)) (by omega)).mono ?_
   rintro r st ⟨rfl,rfl⟩
   have e2:=V0n e1 q up
   simp -dsimp only [go_sem]
   refine(Q1t _ _ (J0f e2 (by omega))).mono ?_
   rintro r st ⟨rfl,rfl⟩
   simp -dsimp only [go_sem]
theorem q0t (a b:Nm) (p:Int) (up:Bool) (st:Q0f) (ha:wN a) (hb:wN b):PCalls Tryz.prog 127 [.sc (.int .i64 1),.agg (encN a),.agg (encN b),.sc (.int .i64 p),.sc (.bool up)] st (fun r st'=>r= .tup [.agg (encN (Q0t 1 a b p up).1),.sc (.int .i64 (Q0t 1 a b p up).2)]∧st'=st):=by
 refine Q0b none Tryz.func127 rfl fun E=>Q0a ?_
 have e0: ∀x y:Nm,[PV.agg [.sc (.bool x.neg),.sc (.int .i64 x.exp),.sl .no (encW x.w)],.agg [.sc (.bool y.neg),.sc (.int .i64 y.exp),.sl .no (encW y.w)]]=Z0b [x,y]:=fun x y=>rfl
 simp -dsimp only [go_sem,e0]
 refine(x2x p [a,b] _ (by simp) (fun i hi=>by
  match i,hi with
  | 0,_=>exact ha
  | 1,_=>exact hb)).mono ?_
 rintro r st ⟨rfl,rfl⟩
 simp -dsimp only [go_sem]
 refine ck (fun h=> ?_) (fun h=> ?_)
 · simp -dsimp only [go_sem]
   rw [Q0t,if_neg (fun hh=>by simp [hh.1,hh.2.1,hh.2.2] at h)];rfl
 · have hv:Q0j a=true∧Q0j b=true∧Z0p p=true:=by simpa [and_assoc] using h
   obtain⟨r1,r2,r3⟩:=hv
   obtain⟨q,rfl,q1,q2,q3⟩:=K0e r3
   have hm:Q0t 1 a b q up=numV (Z0h (H0a (ofN a) (ofN b)) q up):=by rw [Q0t,if_pos ⟨r1,r2,r3⟩,q3];rfl
   rw [hm]
   have d1:=J0x r1
   have d2:=J0x r2
   simp -dsimp only [go_sem]
   refine W0r Z0f 49 [0,1,2,3] [4,5] [6,7] (.step 0 [] (.step 2 [] (.step 1 [2] (.step 3 [] (.done))))) (.step 6 [] (.step 7 [] (.done))) (by decide+kernel) (by simp) ?_
   simp -dsimp only [go_sem]
   refine(of_c a _ (V0u r1)).mono ?_
   rintro r st ⟨rfl,rfl⟩
   simp -dsimp only [go_sem]
   refine(of_c b _ (V0u r2)).mono ?_
   rintro r st ⟨rfl,rfl⟩
   generalize ofN a=x at*
   generalize ofN b=y at*
   simp -dsimp only [go_sem]
   refine(x1z x y _ (X0p d1 (by omega) (by omega)) (X0p d2 (by omega) (by omega))).mono ?_
   rintro r st ⟨rfl,rfl⟩
   have e1:=Y1z d1 d2
   simp -dsimp only [go_sem]
   refine(Y0z _ q up _ (X0p e1 (by omega) (by omega)) (by omega)).mono ?_
   rintro r st ⟨rfl,rfl⟩
   have e2:=V0n e1 q up
   simp -dsimp only [go_sem]
   refine(Q1t _ _ (J0f e2 (by omega))).mono ?_
   rintro r st ⟨rfl,rfl⟩
   simp -dsimp only [go_sem]
theorem y0q (a b:Nm) (p:Int) (up:Bool) (st:Q0f) (ha:wN a) (hb:wN b):PCalls Tryz.prog 127 [.sc (.int .i64 2),.agg (encN a),.agg (encN b),.sc (.int .i64 p),.sc (.bool up)] st (fun r st'=>r= .tup [.agg (encN (Q0t 2 a b p up).1),.sc (.int .i64 (Q0t 2 a b p up).2)]∧st'=st):=by
 refine Q0b none Tryz.func127 rfl fun E=>Q0a ?_
 have e0: ∀x y:Nm,[PV.agg [.sc (.bool x.neg),.sc (.int .i64 x.exp),.sl .no (encW x.w)],.agg [.sc (.bool y.neg),.sc (.int .i64 y.exp),.sl .no (encW y.w)]]=Z0b [x,y]:=fun x y=>rfl
 simp -dsimp only [go_sem,e0]
 refine(x2x p [a,b] _ (by simp) (fun i hi=>by
  match i,hi with
  | 0,_=>exact ha
  | 1,_=>exact hb)).mono ?_
 rintro r st ⟨rfl,rfl⟩
 simp -dsimp only [go_sem]
 refine ck (fun h=> ?_) (fun h=> ?_)
 · simp -dsimp only [go_sem]
   rw [Q0t,if_neg (fun hh=>by simp [hh.1,hh.2.1,hh.2.2] at h)];rfl
 · have hv:Q0j a=true∧Q0j b=true∧Z0p p=true:=by simpa [and_assoc] using h
   obtain⟨r1,r2,r3⟩:=hv
   obtain⟨q,rfl,q1,q2,q3⟩:=K0e r3
   have hm:Q0t 2 a b q up=numV (Z0h (byV (ofN a) (ofN b)) q up):=by rw [Q0t,if_pos ⟨r1,r2,r3⟩,q3];rfl
   rw [hm]
   have d1:=J0x r1
   have d2:=J0x r2
   simp -dsimp only [go_sem]
   refine W0r Z0f 49 [0,1,2,3] [4,5] [6,7] (.step 0 [] (.step 2 [] (.step 1 [2] (.step 3 [] (.done))))) (.step 6 [] (.step 7 [] (.done))) (by decide+kernel) (by simp) ?_
   simp -dsimp only [go_sem]
   refine(of_c a _ (V0u r1)).mono ?_
   rintro r st ⟨rfl,rfl⟩
   simp -dsimp only [go_sem]
   refine(of_c b _ (V0u r2)).mono ?_
   rintro r st ⟨rfl,rfl⟩
   generalize ofN a=x at*
   generalize ofN b=y at*
   simp -dsimp only [go_sem]
   refine(x1y x y _ (X0p d1 (by omega) (by omega)) (X0p d2 (by omega) (by omega))).mono ?_
   rintro r st ⟨rfl,rfl⟩
   have e1:=w1g d1 d2
   simp -dsimp only [go_sem]
   refine(Y0z _ q up _ (X0p e1 (by omega) (by omega)) (by omega)).mono ?_
   rintro r st ⟨rfl,rfl⟩
   have e2:=V0n e1 q up
   simp -dsimp only [go_sem]
   refine(Q1t _ _ (J0f e2 (by omega))).mono ?_
   rintro r st ⟨rfl,rfl⟩
   simp -dsimp only [go_sem]
end Go.Pv
end
section
/-The document's boxes:Points,HasPoint,InBox,MeetBox,OpBox,Times,MidBox. -/
set_option maxRecDepth 100000
namespace Go.Pv
open Go.Proofs
theorem k0w (p:Int) (st:Q0f):PCalls Tryz.prog 123 [.sc (.int .i64 p)] st (fun r st'=>r= .sc (.bool (Z0p p))∧st'=st):=by
 refine Q0b none Tryz.func123 rfl fun E=>Q0a ?_
 unfold Z0p
 by_cases h:8≤p
 · have f1:decide (p≥8)=true:=decide_eq_true h
   have f2:decide (8≤p)=true:=decide_eq_true h
   simp -dsimp only [go_sem,f1,f2]
   try simp
 · have f1:decide (p≥8)=false:=decide_eq_false h
   have f2:decide (8≤p)=false:=decide_eq_false h
   simp -dsimp only [go_sem,f1,f2]
   try simp
theorem G2y (q:List Nm) (st:Q0f) (hq:wNs q):PCalls Tryz.prog 192 [.sl .no (Z0b q)] st (fun r st'=>r= .sl (.fresh 6) (Z0d (ofB q))∧st'=st):=by
 obtain⟨hl,hw⟩:=hq
 refine Q0b none Tryz.func192 rfl fun E=>Q0a ?_
 simp -dsimp only [go_sem]
 refine X0c 3 6 ?_
 simp -dsimp only [go_sem]
 refine Q0e [true,false,false,true,true] 0 1
  (fun n s=> ∃i,n=q.length-i∧i≤q.length∧s=⟨[.sl .no (Z0b q),.junk,.junk,.sl (.own 0) (Z0d (ofB (q.take i))),.sc (.int .i64 (i:Nat))]++List.replicate 15 .junk,[],[((ofB (q.take i)).length,6)],st⟩) q.length ?_ ?_
 · simp -dsimp only [go_sem]
   exact⟨0,by omega,by omega,rfl⟩
 · rintro n s ⟨i,rfl,hi,rfl⟩
   simp -dsimp only [go_sem]
   refine ck (fun h'=> ?_) (fun h'=> ?_)
   · have hlt:i<q.length:=by have:=of_decide_eq_true h';omega
     have e1:=J0w q i hlt
     have e3:IntKind.i64.wrap ((i:Int)+1)=((i+1:Nat):Int):=by rw [Q0r _ (by omega) (by omega)];omega
     have ll:(ofB (q.take i)).length=i:=by simp [ofB];omega
     simp -dsimp only [go_sem,e1]
     refine⟨⟨by omega,hlt⟩,?_⟩
     refine(w2y _ _).mono ?_
     rintro r st ⟨rfl,rfl⟩
     simp -dsimp only [go_sem,e3]
     refine⟨⟨by omega,by omega⟩,q.length-(i+1),by omega,i+1,rfl,by omega,?_⟩
     rw [W1x q i hlt]
     simp [Z0d,encI]
   · have hge:i=q.length:=by have:=of_decide_eq_false h';omega
     simp -dsimp only [go_sem]
     refine Q0a ?_
     simp -dsimp only [go_sem]
     rw [hge,List.take_length]
theorem H2d (a b:List Ivl) (p:Int) (st:Q0f) (ha:wB a) (hb:wB b):PCalls Tryz.prog 168 [.sc (.int .i64 1),.sl .no (Z0d a),.sl .no (Z0d b),.sc (.int .i64 p)] st (fun r st'=>r= .tup [.sl .no (Z0d (opB 1 a b p).1),.sc (.int .i64 (opB 1 a b p).2)]∧st'=st):=by
 refine Q0b none Tryz.func168 rfl fun E=>Q0a ?_
 simp -dsimp only [go_sem]
 refine(w0o a _ ha).mono ?_
 rintro r st ⟨rfl,rfl⟩
 cases r1:rightB a with
 | false=>
  simp -dsimp only [go_sem]
  rw [opB,if_neg (by simp [r1])];rfl
 | true=>
  simp -dsimp only [go_sem]
  refine(w0o b _ hb).mono ?_
  rintro r st ⟨rfl,rfl⟩
  cases r2:rightB b with
  | false=>
   simp -dsimp only [go_sem]
   rw [opB,if_neg (by simp [r2])];rfl
  | true=>
   by_cases hl:a.length=b.length
   · have f1:((a.length:Int) !=(b.length:Int))=false:=by rw [hl];simp
     simp -dsimp only [go_sem,f1]
     refine(k0w p _).mono ?_
     rintro r st ⟨rfl,rfl⟩
     cases r3:Z0p p with
     | false=>
      simp -dsimp only [go_sem,f1]
      rw [opB,if_neg (by simp [r3])];rfl
     | true=>
      have hla:=ha.1
      have hab:opB 1 a b p=Q1b (fun i x=>opI 1 x (b.getD i default) p) 0 a []:=if_pos ⟨r1,r2,hl,r3⟩
      rw [hab]
      simp -dsimp only [go_sem,f1]
      refine X0c 10 6 ?_
      simp -dsimp only [go_sem]
      refine Q0e [true,true,true,true,false,false,false,false,false,false,true,true] 0 1 (fun n s=> ∃i o,n=a.length-i∧i≤a.length∧o.length=i∧Q1b (fun i x=>opI 1 x (b.getD i default) p) 0 a []=Q1b (fun i x=>opI 1 x (b.getD i default) p) i (a.drop i) o∧s=⟨[.sc (.int .i64 1),.sl .no (Z0d a),.sl .no (Z0d b),.sc (.int .i64 p),.junk,.junk,.junk,.junk,.junk,.junk,.sl (.own 0) (Z0d o),.sc (.int .i64 (i:Nat))]++List.replicate 50 .junk,[],[(o.length,6)],st⟩) a.length ?_ ?_
      · simp -dsimp only [go_sem]
        exact⟨0,[],by omega,by omega,rfl,rfl,rfl⟩
      · rintro n s ⟨i,o,rfl,hi,ho,hr,rfl⟩
        simp -dsimp only [go_sem]
        refine ck (fun h'=> ?_) (fun h'=> ?_)
        · have hlt:i<a.length:=by have:=of_decide_eq_true h';omega
          have e1:=X0d a i hlt
          have e2:=X0d b i (by omega)
          have e3:IntKind.i64.wrap ((i:Int)+1)=((i+1:Nat):Int):=by rw [Q0r _ (by omega) (by omega)];omega
          have e4:=Q2x (fun i x=>opI 1 x (b.getD i default) p) a i o hlt
          simp -dsimp only [go_sem]
          refine Q0k Z0f 62 (.step 0 [] (.step 1 [] (.step 2 [] (.step 3 [] (.step 4 [] (.step 5 [] (.step 6 [] (.step 7 [] (.step 8 [] (.step 9 [] (.alt (.step 10 [] (.step 11 [] (.step 12 [] (.step 13 [] (.step 14 [4,8] (.step 15 [] (.step 16 [] (.done)))))))) (.step 14 [4,8] (.step 10 [] (.step 11 [] (.step 12 [] (.step 13 [] (.step 15 [] (.step 16 [] (.done))))))))))))))))))) (by decide+kernel) (by simp) ?_
          simp -dsimp only [go_sem,e1,e2]
          refine⟨⟨by omega,by omega⟩,⟨by omega,by omega⟩,?_,?_⟩
          all_goals
           refine(G2k _ _ p _ (ha.2 i hlt) (hb.2 i (by omega))).mono ?_
           rintro r st ⟨rfl,rfl⟩
           simp -dsimp only [go_sem,e1,e2]
           refine ck (fun h2=> ?_) (fun h2=> ?_)
           · have hne:=q0k h2
             simp -dsimp only [go_sem]
             rw [hr,e4,if_pos hne];rfl
           · have he:=x0m h2
             simp -dsimp only [go_sem,e3]
             refine⟨by omega,a.length-(i+1),by omega,i+1,o++ [(opI 1 (a.getD i default) (b.getD i default) p).1],rfl,by omega,by simp [ho],?_,?_⟩
             · rw [hr,e4,if_neg (fun hh=>hh he)]
             · simp [Z0d,encI]
        · have hge:i=a.length:=by have:=of_decide_eq_false h';omega
          simp -dsimp only [go_sem]
          refine Q0a ?_
          simp -dsimp only [go_sem]
          rw [hr,hge,List.drop_length];rfl
   · have f1:((a.length:Int) !=(b.length:Int))=true:=by rw [bne_iff_ne];omega
     simp -dsimp only [go_sem,f1]
     rw [opB,if_neg (fun h=>hl h.2.2.1)];rfl
end Go.Pv
end
