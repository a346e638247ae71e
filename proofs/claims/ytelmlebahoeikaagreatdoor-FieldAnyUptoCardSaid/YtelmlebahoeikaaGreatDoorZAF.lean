/- Parts of the walk: N17, N18. -/
import Derived.Test.YtelmlebahoeikaaGreatDoorZAE
import Derived.Test.YtelmlebahoeikaaGreatDoorZAA
import Derived.Test.YtelmlebahoeikaaGreatDoorZY
import Derived.Test.YtelmlebahoeikaaGreatDoorZH
set_option linter.unusedVariables false
set_option linter.unusedSimpArgs false
section
/- The document's Wide, Mid, least, greatest, ends, Op. -/
set_option linter.unusedVariables false
set_option linter.unusedSimpArgs false
set_option maxRecDepth 100000
namespace Go.Pv
open Go.Proofs
theorem smV_bd {v : Vl} {n k : Nat} (h : bdV n k v) (h1 : n ≤ 1000000000000) (h2 : k ≤ 100000000000) : smV v := ⟨by have := h.1; omega, by have := h.2.1; omega, by have := h.2.2; omega⟩
theorem sm_wN1 {x : Nm} (h : rightN x = true) : x.w.length ≤ 1000000000000 := by have := (rightN_bd h).1; omega
theorem precs1_c (p : Int) (st : Store) : PCalls Tryz.prog 233 [.sc (.int .i64 p)] st (fun r st' => r = .sc (.bool (precF p)) ∧ st' = st) := by
  refine pcalls_enter none Tryz.func233 rfl fun E => pwp_of_vc ?_
  unfold precF
  by_cases h : 8 ≤ p
  · have f1 : decide (p ≥ 8) = true := decide_eq_true h
    have f2 : decide (8 ≤ p) = true := decide_eq_true h
    simp -dsimp only [go_sem, f1, f2]
    try simp
  · have f1 : decide (p ≥ 8) = false := decide_eq_false h
    have f2 : decide (8 ≤ p) = false := decide_eq_false h
    simp -dsimp only [go_sem, f1, f2]
    try simp
theorem ends1_c (lo hi : Vl) (st : Store) (h1 : (digitsOf lo.m).length ≤ 1000000000000) (h2 : (digitsOf hi.m).length ≤ 1000000000000) : PCalls Tryz.prog 235 [.agg (encV lo), .agg (encV hi)] st
    (fun r st' => r = .tup [.agg (encI (endsV lo hi).1), .sc (.int .i64 (endsV lo hi).2)] ∧ st' = st) := by
  refine pcalls_enter none Tryz.func235 rfl fun E => pwp_of_vc ?_
  unfold endsV
  simp -dsimp only [go_sem]
  refine (vnum_c lo _ h1).mono ?_
  rintro r st ⟨rfl, rfl⟩
  simp -dsimp only [go_sem]
  refine (vnum_c hi _ h2).mono ?_
  rintro r st ⟨rfl, rfl⟩
  by_cases c1 : (numV lo).2 = 0
  · have f1 : ((numV lo).2 != 0) = false := by rw [c1]; rfl
    by_cases c2 : (numV hi).2 = 0
    · have f2 : ((numV hi).2 != 0) = false := by rw [c2]; rfl
      rw [if_pos ⟨c1, c2⟩]
      simp -dsimp only [go_sem, f1, f2]
      try rfl
    · have f2 : ((numV hi).2 != 0) = true := bne_iff_ne.2 c2
      rw [if_neg (fun h => c2 h.2)]
      simp -dsimp only [go_sem, f1, f2]
      try rfl
  · have f1 : ((numV lo).2 != 0) = true := bne_iff_ne.2 c1
    rw [if_neg (fun h => c1 h.1)]
    simp -dsimp only [go_sem, f1]
    try rfl
end Go.Pv
end

section
/- The document's least, greatest, Op. -/
set_option linter.unusedVariables false
set_option linter.unusedSimpArgs false
set_option maxRecDepth 100000
namespace Go.Pv
open Go.Proofs
theorem leastV_c (x y u v : Vl) (st : Store) (hx : bdV 10000000 10000000 x) (hy : bdV 10000000 10000000 y) (hu : bdV 10000000 10000000 u) (hv : bdV 10000000 10000000 v) : PCalls Tryz.prog 238 [.agg (encV x), .agg (encV y), .agg (encV u), .agg (encV v)] st (fun r st' => r = .agg (encV (leastV x y u v)) ∧ st' = st) := by
  have sx := smV_bd hx (by omega) (by omega)
  have sy := smV_bd hy (by omega) (by omega)
  have su := smV_bd hu (by omega) (by omega)
  have sv := smV_bd hv (by omega) (by omega)
  refine pcalls_enter none Tryz.func238 rfl fun E => pwp_of_vc ?_
  unfold leastV
  simp -dsimp only [go_sem]
  refine (signV_c x _).mono ?_
  rintro r st ⟨rfl, rfl⟩
  by_cases c1 : 0 ≤ signV x
  · have f1 : decide (signV x ≥ 0) = true := decide_eq_true c1
    simp -dsimp only [go_sem, f1]
    refine (signV_c u _).mono ?_
    rintro r st ⟨rfl, rfl⟩
    by_cases c2 : 0 ≤ signV u
    · have f2 : decide (signV u ≥ 0) = true := decide_eq_true c2
      rw [if_pos ⟨c1, c2⟩]
      simp -dsimp only [go_sem, f1, f2]
      refine (by_c x u _ sx su).mono ?_
      rintro r st ⟨rfl, rfl⟩
      simp -dsimp only [go_sem]
    · have f2 : decide (signV u ≥ 0) = false := decide_eq_false c2
      rw [if_neg (fun h => c2 h.2), if_pos c1]
      simp -dsimp only [go_sem, f1, f2]
      refine (signV_c x _).mono ?_
      rintro r st ⟨rfl, rfl⟩
      simp -dsimp only [go_sem, f1, f2]
      refine (by_c y u _ sy su).mono ?_
      rintro r st ⟨rfl, rfl⟩
      simp -dsimp only [go_sem]
  · have f1 : decide (signV x ≥ 0) = false := decide_eq_false c1
    rw [if_neg (fun h => c1 h.1), if_neg c1]
    simp -dsimp only [go_sem, f1]
    refine (signV_c x _).mono ?_
    rintro r st ⟨rfl, rfl⟩
    simp -dsimp only [go_sem, f1]
    refine (signV_c u _).mono ?_
    rintro r st ⟨rfl, rfl⟩
    by_cases c2 : 0 ≤ signV u
    · have f2 : decide (signV u ≥ 0) = true := decide_eq_true c2
      rw [if_pos c2]
      simp -dsimp only [go_sem, f1, f2]
      refine (by_c x v _ sx sv).mono ?_
      rintro r st ⟨rfl, rfl⟩
      simp -dsimp only [go_sem]
    · have f2 : decide (signV u ≥ 0) = false := decide_eq_false c2
      rw [if_neg c2]
      simp -dsimp only [go_sem, f1, f2]
      refine (signV_c y _).mono ?_
      rintro r st ⟨rfl, rfl⟩
      by_cases c3 : signV y ≤ 0 ∧ signV v ≤ 0
      · have f3 : decide (signV y ≤ 0) = true := decide_eq_true c3.1
        have f4 : decide (signV v ≤ 0) = true := decide_eq_true c3.2
        rw [if_pos c3]
        simp -dsimp only [go_sem, f3]
        refine (signV_c v _).mono ?_
        rintro r st ⟨rfl, rfl⟩
        simp -dsimp only [go_sem, f3, f4]
        refine (by_c y v _ sy sv).mono ?_
        rintro r st ⟨rfl, rfl⟩
        simp -dsimp only [go_sem]
      · rw [if_neg c3]
        have q1 := bdV_by hx hv
        have q2 := bdV_by hy hu
        have tail : ∀ (Z : Prop), Z → Z := fun _ h => h
        cases f3 : decide (signV y ≤ 0) with
        | false =>
          simp -dsimp only [go_sem, f3]
          refine pwp_of_vc ?_
          simp -dsimp only [go_sem]
          refine pwp_late mixed 61 [0, 1, 2, 3, 4, 5] [6, 7] [8, 9] (.step 0 [] (.step 1 [] (.step 3 [] (.step 4 [] (.step 2 [3, 4] (.step 5 [] (.done))))))) (.step 8 [] (.step 9 [] (.done))) (by decide +kernel) (by simp) ?_
          simp -dsimp only [go_sem]
          refine (by_c x v _ sx sv).mono ?_
          rintro r st ⟨rfl, rfl⟩
          simp -dsimp only [go_sem]
          refine (by_c y u _ sy su).mono ?_
          rintro r st ⟨rfl, rfl⟩
          simp -dsimp only [go_sem]
          refine (order_c _ _ _ (smV_bd q2 (by omega) (by omega)) (smV_bd q1 (by omega) (by omega))).mono ?_
          rintro r st ⟨rfl, rfl⟩
          simp -dsimp only [go_sem]
          refine ck (fun h => ?_) (fun h => ?_)
          · have hc : orderV (byV y u) (byV x v) < 0 := of_decide_eq_true h
            rw [if_pos hc]
            simp -dsimp only [go_sem]
            try rfl
          · have hc : ¬ orderV (byV y u) (byV x v) < 0 := of_decide_eq_false h
            rw [if_neg hc]
            simp -dsimp only [go_sem]
            try rfl
        | true =>
          have f4 : decide (signV v ≤ 0) = false := decide_eq_false fun h => c3 ⟨of_decide_eq_true f3, h⟩
          simp -dsimp only [go_sem, f3]
          refine (signV_c v _).mono ?_
          rintro r st ⟨rfl, rfl⟩
          simp -dsimp only [go_sem, f3, f4]
          refine pwp_of_vc ?_
          simp -dsimp only [go_sem]
          refine pwp_late mixed 61 [0, 1, 2, 3, 4, 5] [6, 7] [8, 9] (.step 0 [] (.step 1 [] (.step 3 [] (.step 4 [] (.step 2 [3, 4] (.step 5 [] (.done))))))) (.step 8 [] (.step 9 [] (.done))) (by decide +kernel) (by simp) ?_
          simp -dsimp only [go_sem]
          refine (by_c x v _ sx sv).mono ?_
          rintro r st ⟨rfl, rfl⟩
          simp -dsimp only [go_sem]
          refine (by_c y u _ sy su).mono ?_
          rintro r st ⟨rfl, rfl⟩
          simp -dsimp only [go_sem]
          refine (order_c _ _ _ (smV_bd q2 (by omega) (by omega)) (smV_bd q1 (by omega) (by omega))).mono ?_
          rintro r st ⟨rfl, rfl⟩
          simp -dsimp only [go_sem]
          refine ck (fun h => ?_) (fun h => ?_)
          · have hc : orderV (byV y u) (byV x v) < 0 := of_decide_eq_true h
            rw [if_pos hc]
            simp -dsimp only [go_sem]
            try rfl
          · have hc : ¬ orderV (byV y u) (byV x v) < 0 := of_decide_eq_false h
            rw [if_neg hc]
            simp -dsimp only [go_sem]
            try rfl
theorem greatV_c (x y u v : Vl) (st : Store) (hx : bdV 10000000 10000000 x) (hy : bdV 10000000 10000000 y) (hu : bdV 10000000 10000000 u) (hv : bdV 10000000 10000000 v) : PCalls Tryz.prog 239 [.agg (encV x), .agg (encV y), .agg (encV u), .agg (encV v)] st (fun r st' => r = .agg (encV (greatV x y u v)) ∧ st' = st) := by
  refine pcalls_enter none Tryz.func239 rfl fun E => pwp_of_vc ?_
  simp -dsimp only [go_sem]
  refine pwp_draw mixed 17 (.step 0 [] (.step 2 [] (.step 4 [] (.step 5 [] (.step 1 [2, 4, 5] (.step 3 [4, 5] (.step 6 [] (.step 7 [] (.step 8 [] (.done)))))))))) (by decide +kernel) (by simp) ?_
  simp -dsimp only [go_sem]
  refine (turned_c y _).mono ?_
  rintro r st ⟨rfl, rfl⟩
  simp -dsimp only [go_sem]
  refine (turned_c x _).mono ?_
  rintro r st ⟨rfl, rfl⟩
  simp -dsimp only [go_sem]
  refine (leastV_c (turnV y) (turnV x) u v _ (bdV_turn hy) (bdV_turn hx) hu hv).mono ?_
  rintro r st ⟨rfl, rfl⟩
  simp -dsimp only [go_sem]
  refine (turned_c _ _).mono ?_
  rintro r st ⟨rfl, rfl⟩
  simp -dsimp only [go_sem]
  try rfl
theorem refOp0_c (a b : Ivl) (p : Int) (st : Store) (ha : wI a) (hb : wI b) : PCalls Tryz.prog 182 [.sc (.int .i64 0), .agg (encI a), .agg (encI b), .sc (.int .i64 p)] st (fun r st' => r = .tup [.agg (encI (opI 0 a b p).1), .sc (.int .i64 (opI 0 a b p).2)] ∧ st' = st) := by
  refine pcalls_enter none Tryz.func182 rfl fun E => pwp_of_vc ?_
  simp -dsimp only [go_sem]
  refine (refRightIv_c a _ ha).mono ?_
  rintro r st ⟨rfl, rfl⟩
  cases r1 : rightI a with
  | false =>
    simp -dsimp only [go_sem]
    rw [opI, if_neg (by simp [r1])]; rfl
  | true =>
    simp -dsimp only [go_sem]
    refine (refRightIv_c b _ hb).mono ?_
    rintro r st ⟨rfl, rfl⟩
    cases r2 : rightI b with
    | false =>
      simp -dsimp only [go_sem]
      rw [opI, if_neg (by simp [r2])]; rfl
    | true =>
      simp -dsimp only [go_sem]
      refine (precs1_c p _).mono ?_
      rintro r st ⟨rfl, rfl⟩
      cases r3 : precF p with
      | false =>
        simp -dsimp only [go_sem]
        rw [opI, if_neg (by simp [r3])]; rfl
      | true =>
        obtain ⟨q, rfl, q1, q2, q3⟩ := precF_nat r3
        obtain ⟨a1, a2, _⟩ := rightI_right r1
        obtain ⟨b1, b2, _⟩ := rightI_right r2
        have hm : opI 0 a b q = endsV (roundV (loV 0 (ofN a.lo) (ofN a.hi) (ofN b.lo) (ofN b.hi)) q false) (roundV (hiV 0 (ofN a.lo) (ofN a.hi) (ofN b.lo) (ofN b.hi)) q true) := by rw [opI, if_pos ⟨r1, r2, r3⟩, q3]
        rw [hm]
        have d1 := bdV_ofN a1
        have d2 := bdV_ofN a2
        have d3 := bdV_ofN b1
        have d4 := bdV_ofN b2
        simp -dsimp only [go_sem]
        refine pwp_late mixed 110 [0, 1, 2, 3, 4, 5, 6, 7, 8, 9, 10, 11] [12, 13, 14, 15] [16, 17, 18, 19] (.step 0 [] (.step 1 [] (.step 3 [] (.step 4 [] (.step 6 [] (.step 7 [] (.step 9 [] (.step 10 [] (.step 2 [4, 7, 10] (.step 5 [7, 10] (.step 8 [10] (.step 11 [1] (.done))))))))))))) (.step 16 [4] (.step 17 [7] (.step 18 [] (.step 19 [] (.done))))) (by decide +kernel) (by simp) ?_
        simp -dsimp only [go_sem]
        refine (of_c a.lo _ (sm_wN1 a1)).mono ?_
        rintro r st ⟨rfl, rfl⟩
        simp -dsimp only [go_sem]
        refine (of_c a.hi _ (sm_wN1 a2)).mono ?_
        rintro r st ⟨rfl, rfl⟩
        simp -dsimp only [go_sem]
        refine (of_c b.lo _ (sm_wN1 b1)).mono ?_
        rintro r st ⟨rfl, rfl⟩
        simp -dsimp only [go_sem]
        refine (of_c b.hi _ (sm_wN1 b2)).mono ?_
        rintro r st ⟨rfl, rfl⟩
        generalize ofN a.lo = x at *
        generalize ofN a.hi = y at *
        generalize ofN b.lo = u at *
        generalize ofN b.hi = v at *
        simp -dsimp only [go_sem]
        rw [loV0, hiV0]
        refine pwp_draw mixed 110 (.step 0 [] (.step 1 [] (.step 3 [] (.step 5 [] (.step 6 [] (.step 8 [] (.step 2 [5, 6] (.step 4 [5, 6] (.step 7 [] (.step 9 [0, 1] (.step 10 [] (.step 11 [] (.step 12 [] (.step 13 [] (.step 14 [] (.done)))))))))))))))) (by decide +kernel) (by simp) ?_
        simp -dsimp only [go_sem]
        refine (plus_c _ _ _ (smV_bd d1 (by omega) (by omega)) (smV_bd d3 (by omega) (by omega))).mono ?_
        rintro r st ⟨rfl, rfl⟩
        have e1 := bdV_plus d1 d3
        simp -dsimp only [go_sem]
        refine (round_c _ q false _ (smV_bd e1 (by omega) (by omega)) (by omega)).mono ?_
        rintro r st ⟨rfl, rfl⟩
        have e2 := bdV_round e1 q false
        simp -dsimp only [go_sem]
        refine (plus_c _ _ _ (smV_bd d2 (by omega) (by omega)) (smV_bd d4 (by omega) (by omega))).mono ?_
        rintro r st ⟨rfl, rfl⟩
        have e3 := bdV_plus d2 d4
        simp -dsimp only [go_sem]
        refine (round_c _ q true _ (smV_bd e3 (by omega) (by omega)) (by omega)).mono ?_
        rintro r st ⟨rfl, rfl⟩
        have e4 := bdV_round e3 q true
        simp -dsimp only [go_sem]
        refine (ends1_c _ _ _ (bdV_digits e2 (by omega)) (bdV_digits e4 (by omega))).mono ?_
        rintro r st ⟨rfl, rfl⟩
        simp -dsimp only [go_sem]
theorem refOp2_c (a b : Ivl) (p : Int) (st : Store) (ha : wI a) (hb : wI b) : PCalls Tryz.prog 182 [.sc (.int .i64 2), .agg (encI a), .agg (encI b), .sc (.int .i64 p)] st (fun r st' => r = .tup [.agg (encI (opI 2 a b p).1), .sc (.int .i64 (opI 2 a b p).2)] ∧ st' = st) := by
  refine pcalls_enter none Tryz.func182 rfl fun E => pwp_of_vc ?_
  simp -dsimp only [go_sem]
  refine (refRightIv_c a _ ha).mono ?_
  rintro r st ⟨rfl, rfl⟩
  cases r1 : rightI a with
  | false =>
    simp -dsimp only [go_sem]
    rw [opI, if_neg (by simp [r1])]; rfl
  | true =>
    simp -dsimp only [go_sem]
    refine (refRightIv_c b _ hb).mono ?_
    rintro r st ⟨rfl, rfl⟩
    cases r2 : rightI b with
    | false =>
      simp -dsimp only [go_sem]
      rw [opI, if_neg (by simp [r2])]; rfl
    | true =>
      simp -dsimp only [go_sem]
      refine (precs1_c p _).mono ?_
      rintro r st ⟨rfl, rfl⟩
      cases r3 : precF p with
      | false =>
        simp -dsimp only [go_sem]
        rw [opI, if_neg (by simp [r3])]; rfl
      | true =>
        obtain ⟨q, rfl, q1, q2, q3⟩ := precF_nat r3
        obtain ⟨a1, a2, _⟩ := rightI_right r1
        obtain ⟨b1, b2, _⟩ := rightI_right r2
        have hm : opI 2 a b q = endsV (roundV (loV 2 (ofN a.lo) (ofN a.hi) (ofN b.lo) (ofN b.hi)) q false) (roundV (hiV 2 (ofN a.lo) (ofN a.hi) (ofN b.lo) (ofN b.hi)) q true) := by rw [opI, if_pos ⟨r1, r2, r3⟩, q3]
        rw [hm]
        have d1 := bdV_ofN a1
        have d2 := bdV_ofN a2
        have d3 := bdV_ofN b1
        have d4 := bdV_ofN b2
        simp -dsimp only [go_sem]
        refine pwp_late mixed 110 [0, 1, 2, 3, 4, 5, 6, 7, 8, 9, 10, 11] [12, 13, 14, 15] [16, 17, 18, 19] (.step 0 [] (.step 1 [] (.step 3 [] (.step 4 [] (.step 6 [] (.step 7 [] (.step 9 [] (.step 10 [] (.step 2 [4, 7, 10] (.step 5 [7, 10] (.step 8 [10] (.step 11 [1] (.done))))))))))))) (.step 16 [4] (.step 17 [7] (.step 18 [] (.step 19 [] (.done))))) (by decide +kernel) (by simp) ?_
        simp -dsimp only [go_sem]
        refine (of_c a.lo _ (sm_wN1 a1)).mono ?_
        rintro r st ⟨rfl, rfl⟩
        simp -dsimp only [go_sem]
        refine (of_c a.hi _ (sm_wN1 a2)).mono ?_
        rintro r st ⟨rfl, rfl⟩
        simp -dsimp only [go_sem]
        refine (of_c b.lo _ (sm_wN1 b1)).mono ?_
        rintro r st ⟨rfl, rfl⟩
        simp -dsimp only [go_sem]
        refine (of_c b.hi _ (sm_wN1 b2)).mono ?_
        rintro r st ⟨rfl, rfl⟩
        generalize ofN a.lo = x at *
        generalize ofN a.hi = y at *
        generalize ofN b.lo = u at *
        generalize ofN b.hi = v at *
        simp -dsimp only [go_sem]
        refine pwp_of_vc ?_
        simp -dsimp only [go_sem]
        refine pwp_late mixed 110 [0, 1, 2, 3, 4, 5, 6, 7, 8, 9] [10, 11] [12, 13] (.step 0 [] (.step 1 [] (.step 2 [] (.step 3 [] (.step 5 [] (.step 6 [] (.step 7 [] (.step 8 [] (.step 4 [5, 6, 7, 8] (.step 9 [] (.done))))))))))) (.step 12 [] (.step 13 [] (.done))) (by decide +kernel) (by simp) ?_
        simp -dsimp only [go_sem]
        refine (leastV_c x y u v _ (d1.mono (by omega) (by omega)) (d2.mono (by omega) (by omega)) (d3.mono (by omega) (by omega)) (d4.mono (by omega) (by omega))).mono ?_
        rintro r st ⟨rfl, rfl⟩
        simp -dsimp only [go_sem]
        refine (greatV_c x y u v _ (d1.mono (by omega) (by omega)) (d2.mono (by omega) (by omega)) (d3.mono (by omega) (by omega)) (d4.mono (by omega) (by omega))).mono ?_
        rintro r st ⟨rfl, rfl⟩
        have e1 := bdV_least d1 d2 d3 d4
        have e3 := bdV_great d1 d2 d3 d4
        have hl2 : loV 2 x y u v = leastV x y u v := rfl
        have hh2 : hiV 2 x y u v = greatV x y u v := rfl
        rw [hl2, hh2]
        generalize leastV x y u v = lo at *
        generalize greatV x y u v = hi at *
        simp -dsimp only [go_sem]
        refine pwp_draw mixed 110 (.step 0 [] (.step 1 [] (.step 3 [] (.step 4 [] (.step 2 [3] (.step 5 [] (.step 6 [] (.step 7 [] (.step 8 [] (.step 9 [] (.step 10 [] (.done)))))))))))) (by decide +kernel) (by simp) ?_
        simp -dsimp only [go_sem]
        refine (round_c _ q false _ (smV_bd e1 (by omega) (by omega)) (by omega)).mono ?_
        rintro r st ⟨rfl, rfl⟩
        have e2 := bdV_round e1 q false
        simp -dsimp only [go_sem]
        refine (round_c _ q true _ (smV_bd e3 (by omega) (by omega)) (by omega)).mono ?_
        rintro r st ⟨rfl, rfl⟩
        have e4 := bdV_round e3 q true
        simp -dsimp only [go_sem]
        refine (ends1_c _ _ _ (bdV_digits e2 (by omega)) (bdV_digits e4 (by omega))).mono ?_
        rintro r st ⟨rfl, rfl⟩
        simp -dsimp only [go_sem]
end Go.Pv
end
