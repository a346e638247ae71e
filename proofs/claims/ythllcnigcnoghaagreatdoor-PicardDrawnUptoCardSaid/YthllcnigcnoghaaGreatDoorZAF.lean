/- Parts of the walk: N17, N18, N19, N20. -/
import Derived.Test.YthllcnigcnoghaaGreatDoorZAE
import Derived.Test.YthllcnigcnoghaaGreatDoorZAA
import Derived.Test.YthllcnigcnoghaaGreatDoorZY
import Derived.Test.YthllcnigcnoghaaGreatDoorZH
import Derived.Test.YthllcnigcnoghaaGreatDoorZI
import Derived.Test.YthllcnigcnoghaaGreatDoorZM
set_option linter.unusedVariables false
set_option linter.unusedSimpArgs false
section
/- The document's Wide, Mid, least, greatest, ends, Op. -/
set_option maxRecDepth 100000
namespace Go.Pv
open Go.Proofs
theorem smV_bd {v : Vl} {n k : Nat} (h : bdV n k v) (h1 : n ≤ 1000000000000) (h2 : k ≤ 100000000000) : smV v := ⟨by have := h.1; omega, by have := h.2.1; omega, by have := h.2.2; omega⟩
theorem sm_wN1 {x : Nm} (h : rightN x = true) : x.w.length ≤ 1000000000000 := by have := (rightN_bd h).1; omega
theorem precs1_c (p : Int) (st : Store) : PCalls Tryz.prog 177 [.sc (.int .i64 p)] st (fun r st' => r = .sc (.bool (precF p)) ∧ st' = st) := by
  refine pcalls_enter none Tryz.func177 rfl fun E => pwp_of_vc ?_
  unfold precF
  by_cases h : 8 ≤ p
  · have f1 : decide (p ≥ 8) = true := decide_eq_true h
    have f2 : decide (8 ≤ p) = true := decide_eq_true h
    simp -dsimp only [go_sem, f1, f2]
    try simp
  · have f1 : decide (p ≥ 8) = false := decide_eq_false h
    have f2 : decide (8 ≤ p) = false := decide_eq_false h
    simp -dsimp only [go_sem, f1, f2]
    try simp
theorem refWide_c (a : Ivl) (p : Int) (st : Store) (ha : wI a) : PCalls Tryz.prog 199 [.agg (encI a), .sc (.int .i64 p)] st (fun r st' => r = .tup [.agg (encN (wideI a p).1), .sc (.int .i64 (wideI a p).2)] ∧ st' = st) := by
  refine pcalls_enter none Tryz.func199 rfl fun E => pwp_of_vc ?_
  simp -dsimp only [go_sem]
  refine (refRightIv_c a _ ha).mono ?_
  rintro r st ⟨rfl, rfl⟩
  cases r1 : rightI a with
  | false =>
    simp -dsimp only [go_sem]
    rw [wideI, if_neg (by simp [r1])]; rfl
  | true =>
    simp -dsimp only [go_sem]
    refine (precs1_c p _).mono ?_
    rintro r st ⟨rfl, rfl⟩
    cases r3 : precF p with
    | false =>
      simp -dsimp only [go_sem]
      rw [wideI, if_neg (by simp [r3])]; rfl
    | true =>
      obtain ⟨q, rfl, q1, q2, q3⟩ := precF_nat r3
      obtain ⟨a1, a2, _⟩ := rightI_right r1
      have hm : wideI a q = numV (roundV (lessV (ofN a.hi) (ofN a.lo)) q true) := by rw [wideI, if_pos ⟨r1, r3⟩, q3]
      rw [hm]
      have b1 := bdV_ofN a1
      have b2 := bdV_ofN a2
      have b3 := bdV_less b2 b1
      have b4 := bdV_round b3 q true
      simp -dsimp only [go_sem]
      refine pwp_draw mixed 27 (.step 0 [] (.step 1 [] (.step 3 [] (.step 4 [] (.step 7 [] (.step 2 [4] (.step 5 [] (.step 6 [] (.step 8 [] (.step 9 [1, 4] (.step 10 [] (.step 11 [] (.step 12 [] (.step 13 [] (.done))))))))))))))) (by decide +kernel) (by simp) ?_
      simp -dsimp only [go_sem]
      refine (of_c a.hi _ (sm_wN1 a2)).mono ?_
      rintro r st ⟨rfl, rfl⟩
      simp -dsimp only [go_sem]
      refine (of_c a.lo _ (sm_wN1 a1)).mono ?_
      rintro r st ⟨rfl, rfl⟩
      simp -dsimp only [go_sem]
      refine (less_c _ _ _ (smV_bd b2 (by omega) (by omega)) (smV_bd b1 (by omega) (by omega))).mono ?_
      rintro r st ⟨rfl, rfl⟩
      simp -dsimp only [go_sem]
      refine (round_c _ q true _ (smV_bd b3 (by omega) (by omega)) (by omega)).mono ?_
      rintro r st ⟨rfl, rfl⟩
      simp -dsimp only [go_sem]
      refine (vnum_c _ _ (bdV_digits b4 (by omega))).mono ?_
      rintro r st ⟨rfl, rfl⟩
      simp -dsimp only [go_sem]
theorem ends1_c (lo hi : Vl) (st : Store) (h1 : (digitsOf lo.m).length ≤ 1000000000000) (h2 : (digitsOf hi.m).length ≤ 1000000000000) : PCalls Tryz.prog 179 [.agg (encV lo), .agg (encV hi)] st
    (fun r st' => r = .tup [.agg (encI (endsV lo hi).1), .sc (.int .i64 (endsV lo hi).2)] ∧ st' = st) := by
  refine pcalls_enter none Tryz.func179 rfl fun E => pwp_of_vc ?_
  unfold endsV
  simp -dsimp only [go_sem]
  refine (vnum_c lo _ h1).mono ?_
  rintro r st ⟨rfl, rfl⟩
  simp -dsimp only [go_sem]
  refine (vnum_c hi _ h2).mono ?_
  rintro r st ⟨rfl, rfl⟩
  by_cases c1 : (numV lo).2 = 0
  · have f1 : ((numV lo).2 != 0) = false := by rw [c1]; rfl
    by_cases c2 : (numV hi).2 = 0
    · have f2 : ((numV hi).2 != 0) = false := by rw [c2]; rfl
      rw [if_pos ⟨c1, c2⟩]
      simp -dsimp only [go_sem, f1, f2]
      try rfl
    · have f2 : ((numV hi).2 != 0) = true := bne_iff_ne.2 c2
      rw [if_neg (fun h => c2 h.2)]
      simp -dsimp only [go_sem, f1, f2]
      try rfl
  · have f1 : ((numV lo).2 != 0) = true := bne_iff_ne.2 c1
    rw [if_neg (fun h => c1 h.1)]
    simp -dsimp only [go_sem, f1]
    try rfl
end Go.Pv
end

section
/- The document's least, greatest, Op. -/
set_option maxRecDepth 100000
namespace Go.Pv
open Go.Proofs
theorem leastV_c (x y u v : Vl) (st : Store) (hx : bdV 10000000 10000000 x) (hy : bdV 10000000 10000000 y) (hu : bdV 10000000 10000000 u) (hv : bdV 10000000 10000000 v) : PCalls Tryz.prog 182 [.agg (encV x), .agg (encV y), .agg (encV u), .agg (encV v)] st (fun r st' => r = .agg (encV (leastV x y u v)) ∧ st' = st) := by
  have sx := smV_bd hx (by omega) (by omega)
  have sy := smV_bd hy (by omega) (by omega)
  have su := smV_bd hu (by omega) (by omega)
  have sv := smV_bd hv (by omega) (by omega)
  refine pcalls_enter none Tryz.func182 rfl fun E => pwp_of_vc ?_
  unfold leastV
  simp -dsimp only [go_sem]
  refine (signV_c x _).mono ?_
  rintro r st ⟨rfl, rfl⟩
  by_cases c1 : 0 ≤ signV x
  · have f1 : decide (signV x ≥ 0) = true := decide_eq_true c1
    simp -dsimp only [go_sem, f1]
    refine (signV_c u _).mono ?_
    rintro r st ⟨rfl, rfl⟩
    by_cases c2 : 0 ≤ signV u
    · have f2 : decide (signV u ≥ 0) = true := decide_eq_true c2
      rw [if_pos ⟨c1, c2⟩]
      simp -dsimp only [go_sem, f1, f2]
      refine (by_c x u _ sx su).mono ?_
      rintro r st ⟨rfl, rfl⟩
      simp -dsimp only [go_sem]
    · have f2 : decide (signV u ≥ 0) = false := decide_eq_false c2
      rw [if_neg (fun h => c2 h.2), if_pos c1]
      simp -dsimp only [go_sem, f1, f2]
      refine (signV_c x _).mono ?_
      rintro r st ⟨rfl, rfl⟩
      simp -dsimp only [go_sem, f1, f2]
      refine (by_c y u _ sy su).mono ?_
      rintro r st ⟨rfl, rfl⟩
      simp -dsimp only [go_sem]
  · have f1 : decide (signV x ≥ 0) = false := decide_eq_false c1
    rw [if_neg (fun h => c1 h.1), if_neg c1]
    simp -dsimp only [go_sem, f1]
    refine (signV_c x _).mono ?_
    rintro r st ⟨rfl, rfl⟩
    simp -dsimp only [go_sem, f1]
    refine (signV_c u _).mono ?_
    rintro r st ⟨rfl, rfl⟩
    by_cases c2 : 0 ≤ signV u
    · have f2 : decide (signV u ≥ 0) = true := decide_eq_true c2
      rw [if_pos c2]
      simp -dsimp only [go_sem, f1, f2]
      refine (by_c x v _ sx sv).mono ?_
      rintro r st ⟨rfl, rfl⟩
      simp -dsimp only [go_sem]
    · have f2 : decide (signV u ≥ 0) = false := decide_eq_false c2
      rw [if_neg c2]
      simp -dsimp only [go_sem, f1, f2]
      refine (signV_c y _).mono ?_
      rintro r st ⟨rfl, rfl⟩
      by_cases c3 : signV y ≤ 0 ∧ signV v ≤ 0
      · have f3 : decide (signV y ≤ 0) = true := decide_eq_true c3.1
        have f4 : decide (signV v ≤ 0) = true := decide_eq_true c3.2
        rw [if_pos c3]
        simp -dsimp only [go_sem, f3]
        refine (signV_c v _).mono ?_
        rintro r st ⟨rfl, rfl⟩
        simp -dsimp only [go_sem, f3, f4]
        refine (by_c y v _ sy sv).mono ?_
        rintro r st ⟨rfl, rfl⟩
        simp -dsimp only [go_sem]
      · rw [if_neg c3]
        have q1 := bdV_by hx hv
        have q2 := bdV_by hy hu
        have tail : ∀ (Z : Prop), Z → Z := fun _ h => h
        cases f3 : decide (signV y ≤ 0) with
        | false =>
          simp -dsimp only [go_sem, f3]
          refine pwp_of_vc ?_
          simp -dsimp only [go_sem]
          refine pwp_late mixed 61 [0, 1, 2, 3, 4, 5] [6, 7] [8, 9] (.step 0 [] (.step 1 [] (.step 3 [] (.step 4 [] (.step 2 [3, 4] (.step 5 [] (.done))))))) (.step 8 [] (.step 9 [] (.done))) (by decide +kernel) (by simp) ?_
          simp -dsimp only [go_sem]
          refine (by_c x v _ sx sv).mono ?_
          rintro r st ⟨rfl, rfl⟩
          simp -dsimp only [go_sem]
          refine (by_c y u _ sy su).mono ?_
          rintro r st ⟨rfl, rfl⟩
          simp -dsimp only [go_sem]
          refine (order_c _ _ _ (smV_bd q2 (by omega) (by omega)) (smV_bd q1 (by omega) (by omega))).mono ?_
          rintro r st ⟨rfl, rfl⟩
          simp -dsimp only [go_sem]
          refine ck (fun h => ?_) (fun h => ?_)
          · have hc : orderV (byV y u) (byV x v) < 0 := of_decide_eq_true h
            rw [if_pos hc]
            simp -dsimp only [go_sem]
            try rfl
          · have hc : ¬ orderV (byV y u) (byV x v) < 0 := of_decide_eq_false h
            rw [if_neg hc]
            simp -dsimp only [go_sem]
            try rfl
        | true =>
          have f4 : decide (signV v ≤ 0) = false := decide_eq_false fun h => c3 ⟨of_decide_eq_true f3, h⟩
          simp -dsimp only [go_sem, f3]
          refine (signV_c v _).mono ?_
          rintro r st ⟨rfl, rfl⟩
          simp -dsimp only [go_sem, f3, f4]
          refine pwp_of_vc ?_
          simp -dsimp only [go_sem]
          refine pwp_late mixed 61 [0, 1, 2, 3, 4, 5] [6, 7] [8, 9] (.step 0 [] (.step 1 [] (.step 3 [] (.step 4 [] (.step 2 [3, 4] (.step 5 [] (.done))))))) (.step 8 [] (.step 9 [] (.done))) (by decide +kernel) (by simp) ?_
          simp -dsimp only [go_sem]
          refine (by_c x v _ sx sv).mono ?_
          rintro r st ⟨rfl, rfl⟩
          simp -dsimp only [go_sem]
          refine (by_c y u _ sy su).mono ?_
          rintro r st ⟨rfl, rfl⟩
          simp -dsimp only [go_sem]
          refine (order_c _ _ _ (smV_bd q2 (by omega) (by omega)) (smV_bd q1 (by omega) (by omega))).mono ?_
          rintro r st ⟨rfl, rfl⟩
          simp -dsimp only [go_sem]
          refine ck (fun h => ?_) (fun h => ?_)
          · have hc : orderV (byV y u) (byV x v) < 0 := of_decide_eq_true h
            rw [if_pos hc]
            simp -dsimp only [go_sem]
            try rfl
          · have hc : ¬ orderV (byV y u) (byV x v) < 0 := of_decide_eq_false h
            rw [if_neg hc]
            simp -dsimp only [go_sem]
            try rfl
theorem greatV_c (x y u v : Vl) (st : Store) (hx : bdV 10000000 10000000 x) (hy : bdV 10000000 10000000 y) (hu : bdV 10000000 10000000 u) (hv : bdV 10000000 10000000 v) : PCalls Tryz.prog 183 [.agg (encV x), .agg (encV y), .agg (encV u), .agg (encV v)] st (fun r st' => r = .agg (encV (greatV x y u v)) ∧ st' = st) := by
  refine pcalls_enter none Tryz.func183 rfl fun E => pwp_of_vc ?_
  simp -dsimp only [go_sem]
  refine pwp_draw mixed 17 (.step 0 [] (.step 2 [] (.step 4 [] (.step 5 [] (.step 1 [2, 4, 5] (.step 3 [4, 5] (.step 6 [] (.step 7 [] (.step 8 [] (.done)))))))))) (by decide +kernel) (by simp) ?_
  simp -dsimp only [go_sem]
  refine (turned_c y _).mono ?_
  rintro r st ⟨rfl, rfl⟩
  simp -dsimp only [go_sem]
  refine (turned_c x _).mono ?_
  rintro r st ⟨rfl, rfl⟩
  simp -dsimp only [go_sem]
  refine (leastV_c (turnV y) (turnV x) u v _ (bdV_turn hy) (bdV_turn hx) hu hv).mono ?_
  rintro r st ⟨rfl, rfl⟩
  simp -dsimp only [go_sem]
  refine (turned_c _ _).mono ?_
  rintro r st ⟨rfl, rfl⟩
  simp -dsimp only [go_sem]
  try rfl
theorem refOp0_c (a b : Ivl) (p : Int) (st : Store) (ha : wI a) (hb : wI b) : PCalls Tryz.prog 130 [.sc (.int .i64 0), .agg (encI a), .agg (encI b), .sc (.int .i64 p)] st (fun r st' => r = .tup [.agg (encI (opI 0 a b p).1), .sc (.int .i64 (opI 0 a b p).2)] ∧ st' = st) := by
  refine pcalls_enter none Tryz.func130 rfl fun E => pwp_of_vc ?_
  simp -dsimp only [go_sem]
  refine (refRightIv_c a _ ha).mono ?_
  rintro r st ⟨rfl, rfl⟩
  cases r1 : rightI a with
  | false =>
    simp -dsimp only [go_sem]
    rw [opI, if_neg (by simp [r1])]; rfl
  | true =>
    simp -dsimp only [go_sem]
    refine (refRightIv_c b _ hb).mono ?_
    rintro r st ⟨rfl, rfl⟩
    cases r2 : rightI b with
    | false =>
      simp -dsimp only [go_sem]
      rw [opI, if_neg (by simp [r2])]; rfl
    | true =>
      simp -dsimp only [go_sem]
      refine (precs1_c p _).mono ?_
      rintro r st ⟨rfl, rfl⟩
      cases r3 : precF p with
      | false =>
        simp -dsimp only [go_sem]
        rw [opI, if_neg (by simp [r3])]; rfl
      | true =>
        obtain ⟨q, rfl, q1, q2, q3⟩ := precF_nat r3
        obtain ⟨a1, a2, _⟩ := rightI_right r1
        obtain ⟨b1, b2, _⟩ := rightI_right r2
        have hm : opI 0 a b q = endsV (roundV (loV 0 (ofN a.lo) (ofN a.hi) (ofN b.lo) (ofN b.hi)) q false) (roundV (hiV 0 (ofN a.lo) (ofN a.hi) (ofN b.lo) (ofN b.hi)) q true) := by rw [opI, if_pos ⟨r1, r2, r3⟩, q3]
        rw [hm]
        have d1 := bdV_ofN a1
        have d2 := bdV_ofN a2
        have d3 := bdV_ofN b1
        have d4 := bdV_ofN b2
        simp -dsimp only [go_sem]
        refine pwp_late mixed 110 [0, 1, 2, 3, 4, 5, 6, 7, 8, 9, 10, 11] [12, 13, 14, 15] [16, 17, 18, 19] (.step 0 [] (.step 1 [] (.step 3 [] (.step 4 [] (.step 6 [] (.step 7 [] (.step 9 [] (.step 10 [] (.step 2 [4, 7, 10] (.step 5 [7, 10] (.step 8 [10] (.step 11 [1] (.done))))))))))))) (.step 16 [4] (.step 17 [7] (.step 18 [] (.step 19 [] (.done))))) (by decide +kernel) (by simp) ?_
        simp -dsimp only [go_sem]
        refine (of_c a.lo _ (sm_wN1 a1)).mono ?_
        rintro r st ⟨rfl, rfl⟩
        simp -dsimp only [go_sem]
        refine (of_c a.hi _ (sm_wN1 a2)).mono ?_
        rintro r st ⟨rfl, rfl⟩
        simp -dsimp only [go_sem]
        refine (of_c b.lo _ (sm_wN1 b1)).mono ?_
        rintro r st ⟨rfl, rfl⟩
        simp -dsimp only [go_sem]
        refine (of_c b.hi _ (sm_wN1 b2)).mono ?_
        rintro r st ⟨rfl, rfl⟩
        generalize ofN a.lo = x at *
        generalize ofN a.hi = y at *
        generalize ofN b.lo = u at *
        generalize ofN b.hi = v at *
        simp -dsimp only [go_sem]
        rw [loV0, hiV0]
        refine pwp_draw mixed 110 (.step 0 [] (.step 1 [] (.step 3 [] (.step 5 [] (.step 6 [] (.step 8 [] (.step 2 [5, 6] (.step 4 [5, 6] (.step 7 [] (.step 9 [0, 1] (.step 10 [] (.step 11 [] (.step 12 [] (.step 13 [] (.step 14 [] (.done)))))))))))))))) (by decide +kernel) (by simp) ?_
        simp -dsimp only [go_sem]
        refine (plus_c _ _ _ (smV_bd d1 (by omega) (by omega)) (smV_bd d3 (by omega) (by omega))).mono ?_
        rintro r st ⟨rfl, rfl⟩
        have e1 := bdV_plus d1 d3
        simp -dsimp only [go_sem]
        refine (round_c _ q false _ (smV_bd e1 (by omega) (by omega)) (by omega)).mono ?_
        rintro r st ⟨rfl, rfl⟩
        have e2 := bdV_round e1 q false
        simp -dsimp only [go_sem]
        refine (plus_c _ _ _ (smV_bd d2 (by omega) (by omega)) (smV_bd d4 (by omega) (by omega))).mono ?_
        rintro r st ⟨rfl, rfl⟩
        have e3 := bdV_plus d2 d4
        simp -dsimp only [go_sem]
        refine (round_c _ q true _ (smV_bd e3 (by omega) (by omega)) (by omega)).mono ?_
        rintro r st ⟨rfl, rfl⟩
        have e4 := bdV_round e3 q true
        simp -dsimp only [go_sem]
        refine (ends1_c _ _ _ (bdV_digits e2 (by omega)) (bdV_digits e4 (by omega))).mono ?_
        rintro r st ⟨rfl, rfl⟩
        simp -dsimp only [go_sem]
theorem refOp2_c (a b : Ivl) (p : Int) (st : Store) (ha : wI a) (hb : wI b) : PCalls Tryz.prog 130 [.sc (.int .i64 2), .agg (encI a), .agg (encI b), .sc (.int .i64 p)] st (fun r st' => r = .tup [.agg (encI (opI 2 a b p).1), .sc (.int .i64 (opI 2 a b p).2)] ∧ st' = st) := by
  refine pcalls_enter none Tryz.func130 rfl fun E => pwp_of_vc ?_
  simp -dsimp only [go_sem]
  refine (refRightIv_c a _ ha).mono ?_
  rintro r st ⟨rfl, rfl⟩
  cases r1 : rightI a with
  | false =>
    simp -dsimp only [go_sem]
    rw [opI, if_neg (by simp [r1])]; rfl
  | true =>
    simp -dsimp only [go_sem]
    refine (refRightIv_c b _ hb).mono ?_
    rintro r st ⟨rfl, rfl⟩
    cases r2 : rightI b with
    | false =>
      simp -dsimp only [go_sem]
      rw [opI, if_neg (by simp [r2])]; rfl
    | true =>
      simp -dsimp only [go_sem]
      refine (precs1_c p _).mono ?_
      rintro r st ⟨rfl, rfl⟩
      cases r3 : precF p with
      | false =>
        simp -dsimp only [go_sem]
        rw [opI, if_neg (by simp [r3])]; rfl
      | true =>
        obtain ⟨q, rfl, q1, q2, q3⟩ := precF_nat r3
        obtain ⟨a1, a2, _⟩ := rightI_right r1
        obtain ⟨b1, b2, _⟩ := rightI_right r2
        have hm : opI 2 a b q = endsV (roundV (loV 2 (ofN a.lo) (ofN a.hi) (ofN b.lo) (ofN b.hi)) q false) (roundV (hiV 2 (ofN a.lo) (ofN a.hi) (ofN b.lo) (ofN b.hi)) q true) := by rw [opI, if_pos ⟨r1, r2, r3⟩, q3]
        rw [hm]
        have d1 := bdV_ofN a1
        have d2 := bdV_ofN a2
        have d3 := bdV_ofN b1
        have d4 := bdV_ofN b2
        simp -dsimp only [go_sem]
        refine pwp_late mixed 110 [0, 1, 2, 3, 4, 5, 6, 7, 8, 9, 10, 11] [12, 13, 14, 15] [16, 17, 18, 19] (.step 0 [] (.step 1 [] (.step 3 [] (.step 4 [] (.step 6 [] (.step 7 [] (.step 9 [] (.step 10 [] (.step 2 [4, 7, 10] (.step 5 [7, 10] (.step 8 [10] (.step 11 [1] (.done))))))))))))) (.step 16 [4] (.step 17 [7] (.step 18 [] (.step 19 [] (.done))))) (by decide +kernel) (by simp) ?_
        simp -dsimp only [go_sem]
        refine (of_c a.lo _ (sm_wN1 a1)).mono ?_
        rintro r st ⟨rfl, rfl⟩
        simp -dsimp only [go_sem]
        refine (of_c a.hi _ (sm_wN1 a2)).mono ?_
        rintro r st ⟨rfl, rfl⟩
        simp -dsimp only [go_sem]
        refine (of_c b.lo _ (sm_wN1 b1)).mono ?_
        rintro r st ⟨rfl, rfl⟩
        simp -dsimp only [go_sem]
        refine (of_c b.hi _ (sm_wN1 b2)).mono ?_
        rintro r st ⟨rfl, rfl⟩
        generalize ofN a.lo = x at *
        generalize ofN a.hi = y at *
        generalize ofN b.lo = u at *
        generalize ofN b.hi = v at *
        simp -dsimp only [go_sem]
        refine pwp_of_vc ?_
        simp -dsimp only [go_sem]
        refine pwp_late mixed 110 [0, 1, 2, 3, 4, 5, 6, 7, 8, 9] [10, 11] [12, 13] (.step 0 [] (.step 1 [] (.step 2 [] (.step 3 [] (.step 5 [] (.step 6 [] (.step 7 [] (.step 8 [] (.step 4 [5, 6, 7, 8] (.step 9 [] (.done))))))))))) (.step 12 [] (.step 13 [] (.done))) (by decide +kernel) (by simp) ?_
        simp -dsimp only [go_sem]
        refine (leastV_c x y u v _ (d1.mono (by omega) (by omega)) (d2.mono (by omega) (by omega)) (d3.mono (by omega) (by omega)) (d4.mono (by omega) (by omega))).mono ?_
        rintro r st ⟨rfl, rfl⟩
        simp -dsimp only [go_sem]
        refine (greatV_c x y u v _ (d1.mono (by omega) (by omega)) (d2.mono (by omega) (by omega)) (d3.mono (by omega) (by omega)) (d4.mono (by omega) (by omega))).mono ?_
        rintro r st ⟨rfl, rfl⟩
        have e1 := bdV_least d1 d2 d3 d4
        have e3 := bdV_great d1 d2 d3 d4
        have hl2 : loV 2 x y u v = leastV x y u v := rfl
        have hh2 : hiV 2 x y u v = greatV x y u v := rfl
        rw [hl2, hh2]
        generalize leastV x y u v = lo at *
        generalize greatV x y u v = hi at *
        simp -dsimp only [go_sem]
        refine pwp_draw mixed 110 (.step 0 [] (.step 1 [] (.step 3 [] (.step 4 [] (.step 2 [3] (.step 5 [] (.step 6 [] (.step 7 [] (.step 8 [] (.step 9 [] (.step 10 [] (.done)))))))))))) (by decide +kernel) (by simp) ?_
        simp -dsimp only [go_sem]
        refine (round_c _ q false _ (smV_bd e1 (by omega) (by omega)) (by omega)).mono ?_
        rintro r st ⟨rfl, rfl⟩
        have e2 := bdV_round e1 q false
        simp -dsimp only [go_sem]
        refine (round_c _ q true _ (smV_bd e3 (by omega) (by omega)) (by omega)).mono ?_
        rintro r st ⟨rfl, rfl⟩
        have e4 := bdV_round e3 q true
        simp -dsimp only [go_sem]
        refine (ends1_c _ _ _ (bdV_digits e2 (by omega)) (bdV_digits e4 (by omega))).mono ?_
        rintro r st ⟨rfl, rfl⟩
        simp -dsimp only [go_sem]
end Go.Pv
end

section
/- The document's bad, Reckon, Scale, Has, In. -/
set_option maxRecDepth 100000
namespace Go.Pv
open Go.Proofs
theorem bad_c (p : Int) (l : List Nm) (st : Store) (hl : l.length ≤ 1000000) (hw : ∀ i, i < l.length → wN (l.getD i default)) : PCalls Tryz.prog 224 [.sc (.int .i64 p), .sl .no (encNs l)] st (fun r st' => r = .sc (.bool (!(l.all rightN && precF p))) ∧ st' = st) := by
  refine pcalls_enter none Tryz.func224 rfl fun E => pwp_of_vc ?_
  simp -dsimp only [go_sem]
  refine pwp_loop_mask [true, true, false, false, false, true] 0 0 (fun n s => ∃ i, n = l.length - i ∧ i ≤ l.length ∧ (∀ j, j < i → rightN (l.getD j default) = true) ∧ s = ⟨[.sc (.int .i64 p), .sl .no (encNs l), .junk, .junk, .junk, .sc (.int .i64 (i : Nat))] ++ List.replicate 18 .junk, [], [], st⟩) l.length ?_ ?_
  · simp -dsimp only [go_sem]
    exact ⟨0, by omega, by omega, fun j hj => by omega, rfl⟩
  · rintro n s ⟨i, rfl, hi, hr, rfl⟩
    simp -dsimp only [go_sem]
    refine ck (fun h => ?_) (fun h => ?_)
    · have hlt : i < l.length := by have := of_decide_eq_true h; omega
      have e1 := encNs_get l i hlt
      have e3 : IntKind.i64.wrap ((i : Int) + 1) = ((i + 1 : Nat) : Int) := by rw [wrap_i64 _ (by omega) (by omega)]; omega
      have w := hw i hlt
      simp -dsimp only [go_sem, e1]
      refine ⟨⟨by omega, hlt⟩, ?_⟩
      refine (refRight_c _ _ (by unfold wN at w; omega)).mono ?_
      rintro r st ⟨rfl, rfl⟩
      simp -dsimp only [go_sem]
      refine ck (fun h => ?_) (fun h => ?_)
      · have hf : rightN (l.getD i default) = false := by simpa using h
        have ha : l.all rightN = false := by
          cases hb : l.all rightN with
          | false => rfl
          | true => rw [(all_of_getD default rightN l).1 hb i hlt] at hf; cases hf
        simp -dsimp only [go_sem]
        rw [ha]; rfl
      · have ht : rightN (l.getD i default) = true := by simpa using h
        simp -dsimp only [go_sem, e3]
        refine ⟨l.length - (i + 1), by omega, i + 1, rfl, by omega, fun j hj => ?_, rfl⟩
        by_cases e : j = i
        · subst e; exact ht
        · exact hr j (by omega)
    · have hge : i = l.length := by have := of_decide_eq_false h; omega
      have ha : l.all rightN = true := (all_of_getD default rightN l).2 fun j hj => hr j (by omega)
      rw [ha]
      simp -dsimp only [go_sem]
      refine pwp_of_vc ?_
      unfold precF
      by_cases c1 : p < 8
      · have f1 : decide (p < 8) = true := decide_eq_true c1
        have f2 : decide (8 ≤ p) = false := decide_eq_false (by omega)
        simp -dsimp only [go_sem, f1, f2]
        try rfl
      · have f1 : decide (p < 8) = false := decide_eq_false c1
        have f2 : decide (8 ≤ p) = true := decide_eq_true (by omega)
        have f3 : decide (p > 256) = !decide (p ≤ 256) := by
          by_cases c : p ≤ 256
          · rw [decide_eq_true c, decide_eq_false (by omega)]; rfl
          · rw [decide_eq_false c, decide_eq_true (by omega)]; rfl
        simp -dsimp only [go_sem, f1, f2, f3]
        try rfl
theorem refReckon0_c (a b : Nm) (p : Int) (up : Bool) (st : Store) (ha : wN a) (hb : wN b) : PCalls Tryz.prog 201 [.sc (.int .i64 0), .agg (encN a), .agg (encN b), .sc (.int .i64 p), .sc (.bool up)] st (fun r st' => r = .tup [.agg (encN (reckN 0 a b p up).1), .sc (.int .i64 (reckN 0 a b p up).2)] ∧ st' = st) := by
  refine pcalls_enter none Tryz.func201 rfl fun E => pwp_of_vc ?_
  have e0 : ∀ x y : Nm, [PV.agg [.sc (.bool x.neg), .sc (.int .i64 x.exp), .sl .no (encW x.w)], .agg [.sc (.bool y.neg), .sc (.int .i64 y.exp), .sl .no (encW y.w)]] = encNs [x, y] := fun x y => rfl
  simp -dsimp only [go_sem, e0]
  refine (bad_c p [a, b] _ (by simp) (fun i hi => by
    match i, hi with
    | 0, _ => exact ha
    | 1, _ => exact hb)).mono ?_
  rintro r st ⟨rfl, rfl⟩
  simp -dsimp only [go_sem]
  refine ck (fun h => ?_) (fun h => ?_)
  · simp -dsimp only [go_sem]
    rw [reckN, if_neg (fun hh => by simp [hh.1, hh.2.1, hh.2.2] at h)]; rfl
  · have hv : rightN a = true ∧ rightN b = true ∧ precF p = true := by simpa [and_assoc] using h
    obtain ⟨r1, r2, r3⟩ := hv
    obtain ⟨q, rfl, q1, q2, q3⟩ := precF_nat r3
    have hm : reckN 0 a b q up = numV (roundV (plusV (ofN a) (ofN b)) q up) := by rw [reckN, if_pos ⟨r1, r2, r3⟩, q3]; rfl
    rw [hm]
    have d1 := bdV_ofN r1
    have d2 := bdV_ofN r2
    simp -dsimp only [go_sem]
    refine pwp_late mixed 49 [0, 1, 2, 3] [4, 5] [6, 7] (.step 0 [] (.step 2 [] (.step 1 [2] (.step 3 [] (.done))))) (.step 6 [] (.step 7 [] (.done))) (by decide +kernel) (by simp) ?_
    simp -dsimp only [go_sem]
    refine (of_c a _ (sm_wN1 r1)).mono ?_
    rintro r st ⟨rfl, rfl⟩
    simp -dsimp only [go_sem]
    refine (of_c b _ (sm_wN1 r2)).mono ?_
    rintro r st ⟨rfl, rfl⟩
    generalize ofN a = x at *
    generalize ofN b = y at *
    simp -dsimp only [go_sem]
    refine (exactSum_c x y _ (smV_bd d1 (by omega) (by omega)) (smV_bd d2 (by omega) (by omega))).mono ?_
    rintro r st ⟨rfl, rfl⟩
    have e1 := bdV_plus d1 d2
    simp -dsimp only [go_sem]
    refine (round_c _ q up _ (smV_bd e1 (by omega) (by omega)) (by omega)).mono ?_
    rintro r st ⟨rfl, rfl⟩
    have e2 := bdV_round e1 q up
    simp -dsimp only [go_sem]
    refine (vnum_c _ _ (bdV_digits e2 (by omega))).mono ?_
    rintro r st ⟨rfl, rfl⟩
    simp -dsimp only [go_sem]
theorem refReckon1_c (a b : Nm) (p : Int) (up : Bool) (st : Store) (ha : wN a) (hb : wN b) : PCalls Tryz.prog 201 [.sc (.int .i64 1), .agg (encN a), .agg (encN b), .sc (.int .i64 p), .sc (.bool up)] st (fun r st' => r = .tup [.agg (encN (reckN 1 a b p up).1), .sc (.int .i64 (reckN 1 a b p up).2)] ∧ st' = st) := by
  refine pcalls_enter none Tryz.func201 rfl fun E => pwp_of_vc ?_
  have e0 : ∀ x y : Nm, [PV.agg [.sc (.bool x.neg), .sc (.int .i64 x.exp), .sl .no (encW x.w)], .agg [.sc (.bool y.neg), .sc (.int .i64 y.exp), .sl .no (encW y.w)]] = encNs [x, y] := fun x y => rfl
  simp -dsimp only [go_sem, e0]
  refine (bad_c p [a, b] _ (by simp) (fun i hi => by
    match i, hi with
    | 0, _ => exact ha
    | 1, _ => exact hb)).mono ?_
  rintro r st ⟨rfl, rfl⟩
  simp -dsimp only [go_sem]
  refine ck (fun h => ?_) (fun h => ?_)
  · simp -dsimp only [go_sem]
    rw [reckN, if_neg (fun hh => by simp [hh.1, hh.2.1, hh.2.2] at h)]; rfl
  · have hv : rightN a = true ∧ rightN b = true ∧ precF p = true := by simpa [and_assoc] using h
    obtain ⟨r1, r2, r3⟩ := hv
    obtain ⟨q, rfl, q1, q2, q3⟩ := precF_nat r3
    have hm : reckN 1 a b q up = numV (roundV (lessV (ofN a) (ofN b)) q up) := by rw [reckN, if_pos ⟨r1, r2, r3⟩, q3]; rfl
    rw [hm]
    have d1 := bdV_ofN r1
    have d2 := bdV_ofN r2
    simp -dsimp only [go_sem]
    refine pwp_late mixed 49 [0, 1, 2, 3] [4, 5] [6, 7] (.step 0 [] (.step 2 [] (.step 1 [2] (.step 3 [] (.done))))) (.step 6 [] (.step 7 [] (.done))) (by decide +kernel) (by simp) ?_
    simp -dsimp only [go_sem]
    refine (of_c a _ (sm_wN1 r1)).mono ?_
    rintro r st ⟨rfl, rfl⟩
    simp -dsimp only [go_sem]
    refine (of_c b _ (sm_wN1 r2)).mono ?_
    rintro r st ⟨rfl, rfl⟩
    generalize ofN a = x at *
    generalize ofN b = y at *
    simp -dsimp only [go_sem]
    refine (exactDiff_c x y _ (smV_bd d1 (by omega) (by omega)) (smV_bd d2 (by omega) (by omega))).mono ?_
    rintro r st ⟨rfl, rfl⟩
    have e1 := bdV_less d1 d2
    simp -dsimp only [go_sem]
    refine (round_c _ q up _ (smV_bd e1 (by omega) (by omega)) (by omega)).mono ?_
    rintro r st ⟨rfl, rfl⟩
    have e2 := bdV_round e1 q up
    simp -dsimp only [go_sem]
    refine (vnum_c _ _ (bdV_digits e2 (by omega))).mono ?_
    rintro r st ⟨rfl, rfl⟩
    simp -dsimp only [go_sem]
theorem refScale_c (x : Nm) (k : Int) (st : Store) (hx : wN x) : PCalls Tryz.prog 200 [.agg (encN x), .sc (.int .i64 k)] st (fun r st' => r = .tup [.agg (encN (scaleN x k).1), .sc (.int .i64 (scaleN x k).2)] ∧ st' = st) := by
  unfold wN at hx
  refine pcalls_enter none Tryz.func200 rfl fun E => pwp_of_vc ?_
  simp -dsimp only [go_sem]
  refine (refRight_c x _ (by omega)).mono ?_
  rintro r st ⟨rfl, rfl⟩
  cases r1 : rightN x with
  | false =>
    simp -dsimp only [go_sem]
    rw [scaleN, if_neg (by rw [r1]; simp)]; rfl
  | true =>
    rw [scaleN, if_pos r1]
    simp -dsimp only [go_sem]
    refine ck (fun h => ?_) (fun h => ?_)
    · have h0 : x.w = [] := List.length_eq_zero_iff.1 (nbeq_t (b := 0) h)
      simp -dsimp only [go_sem]
      rw [if_pos h0]
    · have h0 : x.w ≠ [] := fun e => by rw [e] at h; cases h
      have hb := rightN_bd r1
      have b2 := hb.2.1
      have b3 := hb.2.2
      rw [if_neg h0]
      by_cases c1 : 131072 < k
      · have f1 : decide (k > 131072) = true := decide_eq_true c1
        simp -dsimp only [go_sem, f1]
        rw [if_pos (.inr c1)]; rfl
      · have f1 : decide (k > 131072) = false := decide_eq_false c1
        by_cases c2 : k < -131072
        · have f2 : decide (k < -131072) = true := decide_eq_true c2
          simp -dsimp only [go_sem, f1, f2]
          rw [if_pos (.inl c2)]; rfl
        · have f2 : decide (k < -131072) = false := decide_eq_false c2
          have x1 : IntKind.i64.wrap (x.exp + k) = x.exp + k := wrap_i64 _ (by omega) (by omega)
          rw [if_neg (by omega)]
          simp -dsimp only [go_sem, f1, f2]
          refine pwp_draw mixed 35 (.step 0 [] (.step 1 [] (.step 2 [] (.step 3 [] (.step 5 [] (.step 6 [] (.step 7 [] (.step 8 [] (.step 4 [1, 6] (.step 9 [] (.step 10 [] (.step 11 [] (.step 12 [] (.step 13 [] (.step 14 [] (.done)))))))))))))))) (by decide +kernel) (by simp) ?_
          simp -dsimp only [go_sem, x1]
          refine (part_c x.w _ (by omega)).mono ?_
          rintro r st ⟨rfl, rfl⟩
          simp -dsimp only [go_sem, x1]
          have hd := bdV_digits (bdV_ofN r1) (by omega)
          refine (vnum_c ⟨x.neg, valW x.w, x.exp + k⟩ _ hd).mono ?_
          rintro r st ⟨rfl, rfl⟩
          simp -dsimp only [go_sem]
theorem refHas_c (a : Ivl) (x : Nm) (st : Store) (ha : wI a) (hx : wN x) : PCalls Tryz.prog 178 [.agg (encI a), .agg (encN x)] st (fun r st' => r = .sc (.bool (hasI a x)) ∧ st' = st) := by
  refine pcalls_enter none Tryz.func178 rfl fun E => pwp_of_vc ?_
  unfold hasI
  simp -dsimp only [go_sem]
  refine (refRightIv_c a _ ha).mono ?_
  rintro r st ⟨rfl, rfl⟩
  cases r1 : rightI a with
  | false => simp -dsimp only [go_sem]; try rfl
  | true =>
    simp -dsimp only [go_sem]
    refine (refRight_c x _ (by unfold wN at hx; omega)).mono ?_
    rintro r st ⟨rfl, rfl⟩
    cases r2 : rightN x with
    | false => simp -dsimp only [go_sem]; try rfl
    | true =>
      have a1 := (rightI_right r1).1
      have a2 := (rightI_right r1).2.1
      have e1 : cmpR a.lo x = cmpN a.lo x := if_pos ⟨a1, r2⟩
      have e2 : cmpR x a.hi = cmpN x a.hi := if_pos ⟨r2, a2⟩
      simp -dsimp only [go_sem]
      refine (cmpNum_c a.lo x _ (sm_wN1 a1) (sm_wN1 r2)).mono ?_
      rintro r st ⟨rfl, rfl⟩
      rw [e1]
      cases c1 : decide (cmpN a.lo x ≤ 0) with
      | false => simp -dsimp only [go_sem, c1]; try rfl
      | true =>
        simp -dsimp only [go_sem, c1]
        refine (cmpNum_c x a.hi _ (sm_wN1 r2) (sm_wN1 a2)).mono ?_
        rintro r st ⟨rfl, rfl⟩
        rw [e2]
        simp -dsimp only [go_sem, c1]
        try rfl
theorem refIn_c (a b : Ivl) (st : Store) (ha : wI a) (hb : wI b) : PCalls Tryz.prog 149 [.agg (encI a), .agg (encI b)] st (fun r st' => r = .sc (.bool (inI a b)) ∧ st' = st) := by
  refine pcalls_enter none Tryz.func149 rfl fun E => pwp_of_vc ?_
  unfold inI
  simp -dsimp only [go_sem]
  refine (refRightIv_c a _ ha).mono ?_
  rintro r st ⟨rfl, rfl⟩
  cases r1 : rightI a with
  | false => simp -dsimp only [go_sem]; try rfl
  | true =>
    simp -dsimp only [go_sem]
    refine (refRightIv_c b _ hb).mono ?_
    rintro r st ⟨rfl, rfl⟩
    cases r2 : rightI b with
    | false => simp -dsimp only [go_sem]; try rfl
    | true =>
      have a1 := (rightI_right r1).1
      have a2 := (rightI_right r1).2.1
      have b1 := (rightI_right r2).1
      have b2 := (rightI_right r2).2.1
      have e1 : cmpR b.lo a.lo = - cmpN a.lo b.lo := by rw [show cmpR b.lo a.lo = cmpN b.lo a.lo from if_pos ⟨b1, a1⟩, cmpN_swap]
      have e2 : cmpR a.hi b.hi = - cmpN b.hi a.hi := by rw [show cmpR a.hi b.hi = cmpN a.hi b.hi from if_pos ⟨a2, b2⟩, cmpN_swap]
      have g1 : ∀ z : Int, decide (-z ≤ 0) = decide (0 ≤ z) := fun z => decide_eq_decide.2 (by omega)
      simp -dsimp only [go_sem]
      refine (cmpNum_c b.lo a.lo _ (sm_wN1 b1) (sm_wN1 a1)).mono ?_
      rintro r st ⟨rfl, rfl⟩
      rw [e1]
      cases c1 : decide (0 ≤ cmpN a.lo b.lo) with
      | false => simp -dsimp only [go_sem, g1, c1]; try rfl
      | true =>
        simp -dsimp only [go_sem, g1, c1]
        refine (cmpNum_c a.hi b.hi _ (sm_wN1 a2) (sm_wN1 b2)).mono ?_
        rintro r st ⟨rfl, rfl⟩
        rw [e2]
        simp -dsimp only [go_sem, g1, c1]
        try rfl
end Go.Pv
end

section
/- The document's boxes: Points, HasPoint, InBox, MeetBox, OpBox, Times, MidBox. -/
set_option maxRecDepth 100000
namespace Go.Pv
open Go.Proofs
theorem precs6_c (p : Int) (st : Store) : PCalls Tryz.prog 146 [.sc (.int .i64 p)] st (fun r st' => r = .sc (.bool (precF p)) ∧ st' = st) := by
  refine pcalls_enter none Tryz.func146 rfl fun E => pwp_of_vc ?_
  unfold precF
  by_cases h : 8 ≤ p
  · have f1 : decide (p ≥ 8) = true := decide_eq_true h
    have f2 : decide (8 ≤ p) = true := decide_eq_true h
    simp -dsimp only [go_sem, f1, f2]
    try simp
  · have f1 : decide (p ≥ 8) = false := decide_eq_false h
    have f2 : decide (8 ≤ p) = false := decide_eq_false h
    simp -dsimp only [go_sem, f1, f2]
    try simp
theorem inBox_c (b : List Ivl) (q : List Ivl) (st : Store) (hb : wB b) (hq : wB q) : PCalls Tryz.prog 95 [.sl .no (encIs b), .sl .no (encIs q)] st (fun r st' => r = .sc (.bool (inB b q)) ∧ st' = st) := by
  have hbl := hb.1
  refine pcalls_enter none Tryz.func95 rfl fun E => pwp_of_vc ?_
  unfold inB allF
  simp -dsimp only [go_sem]
  refine (rightBox_c b _ hb).mono ?_
  rintro r st ⟨rfl, rfl⟩
  cases r1 : rightB b with
  | false => simp -dsimp only [go_sem]; try rfl
  | true =>
    simp -dsimp only [go_sem]
    refine (rightBox_c q _ hq).mono ?_
    rintro r st ⟨rfl, rfl⟩
    cases r2 : rightB q with
    | false => simp -dsimp only [go_sem]; try rfl
    | true =>
      by_cases hn : q.length = b.length
      · have f1 : ((b.length : Int) != (q.length : Int)) = false := by rw [hn]; simp
        rw [decide_eq_true hn.symm]
        simp -dsimp only [go_sem, f1]
        refine pwp_loop_mask [true, true, false, false, false, true] 0 0
          (fun n s => ∃ i, n = b.length - i ∧ i ≤ b.length ∧ (∀ j, j < i → inI (b.getD j default) (q.getD j default) = true) ∧ s = ⟨[.sl .no (encIs b), .sl .no (encIs q), .junk, .junk, .junk, .sc (.int .i64 (i : Nat))] ++ List.replicate 31 .junk, [], [], st⟩) b.length ?_ ?_
        · simp -dsimp only [go_sem]
          exact ⟨0, by omega, by omega, fun j hj => by omega, rfl⟩
        · rintro n s ⟨i, rfl, hi, hr, rfl⟩
          simp -dsimp only [go_sem]
          refine ck (fun h' => ?_) (fun h' => ?_)
          · have hlt : i < b.length := by have := of_decide_eq_true h'; omega
            have e1 := encIs_get b i hlt
            have e2 := encIs_get q i (by omega)
            have e3 : IntKind.i64.wrap ((i : Int) + 1) = ((i + 1 : Nat) : Int) := by rw [wrap_i64 _ (by omega) (by omega)]; omega
            simp -dsimp only [go_sem]
            refine pwp_draw mixed 37 (.step 0 [] (.step 1 [] (.step 2 [] (.step 3 [] (.step 4 [] (.step 5 [] (.step 6 [] (.step 7 [] (.step 8 [] (.step 9 [] (.done))))))))))) (by decide +kernel) (by simp) ?_
            simp -dsimp only [go_sem, e1, e2]
            refine ⟨⟨by omega, hlt⟩, ⟨by omega, by omega⟩, ?_⟩
            refine (refIn_c _ _ _ (hb.2 i hlt) (hq.2 i (by omega))).mono ?_
            rintro r st ⟨rfl, rfl⟩
            simp -dsimp only [go_sem]
            refine ck (fun h2 => ?_) (fun h2 => ?_)
            · have hf : inI (b.getD i default) (q.getD i default) = false := by simpa using h2
              simp -dsimp only [go_sem]
              have : ((List.range b.length).all fun i => inI (b.getD i default) (q.getD i default)) = false := by
                rw [List.all_eq_false]; exact ⟨i, by simpa using hlt, fun e => by rw [hf] at e; cases e⟩
              first | rw [this] | rw [← List.range_eq_range', this]
            · have ht : inI (b.getD i default) (q.getD i default) = true := by simpa using h2
              simp -dsimp only [go_sem, e3]
              refine ⟨b.length - (i + 1), by omega, i + 1, rfl, by omega, fun j hj => ?_, rfl⟩
              by_cases e : j = i
              · subst e; exact ht
              · exact hr j (by omega)
          · have hge : i = b.length := by have := of_decide_eq_false h'; omega
            simp -dsimp only [go_sem]
            refine pwp_of_vc ?_
            simp -dsimp only [go_sem]
            have : ((List.range b.length).all fun i => inI (b.getD i default) (q.getD i default)) = true := by
              rw [List.all_eq_true]; intro j hj; exact hr j (by rw [hge]; simpa using hj)
            first | rw [this] | rw [← List.range_eq_range', this]
      · have f1 : ((b.length : Int) != (q.length : Int)) = true := by rw [bne_iff_ne]; omega
        rw [decide_eq_false (fun e : b.length = q.length => hn e.symm)]
        simp -dsimp only [go_sem, f1]
        try rfl
theorem opBox0_c (a b : List Ivl) (p : Int) (st : Store) (ha : wB a) (hb : wB b) : PCalls Tryz.prog 93 [.sc (.int .i64 0), .sl .no (encIs a), .sl .no (encIs b), .sc (.int .i64 p)] st (fun r st' => r = .tup [.sl .no (encIs (opB 0 a b p).1), .sc (.int .i64 (opB 0 a b p).2)] ∧ st' = st) := by
  refine pcalls_enter none Tryz.func93 rfl fun E => pwp_of_vc ?_
  simp -dsimp only [go_sem]
  refine (rightBox_c a _ ha).mono ?_
  rintro r st ⟨rfl, rfl⟩
  cases r1 : rightB a with
  | false =>
    simp -dsimp only [go_sem]
    rw [opB, if_neg (by simp [r1])]; rfl
  | true =>
    simp -dsimp only [go_sem]
    refine (rightBox_c b _ hb).mono ?_
    rintro r st ⟨rfl, rfl⟩
    cases r2 : rightB b with
    | false =>
      simp -dsimp only [go_sem]
      rw [opB, if_neg (by simp [r2])]; rfl
    | true =>
      by_cases hl : a.length = b.length
      · have f1 : ((a.length : Int) != (b.length : Int)) = false := by rw [hl]; simp
        simp -dsimp only [go_sem, f1]
        refine (precs6_c p _).mono ?_
        rintro r st ⟨rfl, rfl⟩
        cases r3 : precF p with
        | false =>
          simp -dsimp only [go_sem, f1]
          rw [opB, if_neg (by simp [r3])]; rfl
        | true =>
          have hla := ha.1
          have hab : opB 0 a b p = eachF (fun i x => opI 0 x (b.getD i default) p) 0 a [] := if_pos ⟨r1, r2, hl, r3⟩
          rw [hab]
          simp -dsimp only [go_sem, f1]
          refine pwp_claim 10 6 ?_
          simp -dsimp only [go_sem]
          refine pwp_loop_mask [true, true, true, true, false, false, false, false, false, false, true, true] 0 1 (fun n s => ∃ i o, n = a.length - i ∧ i ≤ a.length ∧ o.length = i ∧ eachF (fun i x => opI 0 x (b.getD i default) p) 0 a [] = eachF (fun i x => opI 0 x (b.getD i default) p) i (a.drop i) o ∧ s = ⟨[.sc (.int .i64 0), .sl .no (encIs a), .sl .no (encIs b), .sc (.int .i64 p), .junk, .junk, .junk, .junk, .junk, .junk, .sl (.own 0) (encIs o), .sc (.int .i64 (i : Nat))] ++ List.replicate 50 .junk, [], [(o.length, 6)], st⟩) a.length ?_ ?_
          · simp -dsimp only [go_sem]
            exact ⟨0, [], by omega, by omega, rfl, rfl, rfl⟩
          · rintro n s ⟨i, o, rfl, hi, ho, hr, rfl⟩
            simp -dsimp only [go_sem]
            refine ck (fun h' => ?_) (fun h' => ?_)
            · have hlt : i < a.length := by have := of_decide_eq_true h'; omega
              have e1 := encIs_get a i hlt
              have e2 := encIs_get b i (by omega)
              have e3 : IntKind.i64.wrap ((i : Int) + 1) = ((i + 1 : Nat) : Int) := by rw [wrap_i64 _ (by omega) (by omega)]; omega
              have e4 := eachF_drop (fun i x => opI 0 x (b.getD i default) p) a i o hlt
              simp -dsimp only [go_sem]
              refine pwp_draw mixed 62 (.step 0 [] (.step 1 [] (.step 2 [] (.step 3 [] (.step 4 [] (.step 5 [] (.step 6 [] (.step 7 [] (.step 8 [] (.step 9 [] (.alt (.step 10 [] (.step 11 [] (.step 12 [] (.step 13 [] (.step 14 [4, 8] (.step 15 [] (.step 16 [] (.done)))))))) (.step 14 [4, 8] (.step 10 [] (.step 11 [] (.step 12 [] (.step 13 [] (.step 15 [] (.step 16 [] (.done))))))))))))))))))) (by decide +kernel) (by simp) ?_
              simp -dsimp only [go_sem, e1, e2]
              refine ⟨⟨by omega, by omega⟩, ⟨by omega, by omega⟩, ?_, ?_⟩
              all_goals
                refine (refOp0_c _ _ p _ (ha.2 i hlt) (hb.2 i (by omega))).mono ?_
                rintro r st ⟨rfl, rfl⟩
                simp -dsimp only [go_sem, e1, e2]
                refine ck (fun h2 => ?_) (fun h2 => ?_)
                · have hne := zbne_t h2
                  simp -dsimp only [go_sem]
                  rw [hr, e4, if_pos hne]; rfl
                · have he := zbne_f h2
                  simp -dsimp only [go_sem, e3]
                  refine ⟨by omega, a.length - (i + 1), by omega, i + 1, o ++ [(opI 0 (a.getD i default) (b.getD i default) p).1], rfl, by omega, by simp [ho], ?_, ?_⟩
                  · rw [hr, e4, if_neg (fun hh => hh he)]
                  · simp [encIs, encI]
            · have hge : i = a.length := by have := of_decide_eq_false h'; omega
              simp -dsimp only [go_sem]
              refine pwp_of_vc ?_
              simp -dsimp only [go_sem]
              rw [hr, hge, List.drop_length]; rfl
      · have f1 : ((a.length : Int) != (b.length : Int)) = true := by rw [bne_iff_ne]; omega
        simp -dsimp only [go_sem, f1]
        rw [opB, if_neg (fun h => hl h.2.2.1)]; rfl
theorem times6_c (x : Ivl) (b : List Ivl) (p : Int) (st : Store) (hx : wI x) (hb : wB b) : PCalls Tryz.prog 92 [.agg (encI x), .sl .no (encIs b), .sc (.int .i64 p)] st (fun r st' => r = .tup [.sl .no (encIs (timesB x b p).1), .sc (.int .i64 (timesB x b p).2)] ∧ st' = st) := by
  refine pcalls_enter none Tryz.func92 rfl fun E => pwp_of_vc ?_
  simp -dsimp only [go_sem]
  refine (rightBox_c b _ hb).mono ?_
  rintro r st ⟨rfl, rfl⟩
  cases r1 : rightB b with
  | false =>
    simp -dsimp only [go_sem]
    rw [timesB, if_neg (by simp [r1])]; rfl
  | true =>
    simp -dsimp only [go_sem]
    refine (refRightIv_c x _ hx).mono ?_
    rintro r st ⟨rfl, rfl⟩
    cases r2 : rightI x with
    | false =>
      simp -dsimp only [go_sem]
      rw [timesB, if_neg (by simp [r2])]; rfl
    | true =>
      simp -dsimp only [go_sem]
      refine (precs6_c p _).mono ?_
      rintro r st ⟨rfl, rfl⟩
      cases r3 : precF p with
      | false =>
        simp -dsimp only [go_sem]
        rw [timesB, if_neg (by simp [r3])]; rfl
      | true =>
        have hla := hb.1
        have hab : timesB x b p = eachF (fun _ y => opI 2 x y p) 0 b [] := if_pos ⟨r1, r2, r3⟩
        rw [hab]
        simp -dsimp only [go_sem]
        refine pwp_claim 8 6 ?_
        simp -dsimp only [go_sem]
        refine pwp_loop_mask [false, true, true, true, false, false, false, false, true, true] 1 1 (fun n s => ∃ i o, n = b.length - i ∧ i ≤ b.length ∧ o.length = i ∧ eachF (fun _ y => opI 2 x y p) 0 b [] = eachF (fun _ y => opI 2 x y p) i (b.drop i) o ∧ s = ⟨[.junk, .sl .no (encIs b), .sc (.int .i64 p), .lp 0 0, .junk, .junk, .junk, .junk, .sl (.own 0) (encIs o), .sc (.int .i64 (i : Nat))] ++ List.replicate 39 .junk, [encI x], [(o.length, 6)], st⟩) b.length ?_ ?_
        · simp -dsimp only [go_sem]
          exact ⟨0, [], by omega, by omega, rfl, rfl, rfl⟩
        · rintro n s ⟨i, o, rfl, hi, ho, hr, rfl⟩
          simp -dsimp only [go_sem]
          refine ck (fun h' => ?_) (fun h' => ?_)
          · have hlt : i < b.length := by have := of_decide_eq_true h'; omega
            have e1 := encIs_get b i hlt
            have e3 : IntKind.i64.wrap ((i : Int) + 1) = ((i + 1 : Nat) : Int) := by rw [wrap_i64 _ (by omega) (by omega)]; omega
            have e4 := eachF_drop (fun _ y => opI 2 x y p) b i o hlt
            simp -dsimp only [go_sem]
            refine pwp_draw mixed 49 (.step 0 [] (.step 1 [] (.step 2 [] (.step 3 [] (.step 4 [] (.step 5 [] (.alt (.step 6 [] (.step 7 [] (.step 8 [] (.step 9 [] (.step 10 [0, 4] (.step 11 [] (.step 12 [] (.done)))))))) (.step 10 [0, 4] (.step 6 [] (.step 7 [] (.step 8 [] (.step 9 [] (.step 11 [] (.step 12 [] (.done))))))))))))))) (by decide +kernel) (by simp) ?_
            simp -dsimp only [go_sem, e1]
            refine ⟨⟨by omega, by omega⟩, ?_, ?_⟩
            all_goals
              refine (refOp2_c x _ p _ hx (hb.2 i hlt)).mono ?_
              rintro r st ⟨rfl, rfl⟩
              simp -dsimp only [go_sem, e1]
              refine ck (fun h2 => ?_) (fun h2 => ?_)
              · have hne := zbne_t h2
                simp -dsimp only [go_sem]
                rw [hr, e4, if_pos hne]; rfl
              · have he := zbne_f h2
                simp -dsimp only [go_sem, e3]
                refine ⟨by omega, b.length - (i + 1), by omega, i + 1, o ++ [(opI 2 x (b.getD i default) p).1], rfl, by omega, by simp [ho], ?_, ?_⟩
                · rw [hr, e4, if_neg (fun hh => hh he)]
                · simp [encIs, encI]
          · have hge : i = b.length := by have := of_decide_eq_false h'; omega
            simp -dsimp only [go_sem]
            refine pwp_of_vc ?_
            simp -dsimp only [go_sem]
            rw [hr, hge, List.drop_length]; rfl
end Go.Pv
end
