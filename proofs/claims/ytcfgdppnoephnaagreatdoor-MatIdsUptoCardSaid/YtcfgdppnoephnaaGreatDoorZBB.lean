/- Parts of the walk: N44. -/
import Derived.Test.YtcfgdppnoephnaaGreatDoorZBA
import Derived.Test.YtcfgdppnoephnaaGreatDoorZAV
set_option linter.unusedVariables false
set_option linter.unusedSimpArgs false
section
/- Within; the law MatHolds. -/
set_option linter.unusedVariables false
set_option linter.unusedSimpArgs false
set_option maxRecDepth 100000
namespace Go.Pv
open Go.Proofs
theorem within_c (v w : Vl) (a : Ivl) (st : Store) (hv : bdV 100000000 100000000 v) (hw : bdV 100000000 100000000 w) (ha : rightI a = true) : PCalls Tryz.prog 58 [.agg (encV v), .agg (encV w), .agg (encI a)] st (fun r st' => r = .sc (.bool (withinV v w a)) ∧ st' = st) := by
  obtain ⟨r1, r2, _⟩ := rightI_right ha
  have l1 := (rightN_sm r1).1
  have l2 := (rightN_sm r2).1
  have b1 := bdV_by (bdV_ofN r1) hw
  have b2 := bdV_by (bdV_ofN r2) hw
  have s1 := smV_ofN (rightN_sm r1)
  have s2 := smV_ofN (rightN_sm r2)
  have sv := smV_bd hv (by omega) (by omega)
  have sw := smV_bd hw (by omega) (by omega)
  have t1 := smV_bd b1 (by omega) (by omega)
  have t2 := smV_bd b2 (by omega) (by omega)
  refine pcalls_enter none Tryz.func58 rfl fun E => pwp_of_vc ?_
  unfold withinV
  simp -dsimp only [go_sem]
  refine pwp_draw mixed 25 (.step 0 [] (.step 1 [] (.step 3 [] (.step 5 [] (.step 2 [3, 5] (.step 4 [5] (.step 6 [] (.step 7 [] (.step 8 [] (.step 9 [] (.step 10 [] (.step 11 [] (.step 13 [] (.step 12 [1, 3, 9, 13] (.step 14 [1, 3, 9] (.step 15 [1, 3] (.step 16 [] (.step 17 [] (.step 18 [] (.done)))))))))))))))))))) (by decide +kernel) (by simp) ?_
  simp -dsimp only [go_sem]
  refine (of_c a.lo _ (by omega)).mono ?_
  rintro r st ⟨rfl, rfl⟩
  simp -dsimp only [go_sem]
  refine (by_c _ _ _ s1 sw).mono ?_
  rintro r st ⟨rfl, rfl⟩
  simp -dsimp only [go_sem]
  refine (order_c _ _ _ t1 sv).mono ?_
  rintro r st ⟨rfl, rfl⟩
  cases h : decide (orderV (byV (ofN a.lo) w) v ≤ 0) with
  | false => simp -dsimp only [go_sem, h]; try rfl
  | true =>
    simp -dsimp only [go_sem, h]
    refine (of_c a.hi _ (by omega)).mono ?_
    rintro r st ⟨rfl, rfl⟩
    simp -dsimp only [go_sem]
    refine (by_c _ _ _ s2 sw).mono ?_
    rintro r st ⟨rfl, rfl⟩
    simp -dsimp only [go_sem]
    refine (order_c _ _ _ sv t2).mono ?_
    rintro r st ⟨rfl, rfl⟩
    simp -dsimp only [go_sem]
    try rfl
/-- Points of small intervals, their sums of products. -/
theorem pt_lu {a : Ivl} {n : Nat} (ha : smI a) (hn : n ≤ 8) : rightN (inN a n) = true ∧ memI (qN (inN a n)) a ∧ luQ 62 105 (qN (inN a n)) := by
  obtain ⟨h1, h2, h3⟩ := pt_sm ha hn
  exact ⟨h1, h2, luQ_bd h3⟩
structure Dots (x y : Nat → Nm) (n : Nat) : Prop where
  le : n ≤ 4
  rx : ∀ k, k < n → rightN (x k) = true ∧ rightN (y k) = true
  lu : ∀ k, k < n → luQ 62 105 (qN (x k)) ∧ luQ 62 105 (qN (y k))
theorem Dots.bd {x y : Nat → Nm} {n : Nat} (h : Dots x y n) {k : Nat} (hk : k ≤ n) : bdV 100000 100000 (dotV x y k) := by
  have h4 := h.le
  have hc := canV_dot (x := x) (y := y) k fun j hj => h.rx j (by omega)
  have hl := lu_dotQ (X := fun k => qN (x k)) (Y := fun k => qN (y k)) k fun j hj => h.lu j (by omega)
  rw [← qV_dot] at hl
  exact (luV_bd hc hl).mono (by omega) (by omega)
theorem Dots.sm {x y : Nat → Nm} {n : Nat} (h : Dots x y n) {k : Nat} (hk : k ≤ n) : smV (dotV x y k) := smV_bd (h.bd hk) (by omega) (by omega)
theorem bd_oneV : bdV 100000000 100000000 oneV := (bdV_whole (k := 1) (by omega)).mono (by omega) (by omega)
theorem by_sm {x y : Nm} (hx : rightN x = true) (hy : rightN y = true) : smV (byV (ofN x) (ofN y)) := smV_bd (bdV_by (bdV_ofN hx) (bdV_ofN hy)) (by omega) (by omega)
set_option maxHeartbeats 8000000 in
theorem matHolds_c (l : List UInt64) : PCalls Tryz.prog 7 [.sl .no (encW l)] [] (fun r st' => r = .sc (.bool true)) := by
  refine pcalls_enter none Tryz.func7 rfl fun E => pwp_of_vc ?_
  simp -dsimp only [go_sem]
  refine (known7_c _).mono ?_
  rintro r st ⟨rfl, rfl⟩
  simp -dsimp only [go_sem]
  refine (deckOf_c l _).mono ?_
  rintro r st ⟨rfl, rfl⟩
  simp -dsimp only [go_sem]
  refine (dim_c l 0 0 [dk l 0] rfl (by omega)).mono ?_
  rintro r st ⟨n, hn1, hn2, rfl, rfl⟩
  have hnn : 3 * n * n ≤ 3 * 4 * 4 := Nat.mul_le_mul (Nat.mul_le_mul_left 3 hn2) hn2
  simp -dsimp only [go_sem]
  refine (deckMat_c l 1 0 n [dk l 1] rfl (by omega) (by omega)).mono ?_
  rintro r st ⟨a, j1, hla, ha0, hj1, hj2, rfl, rfl⟩
  simp -dsimp only [go_sem]
  refine (deckMat_c l j1 0 n [dk l j1] rfl (by omega) (by omega)).mono ?_
  rintro r st ⟨b, j2, hlb, hb0, hj3, hj4, rfl, rfl⟩
  simp -dsimp only [go_sem]
  refine (smallBoxS_c l j2 0 n [dk l j2] rfl (by omega) (by omega)).mono ?_
  rintro r st ⟨v, j4, hlv, hv0, hj7, hj8, rfl, rfl⟩
  simp -dsimp only [go_sem]
  refine (prec_c l j4 0 [dk l j4] rfl (by omega)).mono ?_
  rintro r st ⟨p, j5, hp1, hp2, hj9, hj10, rfl, rfl⟩
  have sa : smM a := ⟨by omega, by omega, by rw [hla]; exact ha0⟩
  have sb : smM b := ⟨by omega, by omega, by rw [hlb]; exact hb0⟩
  have sv : smB v := ⟨by omega, by omega, hv0⟩
  have ra := sa.right
  have rb := sb.right
  have wa := rightM_wM ra
  have wb := rightM_wM rb
  have wv := rightB_wB sv.right
  have hp := precF_nat' hp1 hp2
  have hll : a.length * a.length ≤ 4 * 4 := Nat.mul_le_mul (by omega) (by omega)
  have hll2 : b.length * b.length ≤ 4 * 4 := Nat.mul_le_mul (by omega) (by omega)
  simp -dsimp only [go_sem]
  refine (deckInMat_c l j5 0 a [dk l j5] rfl (by omega) ra).mono ?_
  rintro r st ⟨x, hx, rfl, rfl⟩
  simp -dsimp only [go_sem]
  refine (deckInMat_c l (j5 + a.length * a.length) 0 b [dk l (j5 + a.length * a.length)] rfl (by omega) rb).mono ?_
  rintro r st ⟨y, hy, rfl, rfl⟩
  simp -dsimp only [go_sem]
  refine (inBoxD_c l (j5 + a.length * a.length + b.length * b.length) 0 v [dk l (j5 + a.length * a.length + b.length * b.length)] rfl (by omega) (by omega) (rightB_all sv.right)).mono ?_
  rintro r st ⟨z, hz1, hz2, rfl, rfl⟩
  obtain ⟨M, hM, hMl, hMi⟩ := mulM_sm sa sb (by omega) hp
  obtain ⟨W, hW, hWl, hWi⟩ := vecM_sm sa sv (by omega) hp
  have wM' : wM M := by have := mulM_wM a b p; rw [hM] at this; exact this
  have wW' : wB W := by have := vecM_wB a v p; rw [hW] at this; exact this
  -- the points
  have px : ∀ i k, i < n → k < n → rightN ((x.getD i []).getD k default) = true ∧ memI (qN ((x.getD i []).getD k default)) (atM a i k) ∧ luQ 62 105 (qN ((x.getD i []).getD k default)) := fun i k hi hk => by
    obtain ⟨q, hq, e⟩ := (hx.2 i (by omega)).2 k (by omega)
    rw [e]; exact pt_lu ((ha0 i hi).2 k hk) hq
  have py : ∀ i k, i < n → k < n → rightN ((y.getD i []).getD k default) = true ∧ memI (qN ((y.getD i []).getD k default)) (atM b i k) ∧ luQ 62 105 (qN ((y.getD i []).getD k default)) := fun i k hi hk => by
    obtain ⟨q, hq, e⟩ := (hy.2 i (by omega)).2 k (by omega)
    rw [e]; exact pt_lu ((hb0 i hi).2 k hk) hq
  have pz : ∀ k, k < n → rightN (z.getD k default) = true ∧ memI (qN (z.getD k default)) (v.getD k default) ∧ luQ 62 105 (qN (z.getD k default)) := fun k hk => by
    obtain ⟨q, hq, e⟩ := hz2 k (by omega)
    rw [e]; exact pt_lu (hv0 k (by omega)) hq
  have ds : ∀ i, i < n → Dots (fun k => (x.getD i []).getD k default) (fun k => z.getD k default) n := fun i hi => ⟨hn2, fun k hk => ⟨(px i k hi hk).1, (pz k hk).1⟩, fun k hk => ⟨(px i k hi hk).2.2, (pz k hk).2.2⟩⟩
  have dt : ∀ i j, i < n → j < n → Dots (fun k => (x.getD i []).getD k default) (fun k => (y.getD k []).getD j default) n := fun i j hi hj => ⟨hn2, fun k hk => ⟨(px i k hi hk).1, (py k j hk hj).1⟩, fun k hk => ⟨(px i k hi hk).2.2, (py k j hk hj).2.2⟩⟩
  have ins : ∀ i, i < n → rightI (W.getD i default) = true ∧ withinV (dotV (fun k => (x.getD i []).getD k default) (fun k => z.getD k default) n) oneV (W.getD i default) = true := fun i hi => by
    obtain ⟨e1, e2⟩ := hWi i (by omega)
    rw [hla] at e1 e2
    rw [e2]
    refine ⟨dotF_right _ _ _ _, within_one ?_⟩
    rw [qV_dot]
    exact dotF_mem n e1 fun k hk => ⟨(px i k hi hk).2.1, (pz k hk).2.1⟩
  have int : ∀ i j, i < n → j < n → rightI (atM M i j) = true ∧ withinV (dotV (fun k => (x.getD i []).getD k default) (fun k => (y.getD k []).getD j default) n) oneV (atM M i j) = true := fun i j hi hj => by
    obtain ⟨e1, e2⟩ := (hMi i (by omega)).2 j (by omega)
    rw [hla] at e1 e2
    rw [e2]
    refine ⟨dotF_right _ _ _ _, within_one ?_⟩
    rw [qV_dot]
    exact dotF_mem n e1 fun k hk => ⟨(px i k hi hk).2.1, (py k j hk hj).2.1⟩
  have hxl := hx.1
  have hyl := hy.1
  simp -dsimp only [go_sem]
  refine (matMul_c a b p _ wa wb).mono ?_
  rintro r st ⟨rfl, rfl⟩
  rw [hM]
  simp -dsimp only [go_sem]
  refine (matVec_c a v p _ wa wv).mono ?_
  rintro r st ⟨rfl, rfl⟩
  rw [hW]
  have z0 : ((0 : Int) != 0) = false := rfl
  have z1 : ((M.length : Int) != (n : Int)) = false := by rw [hMl, hla]; simp
  have z2 : ((W.length : Int) != (n : Int)) = false := by rw [hWl, hla]; simp
  simp -dsimp only [go_sem, z0, z1, z2]
  generalize [dk l (j5 + a.length * a.length + b.length * b.length + v.length)] = st
  refine pwp_loop_mask [false, false, false, false, true, false, false, false, false, true, true, true, true, false, true, false, true] 0 0
    (fun c s => ∃ i, c = n - i ∧ i ≤ n ∧ s = ⟨[.junk, .junk, .junk, .junk, .sc (.int .i64 n), .junk, .junk, .junk, .junk, .sl .no (encQ x), .sl .no (encQ y), .sl .no (encNs z), .sl .no (encM M), .junk, .sl .no (encIs W), .junk, .sc (.int .i64 (i : Nat))] ++ List.replicate 163 .junk, [], [], st⟩) n ?_ ?_
  · simp -dsimp only [go_sem]
    exact ⟨0, by omega, by omega, rfl⟩
  · rintro c s ⟨i, rfl, hi, rfl⟩
    simp -dsimp only [go_sem]
    refine ck (fun h1 => ?_) (fun h1 => ?_)
    · have hlt : i < n := by have := of_decide_eq_true h1; omega
      have e1 := encM_get M i (by omega)
      have e2 := encIs_get W i (by omega)
      have e3 := succW i (by omega)
      have ex := encQ_get x i (by omega)
      have z3 : (((M.getD i []).length : Int) != (n : Int)) = false := by rw [(hMi i (by omega)).1, hla]; simp
      have hxr := (hx.2 i (by omega)).1
      simp -dsimp only [go_sem, e1, z3]
      refine ⟨by omega, ?_⟩
      refine pwp_plainBox 0 ?_
      simp -dsimp only [go_sem]
      generalize hX : (fun k => (x.getD i []).getD k default) = X at *
      have gX : ∀ k, X k = (x.getD i []).getD k default := fun k => by rw [← hX]
      refine pwp_loop_mask [false, false, false, false, true, false, false, false, false, true, true, true, true, false, true, false, true, true, true] 1 0
        (fun c s => ∃ k, c = n - k ∧ k ≤ n ∧ s = ⟨[.junk, .junk, .junk, .junk, .sc (.int .i64 n), .junk, .junk, .junk, .junk, .sl .no (encQ x), .sl .no (encQ y), .sl .no (encNs z), .sl .no (encM M), .junk, .sl .no (encIs W), .junk, .sc (.int .i64 (i : Nat)), .lp 0 0, .sc (.int .i64 (k : Nat))] ++ List.replicate 161 .junk, [encV (dotV X (fun k => z.getD k default) k)], [], st⟩) n ?_ ?_
      · simp -dsimp only [go_sem]
        exact ⟨0, by omega, by omega, by simp only [dotV, digitsOf_zero, encD_nil]; rfl⟩
      · rintro c s ⟨k, rfl, hk, rfl⟩
        simp -dsimp only [go_sem]
        refine ck (fun h2 => ?_) (fun h2 => ?_)
        · have hlt2 : k < n := by have := of_decide_eq_true h2; omega
          have f1 := encNs_get (x.getD i []) k (by omega)
          have f2 := encNs_get z k (by omega)
          have f3 := succW k (by omega)
          rw [← gX] at f1
          have dd := ds i hlt
          rw [hX] at dd
          have rr := dd.rx k hlt2
          simp -dsimp only [go_sem]
          refine pwp_draw mixed 180 (.step 0 [] (.step 1 [] (.step 2 [] (.step 3 [] (.step 4 [] (.step 5 [] (.step 6 [] (.step 7 [] (.step 9 [] (.step 10 [] (.step 11 [] (.step 12 [] (.step 8 [0, 12] (.step 13 [0, 4] (.step 14 [0, 4] (.step 15 [4] (.step 16 [] (.done)))))))))))))))))) (by decide +kernel) (by simp) ?_
          simp -dsimp only [go_sem, ex, f1, f2]
          refine ⟨by omega, by omega, by omega, ?_⟩
          refine (of_c (X k) _ (by have := (rightN_sm rr.1).1; omega)).mono ?_
          rintro r st ⟨rfl, rfl⟩
          simp -dsimp only [go_sem]
          refine (of_c (z.getD k default) _ (by have := (rightN_sm rr.2).1; omega)).mono ?_
          rintro r st ⟨rfl, rfl⟩
          simp -dsimp only [go_sem]
          refine (by_c _ _ _ (smV_ofN (rightN_sm rr.1)) (smV_ofN (rightN_sm rr.2))).mono ?_
          rintro r st ⟨rfl, rfl⟩
          simp -dsimp only [go_sem]
          refine (plus_c _ _ _ (dd.sm hk) (by_sm rr.1 rr.2)).mono ?_
          rintro r st ⟨rfl, rfl⟩
          simp -dsimp only [go_sem, f3]
          exact ⟨n - (k + 1), by omega, k + 1, rfl, by omega, rfl⟩
        · have hge : k = n := by have := of_decide_eq_false h2; omega
          subst hge
          obtain ⟨i1, i2⟩ := ins i hlt
          rw [hX] at i2
          have dd := ds i hlt
          rw [hX] at dd
          simp -dsimp only [go_sem]
          refine pwp_of_vc ?_
          simp -dsimp only [go_sem]
          refine pwp_draw mixed 180 (.step 0 [] (.step 1 [] (.step 2 [] (.step 3 [] (.step 4 [] (.step 5 [] (.step 6 [] (.step 7 [] (.step 9 [] (.step 10 [] (.step 11 [] (.step 12 [] (.step 8 [7, 12] (.step 13 [] (.step 14 [] (.step 15 [] (.done))))))))))))))))) (by decide +kernel) (by simp) ?_
          simp -dsimp only [go_sem, e2]
          refine ⟨by omega, ?_⟩
          refine (refRightIv_c (W.getD i default) _ (wI_right i1)).mono ?_
          rintro r st ⟨rfl, rfl⟩
          rw [i1]
          simp -dsimp only [go_sem, e2]
          refine ⟨by omega, ?_⟩
          refine (whole_c 1 _ (by omega)).mono ?_
          rintro r st ⟨rfl, rfl⟩
          simp -dsimp only [go_sem]
          refine (within_c (dotV X (fun k => z.getD k default) k) oneV (W.getD i default) _ ((dd.bd (Nat.le_refl k)).mono (by omega) (by omega)) bd_oneV i1).mono ?_
          rintro r st ⟨rfl, rfl⟩
          rw [i2]
          simp -dsimp only [go_sem]
          refine pwp_loop_mask [false, false, false, false, true, false, false, false, false, true, true, true, true, false, true, false, true, false, false, true] 0 0
            (fun c s => ∃ j, c = k - j ∧ j ≤ k ∧ s = ⟨[.junk, .junk, .junk, .junk, .sc (.int .i64 k), .junk, .junk, .junk, .junk, .sl .no (encQ x), .sl .no (encQ y), .sl .no (encNs z), .sl .no (encM M), .junk, .sl .no (encIs W), .junk, .sc (.int .i64 (i : Nat)), .junk, .junk, .sc (.int .i64 (j : Nat))] ++ List.replicate 160 .junk, [], [], st⟩) k ?_ ?_
          · simp -dsimp only [go_sem]
            exact ⟨0, by omega, by omega, rfl⟩
          · rintro c s ⟨j, rfl, hj, rfl⟩
            simp -dsimp only [go_sem]
            refine ck (fun h3 => ?_) (fun h3 => ?_)
            · have hlt3 : j < k := by have := of_decide_eq_true h3; omega
              have e4 := encIs_get (M.getD i []) j (by rw [(hMi i (by omega)).1]; omega)
              have hMr := (hMi i (by omega)).1
              have j3 := succW j (by omega)
              obtain ⟨t1, t2⟩ := int i j hlt hlt3
              have td := dt i j hlt hlt3
              rw [hX] at t2 td
              simp -dsimp only [go_sem]
              refine pwp_plainBox 0 ?_
              simp -dsimp only [go_sem]
              generalize hY : (fun q => (y.getD q []).getD j default) = Y at *
              have gY : ∀ q, Y q = (y.getD q []).getD j default := fun q => by rw [← hY]
              refine pwp_loop_mask [false, false, false, false, true, false, false, false, false, true, true, true, true, false, true, false, true, false, false, true, true, true] 1 0
                (fun c s => ∃ q, c = k - q ∧ q ≤ k ∧ s = ⟨[.junk, .junk, .junk, .junk, .sc (.int .i64 k), .junk, .junk, .junk, .junk, .sl .no (encQ x), .sl .no (encQ y), .sl .no (encNs z), .sl .no (encM M), .junk, .sl .no (encIs W), .junk, .sc (.int .i64 (i : Nat)), .junk, .junk, .sc (.int .i64 (j : Nat)), .lp 0 0, .sc (.int .i64 (q : Nat))] ++ List.replicate 158 .junk, [encV (dotV X Y q)], [], st⟩) k ?_ ?_
              · simp -dsimp only [go_sem]
                exact ⟨0, by omega, by omega, by simp only [dotV, digitsOf_zero, encD_nil]; rfl⟩
              · rintro c s ⟨q, rfl, hq, rfl⟩
                simp -dsimp only [go_sem]
                refine ck (fun h4 => ?_) (fun h4 => ?_)
                · have hlt4 : q < k := by have := of_decide_eq_true h4; omega
                  have f1 := encNs_get (x.getD i []) q (by omega)
                  have fy := encQ_get y q (by omega)
                  have hyr := (hy.2 q (by omega)).1
                  have f2 := encNs_get (y.getD q []) j (by omega)
                  have f3 := succW q (by omega)
                  rw [← gX] at f1
                  rw [← gY] at f2
                  have rr := td.rx q hlt4
                  simp -dsimp only [go_sem]
                  refine pwp_draw mixed 180 (.step 0 [] (.step 1 [] (.step 2 [] (.step 3 [] (.step 4 [] (.step 5 [] (.step 6 [] (.step 7 [] (.step 9 [] (.step 10 [] (.step 11 [] (.step 12 [] (.step 13 [] (.step 14 [] (.step 15 [] (.step 8 [0, 12, 15] (.step 16 [0, 4] (.step 17 [0, 4, 12] (.step 18 [4, 12] (.step 19 [] (.done))))))))))))))))))))) (by decide +kernel) (by simp) ?_
                  simp -dsimp only [go_sem, ex, f1, fy, f2]
                  refine ⟨by omega, by omega, by omega, by omega, ?_⟩
                  refine (of_c (X q) _ (by have := (rightN_sm rr.1).1; omega)).mono ?_
                  rintro r st ⟨rfl, rfl⟩
                  simp -dsimp only [go_sem]
                  refine (of_c (Y q) _ (by have := (rightN_sm rr.2).1; omega)).mono ?_
                  rintro r st ⟨rfl, rfl⟩
                  simp -dsimp only [go_sem]
                  refine (by_c _ _ _ (smV_ofN (rightN_sm rr.1)) (smV_ofN (rightN_sm rr.2))).mono ?_
                  rintro r st ⟨rfl, rfl⟩
                  simp -dsimp only [go_sem]
                  refine (plus_c _ _ _ (td.sm hq) (by_sm rr.1 rr.2)).mono ?_
                  rintro r st ⟨rfl, rfl⟩
                  simp -dsimp only [go_sem, f3]
                  exact ⟨k - (q + 1), by omega, q + 1, rfl, by omega, rfl⟩
                · have hge : q = k := by have := of_decide_eq_false h4; omega
                  subst hge
                  simp -dsimp only [go_sem]
                  refine pwp_of_vc ?_
                  simp -dsimp only [go_sem]
                  refine pwp_draw mixed 180 (.step 0 [] (.step 1 [] (.step 2 [] (.step 3 [] (.step 4 [] (.step 5 [] (.step 6 [] (.step 7 [] (.step 8 [] (.step 9 [] (.step 10 [] (.step 12 [] (.step 13 [] (.step 14 [] (.step 15 [] (.step 16 [] (.step 17 [] (.step 18 [] (.step 11 [3, 10, 15, 18] (.step 19 [3] (.step 20 [] (.step 21 [] (.done))))))))))))))))))))))) (by decide +kernel) (by simp) ?_
                  simp -dsimp only [go_sem, e1, e4]
                  refine ⟨by omega, by omega, ?_⟩
                  refine (refRightIv_c (atM M i j) _ (wI_right t1)).mono ?_
                  rintro r st ⟨rfl, rfl⟩
                  rw [t1]
                  simp -dsimp only [go_sem, e1, e4]
                  refine ⟨by omega, by omega, ?_⟩
                  refine (whole_c 1 _ (by omega)).mono ?_
                  rintro r st ⟨rfl, rfl⟩
                  simp -dsimp only [go_sem]
                  refine (within_c (dotV X Y q) oneV (atM M i j) _ ((td.bd (Nat.le_refl q)).mono (by omega) (by omega)) bd_oneV t1).mono ?_
                  rintro r st ⟨rfl, rfl⟩
                  rw [t2]
                  simp -dsimp only [go_sem]
                  refine pwp_of_vc ?_
                  simp -dsimp only [go_sem, j3]
                  exact ⟨q - (j + 1), by omega, j + 1, rfl, by omega, rfl⟩
            · simp -dsimp only [go_sem]
              refine pwp_of_vc ?_
              simp -dsimp only [go_sem, e3]
              exact ⟨k - (i + 1), by omega, i + 1, rfl, by omega, rfl⟩
    · simp -dsimp only [go_sem]
      refine pwp_of_vc ?_
      simp -dsimp only [go_sem]
end Go.Pv
end
