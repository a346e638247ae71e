/- Parts of the walk: N34, N35. -/
import Derived.Test.YtcfgdppnoephnaaGreatDoorZAQ
import Derived.Test.YtcfgdppnoephnaaGreatDoorZV
set_option linter.unusedVariables false
set_option linter.unusedSimpArgs false
section
/- The program's matrices: Norm, Id; Mag on both sides. -/
set_option linter.unusedVariables false
set_option linter.unusedSimpArgs false
set_option maxRecDepth 100000
namespace Go.Pv
open Go.Proofs
theorem numInt_c (n : Nat) (st : Store) (hn : n < 9223372036854775808) : PCalls Tryz.prog 127 [.sc (.int .i64 n)] st (fun r st' => r = .agg (encN (mkX false [UInt64.ofNat n] 0).1) ∧ st' = st) := by
  have g1 : decide ((n : Int) < 0) = false := decide_eq_false (by omega)
  have g2 : IntKind.u64.wrap (n : Int) = n := wrap_u64n n (by omega)
  have g3 : [PV.sc (.int .u64 n)] = encW [UInt64.ofNat n] := by
    simp only [encW, List.map_cons, List.map_nil]
    rw [UInt64.toNat_ofNat_of_lt' (show n < UInt64.size by unfold UInt64.size; omega)]
  refine pcalls_enter none Tryz.func127 rfl fun E => pwp_of_vc ?_
  simp -dsimp only [go_sem, g1, g2]
  rw [g3]
  refine (numMake_c false _ 0 _ (by simp) (by omega) (by omega)).mono ?_
  rintro r st ⟨rfl, rfl⟩
  simp -dsimp only [go_sem]
theorem one_make : (mkX false [1] 0).1 = oneN := by decide +kernel
theorem numInt1_c (st : Store) : PCalls Tryz.prog 127 [.sc (.int .i64 1)] st (fun r st' => r = .agg (encN oneN) ∧ st' = st) := by
  have := numInt_c 1 st (by omega)
  rw [show UInt64.ofNat 1 = 1 from rfl, one_make] at this; exact this
theorem exAbs_c (x : Nm) (st : Store) : PCalls Tryz.prog 223 [.agg (encN x)] st (fun r st' => r = .agg (encN (magN x)) ∧ st' = st) := by
  refine pcalls_enter none Tryz.func223 rfl fun E => pwp_of_vc ?_
  simp -dsimp only [go_sem]
  try rfl
theorem sm_mag {x : Nm} (h : sm x) : sm (magN x) := h
theorem ivMag_c (a : Ivl) (st : Store) (ha : wI a) : PCalls Tryz.prog 150 [.agg (encI a)] st (fun r st' => r = .agg (encN (magI a)) ∧ st' = st) := by
  refine pcalls_enter none Tryz.func150 rfl fun E => pwp_of_vc ?_
  unfold magI
  simp -dsimp only [go_sem]
  refine (ivRight_c a _ ha).mono ?_
  rintro r st ⟨rfl, rfl⟩
  cases h : rightI a with
  | false => simp -dsimp only [go_sem]; rfl
  | true =>
    obtain ⟨r1, r2, _⟩ := rightI_right h
    rw [if_pos rfl]
    simp -dsimp only [go_sem]
    refine pwp_draw mixed 15 (.step 0 [] (.step 1 [] (.step 3 [] (.step 4 [] (.step 2 [4] (.step 5 [] (.step 6 [] (.step 7 [] (.step 8 [] (.done)))))))))) (by decide +kernel) (by simp) ?_
    simp -dsimp only [go_sem]
    refine (exAbs_c a.lo _).mono ?_
    rintro r st ⟨rfl, rfl⟩
    simp -dsimp only [go_sem]
    refine (exAbs_c a.hi _).mono ?_
    rintro r st ⟨rfl, rfl⟩
    simp -dsimp only [go_sem]
    refine (greatest_c _ _ _ (sm_mag (rightN_sm r1)) (sm_mag (rightN_sm r2))).mono ?_
    rintro r st ⟨rfl, rfl⟩
    simp -dsimp only [go_sem]
    refine (copied_c _ _ (greatN_of (P := wN) (sm_wN (rightN_sm (magN_right r1))) (sm_wN (rightN_sm (magN_right r2))))).mono ?_
    rintro r st ⟨rfl, rfl⟩
    simp -dsimp only [go_sem]
theorem matId1_c (i j : Nat) (st : Store) : PCalls Tryz.prog 126 ([.sc (.int .i64 i), .sc (.int .i64 j)] ++ []) st (fun r st' => r = .tup [.agg (encI (if i = j then ⟨oneN, oneN⟩ else default)), .sc (.int .i64 0)] ∧ st' = st) := by
  refine pcalls_enter none Tryz.func126 rfl fun E => pwp_of_vc ?_
  by_cases h : i = j
  · have f1 : ((i : Int) == (j : Int)) = true := by rw [h]; simp
    rw [if_pos h]
    simp -dsimp only [go_sem, f1]
    refine (numInt1_c _).mono ?_
    rintro r st ⟨rfl, rfl⟩
    simp -dsimp only [go_sem]
    refine (ivOf_c oneN _ (by unfold wN; decide)).mono ?_
    rintro r st ⟨rfl, rfl⟩
    simp -dsimp only [go_sem]
  · have f1 : ((i : Int) == (j : Int)) = false := by rw [beq_eq_false_iff_ne]; omega
    rw [if_neg h]
    simp -dsimp only [go_sem, f1]
    rfl
theorem idM_fill {n : Nat} (h1 : 1 ≤ n) (h4 : n ≤ 4) : fillM (fun i j => ((if i = j then ⟨oneN, oneN⟩ else default : Ivl), 0)) n = (idM (n : Int), 0) := by
  have : n = 1 ∨ n = 2 ∨ n = 3 ∨ n = 4 := by omega
  rcases this with rfl | rfl | rfl | rfl <;> decide +kernel
theorem matId_c (n : Int) (st : Store) : PCalls Tryz.prog 45 [.sc (.int .i64 n)] st (fun r st' => r = .sl .no (encM (idM n)) ∧ st' = st) := by
  refine pcalls_enter none Tryz.func45 rfl fun E => pwp_of_vc ?_
  by_cases h1 : n < 1
  · have f1 : decide (n < 1) = true := decide_eq_true h1
    simp -dsimp only [go_sem, f1]
    rw [idM, if_neg (by omega)]; rfl
  · have f1 : decide (n < 1) = false := decide_eq_false h1
    by_cases h4 : n > 4
    · have f2 : decide (n > 4) = true := decide_eq_true h4
      simp -dsimp only [go_sem, f1, f2]
      rw [idM, if_neg (by omega)]; rfl
    · have f2 : decide (n > 4) = false := decide_eq_false h4
      obtain ⟨k, rfl⟩ := Int.eq_ofNat_of_zero_le (show 0 ≤ n by omega)
      simp -dsimp only [go_sem, f1, f2]
      refine (matFilled_c _ [] (fun i j => ((if i = j then ⟨oneN, oneN⟩ else default : Ivl), 0)) k st rfl (by omega) rfl rfl rfl rfl (fun _ => rfl) fun i j hi hj => matId1_c i j st).mono ?_
      rintro r st ⟨rfl, rfl⟩
      rw [idM_fill (by omega) (by omega)]
      simp -dsimp only [go_sem]
end Go.Pv
end

section
/- The program's matrices: Norm. -/
set_option linter.unusedVariables false
set_option linter.unusedSimpArgs false
set_option maxRecDepth 100000
namespace Go.Pv
open Go.Proofs
set_option maxHeartbeats 4000000 in
theorem matNorm_c (m : Mx) (p : Int) (st : Store) (hm : wM m) : PCalls Tryz.prog 60 [.sl .no (encM m), .sc (.int .i64 p)] st (fun r st' => r = .tup [.agg (encN (normM m p).1), .sc (.int .i64 (normM m p).2)] ∧ st' = st) := by
  refine pcalls_enter none Tryz.func60 rfl fun E => pwp_of_vc ?_
  simp -dsimp only [go_sem]
  refine (matValid_c m m p _ hm hm).mono ?_
  rintro r st ⟨rfl, rfl⟩
  cases hv : validM m m p with
  | false =>
    simp -dsimp only [go_sem]
    rw [normM, if_neg (fun hh => by rw [validM_iff.2 ⟨hh.1, hh.1, rfl, hh.2⟩] at hv; cases hv)]; rfl
  | true =>
    obtain ⟨v1, v2, v3, v4⟩ := validM_iff.1 hv
    have hl := rightM_len v1
    have hM : normM m p = normF m p m.length := if_pos ⟨v1, v4⟩
    rw [hM]
    simp -dsimp only [go_sem]
    refine pwp_plainBox 1 ?_
    simp -dsimp only [go_sem]
    refine pwp_loop_mask [false, true, false, false, true, false, true, false, false, false, false, false, false, false, false, false, false, false, false, false, true, true, true] 2 0
      (fun k s => ∃ i, k = m.length - i ∧ i ≤ m.length ∧ (normF m p i).2 = 0 ∧
        s = ⟨[.junk, .sc (.int .i64 p), .junk, .junk, .lp 0 0, .junk, .lp 1 0, .junk, .junk, .junk, .junk, .junk, .junk, .junk, .junk, .junk, .junk, .junk, .junk, .junk, .sl .no (encM m), .sc (.int .i64 m.length), .sc (.int .i64 (i : Nat))] ++ List.replicate 35 .junk,
          [[.sc (.bool false), .sc (.int .i64 0), .sl .full []], encN (normF m p i).1], [], st⟩) m.length ?_ ?_
    · simp -dsimp only [go_sem]
      exact ⟨0, by omega, by omega, rfl, rfl⟩
    · rintro k s ⟨i, rfl, hi, hz, rfl⟩
      simp -dsimp only [go_sem]
      refine ck (fun h' => ?_) (fun h' => ?_)
      · have hlt : i < m.length := by have := of_decide_eq_true h'; omega
        have e1 := encM_get m i hlt
        have e3 := succW i (by omega)
        obtain ⟨q1, q2⟩ := rightM_row v1 hlt
        have hrl := rightB_len q2
        have e2 := encIs_get (m.getD i []) 0 (by omega)
        simp -dsimp only [go_sem, e1, e2]
        refine ⟨by omega, by omega, ?_⟩
        refine (ivMag_c _ _ ((hm.2 i hlt).2 0 (by omega))).mono ?_
        rintro r st ⟨rfl, rfl⟩
        simp -dsimp only [go_sem]
        have t1 : (m.getD i []).take (m.getD i []).length = m.getD i [] := List.take_length
        have t2 : ((m.getD i []).drop 1).length = m.length - 1 := by rw [List.length_drop, q1]
        have hs0 : sumF (atM m i) p 0 = (magI ((m.getD i []).getD 0 default), 0) := rfl
        generalize hR : (m.getD i []).drop 1 = R at *
        have hget : ∀ j, j < R.length → R.getD j default = atM m i (j + 1) := fun j hj => by
          rw [← hR]; unfold atM
          simp only [List.getD_eq_getElem?_getD, List.getElem?_drop]
          rw [Nat.add_comm 1 j]
        simp -dsimp only [go_sem, t1, hR]
        refine ⟨by omega, ?_⟩
        refine pwp_loop_mask [false, true, false, false, true, false, true, false, false, true, false, false, false, false, false, false, false, false, false, false, true, true, true, false, false, false, false, false, false, false, false, true, true, true] 3 0
          (fun k s => ∃ j, k = R.length - j ∧ j ≤ R.length ∧ (sumF (atM m i) p j).2 = 0 ∧
            s = ⟨[.junk, .sc (.int .i64 p), .junk, .junk, .lp 0 0, .junk, .lp 1 0, .junk, .junk, .lp 2 0, .junk, .junk, .junk, .junk, .junk, .junk, .junk, .junk, .junk, .junk, .sl .no (encM m), .sc (.int .i64 m.length), .sc (.int .i64 (i : Nat)), .junk, .junk, .junk, .junk, .junk, .junk, .junk, .junk, .sl .no (encIs R), .sc (.int .i64 R.length), .sc (.int .i64 (j : Nat))] ++ List.replicate 24 .junk,
              [[.sc (.bool false), .sc (.int .i64 0), .sl .full []], encN (normF m p i).1, encN (sumF (atM m i) p j).1], [], st⟩) R.length ?_ ?_
        · simp -dsimp only [go_sem]
          exact ⟨0, by omega, by omega, by rw [hs0], by rw [hs0]; rfl⟩
        · rintro k s ⟨j, rfl, hj, hsz, rfl⟩
          simp -dsimp only [go_sem]
          refine ck (fun h2 => ?_) (fun h2 => ?_)
          · have hlt2 : j < R.length := by have := of_decide_eq_true h2; omega
            have f1 := encIs_get R j hlt2
            have f3 := succW j (by omega)
            have f4 := sumF_next hsz
            have f5 := hget j hlt2
            have wx : wI (atM m i (j + 1)) := (hm.2 i hlt).2 (j + 1) (by omega)
            simp -dsimp only [go_sem, f1]
            refine ⟨by omega, ?_⟩
            refine pwp_draw mixed 58 (.step 0 [] (.step 1 [] (.step 3 [] (.alt (.step 2 [0] (.alt (.step 4 [] (.step 5 [] (.step 6 [] (.step 7 [] (.step 8 [0, 1] (.step 9 [] (.step 10 [] (.done)))))))) (.step 8 [0, 1] (.step 4 [] (.step 5 [] (.step 6 [] (.step 7 [] (.step 9 [] (.step 10 [] (.done)))))))))) (.step 8 [0, 1] (.step 2 [0] (.step 4 [] (.step 5 [] (.step 6 [] (.step 7 [] (.step 9 [] (.step 10 [] (.done))))))))))))) (by decide +kernel) (by simp) ?_
            simp -dsimp only [go_sem]
            have wm := sm_wN (rightN_sm (magI_right (atM m i (j + 1))))
            have ws := sm_wN (rightN_sm (sumF_right (atM m i) p j))
            rw [← f5] at wx
            refine And.intro ?_ ?_
            all_goals
              refine (ivMag_c _ _ wx).mono ?_
              rintro r st ⟨rfl, rfl⟩
              rw [f5]
              simp -dsimp only [go_sem]
            refine And.intro ?_ ?_
            all_goals
              refine (rndAdd_c _ _ p true _ ws wm).mono ?_
              rintro r st ⟨rfl, rfl⟩
              simp -dsimp only [go_sem]
              refine ck (fun h3 => ?_) (fun h3 => ?_)
              · have hne := zbne_t h3
                simp -dsimp only [go_sem]
                rw [normF_bad (j := j + 1) hne hlt (by omega) hz (by rw [f4])]
                rfl
              · have he := zbne_f h3
                simp -dsimp only [go_sem, f3]
                exact ⟨R.length - (j + 1), by omega, j + 1, rfl, by omega, by rw [f4]; exact he, by rw [f4]⟩
          · have hge : j = R.length := by have := of_decide_eq_false h2; omega
            subst hge
            have hnx := normF_next hz (by rw [← t2]; exact hsz)
            rw [← t2] at hnx
            have w1 := sm_wN (rightN_sm (sumF_right (atM m i) p R.length))
            have w2 := sm_wN (rightN_sm (normF_right m p i))
            simp -dsimp only [go_sem]
            refine pwp_of_vc ?_
            simp -dsimp only [go_sem]
            refine (numCmp_c _ _ _ (by unfold wN at w1; omega) (by unfold wN at w2; omega)).mono ?_
            rintro r st ⟨rfl, rfl⟩
            simp -dsimp only [go_sem]
            refine ck (fun h3 => ?_) (fun h3 => ?_)
            · have hc := of_decide_eq_true h3
              rw [if_pos hc] at hnx
              simp -dsimp only [go_sem]
              refine pwp_of_vc ?_
              simp -dsimp only [go_sem, e3]
              exact ⟨m.length - (i + 1), by omega, i + 1, rfl, by omega, by rw [hnx], by rw [hnx]⟩
            · have hc := of_decide_eq_false h3
              rw [if_neg hc] at hnx
              simp -dsimp only [go_sem]
              refine pwp_of_vc ?_
              simp -dsimp only [go_sem, e3]
              exact ⟨m.length - (i + 1), by omega, i + 1, rfl, by omega, by rw [hnx], by rw [hnx]⟩
      · have hge : i = m.length := by have := of_decide_eq_false h'; omega
        subst hge
        simp -dsimp only [go_sem]
        refine pwp_of_vc ?_
        simp -dsimp only [go_sem]
        rw [hz]
end Go.Pv
end
