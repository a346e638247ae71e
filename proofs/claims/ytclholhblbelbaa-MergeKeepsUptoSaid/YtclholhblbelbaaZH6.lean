/- MergeKeeps. -/
import Derived.Test.YtclholhblbelbaaZH5
import Derived.Test.YtclholhblbelbaaZM13
set_option linter.unusedVariables false
set_option linter.unusedSimpArgs false
set_option maxRecDepth 100000
namespace Go.Pv
open Go.Proofs
set_option maxHeartbeats 2000000 in
theorem mergeKeeps_c (l : List UInt64) : PCalls Try.prog 5 [.sl .no (encW l)] [] (fun r st' => r = .sc (.bool true)) := by
  refine pcalls_enter none Try.func5 rfl fun E => pwp_of_vc ?_
  simp -dsimp only [go_sem]
  refine (known_c []).mono ?_
  rintro r st ⟨rfl, rfl⟩
  simp -dsimp only [go_sem]
  refine (deckOf_c l []).mono ?_
  rintro r st ⟨rfl, rfl⟩
  obtain ⟨s0, hs0⟩ : ∃ s0, s0 = [dk l 0] := ⟨_, rfl⟩
  have h0 : atD s0 0 l 0 := by rw [hs0]; exact atD_new l
  rw [List.nil_append, ← hs0]
  simp -dsimp only [go_sem]
  refine (deckN_c l 0 0 3 s0 h0 (by omega) (by omega) (by omega)).mono ?_
  rintro r st ⟨rfl, rfl⟩
  have n1 := nx_lt l 0 (n := 3) (by omega)
  have x1 : IntKind.i64.wrap (1 + (nx l 0 3 : Int)) = ((1 + nx l 0 3 : Nat) : Int) := by rw [wrap_i64 _ (by omega) (by omega)]; omega
  simp -dsimp only [go_sem, x1]
  refine (deckTube_c l 1 0 (1 + nx l 0 3) 12 _ (h0.set 1) (by omega) (by omega) (by omega)).mono ?_
  rintro r st ⟨a, at', q, j, hT, hal, hj, hj2, rfl, rfl⟩
  have hr : rowF a = true := TubeI_row hT
  have hw : wSs a := tubeF_wSs hr (by omega)
  simp -dsimp only [go_sem, set_dk]
  refine (deckN_c l j 0 4 _ (h0.set j) (by omega) (by omega) (by omega)).mono ?_
  rintro r st ⟨rfl, rfl⟩
  have n2 := nx_lt l j (n := 4) (by omega)
  have x2 : IntKind.i64.wrap (2 + (nx l j 4 : Int)) = 2 + (nx l j 4 : Int) := wrap_i64 _ (by omega) (by omega)
  simp -dsimp only [go_sem, x2, set_dk]
  refine (deckN_c l (j + 1) 0 20 _ (h0.set (j + 1)) (by omega) (by omega) (by omega)).mono ?_
  rintro r st ⟨rfl, rfl⟩
  obtain ⟨upto, hup⟩ : ∃ u : Int, u = (nx l (j + 1) 20 : Int) := ⟨_, rfl⟩
  obtain ⟨size, hsz⟩ : ∃ u : Int, u = 2 + (nx l j 4 : Int) := ⟨_, rfl⟩
  have hs : 2 ≤ size ∧ size ≤ 64 := by omega
  simp -dsimp only [go_sem, set_dk, ← hup, ← hsz]
  refine (groups_c a size upto _ hw).mono ?_
  rintro r st ⟨rfl, rfl⟩
  have hM := w_groupsS hw size upto
  rw [groupsS_ok (TubeI_tube hT) hs] at hM ⊢
  obtain ⟨M, hMe⟩ : ∃ M, M = groupsL size upto a := ⟨_, rfl⟩
  simp only [← hMe] at hM ⊢
  simp -dsimp only [go_sem]
  obtain ⟨s1, hs1⟩ : ∃ s1, s1 = s0.set 0 (dk l (j + 1 + 1)) := ⟨_, rfl⟩
  rw [← hs1]
  refine pwp_loop_mask [false, false, false, false, true, true, true, true, false, true, true] 0 0 (fun n s => ∃ pre k, n = M.length - pre.length ∧ k ≤ a.length ∧ M = pre ++ groupsL size upto (a.drop k) ∧
    s = ⟨[.junk, .junk, .junk, .junk, .sl .no (encSs a), .sc (.int .i64 size), .sc (.int .i64 upto), .sl .no (encSs M), .junk, .sc (.int .i64 k), .sc (.int .i64 pre.length)] ++ List.replicate 114 .junk, [], [], s1⟩) M.length ?_ ?_
  · simp -dsimp only [go_sem]
    exact ⟨[], 0, by simp, by omega, by simpa using hMe, rfl⟩
  · rintro n s ⟨pre, k, rfl, hk, hMk, rfl⟩
    simp -dsimp only [go_sem]
    refine ck (fun h1 => ?_) (fun h1 => ?_)
    · have hlt : pre.length < M.length := by have := of_decide_eq_true h1; omega
      have hb0 : 0 < (a.drop k).length := by
        refine Nat.pos_of_ne_zero fun e => ?_
        have : a.drop k = [] := List.length_eq_zero_iff.1 e
        rw [this, groupsL_nil, List.append_nil] at hMk
        rw [hMk] at hlt; omega
      have hk2 : k < a.length := by simp at hb0; omega
      have hrb := rowF_drop hr k
      have hcons := groupsL_cons size upto (a.drop k) hb0
      have hg1 := grp_pos (a.drop k) size upto
      have hg2 := grp_le (a.drop k) size upto hb0
      have hcase := grp_cases (upto := upto) hrb hb0 hs
      obtain ⟨g, hg⟩ : ∃ g, g = grp (a.drop k) size upto := ⟨_, rfl⟩
      rw [← hg] at hcons hg1 hg2 hcase
      rw [hcons] at hMk
      have hA : (a.drop k).getD 0 default = a.getD k default := by rw [getD_drop', Nat.add_zero]
      rw [hA] at hMk hcase
      obtain ⟨S, hS⟩ : ∃ S, S = foldS (a.getD k default) (((a.drop k).take g).drop 1) := ⟨_, rfl⟩
      rw [← hS] at hMk
      have hMS : M.getD pre.length default = S := by
        rw [hMk, List.getD_eq_getElem?_getD, List.getElem?_append_right (Nat.le_refl _)]; simp
      have e1 := encSs_get M pre.length hlt
      have e2 := encSs_get a k hk2
      rw [hMS] at e1
      have hfr : S.fr = (a.getD k default).fr := by rw [hS, foldS_fr]
      have t1 : decide ((k : Int) ≥ (a.length : Int)) = false := decide_eq_false (by omega)
      have t2 : (S.fr != (a.getD k default).fr) = false := by rw [hfr]; simp
      have hwS : wS S := by rw [← hMS]; exact hM.2 _ hlt
      have hwA : wS (a.getD k default) := hw.2 _ hk2
      have hdd : (a.drop k).drop g = a.drop (k + g) := by rw [List.drop_drop]
      rw [hdd] at hMk
      have x5 : IntKind.i64.wrap ((k : Int) + 1) = ((k + 1 : Nat) : Int) := by rw [show ((k : Int) + 1) = ((k + 1 : Nat) : Int) from rfl, wrapn_i64 _ (by omega)]
      have hMl := hM.1
      have x6 : IntKind.i64.wrap ((pre.length : Int) + 1) = ((pre.length + 1 : Nat) : Int) := by rw [show ((pre.length : Int) + 1) = ((pre.length + 1 : Nat) : Int) from rfl, wrapn_i64 _ (by omega)]
      simp -dsimp only [go_sem]
      refine pwp_draw mixed 125 (.step 0 [] (.step 1 [] (.step 2 [] (.step 3 [] (.step 4 [] (.step 5 [] (.step 6 [] (.step 7 [] (.step 8 [] (.step 9 [] (.step 10 [] (.step 11 [] (.step 12 [] (.step 13 [] (.step 14 [] (.step 15 [] (.step 16 [] (.done)))))))))))))))))) (by decide +kernel) (by simp) ?_
      simp -dsimp only [go_sem, t1, t2, e1, e2]
      refine ⟨⟨by omega, hlt⟩, ⟨by omega, hk2⟩, ?_⟩
      refine pwp_draw mixed 125 (.step 0 [] (.step 1 [] (.step 2 [] (.step 3 [] (.step 4 [] (.step 5 [] (.step 6 [] (.step 7 [] (.step 8 [] (.done)))))))))) (by decide +kernel) (by simp) ?_
      simp -dsimp only [go_sem, e1, e2]
      refine ⟨⟨by omega, hlt⟩, ⟨by omega, hk2⟩, ?_⟩
      refine (refSameSeg_c _ _ s1 hwS hwA).mono ?_
      rintro r st ⟨rfl, rfl⟩
      rcases hcase with h1g | ⟨c1, c2, c3, c4, c5⟩
      · have hSA : S = a.getD k default := by
          rw [hS, h1g, List.drop_eq_nil_of_le (by simp; omega)]; rfl
        simp -dsimp only [go_sem, decide_eq_true hSA, x5, x6]
        refine pwp_of_vc ?_
        simp -dsimp only [go_sem, x6]
        refine ⟨M.length - (pre.length + 1), by omega, pre ++ [S], k + 1, by simp, by omega, by rw [h1g] at hMk; rw [List.append_assoc]; exact hMk, by simp⟩
      · have hto : S.to = (a.getD k default).fr + size - 1 := by rw [hS, (fold_to _ c1 c2).1, c3]
        have hSA : S ≠ a.getD k default := fun e => by
          have h2 := row_to_lt' hrb (i := 0) (j := g - 1) (by omega) (by omega)
          rw [hA, c3, ← hto, e] at h2
          omega
        have h3 := rightS_parts (rowAt_right (rowF_true.1 hr k hk2))
        have t3 : decide (S.to > upto) = false := decide_eq_false (by omega)
        have t4 : (IntKind.i64.wrap (IntKind.i64.wrap (S.to - S.fr) + 1) != size) = false := by
          have w1 : IntKind.i64.wrap (S.to - S.fr) = S.to - S.fr := wrap_i64 _ (by omega) (by omega)
          rw [w1, wrap_i64 _ (by omega) (by omega)]
          have : S.to - S.fr + 1 = size := by omega
          rw [this]; simp
        have t5 : ((IntKind.i64.wrap (S.fr - 1)).tmod size != 0) = false := by
          rw [wrap_i64 _ (by omega) (by omega), hfr, c5]; rfl
        have t6 : (size != 0) = true := by simp; omega
        simp -dsimp only [go_sem, decide_eq_false hSA]
        refine pwp_draw mixed 125 (.step 0 [] (.step 1 [] (.step 2 [] (.step 3 [] (.step 4 [] (.step 5 [] (.step 6 [] (.step 7 [] (.step 8 [] (.step 9 [] (.step 10 [] (.step 11 [] (.step 12 [] (.step 13 [] (.step 14 [] (.step 15 [] (.step 16 [] (.step 17 [] (.step 18 [] (.step 19 [] (.step 20 [] (.step 21 [] (.step 22 [] (.step 23 [] (.step 24 [] (.step 25 [] (.step 26 [] (.step 27 [] (.step 28 [] (.step 29 [] (.step 30 [] (.step 31 [] (.step 32 [] (.step 33 [] (.done))))))))))))))))))))))))))))))))))) (by decide +kernel) (by simp) ?_
        simp -dsimp only [go_sem, t3, t4, t5, t6, e1, e2]
        refine ⟨⟨by omega, hlt⟩, ⟨by omega, hlt⟩, ⟨by omega, hlt⟩, ⟨by omega, hlt⟩, ?_⟩
        have hkg : k + g ≤ a.length := by simp at c2; omega
        have hlo : ∀ m, k ≤ m → m < k + g → (a.getD m default).to ≤ S.to := fun m h1 h2 => by
          have e : (a.getD (k + (g - 1)) default).to = S.to := by rw [hto, ← c3, getD_drop']
          rcases Nat.lt_or_ge m (k + (g - 1)) with h | h
          · have := row_to_lt' hr h (by omega); omega
          · have : m = k + (g - 1) := by omega
            rw [this]; omega
        have hhi : k + g < a.length → S.to < (a.getD (k + g) default).to := fun h1 => by
          have e : (a.getD (k + (g - 1)) default).to = S.to := by rw [hto, ← c3, getD_drop']
          have := row_to_lt' hr (i := k + (g - 1)) (j := k + g) (by omega) h1
          omega
        refine pwp_loop_mask [false, false, false, false, true, true, true, true, false, true, true] 0 0 (fun n s => ∃ d, n = g - d ∧ d ≤ g ∧
          s = ⟨[.junk, .junk, .junk, .junk, .sl .no (encSs a), .sc (.int .i64 size), .sc (.int .i64 upto), .sl .no (encSs M), .junk, .sc (.int .i64 (k + d : Nat)), .sc (.int .i64 pre.length)] ++ List.replicate 114 .junk, [], [], st⟩) g ?_ ?_
        · simp -dsimp only [go_sem]
          exact ⟨0, by omega, by omega, rfl⟩
        · rintro n s ⟨d, rfl, hd, rfl⟩
          have x7 : IntKind.i64.wrap (((k + d : Nat) : Int) + 1) = ((k + (d + 1) : Nat) : Int) := by
            rw [show (((k + d : Nat) : Int) + 1) = ((k + (d + 1) : Nat) : Int) from by omega, wrapn_i64 _ (by omega)]
          simp -dsimp only [go_sem]
          refine pwp_draw mixed 125 (.step 0 [] (.step 1 [] (.step 2 [] (.step 3 [] (.step 4 [] (.step 5 [] (.step 6 [] (.step 7 [] (.step 8 [] (.step 9 [] (.step 10 [] (.step 11 [] (.step 12 [] (.step 13 [] (.step 14 [] (.step 15 [] (.step 16 [] (.done)))))))))))))))))) (by decide +kernel) (by simp) ?_
          by_cases hdg : d < g
          · have e3 := encSs_get a (k + d) (by omega)
            have t7 : decide (((k + d : Nat) : Int) < (a.length : Int)) = true := decide_eq_true (by omega)
            have t8 : decide ((a.getD (k + d) default).to ≤ S.to) = true := decide_eq_true (hlo _ (by omega) (by omega))
            simp -dsimp only [go_sem, t7, t8, e1, e3, x7]
            exact ⟨⟨by omega, by omega⟩, ⟨by omega, hlt⟩, g - (d + 1), by omega, d + 1, rfl, by omega, by simp⟩
          · have hdg2 : d = g := by omega
            rw [← hdg2] at hMk hhi
            by_cases hka : k + d < a.length
            · have e3 := encSs_get a (k + d) hka
              have t7 : decide (((k + d : Nat) : Int) < (a.length : Int)) = true := decide_eq_true (by omega)
              have t8 : decide ((a.getD (k + d) default).to ≤ S.to) = false := decide_eq_false (by have := hhi hka; omega)
              simp -dsimp only [go_sem, t7, t8, e1, e3]
              refine ⟨⟨by omega, by omega⟩, ⟨by omega, hlt⟩, pwp_of_vc ?_⟩
              simp -dsimp only [go_sem, x6]
              refine ⟨M.length - (pre.length + 1), by omega, pre ++ [S], k + d, by simp, by omega, by rw [List.append_assoc]; exact hMk, by simp⟩
            · have t7 : decide (((k + d : Nat) : Int) < (a.length : Int)) = false := decide_eq_false (by omega)
              simp -dsimp only [go_sem, t7]
              refine pwp_of_vc ?_
              simp -dsimp only [go_sem, x6]
              refine ⟨M.length - (pre.length + 1), by omega, pre ++ [S], k + d, by simp, by omega, by rw [List.append_assoc]; exact hMk, by simp⟩
    · have hge : pre.length = M.length := by
        have := of_decide_eq_false h1
        have h2 : M.length = pre.length + (groupsL size upto (a.drop k)).length := by conv => lhs; rw [hMk]; simp
        omega
      have hnil : groupsL size upto (a.drop k) = [] := by
        have h2 : M.length = pre.length + (groupsL size upto (a.drop k)).length := by conv => lhs; rw [hMk]; simp
        exact List.length_eq_zero_iff.1 (by omega)
      have hka : k = a.length := by
        by_cases h3 : k = a.length
        · exact h3
        · have := groupsL_cons size upto (a.drop k) (by simp; omega)
          rw [hnil] at this; cases this
      simp -dsimp only [go_sem]
      refine pwp_of_vc ?_
      simp -dsimp only [go_sem]
      rw [hka]; simp
end Go.Pv
