/- MergeCovers. -/
import Derived.Test.YtclholhblbelbaaZH5
import Derived.Test.YtclholhblbelbaaZO
set_option linter.unusedVariables false
set_option linter.unusedSimpArgs false
set_option maxRecDepth 100000
namespace Go.Pv
open Go.Proofs
set_option maxHeartbeats 2000000 in
theorem mergeCovers_c (l : List UInt64) : PCalls Try.prog 12 [.sl .no (encW l)] [] (fun r st' => r = .sc (.bool true)) := by
  refine pcalls_enter none Try.func12 rfl fun E => pwp_of_vc ?_
  simp -dsimp only [go_sem]
  refine (known_c []).mono ?_
  rintro r st ⟨rfl, rfl⟩
  simp -dsimp only [go_sem]
  refine (deckOf_c l []).mono ?_
  rintro r st ⟨rfl, rfl⟩
  obtain ⟨s0, hs0⟩ : ∃ s0, s0 = [dk l 0] := ⟨_, rfl⟩
  have h0 : atD s0 0 l 0 := by rw [hs0]; exact atD_new l
  rw [List.nil_append, ← hs0]
  simp -dsimp only [go_sem]
  refine (deckN_c l 0 0 3 s0 h0 (by omega) (by omega) (by omega)).mono ?_
  rintro r st ⟨rfl, rfl⟩
  have n1 := nx_lt l 0 (n := 3) (by omega)
  have x1 : IntKind.i64.wrap (1 + (nx l 0 3 : Int)) = ((1 + nx l 0 3 : Nat) : Int) := by rw [wrap_i64 _ (by omega) (by omega)]; omega
  simp -dsimp only [go_sem, x1]
  refine (deckTube_c l 1 0 (1 + nx l 0 3) 12 _ (h0.set 1) (by omega) (by omega) (by omega)).mono ?_
  rintro r st ⟨a, at', q, j, hT, hal, hj, hj2, rfl, rfl⟩
  have hr : rowF a = true := TubeI_row hT
  have ht := TubeI_tube hT
  have hw : wSs a := tubeF_wSs hr (by omega)
  simp -dsimp only [go_sem, set_dk]
  refine (deckN_c l j 0 4 _ (h0.set j) (by omega) (by omega) (by omega)).mono ?_
  rintro r st ⟨rfl, rfl⟩
  have n2 := nx_lt l j (n := 4) (by omega)
  have x2 : IntKind.i64.wrap (2 + (nx l j 4 : Int)) = 2 + (nx l j 4 : Int) := wrap_i64 _ (by omega) (by omega)
  simp -dsimp only [go_sem, x2, set_dk]
  refine (deckN_c l (j + 1) 0 20 _ (h0.set (j + 1)) (by omega) (by omega) (by omega)).mono ?_
  rintro r st ⟨rfl, rfl⟩
  simp -dsimp only [go_sem, set_dk]
  obtain ⟨x, hx⟩ : ∃ u : Int, u = (nx l (j + 1) 20 : Int) := ⟨_, rfl⟩
  obtain ⟨size, hsz⟩ : ∃ u : Int, u = 2 + (nx l j 4 : Int) := ⟨_, rfl⟩
  have hs : 2 ≤ size ∧ size ≤ 64 := by omega
  simp -dsimp only [go_sem, set_dk, ← hx, ← hsz]
  have hM := w_groupsS hw size x
  rw [groupsS_ok ht hs] at hM
  have htM : tubeF (groupsL size x a) = true := groups_tube ht
  refine (groups_c a size x _ hw).mono ?_
  rintro r st ⟨rfl, rfl⟩
  rw [groupsS_ok ht hs]
  have hcov := groups_cover size x a.length a rfl hr
  have hlast := groups_last size x a.length a rfl
  have hlen : (groupsL size x a).length ≤ a.length := (w_groupsL size x a.length a rfl hw.2 hw.1).1
  have hin := fun X hX => groups_in (size := size) (z := x) a.length a X rfl hX
  have hnil : a.length = 0 → groupsL size x a = [] := fun h => by rw [List.length_eq_zero_iff.1 h, groupsL_nil]
  obtain ⟨M, hMe⟩ : ∃ M, M = groupsL size x a := ⟨_, rfl⟩
  simp only [← hMe] at hM htM hcov hlast hlen hin hnil ⊢
  have t1 : decide ((M.length : Int) > (a.length : Int)) = false := decide_eq_false (by omega)
  simp -dsimp only [go_sem]
  refine (tubeRight_c M _ hM).mono ?_
  rintro r st ⟨rfl, rfl⟩
  simp -dsimp only [go_sem, htM]
  refine (covers_c M a _ hM hw htM ht hlast hcov).mono ?_
  rintro r st ⟨rfl, rfl⟩
  simp -dsimp only [go_sem, htM, t1]
  refine ck (fun h1 => ?_) (fun h1 => ?_)
  · have hn := nbeq_t (b := 0) h1
    simp -dsimp only [go_sem]
    rw [hnil hn]; rfl
  · have hn := nbeq_f (b := 0) h1
    have hh : hullS a = (oneOf a a.length, 0) := by
      unfold hullS oneOf
      rw [if_pos ⟨hn, hr⟩, List.take_length]
    have hg : 1 ≤ a.length ∧ a.length ≤ a.length := ⟨by omega, Nat.le_refl _⟩
    obtain ⟨p1, p2, p3, p4⟩ := oneOf_parts hg
    have hSw : wS (oneOf a a.length) := rightS_wS (oneOf_right hr hg)
    have hSX := hin (oneOf a a.length).box (fun j hj => oneOf_in hr hg j hj)
    have hfirst : (a.getD 0 default).fr = 1 := by
      have h2 := ht
      unfold tubeF firstF at h2
      simp only [Bool.and_eq_true, Bool.or_eq_true, decide_eq_true_eq] at h2
      exact (h2.2.resolve_left hn).1
    obtain ⟨S, hS⟩ : ∃ S, S = oneOf a a.length := ⟨_, rfl⟩
    rw [← hS] at hh p1 p2 p3 p4 hSw hSX
    have q3 : S.to = (lastS a).to := p3
    have q4 : S.t1 = (lastS a).t1 := p4
    have t2 : (S.fr != 1) = false := by rw [p1, hfirst]; rfl
    have t3 : (S.to != (lastS a).to) = false := by rw [q3]; simp
    have w1 := hSw.2.1
    have w2 := (wS_last hw).2.1
    unfold wN at w1 w2
    simp -dsimp only [go_sem]
    refine (mergeHull_c a _ hw).mono ?_
    rintro r st ⟨rfl, rfl⟩
    rw [hh]
    simp -dsimp only [go_sem]
    refine pwp_draw mixed 97 (.step 0 [] (.step 1 [] (.step 2 [] (.step 3 [] (.step 4 [] (.step 5 [] (.step 6 [] (.step 7 [] (.step 8 [] (.step 9 [] (.step 10 [] (.step 11 [4, 9] (.step 12 [] (.step 13 [] (.step 14 [] (.step 15 [] (.step 16 [] (.step 17 [] (.step 18 [4, 9, 16] (.step 19 [4, 9] (.step 20 [] (.step 21 [] (.done))))))))))))))))))))))) (by decide +kernel) (by simp) ?_
    simp -dsimp only [go_sem, t2]
    refine (steps_c a _ hw ht).mono ?_
    rintro r st ⟨rfl, rfl⟩
    simp -dsimp only [go_sem, t2, t3]
    refine (until_c a _ hw ht).mono ?_
    rintro r st ⟨rfl, rfl⟩
    simp -dsimp only [go_sem, t2, t3]
    refine (refSame_c S.t1 (lastS a).t1 _ (by omega) (by omega)).mono ?_
    rintro r st ⟨rfl, rfl⟩
    simp -dsimp only [go_sem, t2, t3, decide_eq_true q4]
    obtain ⟨s1, hs1⟩ : ∃ s1, s1 = s0.set 0 (dk l (j + 1 + 1)) := ⟨_, rfl⟩
    rw [← hs1]
    refine pwp_loop_mask [false, false, false, false, false, true, false, true, false, true] 1 0 (fun n s => ∃ i, n = M.length - i ∧ i ≤ M.length ∧
      s = ⟨[.junk, .junk, .junk, .junk, .junk, .sl .no (encSs M), .junk, .lp 0 0, .junk, .sc (.int .i64 (i : Nat))] ++ List.replicate 87 .junk, [encS S], [], s1⟩) M.length ?_ ?_
    · simp -dsimp only [go_sem]
      exact ⟨0, by omega, by omega, rfl⟩
    · rintro n s ⟨i, rfl, hi, rfl⟩
      simp -dsimp only [go_sem]
      refine ck (fun h1 => ?_) (fun h1 => ?_)
      · have hlt : i < M.length := by have := of_decide_eq_true h1; omega
        have e1 := encSs_get M i hlt
        have x1 : IntKind.i64.wrap ((i : Int) + 1) = ((i + 1 : Nat) : Int) := by rw [show ((i : Int) + 1) = ((i + 1 : Nat) : Int) from rfl, wrapn_i64 _ (by omega)]
        simp -dsimp only [go_sem]
        refine pwp_draw mixed 97 (.step 0 [] (.step 1 [] (.step 2 [] (.step 3 [] (.step 4 [] (.step 5 [] (.step 6 [] (.step 7 [] (.step 8 [] (.done)))))))))) (by decide +kernel) (by simp) ?_
        simp -dsimp only [go_sem, e1]
        refine ⟨⟨by omega, hlt⟩, ?_⟩
        refine (boxIn_c _ _ _ (hM.2 i hlt).2.2 hSw.2.2).mono ?_
        rintro r st ⟨rfl, rfl⟩
        simp -dsimp only [go_sem, hSX i hlt, x1]
        exact ⟨M.length - (i + 1), by omega, i + 1, rfl, by omega, by simp⟩
      · simp -dsimp only [go_sem]
        refine pwp_of_vc ?_
        simp -dsimp only [go_sem]
end Go.Pv
