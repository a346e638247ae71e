/- Parts of the walk: F21, F22, F23. -/
import Derived.Test.YtclholhblbelbaaZH
set_option linter.unusedVariables false
set_option linter.unusedSimpArgs false
section
/- The document's boxes: Meet, RightBox, HullBox, SameBox. -/
set_option linter.unusedVariables false
set_option linter.unusedSimpArgs false
set_option maxRecDepth 100000
namespace Go.Pv
open Go.Proofs
theorem refMeet_c (a b : Ivl) (st : Store) (ha : wI a) (hb : wI b) : PCalls Try.prog 147 [.agg (encI a), .agg (encI b)] st (fun r st' => r = .tup [.agg (encI (meetI a b).1), .sc (.int .i64 (meetI a b).2)] ∧ st' = st) := by
  refine pcalls_enter none Try.func147 rfl fun E => pwp_of_vc ?_
  simp -dsimp only [go_sem]
  refine (refRightIv_c a st ha).mono ?_
  rintro r st ⟨rfl, rfl⟩
  simp -dsimp only [go_sem]
  refine gkF (fun h => ?_) (fun h => ?_)
  · have r1 : rightI a = true := by simpa using h
    simp -dsimp only [go_sem, r1]
    refine (refRightIv_c b st hb).mono ?_
    rintro r st ⟨rfl, rfl⟩
    simp -dsimp only [go_sem]
    refine ck (fun h => ?_) (fun h => ?_)
    · have r2 : rightI b = false := by simpa using h
      simp -dsimp only [go_sem]
      rw [meetI, if_neg (by simp [r2])]; rfl
    · have r2 : rightI b = true := by simpa using h
      obtain ⟨a1, a2, _⟩ := rightI_right r1
      obtain ⟨b1, b2, _⟩ := rightI_right r2
      have g1 : rightN (greatN a.lo b.lo) = true := greatN_of (P := fun x => rightN x = true) a1 b1
      have g2 : rightN (leastN a.hi b.hi) = true := leastN_of (P := fun x => rightN x = true) a2 b2
      have w1 := (rightN_sm g1).1
      have w2 := (rightN_sm g2).1
      rw [meetI, if_pos ⟨r1, r2⟩]
      simp -dsimp only [go_sem]
      refine pwp_draw mixed 35 (.step 0 [] (.step 1 [] (.step 2 [] (.step 3 [] (.step 5 [] (.step 6 [] (.step 7 [] (.step 8 [] (.alt (.step 4 [6, 8] (.alt (.step 9 [] (.step 10 [] (.step 11 [1, 3, 6, 8] (.step 12 [] (.done))))) (.step 11 [1, 3, 6, 8] (.step 9 [] (.step 10 [] (.step 12 [] (.done))))))) (.step 11 [1, 3, 6, 8] (.step 4 [6, 8] (.step 9 [] (.step 10 [] (.step 12 [] (.done))))))))))))))) (by decide +kernel) (by simp) ?_
      simp -dsimp only [go_sem]
      refine And.intro ?_ ?_
      all_goals
        refine (upper_c a.lo b.lo st a1 b1).mono ?_
        rintro r st ⟨rfl, rfl⟩
        simp -dsimp only [go_sem]
        try refine And.intro ?_ ?_
      all_goals
        refine (lower_c a.hi b.hi st a2 b2).mono ?_
        rintro r st ⟨rfl, rfl⟩
        simp -dsimp only [go_sem]
        refine (cmpNum_c _ _ st (by omega) (by omega)).mono ?_
        rintro r st ⟨rfl, rfl⟩
        simp -dsimp only [go_sem, cmpR_right g1 g2]
        refine ck (fun h => ?_) (fun h => ?_)
        · simp -dsimp only [go_sem]
          rw [if_pos (of_decide_eq_true h)]; rfl
        · simp -dsimp only [go_sem]
          rw [if_neg (of_decide_eq_false h)]
  · have r1 : rightI a = false := by simpa using h
    simp -dsimp only [go_sem, r1]
    rw [meetI, if_neg (by simp [r1])]; rfl
theorem rightBox_c (l : List Ivl) (st : Store) (hw : wB l) : PCalls Try.prog 71 [.sl .no (encIs l)] st (fun r st' => r = .sc (.bool (rightB l)) ∧ st' = st) := by
  obtain ⟨hl, hw⟩ := hw
  refine pcalls_enter none Try.func71 rfl fun E => pwp_of_vc ?_
  simp -dsimp only [go_sem]
  refine pwp_loop_mask [true, false, false, true] 0 0 (fun n s => ∃ i, n = l.length - i ∧ i ≤ l.length ∧ (l.take i).all rightI = true ∧ s = ⟨[.sl .no (encIs l), .junk, .junk, .sc (.int .i64 i)] ++ List.replicate 24 .junk, [], [], st⟩) l.length ?_ ?_
  · simp -dsimp only [go_sem]
    exact ⟨0, by omega, by omega, rfl, rfl⟩
  · rintro n s ⟨i, rfl, hi, hr, rfl⟩
    have fin : i = l.length ∨ ¬ (i : Int) < 4 → decide ((l.length : Int) > 0) = true → decide ((l.length : Int) ≤ 4) = rightB l := fun h h1 => by
      have h1 := of_decide_eq_true h1
      unfold rightB
      rcases h with h | h
      · have hall : l.all rightI = true := by rw [← List.take_length (l := l), ← h]; exact hr
        rw [hall, decide_eq_true (by omega : 1 ≤ l.length)]
        simp only [Bool.true_and]
        exact decide_eq_decide.2 (by omega)
      · by_cases h4 : l.length ≤ 4
        · have : i = l.length := by omega
          have hall : l.all rightI = true := by rw [← List.take_length (l := l), ← this]; exact hr
          rw [hall, decide_eq_true (by omega : 1 ≤ l.length)]
          simp only [Bool.true_and]
          exact decide_eq_decide.2 (by omega)
        · rw [decide_eq_false h4, decide_eq_false (by omega)]; simp
    have fin0 : decide ((l.length : Int) > 0) = false → rightB l = false := fun h => by
      have := of_decide_eq_false h
      unfold rightB; rw [decide_eq_false (by omega : ¬ 1 ≤ l.length)]; simp
    simp -dsimp only [go_sem]
    refine gkT (fun h => ?_) (fun h => ?_)
    · have hlt : i < l.length := by have := of_decide_eq_true h; omega
      simp -dsimp only [go_sem, h]
      refine ck (fun h4 => ?_) (fun h4 => ?_)
      · have e1 := encIs_get l i hlt
        have e3 : IntKind.i64.wrap ((i : Int) + 1) = ((i + 1 : Nat) : Int) := by rw [wrap_i64 _ (by omega) (by omega)]; omega
        have e4 := all_take rightI l i default hlt
        simp -dsimp only [go_sem, e1]
        refine ⟨by omega, ?_⟩
        refine (refRightIv_c _ st (hw i hlt)).mono ?_
        rintro r st ⟨rfl, rfl⟩
        simp -dsimp only [go_sem, e1]
        refine ck (fun h => ?_) (fun h => ?_)
        · have hf : rightI (l.getD i default) = false := by simpa using h
          simp -dsimp only [go_sem]
          have : rightB l = false := by
            cases hb : rightB l with
            | false => rfl
            | true =>
              unfold rightB at hb
              simp only [Bool.and_eq_true] at hb
              have := (all_of_getD default rightI l).1 hb.1.1 i hlt
              rw [this] at hf; cases hf
          rw [this]
        · have ht : rightI (l.getD i default) = true := by simpa using h
          simp -dsimp only [go_sem, e3]
          exact ⟨l.length - (i + 1), by omega, i + 1, rfl, by omega, by rw [e4, hr, ht]; rfl, rfl⟩
      · have h4' := of_decide_eq_false h4
        simp -dsimp only [go_sem]
        refine pwp_of_vc ?_
        simp -dsimp only [go_sem]
        refine gkT (fun h => ?_) (fun h => ?_)
        · simp -dsimp only [go_sem, h]
          rw [fin (.inr h4') h]
        · simp -dsimp only [go_sem, h]
          rw [fin0 h]
    · have hge : i = l.length := by have := of_decide_eq_false h; omega
      simp -dsimp only [go_sem, h]
      refine pwp_of_vc ?_
      simp -dsimp only [go_sem]
      refine gkT (fun h => ?_) (fun h => ?_)
      · simp -dsimp only [go_sem, h]
        rw [fin (.inl hge) h]
      · simp -dsimp only [go_sem, h]
        rw [fin0 h]
theorem two_c (a b : List Ivl) (st : Store) (ha : wB a) (hb : wB b) : PCalls Try.prog 126 [.sl .no (encIs a), .sl .no (encIs b), .sc (.bool true)] st (fun r st' => r = .tup [.sl .no (encIs (hullB a b).1), .sc (.int .i64 (hullB a b).2)] ∧ st' = st) := by
  refine pcalls_enter none Try.func126 rfl fun E => pwp_of_vc ?_
  have bad : ¬ (rightB a = true ∧ rightB b = true ∧ a.length = b.length) → hullB a b = ([], 1) := fun h => if_neg h
  simp -dsimp only [go_sem]
  refine (rightBox_c a st ha).mono ?_
  rintro r st ⟨rfl, rfl⟩
  simp -dsimp only [go_sem]
  refine gkF (fun h1 => ?_) (fun h1 => ?_)
  · have r1 : rightB a = true := by simpa using h1
    simp -dsimp only [go_sem, r1]
    refine (rightBox_c b st hb).mono ?_
    rintro r st ⟨rfl, rfl⟩
    simp -dsimp only [go_sem, r1]
    refine gkF (fun h2 => ?_) (fun h2 => ?_)
    · have r2 : rightB b = true := by simpa using h2
      simp -dsimp only [go_sem, r1, r2]
      refine ck (fun h3 => ?_) (fun h3 => ?_)
      · have hne := nbne_t h3
        simp -dsimp only [go_sem]
        rw [bad (fun h => hne h.2.2)]; rfl
      · have hl := nbne_f h3
        have hla := ha.1
        have hab : hullB a b = eachF (fun i x => hullI x (b.getD i default)) 0 a [] := if_pos ⟨r1, r2, hl⟩
        simp -dsimp only [go_sem]
        refine pwp_claim 8 6 ?_
        simp -dsimp only [go_sem]
        refine pwp_loop_mask [true, true, true, false, false, false, false, false, true, true] 0 1 (fun n s => ∃ i o, n = a.length - i ∧ i ≤ a.length ∧ o.length = i ∧ hullB a b = eachF (fun i x => hullI x (b.getD i default)) i (a.drop i) o ∧ s = ⟨[.sl .no (encIs a), .sl .no (encIs b), .sc (.bool true), .junk, .junk, .junk, .junk, .junk, .sl (.own 0) (encIs o), .sc (.int .i64 i)] ++ List.replicate 56 .junk, [], [(o.length, 6)], st⟩) a.length ?_ ?_
        · simp -dsimp only [go_sem]
          exact ⟨0, [], by omega, by omega, rfl, hab, rfl⟩
        · rintro n s ⟨i, o, rfl, hi, ho, hr, rfl⟩
          simp -dsimp only [go_sem]
          refine ck (fun h' => ?_) (fun h' => ?_)
          · have hlt : i < a.length := by have := of_decide_eq_true h'; omega
            have e1 := encIs_get a i hlt
            have e2 := encIs_get b i (by omega)
            have e3 : IntKind.i64.wrap ((i : Int) + 1) = ((i + 1 : Nat) : Int) := by rw [wrap_i64 _ (by omega) (by omega)]; omega
            have e4 := eachF_drop (fun i x => hullI x (b.getD i default)) a i o hlt
            simp -dsimp only [go_sem]
            refine pwp_draw mixed 66 (.step 0 [] (.step 1 [] (.step 2 [] (.step 3 [] (.step 4 [] (.step 5 [] (.step 6 [] (.step 7 [] (.alt (.step 8 [] (.step 9 [] (.step 10 [] (.step 11 [] (.step 12 [3, 7] (.step 13 [] (.step 14 [] (.done)))))))) (.step 12 [3, 7] (.step 8 [] (.step 9 [] (.step 10 [] (.step 11 [] (.step 13 [] (.step 14 [] (.done))))))))))))))))) (by decide +kernel) (by simp) ?_
            simp -dsimp only [go_sem, e1, e2]
            refine ⟨by omega, by omega, ?_, ?_⟩
            all_goals
              refine (refMeet_c _ _ st (ha.2 i hlt) (hb.2 i (by omega))).mono ?_
              rintro r st ⟨rfl, rfl⟩
              simp -dsimp only [go_sem, e1, e2]
              try refine ⟨by omega, by omega, ?_⟩
              refine pwp_draw mixed 66 (.step 0 [] (.step 1 [] (.step 2 [] (.step 3 [] (.step 4 [] (.step 5 [] (.step 6 [] (.step 7 [] (.step 8 [] (.step 9 [] (.step 10 [] (.step 11 [] (.step 12 [] (.step 13 [] (.done))))))))))))))) (by decide +kernel) (by simp) ?_
              simp -dsimp only [go_sem, e1, e2]
              refine ⟨by omega, by omega, ?_⟩
              refine (refHull_c _ _ st (ha.2 i hlt) (hb.2 i (by omega))).mono ?_
              rintro r st ⟨rfl, rfl⟩
              simp -dsimp only [go_sem, e1, e2]
              refine ck (fun h2 => ?_) (fun h2 => ?_)
              · have hne := zbne_t h2
                simp -dsimp only [go_sem]
                rw [hr, e4, if_pos hne]; rfl
              · have he := zbne_f h2
                simp -dsimp only [go_sem, e3]
                refine ⟨by omega, a.length - (i + 1), by omega, i + 1, o ++ [(hullI (a.getD i default) (b.getD i default)).1], rfl, by omega, by simp [ho], ?_, ?_⟩
                · rw [hr, e4, if_neg (fun hh => hh he)]
                · simp [encIs, encI]
          · have hge : i = a.length := by have := of_decide_eq_false h'; omega
            simp -dsimp only [go_sem]
            refine pwp_of_vc ?_
            simp -dsimp only [go_sem]
            rw [hr, hge, List.drop_length]; rfl
    · have r2 : rightB b = false := by simpa using h2
      simp -dsimp only [go_sem, r1, r2]
      rw [bad (fun h => by simp [r2] at h)]; rfl
  · have r1 : rightB a = false := by simpa using h1
    simp -dsimp only [go_sem, r1]
    rw [bad (fun h => by simp [r1] at h)]; rfl
theorem hullBox_c (a b : List Ivl) (st : Store) (ha : wB a) (hb : wB b) : PCalls Try.prog 103 [.sl .no (encIs a), .sl .no (encIs b)] st (fun r st' => r = .tup [.sl .no (encIs (hullB a b).1), .sc (.int .i64 (hullB a b).2)] ∧ st' = st) := by
  refine pcalls_enter none Try.func103 rfl fun E => pwp_of_vc ?_
  simp -dsimp only [go_sem]
  refine (two_c a b st ha hb).mono ?_
  rintro r st ⟨rfl, rfl⟩
  simp -dsimp only [go_sem]
theorem sameBox_c (a b : List Ivl) (st : Store) (ha : wB a) (hb : wB b) : PCalls Try.prog 44 [.sl .no (encIs a), .sl .no (encIs b)] st (fun r st' => r = .sc (.bool (decide (a = b))) ∧ st' = st) := by
  have hla := ha.1
  have hlb := hb.1
  refine pcalls_enter none Try.func44 rfl fun E => pwp_of_vc ?_
  simp -dsimp only [go_sem]
  refine ck (fun h0 => ?_) (fun h0 => ?_)
  · have hne := nbne_t h0
    simp -dsimp only [go_sem]
    rw [decide_eq_false (fun e => hne (by rw [e]))]
  · have hl := nbne_f h0
    simp -dsimp only [go_sem]
    refine pwp_loop_mask [true, true, false, false, false, true] 0 0 (fun n s => ∃ i, n = a.length - i ∧ i ≤ a.length ∧ (∀ j, j < i → a.getD j default = b.getD j default) ∧ s = ⟨[.sl .no (encIs a), .sl .no (encIs b), .junk, .junk, .junk, .sc (.int .i64 i)] ++ List.replicate 21 .junk, [], [], st⟩) a.length ?_ ?_
    · simp -dsimp only [go_sem]
      exact ⟨0, by omega, by omega, fun j hj => by omega, rfl⟩
    · rintro n s ⟨i, rfl, hi, hr, rfl⟩
      simp -dsimp only [go_sem]
      refine ck (fun h' => ?_) (fun h' => ?_)
      · have hlt : i < a.length := by have := of_decide_eq_true h'; omega
        have e1 := encIs_get a i hlt
        have e2 := encIs_get b i (by omega)
        have e3 : IntKind.i64.wrap ((i : Int) + 1) = ((i + 1 : Nat) : Int) := by rw [wrap_i64 _ (by omega) (by omega)]; omega
        simp -dsimp only [go_sem]
        refine pwp_draw mixed 27 (.step 0 [] (.step 1 [] (.step 2 [] (.step 3 [] (.step 4 [] (.step 5 [] (.step 6 [] (.step 7 [] (.step 8 [] (.step 9 [] (.done))))))))))) (by decide +kernel) (by simp) ?_
        simp -dsimp only [go_sem, e1, e2]
        refine ⟨by omega, by omega, ?_⟩
        refine (sameIv_c _ _ st (ha.2 i hlt) (hb.2 i (by omega))).mono ?_
        rintro r st ⟨rfl, rfl⟩
        simp -dsimp only [go_sem]
        refine ck (fun h2 => ?_) (fun h2 => ?_)
        · have hf : a.getD i default ≠ b.getD i default := by
            intro e; rw [e] at h2; simp at h2
          simp -dsimp only [go_sem]
          rw [decide_eq_false (fun e => hf (by rw [e]))]
        · have ht : a.getD i default = b.getD i default := by
            apply Decidable.byContradiction; intro e; rw [decide_eq_false e] at h2; cases h2
          simp -dsimp only [go_sem, e3]
          refine ⟨a.length - (i + 1), by omega, i + 1, rfl, by omega, fun j hj => ?_, rfl⟩
          by_cases e : j = i
          · subst e; exact ht
          · exact hr j (by omega)
      · have hge : i = a.length := by have := of_decide_eq_false h'; omega
        simp -dsimp only [go_sem]
        refine pwp_of_vc ?_
        simp -dsimp only [go_sem]
        rw [decide_eq_true (eq_of_getD default hl fun j hj => hr j (by omega))]
end Go.Pv
end

section
/- Pieces: RightSeg, SameSeg, behind. -/
set_option linter.unusedVariables false
set_option linter.unusedSimpArgs false
set_option maxRecDepth 100000
namespace Go.Pv
open Go.Proofs
theorem rightSeg_c (s : Sg) (st : Store) (hw : wS s) : PCalls Try.prog 120 [.agg (encS s)] st (fun r st' => r = .sc (.bool (rightS s)) ∧ st' = st) := by
  obtain ⟨w0, w1, wb⟩ := hw
  unfold wN at w0 w1
  refine pcalls_enter none Try.func120 rfl fun E => pwp_of_vc ?_
  simp -dsimp only [go_sem]
  refine gkF (fun h1 => ?_) (fun h1 => ?_)
  · have h1' : 1 ≤ s.fr := by have := of_decide_eq_false h1; omega
    simp -dsimp only [go_sem, h1]
    refine gkF (fun h2 => ?_) (fun h2 => ?_)
    · have h2' : s.fr ≤ s.to := by have := of_decide_eq_false h2; omega
      simp -dsimp only [go_sem, h1, h2]
      refine gkF (fun h3 => ?_) (fun h3 => ?_)
      · have h3' : s.to ≤ 4096 := by have := of_decide_eq_false h3; omega
        simp -dsimp only [go_sem, h1, h2, h3]
        refine (numRight_c s.t0 st (by omega)).mono ?_
        rintro r st ⟨rfl, rfl⟩
        simp -dsimp only [go_sem, h1, h2, h3]
        refine gkF (fun h4 => ?_) (fun h4 => ?_)
        · have h4' : rightN s.t0 = true := by simpa using h4
          simp -dsimp only [go_sem, h1, h2, h3, h4']
          refine (numRight_c s.t1 st (by omega)).mono ?_
          rintro r st ⟨rfl, rfl⟩
          simp -dsimp only [go_sem, h1, h2, h3, h4']
          refine ck (fun h5 => ?_) (fun h5 => ?_)
          · have h5' : rightN s.t1 = false := by simpa using h5
            simp -dsimp only [go_sem]
            simp [rightS, h5']
          · have h5' : rightN s.t1 = true := by simpa using h5
            have hs := sgn_nonneg h4'
            simp -dsimp only [go_sem]
            refine (numSign_c s.t0 st (by omega)).mono ?_
            rintro r st ⟨rfl, rfl⟩
            simp -dsimp only [go_sem]
            refine gkT (fun h6 => ?_) (fun h6 => ?_)
            · have h6' : s.t0.neg = false := hs.1 (of_decide_eq_true h6)
              simp -dsimp only [go_sem, h6]
              refine (numCmp_c s.t0 s.t1 st (by omega) (by omega)).mono ?_
              rintro r st ⟨rfl, rfl⟩
              simp -dsimp only [go_sem, h6]
              refine gkT (fun h7 => ?_) (fun h7 => ?_)
              · have h7' := of_decide_eq_true h7
                simp -dsimp only [go_sem, h6, h7]
                refine (boxRight_c s.box st wb).mono ?_
                rintro r st ⟨rfl, rfl⟩
                simp -dsimp only [go_sem, h6, h7]
                simp [rightS, h1', h2', h3', h4', h5', h6', h7']
              · have h7' := of_decide_eq_false h7
                simp -dsimp only [go_sem, h6, h7]
                simp [rightS, h7']
            · have h6' : s.t0.neg = true := by
                cases hn : s.t0.neg with
                | true => rfl
                | false => exact absurd (hs.2 hn) (of_decide_eq_false h6)
              simp -dsimp only [go_sem, h6]
              simp [rightS, h6']
        · have h4' : rightN s.t0 = false := by simpa using h4
          simp -dsimp only [go_sem, h1, h2, h3, h4']
          simp [rightS, h4']
      · have h3' : ¬ s.to ≤ 4096 := by have := of_decide_eq_true h3; omega
        simp -dsimp only [go_sem, h1, h2, h3]
        simp [rightS, h3']
    · have h2' : ¬ s.fr ≤ s.to := by have := of_decide_eq_true h2; omega
      simp -dsimp only [go_sem, h1, h2]
      simp [rightS, h2']
  · have h1' : ¬ 1 ≤ s.fr := by have := of_decide_eq_true h1; omega
    simp -dsimp only [go_sem, h1]
    simp [rightS, h1']
theorem refRightSeg_c (s : Sg) (st : Store) (hw : wS s) : PCalls Try.prog 101 [.agg (encS s)] st (fun r st' => r = .sc (.bool (rightS s)) ∧ st' = st) := by
  obtain ⟨w0, w1, wb⟩ := hw
  unfold wN at w0 w1
  refine pcalls_enter none Try.func101 rfl fun E => pwp_of_vc ?_
  simp -dsimp only [go_sem]
  refine gkT (fun h1 => ?_) (fun h1 => ?_)
  · have h1' : 1 ≤ s.fr := by have := of_decide_eq_true h1; omega
    simp -dsimp only [go_sem, h1]
    refine gkT (fun h2 => ?_) (fun h2 => ?_)
    · have h2' : s.fr ≤ s.to := by have := of_decide_eq_true h2; omega
      simp -dsimp only [go_sem, h1, h2]
      refine gkT (fun h3 => ?_) (fun h3 => ?_)
      · have h3' : s.to ≤ 4096 := by have := of_decide_eq_true h3; omega
        simp -dsimp only [go_sem, h1, h2, h3]
        refine (refRight_c s.t0 st (by omega)).mono ?_
        rintro r st ⟨rfl, rfl⟩
        simp -dsimp only [go_sem, h1, h2, h3]
        refine gkT (fun h4 => ?_) (fun h4 => ?_)
        · simp -dsimp only [go_sem, h1, h2, h3, h4]
          refine (refRight_c s.t1 st (by omega)).mono ?_
          rintro r st ⟨rfl, rfl⟩
          simp -dsimp only [go_sem, h1, h2, h3, h4]
          refine gkT (fun h5 => ?_) (fun h5 => ?_)
          · simp -dsimp only [go_sem, h1, h2, h3, h4, h5]
            refine gkT (fun h6 => ?_) (fun h6 => ?_)
            · have h6' : s.t0.neg = false := by simpa using h6
              simp -dsimp only [go_sem, h1, h2, h3, h4, h5, h6]
              refine (cmpNum_c s.t0 s.t1 st (by omega) (by omega)).mono ?_
              rintro r st ⟨rfl, rfl⟩
              simp -dsimp only [go_sem, h1, h2, h3, h4, h5, h6]
              refine gkT (fun h7 => ?_) (fun h7 => ?_)
              · have h7' := of_decide_eq_true h7
                simp -dsimp only [go_sem, h1, h2, h3, h4, h5, h6, h7]
                refine (rightBox_c s.box st wb).mono ?_
                rintro r st ⟨rfl, rfl⟩
                simp -dsimp only [go_sem, h1, h2, h3, h4, h5, h6, h7]
                simp [rightS, h1', h2', h3', h4, h5, h6', h7']
              · have h7' := of_decide_eq_false h7
                simp -dsimp only [go_sem, h1, h2, h3, h4, h5, h6, h7]
                simp [rightS, h7']
            · have h6' : s.t0.neg = true := by simpa using h6
              simp -dsimp only [go_sem, h1, h2, h3, h4, h5, h6]
              simp [rightS, h6']
          · simp -dsimp only [go_sem, h1, h2, h3, h4, h5]
            simp [rightS, h5]
        · simp -dsimp only [go_sem, h1, h2, h3, h4]
          simp [rightS, h4]
      · have h3' : ¬ s.to ≤ 4096 := by have := of_decide_eq_false h3; omega
        simp -dsimp only [go_sem, h1, h2, h3]
        simp [rightS, h3']
    · have h2' : ¬ s.fr ≤ s.to := by have := of_decide_eq_false h2; omega
      simp -dsimp only [go_sem, h1, h2]
      simp [rightS, h2']
  · have h1' : ¬ 1 ≤ s.fr := by have := of_decide_eq_false h1; omega
    simp -dsimp only [go_sem, h1]
    simp [rightS, h1']
theorem sg_eq {a b : Sg} : a = b ↔ a.fr = b.fr ∧ a.to = b.to ∧ a.t0 = b.t0 ∧ a.t1 = b.t1 ∧ a.box = b.box := by
  cases a; cases b; simp
theorem sameSeg_c (a b : Sg) (st : Store) (ha : wS a) (hb : wS b) : PCalls Try.prog 92 [.agg (encS a), .agg (encS b)] st (fun r st' => r = .sc (.bool (decide (a = b))) ∧ st' = st) := by
  refine pcalls_enter none Try.func92 rfl fun E => pwp_of_vc ?_
  simp -dsimp only [go_sem]
  refine gkT (fun h1 => ?_) (fun h1 => ?_)
  · have h1' := zbeq_t h1
    simp -dsimp only [go_sem, h1]
    refine gkT (fun h2 => ?_) (fun h2 => ?_)
    · have h2' := zbeq_t h2
      simp -dsimp only [go_sem, h1, h2]
      refine (numSame_c a.t0 b.t0 st ha.1 hb.1).mono ?_
      rintro r st ⟨rfl, rfl⟩
      simp -dsimp only [go_sem, h1, h2]
      refine gkT (fun h3 => ?_) (fun h3 => ?_)
      · have h3' := of_decide_eq_true h3
        simp -dsimp only [go_sem, h1, h2, h3]
        refine (numSame_c a.t1 b.t1 st ha.2.1 hb.2.1).mono ?_
        rintro r st ⟨rfl, rfl⟩
        simp -dsimp only [go_sem, h1, h2, h3]
        refine gkT (fun h4 => ?_) (fun h4 => ?_)
        · have h4' := of_decide_eq_true h4
          simp -dsimp only [go_sem, h1, h2, h3, h4]
          refine (boxSame_c a.box b.box st ha.2.2 hb.2.2).mono ?_
          rintro r st ⟨rfl, rfl⟩
          simp -dsimp only [go_sem, h1, h2, h3, h4]
          have : decide (a.box = b.box) = decide (a = b) := decide_eq_decide.2 ⟨fun e => sg_eq.2 ⟨h1', h2', h3', h4', e⟩, fun e => (sg_eq.1 e).2.2.2.2⟩
          rw [this]
        · have h4' := of_decide_eq_false h4
          simp -dsimp only [go_sem, h1, h2, h3, h4]
          rw [decide_eq_false (fun e => h4' (sg_eq.1 e).2.2.2.1)]
      · have h3' := of_decide_eq_false h3
        simp -dsimp only [go_sem, h1, h2, h3]
        rw [decide_eq_false (fun e => h3' (sg_eq.1 e).2.2.1)]
    · have h2' := zbeq_f h2
      simp -dsimp only [go_sem, h1, h2]
      rw [decide_eq_false (fun e => h2' (sg_eq.1 e).2.1)]
  · have h1' := zbeq_f h1
    simp -dsimp only [go_sem, h1]
    rw [decide_eq_false (fun e => h1' (sg_eq.1 e).1)]
theorem refSameSeg_c (a b : Sg) (st : Store) (ha : wS a) (hb : wS b) : PCalls Try.prog 19 [.agg (encS a), .agg (encS b)] st (fun r st' => r = .sc (.bool (decide (a = b))) ∧ st' = st) := by
  have ha0 := ha.1; have ha1 := ha.2.1; have hb0 := hb.1; have hb1 := hb.2.1
  unfold wN at ha0 ha1 hb0 hb1
  refine pcalls_enter none Try.func19 rfl fun E => pwp_of_vc ?_
  simp -dsimp only [go_sem]
  refine gkT (fun h1 => ?_) (fun h1 => ?_)
  · have h1' := zbeq_t h1
    simp -dsimp only [go_sem, h1]
    refine gkT (fun h2 => ?_) (fun h2 => ?_)
    · have h2' := zbeq_t h2
      simp -dsimp only [go_sem, h1, h2]
      refine (refSame_c a.t0 b.t0 st (by omega) (by omega)).mono ?_
      rintro r st ⟨rfl, rfl⟩
      simp -dsimp only [go_sem, h1, h2]
      refine gkT (fun h3 => ?_) (fun h3 => ?_)
      · have h3' := of_decide_eq_true h3
        simp -dsimp only [go_sem, h1, h2, h3]
        refine (refSame_c a.t1 b.t1 st (by omega) (by omega)).mono ?_
        rintro r st ⟨rfl, rfl⟩
        simp -dsimp only [go_sem, h1, h2, h3]
        refine gkT (fun h4 => ?_) (fun h4 => ?_)
        · have h4' := of_decide_eq_true h4
          simp -dsimp only [go_sem, h1, h2, h3, h4]
          refine (sameBox_c a.box b.box st ha.2.2 hb.2.2).mono ?_
          rintro r st ⟨rfl, rfl⟩
          simp -dsimp only [go_sem, h1, h2, h3, h4]
          have : decide (a.box = b.box) = decide (a = b) := decide_eq_decide.2 ⟨fun e => sg_eq.2 ⟨h1', h2', h3', h4', e⟩, fun e => (sg_eq.1 e).2.2.2.2⟩
          rw [this]
        · have h4' := of_decide_eq_false h4
          simp -dsimp only [go_sem, h1, h2, h3, h4]
          rw [decide_eq_false (fun e => h4' (sg_eq.1 e).2.2.2.1)]
      · have h3' := of_decide_eq_false h3
        simp -dsimp only [go_sem, h1, h2, h3]
        rw [decide_eq_false (fun e => h3' (sg_eq.1 e).2.2.1)]
    · have h2' := zbeq_f h2
      simp -dsimp only [go_sem, h1, h2]
      rw [decide_eq_false (fun e => h2' (sg_eq.1 e).2.1)]
  · have h1' := zbeq_f h1
    simp -dsimp only [go_sem, h1]
    rw [decide_eq_false (fun e => h1' (sg_eq.1 e).1)]
theorem behind_c (a b : Sg) (st : Store) (ha : wS a) (hb : wS b) : PCalls Try.prog 102 [.agg (encS a), .agg (encS b)] st (fun r st' => r = .sc (.bool (behindS a b)) ∧ st' = st) := by
  have ha1 := ha.2.1; have hb0 := hb.1
  unfold wN at ha1 hb0
  refine pcalls_enter none Try.func102 rfl fun E => pwp_of_vc ?_
  simp -dsimp only [go_sem]
  refine gkT (fun h1 => ?_) (fun h1 => ?_)
  · have h1' := zbeq_t h1
    simp -dsimp only [go_sem, h1]
    refine (cmpNum_c a.t1 b.t0 st (by omega) (by omega)).mono ?_
    rintro r st ⟨rfl, rfl⟩
    simp -dsimp only [go_sem, h1]
    refine gkT (fun h2 => ?_) (fun h2 => ?_)
    · have h2' := zbeq_t h2
      simp -dsimp only [go_sem, h1, h2]
      have : ((a.box.length : Int) == b.box.length) = decide (a.box.length = b.box.length) := by
        by_cases e : a.box.length = b.box.length
        · rw [e]; simp
        · rw [decide_eq_false e]; exact beq_eq_false_iff_ne.2 (by omega)
      rw [this, behindS, decide_eq_true h1', decide_eq_true h2']; rfl
    · have h2' := zbeq_f h2
      simp -dsimp only [go_sem, h1, h2]
      rw [behindS, decide_eq_false h2']; simp
  · have h1' := zbeq_f h1
    simp -dsimp only [go_sem, h1]
    rw [behindS, decide_eq_false h1']; simp
end Go.Pv
end

section
/- Tubes: Row, Right, Same, Copied; the document's Tube, SameTube. -/
set_option linter.unusedVariables false
set_option linter.unusedSimpArgs false
set_option maxRecDepth 100000
namespace Go.Pv
open Go.Proofs
theorem succ_wrap (i : Nat) (h : i < 100000000000000) : IntKind.i64.wrap ((i : Int) + 1) = ((i + 1 : Nat) : Int) := by rw [wrap_i64 _ (by omega) (by omega)]; omega
theorem pred_wrap (i : Nat) (h : i < 100000000000000) (h0 : 0 < i) : IntKind.i64.wrap ((i : Int) - 1) = ((i - 1 : Nat) : Int) := by rw [wrap_i64 _ (by omega) (by omega)]; omega
theorem row_c (l : List Sg) (st : Store) (hw : wSs l) : PCalls Try.prog 93 [.sl .no (encSs l)] st (fun r st' => r = .sc (.bool (rowF l)) ∧ st' = st) := by
  obtain ⟨hl, hw⟩ := hw
  refine pcalls_enter none Try.func93 rfl fun E => pwp_of_vc ?_
  simp -dsimp only [go_sem]
  refine pwp_loop_mask [true, false, false, false, false, true, true, true] 0 0 (fun n s => ∃ i, n = l.length - i ∧ i ≤ l.length ∧ (∀ j, j < i → rowAt l j = true) ∧ s = ⟨[.sl .no (encSs l), .junk, .junk, .junk, .junk, .sl .no (encSs l), .sc (.int .i64 l.length), .sc (.int .i64 i)] ++ List.replicate 45 .junk, [], [], st⟩) l.length ?_ ?_
  · simp -dsimp only [go_sem]
    exact ⟨0, by omega, by omega, fun j hj => by omega, rfl⟩
  · rintro n s ⟨i, rfl, hi, hr, rfl⟩
    simp -dsimp only [go_sem]
    refine ck (fun h => ?_) (fun h => ?_)
    · have hlt : i < l.length := by have := of_decide_eq_true h; omega
      have e1 := encSs_get l i hlt
      have e3 := succ_wrap i (by omega)
      have next : rowAt l i = true → ∃ m, m < l.length - i ∧ ∃ i', m = l.length - i' ∧ i' ≤ l.length ∧ (∀ j, j < i' → rowAt l j = true) ∧ i' = i + 1 := fun hat =>
        ⟨l.length - (i + 1), by omega, i + 1, rfl, by omega, fun j hj => by
          by_cases e : j = i
          · subst e; exact hat
          · exact hr j (by omega), rfl⟩
      simp -dsimp only [go_sem, e1]
      refine ⟨by omega, ?_⟩
      refine (rightSeg_c _ st (hw i hlt)).mono ?_
      rintro r st ⟨rfl, rfl⟩
      simp -dsimp only [go_sem, e1]
      refine ck (fun h1 => ?_) (fun h1 => ?_)
      · have hf : rightS (l.getD i default) = false := by simpa using h1
        simp -dsimp only [go_sem]
        rw [rowF_false i hlt (by unfold rowAt; rw [hf]; rfl)]
      · have ht : rightS (l.getD i default) = true := by simpa using h1
        simp -dsimp only [go_sem]
        refine pwp_draw mixed 53 (.step 0 [] (.step 1 [] (.step 2 [] (.step 3 [] (.step 4 [] (.step 5 [] (.step 6 [] (.step 7 [] (.step 8 [] (.step 9 [] (.step 10 [] (.step 11 [] (.step 12 [] (.step 13 [] (.step 14 [] (.step 15 [] (.step 16 [] (.step 17 [] (.step 18 [] (.step 19 [] (.step 20 [] (.step 21 [] (.step 22 [10] (.step 23 [] (.step 24 [] (.step 25 [] (.step 26 [] (.step 27 [] (.step 28 [] (.step 29 [] (.step 30 [] (.step 31 [] (.step 32 [] (.step 33 [] (.step 34 [] (.step 35 [] (.step 36 [] (.done)))))))))))))))))))))))))))))))))))))) (by decide +kernel) (by simp) ?_
        simp -dsimp only [go_sem]
        refine gkT (fun h2 => ?_) (fun h2 => ?_)
        · have hp : 0 < i := by have := of_decide_eq_true h2; omega
          have e4 := pred_wrap i (by omega) hp
          have e5 := encSs_get l (i - 1) (by omega)
          have e6 := encSs_get l 0 (by omega)
          have hpr := rightS_parts (rowAt_right (hr (i - 1) (by omega)))
          have e7 : IntKind.i64.wrap ((l.getD (i - 1) default).to + 1) = (l.getD (i - 1) default).to + 1 := wrap_i64 _ (by omega) (by omega)
          have hlen := row_len i hr (i - 1) (by omega)
          have hb : rowAt l i = behindS (l.getD (i - 1) default) (l.getD i default) := by
            unfold rowAt; rw [ht, decide_eq_false (by omega : ¬ i = 0)]; rfl
          simp -dsimp only [go_sem, h2, e4, e5, e6]
          refine ⟨by omega, ?_⟩
          refine gkF (fun h3 => ?_) (fun h3 => ?_)
          · have h3' := zbne_f h3
            simp -dsimp only [go_sem, h2, h3, e4, e5, e6]
            refine ⟨by omega, ?_⟩
            have q1 := (hw i hlt).1; have q2 := (hw (i - 1) (by omega)).2.1
            unfold wN at q1 q2
            refine (numCmp_c _ _ st (by omega) (by omega)).mono ?_
            rintro r st ⟨rfl, rfl⟩
            simp -dsimp only [go_sem, h2, h3, e4, e5, e6]
            refine gkF (fun h4 => ?_) (fun h4 => ?_)
            · have h4' := zbne_f h4
              simp -dsimp only [go_sem, h2, h3, h4, e4, e5, e6]
              refine ⟨by omega, ?_⟩
              refine ck (fun h5 => ?_) (fun h5 => ?_)
              · have h5' := nbne_t h5
                simp -dsimp only [go_sem]
                rw [rowF_false i hlt (by rw [hb]; unfold behindS; rw [decide_eq_false (by omega : ¬ (l.getD (i - 1) default).box.length = (l.getD i default).box.length)]; simp)]
              · have h5' := nbne_f h5
                simp -dsimp only [go_sem, e3]
                obtain ⟨m, hm, i', a1, a2, a3, rfl⟩ := next (by
                  rw [hb, behindS, decide_eq_true h3', decide_eq_true ((cmpR_zero_swap _ _).1 h4'), decide_eq_true (by omega : (l.getD (i - 1) default).box.length = (l.getD i default).box.length)]; rfl)
                exact ⟨m, hm, _, a1, a2, a3, rfl⟩
            · have h4' := zbne_t h4
              simp -dsimp only [go_sem, h2, h3, h4, e4, e5, e6]
              rw [rowF_false i hlt (by rw [hb]; unfold behindS; rw [decide_eq_false (fun e => h4' ((cmpR_zero_swap _ _).1 e))]; simp)]
          · have h3' := zbne_t h3
            simp -dsimp only [go_sem, h2, h3, e4, e5, e6]
            rw [rowF_false i hlt (by rw [hb]; unfold behindS; rw [decide_eq_false h3']; simp)]
        · have h0 : i = 0 := by have := of_decide_eq_false h2; omega
          simp -dsimp only [go_sem, h2, e3]
          obtain ⟨m, hm, i', a1, a2, a3, rfl⟩ := next (by unfold rowAt; rw [ht, decide_eq_true h0]; rfl)
          exact ⟨m, hm, _, a1, a2, a3, rfl⟩
    · have hge : i = l.length := by have := of_decide_eq_false h; omega
      simp -dsimp only [go_sem]
      refine pwp_of_vc ?_
      simp -dsimp only [go_sem]
      rw [rowF_true.2 (fun j hj => hr j (by omega))]
theorem tubeRight_c (l : List Sg) (st : Store) (hw : wSs l) : PCalls Try.prog 50 [.sl .no (encSs l)] st (fun r st' => r = .sc (.bool (tubeF l)) ∧ st' = st) := by
  refine pcalls_enter none Try.func50 rfl fun E => pwp_of_vc ?_
  simp -dsimp only [go_sem]
  refine (row_c l st hw).mono ?_
  rintro r st ⟨rfl, rfl⟩
  simp -dsimp only [go_sem]
  refine gkT (fun h1 => ?_) (fun h1 => ?_)
  · simp -dsimp only [go_sem, h1]
    refine gkF (fun h2 => ?_) (fun h2 => ?_)
    · have hn := nbeq_f (b := 0) h2
      have e6 := encSs_get l 0 (by omega)
      have hr := rightS_parts (rowAt_right (rowF_true.1 h1 0 (by omega)))
      simp -dsimp only [go_sem, h1, h2, e6]
      refine ⟨by omega, ?_⟩
      refine gkT (fun h3 => ?_) (fun h3 => ?_)
      · have h3' := zbeq_t h3
        simp -dsimp only [go_sem, h1, h2, h3, e6]
        refine ⟨by omega, ?_⟩
        have q1 := (hw.2 0 (by omega)).1
        unfold wN at q1
        refine (numSign_c _ st (by omega)).mono ?_
        rintro r st ⟨rfl, rfl⟩
        simp -dsimp only [go_sem, h1, h2, h3, e6]
        have : (sgnN (ownN (l.getD 0 default).t0) == 0) = tubeF l := by
          rw [tubeF, h1, firstF, decide_eq_false hn, decide_eq_true h3']
          simp only [Bool.true_and, Bool.false_or]
          rw [Bool.eq_iff_iff, decide_eq_true_iff, beq_iff_eq]
          exact sgn_zero hr.2.2.2.1
        rw [this]
      · have h3' := zbeq_f h3
        simp -dsimp only [go_sem, h1, h2, h3, e6]
        rw [tubeF, firstF, decide_eq_false hn, decide_eq_false h3']; simp
    · have hn := nbeq_t (b := 0) h2
      simp -dsimp only [go_sem, h1, h2]
      rw [tubeF, h1, firstF, decide_eq_true hn]; rfl
  · simp -dsimp only [go_sem, h1]
    rw [tubeF, h1]; rfl
theorem tubeSame_c (a b : List Sg) (st : Store) (ha : wSs a) (hb : wSs b) : PCalls Try.prog 49 [.sl .no (encSs a), .sl .no (encSs b)] st (fun r st' => r = .sc (.bool (decide (a = b))) ∧ st' = st) := by
  have hla := ha.1
  have hlb := hb.1
  refine pcalls_enter none Try.func49 rfl fun E => pwp_of_vc ?_
  simp -dsimp only [go_sem]
  refine ck (fun h0 => ?_) (fun h0 => ?_)
  · have hne := nbne_t h0
    simp -dsimp only [go_sem]
    rw [decide_eq_false (fun e => hne (by rw [e]))]
  · have hl := nbne_f h0
    simp -dsimp only [go_sem]
    refine pwp_loop_mask [true, true, false, false, false, false, false, false, false, false, false, false, true, true] 0 0 (fun n s => ∃ i, n = a.length - i ∧ i ≤ a.length ∧ (∀ j, j < i → a.getD j default = b.getD j default) ∧ s = ⟨[.sl .no (encSs a), .sl .no (encSs b), .junk, .junk, .junk, .junk, .junk, .junk, .junk, .junk, .junk, .junk, .sc (.int .i64 a.length), .sc (.int .i64 i)] ++ List.replicate 13 .junk, [], [], st⟩) a.length ?_ ?_
    · simp -dsimp only [go_sem]
      exact ⟨0, by omega, by omega, fun j hj => by omega, rfl⟩
    · rintro n s ⟨i, rfl, hi, hr, rfl⟩
      simp -dsimp only [go_sem]
      refine ck (fun h' => ?_) (fun h' => ?_)
      · have hlt : i < a.length := by have := of_decide_eq_true h'; omega
        have e1 := encSs_get a i hlt
        have e2 := encSs_get b i (by omega)
        have e3 := succ_wrap i (by omega)
        simp -dsimp only [go_sem]
        refine pwp_draw mixed 27 (.step 0 [] (.step 1 [] (.step 2 [] (.step 3 [] (.step 4 [] (.step 5 [] (.step 6 [] (.step 7 [] (.step 8 [] (.step 9 [] (.done))))))))))) (by decide +kernel) (by simp) ?_
        simp -dsimp only [go_sem, e1, e2]
        refine ⟨by omega, by omega, ?_⟩
        refine (sameSeg_c _ _ st (ha.2 i hlt) (hb.2 i (by omega))).mono ?_
        rintro r st ⟨rfl, rfl⟩
        simp -dsimp only [go_sem]
        refine ck (fun h2 => ?_) (fun h2 => ?_)
        · have hf : a.getD i default ≠ b.getD i default := by
            intro e; rw [e] at h2; simp at h2
          simp -dsimp only [go_sem]
          rw [decide_eq_false (fun e => hf (by rw [e]))]
        · have ht : a.getD i default = b.getD i default := by
            apply Decidable.byContradiction; intro e; rw [decide_eq_false e] at h2; cases h2
          simp -dsimp only [go_sem, e3]
          refine ⟨a.length - (i + 1), by omega, i + 1, rfl, by omega, fun j hj => ?_, rfl⟩
          by_cases e : j = i
          · subst e; exact ht
          · exact hr j (by omega)
      · have hge : i = a.length := by have := of_decide_eq_false h'; omega
        simp -dsimp only [go_sem]
        refine pwp_of_vc ?_
        simp -dsimp only [go_sem]
        rw [decide_eq_true (eq_of_getD default hl fun j hj => hr j (by omega))]
theorem sameTube_c (a b : List Sg) (st : Store) (ha : wSs a) (hb : wSs b) : PCalls Try.prog 56 [.sl .no (encSs a), .sl .no (encSs b)] st (fun r st' => r = .sc (.bool (decide (a = b))) ∧ st' = st) := by
  have hla := ha.1
  have hlb := hb.1
  refine pcalls_enter none Try.func56 rfl fun E => pwp_of_vc ?_
  simp -dsimp only [go_sem]
  refine ck (fun h0 => ?_) (fun h0 => ?_)
  · have hne := nbne_t h0
    simp -dsimp only [go_sem]
    rw [decide_eq_false (fun e => hne (by rw [e]))]
  · have hl := nbne_f h0
    simp -dsimp only [go_sem]
    refine pwp_loop_mask [true, true, false, false, false, true] 0 0 (fun n s => ∃ i, n = a.length - i ∧ i ≤ a.length ∧ (∀ j, j < i → a.getD j default = b.getD j default) ∧ s = ⟨[.sl .no (encSs a), .sl .no (encSs b), .junk, .junk, .junk, .sc (.int .i64 i)] ++ List.replicate 21 .junk, [], [], st⟩) a.length ?_ ?_
    · simp -dsimp only [go_sem]
      exact ⟨0, by omega, by omega, fun j hj => by omega, rfl⟩
    · rintro n s ⟨i, rfl, hi, hr, rfl⟩
      simp -dsimp only [go_sem]
      refine ck (fun h' => ?_) (fun h' => ?_)
      · have hlt : i < a.length := by have := of_decide_eq_true h'; omega
        have e1 := encSs_get a i hlt
        have e2 := encSs_get b i (by omega)
        have e3 := succ_wrap i (by omega)
        simp -dsimp only [go_sem]
        refine pwp_draw mixed 27 (.step 0 [] (.step 1 [] (.step 2 [] (.step 3 [] (.step 4 [] (.step 5 [] (.step 6 [] (.step 7 [] (.step 8 [] (.step 9 [] (.done))))))))))) (by decide +kernel) (by simp) ?_
        simp -dsimp only [go_sem, e1, e2]
        refine ⟨by omega, by omega, ?_⟩
        refine (refSameSeg_c _ _ st (ha.2 i hlt) (hb.2 i (by omega))).mono ?_
        rintro r st ⟨rfl, rfl⟩
        simp -dsimp only [go_sem]
        refine ck (fun h2 => ?_) (fun h2 => ?_)
        · have hf : a.getD i default ≠ b.getD i default := by
            intro e; rw [e] at h2; simp at h2
          simp -dsimp only [go_sem]
          rw [decide_eq_false (fun e => hf (by rw [e]))]
        · have ht : a.getD i default = b.getD i default := by
            apply Decidable.byContradiction; intro e; rw [decide_eq_false e] at h2; cases h2
          simp -dsimp only [go_sem, e3]
          refine ⟨a.length - (i + 1), by omega, i + 1, rfl, by omega, fun j hj => ?_, rfl⟩
          by_cases e : j = i
          · subst e; exact ht
          · exact hr j (by omega)
      · have hge : i = a.length := by have := of_decide_eq_false h'; omega
        simp -dsimp only [go_sem]
        refine pwp_of_vc ?_
        simp -dsimp only [go_sem]
        rw [decide_eq_true (eq_of_getD default hl fun j hj => hr j (by omega))]
theorem segCopied_c (s : Sg) (st : Store) (hw : wS s) : PCalls Try.prog 63 [.agg (encS s)] st (fun r st' => r = .agg (encS s) ∧ st' = st) := by
  obtain ⟨w0, w1, wb, wb2⟩ := hw
  refine pcalls_enter none Try.func63 rfl fun E => pwp_of_vc ?_
  simp -dsimp only [go_sem]
  refine pwp_draw mixed 39 (.step 0 [] (.step 1 [] (.step 4 [] (.step 5 [] (.step 2 [5] (.step 3 [] (.step 8 [] (.step 6 [] (.step 7 [] (.step 9 [] (.step 10 [] (.step 11 [] (.done))))))))))))) (by decide +kernel) (by simp) ?_
  simp -dsimp only [go_sem]
  refine (ivOf_c s.t0 st w0).mono ?_
  rintro r st ⟨rfl, rfl⟩
  simp -dsimp only [go_sem]
  refine (ivOf_c s.t1 st w1).mono ?_
  rintro r st ⟨rfl, rfl⟩
  simp -dsimp only [go_sem]
  refine pwp_claim 3 6 ?_
  simp -dsimp only [go_sem]
  refine pwp_loop_mask [false, true, true, true, false, false, false, false, false, false, false, false, false, false, false, false, false, true, true, true] 2 1 (fun n s' => ∃ i, n = s.box.length - i ∧ i ≤ s.box.length ∧ s' = ⟨[.junk, .lp 0 0, .lp 1 0, .sl (.own 0) (encIs (s.box.take i)), .junk, .junk, .junk, .junk, .junk, .junk, .junk, .junk, .junk, .junk, .junk, .junk, .junk, .sl .no (encIs s.box), .sc (.int .i64 s.box.length), .sc (.int .i64 i)] ++ List.replicate 19 .junk, [encS s, [.sc (.int .i64 0), .sc (.int .i64 0), .sc (.bool false), .sc (.int .i64 0), .sl .full [], .sc (.bool false), .sc (.int .i64 0), .sl .full [], .sl .full []]], [((s.box.take i).length, 6)], st⟩) s.box.length ?_ ?_
  · simp -dsimp only [go_sem]
    exact ⟨0, by omega, by omega, rfl⟩
  · rintro n s' ⟨i, rfl, hi, rfl⟩
    have hlen : (s.box.take i).length = i := by rw [List.length_take]; omega
    simp -dsimp only [go_sem]
    refine ck (fun h => ?_) (fun h => ?_)
    · have hlt : i < s.box.length := by have := of_decide_eq_true h; omega
      have e1 := encIs_get s.box i hlt
      have e3 := succ_wrap i (by omega)
      have hwi := wb2 i hlt
      simp -dsimp only [go_sem, e1]
      refine ⟨by omega, ?_⟩
      refine pwp_draw mixed 39 (.step 0 [] (.step 1 [] (.step 2 [] (.step 5 [] (.step 6 [] (.step 3 [6] (.step 4 [] (.step 7 [] (.step 8 [] (.step 9 [] (.step 10 [] (.step 11 [] (.step 12 [] (.done)))))))))))))) (by decide +kernel) (by simp) ?_
      simp -dsimp only [go_sem]
      refine (ivOf_c _ st hwi.1).mono ?_
      rintro r st ⟨rfl, rfl⟩
      simp -dsimp only [go_sem]
      refine (ivOf_c _ st hwi.2).mono ?_
      rintro r st ⟨rfl, rfl⟩
      simp -dsimp only [go_sem, e3]
      refine ⟨by omega, s.box.length - (i + 1), by omega, i + 1, rfl, by omega, ?_⟩
      rw [take_snoc s.box i default hlt]
      simp [encIs, encI]
    · have hge : i = s.box.length := by have := of_decide_eq_false h; omega
      have ht : s.box.take i = s.box := by rw [hge]; exact List.take_length
      simp -dsimp only [go_sem]
      refine pwp_of_vc ?_
      simp -dsimp only [go_sem]
      rw [ht]
theorem tube_c (l : List Sg) (st : Store) (hw : wSs l) : PCalls Try.prog 104 [.sl .no (encSs l)] st (fun r st' => r = .sc (.bool (tubeF l)) ∧ st' = st) := by
  obtain ⟨hl, hw⟩ := hw
  refine pcalls_enter none Try.func104 rfl fun E => pwp_of_vc ?_
  simp -dsimp only [go_sem]
  refine pwp_loop_mask [true, false, false, true] 0 0 (fun n s => ∃ i, n = l.length - i ∧ i ≤ l.length ∧ (∀ j, j < i → rowAt l j = true) ∧ (0 < i → firstF l = true) ∧ s = ⟨[.sl .no (encSs l), .junk, .junk, .sc (.int .i64 i)] ++ List.replicate 45 .junk, [], [], st⟩) l.length ?_ ?_
  · simp -dsimp only [go_sem]
    exact ⟨0, by omega, by omega, fun j hj => by omega, fun h => by omega, rfl⟩
  · rintro n s ⟨i, rfl, hi, hr, hfi, rfl⟩
    simp -dsimp only [go_sem]
    refine ck (fun h => ?_) (fun h => ?_)
    · have hlt : i < l.length := by have := of_decide_eq_true h; omega
      have e1 := encSs_get l i hlt
      have e3 := succ_wrap i (by omega)
      have e6 := encSs_get l 0 (by omega)
      have next : rowAt l i = true → firstF l = true → ∃ m, m < l.length - i ∧ ∃ i', m = l.length - i' ∧ i' ≤ l.length ∧ (∀ j, j < i' → rowAt l j = true) ∧ (0 < i' → firstF l = true) ∧ i' = i + 1 := fun hat hf =>
        ⟨l.length - (i + 1), by omega, i + 1, rfl, by omega, fun j hj => by
          by_cases e : j = i
          · subst e; exact hat
          · exact hr j (by omega), fun _ => hf, rfl⟩
      have bad : rowAt l i = false → tubeF l = false := fun h => by rw [tubeF, rowF_false i hlt h]; rfl
      have badf : firstF l = false → tubeF l = false := fun h => by rw [tubeF, h]; simp
      simp -dsimp only [go_sem, e1]
      refine ⟨by omega, ?_⟩
      refine (refRightSeg_c _ st (hw i hlt)).mono ?_
      rintro r st ⟨rfl, rfl⟩
      simp -dsimp only [go_sem, e1]
      refine ck (fun h1 => ?_) (fun h1 => ?_)
      · have hf : rightS (l.getD i default) = false := by simpa using h1
        simp -dsimp only [go_sem]
        rw [bad (by unfold rowAt; rw [hf]; rfl)]
      · have ht : rightS (l.getD i default) = true := by simpa using h1
        simp -dsimp only [go_sem]
        refine gkT (fun h2 => ?_) (fun h2 => ?_)
        · have h0 : i = 0 := nbeq_t (b := 0) h2
          have hd : decide ((i : Int) > 0) = false := decide_eq_false (by omega)
          simp -dsimp only [go_sem, h2, e6]
          refine ⟨by omega, ?_⟩
          refine gkF (fun h3 => ?_) (fun h3 => ?_)
          · have h3' := zbne_f h3
            simp -dsimp only [go_sem, h2, h3, e6]
            refine ⟨by omega, ck (fun h4 => ?_) (fun h4 => ?_)⟩
            · have h4' : ¬ (l.getD 0 default).t0.w.length = 0 := by have := of_decide_eq_true h4; omega
              simp -dsimp only [go_sem]
              rw [badf (by rw [firstF, decide_eq_false (by omega : ¬ l.length = 0), decide_eq_false h4']; simp)]
            · have h4' : (l.getD 0 default).t0.w.length = 0 := by have := of_decide_eq_false h4; omega
              simp -dsimp only [go_sem]
              refine pwp_draw mixed 49 (.step 0 [] (.step 1 [] (.step 2 [] (.step 3 [] (.step 4 [] (.step 5 [] (.step 6 [] (.step 7 [] (.step 8 [] (.step 9 [] (.step 10 [] (.step 11 [] (.step 12 [] (.step 13 [] (.step 14 [] (.done)))))))))))))))) (by decide +kernel) (by simp) ?_
              simp -dsimp only [go_sem, hd, e3]
              obtain ⟨m, hm, i', a1, a2, a3, a4, rfl⟩ := next (by unfold rowAt; rw [ht, decide_eq_true h0]; rfl) (by rw [firstF, decide_eq_true h3', decide_eq_true h4']; simp)
              exact ⟨m, hm, _, a1, a2, a3, a4, rfl⟩
          · have h3' := zbne_t h3
            simp -dsimp only [go_sem, h2, h3, e6]
            rw [badf (by rw [firstF, decide_eq_false (by omega : ¬ l.length = 0), decide_eq_false h3']; rfl)]
        · have h0 : i ≠ 0 := nbeq_f (b := 0) h2
          have hd : decide ((i : Int) > 0) = true := decide_eq_true (by omega)
          have e4 := pred_wrap i (by omega) (by omega)
          have e5 := encSs_get l (i - 1) (by omega)
          have hb : rowAt l i = behindS (l.getD (i - 1) default) (l.getD i default) := by
            unfold rowAt; rw [ht, decide_eq_false h0]; rfl
          simp -dsimp only [go_sem, h2]
          refine pwp_draw mixed 49 (.step 0 [] (.step 1 [] (.step 2 [] (.step 3 [] (.step 4 [] (.step 5 [] (.step 6 [] (.step 7 [] (.step 8 [] (.step 9 [] (.step 10 [] (.step 11 [] (.step 12 [] (.step 13 [] (.step 14 [] (.done)))))))))))))))) (by decide +kernel) (by simp) ?_
          simp -dsimp only [go_sem, hd, e1, e4, e5]
          refine ⟨by omega, by omega, ?_⟩
          refine (behind_c _ _ st (hw (i - 1) (by omega)) (hw i hlt)).mono ?_
          rintro r st ⟨rfl, rfl⟩
          simp -dsimp only [go_sem, hd]
          refine ck (fun h5 => ?_) (fun h5 => ?_)
          · have h5' : behindS (l.getD (i - 1) default) (l.getD i default) = false := by simpa using h5
            simp -dsimp only [go_sem]
            rw [bad (by rw [hb]; exact h5')]
          · have h5' : behindS (l.getD (i - 1) default) (l.getD i default) = true := by simpa using h5
            simp -dsimp only [go_sem, e3]
            obtain ⟨m, hm, i', a1, a2, a3, a4, rfl⟩ := next (by rw [hb]; exact h5') (hfi (by omega))
            exact ⟨m, hm, _, a1, a2, a3, a4, rfl⟩
    · have hge : i = l.length := by have := of_decide_eq_false h; omega
      simp -dsimp only [go_sem]
      refine pwp_of_vc ?_
      simp -dsimp only [go_sem]
      have hr2 := rowF_true.2 (fun j hj => hr j (by omega))
      have hf2 : firstF l = true := by
        by_cases h0 : l.length = 0
        · rw [firstF, decide_eq_true h0]; rfl
        · exact hfi (by omega)
      rw [tubeF, hr2, hf2]; rfl
end Go.Pv
end
