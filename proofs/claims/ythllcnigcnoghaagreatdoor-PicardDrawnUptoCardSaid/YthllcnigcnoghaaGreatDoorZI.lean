/- Parts of the walk: F21. -/
import Derived.Test.YthllcnigcnoghaaGreatDoorZH
set_option linter.unusedVariables false
set_option linter.unusedSimpArgs false
section
/- The document's boxes: Meet, RightBox, HullBox, SameBox. -/
set_option maxRecDepth 100000
namespace Go.Pv
open Go.Proofs
theorem refMeet_c (a b : Ivl) (st : Store) (ha : wI a) (hb : wI b) : PCalls Tryz.prog 222 [.agg (encI a), .agg (encI b)] st (fun r st' => r = .tup [.agg (encI (meetI a b).1), .sc (.int .i64 (meetI a b).2)] ∧ st' = st) := by
  refine pcalls_enter none Tryz.func222 rfl fun E => pwp_of_vc ?_
  simp -dsimp only [go_sem]
  refine (refRightIv_c a st ha).mono ?_
  rintro r st ⟨rfl, rfl⟩
  simp -dsimp only [go_sem]
  refine gkF (fun h => ?_) (fun h => ?_)
  · have r1 : rightI a = true := by simpa using h
    simp -dsimp only [go_sem, r1]
    refine (refRightIv_c b st hb).mono ?_
    rintro r st ⟨rfl, rfl⟩
    simp -dsimp only [go_sem]
    refine ck (fun h => ?_) (fun h => ?_)
    · have r2 : rightI b = false := by simpa using h
      simp -dsimp only [go_sem]
      rw [meetI, if_neg (by simp [r2])]; rfl
    · have r2 : rightI b = true := by simpa using h
      obtain ⟨a1, a2, _⟩ := rightI_right r1
      obtain ⟨b1, b2, _⟩ := rightI_right r2
      have g1 : rightN (greatN a.lo b.lo) = true := greatN_of (P := fun x => rightN x = true) a1 b1
      have g2 : rightN (leastN a.hi b.hi) = true := leastN_of (P := fun x => rightN x = true) a2 b2
      have w1 := (rightN_sm g1).1
      have w2 := (rightN_sm g2).1
      rw [meetI, if_pos ⟨r1, r2⟩]
      simp -dsimp only [go_sem]
      refine pwp_draw mixed 35 (.step 0 [] (.step 1 [] (.step 2 [] (.step 3 [] (.step 5 [] (.step 6 [] (.step 7 [] (.step 8 [] (.alt (.step 4 [6, 8] (.alt (.step 9 [] (.step 10 [] (.step 11 [1, 3, 6, 8] (.step 12 [] (.done))))) (.step 11 [1, 3, 6, 8] (.step 9 [] (.step 10 [] (.step 12 [] (.done))))))) (.step 11 [1, 3, 6, 8] (.step 4 [6, 8] (.step 9 [] (.step 10 [] (.step 12 [] (.done))))))))))))))) (by decide +kernel) (by simp) ?_
      simp -dsimp only [go_sem]
      refine And.intro ?_ ?_
      all_goals
        refine (upper_c a.lo b.lo st a1 b1).mono ?_
        rintro r st ⟨rfl, rfl⟩
        simp -dsimp only [go_sem]
        try refine And.intro ?_ ?_
      all_goals
        refine (lower_c a.hi b.hi st a2 b2).mono ?_
        rintro r st ⟨rfl, rfl⟩
        simp -dsimp only [go_sem]
        refine (cmpNum_c _ _ st (by omega) (by omega)).mono ?_
        rintro r st ⟨rfl, rfl⟩
        simp -dsimp only [go_sem, cmpR_right g1 g2]
        refine ck (fun h => ?_) (fun h => ?_)
        · simp -dsimp only [go_sem]
          rw [if_pos (of_decide_eq_true h)]; rfl
        · simp -dsimp only [go_sem]
          rw [if_neg (of_decide_eq_false h)]
  · have r1 : rightI a = false := by simpa using h
    simp -dsimp only [go_sem, r1]
    rw [meetI, if_neg (by simp [r1])]; rfl
theorem rightBox_c (l : List Ivl) (st : Store) (hw : wB l) : PCalls Tryz.prog 88 [.sl .no (encIs l)] st (fun r st' => r = .sc (.bool (rightB l)) ∧ st' = st) := by
  obtain ⟨hl, hw⟩ := hw
  refine pcalls_enter none Tryz.func88 rfl fun E => pwp_of_vc ?_
  simp -dsimp only [go_sem]
  refine pwp_loop_mask [true, false, false, true] 0 0 (fun n s => ∃ i, n = l.length - i ∧ i ≤ l.length ∧ (l.take i).all rightI = true ∧ s = ⟨[.sl .no (encIs l), .junk, .junk, .sc (.int .i64 i)] ++ List.replicate 24 .junk, [], [], st⟩) l.length ?_ ?_
  · simp -dsimp only [go_sem]
    exact ⟨0, by omega, by omega, rfl, rfl⟩
  · rintro n s ⟨i, rfl, hi, hr, rfl⟩
    have fin : i = l.length ∨ ¬ (i : Int) < 4 → decide ((l.length : Int) > 0) = true → decide ((l.length : Int) ≤ 4) = rightB l := fun h h1 => by
      have h1 := of_decide_eq_true h1
      unfold rightB
      rcases h with h | h
      · have hall : l.all rightI = true := by rw [← List.take_length (l := l), ← h]; exact hr
        rw [hall, decide_eq_true (by omega : 1 ≤ l.length)]
        simp only [Bool.true_and]
        exact decide_eq_decide.2 (by omega)
      · by_cases h4 : l.length ≤ 4
        · have : i = l.length := by omega
          have hall : l.all rightI = true := by rw [← List.take_length (l := l), ← this]; exact hr
          rw [hall, decide_eq_true (by omega : 1 ≤ l.length)]
          simp only [Bool.true_and]
          exact decide_eq_decide.2 (by omega)
        · rw [decide_eq_false h4, decide_eq_false (by omega)]; simp
    have fin0 : decide ((l.length : Int) > 0) = false → rightB l = false := fun h => by
      have := of_decide_eq_false h
      unfold rightB; rw [decide_eq_false (by omega : ¬ 1 ≤ l.length)]; simp
    simp -dsimp only [go_sem]
    refine gkT (fun h => ?_) (fun h => ?_)
    · have hlt : i < l.length := by have := of_decide_eq_true h; omega
      simp -dsimp only [go_sem, h]
      refine ck (fun h4 => ?_) (fun h4 => ?_)
      · have e1 := encIs_get l i hlt
        have e3 : IntKind.i64.wrap ((i : Int) + 1) = ((i + 1 : Nat) : Int) := by rw [wrap_i64 _ (by omega) (by omega)]; omega
        have e4 := all_take rightI l i default hlt
        simp -dsimp only [go_sem, e1]
        refine ⟨by omega, ?_⟩
        refine (refRightIv_c _ st (hw i hlt)).mono ?_
        rintro r st ⟨rfl, rfl⟩
        simp -dsimp only [go_sem, e1]
        refine ck (fun h => ?_) (fun h => ?_)
        · have hf : rightI (l.getD i default) = false := by simpa using h
          simp -dsimp only [go_sem]
          have : rightB l = false := by
            cases hb : rightB l with
            | false => rfl
            | true =>
              unfold rightB at hb
              simp only [Bool.and_eq_true] at hb
              have := (all_of_getD default rightI l).1 hb.1.1 i hlt
              rw [this] at hf; cases hf
          rw [this]
        · have ht : rightI (l.getD i default) = true := by simpa using h
          simp -dsimp only [go_sem, e3]
          exact ⟨l.length - (i + 1), by omega, i + 1, rfl, by omega, by rw [e4, hr, ht]; rfl, rfl⟩
      · have h4' := of_decide_eq_false h4
        simp -dsimp only [go_sem]
        refine pwp_of_vc ?_
        simp -dsimp only [go_sem]
        refine gkT (fun h => ?_) (fun h => ?_)
        · simp -dsimp only [go_sem, h]
          rw [fin (.inr h4') h]
        · simp -dsimp only [go_sem, h]
          rw [fin0 h]
    · have hge : i = l.length := by have := of_decide_eq_false h; omega
      simp -dsimp only [go_sem, h]
      refine pwp_of_vc ?_
      simp -dsimp only [go_sem]
      refine gkT (fun h => ?_) (fun h => ?_)
      · simp -dsimp only [go_sem, h]
        rw [fin (.inl hge) h]
      · simp -dsimp only [go_sem, h]
        rw [fin0 h]
theorem two_c (a b : List Ivl) (st : Store) (ha : wB a) (hb : wB b) : PCalls Tryz.prog 198 [.sl .no (encIs a), .sl .no (encIs b), .sc (.bool true)] st (fun r st' => r = .tup [.sl .no (encIs (hullB a b).1), .sc (.int .i64 (hullB a b).2)] ∧ st' = st) := by
  refine pcalls_enter none Tryz.func198 rfl fun E => pwp_of_vc ?_
  have bad : ¬ (rightB a = true ∧ rightB b = true ∧ a.length = b.length) → hullB a b = ([], 1) := fun h => if_neg h
  simp -dsimp only [go_sem]
  refine (rightBox_c a st ha).mono ?_
  rintro r st ⟨rfl, rfl⟩
  simp -dsimp only [go_sem]
  refine gkF (fun h1 => ?_) (fun h1 => ?_)
  · have r1 : rightB a = true := by simpa using h1
    simp -dsimp only [go_sem, r1]
    refine (rightBox_c b st hb).mono ?_
    rintro r st ⟨rfl, rfl⟩
    simp -dsimp only [go_sem, r1]
    refine gkF (fun h2 => ?_) (fun h2 => ?_)
    · have r2 : rightB b = true := by simpa using h2
      simp -dsimp only [go_sem, r1, r2]
      refine ck (fun h3 => ?_) (fun h3 => ?_)
      · have hne := nbne_t h3
        simp -dsimp only [go_sem]
        rw [bad (fun h => hne h.2.2)]; rfl
      · have hl := nbne_f h3
        have hla := ha.1
        have hab : hullB a b = eachF (fun i x => hullI x (b.getD i default)) 0 a [] := if_pos ⟨r1, r2, hl⟩
        simp -dsimp only [go_sem]
        refine pwp_claim 8 6 ?_
        simp -dsimp only [go_sem]
        refine pwp_loop_mask [true, true, true, false, false, false, false, false, true, true] 0 1 (fun n s => ∃ i o, n = a.length - i ∧ i ≤ a.length ∧ o.length = i ∧ hullB a b = eachF (fun i x => hullI x (b.getD i default)) i (a.drop i) o ∧ s = ⟨[.sl .no (encIs a), .sl .no (encIs b), .sc (.bool true), .junk, .junk, .junk, .junk, .junk, .sl (.own 0) (encIs o), .sc (.int .i64 i)] ++ List.replicate 56 .junk, [], [(o.length, 6)], st⟩) a.length ?_ ?_
        · simp -dsimp only [go_sem]
          exact ⟨0, [], by omega, by omega, rfl, hab, rfl⟩
        · rintro n s ⟨i, o, rfl, hi, ho, hr, rfl⟩
          simp -dsimp only [go_sem]
          refine ck (fun h' => ?_) (fun h' => ?_)
          · have hlt : i < a.length := by have := of_decide_eq_true h'; omega
            have e1 := encIs_get a i hlt
            have e2 := encIs_get b i (by omega)
            have e3 : IntKind.i64.wrap ((i : Int) + 1) = ((i + 1 : Nat) : Int) := by rw [wrap_i64 _ (by omega) (by omega)]; omega
            have e4 := eachF_drop (fun i x => hullI x (b.getD i default)) a i o hlt
            simp -dsimp only [go_sem]
            refine pwp_draw mixed 66 (.step 0 [] (.step 1 [] (.step 2 [] (.step 3 [] (.step 4 [] (.step 5 [] (.step 6 [] (.step 7 [] (.alt (.step 8 [] (.step 9 [] (.step 10 [] (.step 11 [] (.step 12 [3, 7] (.step 13 [] (.step 14 [] (.done)))))))) (.step 12 [3, 7] (.step 8 [] (.step 9 [] (.step 10 [] (.step 11 [] (.step 13 [] (.step 14 [] (.done))))))))))))))))) (by decide +kernel) (by simp) ?_
            simp -dsimp only [go_sem, e1, e2]
            refine ⟨by omega, by omega, ?_, ?_⟩
            all_goals
              refine (refMeet_c _ _ st (ha.2 i hlt) (hb.2 i (by omega))).mono ?_
              rintro r st ⟨rfl, rfl⟩
              simp -dsimp only [go_sem, e1, e2]
              try refine ⟨by omega, by omega, ?_⟩
              refine pwp_draw mixed 66 (.step 0 [] (.step 1 [] (.step 2 [] (.step 3 [] (.step 4 [] (.step 5 [] (.step 6 [] (.step 7 [] (.step 8 [] (.step 9 [] (.step 10 [] (.step 11 [] (.step 12 [] (.step 13 [] (.done))))))))))))))) (by decide +kernel) (by simp) ?_
              simp -dsimp only [go_sem, e1, e2]
              refine ⟨by omega, by omega, ?_⟩
              refine (refHull_c _ _ st (ha.2 i hlt) (hb.2 i (by omega))).mono ?_
              rintro r st ⟨rfl, rfl⟩
              simp -dsimp only [go_sem, e1, e2]
              refine ck (fun h2 => ?_) (fun h2 => ?_)
              · have hne := zbne_t h2
                simp -dsimp only [go_sem]
                rw [hr, e4, if_pos hne]; rfl
              · have he := zbne_f h2
                simp -dsimp only [go_sem, e3]
                refine ⟨by omega, a.length - (i + 1), by omega, i + 1, o ++ [(hullI (a.getD i default) (b.getD i default)).1], rfl, by omega, by simp [ho], ?_, ?_⟩
                · rw [hr, e4, if_neg (fun hh => hh he)]
                · simp [encIs, encI]
          · have hge : i = a.length := by have := of_decide_eq_false h'; omega
            simp -dsimp only [go_sem]
            refine pwp_of_vc ?_
            simp -dsimp only [go_sem]
            rw [hr, hge, List.drop_length]; rfl
    · have r2 : rightB b = false := by simpa using h2
      simp -dsimp only [go_sem, r1, r2]
      rw [bad (fun h => by simp [r2] at h)]; rfl
  · have r1 : rightB a = false := by simpa using h1
    simp -dsimp only [go_sem, r1]
    rw [bad (fun h => by simp [r1] at h)]; rfl
theorem hullBox_c (a b : List Ivl) (st : Store) (ha : wB a) (hb : wB b) : PCalls Tryz.prog 147 [.sl .no (encIs a), .sl .no (encIs b)] st (fun r st' => r = .tup [.sl .no (encIs (hullB a b).1), .sc (.int .i64 (hullB a b).2)] ∧ st' = st) := by
  refine pcalls_enter none Tryz.func147 rfl fun E => pwp_of_vc ?_
  simp -dsimp only [go_sem]
  refine (two_c a b st ha hb).mono ?_
  rintro r st ⟨rfl, rfl⟩
  simp -dsimp only [go_sem]
theorem sameBox_c (a b : List Ivl) (st : Store) (ha : wB a) (hb : wB b) : PCalls Tryz.prog 46 [.sl .no (encIs a), .sl .no (encIs b)] st (fun r st' => r = .sc (.bool (decide (a = b))) ∧ st' = st) := by
  have hla := ha.1
  have hlb := hb.1
  refine pcalls_enter none Tryz.func46 rfl fun E => pwp_of_vc ?_
  simp -dsimp only [go_sem]
  refine ck (fun h0 => ?_) (fun h0 => ?_)
  · have hne := nbne_t h0
    simp -dsimp only [go_sem]
    rw [decide_eq_false (fun e => hne (by rw [e]))]
  · have hl := nbne_f h0
    simp -dsimp only [go_sem]
    refine pwp_loop_mask [true, true, false, false, false, true] 0 0 (fun n s => ∃ i, n = a.length - i ∧ i ≤ a.length ∧ (∀ j, j < i → a.getD j default = b.getD j default) ∧ s = ⟨[.sl .no (encIs a), .sl .no (encIs b), .junk, .junk, .junk, .sc (.int .i64 i)] ++ List.replicate 21 .junk, [], [], st⟩) a.length ?_ ?_
    · simp -dsimp only [go_sem]
      exact ⟨0, by omega, by omega, fun j hj => by omega, rfl⟩
    · rintro n s ⟨i, rfl, hi, hr, rfl⟩
      simp -dsimp only [go_sem]
      refine ck (fun h' => ?_) (fun h' => ?_)
      · have hlt : i < a.length := by have := of_decide_eq_true h'; omega
        have e1 := encIs_get a i hlt
        have e2 := encIs_get b i (by omega)
        have e3 : IntKind.i64.wrap ((i : Int) + 1) = ((i + 1 : Nat) : Int) := by rw [wrap_i64 _ (by omega) (by omega)]; omega
        simp -dsimp only [go_sem]
        refine pwp_draw mixed 27 (.step 0 [] (.step 1 [] (.step 2 [] (.step 3 [] (.step 4 [] (.step 5 [] (.step 6 [] (.step 7 [] (.step 8 [] (.step 9 [] (.done))))))))))) (by decide +kernel) (by simp) ?_
        simp -dsimp only [go_sem, e1, e2]
        refine ⟨by omega, by omega, ?_⟩
        refine (sameIv_c _ _ st (ha.2 i hlt) (hb.2 i (by omega))).mono ?_
        rintro r st ⟨rfl, rfl⟩
        simp -dsimp only [go_sem]
        refine ck (fun h2 => ?_) (fun h2 => ?_)
        · have hf : a.getD i default ≠ b.getD i default := by
            intro e; rw [e] at h2; simp at h2
          simp -dsimp only [go_sem]
          rw [decide_eq_false (fun e => hf (by rw [e]))]
        · have ht : a.getD i default = b.getD i default := by
            apply Decidable.byContradiction; intro e; rw [decide_eq_false e] at h2; cases h2
          simp -dsimp only [go_sem, e3]
          refine ⟨a.length - (i + 1), by omega, i + 1, rfl, by omega, fun j hj => ?_, rfl⟩
          by_cases e : j = i
          · subst e; exact ht
          · exact hr j (by omega)
      · have hge : i = a.length := by have := of_decide_eq_false h'; omega
        simp -dsimp only [go_sem]
        refine pwp_of_vc ?_
        simp -dsimp only [go_sem]
        rw [decide_eq_true (eq_of_getD default hl fun j hj => hr j (by omega))]
end Go.Pv
end
