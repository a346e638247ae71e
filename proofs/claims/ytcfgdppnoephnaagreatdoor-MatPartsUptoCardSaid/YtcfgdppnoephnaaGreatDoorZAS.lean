/- Parts of the walk: N36, N37. -/
import Derived.Test.YtcfgdppnoephnaaGreatDoorZAR
import Derived.Test.YtcfgdppnoephnaaGreatDoorZAG
import Derived.Test.YtcfgdppnoephnaaGreatDoorZAH
import Derived.Test.YtcfgdppnoephnaaGreatDoorZAQ
set_option linter.unusedVariables false
set_option linter.unusedSimpArgs false
section
/- The document's matrices: RightMat, SameMat, InMat, PointMat; rows held against one another. -/
set_option linter.unusedVariables false
set_option linter.unusedSimpArgs false
set_option maxRecDepth 100000
namespace Go.Pv
open Go.Proofs
theorem rightMat_c (m : Mx) (st : Store) (hm : wM m) : PCalls Tryz.prog 40 [.sl .no (encM m)] st (fun r st' => r = .sc (.bool (rightM m)) ∧ st' = st) := by
  have hl := hm.1
  refine pcalls_enter none Tryz.func40 rfl fun E => pwp_of_vc ?_
  simp -dsimp only [go_sem]
  refine pwp_loop_mask [true, false, false, true] 0 0 (fun n s => ∃ i, n = m.length - i ∧ i ≤ m.length ∧ (∀ j, j < i → (m.getD j []).length = m.length ∧ rightB (m.getD j []) = true) ∧ s = ⟨[.sl .no (encM m), .junk, .junk, .sc (.int .i64 (i : Nat))] ++ List.replicate 34 .junk, [], [], st⟩) m.length ?_ ?_
  · simp -dsimp only [go_sem]
    exact ⟨0, by omega, by omega, fun j hj => by omega, rfl⟩
  · rintro n s ⟨i, rfl, hi, hr, rfl⟩
    have fin : i = m.length ∨ ¬ (i : Int) < 4 → decide ((m.length : Int) > 0) = true → decide ((m.length : Int) ≤ 4) = rightM m := fun h h1 => by
      have h1 := of_decide_eq_true h1
      rw [Bool.eq_iff_iff, rightM_iff, decide_eq_true_iff]
      exact ⟨fun h4 => ⟨fun j hj => hr j (by omega), by omega, by omega⟩, fun hh => by omega⟩
    have fin0 : decide ((m.length : Int) > 0) = false → rightM m = false := fun h => Bool.eq_false_iff.2 fun e => by
      have := of_decide_eq_false h
      have := (rightM_iff.1 e).2.1
      omega
    simp -dsimp only [go_sem]
    refine gkT (fun h => ?_) (fun h => ?_)
    · have hlt : i < m.length := by have := of_decide_eq_true h; omega
      simp -dsimp only [go_sem, h]
      refine ck (fun h4 => ?_) (fun h4 => ?_)
      · have e1 := encM_get m i hlt
        have e3 := succW i (by omega)
        simp -dsimp only [go_sem, e1]
        refine ⟨by omega, ?_⟩
        refine gkF (fun h2 => ?_) (fun h2 => ?_)
        · have hn := nbne_f h2
          simp -dsimp only [go_sem, h2, e1]
          refine ⟨by omega, ?_⟩
          refine (rightBox_c _ _ (hm.2 i hlt)).mono ?_
          rintro r st ⟨rfl, rfl⟩
          simp -dsimp only [go_sem, h2]
          refine ck (fun h3 => ?_) (fun h3 => ?_)
          · have hf : rightB (m.getD i []) = false := by simpa using h3
            simp -dsimp only [go_sem]
            have : rightM m = false := Bool.eq_false_iff.2 fun e => by
              have := ((rightM_iff.1 e).1 i hlt).2
              rw [hf] at this; cases this
            rw [this]
          · have ht : rightB (m.getD i []) = true := by simpa using h3
            simp -dsimp only [go_sem, e3]
            refine ⟨m.length - (i + 1), by omega, i + 1, rfl, by omega, fun j hj => ?_, rfl⟩
            by_cases e : j = i
            · subst e; exact ⟨hn, ht⟩
            · exact hr j (by omega)
        · have hn := nbne_t h2
          simp -dsimp only [go_sem, h2]
          have : rightM m = false := Bool.eq_false_iff.2 fun e => hn ((rightM_iff.1 e).1 i hlt).1
          rw [this]
      · have h4' := of_decide_eq_false h4
        simp -dsimp only [go_sem]
        refine pwp_of_vc ?_
        simp -dsimp only [go_sem]
        refine gkT (fun h => ?_) (fun h => ?_)
        · simp -dsimp only [go_sem, h]
          rw [fin (.inr h4') h]
        · simp -dsimp only [go_sem, h]
          rw [fin0 h]
    · have hge : i = m.length := by have := of_decide_eq_false h; omega
      simp -dsimp only [go_sem, h]
      refine pwp_of_vc ?_
      simp -dsimp only [go_sem]
      refine gkT (fun h => ?_) (fun h => ?_)
      · simp -dsimp only [go_sem, h]
        rw [fin (.inl hge) h]
      · simp -dsimp only [go_sem, h]
        rw [fin0 h]
theorem sameMat_c (a b : Mx) (st : Store) (ha : wM a) (hb : wM b) : PCalls Tryz.prog 42 [.sl .no (encM a), .sl .no (encM b)] st (fun r st' => r = .sc (.bool (decide (a = b))) ∧ st' = st) := by
  have hla := ha.1
  have hlb := hb.1
  refine pcalls_enter none Tryz.func42 rfl fun E => pwp_of_vc ?_
  simp -dsimp only [go_sem]
  refine ck (fun h0 => ?_) (fun h0 => ?_)
  · have hne := nbne_t h0
    simp -dsimp only [go_sem]
    rw [decide_eq_false (fun e => hne (by rw [e]))]
  · have hl := nbne_f h0
    simp -dsimp only [go_sem]
    refine pwp_loop_mask [true, true, false, false, false, true] 0 0 (fun n s => ∃ i, n = a.length - i ∧ i ≤ a.length ∧ (∀ j, j < i → a.getD j [] = b.getD j []) ∧ s = ⟨[.sl .no (encM a), .sl .no (encM b), .junk, .junk, .junk, .sc (.int .i64 (i : Nat))] ++ List.replicate 21 .junk, [], [], st⟩) a.length ?_ ?_
    · simp -dsimp only [go_sem]
      exact ⟨0, by omega, by omega, fun j hj => by omega, rfl⟩
    · rintro n s ⟨i, rfl, hi, hr, rfl⟩
      simp -dsimp only [go_sem]
      refine ck (fun h' => ?_) (fun h' => ?_)
      · have hlt : i < a.length := by have := of_decide_eq_true h'; omega
        have e1 := encM_get a i hlt
        have e2 := encM_get b i (by omega)
        have e3 := succW i (by omega)
        simp -dsimp only [go_sem]
        refine pwp_draw mixed 27 (.step 0 [] (.step 1 [] (.step 2 [] (.step 3 [] (.step 4 [] (.step 5 [] (.step 6 [] (.step 7 [] (.step 8 [] (.step 9 [] (.done))))))))))) (by decide +kernel) (by simp) ?_
        simp -dsimp only [go_sem, e1, e2]
        refine ⟨by omega, by omega, ?_⟩
        refine (sameBox_c _ _ st (ha.2 i hlt) (hb.2 i (by omega))).mono ?_
        rintro r st ⟨rfl, rfl⟩
        simp -dsimp only [go_sem]
        refine ck (fun h2 => ?_) (fun h2 => ?_)
        · have hf : a.getD i [] ≠ b.getD i [] := by
            intro e; rw [e] at h2; simp at h2
          simp -dsimp only [go_sem]
          rw [decide_eq_false (fun e => hf (by rw [e]))]
        · have ht : a.getD i [] = b.getD i [] := by
            apply Decidable.byContradiction; intro e; rw [decide_eq_false e] at h2; cases h2
          simp -dsimp only [go_sem, e3]
          refine ⟨a.length - (i + 1), by omega, i + 1, rfl, by omega, fun j hj => ?_, rfl⟩
          by_cases e : j = i
          · subst e; exact ht
          · exact hr j (by omega)
      · have hge : i = a.length := by have := of_decide_eq_false h'; omega
        simp -dsimp only [go_sem]
        refine pwp_of_vc ?_
        simp -dsimp only [go_sem]
        rw [decide_eq_true (eq_of_getD [] hl fun j hj => hr j (by omega))]
theorem rowsQ_c (a b : List (List Nm)) (st : Store) (ha : wQ a) (hb : wQ b) : PCalls Tryz.prog 135 [.sl .no (encQ a), .sl .no (encQ b)] st (fun r st' => r = .sc (.bool (decide (a = b))) ∧ st' = st) := by
  have hla := ha.1
  have hlb := hb.1
  refine pcalls_enter none Tryz.func135 rfl fun E => pwp_of_vc ?_
  simp -dsimp only [go_sem]
  refine ck (fun h0 => ?_) (fun h0 => ?_)
  · have hne := nbne_t h0
    simp -dsimp only [go_sem]
    rw [decide_eq_false (fun e => hne (by rw [e]))]
  · have hl := nbne_f h0
    simp -dsimp only [go_sem]
    refine pwp_loop_mask [true, true, false, false, false, true] 0 0 (fun n s => ∃ i, n = a.length - i ∧ i ≤ a.length ∧ (∀ j, j < i → a.getD j [] = b.getD j []) ∧ s = ⟨[.sl .no (encQ a), .sl .no (encQ b), .junk, .junk, .junk, .sc (.int .i64 (i : Nat))] ++ List.replicate 21 .junk, [], [], st⟩) a.length ?_ ?_
    · simp -dsimp only [go_sem]
      exact ⟨0, by omega, by omega, fun j hj => by omega, rfl⟩
    · rintro n s ⟨i, rfl, hi, hr, rfl⟩
      simp -dsimp only [go_sem]
      refine ck (fun h' => ?_) (fun h' => ?_)
      · have hlt : i < a.length := by have := of_decide_eq_true h'; omega
        have e1 := encQ_get a i hlt
        have e2 := encQ_get b i (by omega)
        have e3 := succW i (by omega)
        simp -dsimp only [go_sem]
        refine pwp_draw mixed 27 (.step 0 [] (.step 1 [] (.step 2 [] (.step 3 [] (.step 4 [] (.step 5 [] (.step 6 [] (.step 7 [] (.step 8 [] (.step 9 [] (.done))))))))))) (by decide +kernel) (by simp) ?_
        simp -dsimp only [go_sem, e1, e2]
        refine ⟨by omega, by omega, ?_⟩
        refine (helpNums_c _ _ st (ha.2 i hlt) (hb.2 i (by omega))).mono ?_
        rintro r st ⟨rfl, rfl⟩
        simp -dsimp only [go_sem]
        refine ck (fun h2 => ?_) (fun h2 => ?_)
        · have hf : a.getD i [] ≠ b.getD i [] := by
            intro e; rw [e] at h2; simp at h2
          simp -dsimp only [go_sem]
          rw [decide_eq_false (fun e => hf (by rw [e]))]
        · have ht : a.getD i [] = b.getD i [] := by
            apply Decidable.byContradiction; intro e; rw [decide_eq_false e] at h2; cases h2
          simp -dsimp only [go_sem, e3]
          refine ⟨a.length - (i + 1), by omega, i + 1, rfl, by omega, fun j hj => ?_, rfl⟩
          by_cases e : j = i
          · subst e; exact ht
          · exact hr j (by omega)
      · have hge : i = a.length := by have := of_decide_eq_false h'; omega
        simp -dsimp only [go_sem]
        refine pwp_of_vc ?_
        simp -dsimp only [go_sem]
        rw [decide_eq_true (eq_of_getD [] hl fun j hj => hr j (by omega))]
theorem helpWords_c (a b : List UInt64) (st : Store) (ha : a.length ≤ 100000000000) (hb : b.length ≤ 100000000000) : PCalls Tryz.prog 121 [.sl .no (encW a), .sl .no (encW b)] st (fun r st' => r = .sc (.bool (decide (a = b))) ∧ st' = st) := by
  refine pcalls_enter none Tryz.func121 rfl fun E => pwp_of_vc ?_
  simp -dsimp only [go_sem]
  refine ck (fun h0 => ?_) (fun h0 => ?_)
  · have hne := nbne_t h0
    simp -dsimp only [go_sem]
    rw [decide_eq_false (fun e => hne (by rw [e]))]
  · have hl := nbne_f h0
    simp -dsimp only [go_sem]
    refine pwp_loop_mask [true, true, false, false, false, true] 0 0 (fun n s => ∃ i, n = a.length - i ∧ i ≤ a.length ∧ (∀ j, j < i → a.getD j 0 = b.getD j 0) ∧ s = ⟨[.sl .no (encW a), .sl .no (encW b), .junk, .junk, .junk, .sc (.int .i64 (i : Nat))] ++ List.replicate 20 .junk, [], [], st⟩) a.length ?_ ?_
    · simp -dsimp only [go_sem]
      exact ⟨0, by omega, by omega, fun j hj => by omega, rfl⟩
    · rintro n s ⟨i, rfl, hi, hr, rfl⟩
      simp -dsimp only [go_sem]
      refine ck (fun h' => ?_) (fun h' => ?_)
      · have hlt : i < a.length := by have := of_decide_eq_true h'; omega
        have e1 := encW_get a i hlt
        have e2 := encW_get b i (by omega)
        have e3 := succW i (by omega)
        simp -dsimp only [go_sem]
        refine pwp_draw mixed 26 (.step 0 [] (.step 1 [] (.step 2 [] (.step 3 [] (.step 4 [] (.step 5 [] (.step 6 [] (.step 7 [] (.step 8 [] (.done)))))))))) (by decide +kernel) (by simp) ?_
        simp -dsimp only [go_sem, e1, e2]
        refine ⟨by omega, by omega, ?_⟩
        refine ck (fun h2 => ?_) (fun h2 => ?_)
        · have hf : a.getD i 0 ≠ b.getD i 0 := by intro e; rw [e] at h2; simp at h2
          simp -dsimp only [go_sem]
          rw [decide_eq_false (fun e => hf (by rw [e]))]
        · have ht : a.getD i 0 = b.getD i 0 := by
            have := nbne_f h2
            exact UInt64.toNat_inj.1 this
          simp -dsimp only [go_sem, e3]
          refine ⟨a.length - (i + 1), by omega, i + 1, rfl, by omega, fun j hj => ?_, rfl⟩
          by_cases e : j = i
          · subst e; exact ht
          · exact hr j (by omega)
      · have hge : i = a.length := by have := of_decide_eq_false h'; omega
        simp -dsimp only [go_sem]
        refine pwp_of_vc ?_
        simp -dsimp only [go_sem]
        rw [decide_eq_true (eq_of_getD 0 hl fun j hj => hr j (by omega))]
theorem inMat_c (a b : Mx) (st : Store) (ha : wM a) (hb : wM b) : PCalls Tryz.prog 44 [.sl .no (encM a), .sl .no (encM b)] st (fun r st' => r = .sc (.bool (inM a b)) ∧ st' = st) := by
  have hbl := ha.1
  refine pcalls_enter none Tryz.func44 rfl fun E => pwp_of_vc ?_
  unfold inM allF
  simp -dsimp only [go_sem]
  refine (rightMat_c a _ ha).mono ?_
  rintro r st ⟨rfl, rfl⟩
  cases r1 : rightM a with
  | false => simp -dsimp only [go_sem]; try rfl
  | true =>
    simp -dsimp only [go_sem]
    refine (rightMat_c b _ hb).mono ?_
    rintro r st ⟨rfl, rfl⟩
    cases r2 : rightM b with
    | false => simp -dsimp only [go_sem]; try rfl
    | true =>
      by_cases hn : b.length = a.length
      · have f1 : ((a.length : Int) != (b.length : Int)) = false := by rw [hn]; simp
        rw [decide_eq_true hn.symm]
        simp -dsimp only [go_sem, f1]
        refine pwp_loop_mask [true, true, false, false, false, true] 0 0
          (fun n s => ∃ i, n = a.length - i ∧ i ≤ a.length ∧ (∀ j, j < i → inB (a.getD j default) (b.getD j default) = true) ∧ s = ⟨[.sl .no (encM a), .sl .no (encM b), .junk, .junk, .junk, .sc (.int .i64 (i : Nat))] ++ List.replicate 31 .junk, [], [], st⟩) a.length ?_ ?_
        · simp -dsimp only [go_sem]
          exact ⟨0, by omega, by omega, fun j hj => by omega, rfl⟩
        · rintro n s ⟨i, rfl, hi, hr, rfl⟩
          simp -dsimp only [go_sem]
          refine ck (fun h' => ?_) (fun h' => ?_)
          · have hlt : i < a.length := by have := of_decide_eq_true h'; omega
            have e1 := encM_get a i hlt
            have e2 := encM_get b i (by omega)
            have e3 := succW i (by omega)
            simp -dsimp only [go_sem]
            refine pwp_draw mixed 37 (.step 0 [] (.step 1 [] (.step 2 [] (.step 3 [] (.step 4 [] (.step 5 [] (.step 6 [] (.step 7 [] (.step 8 [] (.step 9 [] (.done))))))))))) (by decide +kernel) (by simp) ?_
            simp -dsimp only [go_sem, e1, e2]
            refine ⟨by omega, by omega, ?_⟩
            refine (inBox_c _ _ _ (ha.2 i hlt) (hb.2 i (by omega))).mono ?_
            rintro r st ⟨rfl, rfl⟩
            simp -dsimp only [go_sem]
            refine ck (fun h2 => ?_) (fun h2 => ?_)
            · have hf : inB (a.getD i []) (b.getD i []) = false := by simpa using h2
              simp -dsimp only [go_sem]
              have : ((List.range a.length).all fun i => inB (a.getD i default) (b.getD i default)) = false := by
                rw [List.all_eq_false]; exact ⟨i, by simpa using hlt, fun e => by
                  have e' : inB (a.getD i []) (b.getD i []) = true := e
                  rw [hf] at e'; cases e'⟩
              first | rw [this] | rw [← List.range_eq_range', this]
            · have ht : inB (a.getD i []) (b.getD i []) = true := by simpa using h2
              simp -dsimp only [go_sem, e3]
              refine ⟨a.length - (i + 1), by omega, i + 1, rfl, by omega, fun j hj => ?_, rfl⟩
              by_cases e : j = i
              · subst e; exact ht
              · exact hr j (by omega)
          · have hge : i = a.length := by have := of_decide_eq_false h'; omega
            simp -dsimp only [go_sem]
            refine pwp_of_vc ?_
            simp -dsimp only [go_sem]
            have : ((List.range a.length).all fun i => inB (a.getD i default) (b.getD i default)) = true := by
              rw [List.all_eq_true]; intro j hj; exact hr j (by rw [hge]; simpa using hj)
            first | rw [this] | rw [← List.range_eq_range', this]
      · have f1 : ((a.length : Int) != (b.length : Int)) = true := by rw [bne_iff_ne]; omega
        rw [decide_eq_false (fun e => hn e.symm)]
        simp -dsimp only [go_sem, f1]
        try rfl
theorem pointMat_c (q : List (List Nm)) (st : Store) (hq : wQ q) : PCalls Tryz.prog 46 [.sl .no (encQ q)] st (fun r st' => r = .sl (.fresh 1) (encM (ofM q)) ∧ st' = st) := by
  obtain ⟨hl, hw⟩ := hq
  refine pcalls_enter none Tryz.func46 rfl fun E => pwp_of_vc ?_
  simp -dsimp only [go_sem]
  refine pwp_claim 3 1 ?_
  simp -dsimp only [go_sem]
  refine pwp_loop_mask [true, false, false, true, true] 0 1
    (fun n s => ∃ i, n = q.length - i ∧ i ≤ q.length ∧ s = ⟨[.sl .no (encQ q), .junk, .junk, .sl (.own 0) (encM (ofM (q.take i))), .sc (.int .i64 (i : Nat))] ++ List.replicate 15 .junk, [], [((ofM (q.take i)).length, 1)], st⟩) q.length ?_ ?_
  · simp -dsimp only [go_sem]
    exact ⟨0, by omega, by omega, rfl⟩
  · rintro n s ⟨i, rfl, hi, rfl⟩
    simp -dsimp only [go_sem]
    refine ck (fun h' => ?_) (fun h' => ?_)
    · have hlt : i < q.length := by have := of_decide_eq_true h'; omega
      have e1 := encQ_get q i hlt
      have e3 := succW i (by omega)
      have ll : (ofM (q.take i)).length = i := by simp [ofM]; omega
      simp -dsimp only [go_sem, e1]
      refine ⟨by omega, ?_⟩
      refine (points_c _ _ (hw i hlt)).plain.mono ?_
      rintro r st ⟨rfl, rfl⟩
      simp -dsimp only [go_sem, e3]
      refine ⟨⟨by omega, by omega⟩, q.length - (i + 1), by omega, i + 1, rfl, by omega, ?_⟩
      rw [ofM_take q i hlt]
      simp
    · have hge : i = q.length := by have := of_decide_eq_false h'; omega
      simp -dsimp only [go_sem]
      refine pwp_of_vc ?_
      simp -dsimp only [go_sem]
      rw [hge, List.take_length]
end Go.Pv
end

section
/- The document's matrices: OpMat, TimesMat, MidMat, column, Dot, Vec. -/
set_option linter.unusedVariables false
set_option linter.unusedSimpArgs false
set_option maxRecDepth 100000
namespace Go.Pv
open Go.Proofs
theorem opB_tab {k : Nat} {a b : List Ivl} {p : Int} (h1 : rightB a = true) (h2 : rightB b = true) (h3 : a.length = b.length) (h4 : precF p = true) : opB k a b p = tabF (fun j => opI k (a.getD j default) (b.getD j default) p) 0 a.length [] := by
  rw [opB, if_pos ⟨h1, h2, h3, h4⟩, eachF_tab0]
theorem timesB_tab {x : Ivl} {b : List Ivl} {p : Int} (h1 : rightB b = true) (h2 : rightI x = true) (h4 : precF p = true) : timesB x b p = tabF (fun j => opI 2 x (b.getD j default) p) 0 b.length [] := by
  rw [timesB, if_pos ⟨h1, h2, h4⟩, eachF_tab0]
theorem opM_rows (k : Nat) {a b : Mx} {p : Int} (r1 : rightM a = true) (r2 : rightM b = true) (hn : a.length = b.length) (r3 : precF p = true) : opM k a b p = tabF (fun i => opB k (a.getD i []) (b.getD i []) p) 0 a.length [] := by
  rw [opM, if_pos ⟨r1, r2, hn, r3⟩]
  refine tabF_congr _ _ _ fun i _ hi => ?_
  obtain ⟨a1, a2⟩ := rightM_row r1 (show i < a.length by omega)
  obtain ⟨b1, b2⟩ := rightM_row r2 (show i < b.length by omega)
  rw [opB_tab a2 b2 (by omega) r3, a1]; rfl
theorem timesM_rows {x : Ivl} {a : Mx} {p : Int} (r1 : rightM a = true) (r2 : rightI x = true) (r3 : precF p = true) : timesM x a p = tabF (fun i => timesB x (a.getD i []) p) 0 a.length [] := by
  rw [timesM, if_pos ⟨r1, r2, r3⟩]
  refine tabF_congr _ _ _ fun i _ hi => ?_
  obtain ⟨a1, a2⟩ := rightM_row r1 (show i < a.length by omega)
  rw [timesB_tab a2 r2 r3, a1]; rfl
theorem opMat0_c (a b : Mx) (p : Int) (st : Store) (ha : wM a) (hb : wM b) : PCalls Tryz.prog 129 [.sc (.int .i64 0), .sl .no (encM a), .sl .no (encM b), .sc (.int .i64 p)] st (fun r st' => r = .tup [.sl .no (encM (opM 0 a b p).1), .sc (.int .i64 (opM 0 a b p).2)] ∧ st' = st) := by
  have hal := ha.1
  refine pcalls_enter none Tryz.func129 rfl fun E => pwp_of_vc ?_
  simp -dsimp only [go_sem]
  refine (rightMat_c a _ ha).mono ?_
  rintro r st ⟨rfl, rfl⟩
  cases r1 : rightM a with
  | false =>
    simp -dsimp only [go_sem]
    rw [opM, if_neg (by simp [r1])]; rfl
  | true =>
    simp -dsimp only [go_sem]
    refine (rightMat_c b _ hb).mono ?_
    rintro r st ⟨rfl, rfl⟩
    cases r2 : rightM b with
    | false =>
      simp -dsimp only [go_sem]
      rw [opM, if_neg (by simp [r2])]; rfl
    | true =>
      by_cases hn : a.length = b.length
      · have f1 : ((a.length : Int) != (b.length : Int)) = false := by rw [hn]; simp
        simp -dsimp only [go_sem, f1]
        refine (precs6_c p _).mono ?_
        rintro r st ⟨rfl, rfl⟩
        cases r3 : precF p with
        | false =>
          simp -dsimp only [go_sem]
          rw [opM, if_neg (by simp [r3])]; rfl
        | true =>
          rw [opM_rows 0 r1 r2 hn r3]
          simp -dsimp only [go_sem]
          refine pwp_claim 10 1 ?_
          simp -dsimp only [go_sem]
          refine pwp_loop_mask [true, true, true, true, false, false, false, false, false, false, true, true] 0 1
            (fun k s => ∃ (i : Nat) (o : Mx), k = a.length - i ∧ i ≤ a.length ∧ o.length = i ∧ tabF (fun i => opB 0 (a.getD i []) (b.getD i []) p) 0 a.length [] = tabF (fun i => opB 0 (a.getD i []) (b.getD i []) p) i (a.length - i) o ∧
              s = ⟨[.sc (.int .i64 0), .sl .no (encM a), .sl .no (encM b), .sc (.int .i64 p), .junk, .junk, .junk, .junk, .junk, .junk, .sl (.own 0) (encM o), .sc (.int .i64 (i : Nat))] ++ List.replicate 50 .junk, [], [(o.length, 1)], st⟩) a.length ?_ ?_
          · simp -dsimp only [go_sem]
            exact ⟨0, [], by omega, by omega, rfl, rfl, rfl⟩
          · rintro k s ⟨i, o, rfl, hi, ho, hr, rfl⟩
            simp -dsimp only [go_sem]
            refine ck (fun h' => ?_) (fun h' => ?_)
            · have hlt : i < a.length := by have := of_decide_eq_true h'; omega
              have e3 := succW i (by omega)
              have e4 := tabF_step (fun i => opB 0 (a.getD i []) (b.getD i []) p) hlt o
              have e1 := encM_get a i hlt
              have e2 := encM_get b i (by omega)
              simp -dsimp only [go_sem, e1]
              refine pwp_draw mixed 62 (.step 0 [] (.step 1 [] (.step 2 [] (.step 3 [] (.step 4 [] (.step 5 [] (.step 6 [] (.step 7 [] (.step 8 [] (.step 9 [] (.step 10 [] (.step 11 [] (.step 12 [] (.step 13 [] (.step 14 [] (.step 15 [] (.done))))))))))))))))) (by decide +kernel) (by simp) ?_
              simp -dsimp only [go_sem, e1, e2]
              refine ⟨by omega, by omega, ?_⟩
              refine (opBox0_c (a.getD i []) (b.getD i []) p _ (ha.2 i hlt) (hb.2 i (by omega))).mono ?_
              rintro r st ⟨rfl, rfl⟩
              simp -dsimp only [go_sem]
              refine ck (fun h2 => ?_) (fun h2 => ?_)
              · have hne := zbne_t h2
                simp -dsimp only [go_sem]
                rw [hr, e4, if_pos hne]; rfl
              · have he := zbne_f h2
                simp -dsimp only [go_sem, e3]
                refine ⟨⟨by omega, by omega⟩, a.length - (i + 1), by omega, i + 1, o ++ [(opB 0 (a.getD i []) (b.getD i []) p).1], rfl, by omega, by simp [ho], ?_, ?_⟩
                · rw [hr, e4, if_neg (fun hh => hh he)]
                · simp
            · have hge : i = a.length := by have := of_decide_eq_false h'; omega
              simp -dsimp only [go_sem]
              refine pwp_of_vc ?_
              simp -dsimp only [go_sem]
              rw [hr, hge, tabF_end]
      · have f1 : ((a.length : Int) != (b.length : Int)) = true := by rw [bne_iff_ne]; omega
        simp -dsimp only [go_sem, f1]
        rw [opM, if_neg (fun hh => hn hh.2.2.1)]; rfl
theorem opMat1_c (a b : Mx) (p : Int) (st : Store) (ha : wM a) (hb : wM b) : PCalls Tryz.prog 129 [.sc (.int .i64 1), .sl .no (encM a), .sl .no (encM b), .sc (.int .i64 p)] st (fun r st' => r = .tup [.sl .no (encM (opM 1 a b p).1), .sc (.int .i64 (opM 1 a b p).2)] ∧ st' = st) := by
  have hal := ha.1
  refine pcalls_enter none Tryz.func129 rfl fun E => pwp_of_vc ?_
  simp -dsimp only [go_sem]
  refine (rightMat_c a _ ha).mono ?_
  rintro r st ⟨rfl, rfl⟩
  cases r1 : rightM a with
  | false =>
    simp -dsimp only [go_sem]
    rw [opM, if_neg (by simp [r1])]; rfl
  | true =>
    simp -dsimp only [go_sem]
    refine (rightMat_c b _ hb).mono ?_
    rintro r st ⟨rfl, rfl⟩
    cases r2 : rightM b with
    | false =>
      simp -dsimp only [go_sem]
      rw [opM, if_neg (by simp [r2])]; rfl
    | true =>
      by_cases hn : a.length = b.length
      · have f1 : ((a.length : Int) != (b.length : Int)) = false := by rw [hn]; simp
        simp -dsimp only [go_sem, f1]
        refine (precs6_c p _).mono ?_
        rintro r st ⟨rfl, rfl⟩
        cases r3 : precF p with
        | false =>
          simp -dsimp only [go_sem]
          rw [opM, if_neg (by simp [r3])]; rfl
        | true =>
          rw [opM_rows 1 r1 r2 hn r3]
          simp -dsimp only [go_sem]
          refine pwp_claim 10 1 ?_
          simp -dsimp only [go_sem]
          refine pwp_loop_mask [true, true, true, true, false, false, false, false, false, false, true, true] 0 1
            (fun k s => ∃ (i : Nat) (o : Mx), k = a.length - i ∧ i ≤ a.length ∧ o.length = i ∧ tabF (fun i => opB 1 (a.getD i []) (b.getD i []) p) 0 a.length [] = tabF (fun i => opB 1 (a.getD i []) (b.getD i []) p) i (a.length - i) o ∧
              s = ⟨[.sc (.int .i64 1), .sl .no (encM a), .sl .no (encM b), .sc (.int .i64 p), .junk, .junk, .junk, .junk, .junk, .junk, .sl (.own 0) (encM o), .sc (.int .i64 (i : Nat))] ++ List.replicate 50 .junk, [], [(o.length, 1)], st⟩) a.length ?_ ?_
          · simp -dsimp only [go_sem]
            exact ⟨0, [], by omega, by omega, rfl, rfl, rfl⟩
          · rintro k s ⟨i, o, rfl, hi, ho, hr, rfl⟩
            simp -dsimp only [go_sem]
            refine ck (fun h' => ?_) (fun h' => ?_)
            · have hlt : i < a.length := by have := of_decide_eq_true h'; omega
              have e3 := succW i (by omega)
              have e4 := tabF_step (fun i => opB 1 (a.getD i []) (b.getD i []) p) hlt o
              have e1 := encM_get a i hlt
              have e2 := encM_get b i (by omega)
              simp -dsimp only [go_sem, e1]
              refine pwp_draw mixed 62 (.step 0 [] (.step 1 [] (.step 2 [] (.step 3 [] (.step 4 [] (.step 5 [] (.step 6 [] (.step 7 [] (.step 8 [] (.step 9 [] (.step 10 [] (.step 11 [] (.step 12 [] (.step 13 [] (.step 14 [] (.step 15 [] (.done))))))))))))))))) (by decide +kernel) (by simp) ?_
              simp -dsimp only [go_sem, e1, e2]
              refine ⟨by omega, by omega, ?_⟩
              refine (opBox1_c (a.getD i []) (b.getD i []) p _ (ha.2 i hlt) (hb.2 i (by omega))).mono ?_
              rintro r st ⟨rfl, rfl⟩
              simp -dsimp only [go_sem]
              refine ck (fun h2 => ?_) (fun h2 => ?_)
              · have hne := zbne_t h2
                simp -dsimp only [go_sem]
                rw [hr, e4, if_pos hne]; rfl
              · have he := zbne_f h2
                simp -dsimp only [go_sem, e3]
                refine ⟨⟨by omega, by omega⟩, a.length - (i + 1), by omega, i + 1, o ++ [(opB 1 (a.getD i []) (b.getD i []) p).1], rfl, by omega, by simp [ho], ?_, ?_⟩
                · rw [hr, e4, if_neg (fun hh => hh he)]
                · simp
            · have hge : i = a.length := by have := of_decide_eq_false h'; omega
              simp -dsimp only [go_sem]
              refine pwp_of_vc ?_
              simp -dsimp only [go_sem]
              rw [hr, hge, tabF_end]
      · have f1 : ((a.length : Int) != (b.length : Int)) = true := by rw [bne_iff_ne]; omega
        simp -dsimp only [go_sem, f1]
        rw [opM, if_neg (fun hh => hn hh.2.2.1)]; rfl
theorem timesMat_c (x : Ivl) (a : Mx) (p : Int) (st : Store) (hx : wI x) (ha : wM a) : PCalls Tryz.prog 131 [.agg (encI x), .sl .no (encM a), .sc (.int .i64 p)] st (fun r st' => r = .tup [.sl .no (encM (timesM x a p).1), .sc (.int .i64 (timesM x a p).2)] ∧ st' = st) := by
  have hal := ha.1
  refine pcalls_enter none Tryz.func131 rfl fun E => pwp_of_vc ?_
  simp -dsimp only [go_sem]
  refine (rightMat_c a _ ha).mono ?_
  rintro r st ⟨rfl, rfl⟩
  cases r1 : rightM a with
  | false =>
    simp -dsimp only [go_sem]
    rw [timesM, if_neg (by simp [r1])]; rfl
  | true =>
    simp -dsimp only [go_sem]
    refine (refRightIv_c x _ hx).mono ?_
    rintro r st ⟨rfl, rfl⟩
    cases r2 : rightI x with
    | false =>
      simp -dsimp only [go_sem]
      rw [timesM, if_neg (by simp [r2])]; rfl
    | true =>
      simp -dsimp only [go_sem]
      refine (precs6_c p _).mono ?_
      rintro r st ⟨rfl, rfl⟩
      cases r3 : precF p with
      | false =>
        simp -dsimp only [go_sem]
        rw [timesM, if_neg (by simp [r3])]; rfl
      | true =>
        rw [timesM_rows r1 r2 r3]
        simp -dsimp only [go_sem]
        refine pwp_claim 8 1 ?_
        simp -dsimp only [go_sem]
        refine pwp_loop_mask [false, true, true, true, false, false, false, false, true, true] 1 1
          (fun k s => ∃ (i : Nat) (o : Mx), k = a.length - i ∧ i ≤ a.length ∧ o.length = i ∧ tabF (fun i => timesB x (a.getD i []) p) 0 a.length [] = tabF (fun i => timesB x (a.getD i []) p) i (a.length - i) o ∧
            s = ⟨[.junk, .sl .no (encM a), .sc (.int .i64 p), .lp 0 0, .junk, .junk, .junk, .junk, .sl (.own 0) (encM o), .sc (.int .i64 (i : Nat))] ++ List.replicate 39 .junk, [encI x], [(o.length, 1)], st⟩) a.length ?_ ?_
        · simp -dsimp only [go_sem]
          exact ⟨0, [], by omega, by omega, rfl, rfl, rfl⟩
        · rintro k s ⟨i, o, rfl, hi, ho, hr, rfl⟩
          simp -dsimp only [go_sem]
          refine ck (fun h' => ?_) (fun h' => ?_)
          · have hlt : i < a.length := by have := of_decide_eq_true h'; omega
            have e3 := succW i (by omega)
            have e4 := tabF_step (fun i => timesB x (a.getD i []) p) hlt o
            have e1 := encM_get a i hlt
            simp -dsimp only [go_sem, e1]
            refine pwp_draw mixed 49 (.step 0 [] (.step 1 [] (.step 2 [] (.step 3 [] (.step 4 [] (.step 5 [] (.step 6 [] (.step 7 [] (.step 8 [] (.step 9 [] (.step 10 [] (.step 11 [] (.done))))))))))))) (by decide +kernel) (by simp) ?_
            simp -dsimp only [go_sem, e1]
            refine ⟨by omega, ?_⟩
            refine (times6_c x (a.getD i []) p _ hx (ha.2 i hlt)).mono ?_
            rintro r st ⟨rfl, rfl⟩
            simp -dsimp only [go_sem]
            refine ck (fun h2 => ?_) (fun h2 => ?_)
            · have hne := zbne_t h2
              simp -dsimp only [go_sem]
              rw [hr, e4, if_pos hne]; rfl
            · have he := zbne_f h2
              simp -dsimp only [go_sem, e3]
              refine ⟨⟨by omega, by omega⟩, a.length - (i + 1), by omega, i + 1, o ++ [(timesB x (a.getD i []) p).1], rfl, by omega, by simp [ho], ?_, ?_⟩
              · rw [hr, e4, if_neg (fun hh => hh he)]
              · simp
          · have hge : i = a.length := by have := of_decide_eq_false h'; omega
            simp -dsimp only [go_sem]
            refine pwp_of_vc ?_
            simp -dsimp only [go_sem]
            rw [hr, hge, tabF_end]
theorem midMat_c (a : Mx) (p : Int) (st : Store) (ha : wM a) : PCalls Tryz.prog 133 [.sl .no (encM a), .sc (.int .i64 p)] st (fun r st' => r = .tup [.sl .no (encQ (midM a p).1), .sc (.int .i64 (midM a p).2)] ∧ st' = st) := by
  have hal := ha.1
  refine pcalls_enter none Tryz.func133 rfl fun E => pwp_of_vc ?_
  simp -dsimp only [go_sem]
  refine (rightMat_c a _ ha).mono ?_
  rintro r st ⟨rfl, rfl⟩
  cases r1 : rightM a with
  | false =>
    simp -dsimp only [go_sem]
    rw [midM, if_neg (by simp [r1])]; rfl
  | true =>
    simp -dsimp only [go_sem]
    refine (precs6_c p _).mono ?_
    rintro r st ⟨rfl, rfl⟩
    cases r3 : precF p with
    | false =>
      simp -dsimp only [go_sem]
      rw [midM, if_neg (by simp [r3])]; rfl
    | true =>
      rw [midM, if_pos ⟨r1, r3⟩]
      simp -dsimp only [go_sem]
      refine pwp_claim 6 1 ?_
      simp -dsimp only [go_sem]
      refine pwp_loop_mask [true, true, false, false, false, false, true, true] 0 1
        (fun k s => ∃ (i : Nat) (o : List (List Nm)), k = a.length - i ∧ i ≤ a.length ∧ o.length = i ∧ tabF (fun i => midB (a.getD i []) p) 0 a.length [] = tabF (fun i => midB (a.getD i []) p) i (a.length - i) o ∧
          s = ⟨[.sl .no (encM a), .sc (.int .i64 p), .junk, .junk, .junk, .junk, .sl (.own 0) (encQ o), .sc (.int .i64 (i : Nat))] ++ List.replicate 33 .junk, [], [(o.length, 1)], st⟩) a.length ?_ ?_
      · simp -dsimp only [go_sem]
        exact ⟨0, [], by omega, by omega, rfl, rfl, rfl⟩
      · rintro k s ⟨i, o, rfl, hi, ho, hr, rfl⟩
        simp -dsimp only [go_sem]
        refine ck (fun h' => ?_) (fun h' => ?_)
        · have hlt : i < a.length := by have := of_decide_eq_true h'; omega
          have e3 := succW i (by omega)
          have e4 := tabF_step (fun i => midB (a.getD i []) p) hlt o
          have e1 := encM_get a i hlt
          simp -dsimp only [go_sem, e1]
          refine ⟨by omega, ?_⟩
          refine (midBox_c (a.getD i []) p _ (ha.2 i hlt)).mono ?_
          rintro r st ⟨rfl, rfl⟩
          simp -dsimp only [go_sem]
          refine ck (fun h2 => ?_) (fun h2 => ?_)
          · have hne := zbne_t h2
            simp -dsimp only [go_sem]
            rw [hr, e4, if_pos hne]; rfl
          · have he := zbne_f h2
            simp -dsimp only [go_sem, e3]
            refine ⟨⟨by omega, by omega⟩, a.length - (i + 1), by omega, i + 1, o ++ [(midB (a.getD i []) p).1], rfl, by omega, by simp [ho], ?_, ?_⟩
            · rw [hr, e4, if_neg (fun hh => hh he)]
            · simp
        · have hge : i = a.length := by have := of_decide_eq_false h'; omega
          simp -dsimp only [go_sem]
          refine pwp_of_vc ?_
          simp -dsimp only [go_sem]
          rw [hr, hge, tabF_end]
set_option maxHeartbeats 4000000 in
theorem dot_c (a b : List Ivl) (p : Int) (st : Store) (ha : wB a) (hb : wB b) (hl : a.length = b.length) : PCalls Tryz.prog 212 [.sl .no (encIs a), .sl .no (encIs b), .sc (.int .i64 p)] st
    (fun r st' => r = .tup [.agg (encI (dotF (fun k => a.getD k default) (fun k => b.getD k default) p a.length).1), .sc (.int .i64 (dotF (fun k => a.getD k default) (fun k => b.getD k default) p a.length).2)] ∧ st' = st) := by
  have hal := ha.1
  generalize hx : (fun k => a.getD k default) = x
  generalize hy : (fun k => b.getD k default) = y
  have gx : ∀ k, x k = a.getD k default := fun k => by rw [← hx]
  have gy : ∀ k, y k = b.getD k default := fun k => by rw [← hy]
  refine pcalls_enter none Tryz.func212 rfl fun E => pwp_of_vc ?_
  simp -dsimp only [go_sem]
  refine pwp_plainBox 1 ?_
  simp -dsimp only [go_sem]
  refine pwp_loop_mask [true, true, true, false, false, false, true, false, true, true] 2 0
    (fun m s => ∃ k, m = a.length - k ∧ k ≤ a.length ∧ (dotF x y p k).2 = 0 ∧ s = ⟨[.sl .no (encIs a), .sl .no (encIs b), .sc (.int .i64 p), .junk, .junk, .junk, .lp 0 0, .junk, .lp 1 0, .sc (.int .i64 (k : Nat))] ++ List.replicate 40 .junk,
      [[.sc (.bool false), .sc (.int .i64 0), .sl .full [], .sc (.bool false), .sc (.int .i64 0), .sl .full []], encI (dotF x y p k).1], [], st⟩) a.length ?_ ?_
  · simp -dsimp only [go_sem]
    exact ⟨0, by omega, by omega, rfl, rfl⟩
  · rintro m s ⟨k, rfl, hk, hz, rfl⟩
    simp -dsimp only [go_sem]
    refine ck (fun h' => ?_) (fun h' => ?_)
    · have hlt : k < a.length := by have := of_decide_eq_true h'; omega
      have e1 := encIs_get a k hlt
      have e2 := encIs_get b k (by omega)
      have e3 := succW k (by omega)
      have hdk : wI (dotF x y p k).1 := wI_right (dotF_right _ _ _ _)
      have hmw : wI (opI 2 (x k) (y k) p).1 := wI_right (opI_right _ _ _ _)
      have hstep : dotF x y p (k + 1) = if (opI 2 (x k) (y k) p).2 ≠ 0 then (default, (opI 2 (x k) (y k) p).2) else
          if k = 0 then opI 2 (x k) (y k) p else
          if (opI 0 (dotF x y p k).1 (opI 2 (x k) (y k) p).1 p).2 ≠ 0 then (default, (opI 0 (dotF x y p k).1 (opI 2 (x k) (y k) p).1 p).2) else
          opI 0 (dotF x y p k).1 (opI 2 (x k) (y k) p).1 p := by
        rw [dotF, if_neg (by rw [hz]; decide)]
      have hend : ∀ e, e ≠ 0 → dotF x y p (k + 1) = (default, e) → dotF x y p a.length = (default, e) := fun e he h0 => by
        have key : ∀ d, dotF x y p (k + 1 + d) = (default, e) := by
          intro d
          induction d with
          | zero => exact h0
          | succ d ih => rw [show k + 1 + (d + 1) = (k + 1 + d) + 1 from by omega, dotF, ih, if_pos he]
        have := key (a.length - (k + 1))
        rwa [show k + 1 + (a.length - (k + 1)) = a.length from by omega] at this
      have wx : wI (x k) := by rw [gx]; exact ha.2 k hlt
      have wy : wI (y k) := by rw [gy]; exact hb.2 k (by omega)
      rw [← gx] at e1
      rw [← gy] at e2
      simp -dsimp only [go_sem]
      refine pwp_draw mixed 50 (.step 0 [] (.step 1 [] (.step 2 [] (.step 3 [] (.step 4 [] (.step 5 [] (.step 6 [] (.step 7 [] (.step 8 [] (.alt (.step 9 [] (.step 10 [] (.step 11 [] (.step 12 [] (.step 13 [3, 7] (.step 14 [] (.step 15 [] (.done)))))))) (.step 13 [3, 7] (.step 9 [] (.step 10 [] (.step 11 [] (.step 12 [] (.step 14 [] (.step 15 [] (.done)))))))))))))))))) (by decide +kernel) (by simp) ?_
      simp -dsimp only [go_sem, e1, e2]
      refine ⟨by omega, by omega, ?_⟩
      refine And.intro ?_ ?_
      all_goals
        refine (refOp2_c _ _ p _ wx wy).mono ?_
        rintro r st ⟨rfl, rfl⟩
        simp -dsimp only [go_sem]
        by_cases hm : (opI 2 (x k) (y k) p).2 = 0
        · rw [if_neg (fun hh => hh hm)] at hstep
          have z1 : ((opI 2 (x k) (y k) p).2 == 0) = true := by simpa using hm
          have z3 : ((opI 2 (x k) (y k) p).2 != 0) = false := by simpa using hm
          have z2 : ((0 : Int) != 0) = false := rfl
          by_cases h0 : k = 0
          · rw [if_pos h0] at hstep
            have g1 : decide ((k : Int) > 0) = false := decide_eq_false (by omega)
            simp -dsimp only [go_sem, z1, z3, g1, e3]
            refine ⟨a.length - (k + 1), by omega, k + 1, rfl, by omega, by rw [hstep]; exact hm, ?_⟩
            rw [hstep]
          · rw [if_neg h0] at hstep
            have g1 : decide ((k : Int) > 0) = true := decide_eq_true (by omega)
            simp -dsimp only [go_sem, z1, g1]
            refine (refOp0_c _ _ p _ hdk hmw).mono ?_
            rintro r st ⟨rfl, rfl⟩
            by_cases hs : (opI 0 (dotF x y p k).1 (opI 2 (x k) (y k) p).1 p).2 = 0
            · rw [if_neg (fun hh => hh hs)] at hstep
              have z4 : ((opI 0 (dotF x y p k).1 (opI 2 (x k) (y k) p).1 p).2 != 0) = false := by simpa using hs
              simp -dsimp only [go_sem, z4, e3]
              refine ⟨a.length - (k + 1), by omega, k + 1, rfl, by omega, by rw [hstep]; exact hs, ?_⟩
              rw [hstep]
            · rw [if_pos hs] at hstep
              have hq := hend _ hs hstep
              have g2 : ((opI 0 (dotF x y p k).1 (opI 2 (x k) (y k) p).1 p).2 != 0) = true := by simpa using hs
              rw [hq]
              simp -dsimp only [go_sem, g2]
              rfl
        · rw [if_pos hm] at hstep
          have hq := hend _ hm hstep
          have g1 : ((opI 2 (x k) (y k) p).2 == 0) = false := by simpa using hm
          have g2 : ((opI 2 (x k) (y k) p).2 != 0) = true := by simpa using hm
          rw [hq]
          simp -dsimp only [go_sem, g1, g2]
          rfl
    · have hge : k = a.length := by have := of_decide_eq_false h'; omega
      subst hge
      simp -dsimp only [go_sem]
      refine pwp_of_vc ?_
      simp -dsimp only [go_sem]
      rw [hz]
theorem dotAt_c (a : Mx) (i : Nat) (b : List Ivl) (p : Int) (st : Store) (ha : wB (a.getD i [])) (hb : wB b) (hl : (a.getD i []).length = b.length) : PCalls Tryz.prog 212 [.sl .no (encIs (a.getD i [])), .sl .no (encIs b), .sc (.int .i64 p)] st
    (fun r st' => r = .tup [.agg (encI (dotF (atM a i) (fun k => b.getD k default) p b.length).1), .sc (.int .i64 (dotF (atM a i) (fun k => b.getD k default) p b.length).2)] ∧ st' = st) := by
  have := dot_c (a.getD i []) b p st ha hb hl
  rw [hl] at this
  exact this
def colM (m : Mx) (j : Nat) : List Ivl := (List.range m.length).map fun i => atM m i j
theorem colM_length (m : Mx) (j : Nat) : (colM m j).length = m.length := by simp [colM]
theorem colM_get (m : Mx) (j i : Nat) (h : i < m.length) : (colM m j).getD i default = atM m i j := by
  simp [colM, List.getD_eq_getElem?_getD, h]
theorem take_range_snoc {α : Type} (f : Nat → α) (n i : Nat) (h : i < n) : ((List.range n).map f).take (i + 1) = ((List.range n).map f).take i ++ [f i] := by
  rw [← List.map_take, ← List.map_take, List.take_range, List.take_range, Nat.min_eq_left (by omega), Nat.min_eq_left (by omega), List.range_succ, List.map_append]; rfl
theorem column_c (m : Mx) (j : Nat) (st : Store) (hm : m.length ≤ 100000000000) (hj : ∀ i, i < m.length → j < (m.getD i []).length) : PCalls Tryz.prog 213 [.sl .no (encM m), .sc (.int .i64 j)] st (fun r st' => r = .sl (.fresh 6) (encIs (colM m j)) ∧ st' = st) := by
  refine pcalls_enter none Tryz.func213 rfl fun E => pwp_of_vc ?_
  simp -dsimp only [go_sem]
  refine pwp_claim 5 6 ?_
  simp -dsimp only [go_sem]
  refine pwp_loop_mask [true, true, false, false, false, true, true] 0 1
    (fun n s => ∃ i, n = m.length - i ∧ i ≤ m.length ∧ s = ⟨[.sl .no (encM m), .sc (.int .i64 (j : Nat)), .junk, .junk, .junk, .sl (.own 0) (encIs ((colM m j).take i)), .sc (.int .i64 (i : Nat))] ++ List.replicate 17 .junk, [], [(((colM m j).take i).length, 6)], st⟩) m.length ?_ ?_
  · simp -dsimp only [go_sem]
    exact ⟨0, by omega, by omega, rfl⟩
  · rintro n s ⟨i, rfl, hi, rfl⟩
    simp -dsimp only [go_sem]
    refine ck (fun h' => ?_) (fun h' => ?_)
    · have hlt : i < m.length := by have := of_decide_eq_true h'; omega
      have e1 := encM_get m i hlt
      have e2 := encIs_get (m.getD i []) j (hj i hlt)
      have e3 := succW i (by omega)
      have hji := hj i hlt
      have ll : ((colM m j).take i).length = i := by rw [List.length_take, colM_length]; omega
      have e5 : (colM m j).take (i + 1) = (colM m j).take i ++ [atM m i j] := take_range_snoc _ _ _ hlt
      simp -dsimp only [go_sem, e1, e2, e3]
      refine ⟨by omega, by omega, ⟨by omega, by omega⟩, m.length - (i + 1), by omega, i + 1, rfl, by omega, ?_⟩
      rw [e5]
      simp [encIs, encI, atM]
    · have hge : i = m.length := by have := of_decide_eq_false h'; omega
      have ht : (colM m j).take i = colM m j := List.take_of_length_le (by rw [colM_length]; omega)
      rw [ht]
      simp -dsimp only [go_sem]
      refine pwp_of_vc ?_
      simp -dsimp only [go_sem]
theorem vec6_c (a : Mx) (b : List Ivl) (p : Int) (st : Store) (ha : wM a) (hb : wB b) : PCalls Tryz.prog 132 [.sl .no (encM a), .sl .no (encIs b), .sc (.int .i64 p)] st (fun r st' => r = .tup [.sl .no (encIs (vecM a b p).1), .sc (.int .i64 (vecM a b p).2)] ∧ st' = st) := by
  have hal := ha.1
  refine pcalls_enter none Tryz.func132 rfl fun E => pwp_of_vc ?_
  simp -dsimp only [go_sem]
  refine (rightMat_c a _ ha).mono ?_
  rintro r st ⟨rfl, rfl⟩
  cases r1 : rightM a with
  | false =>
    simp -dsimp only [go_sem]
    rw [vecM, if_neg (by simp [r1])]; rfl
  | true =>
    simp -dsimp only [go_sem]
    refine (rightBox_c b _ hb).mono ?_
    rintro r st ⟨rfl, rfl⟩
    cases r2 : rightB b with
    | false =>
      simp -dsimp only [go_sem]
      rw [vecM, if_neg (by simp [r2])]; rfl
    | true =>
      by_cases hn : a.length = b.length
      · have f1 : ((a.length : Int) != (b.length : Int)) = false := by rw [hn]; simp
        simp -dsimp only [go_sem, f1]
        refine (precs6_c p _).mono ?_
        rintro r st ⟨rfl, rfl⟩
        cases r3 : precF p with
        | false =>
          simp -dsimp only [go_sem]
          rw [vecM, if_neg (by simp [r3])]; rfl
        | true =>
          rw [vecM, if_pos ⟨r1, r2, hn, r3⟩]
          simp -dsimp only [go_sem]
          refine pwp_claim 8 6 ?_
          simp -dsimp only [go_sem]
          refine pwp_loop_mask [true, true, true, false, false, false, false, false, true, true] 0 1
            (fun k s => ∃ (i : Nat) (o : List Ivl), k = a.length - i ∧ i ≤ a.length ∧ o.length = i ∧ tabF (fun i => dotF (atM a i) (fun k => b.getD k default) p b.length) 0 a.length [] = tabF (fun i => dotF (atM a i) (fun k => b.getD k default) p b.length) i (a.length - i) o ∧
              s = ⟨[.sl .no (encM a), .sl .no (encIs b), .sc (.int .i64 p), .junk, .junk, .junk, .junk, .junk, .sl (.own 0) (encIs o), .sc (.int .i64 (i : Nat))] ++ List.replicate 46 .junk, [], [(o.length, 6)], st⟩) a.length ?_ ?_
          · simp -dsimp only [go_sem]
            exact ⟨0, [], by omega, by omega, rfl, rfl, rfl⟩
          · rintro k s ⟨i, o, rfl, hi, ho, hr, rfl⟩
            simp -dsimp only [go_sem]
            refine ck (fun h' => ?_) (fun h' => ?_)
            · have hlt : i < a.length := by have := of_decide_eq_true h'; omega
              have e3 := succW i (by omega)
              have e4 := tabF_step (fun i => dotF (atM a i) (fun k => b.getD k default) p b.length) hlt o
              have e1 := encM_get a i hlt
              obtain ⟨q1, q2⟩ := rightM_row r1 hlt
              have q3 : (a.getD i []).length = b.length := by omega
              simp -dsimp only [go_sem, e1]
              refine ⟨by omega, ?_⟩
              refine (dotAt_c a i b p _ (ha.2 i hlt) hb q3).mono ?_
              rintro r st ⟨rfl, rfl⟩
              simp -dsimp only [go_sem]
              refine ck (fun h2 => ?_) (fun h2 => ?_)
              · have hne := zbne_t h2
                simp -dsimp only [go_sem]
                rw [hr, e4, if_pos hne]; rfl
              · have he := zbne_f h2
                simp -dsimp only [go_sem, e3]
                refine ⟨⟨by omega, by omega⟩, a.length - (i + 1), by omega, i + 1, o ++ [(dotF (atM a i) (fun k => b.getD k default) p b.length).1], rfl, by omega, by simp [ho], ?_, ?_⟩
                · rw [hr, e4, if_neg (fun hh => hh he)]
                · simp [encIs, encI]
            · have hge : i = a.length := by have := of_decide_eq_false h'; omega
              simp -dsimp only [go_sem]
              refine pwp_of_vc ?_
              simp -dsimp only [go_sem]
              rw [hr, hge, tabF_end]
      · have f1 : ((a.length : Int) != (b.length : Int)) = true := by rw [bne_iff_ne]; omega
        simp -dsimp only [go_sem, f1]
        rw [vecM, if_neg (fun hh => hn hh.2.2.1)]; rfl
end Go.Pv
end
