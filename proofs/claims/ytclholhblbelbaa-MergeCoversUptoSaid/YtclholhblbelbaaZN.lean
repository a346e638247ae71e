/- Parts of the walk: M13, M14, M15. -/
import Derived.Test.YtclholhblbelbaaZM
import Derived.Test.YtclholhblbelbaaZE
set_option linter.unusedVariables false
set_option linter.unusedSimpArgs false
section
/- Groups of a row: where they begin and end. No program in it. -/
set_option linter.unusedVariables false
set_option linter.unusedSimpArgs false
namespace Go.Pv
theorem row_step {l : List Sg} (h : rowF l = true) (i : Nat) (hi : i + 1 < l.length) : (l.getD (i + 1) default).fr = (l.getD i default).to + 1 := by
  have h1 := rowAt_behind (rowF_true.1 h (i + 1) hi) (by omega)
  have h2 := (behindS_parts h1).1
  rw [show i + 1 - 1 = i from by omega] at h2
  have h3 := rightS_parts (rowAt_right (rowF_true.1 h i (by omega)))
  rw [h2, wrap_i64 _ (by omega) (by omega)]
theorem row_to_lt {l : List Sg} (h : rowF l = true) : ∀ d i, i + d + 1 < l.length → (l.getD i default).to < (l.getD (i + d + 1) default).to
  | 0, i, hi => by
    have h1 := row_step h i hi
    have h3 := rightS_parts (rowAt_right (rowF_true.1 h (i + 1) hi))
    rw [Nat.add_zero]; omega
  | d + 1, i, hi => by
    have h0 := row_to_lt h d i (by omega)
    have h1 := row_step h (i + d + 1) (by omega)
    have h3 := rightS_parts (rowAt_right (rowF_true.1 h (i + d + 1 + 1) (by omega)))
    rw [show i + (d + 1) + 1 = i + d + 1 + 1 from by omega]; omega
theorem row_to_lt' {l : List Sg} (h : rowF l = true) {i j : Nat} (hij : i < j) (hj : j < l.length) : (l.getD i default).to < (l.getD j default).to := by
  have := row_to_lt h (j - i - 1) i (by omega)
  rwa [show i + (j - i - 1) + 1 = j from by omega] at this
theorem grp_cases {b : List Sg} {size upto : Int} (hr : rowF b = true) (h0 : 0 < b.length) (hs : 2 ≤ size ∧ size ≤ 64) : grp b size upto = 1 ∨
    (2 ≤ grp b size upto ∧ grp b size upto ≤ b.length ∧ (b.getD (grp b size upto - 1) default).to = (b.getD 0 default).fr + size - 1 ∧ (b.getD 0 default).fr + size - 1 ≤ upto ∧ ((b.getD 0 default).fr - 1).tmod size = 0) := by
  have h3 := rightS_parts (rowAt_right (rowF_true.1 hr 0 h0))
  have hle := grp_le b size upto h0
  unfold grp at hle ⊢
  simp only at hle ⊢
  have w1 : IntKind.i64.wrap ((b.getD 0 default).fr + size) = (b.getD 0 default).fr + size := wrap_i64 _ (by omega) (by omega)
  have w2 : IntKind.i64.wrap ((b.getD 0 default).fr + size - 1) = (b.getD 0 default).fr + size - 1 := wrap_i64 _ (by omega) (by omega)
  have w3 : IntKind.i64.wrap ((b.getD 0 default).fr - 1) = (b.getD 0 default).fr - 1 := wrap_i64 _ (by omega) (by omega)
  rw [w1, w2, w3] at hle ⊢
  split
  · exact .inl rfl
  · rename_i c1
    rw [if_neg c1] at hle
    split
    · exact .inl rfl
    · rename_i c2
      rw [if_neg c2] at hle
      by_cases hn : (b.takeWhile fun s => decide (s.to < (b.getD 0 default).fr + size - 1)).length = 0
      · exact .inl (by rw [hn])
      · refine .inr ⟨by omega, hle, ?_, by omega, ?_⟩
        · rw [Nat.add_sub_cancel]
          exact Decidable.of_not_not fun e => c2 (.inr e)
        · exact Decidable.of_not_not fun e => c1 (.inl e)
theorem foldS_fr (s : Sg) (l : List Sg) : (foldS s l).fr = s.fr := by
  unfold foldS
  induction l generalizing s with
  | nil => rfl
  | cons x l ih => rw [List.foldl_cons, ih]; rfl
theorem fold_to {b : List Sg} {g : Nat} (s : Sg) (h2 : 2 ≤ g) (hg : g ≤ b.length) : (foldS s ((b.take g).drop 1)).to = (b.getD (g - 1) default).to ∧ (foldS s ((b.take g).drop 1)).t1 = (b.getD (g - 1) default).t1 := by
  have e : (b.take g).drop 1 = (b.drop 1).take (g - 2 + 1) := by
    rw [List.drop_take]; congr 1; omega
  rw [e, foldS_take s (b.drop 1) (g - 2) (by simp; omega), getD_drop', show 1 + (g - 2) = g - 1 from by omega]
  exact ⟨rfl, rfl⟩
theorem groupsS_ok {l : List Sg} {size upto : Int} (ht : tubeF l = true) (hs : 2 ≤ size ∧ size ≤ 64) : groupsS l size upto = (groupsL size upto l, 0) := if_pos ⟨ht, hs.1, hs.2⟩
end Go.Pv
end

section
/- Groups of groups; groups are a row. No program in it. -/
set_option linter.unusedVariables false
set_option linter.unusedSimpArgs false
namespace Go.Pv
theorem row_parts {b : List Sg} (hr : rowF b = true) (i : Nat) (h : i < b.length) : 1 ≤ (b.getD i default).fr ∧ (b.getD i default).fr ≤ (b.getD i default).to ∧ (b.getD i default).to ≤ 4096 := by
  have h3 := rightS_parts (rowAt_right (rowF_true.1 hr i h))
  exact ⟨h3.1, h3.2.1, h3.2.2.1⟩
theorem grp_form {b : List Sg} {size upto : Int} (h0 : 1 ≤ (b.getD 0 default).fr ∧ (b.getD 0 default).fr ≤ 4096) (hs : 2 ≤ size ∧ size ≤ 64) :
    grp b size upto = if ((b.getD 0 default).fr - 1).tmod size ≠ 0 ∨ (b.getD 0 default).fr + size - 1 > upto then 1 else
      if (b.takeWhile fun s => decide (s.to < (b.getD 0 default).fr + size - 1)).length = b.length ∨ (b.getD (b.takeWhile fun s => decide (s.to < (b.getD 0 default).fr + size - 1)).length default).to ≠ (b.getD 0 default).fr + size - 1 then 1
      else (b.takeWhile fun s => decide (s.to < (b.getD 0 default).fr + size - 1)).length + 1 := by
  unfold grp
  simp only
  have w1 : IntKind.i64.wrap ((b.getD 0 default).fr + size) = (b.getD 0 default).fr + size := wrap_i64 _ (by omega) (by omega)
  have w2 : IntKind.i64.wrap ((b.getD 0 default).fr + size - 1) = (b.getD 0 default).fr + size - 1 := wrap_i64 _ (by omega) (by omega)
  have w3 : IntKind.i64.wrap ((b.getD 0 default).fr - 1) = (b.getD 0 default).fr - 1 := wrap_i64 _ (by omega) (by omega)
  rw [w1, w2, w3]
theorem grp_eq {b : List Sg} {size upto : Int} {g : Nat} (h0 : 1 ≤ (b.getD 0 default).fr ∧ (b.getD 0 default).fr ≤ 4096) (hs : 2 ≤ size ∧ size ≤ 64) (hg : 1 ≤ g ∧ g ≤ b.length)
    (h1 : ((b.getD 0 default).fr - 1).tmod size = 0) (h2 : (b.getD 0 default).fr + size - 1 ≤ upto) (h3 : ∀ j, j < g - 1 → (b.getD j default).to < (b.getD 0 default).fr + size - 1)
    (h4 : (b.getD (g - 1) default).to = (b.getD 0 default).fr + size - 1) : grp b size upto = g := by
  rw [grp_form h0 hs, if_neg (by omega), takeWhile_len _ default b (g - 1) (fun j hj => decide_eq_true (h3 j hj)) (by omega) (.inr (decide_eq_false (by omega))), if_neg (by omega)]
  omega
theorem grp_one {b : List Sg} {size upto : Int} (h0 : 1 ≤ (b.getD 0 default).fr ∧ (b.getD 0 default).fr ≤ 4096) (hs : 2 ≤ size ∧ size ≤ 64)
    (h : ((b.getD 0 default).fr - 1).tmod size = 0 → (b.getD 0 default).fr + size - 1 ≤ upto → ∀ j, 1 ≤ j → j < b.length → (b.getD j default).to ≠ (b.getD 0 default).fr + size - 1) : grp b size upto = 1 := by
  rw [grp_form h0 hs]
  split
  · rfl
  · rename_i c1
    split
    · rfl
    · rename_i c2
      by_cases hn : (b.takeWhile fun s => decide (s.to < (b.getD 0 default).fr + size - 1)).length = 0
      · omega
      · have hle := takeWhile_le (fun s : Sg => decide (s.to < (b.getD 0 default).fr + size - 1)) b
        exfalso
        refine h (Decidable.of_not_not fun e => c1 (.inl e)) (by omega) _ (by omega) (by omega) (Decidable.of_not_not fun e => c2 (.inr e))
/-- Where a group ends a piece ended. -/
theorem groups_to (size upto : Int) : ∀ (n : Nat) (a : List Sg), a.length = n → ∀ j, j < (groupsL size upto a).length → ∃ i, i < a.length ∧ ((groupsL size upto a).getD j default).to = (a.getD i default).to := by
  intro n
  induction n using Nat.strongRecOn with
  | _ n ih =>
    intro a ha j hj
    by_cases h0 : a.length = 0
    · have : a = [] := List.length_eq_zero_iff.1 h0
      subst this
      rw [groupsL_nil] at hj; simp at hj
    · have hp := grp_pos a size upto
      have hle := grp_le a size upto (by omega)
      rw [groupsL_cons size upto a (by omega)] at hj ⊢
      cases j with
      | zero =>
        rw [List.getD_cons_zero]
        by_cases hg : grp a size upto = 1
        · refine ⟨0, by omega, ?_⟩
          rw [hg, List.drop_eq_nil_of_le (by simp; omega)]; rfl
        · exact ⟨grp a size upto - 1, by omega, (fold_to _ (by omega) hle).1⟩
      | succ j =>
        rw [List.getD_cons_succ]
        obtain ⟨i, h1, h2⟩ := ih (a.drop (grp a size upto)).length (by simp; omega) _ rfl j (by simpa using hj)
        refine ⟨grp a size upto + i, by simp at h1; omega, ?_⟩
        rw [h2, getD_drop']
theorem tmod_off {F size r : Int} (hF : 0 ≤ F) (hs : 2 ≤ size) (h : F.tmod size = 0) (hr : 0 < r) (hr2 : r < size) : (F + r).tmod size ≠ 0 := by
  rw [Int.tmod_eq_emod_of_nonneg hF] at h
  rw [Int.tmod_eq_emod_of_nonneg (by omega)]
  rw [Int.add_emod, h, Int.zero_add, Int.emod_emod, Int.emod_eq_of_lt (by omega) hr2]
  omega
theorem groupsL_one {a : List Sg} {size x : Int} (h0 : 0 < a.length) (hg : grp a size x = 1) : groupsL size x a = a.getD 0 default :: groupsL size x (a.drop 1) := by
  have e : (a.take 1).drop 1 = [] := List.drop_eq_nil_of_le (by simp; omega)
  rw [groupsL_cons size x a h0, hg, e]
  rfl
theorem groups_again {size x z : Int} (hs : 2 ≤ size ∧ size ≤ 64) (hxz : x ≤ z) : ∀ (n : Nat) (a : List Sg), a.length = n → rowF a = true → groupsL size z (groupsL size x a) = groupsL size z a := by
  intro n
  induction n using Nat.strongRecOn with
  | _ n ih =>
    intro a ha hr
    by_cases h0 : a.length = 0
    · have : a = [] := List.length_eq_zero_iff.1 h0
      subst this
      rw [groupsL_nil]
    · have hF : 1 ≤ (a.getD 0 default).fr ∧ (a.getD 0 default).fr ≤ 4096 := by have := row_parts hr 0 (by omega); omega
      have again : ∀ k, 1 ≤ k → k ≤ a.length → groupsL size z (groupsL size x (a.drop k)) = groupsL size z (a.drop k) := fun k h1 h2 => ih (a.drop k).length (by simp; omega) _ rfl (rowF_drop hr k)
      rcases grp_cases (upto := z) hr (by omega) hs with hz | ⟨c1, c2, c3, c4, c5⟩
      · have hx : grp a size x = 1 := by
          rcases grp_cases (upto := x) hr (by omega) hs with hx | ⟨d1, d2, d3, d4, d5⟩
          · exact hx
          · exfalso
            have := grp_eq (upto := z) hF hs ⟨by omega, d2⟩ d5 (by omega) (fun j hj => by rw [← d3]; exact row_to_lt' hr hj (by omega)) d3
            omega
        rw [groupsL_one (by omega) hx]
        have hl : grp (a.getD 0 default :: groupsL size x (a.drop 1)) size z = 1 := by
          refine grp_one (by rw [List.getD_cons_zero]; exact hF) hs fun e1 e2 j hj hj2 => ?_
          rw [List.getD_cons_zero] at e1 e2 ⊢
          obtain ⟨j, rfl⟩ : ∃ i, j = i + 1 := ⟨j - 1, by omega⟩
          rw [List.getD_cons_succ]
          obtain ⟨i, i1, i2⟩ := groups_to size x _ (a.drop 1) rfl j (by simpa using hj2)
          rw [i2, getD_drop']
          intro e
          simp at i1
          have := grp_eq (upto := z) (g := 1 + i + 1) hF hs ⟨by omega, by omega⟩ e1 e2 (fun j hj => by rw [← e]; exact row_to_lt' hr (by omega) (by omega)) (by rw [show 1 + i + 1 - 1 = 1 + i from by omega]; exact e)
          omega
        rw [groupsL_one (by simp) hl, List.getD_cons_zero, List.drop_one, List.tail_cons, again 1 (Nat.le_refl _) (by omega), ← groupsL_one (by omega) hz]
      · by_cases hx : (a.getD 0 default).fr + size - 1 ≤ x
        · have hgx : grp a size x = grp a size z := grp_eq hF hs ⟨by omega, c2⟩ c5 hx (fun j hj => by rw [← c3]; exact row_to_lt' hr hj (by omega)) c3
          rw [groupsL_cons size x a (by omega), hgx, groupsL_cons size z a (by omega)]
          obtain ⟨S, hS⟩ : ∃ S, S = foldS (a.getD 0 default) (List.drop 1 (List.take (grp a size z) a)) := ⟨_, rfl⟩
          rw [← hS]
          have e1 : S.fr = (a.getD 0 default).fr := by rw [hS, foldS_fr]
          have e2 : S.to = (a.getD 0 default).fr + size - 1 := by rw [hS, (fold_to _ c1 c2).1, c3]
          have hl : grp (S :: groupsL size x (a.drop (grp a size z))) size z = 1 :=
            grp_eq (by rw [List.getD_cons_zero, e1]; exact hF) hs ⟨by omega, by simp⟩ (by rw [List.getD_cons_zero, e1]; exact c5) (by rw [List.getD_cons_zero, e1]; exact c4) (fun j hj => by omega)
              (by rw [Nat.sub_self, List.getD_cons_zero, e1]; exact e2)
          rw [groupsL_one (by simp) hl, List.getD_cons_zero, List.drop_one, List.tail_cons, again _ (by omega) c2]
        · have alone : ∀ k, k ≤ grp a size z → groupsL size x a = a.take k ++ groupsL size x (a.drop k) := fun k => by
            induction k with
            | zero => intro _; simp
            | succ k ihk =>
              intro hk
              rw [ihk (by omega)]
              have hA : (a.drop k).getD 0 default = a.getD k default := by rw [getD_drop', Nat.add_zero]
              have hp := row_parts hr k (by omega)
              have h1 : grp (a.drop k) size x = 1 := by
                refine grp_one (by rw [hA]; omega) hs fun e1 e2 => ?_
                rw [hA] at e1 e2
                exfalso
                by_cases hk0 : k = 0
                · subst hk0; omega
                · have s1 := row_step hr (k - 1) (by omega)
                  rw [show k - 1 + 1 = k from by omega] at s1
                  have s2 := row_parts hr (k - 1) (by omega)
                  have s3 : (a.getD (k - 1) default).to < (a.getD 0 default).fr + size - 1 := by rw [← c3]; exact row_to_lt' hr (by omega) (by omega)
                  have s4 : (a.getD 0 default).to ≤ (a.getD (k - 1) default).to := by
                    by_cases hk1 : k - 1 = 0
                    · rw [hk1]; omega
                    · have := row_to_lt' hr (i := 0) (j := k - 1) (by omega) (by omega); omega
                  have s5 := row_parts hr 0 (by omega)
                  have := tmod_off (F := (a.getD 0 default).fr - 1) (size := size) (r := (a.getD k default).fr - (a.getD 0 default).fr) (by omega) hs.1 c5 (by omega) (by omega)
                  rw [show (a.getD 0 default).fr - 1 + ((a.getD k default).fr - (a.getD 0 default).fr) = (a.getD k default).fr - 1 from by omega] at this
                  exact this e1
              rw [groupsL_one (by simp; omega) h1, hA, List.drop_drop, take_snoc a k default (by omega), List.append_assoc]; rfl
          have hall := alone _ (Nat.le_refl _)
          obtain ⟨g, hg⟩ : ∃ g, g = grp a size z := ⟨_, rfl⟩
          rw [← hg] at hall c1 c2 c3
          obtain ⟨L, hL⟩ : ∃ L, L = a.take g ++ groupsL size x (a.drop g) := ⟨_, rfl⟩
          rw [← hL] at hall
          have hLj : ∀ j, j < g → L.getD j default = a.getD j default := fun j hj => by
            rw [hL, List.getD_eq_getElem?_getD, List.getElem?_append_left (by simp; omega), ← List.getD_eq_getElem?_getD, getD_take' _ _ _ _ hj]
          have hLl : g ≤ L.length := by rw [hL]; simp; omega
          have hgL : grp L size z = g := grp_eq (by rw [hLj 0 (by omega)]; exact hF) hs ⟨by omega, hLl⟩ (by rw [hLj 0 (by omega)]; exact c5) (by rw [hLj 0 (by omega)]; exact c4)
            (fun j hj => by rw [hLj 0 (by omega), hLj j (by omega), ← c3]; exact row_to_lt' hr hj (by omega)) (by rw [hLj 0 (by omega), hLj (g - 1) (by omega)]; exact c3)
          have hLt : L.take g = a.take g := by rw [hL, List.take_left' (by simp; omega)]
          have hLd : L.drop g = groupsL size x (a.drop g) := by rw [hL, List.drop_left' (by simp; omega)]
          rw [hall, groupsL_cons size z L (by omega), hgL, hLt, hLd, hLj 0 (by omega), again g (by omega) c2, groupsL_cons size z a (by omega), ← hg]
end Go.Pv
end

section
/- Groups of a row are a row; of a tube a tube. No program in it. -/
set_option linter.unusedVariables false
set_option linter.unusedSimpArgs false
namespace Go.Pv
theorem cmpI_lt0 {a b : Int} : cmpI a b < 0 ↔ a < b := by
  unfold cmpI
  split
  · simp; assumption
  · split
    · simp; omega
    · simp; omega
theorem cmpN_lt_le {a b c : Nm} (h1 : cmpN a b < 0) (h2 : cmpN b c ≤ 0) : cmpN a c < 0 := by
  let k := min a.exp (min b.exp c.exp)
  rw [cmpN_at (k := k) (by omega) (by omega), cmpI_lt0] at h1 ⊢
  rw [cmpN_at (k := k) (by omega) (by omega), cmpI_le] at h2
  omega
theorem cmpR_ok {a b : Nm} (ha : rightN a = true) (hb : rightN b = true) : cmpR a b = cmpN a b := if_pos ⟨ha, hb⟩
theorem first_lt {b : List Sg} (hr : rowF b = true) : ∀ j, j < b.length → cmpN (b.getD 0 default).t0 (b.getD j default).t1 < 0
  | 0, h => by
    have h3 := rightS_parts (rowAt_right (rowF_true.1 hr 0 h))
    have := h3.2.2.2.2.2.2.1
    rwa [cmpR_ok h3.2.2.2.1 h3.2.2.2.2.1] at this
  | j + 1, h => by
    have h0 := first_lt hr j (by omega)
    have h3 := rightS_parts (rowAt_right (rowF_true.1 hr (j + 1) h))
    have h4 := rightS_parts (rowAt_right (rowF_true.1 hr j (by omega)))
    have h5 := (behindS_parts (rowAt_behind (rowF_true.1 hr (j + 1) h) (by omega))).2.1
    rw [show j + 1 - 1 = j from by omega, cmpR_ok h4.2.2.2.2.1 h3.2.2.2.1] at h5
    have h6 := h3.2.2.2.2.2.2.1
    rw [cmpR_ok h3.2.2.2.1 h3.2.2.2.2.1] at h6
    exact cmpN_lt_le (cmpN_lt_le (c := (b.getD (j + 1) default).t0) h0 (by omega)) (by omega)
theorem foldS_t0 (s : Sg) (l : List Sg) : (foldS s l).t0 = s.t0 := by
  unfold foldS
  induction l generalizing s with
  | nil => rfl
  | cons x l ih => rw [List.foldl_cons, ih]; rfl
/-- The first g pieces of b as one. -/
def oneOf (b : List Sg) (g : Nat) : Sg := foldS (b.getD 0 default) ((b.take g).drop 1)
theorem oneOf_parts {b : List Sg} {g : Nat} (hg : 1 ≤ g ∧ g ≤ b.length) : (oneOf b g).fr = (b.getD 0 default).fr ∧ (oneOf b g).t0 = (b.getD 0 default).t0 ∧ (oneOf b g).to = (b.getD (g - 1) default).to ∧ (oneOf b g).t1 = (b.getD (g - 1) default).t1 := by
  refine ⟨foldS_fr _ _, foldS_t0 _ _, ?_⟩
  by_cases h : g = 1
  · subst h
    unfold oneOf
    rw [List.drop_eq_nil_of_le (by simp; omega)]; exact ⟨rfl, rfl⟩
  · exact fold_to _ (by omega) hg.2
theorem oneOf_box {b : List Sg} {g : Nat} (hr : rowF b = true) (hg : 1 ≤ g ∧ g ≤ b.length) : rightB (oneOf b g).box = true ∧ (oneOf b g).box.length = (b.getD 0 default).box.length := by
  have e : (b.take g).drop 1 = (b.drop 1).take (g - 1) := List.drop_take ..
  unfold oneOf
  rw [e]
  exact fold_box hr (g - 1) (by omega)
theorem oneOf_right {b : List Sg} {g : Nat} (hr : rowF b = true) (hg : 1 ≤ g ∧ g ≤ b.length) : rightS (oneOf b g) = true := by
  obtain ⟨e1, e2, e3, e4⟩ := oneOf_parts hg
  have h0 := rightS_parts (rowAt_right (rowF_true.1 hr 0 (by omega)))
  have h1 := rightS_parts (rowAt_right (rowF_true.1 hr (g - 1) (by omega)))
  have hle : (b.getD 0 default).to ≤ (b.getD (g - 1) default).to := by
    by_cases h : g - 1 = 0
    · rw [h]; omega
    · have := row_to_lt' hr (i := 0) (j := g - 1) (by omega) (by omega); omega
  have hlt := first_lt hr (g - 1) (by omega)
  unfold rightS
  rw [e1, e2, e3, e4, (oneOf_box hr hg).1, h0.2.2.2.1, h1.2.2.2.2.1, h0.2.2.2.2.2.1, cmpR_ok h0.2.2.2.1 h1.2.2.2.2.1, decide_eq_true hlt, decide_eq_true h0.1, decide_eq_true (by omega : (b.getD 0 default).fr ≤ (b.getD (g - 1) default).to), decide_eq_true h1.2.2.1]
  rfl
theorem rowF_cons {S : Sg} {R : List Sg} (h1 : rightS S = true) (h2 : rowF R = true) (h3 : R.length ≠ 0 → behindS S (R.getD 0 default) = true) : rowF (S :: R) = true := by
  refine rowF_true.2 fun i hi => ?_
  match i, hi with
  | 0, _ => unfold rowAt; rw [List.getD_cons_zero, h1]; rfl
  | 1, hi =>
    have hR : 0 < R.length := by simpa using hi
    unfold rowAt
    rw [List.getD_cons_succ, List.getD_cons_zero, rowAt_right (rowF_true.1 h2 0 hR), h3 (by omega)]; rfl
  | i + 2, hi =>
    have hR : i + 1 < R.length := by simp at hi; omega
    have := rowF_true.1 h2 (i + 1) hR
    unfold rowAt
    rw [List.getD_cons_succ, rowAt_right this, show i + 2 - 1 = i + 1 from rfl, List.getD_cons_succ]
    have h4 := rowAt_behind this (by omega)
    rw [show i + 1 - 1 = i from rfl] at h4
    rw [h4]; simp
theorem groupsL_cons' (size upto : Int) (l : List Sg) (h : 0 < l.length) : groupsL size upto l = oneOf l (grp l size upto) :: groupsL size upto (l.drop (grp l size upto)) := groupsL_cons size upto l h
theorem groups_row (size z : Int) : ∀ (n : Nat) (a : List Sg), a.length = n → rowF a = true → rowF (groupsL size z a) = true ∧
    (a.length ≠ 0 → (groupsL size z a).length ≠ 0 ∧ ((groupsL size z a).getD 0 default).fr = (a.getD 0 default).fr ∧ ((groupsL size z a).getD 0 default).t0 = (a.getD 0 default).t0 ∧ ((groupsL size z a).getD 0 default).box.length = (a.getD 0 default).box.length) := by
  intro n
  induction n using Nat.strongRecOn with
  | _ n ih =>
    intro a ha hr
    by_cases h0 : a.length = 0
    · have : a = [] := List.length_eq_zero_iff.1 h0
      subst this
      rw [groupsL_nil]
      exact ⟨hr, fun h => absurd rfl h⟩
    · have hg : 1 ≤ grp a size z ∧ grp a size z ≤ a.length := ⟨grp_pos a size z, grp_le a size z (by omega)⟩
      rw [groupsL_cons' size z a (by omega)]
      obtain ⟨g, hge⟩ : ∃ g, g = grp a size z := ⟨_, rfl⟩
      rw [← hge] at hg ⊢
      obtain ⟨e1, e2, e3, e4⟩ := oneOf_parts hg
      obtain ⟨b1, b2⟩ := oneOf_box hr hg
      obtain ⟨r1, r2⟩ := ih (a.drop g).length (by simp; omega) _ rfl (rowF_drop hr g)
      refine ⟨rowF_cons (oneOf_right hr hg) r1 fun hR => ?_, fun _ => ⟨by simp, by rw [List.getD_cons_zero]; exact e1, by rw [List.getD_cons_zero]; exact e2, by rw [List.getD_cons_zero]; exact b2⟩⟩
      have hd : (a.drop g).length ≠ 0 := fun e => by
        have : a.drop g = [] := List.length_eq_zero_iff.1 e
        rw [this, groupsL_nil] at hR; exact hR rfl
      obtain ⟨q1, q2, q3, q4⟩ := r2 hd
      have hga : g < a.length := by simp at hd; omega
      rw [getD_drop', Nat.add_zero] at q2 q3 q4
      have hb := behindS_parts (rowAt_behind (rowF_true.1 hr g hga) (by omega))
      have hl := row_len a.length (fun j hj => rowF_true.1 hr j hj) g hga
      unfold behindS
      rw [q2, q3, q4, e3, e4, b2, decide_eq_true hb.1, decide_eq_true hb.2.1, decide_eq_true hl.symm]; rfl
theorem groups_tube {size z : Int} {a : List Sg} (h : tubeF a = true) : tubeF (groupsL size z a) = true := by
  unfold tubeF firstF at h ⊢
  simp only [Bool.and_eq_true, Bool.or_eq_true, decide_eq_true_eq] at h
  obtain ⟨h1, h2⟩ := h
  obtain ⟨r1, r2⟩ := groups_row size z a.length a rfl h1
  rw [r1, Bool.true_and]
  by_cases h0 : a.length = 0
  · have : a = [] := List.length_eq_zero_iff.1 h0
    subst this
    rw [groupsL_nil]; rfl
  · obtain ⟨q1, q2, q3, q4⟩ := r2 h0
    obtain ⟨f1, f2⟩ := h2.resolve_left h0
    rw [q2, q3, decide_eq_true f1, decide_eq_true f2]; simp
end Go.Pv
end
