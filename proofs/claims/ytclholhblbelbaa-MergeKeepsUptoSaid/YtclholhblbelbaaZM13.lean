/- Groups of a row: where they begin and end. No program in it. -/
import Derived.Test.YtclholhblbelbaaZE
set_option linter.unusedVariables false
set_option linter.unusedSimpArgs false
namespace Go.Pv
theorem row_step {l : List Sg} (h : rowF l = true) (i : Nat) (hi : i + 1 < l.length) : (l.getD (i + 1) default).fr = (l.getD i default).to + 1 := by
  have h1 := rowAt_behind (rowF_true.1 h (i + 1) hi) (by omega)
  have h2 := (behindS_parts h1).1
  rw [show i + 1 - 1 = i from by omega] at h2
  have h3 := rightS_parts (rowAt_right (rowF_true.1 h i (by omega)))
  rw [h2, wrap_i64 _ (by omega) (by omega)]
theorem row_to_lt {l : List Sg} (h : rowF l = true) : ∀ d i, i + d + 1 < l.length → (l.getD i default).to < (l.getD (i + d + 1) default).to
  | 0, i, hi => by
    have h1 := row_step h i hi
    have h3 := rightS_parts (rowAt_right (rowF_true.1 h (i + 1) hi))
    rw [Nat.add_zero]; omega
  | d + 1, i, hi => by
    have h0 := row_to_lt h d i (by omega)
    have h1 := row_step h (i + d + 1) (by omega)
    have h3 := rightS_parts (rowAt_right (rowF_true.1 h (i + d + 1 + 1) (by omega)))
    rw [show i + (d + 1) + 1 = i + d + 1 + 1 from by omega]; omega
theorem row_to_lt' {l : List Sg} (h : rowF l = true) {i j : Nat} (hij : i < j) (hj : j < l.length) : (l.getD i default).to < (l.getD j default).to := by
  have := row_to_lt h (j - i - 1) i (by omega)
  rwa [show i + (j - i - 1) + 1 = j from by omega] at this
theorem grp_cases {b : List Sg} {size upto : Int} (hr : rowF b = true) (h0 : 0 < b.length) (hs : 2 ≤ size ∧ size ≤ 64) : grp b size upto = 1 ∨
    (2 ≤ grp b size upto ∧ grp b size upto ≤ b.length ∧ (b.getD (grp b size upto - 1) default).to = (b.getD 0 default).fr + size - 1 ∧ (b.getD 0 default).fr + size - 1 ≤ upto ∧ ((b.getD 0 default).fr - 1).tmod size = 0) := by
  have h3 := rightS_parts (rowAt_right (rowF_true.1 hr 0 h0))
  have hle := grp_le b size upto h0
  unfold grp at hle ⊢
  simp only at hle ⊢
  have w1 : IntKind.i64.wrap ((b.getD 0 default).fr + size) = (b.getD 0 default).fr + size := wrap_i64 _ (by omega) (by omega)
  have w2 : IntKind.i64.wrap ((b.getD 0 default).fr + size - 1) = (b.getD 0 default).fr + size - 1 := wrap_i64 _ (by omega) (by omega)
  have w3 : IntKind.i64.wrap ((b.getD 0 default).fr - 1) = (b.getD 0 default).fr - 1 := wrap_i64 _ (by omega) (by omega)
  rw [w1, w2, w3] at hle ⊢
  split
  · exact .inl rfl
  · rename_i c1
    rw [if_neg c1] at hle
    split
    · exact .inl rfl
    · rename_i c2
      rw [if_neg c2] at hle
      by_cases hn : (b.takeWhile fun s => decide (s.to < (b.getD 0 default).fr + size - 1)).length = 0
      · exact .inl (by rw [hn])
      · refine .inr ⟨by omega, hle, ?_, by omega, ?_⟩
        · rw [Nat.add_sub_cancel]
          exact Decidable.of_not_not fun e => c2 (.inr e)
        · exact Decidable.of_not_not fun e => c1 (.inl e)
theorem foldS_fr (s : Sg) (l : List Sg) : (foldS s l).fr = s.fr := by
  unfold foldS
  induction l generalizing s with
  | nil => rfl
  | cons x l ih => rw [List.foldl_cons, ih]; rfl
theorem fold_to {b : List Sg} {g : Nat} (s : Sg) (h2 : 2 ≤ g) (hg : g ≤ b.length) : (foldS s ((b.take g).drop 1)).to = (b.getD (g - 1) default).to ∧ (foldS s ((b.take g).drop 1)).t1 = (b.getD (g - 1) default).t1 := by
  have e : (b.take g).drop 1 = (b.drop 1).take (g - 2 + 1) := by
    rw [List.drop_take]; congr 1; omega
  rw [e, foldS_take s (b.drop 1) (g - 2) (by simp; omega), getD_drop', show 1 + (g - 2) = g - 1 from by omega]
  exact ⟨rfl, rfl⟩
theorem groupsS_ok {l : List Sg} {size upto : Int} (ht : tubeF l = true) (hs : 2 ≤ size ∧ size ≤ 64) : groupsS l size upto = (groupsL size upto l, 0) := if_pos ⟨ht, hs.1, hs.2⟩
end Go.Pv
