/- Parts of the walk: M16. -/
import Derived.Test.YtelmlebahoeikaaGreatDoorZN
set_option linter.unusedVariables false
set_option linter.unusedSimpArgs false
section
/- Groups cover their pieces. No program in it. -/
set_option linter.unusedVariables false
set_option linter.unusedSimpArgs false
namespace Go.Pv
theorem inI_iff {a b : Ivl} : inI a b = true ↔ rightI a = true ∧ rightI b = true ∧ 0 ≤ cmpN a.lo b.lo ∧ 0 ≤ cmpN b.hi a.hi := by
  unfold inI
  simp only [Bool.and_eq_true, decide_eq_true_eq]
  constructor
  · rintro ⟨⟨⟨h1, h2⟩, h3⟩, h4⟩; exact ⟨h1, h2, h3, h4⟩
  · rintro ⟨h1, h2, h3, h4⟩; exact ⟨⟨⟨h1, h2⟩, h3⟩, h4⟩
theorem allF_iff {α : Type} [Inhabited α] {f : α → α → Bool} {a b : List α} : allF f a b = true ↔ a.length = b.length ∧ ∀ i, i < a.length → f (a.getD i default) (b.getD i default) = true := by
  unfold allF
  simp only [Bool.and_eq_true, decide_eq_true_eq, List.all_eq_true, List.mem_range]
theorem inB_iff {a b : List Ivl} : inB a b = true ↔ rightB a = true ∧ rightB b = true ∧ a.length = b.length ∧ ∀ i, i < a.length → inI (a.getD i default) (b.getD i default) = true := by
  unfold inB
  simp only [Bool.and_eq_true, allF_iff]
  constructor
  · rintro ⟨⟨h1, h2⟩, h3, h4⟩; exact ⟨h1, h2, h3, h4⟩
  · rintro ⟨h1, h2, h3, h4⟩; exact ⟨⟨h1, h2⟩, h3, h4⟩
def withinF (s x : Sg) : Bool := decide (x.fr ≤ s.fr) && (decide (s.to ≤ x.to) && (decide (cmpR x.t0 s.t0 ≤ 0) && (decide (cmpR s.t1 x.t1 ≤ 0) && inB s.box x.box)))
def CovH (m a : List Sg) : Prop := ∀ j, j < a.length → ∃ c, c < m.length ∧ withinF (a.getD j default) (m.getD c default) = true ∧ (a.getD j default).fr ≤ (m.getD c default).to ∧ ∀ i, i < c → (m.getD i default).to < (a.getD j default).fr
def lastS (l : List Sg) : Sg := l.getD (l.length - 1) default
end Go.Pv
end
