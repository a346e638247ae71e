/- Parts of the walk: M35. -/
import Derived.Test.YthllcnigcnoghaaGreatDoorZAL
set_option linter.unusedVariables false
set_option linter.unusedSimpArgs false
section
/- The halves of a small box. No program in it. -/
namespace Go.Pv
theorem getD_put {α : Type} (l : List α) (i j : Nat) (x d : α) (hj : j < l.length) : (l.set i x).getD j d = if i = j then x else l.getD j d := by
  simp only [List.getD_eq_getElem?_getD, List.getElem?_set]
  split
  · rename_i h; subst h; simp [hj]
  · rfl
structure Cut (b : List Ivl) (i : Nat) (m : Nm) : Prop where
  right : rightB b = true
  lt : i < b.length
  num : rightN m = true
  lo : qN (b.getD i default).lo ≤ qN m
  hi : qN m ≤ qN (b.getD i default).hi
def loB (b : List Ivl) (i : Nat) (m : Nm) : List Ivl := b.set i ⟨(b.getD i default).lo, m⟩
def hiB (b : List Ivl) (i : Nat) (m : Nm) : List Ivl := b.set i ⟨m, (b.getD i default).hi⟩
theorem Cut.loI {b i m} (h : Cut b i m) : rightI ⟨(b.getD i default).lo, m⟩ = true := rightI_mk (rightI_right (rightB_all h.right i h.lt)).1 h.num (cmpN_le.2 h.lo)
theorem Cut.hiI {b i m} (h : Cut b i m) : rightI ⟨m, (b.getD i default).hi⟩ = true := rightI_mk h.num (rightI_right (rightB_all h.right i h.lt)).2.1 (cmpN_le.2 h.hi)
theorem rightB_set {b : List Ivl} {i : Nat} {x : Ivl} (h : rightB b = true) (hx : rightI x = true) : rightB (b.set i x) = true := by
  have hl := rightB_len h
  refine rightB_mk (fun j hj => ?_) (by rw [List.length_set]; omega) (by rw [List.length_set]; omega)
  rw [List.length_set] at hj
  rw [getD_put _ _ _ _ _ hj]
  split
  · exact hx
  · exact rightB_all h j hj
theorem hasB_set {b : List Ivl} {q : List Nm} {i : Nat} {x : Ivl} (h : hasB b q = true) (hx : rightI x = true) (hi : hasI x (q.getD i default) = true) : hasB (b.set i x) q = true := by
  unfold hasB at h ⊢
  simp only [Bool.and_eq_true, decide_eq_true_eq, List.all_eq_true] at h ⊢
  refine ⟨⟨rightB_set h.1.1 hx, by rw [List.length_set]; exact h.1.2⟩, fun j hj => ?_⟩
  have hj' : j < b.length := by simpa using hj
  rw [getD_put _ _ _ _ _ hj']
  split
  · rename_i e; subst e; exact hi
  · exact h.2 j (by simpa using hj')
theorem Cut.has {b i m q} (h : Cut b i m) (hq : hasB b q = true) : (hasB (loB b i m) q || hasB (hiB b i m) q) = true := by
  have hqi : hasI (b.getD i default) (q.getD i default) = true := by
    unfold hasB at hq
    simp only [Bool.and_eq_true, List.all_eq_true] at hq
    exact hq.2 i (by simpa using h.lt)
  obtain ⟨_, hr, h1, h2⟩ := mem_hasI hqi
  rw [Bool.or_eq_true]
  by_cases hm : qN (q.getD i default) ≤ qN m
  · exact .inl (hasB_set hq h.loI (hasI_mem h.loI hr ⟨h1, hm⟩))
  · exact .inr (hasB_set hq h.hiI (hasI_mem h.hiI hr ⟨by grind, h2⟩))
end Go.Pv
end
