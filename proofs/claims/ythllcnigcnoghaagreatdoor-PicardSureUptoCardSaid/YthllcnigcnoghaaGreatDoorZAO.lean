/- Parts of the walk: M35. -/
import Derived.Test.YthllcnigcnoghaaGreatDoorZAL
set_option linter.unusedVariables false
set_option linter.unusedSimpArgs false
section
/- The halves of a small box. No program in it. -/
namespace Go.Pv
theorem getD_put {α : Type} (l : List α) (i j : Nat) (x d : α) (hj : j < l.length) : (l.set i x).getD j d = if i = j then x else l.getD j d := by
 simp only [List.getD_eq_getElem?_getD, List.getElem?_set]
 split
 · rename_i h; subst h; simp [hj]
 · rfl
structure Cut (b : List Ivl) (i : Nat) (m : Nm) : Prop where
 right : rightB b = true
 lt : i < b.length
 num : rightN m = true
 lo : qN (b.getD i default).lo ≤ qN m
 hi : qN m ≤ qN (b.getD i default).hi
def loB (b : List Ivl) (i : Nat) (m : Nm) : List Ivl := b.set i ⟨(b.getD i default).lo, m⟩
def hiB (b : List Ivl) (i : Nat) (m : Nm) : List Ivl := b.set i ⟨m, (b.getD i default).hi⟩
theorem Cut.loI {b i m} (h : Cut b i m) : rightI ⟨(b.getD i default).lo, m⟩ = true := rightI_mk (rightI_right (rightB_all h.right i h.lt)).1 h.num (cmpN_le.2 h.lo)
theorem Cut.hiI {b i m} (h : Cut b i m) : rightI ⟨m, (b.getD i default).hi⟩ = true := rightI_mk h.num (rightI_right (rightB_all h.right i h.lt)).2.1 (cmpN_le.2 h.hi)
theorem rightB_set {b : List Ivl} {i : Nat} {x : Ivl} (h : rightB b = true) (hx : rightI x = true) : rightB (b.set i x) = true := by
 have hl := rightB_len h
 refine rightB_mk (fun j hj => ?_) (by rw [List.length_set]; omega) (by rw [List.length_set]; omega)
 rw [List.length_set] at hj
 rw [getD_put _ _ _ _ _ hj]
 split
 · exact hx
 · exact rightB_all h j hj
theorem leastN_either (a b : Nm) : leastN a b = a ∨ leastN a b = b := by unfold leastN; split <;> simp
theorem greatN_either (a b : Nm) : greatN a b = a ∨ greatN a b = b := by unfold greatN; split <;> simp
theorem leastN_le {a b : Nm} (ha : rightN a = true) (hb : rightN b = true) (h : qN a ≤ qN b) : leastN a b = a := by
 obtain ⟨h1, h2, h3⟩ := qleast a b
 rcases leastN_either a b with e | e
 · exact e
 · rw [e] at h1 ⊢
   exact rightN_eq hb ha (Rat.le_antisymm h1 h)
theorem greatN_ge {a b : Nm} (ha : rightN a = true) (hb : rightN b = true) (h : qN a ≤ qN b) : greatN a b = b := by
 obtain ⟨h1, h2, h3⟩ := qgreat a b
 rcases greatN_either a b with e | e
 · rw [e] at h2 ⊢
   exact rightN_eq ha hb (Rat.le_antisymm h h2)
 · exact e
theorem Cut.hull {b i m} (h : Cut b i m) : hullB (loB b i m) (hiB b i m) = (b, 0) := by
 have hl0 : (loB b i m).length = (hiB b i m).length := by unfold loB hiB; simp
 rw [hullB_ok (show rightB (loB b i m) = true from rightB_set h.right h.loI) (show rightB (hiB b i m) = true from rightB_set h.right h.hiI) hl0]
 congr 1
 refine List.ext_getElem (by simp [loB]) fun j h1 h2 => ?_
 have hj : j < b.length := h2
 have ri := rightB_all h.right j hj
 obtain ⟨r1, r2, _⟩ := rightI_right ri
 have e : b[j] = b.getD j default := by simp [List.getD_eq_getElem?_getD, hj]
 rw [List.getElem_map, List.getElem_range, e]
 unfold loB hiB
 rw [getD_put _ _ _ _ _ hj, getD_put _ _ _ _ _ hj]
 by_cases hij : i = j
 · subst hij
   rw [if_pos rfl, if_pos rfl]
   unfold hullI
   rw [if_pos ⟨h.loI, h.hiI⟩]
   show (⟨leastN (b.getD i default).lo m, greatN m (b.getD i default).hi⟩ : Ivl) = _
   rw [leastN_le r1 h.num h.lo, greatN_ge h.num r2 h.hi]
 · rw [if_neg hij, if_neg hij]
   unfold hullI
   rw [if_pos ⟨ri, ri⟩]
   show (⟨leastN (b.getD j default).lo (b.getD j default).lo, greatN (b.getD j default).hi (b.getD j default).hi⟩ : Ivl) = _
   rw [leastN_le r1 r1 Rat.le_refl, greatN_ge r2 r2 Rat.le_refl]
theorem hasB_set {b : List Ivl} {q : List Nm} {i : Nat} {x : Ivl} (h : hasB b q = true) (hx : rightI x = true) (hi : hasI x (q.getD i default) = true) : hasB (b.set i x) q = true := by
 unfold hasB at h ⊢
 simp only [Bool.and_eq_true, decide_eq_true_eq, List.all_eq_true] at h ⊢
 refine ⟨⟨rightB_set h.1.1 hx, by rw [List.length_set]; exact h.1.2⟩, fun j hj => ?_⟩
 have hj' : j < b.length := by simpa using hj
 rw [getD_put _ _ _ _ _ hj']
 split
 · rename_i e; subst e; exact hi
 · exact h.2 j (by simpa using hj')
theorem Cut.has {b i m q} (h : Cut b i m) (hq : hasB b q = true) : (hasB (loB b i m) q || hasB (hiB b i m) q) = true := by
 have hqi : hasI (b.getD i default) (q.getD i default) = true := by
  unfold hasB at hq
  simp only [Bool.and_eq_true, List.all_eq_true] at hq
  exact hq.2 i (by simpa using h.lt)
 obtain ⟨_, hr, h1, h2⟩ := mem_hasI hqi
 rw [Bool.or_eq_true]
 by_cases hm : qN (q.getD i default) ≤ qN m
 · exact .inl (hasB_set hq h.loI (hasI_mem h.loI hr ⟨h1, hm⟩))
 · exact .inr (hasB_set hq h.hiI (hasI_mem h.hiI hr ⟨by grind, h2⟩))
end Go.Pv
end
