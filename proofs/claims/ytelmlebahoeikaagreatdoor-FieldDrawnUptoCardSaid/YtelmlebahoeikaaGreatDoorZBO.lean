/- Parts of the walk: N64. -/
import Derived.Test.YtelmlebahoeikaaGreatDoorZBN
import Derived.Test.YtelmlebahoeikaaGreatDoorZBJ
import Derived.Test.YtelmlebahoeikaaGreatDoorZBB
set_option linter.unusedVariables false
set_option linter.unusedSimpArgs false
section
/- Layer 11: FieldDrawn, FieldHolds. -/
set_option linter.unusedVariables false
set_option linter.unusedSimpArgs false
set_option maxRecDepth 100000
namespace Go.Pv
open Go.Proofs
theorem okPoly.at {n M : Nat} {D : Int} {p : List Mn} (h : okPoly n M D p) {j : Nat} (hj : j < p.length) : okMn n 12 (18 + M) D (p.getD j default) := getD_mem' h.2.2 hj
theorem okField.at {n M : Nat} {D : Int} {f : List (List Mn)} (h : okField n M D f) {i : Nat} (hi : i < f.length) : okPoly n M D (f.getD i []) := by
  rw [show f.getD i [] = f[i] by simp [List.getD_eq_getElem?_getD, hi]]
  exact h.2 _ (List.getElem_mem hi)
theorem okField.wF {n M : Nat} {D : Int} {f : List (List Mn)} (h : okField n M D f) (hn4 : n ≤ 4) (hM : M ≤ 20) : wF f := ⟨by have := h.1; omega, fun i hi => ⟨by have := (h.at hi).2.1; omega, fun j hj => by
  obtain ⟨a1, a2, a3, a4, a5, a6⟩ := (h.at hi).at hj
  exact ⟨rightN_wN a4, by rw [a1]; omega, fun k hk => by
    have := rightK_at a2 k hk
    omega⟩⟩⟩
theorem smB_wB {b : List Ivl} {n : Nat} (hl : b.length = n) (hn4 : n ≤ 4) (h : ∀ m, m < b.length → smI (b.getD m default)) : wB b := ⟨by omega, fun i hi => wI_right (h i hi).1⟩
theorem inPts {b : List Ivl} {q : List Nm} (hb : ∀ m, m < b.length → smI (b.getD m default)) (hq : ∀ j, j < b.length → ∃ n, n ≤ 8 ∧ q.getD j default = inN (b.getD j default) n) : ∀ j, j < b.length → rightN (q.getD j default) = true ∧ memI (qN (q.getD j default)) (b.getD j default) ∧ luQ 62 105 (qN (q.getD j default)) := fun j hj => by
  obtain ⟨n, hn, e⟩ := hq j hj
  rw [e]; exact pt_lu (hb j hj) hn
theorem take_get {α : Type} [Inhabited α] (l : List α) (n j : Nat) (h : j < (l.take n).length) : (l.take n).getD j default = l.getD j default := getD_take _ _ _ _ (by rw [List.length_take] at h; omega)
set_option maxHeartbeats 4000000 in
theorem fieldDrawn_c (l : List UInt64) : PCalls Tryz.prog 4 [.sl .no (encW l)] [] (fun r st' => r = .sc (.bool true)) := by
  refine pcalls_enter none Tryz.func4 rfl fun E => pwp_of_vc ?_
  simp -dsimp only [go_sem]
  refine (known11_c _).mono ?_
  rintro r st ⟨rfl, rfl⟩
  simp -dsimp only [go_sem]
  refine (deckOf_c l _).mono ?_
  rintro r st ⟨rfl, rfl⟩
  simp -dsimp only [go_sem]
  refine (dim_c l 0 0 [dk l 0] rfl (by omega)).mono ?_
  rintro r st ⟨n, hn1, hn2, rfl, rfl⟩
  simp -dsimp only [go_sem]
  refine (deckField_c l 1 0 n 4 5 [dk l 1] rfl (by omega) hn1 hn2 (by omega) (by omega)).mono ?_
  rintro r st ⟨f, j1, hf, hj1, hj2, rfl, rfl⟩
  simp -dsimp only [go_sem]
  refine (deckField_c l j1 0 n 4 5 [dk l j1] rfl (by omega) hn1 hn2 (by omega) (by omega)).mono ?_
  rintro r st ⟨g, j2, hg, hj3, hj4, rfl, rfl⟩
  simp -dsimp only [go_sem]
  refine (smallBoxS_c l j2 0 n [dk l j2] rfl (by omega) (by omega)).mono ?_
  rintro r st ⟨b, j3, hbl, hb, hj5, hj6, rfl, rfl⟩
  simp -dsimp only [go_sem]
  refine (prec_c l j3 0 [dk l j3] rfl (by omega)).mono ?_
  rintro r st ⟨p, j4, hp1, hp2, hj7, hj8, rfl, rfl⟩
  simp -dsimp only [go_sem]
  refine (inBoxD_c l j4 0 b [dk l j4] rfl (by omega) (by omega) (fun j hj => (hb j hj).1)).mono ?_
  rintro r st ⟨x, hxl, hx, rfl, rfl⟩
  have hxp := inPts hb hx
  have wf := hf.wF hn2 (by omega)
  have wg := hg.wF hn2 (by omega)
  have wb := smB_wB hbl hn2 hb
  have wx : wNs x := ⟨by omega, fun i hi => rightN_wN (hxp i (by omega)).1⟩
  have wb' : wB (b.take (n - 1)) := ⟨by rw [List.length_take]; omega, fun i hi => by rw [take_get _ _ _ hi]; exact wb.2 i (by rw [List.length_take] at hi; omega)⟩
  have wx' : wNs (x.take (n - 1)) := ⟨by rw [List.length_take]; omega, fun i hi => by rw [take_get _ _ _ hi]; exact wx.2 i (by rw [List.length_take] at hi; omega)⟩
  have hr := hf.right hn1 hn2
  have x1 : IntKind.i64.wrap ((n : Int) - 1) = ((n - 1 : Nat) : Int) := by rw [show (n : Int) - 1 = ((n - 1 : Nat) : Int) from by omega, wrapn_i64 _ (by omega)]
  generalize [dk l (j4 + b.length)] = st
  simp -dsimp only [go_sem]
  refine pwp_draw mixed 54 (.step 0 [] (.step 1 [] (.step 2 [] (.step 3 [] (.step 4 [] (.step 5 [] (.step 6 [] (.step 7 [] (.step 8 [] (.step 9 [] (.step 10 [] (.step 11 [] (.step 12 [] (.step 13 [] (.step 14 [] (.step 15 [] (.step 16 [] (.step 17 [] (.step 18 [] (.step 19 [] (.step 20 [] (.step 21 [] (.step 22 [] (.step 23 [] (.step 24 [] (.done)))))))))))))))))))))))))) (by decide +kernel) (by simp) ?_
  simp -dsimp only [go_sem]
  refine (told11_c f f x b p _ wf wf wx wb).mono ?_
  rintro r st ⟨rfl, rfl⟩
  simp -dsimp only [go_sem, x1]
  refine ⟨⟨⟨by omega, by omega⟩, by omega⟩, ⟨⟨by omega, by omega⟩, by omega⟩, ?_⟩
  refine (told11_c g f (x.take (n - 1)) (b.take (n - 1)) p _ wg wf wx' wb').mono ?_
  rintro r st ⟨rfl, rfl⟩
  simp -dsimp only [go_sem]
  refine (fieldRight_c f _ wf).mono ?_
  rintro r st ⟨rfl, rfl⟩
  rw [hr]
  simp -dsimp only [go_sem]
end Go.Pv
end
