/- MergeTwice. -/
import Derived.Test.YtclholhblbelbaaZH5
import Derived.Test.YtclholhblbelbaaZN
set_option linter.unusedVariables false
set_option linter.unusedSimpArgs false
set_option maxRecDepth 100000
namespace Go.Pv
open Go.Proofs
set_option maxHeartbeats 2000000 in
theorem mergeTwice_c (l : List UInt64) : PCalls Try.prog 11 [.sl .no (encW l)] [] (fun r st' => r = .sc (.bool true)) := by
  refine pcalls_enter none Try.func11 rfl fun E => pwp_of_vc ?_
  simp -dsimp only [go_sem]
  refine (known_c []).mono ?_
  rintro r st ⟨rfl, rfl⟩
  simp -dsimp only [go_sem]
  refine (deckOf_c l []).mono ?_
  rintro r st ⟨rfl, rfl⟩
  obtain ⟨s0, hs0⟩ : ∃ s0, s0 = [dk l 0] := ⟨_, rfl⟩
  have h0 : atD s0 0 l 0 := by rw [hs0]; exact atD_new l
  rw [List.nil_append, ← hs0]
  simp -dsimp only [go_sem]
  refine (deckN_c l 0 0 3 s0 h0 (by omega) (by omega) (by omega)).mono ?_
  rintro r st ⟨rfl, rfl⟩
  have n1 := nx_lt l 0 (n := 3) (by omega)
  have x1 : IntKind.i64.wrap (1 + (nx l 0 3 : Int)) = ((1 + nx l 0 3 : Nat) : Int) := by rw [wrap_i64 _ (by omega) (by omega)]; omega
  simp -dsimp only [go_sem, x1]
  refine (deckTube_c l 1 0 (1 + nx l 0 3) 12 _ (h0.set 1) (by omega) (by omega) (by omega)).mono ?_
  rintro r st ⟨a, at', q, j, hT, hal, hj, hj2, rfl, rfl⟩
  have hr : rowF a = true := TubeI_row hT
  have ht := TubeI_tube hT
  have hw : wSs a := tubeF_wSs hr (by omega)
  simp -dsimp only [go_sem, set_dk]
  refine (deckN_c l j 0 4 _ (h0.set j) (by omega) (by omega) (by omega)).mono ?_
  rintro r st ⟨rfl, rfl⟩
  have n2 := nx_lt l j (n := 4) (by omega)
  have x2 : IntKind.i64.wrap (2 + (nx l j 4 : Int)) = 2 + (nx l j 4 : Int) := wrap_i64 _ (by omega) (by omega)
  simp -dsimp only [go_sem, x2, set_dk]
  refine (deckN_c l (j + 1) 0 20 _ (h0.set (j + 1)) (by omega) (by omega) (by omega)).mono ?_
  rintro r st ⟨rfl, rfl⟩
  simp -dsimp only [go_sem, set_dk]
  refine (deckN_c l (j + 1 + 1) 0 20 _ (h0.set (j + 1 + 1)) (by omega) (by omega) (by omega)).mono ?_
  rintro r st ⟨rfl, rfl⟩
  obtain ⟨x, hx⟩ : ∃ u : Int, u = (nx l (j + 1) 20 : Int) := ⟨_, rfl⟩
  obtain ⟨y, hy⟩ : ∃ u : Int, u = (nx l (j + 1 + 1) 20 : Int) := ⟨_, rfl⟩
  obtain ⟨size, hsz⟩ : ∃ u : Int, u = 2 + (nx l j 4 : Int) := ⟨_, rfl⟩
  have hs : 2 ≤ size ∧ size ≤ 64 := by omega
  simp -dsimp only [go_sem, set_dk, ← hx, ← hy, ← hsz]
  have hM := w_groupsS hw size x
  rw [groupsS_ok ht hs] at hM
  have htM : tubeF (groupsL size x a) = true := groups_tube ht
  refine (groups_c a size x _ hw).mono ?_
  rintro r st ⟨rfl, rfl⟩
  rw [groupsS_ok ht hs]
  simp -dsimp only [go_sem]
  refine (groups_c (groupsL size x a) size x _ hM).mono ?_
  rintro r st ⟨rfl, rfl⟩
  rw [groupsS_ok htM hs, groups_again hs (Int.le_refl x) a.length a rfl hr]
  simp -dsimp only [go_sem]
  obtain ⟨z, hz⟩ : ∃ z : Int, z = if y > x then y else x := ⟨_, rfl⟩
  have hxz : x ≤ z := by rw [hz]; split <;> omega
  rw [← hz]
  refine (groups_c (groupsL size x a) size z _ hM).mono ?_
  rintro r st ⟨rfl, rfl⟩
  rw [groupsS_ok htM hs, groups_again hs hxz a.length a rfl hr]
  simp -dsimp only [go_sem, ← hz]
  refine (groups_c a size z _ hw).mono ?_
  rintro r st ⟨rfl, rfl⟩
  have hZ := w_groupsS hw size z
  rw [groupsS_ok ht hs] at hZ ⊢
  simp -dsimp only [go_sem]
  refine (tubeSame_c _ _ _ hM hM).mono ?_
  rintro r st ⟨rfl, rfl⟩
  simp -dsimp only [go_sem, decide_eq_true (rfl : groupsL size x a = groupsL size x a)]
  refine (tubeSame_c _ _ _ hZ hZ).mono ?_
  rintro r st ⟨rfl, rfl⟩
  simp -dsimp only [go_sem, decide_eq_true (rfl : groupsL size z a = groupsL size z a)]
end Go.Pv
