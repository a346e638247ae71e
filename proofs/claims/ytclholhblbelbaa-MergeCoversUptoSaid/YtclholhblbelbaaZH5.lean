/- MergeDrawn. -/
import Derived.Test.YtclholhblbelbaaZM
import Derived.Test.YtclholhblbelbaaZJ
set_option linter.unusedVariables false
set_option linter.unusedSimpArgs false
set_option maxRecDepth 100000
namespace Go.Pv
open Go.Proofs
theorem atD_new (l : List UInt64) : atD [dk l 0] 0 l 0 := rfl
theorem mergeDrawn_c (l : List UInt64) : PCalls Try.prog 4 [.sl .no (encW l)] [] (fun r st' => r = .sc (.bool true)) := by
  refine pcalls_enter none Try.func4 rfl fun E => pwp_of_vc ?_
  simp -dsimp only [go_sem]
  refine (known_c []).mono ?_
  rintro r st ⟨rfl, rfl⟩
  simp -dsimp only [go_sem]
  refine (deckOf_c l []).mono ?_
  rintro r st ⟨rfl, rfl⟩
  obtain ⟨s0, hs0⟩ : ∃ s0, s0 = [dk l 0] := ⟨_, rfl⟩
  have h0 : atD s0 0 l 0 := by rw [hs0]; exact atD_new l
  rw [List.nil_append, ← hs0]
  simp -dsimp only [go_sem]
  refine (deckN_c l 0 0 3 s0 h0 (by omega) (by omega) (by omega)).mono ?_
  rintro r st ⟨rfl, rfl⟩
  have n1 := nx_lt l 0 (n := 3) (by omega)
  have x1 : IntKind.i64.wrap (1 + (nx l 0 3 : Int)) = ((1 + nx l 0 3 : Nat) : Int) := by rw [wrap_i64 _ (by omega) (by omega)]; omega
  simp -dsimp only [go_sem, x1]
  refine (deckTube_c l 1 0 (1 + nx l 0 3) 12 _ (h0.set 1) (by omega) (by omega) (by omega)).mono ?_
  rintro r st ⟨a, at', q, j, hT, hal, hj, hj2, rfl, rfl⟩
  have hw : wSs a := tubeF_wSs (TubeI_row hT) (by omega)
  simp -dsimp only [go_sem, set_dk]
  refine (deckN_c l j 0 4 _ (h0.set j) (by omega) (by omega) (by omega)).mono ?_
  rintro r st ⟨rfl, rfl⟩
  have n2 := nx_lt l j (n := 4) (by omega)
  have x2 : IntKind.i64.wrap (2 + (nx l j 4 : Int)) = ((2 + nx l j 4 : Nat) : Int) := by rw [wrap_i64 _ (by omega) (by omega)]; omega
  simp -dsimp only [go_sem, x2, set_dk]
  refine (deckN_c l (j + 1) 0 20 _ (h0.set (j + 1)) (by omega) (by omega) (by omega)).mono ?_
  rintro r st ⟨rfl, rfl⟩
  have x3 : IntKind.i64.wrap ((a.length : Int) + 1) = ((a.length + 1 : Nat) : Int) := by rw [show ((a.length : Int) + 1) = ((a.length + 1 : Nat) : Int) from rfl, wrapn_i64 _ (by omega)]
  simp -dsimp only [go_sem, x3, set_dk]
  refine (deckN_c l (j + 1 + 1) 0 (a.length + 1) _ (h0.set (j + 1 + 1)) (by omega) (by omega) (by omega)).mono ?_
  rintro r st ⟨rfl, rfl⟩
  have n3 := nx_lt l (j + 1 + 1) (n := a.length + 1) (by omega)
  simp -dsimp only [go_sem, set_dk]
  refine (told_c a _ _ _ hw).mono ?_
  rintro r st ⟨rfl, rfl⟩
  simp -dsimp only [go_sem]
  refine ⟨by omega, ?_⟩
  refine (told_c (a.drop (nx l (j + 1 + 1) (a.length + 1))) _ _ _ (wSs_drop hw _)).mono ?_
  rintro r st ⟨rfl, rfl⟩
  simp -dsimp only [go_sem]
  refine ⟨by omega, ?_⟩
  refine (told_c (a.take (nx l (j + 1 + 1) (a.length + 1))) _ _ _ (wSs_take hw _)).mono ?_
  rintro r st ⟨rfl, rfl⟩
  simp -dsimp only [go_sem]
end Go.Pv
