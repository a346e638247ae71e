/- Parts of the walk: N23, N26. -/
import Derived.Test.YthllcnigcnoghaaGreatDoorZAH
import Derived.Test.YthllcnigcnoghaaGreatDoorZY
import Derived.Test.YthllcnigcnoghaaGreatDoorZV
set_option linter.unusedVariables false
set_option linter.unusedSimpArgs false
section
/- The deck: In, Part, InBox, PartBox, Prec. -/
set_option maxRecDepth 100000
namespace Go.Pv
open Go.Proofs
theorem prec_c (l : List UInt64) (i k : Nat) (st : Store) (h : atD st k l i) (hi : i ≤ 1000000000) : PCalls Tryz.prog 16 [.gp k 0] st
    (fun r st' => ∃ (p j : Nat), 8 ≤ p ∧ p ≤ 256 ∧ i ≤ j ∧ j ≤ i + 2 ∧ r = .sc (.int .i64 p) ∧ st' = st.set k (dk l j)) := by
  refine pcalls_enter none Tryz.func16 rfl fun E => pwp_of_vc ?_
  simp -dsimp only [go_sem]
  refine (deckN_c l i k 6 st h (by omega) (by omega) (by omega)).mono ?_
  rintro r st' ⟨rfl, rfl⟩
  simp -dsimp only [go_sem]
  refine ck (fun h1 => ?_) (fun h1 => ?_)
  · simp -dsimp only [go_sem]
    exact ⟨8, i + 1, by omega, by omega, by omega, by omega, rfl, rfl⟩
  · simp -dsimp only [go_sem]
    refine ck (fun h2 => ?_) (fun h2 => ?_)
    · simp -dsimp only [go_sem]
      exact ⟨256, i + 1, by omega, by omega, by omega, by omega, rfl, rfl⟩
    · simp -dsimp only [go_sem]
      refine (deckN_c l (i + 1) k 60 _ (h.set (i + 1)) (by omega) (by omega) (by omega)).mono ?_
      rintro r st' ⟨rfl, rfl⟩
      have n1 := nx_lt l (i + 1) (n := 60) (by omega)
      have x1 : IntKind.i64.wrap (12 + (nx l (i + 1) 60 : Int)) = ((12 + nx l (i + 1) 60 : Nat) : Int) := by rw [show (12 + (nx l (i + 1) 60 : Int)) = ((12 + nx l (i + 1) 60 : Nat) : Int) from by omega, wrapn_i64 _ (by omega)]
      simp -dsimp only [go_sem, set_dk, x1]
      exact ⟨12 + nx l (i + 1) 60, i + 2, by omega, by omega, by omega, by omega, rfl, rfl⟩
end Go.Pv
end

section
/- The laws BoxParts, BoxDrawn, BoxFour. -/
set_option maxRecDepth 100000
namespace Go.Pv
open Go.Proofs
end Go.Pv
end
