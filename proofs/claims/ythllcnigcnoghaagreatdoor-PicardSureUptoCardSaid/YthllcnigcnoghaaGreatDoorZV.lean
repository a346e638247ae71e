/- Parts of the walk: H10. -/
import Derived.Test.YthllcnigcnoghaaGreatDoorZM
set_option linter.unusedVariables false
set_option linter.unusedSimpArgs false
section
/- Numbers, intervals and boxes out of the deck. -/
set_option maxRecDepth 100000
namespace Go.Pv
open Go.Proofs
def isW (x : Int) : Prop := 0 ≤ x ∧ x < 18446744073709551616
def absN (x : Nm) : Nm := if rightN x = true then ⟨false, x.exp, x.w⟩ else default
def minusN (x : Nm) : Nm := if rightN x = true then (if x.w = [] then x else ⟨!x.neg, x.exp, x.w⟩) else default
theorem dim_c (l : List UInt64) (i k : Nat) (st : Store) (h : atD st k l i) (hi : i ≤ 1000000000000) : PCalls Tryz.prog 13 [.gp k 0] st
  (fun r st' => ∃ n : Nat, 1 ≤ n ∧ n ≤ 4 ∧ r = .sc (.int .i64 n) ∧ st' = st.set k (dk l (i + 1))) := by
 refine pcalls_enter none Tryz.func13 rfl fun E => pwp_of_vc ?_
 simp -dsimp only [go_sem]
 refine (deckN_c l i k 4 st h hi (by omega) (by omega)).mono ?_
 rintro r st' ⟨rfl, rfl⟩
 have n1 := nx_lt l i (n := 4) (by omega)
 have x1 : IntKind.i64.wrap (1 + (nx l i 4 : Int)) = ((1 + nx l i 4 : Nat) : Int) := by rw [show (1 + (nx l i 4 : Int)) = ((1 + nx l i 4 : Nat) : Int) from by omega, wrapn_i64 _ (by omega)]
 simp -dsimp only [go_sem, x1]
 exact ⟨1 + nx l i 4, by omega, by omega, rfl⟩
end Go.Pv
end
