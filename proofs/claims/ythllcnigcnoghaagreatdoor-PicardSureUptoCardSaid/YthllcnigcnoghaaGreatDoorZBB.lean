/- Parts of the walk: N44. -/
import Derived.Test.YthllcnigcnoghaaGreatDoorZBA
import Derived.Test.YthllcnigcnoghaaGreatDoorZAR
set_option linter.unusedVariables false
set_option linter.unusedSimpArgs false
section
/- Within; the law MatHolds. -/
set_option maxRecDepth 100000
namespace Go.Pv
open Go.Proofs
theorem pt_lu {a : Ivl} {n : Nat} (ha : smI a) (hn : n ≤ 8) : rightN (inN a n) = true ∧ memI (qN (inN a n)) a ∧ luQ 62 105 (qN (inN a n)) := by
 obtain ⟨h1, h2, h3⟩ := pt_sm ha hn
 exact ⟨h1, h2, luQ_bd h3⟩
structure Dots (x y : Nat → Nm) (n : Nat) : Prop where
 le : n ≤ 4
 rx : ∀ k, k < n → rightN (x k) = true ∧ rightN (y k) = true
 lu : ∀ k, k < n → luQ 62 105 (qN (x k)) ∧ luQ 62 105 (qN (y k))
theorem Dots.bd {x y : Nat → Nm} {n : Nat} (h : Dots x y n) {k : Nat} (hk : k ≤ n) : bdV 100000 100000 (dotV x y k) := by
 have h4 := h.le
 have hc := canV_dot (x := x) (y := y) k fun j hj => h.rx j (by omega)
 have hl := lu_dotQ (X := fun k => qN (x k)) (Y := fun k => qN (y k)) k fun j hj => h.lu j (by omega)
 rw [← qV_dot] at hl
 exact (luV_bd hc hl).mono (by omega) (by omega)
theorem Dots.sm {x y : Nat → Nm} {n : Nat} (h : Dots x y n) {k : Nat} (hk : k ≤ n) : smV (dotV x y k) := smV_bd (h.bd hk) (by omega) (by omega)
end Go.Pv
end
