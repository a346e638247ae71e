/- Parts of the walk: M41. -/
import Derived.Test.YthllcnigcnoghaaGreatDoorZBA
import Derived.Test.YthllcnigcnoghaaGreatDoorZAO
import Derived.Test.YthllcnigcnoghaaGreatDoorZAR
set_option linter.unusedVariables false
set_option linter.unusedSimpArgs false
section
/- By the matrix of ones; what the norm bounds. No program in it. -/
namespace Go.Pv
theorem qN_one : qN oneN = 1 := by
 have : qN oneN = qM 1 0 := rfl
 rw [this]; unfold qM; rw [p2_zero, Rat.intCast_one, Rat.mul_one]
theorem qN_dflt : qN (default : Nm) = 0 := qM_zero 0
def deltaQ (i k : Nat) : Rat := if i = k then 1 else 0
theorem mem_hi {a : Ivl} (h : rightI a = true) : memI (qN a.hi) a := ⟨by have := qI_le h; rwa [qV_ofN, qV_ofN] at this, Rat.le_refl⟩
def inQ1 (A x : Rat) : Prop := -A ≤ x ∧ x ≤ A
def sumQ (A : Nat → Rat) : Nat → Rat
 | 0 => 0
 | n + 1 => sumQ A n + A n
def mostV (z : Nat → Nm) : Nat → Vl
 | 0 => ⟨false, 0, 0⟩
 | i + 1 => if orderV (ofN (absN (z i))) (mostV z i) > 0 then ofN (absN (z i)) else mostV z i
theorem orderV_gt (a b : Vl) : orderV a b > 0 ↔ qV b < qV a := by
 have := orderV_le a b
 rw [← Rat.not_le, ← this]; omega
def absV (v : Vl) : Vl := if signV v < 0 then turnV v else v
end Go.Pv
end
