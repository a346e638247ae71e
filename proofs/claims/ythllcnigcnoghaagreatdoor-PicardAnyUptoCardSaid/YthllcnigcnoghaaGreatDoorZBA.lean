/- Parts of the walk: M39, M40. -/
import Derived.Test.YthllcnigcnoghaaGreatDoorZAQ
import Derived.Test.YthllcnigcnoghaaGreatDoorZAR
import Derived.Test.YthllcnigcnoghaaGreatDoorZAW
set_option linter.unusedVariables false
set_option linter.unusedSimpArgs false
section
/- How far down and how far up a value goes: sums, products, rounding, and what fits. No program in it. -/
namespace Go.Pv
def luQ (L U : Nat) (x : Rat) : Prop := ∃ z : Int, x = qM z (-(L : Int)) ∧ z.natAbs ≤ 2 ^ (L + U)
theorem luQ.up {L U U' : Nat} {x : Rat} (h : luQ L U x) (hu : U ≤ U') : luQ L U' x := by
  obtain ⟨z, h1, h2⟩ := h
  exact ⟨z, h1, Nat.le_trans h2 (Nat.pow_le_pow_right (by omega) (by omega))⟩
theorem luQ.down {L L' U : Nat} {x : Rat} (h : luQ L U x) (hl : L ≤ L') : luQ L' U x := by
  obtain ⟨z, h1, h2⟩ := h
  refine ⟨z * 2 ^ (L' - L), ?_, ?_⟩
  · rw [qM_pow, h1]; congr 1; omega
  · have e : (z * 2 ^ (L' - L)).natAbs = z.natAbs * 2 ^ (L' - L) := by rw [Int.natAbs_mul, Int.natAbs_pow]; rfl
    rw [e, show L' + U = (L + U) + (L' - L) from by omega, Nat.pow_add]
    exact Nat.mul_le_mul_right _ h2
theorem luQ.mono {L U L' U' : Nat} {x : Rat} (h : luQ L U x) (hl : L ≤ L') (hu : U ≤ U') : luQ L' U' x := (h.down hl).up hu
def luI (L U : Nat) (a : Ivl) : Prop := rightI a = true ∧ luQ L U (qN a.lo) ∧ luQ L U (qN a.hi)
theorem luI.mono {L U L' U' : Nat} {a : Ivl} (h : luI L U a) (hl : L ≤ L') (hu : U ≤ U') : luI L' U' a := ⟨h.1, h.2.1.mono hl hu, h.2.2.mono hl hu⟩
end Go.Pv
end

section
/- Sums of products of small intervals: none fails, and what is in them. No program in it. -/
namespace Go.Pv
def dotQ (X Y : Nat → Rat) : Nat → Rat
  | 0 => 0
  | n + 1 => dotQ X Y n + X n * Y n
def dotV (x y : Nat → Nm) : Nat → Vl
  | 0 => ⟨false, 0, 0⟩
  | n + 1 => plusV (dotV x y n) (byV (ofN (x n)) (ofN (y n)))
def withinV (v w : Vl) (a : Ivl) : Bool := decide (orderV (byV (ofN a.lo) w) v ≤ 0) && decide (orderV v (byV (ofN a.hi) w) ≤ 0)
def oneV : Vl := oddV false 1 0
theorem qV_one : qV oneV = 1 := by
  unfold oneV
  rw [qV_whole]; rfl
end Go.Pv
end
