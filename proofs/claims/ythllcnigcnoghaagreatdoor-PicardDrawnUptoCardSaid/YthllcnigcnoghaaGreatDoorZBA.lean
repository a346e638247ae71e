/- Parts of the walk: M39, M40. -/
import Derived.Test.YthllcnigcnoghaaGreatDoorZAQ
import Derived.Test.YthllcnigcnoghaaGreatDoorZAR
import Derived.Test.YthllcnigcnoghaaGreatDoorZAW
set_option linter.unusedVariables false
set_option linter.unusedSimpArgs false
section
/- How far down and how far up a value goes: sums, products, rounding, and what fits. No program in it. -/
namespace Go.Pv
def luQ (L U : Nat) (x : Rat) : Prop := ∃ z : Int, x = qM z (-(L : Int)) ∧ z.natAbs ≤ 2 ^ (L + U)
theorem luQ_zero (L U : Nat) : luQ L U 0 := ⟨0, (qM_zero _).symm, Nat.zero_le _⟩
theorem luQ.up {L U U' : Nat} {x : Rat} (h : luQ L U x) (hu : U ≤ U') : luQ L U' x := by
  obtain ⟨z, h1, h2⟩ := h
  exact ⟨z, h1, Nat.le_trans h2 (Nat.pow_le_pow_right (by omega) (by omega))⟩
theorem luQ.down {L L' U : Nat} {x : Rat} (h : luQ L U x) (hl : L ≤ L') : luQ L' U x := by
  obtain ⟨z, h1, h2⟩ := h
  refine ⟨z * 2 ^ (L' - L), ?_, ?_⟩
  · rw [qM_pow, h1]; congr 1; omega
  · have e : (z * 2 ^ (L' - L)).natAbs = z.natAbs * 2 ^ (L' - L) := by rw [Int.natAbs_mul, Int.natAbs_pow]; rfl
    rw [e, show L' + U = (L + U) + (L' - L) from by omega, Nat.pow_add]
    exact Nat.mul_le_mul_right _ h2
theorem luQ.mono {L U L' U' : Nat} {x : Rat} (h : luQ L U x) (hl : L ≤ L') (hu : U ≤ U') : luQ L' U' x := (h.down hl).up hu
theorem luQ_add {L U : Nat} {x y : Rat} (hx : luQ L U x) (hy : luQ L U y) : luQ L (U + 1) (x + y) := by
  obtain ⟨z, h1, h2⟩ := hx
  obtain ⟨w, h3, h4⟩ := hy
  refine ⟨z + w, by rw [qM_add, h1, h3], ?_⟩
  have := Int.natAbs_add_le z w
  rw [show L + (U + 1) = (L + U) + 1 from by omega, Nat.pow_succ]; omega
theorem luQ_mul {L U L' U' : Nat} {x y : Rat} (hx : luQ L U x) (hy : luQ L' U' y) : luQ (L + L') (U + U') (x * y) := by
  obtain ⟨z, h1, h2⟩ := hx
  obtain ⟨w, h3, h4⟩ := hy
  refine ⟨z * w, ?_, ?_⟩
  · rw [show (-((L + L' : Nat) : Int)) = -(L : Int) + -(L' : Int) from by omega, qM_mul, h1, h3]
  · rw [Int.natAbs_mul, show L + L' + (U + U') = (L + U) + (L' + U') from by omega, Nat.pow_add]
    exact Nat.mul_le_mul h2 h4
theorem mant_nat (v : Vl) : (mantV v).natAbs = v.m := by unfold mantV; split <;> simp
theorem luQ_bd {n k : Nat} {v : Vl} (h : bdV n k v) : luQ k (n + k) (qV v) := by
  obtain ⟨h1, h2, h3⟩ := h
  have hm := bitlen_le_iff.1 h1
  refine ⟨mantV v * 2 ^ (v.e + k).toNat, ?_, ?_⟩
  · rw [qM_pow]
    unfold qV
    congr 1; omega
  · have e : (mantV v * 2 ^ (v.e + k).toNat).natAbs = v.m * 2 ^ (v.e + k).toNat := by rw [Int.natAbs_mul, Int.natAbs_pow, mant_nat]; rfl
    rw [e, show k + (n + k) = n + 2 * k from by omega, Nat.pow_add]
    exact Nat.mul_le_mul (Nat.le_of_lt hm) (Nat.pow_le_pow_right (by omega) (by omega))
theorem luV_bits {L U : Nat} {v : Vl} (hc : canV v) (h : luQ L U (qV v)) : v.m = 0 ∨ (-(L : Int) ≤ v.e ∧ v.e + (bitlen v.m : Int) ≤ (U : Int) + 1) := by
  rcases hc with hm | rfl
  rotate_left
  · exact .inl rfl
  refine .inr ?_
  obtain ⟨z, h1, h2⟩ := h
  have hz : mantV v ≠ 0 := fun e => by have := mant_nat v; rw [e] at this; simp at this; omega
  have hge : -(L : Int) ≤ v.e := by
    apply Int.not_lt.1
    intro hlt
    obtain ⟨d, hd⟩ : ∃ d : Nat, -(L : Int) = v.e + ((d + 1 : Nat) : Int) := ⟨(-(L : Int) - v.e - 1).toNat, by omega⟩
    have e1 : qM z (-(L : Int)) = qM (z * 2 ^ (d + 1)) v.e := by rw [qM_pow, hd]
    have e2 : mantV v = z * 2 ^ (d + 1) := qM_eq.1 (h1.trans e1)
    have e3 : v.m = z.natAbs * 2 ^ d * 2 := by
      have := mant_nat v
      rw [e2, Int.natAbs_mul, Int.natAbs_pow, Nat.pow_succ] at this
      rw [← this, Nat.mul_assoc]; rfl
    omega
  refine ⟨hge, ?_⟩
  have e1 : mantV v * 2 ^ (v.e + L).toNat = z := by
    have : qM (mantV v * 2 ^ (v.e + L).toNat) (-(L : Int)) = qM z (-(L : Int)) := by
      rw [qM_pow, ← h1]; unfold qV; congr 1; omega
    exact qM_eq.1 this
  have e2 : v.m * 2 ^ (v.e + L).toNat ≤ 2 ^ (L + U) := by
    have : (mantV v * 2 ^ (v.e + L).toNat).natAbs = v.m * 2 ^ (v.e + L).toNat := by rw [Int.natAbs_mul, Int.natAbs_pow, mant_nat]; rfl
    rw [← this, e1]; exact h2
  have e3 : bitlen (v.m * 2 ^ (v.e + L).toNat) ≤ L + U + 1 := bitlen_le_iff.2 (Nat.lt_of_le_of_lt e2 (Nat.pow_lt_pow_right (by omega) (by omega)))
  rw [bitlen_mul_pow _ _ (by omega)] at e3
  omega
theorem luV_bd {L U : Nat} {v : Vl} (hc : canV v) (h : luQ L U (qV v)) : bdV (L + U + 1) (L + U + 1) v := by
  rcases luV_bits hc h with h0 | ⟨h1, h2⟩
  · rcases hc with hm | rfl
    · omega
    · refine ⟨?_, ?_, ?_⟩
      · show bitlen 0 ≤ _; rw [bitlen_zero]; omega
      · show -((L + U + 1 : Nat) : Int) ≤ 0; omega
      · show (0 : Int) ≤ ((L + U + 1 : Nat) : Int); omega
  · exact ⟨by omega, by omega, by omega⟩
theorem luV_fits {L U : Nat} {v : Vl} (hc : canV v) (h : luQ L U (qV v)) (hb : L + U + 1 ≤ 4096) : (numV v).2 = 0 := numV_fits (luV_bd hc h) hb (by omega)
def luI (L U : Nat) (a : Ivl) : Prop := rightI a = true ∧ luQ L U (qN a.lo) ∧ luQ L U (qN a.hi)
theorem luI.mono {L U L' U' : Nat} {a : Ivl} (h : luI L U a) (hl : L ≤ L') (hu : U ≤ U') : luI L' U' a := ⟨h.1, h.2.1.mono hl hu, h.2.2.mono hl hu⟩
end Go.Pv
end

section
/- Sums of products of small intervals: none fails, and what is in them. No program in it. -/
namespace Go.Pv
def dotQ (X Y : Nat → Rat) : Nat → Rat
  | 0 => 0
  | n + 1 => dotQ X Y n + X n * Y n
def dotV (x y : Nat → Nm) : Nat → Vl
  | 0 => ⟨false, 0, 0⟩
  | n + 1 => plusV (dotV x y n) (byV (ofN (x n)) (ofN (y n)))
theorem qV_dot (x y : Nat → Nm) : ∀ n, qV (dotV x y n) = dotQ (fun k => qN (x k)) (fun k => qN (y k)) n
  | 0 => qV_m0 rfl
  | n + 1 => by rw [dotV, qV_plus, qV_by, qV_dot x y n]; rfl
theorem canV_dot {x y : Nat → Nm} : ∀ n, (∀ k, k < n → rightN (x k) = true ∧ rightN (y k) = true) → canV (dotV x y n)
  | 0, _ => .inr rfl
  | n + 1, h => canV_plus (canV_dot n fun k hk => h k (by omega)) (canV_by (canV_ofN (h n (by omega)).1) (canV_ofN (h n (by omega)).2))
theorem lu_dotQ {L U L' U' : Nat} {X Y : Nat → Rat} : ∀ n, (∀ k, k < n → luQ L U (X k) ∧ luQ L' U' (Y k)) → luQ (L + L') (U + U' + n) (dotQ X Y n)
  | 0, _ => luQ_zero _ _
  | n + 1, h => by
    have h1 := lu_dotQ n fun k hk => h k (by omega)
    have h2 := luQ_mul (h n (by omega)).1 (h n (by omega)).2
    exact luQ_add h1 (h2.up (show U + U' ≤ U + U' + n by omega))
def withinV (v w : Vl) (a : Ivl) : Bool := decide (orderV (byV (ofN a.lo) w) v ≤ 0) && decide (orderV v (byV (ofN a.hi) w) ≤ 0)
def oneV : Vl := oddV false 1 0
theorem qV_one : qV oneV = 1 := by
  unfold oneV
  rw [qV_whole]; rfl
end Go.Pv
end
