/- Parts of the walk: M39, M40. -/
import Derived.Test.YthllcnigcnoghaaGreatDoorZAQ
import Derived.Test.YthllcnigcnoghaaGreatDoorZAR
import Derived.Test.YthllcnigcnoghaaGreatDoorZAW
set_option linter.unusedVariables false
set_option linter.unusedSimpArgs false
section
/- How far down and how far up a value goes: sums, products, rounding, and what fits. No program in it. -/
namespace Go.Pv
def luQ (L U : Nat) (x : Rat) : Prop := ∃ z : Int, x = qM z (-(L : Int)) ∧ z.natAbs ≤ 2 ^ (L + U)
theorem luQ_zero (L U : Nat) : luQ L U 0 := ⟨0, (qM_zero _).symm, Nat.zero_le _⟩
theorem luQ.up {L U U' : Nat} {x : Rat} (h : luQ L U x) (hu : U ≤ U') : luQ L U' x := by
 obtain ⟨z, h1, h2⟩ := h
 exact ⟨z, h1, Nat.le_trans h2 (Nat.pow_le_pow_right (by omega) (by omega))⟩
theorem luQ.down {L L' U : Nat} {x : Rat} (h : luQ L U x) (hl : L ≤ L') : luQ L' U x := by
 obtain ⟨z, h1, h2⟩ := h
 refine ⟨z * 2 ^ (L' - L), ?_, ?_⟩
 · rw [qM_pow, h1]; congr 1; omega
 · have e : (z * 2 ^ (L' - L)).natAbs = z.natAbs * 2 ^ (L' - L) := by rw [Int.natAbs_mul, Int.natAbs_pow]; rfl
   rw [e, show L' + U = (L + U) + (L' - L) from by omega, Nat.pow_add]
   exact Nat.mul_le_mul_right _ h2
theorem luQ.mono {L U L' U' : Nat} {x : Rat} (h : luQ L U x) (hl : L ≤ L') (hu : U ≤ U') : luQ L' U' x := (h.down hl).up hu
theorem luQ_neg {L U : Nat} {x : Rat} (h : luQ L U x) : luQ L U (-x) := by
 obtain ⟨z, h1, h2⟩ := h
 exact ⟨-z, by rw [qM_neg, h1], by rw [Int.natAbs_neg]; exact h2⟩
theorem luQ_add {L U : Nat} {x y : Rat} (hx : luQ L U x) (hy : luQ L U y) : luQ L (U + 1) (x + y) := by
 obtain ⟨z, h1, h2⟩ := hx
 obtain ⟨w, h3, h4⟩ := hy
 refine ⟨z + w, by rw [qM_add, h1, h3], ?_⟩
 have := Int.natAbs_add_le z w
 rw [show L + (U + 1) = (L + U) + 1 from by omega, Nat.pow_succ]; omega
theorem luQ_sub {L U : Nat} {x y : Rat} (hx : luQ L U x) (hy : luQ L U y) : luQ L (U + 1) (x - y) := by
 have := luQ_add hx (luQ_neg hy)
 rwa [← Rat.sub_eq_add_neg] at this
theorem luQ_mul {L U L' U' : Nat} {x y : Rat} (hx : luQ L U x) (hy : luQ L' U' y) : luQ (L + L') (U + U') (x * y) := by
 obtain ⟨z, h1, h2⟩ := hx
 obtain ⟨w, h3, h4⟩ := hy
 refine ⟨z * w, ?_, ?_⟩
 · rw [show (-((L + L' : Nat) : Int)) = -(L : Int) + -(L' : Int) from by omega, qM_mul, h1, h3]
 · rw [Int.natAbs_mul, show L + L' + (U + U') = (L + U) + (L' + U') from by omega, Nat.pow_add]
   exact Nat.mul_le_mul h2 h4
theorem mant_nat (v : Vl) : (mantV v).natAbs = v.m := by unfold mantV; split <;> simp
theorem luQ_bd {n k : Nat} {v : Vl} (h : bdV n k v) : luQ k (n + k) (qV v) := by
 obtain ⟨h1, h2, h3⟩ := h
 have hm := bitlen_le_iff.1 h1
 refine ⟨mantV v * 2 ^ (v.e + k).toNat, ?_, ?_⟩
 · rw [qM_pow]
   unfold qV
   congr 1; omega
 · have e : (mantV v * 2 ^ (v.e + k).toNat).natAbs = v.m * 2 ^ (v.e + k).toNat := by rw [Int.natAbs_mul, Int.natAbs_pow, mant_nat]; rfl
   rw [e, show k + (n + k) = n + 2 * k from by omega, Nat.pow_add]
   exact Nat.mul_le_mul (Nat.le_of_lt hm) (Nat.pow_le_pow_right (by omega) (by omega))
theorem luQ_int {z : Int} {n : Nat} (h : z.natAbs ≤ 2 ^ n) (L : Nat) : luQ L n (qM z 0) := by
 have : luQ 0 n (qM z 0) := ⟨z, rfl, by rw [Nat.zero_add]; exact h⟩
 exact this.down (Nat.zero_le _)
theorem luV_bits {L U : Nat} {v : Vl} (hc : canV v) (h : luQ L U (qV v)) : v.m = 0 ∨ (-(L : Int) ≤ v.e ∧ v.e + (bitlen v.m : Int) ≤ (U : Int) + 1) := by
 rcases hc with hm | rfl
 rotate_left
 · exact .inl rfl
 refine .inr ?_
 obtain ⟨z, h1, h2⟩ := h
 have hz : mantV v ≠ 0 := fun e => by have := mant_nat v; rw [e] at this; simp at this; omega
 have hge : -(L : Int) ≤ v.e := by
  apply Int.not_lt.1
  intro hlt
  obtain ⟨d, hd⟩ : ∃ d : Nat, -(L : Int) = v.e + ((d + 1 : Nat) : Int) := ⟨(-(L : Int) - v.e - 1).toNat, by omega⟩
  have e1 : qM z (-(L : Int)) = qM (z * 2 ^ (d + 1)) v.e := by rw [qM_pow, hd]
  have e2 : mantV v = z * 2 ^ (d + 1) := qM_eq.1 (h1.trans e1)
  have e3 : v.m = z.natAbs * 2 ^ d * 2 := by
   have := mant_nat v
   rw [e2, Int.natAbs_mul, Int.natAbs_pow, Nat.pow_succ] at this
   rw [← this, Nat.mul_assoc]; rfl
  omega
 refine ⟨hge, ?_⟩
 have e1 : mantV v * 2 ^ (v.e + L).toNat = z := by
  have : qM (mantV v * 2 ^ (v.e + L).toNat) (-(L : Int)) = qM z (-(L : Int)) := by
   rw [qM_pow, ← h1]; unfold qV; congr 1; omega
  exact qM_eq.1 this
 have e2 : v.m * 2 ^ (v.e + L).toNat ≤ 2 ^ (L + U) := by
  have : (mantV v * 2 ^ (v.e + L).toNat).natAbs = v.m * 2 ^ (v.e + L).toNat := by rw [Int.natAbs_mul, Int.natAbs_pow, mant_nat]; rfl
  rw [← this, e1]; exact h2
 have e3 : bitlen (v.m * 2 ^ (v.e + L).toNat) ≤ L + U + 1 := bitlen_le_iff.2 (Nat.lt_of_le_of_lt e2 (Nat.pow_lt_pow_right (by omega) (by omega)))
 rw [bitlen_mul_pow _ _ (by omega)] at e3
 omega
theorem luV_bd {L U : Nat} {v : Vl} (hc : canV v) (h : luQ L U (qV v)) : bdV (L + U + 1) (L + U + 1) v := by
 rcases luV_bits hc h with h0 | ⟨h1, h2⟩
 · rcases hc with hm | rfl
   · omega
   · refine ⟨?_, ?_, ?_⟩
     · show bitlen 0 ≤ _; rw [bitlen_zero]; omega
     · show -((L + U + 1 : Nat) : Int) ≤ 0; omega
     · show (0 : Int) ≤ ((L + U + 1 : Nat) : Int); omega
 · exact ⟨by omega, by omega, by omega⟩
theorem luV_fits {L U : Nat} {v : Vl} (hc : canV v) (h : luQ L U (qV v)) (hb : L + U + 1 ≤ 4096) : (numV v).2 = 0 := numV_fits (luV_bd hc h) hb (by omega)
theorem pow_bitlen_le {m : Nat} (h : m ≠ 0) : 2 ^ (bitlen m - 1) ≤ m := by
 apply Nat.le_of_not_lt
 intro hlt
 have := bitlen_le_iff.2 hlt
 have := bitlen_pos h
 omega
theorem luV_round {L U : Nat} {v : Vl} (hc : canV v) (h : luQ L U (qV v)) (p : Nat) (hp : 1 ≤ p) (up : Bool) : luQ L (U + 1) (qV (roundV v p up)) := by
 unfold roundV
 split
 · exact h.up (by omega)
 · rename_i hlt
   have h0 : v.m ≠ 0 := fun e => by rw [e, bitlen_zero] at hlt; omega
   rcases luV_bits hc h with h1 | ⟨h1, h2⟩
   · exact absurd h1 h0
   obtain ⟨z, hz1, hz2⟩ := h
   have e1 : mantV v * 2 ^ (v.e + L).toNat = z := by
    have : qM (mantV v * 2 ^ (v.e + L).toNat) (-(L : Int)) = qM z (-(L : Int)) := by
     rw [qM_pow, ← hz1]; unfold qV; congr 1; omega
    exact qM_eq.1 this
   have e2 : v.m * 2 ^ (v.e + L).toNat ≤ 2 ^ (L + U) := by
    have : (mantV v * 2 ^ (v.e + L).toNat).natAbs = v.m * 2 ^ (v.e + L).toNat := by rw [Int.natAbs_mul, Int.natAbs_pow, mant_nat]; rfl
    rw [← this, e1]; exact hz2
   rw [qV_odd, round_unit]
   generalize hd : bitlen v.m - p = d at *
   generalize hc' : (if v.m % 2 ^ d ≠ 0 ∧ up ≠ v.neg then 1 else 0) = c
   have hcl : c ≤ 1 := by rw [← hc']; split <;> omega
   have hb1 : (v.m / 2 ^ d + c) * 2 ^ d ≤ 2 * v.m := by
    have a1 := Nat.div_mul_le_self v.m (2 ^ d)
    have a2 : 2 ^ d ≤ v.m := Nat.le_trans (Nat.pow_le_pow_right (by omega) (by omega)) (pow_bitlen_le h0)
    have a3 : c * 2 ^ d ≤ 2 ^ d := by
     have := Nat.mul_le_mul_right (2 ^ d) hcl
     omega
    rw [Nat.add_mul]; omega
   refine ⟨(if v.neg then -(((v.m / 2 ^ d + c) * 2 ^ d : Nat) : Int) else (((v.m / 2 ^ d + c) * 2 ^ d : Nat) : Int)) * 2 ^ (v.e + L).toNat, ?_, ?_⟩
   · rw [qM_pow]; congr 1; omega
   · have e3 : ((if v.neg then -(((v.m / 2 ^ d + c) * 2 ^ d : Nat) : Int) else (((v.m / 2 ^ d + c) * 2 ^ d : Nat) : Int)) * 2 ^ (v.e + L).toNat).natAbs = (v.m / 2 ^ d + c) * 2 ^ d * 2 ^ (v.e + L).toNat := by
      rw [Int.natAbs_mul, Int.natAbs_pow]
      generalize (v.m / 2 ^ d + c) * 2 ^ d = M
      split
      · rw [Int.natAbs_neg]; rfl
      · rfl
     rw [e3, show L + (U + 1) = (L + U) + 1 from by omega, Nat.pow_succ]
     have := Nat.mul_le_mul_right (2 ^ (v.e + L).toNat) hb1
     rw [Nat.mul_assoc 2] at this
     omega
def luI (L U : Nat) (a : Ivl) : Prop := rightI a = true ∧ luQ L U (qN a.lo) ∧ luQ L U (qN a.hi)
theorem luI.mono {L U L' U' : Nat} {a : Ivl} (h : luI L U a) (hl : L ≤ L') (hu : U ≤ U') : luI L' U' a := ⟨h.1, h.2.1.mono hl hu, h.2.2.mono hl hu⟩
theorem luI_zero (L U : Nat) : luI L U default := by
 have e : qN (default : Ivl).lo = 0 := qM_zero 0
 have e2 : qN (default : Ivl).hi = 0 := qM_zero 0
 exact ⟨by decide, by rw [e]; exact luQ_zero _ _, by rw [e2]; exact luQ_zero _ _⟩
theorem smI_lu {a : Ivl} (h : smI a) : luI 12 18 a := ⟨h.1, luQ_bd h.2.1, luQ_bd h.2.2⟩
theorem precF_pos {p : Int} (h : precF p = true) : 1 ≤ p.toNat := by
 unfold precF at h
 simp only [Bool.and_eq_true, decide_eq_true_eq] at h
 omega
theorem endsV_lu {L U : Nat} {lo hi : Vl} (h1 : canV lo) (h2 : canV hi) (q1 : luQ L U (qV lo)) (q2 : luQ L U (qV hi)) (hb : L + U + 1 ≤ 4096) (hle : qV lo ≤ qV hi) : (endsV lo hi).2 = 0 ∧ luI L U (endsV lo hi).1 := by
 have f1 := luV_fits h1 q1 hb
 have f2 := luV_fits h2 q2 hb
 have hr := endsV_right h1 h2 hle
 unfold endsV at hr ⊢
 rw [if_pos ⟨f1, f2⟩] at hr ⊢
 refine ⟨rfl, hr, ?_, ?_⟩
 · rw [(numV_val h1 f1).2]; exact q1
 · rw [(numV_val h2 f2).2]; exact q2
theorem lu_least {L U L' U' : Nat} {x y u v : Vl} (hx : luQ L U (qV x)) (hy : luQ L U (qV y)) (hu : luQ L' U' (qV u)) (hv : luQ L' U' (qV v)) : luQ (L + L') (U + U') (qV (leastV x y u v)) := by
 rcases leastV_one x y u v with h | h | h | h
 all_goals rw [h, qV_by]; exact luQ_mul (by assumption) (by assumption)
theorem lu_great {L U L' U' : Nat} {x y u v : Vl} (hx : luQ L U (qV x)) (hy : luQ L U (qV y)) (hu : luQ L' U' (qV u)) (hv : luQ L' U' (qV v)) : luQ (L + L') (U + U') (qV (greatV x y u v)) := by
 rcases greatV_one x y u v with h | h | h | h
 all_goals rw [h]; exact luQ_mul (by assumption) (by assumption)
theorem opI_lu {k L U : Nat} {a b : Ivl} {p : Int} (hk : k < 2) (ha : luI L U a) (hb : luI L U b) (hp : precF p = true) (hbd : L + U + 3 ≤ 4096) : (opI k a b p).2 = 0 ∧ luI L (U + 2) (opI k a b p).1 := by
 have ca := canI ha.1
 have cb := canI hb.1
 have pp := precF_pos hp
 have hlo : luQ L (U + 1) (qV (loV k (ofN a.lo) (ofN a.hi) (ofN b.lo) (ofN b.hi))) := by
  unfold loV
  split
  · rw [qV_plus]; exact luQ_add ha.2.1 hb.2.1
  · rw [if_pos (by omega), qV_less]; exact luQ_sub ha.2.1 hb.2.2
 have hhi : luQ L (U + 1) (qV (hiV k (ofN a.lo) (ofN a.hi) (ofN b.lo) (ofN b.hi))) := by
  unfold hiV
  split
  · rw [qV_plus]; exact luQ_add ha.2.2 hb.2.2
  · rw [if_pos (by omega), qV_less]; exact luQ_sub ha.2.2 hb.2.1
 have c1 := canV_lo k ca.1 ca.2 cb.1 cb.2
 have c2 := canV_hi k ca.1 ca.2 cb.1 cb.2
 unfold opI
 rw [if_pos ⟨ha.1, hb.1, hp⟩]
 exact endsV_lu (canV_round c1 _ _) (canV_round c2 _ _) (luV_round c1 hlo _ pp _) (luV_round c2 hhi _ pp _) (by omega) (lo_hi k ha.1 hb.1 _)
theorem opI_lu2 {L U L' U' : Nat} {a b : Ivl} {p : Int} (ha : luI L U a) (hb : luI L' U' b) (hp : precF p = true) (hbd : L + L' + U + U' + 2 ≤ 4096) : (opI 2 a b p).2 = 0 ∧ luI (L + L') (U + U' + 1) (opI 2 a b p).1 := by
 have ca := canI ha.1
 have cb := canI hb.1
 have pp := precF_pos hp
 have hlo : luQ (L + L') (U + U') (qV (loV 2 (ofN a.lo) (ofN a.hi) (ofN b.lo) (ofN b.hi))) := lu_least ha.2.1 ha.2.2 hb.2.1 hb.2.2
 have hhi : luQ (L + L') (U + U') (qV (hiV 2 (ofN a.lo) (ofN a.hi) (ofN b.lo) (ofN b.hi))) := lu_great ha.2.1 ha.2.2 hb.2.1 hb.2.2
 have c1 := canV_lo 2 ca.1 ca.2 cb.1 cb.2
 have c2 := canV_hi 2 ca.1 ca.2 cb.1 cb.2
 unfold opI
 rw [if_pos ⟨ha.1, hb.1, hp⟩]
 exact endsV_lu (canV_round c1 _ _) (canV_round c2 _ _) (luV_round c1 hlo _ pp _) (luV_round c2 hhi _ pp _) (by omega) (lo_hi 2 ha.1 hb.1 _)
end Go.Pv
end

section
/- Sums of products of small intervals: none fails, and what is in them. No program in it. -/
namespace Go.Pv
def dotQ (X Y : Nat → Rat) : Nat → Rat
 | 0 => 0
 | n + 1 => dotQ X Y n + X n * Y n
def dotV (x y : Nat → Nm) : Nat → Vl
 | 0 => ⟨false, 0, 0⟩
 | n + 1 => plusV (dotV x y n) (byV (ofN (x n)) (ofN (y n)))
theorem qV_dot (x y : Nat → Nm) : ∀ n, qV (dotV x y n) = dotQ (fun k => qN (x k)) (fun k => qN (y k)) n
 | 0 => qV_m0 rfl
 | n + 1 => by rw [dotV, qV_plus, qV_by, qV_dot x y n]; rfl
theorem canV_dot {x y : Nat → Nm} : ∀ n, (∀ k, k < n → rightN (x k) = true ∧ rightN (y k) = true) → canV (dotV x y n)
 | 0, _ => .inr rfl
 | n + 1, h => canV_plus (canV_dot n fun k hk => h k (by omega)) (canV_by (canV_ofN (h n (by omega)).1) (canV_ofN (h n (by omega)).2))
theorem lu_dotQ {L U L' U' : Nat} {X Y : Nat → Rat} : ∀ n, (∀ k, k < n → luQ L U (X k) ∧ luQ L' U' (Y k)) → luQ (L + L') (U + U' + n) (dotQ X Y n)
 | 0, _ => luQ_zero _ _
 | n + 1, h => by
  have h1 := lu_dotQ n fun k hk => h k (by omega)
  have h2 := luQ_mul (h n (by omega)).1 (h n (by omega)).2
  exact luQ_add h1 (h2.up (show U + U' ≤ U + U' + n by omega))
def withinV (v w : Vl) (a : Ivl) : Bool := decide (orderV (byV (ofN a.lo) w) v ≤ 0) && decide (orderV v (byV (ofN a.hi) w) ≤ 0)
def oneV : Vl := oddV false 1 0
theorem qV_one : qV oneV = 1 := by
 unfold oneV
 rw [qV_whole]; rfl
end Go.Pv
end
