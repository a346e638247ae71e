/- Parts of the walk: M23, M24, M25, M26, M27, M28, M29, M30, M31, M32, M33. -/
import Derived.Test.YthllcnigcnoghaaGreatDoorZL
set_option linter.unusedVariables false
set_option linter.unusedSimpArgs false
section
/- Exact values and their rounding: what numbers that are not in one form stand for. No program in it. -/
namespace Go.Pv
def ofX (x : Nm) : Vl := oddV x.neg (valW x.w) x.exp
def roundV (v : Vl) (p : Nat) (up : Bool) : Vl :=
 if bitlen v.m ≤ p then v else
  oddV v.neg (v.m / 2 ^ (bitlen v.m - p) + (if v.m % 2 ^ (bitlen v.m - p) ≠ 0 ∧ up ≠ v.neg then 1 else 0)) (v.e + ((bitlen v.m - p : Nat) : Int))
theorem oddV_zero (neg : Bool) (e : Int) : oddV neg 0 e = ⟨false, 0, 0⟩ := by rw [oddV, if_pos rfl]
theorem oddV_pow (neg : Bool) (m k : Nat) (e : Int) : oddV neg (m * 2 ^ k) e = oddV neg m (e + k) := by
 by_cases h : m = 0
 · subst h; rw [Nat.zero_mul, oddV_zero, oddV_zero]
 · have hp : m * 2 ^ k ≠ 0 := Nat.mul_ne_zero h (Nat.ne_of_gt (Nat.two_pow_pos k))
   obtain ⟨q, hq, hm⟩ := tz_spec m h
   have hmk : m * 2 ^ k = 2 ^ (tz m + k) * q := by
    conv => lhs; rw [hm]
    rw [Nat.pow_add, Nat.mul_right_comm]
   have ht : tz (m * 2 ^ k) = tz m + k := by rw [hmk, tz_mul _ _ hq]
   unfold oddV
   rw [if_neg h, if_neg hp, ht]
   have e1 : m * 2 ^ k / 2 ^ (tz m + k) = m / 2 ^ tz m := by
    rw [hmk, Nat.mul_div_cancel_left _ (Nat.two_pow_pos _)]
    conv => rhs; rw [hm]
    rw [tz_mul _ _ hq, Nat.mul_div_cancel_left _ (Nat.two_pow_pos _)]
   rw [e1]
   congr 1
   omega
theorem oddV_odd (neg : Bool) (m : Nat) (e : Int) (h : m % 2 = 1) : oddV neg m e = ⟨neg, m, e⟩ := by
 rw [oddV, if_neg (by omega), tz_odd h]; simp
theorem pow_div2 (z D q : Nat) (h : D ≤ z) : 2 ^ z * q / 2 ^ D = q * 2 ^ (z - D) := by
 obtain ⟨k, rfl⟩ : ∃ k, z = D + k := ⟨z - D, by omega⟩
 rw [Nat.add_sub_cancel_left, Nat.pow_add, Nat.mul_assoc, Nat.mul_div_cancel_left _ (Nat.two_pow_pos _), Nat.mul_comm]
theorem ofN_ofX {x : Nm} (h : rightN x = true) : ofX x = ofN x := by
 rcases okV_ofN h with h1 | h1
 · exact oddV_odd _ _ _ h1
 · have h0 : valW x.w = 0 := h1
   have hw : x.w = [] := by
    refine Classical.byContradiction fun hw => ?_
    have h2 := h
    unfold rightN at h2
    rw [if_neg hw] at h2
    simp only [Bool.and_eq_true, decide_eq_true_eq] at h2
    have h3 := valW_mod2 x.w
    omega
   have h2 := h
   unfold rightN at h2
   rw [if_pos hw] at h2
   simp at h2
   unfold ofX ofN
   rw [h0, oddV_zero, h2.1, h2.2]
theorem round_form (neg : Bool) (m : Nat) (e : Int) (p : Nat) (up : Bool) (hp : 0 < p) : roundV (oddV neg m e) p up =
  if bitlen m ≤ p then oddV neg m e else oddV neg (m / 2 ^ (bitlen m - p) + (if tz m < bitlen m - p ∧ up ≠ neg then 1 else 0)) (e + ((bitlen m - p : Nat) : Int)) := by
 by_cases h0 : m = 0
 · subst h0
   rw [if_pos (by rw [bitlen_zero]; omega), oddV_zero, roundV, if_pos (by show bitlen 0 ≤ p; rw [bitlen_zero]; omega)]
 obtain ⟨q, hq, hm⟩ := tz_spec m h0
 have hq0 : q ≠ 0 := by omega
 have e1 : oddV neg m e = ⟨neg, q, e + tz m⟩ := by
  have : oddV neg (q * 2 ^ tz m) e = oddV neg q (e + tz m) := oddV_pow neg q (tz m) e
  rw [Nat.mul_comm, ← hm] at this
  rw [this, oddV_odd _ _ _ hq]
 have hb : bitlen m = bitlen q + tz m := by
  have := bitlen_mul_pow q (tz m) hq0
  rw [Nat.mul_comm, ← hm] at this
  exact this
 rw [e1]
 unfold roundV
 simp only
 by_cases h1 : bitlen q ≤ p
 · rw [if_pos h1]
   by_cases h2 : bitlen m ≤ p
   · rw [if_pos h2]
   · rw [if_neg h2, if_neg (by omega), Nat.add_zero]
     have hdiv : m / 2 ^ (bitlen m - p) = q * 2 ^ (tz m - (bitlen m - p)) := by
      have h := pow_div2 (tz m) (bitlen m - p) q (by omega)
      rw [← hm] at h; exact h
     rw [hdiv, oddV_pow, oddV_odd _ _ _ hq]
     congr 1
     omega
 · rw [if_neg h1, if_neg (show ¬bitlen m ≤ p by omega)]
   have hd : bitlen m - p = tz m + (bitlen q - p) := by omega
   have hdiv : m / 2 ^ (bitlen m - p) = q / 2 ^ (bitlen q - p) := by
    have h := Nat.mul_div_cancel_left q (Nat.two_pow_pos (tz m))
    rw [← hm] at h
    rw [hd, Nat.pow_add, ← Nat.div_div_eq_div_mul, h]
   have hodd : q % 2 ^ (bitlen q - p) ≠ 0 := by
    intro h
    have hdv : 2 ∣ q := Nat.dvd_trans ⟨2 ^ (bitlen q - p - 1), by rw [← Nat.pow_succ']; congr 1; omega⟩ (Nat.dvd_of_mod_eq_zero h)
    omega
   rw [hdiv]
   have hc : (q % 2 ^ (bitlen q - p) ≠ 0 ∧ up ≠ neg) ↔ (tz m < bitlen m - p ∧ up ≠ neg) := ⟨fun h => ⟨by omega, h.2⟩, fun h => ⟨hodd, h.2⟩⟩
   by_cases hh : tz m < bitlen m - p ∧ up ≠ neg
   · rw [if_pos hh, if_pos (hc.2 hh)]
     congr 1
     omega
   · rw [if_neg hh, if_neg (fun h => hh (hc.1 h))]
     congr 1
     omega
end Go.Pv
end

section
/- Exact sums and products, whatever form the numbers have. No program in it. -/
namespace Go.Pv
theorem mkV_odd (neg : Bool) (m : Nat) (e : Int) : oddV neg m e = mkV (if neg then -(m : Int) else (m : Int)) e := by
 by_cases h : m = 0
 · subst h
   rw [oddV_zero]
   unfold mkV
   cases neg <;> simp [oddV_zero]
 · unfold mkV
   cases neg
   · show oddV false m e = oddV (decide ((m : Int) < 0)) (m : Int).natAbs e
     rw [decide_eq_false (by omega), Int.natAbs_natCast]
   · show oddV true m e = oddV (decide (-(m : Int) < 0)) (-(m : Int)).natAbs e
     rw [decide_eq_true (by omega), Int.natAbs_neg, Int.natAbs_natCast]
theorem ofX_mk (x : Nm) : ofX x = mkV (mant x) x.exp := by rw [ofX, mkV_odd]; rfl
theorem mkV_pow (s : Int) (k : Nat) (e : Int) : mkV (s * 2 ^ k) e = mkV s (e + k) := by
 unfold mkV
 have h1 : (s * 2 ^ k).natAbs = s.natAbs * 2 ^ k := by
  rw [Int.natAbs_mul, Int.natAbs_pow]; rfl
 have h2 : decide (s * 2 ^ k < 0) = decide (s < 0) := by
  have hp := two_pow_pos k
  by_cases h : s < 0
  · rw [decide_eq_true h, decide_eq_true (Int.mul_neg_of_neg_of_pos h hp)]
  · rw [decide_eq_false h, decide_eq_false (Int.not_lt.2 (Int.mul_nonneg (Int.not_lt.1 h) (Int.le_of_lt hp)))]
 rw [h1, h2, oddV_pow]
theorem mkV_parts (s e : Int) (h : s ≠ 0) : ∃ k : Nat, mantV (mkV s e) * 2 ^ k = s ∧ (mkV s e).e = e + k ∧ (mkV s e).m ≠ 0 := by
 have h0 : s.natAbs ≠ 0 := by omega
 refine ⟨tz s.natAbs, ?_, ?_, ?_⟩
 · unfold mkV oddV mantV
   rw [if_neg h0]
   simp only
   have h1 := tz_div_mul s.natAbs
   by_cases hs : s < 0
   · rw [decide_eq_true hs, if_pos rfl, Int.neg_mul]
     have : ((s.natAbs / 2 ^ tz s.natAbs : Nat) : Int) * 2 ^ tz s.natAbs = (s.natAbs : Int) := by
      rw [show ((2 : Int) ^ tz s.natAbs) = ((2 ^ tz s.natAbs : Nat) : Int) from by simp, ← Int.natCast_mul, h1]
     rw [this]; omega
   · rw [decide_eq_false hs, if_neg (by simp)]
     have : ((s.natAbs / 2 ^ tz s.natAbs : Nat) : Int) * 2 ^ tz s.natAbs = (s.natAbs : Int) := by
      rw [show ((2 : Int) ^ tz s.natAbs) = ((2 ^ tz s.natAbs : Nat) : Int) from by simp, ← Int.natCast_mul, h1]
     rw [this]; omega
 · unfold mkV oddV; rw [if_neg h0]
 · unfold mkV oddV
   rw [if_neg h0]
   have := tz_odd_div s.natAbs h0
   simp only; omega
def byV (a b : Vl) : Vl := if a.m = 0 ∨ b.m = 0 then ⟨false, 0, 0⟩ else ⟨a.neg != b.neg, a.m * b.m, a.e + b.e⟩
theorem odd_mul {a b : Nat} (ha : a % 2 = 1) (hb : b % 2 = 1) : a * b % 2 = 1 := by rw [Nat.mul_mod, ha, hb]
end Go.Pv
end

section
/- The lowest set bit of a word, and how many noughts lie below it. No program in it. -/
namespace Go.Pv
theorem and_compl : ∀ (k a b : Nat), a + b + 1 = 2 ^ k → a &&& b = 0
 | 0, a, b, h => by
  have : a = 0 := by simp at h; omega
  subst this; exact Nat.zero_and b
 | k + 1, a, b, h => by
  have h2 : a + b + 1 = 2 * 2 ^ k := by rw [h, Nat.pow_succ, Nat.mul_comm]
  have ih := and_compl k (a / 2) (b / 2) (by omega)
  have hd : (a &&& b) / 2 = a / 2 &&& b / 2 := Nat.and_div_two
  have hm : (a &&& b) % 2 ≠ 1 := fun e => by have := Nat.and_mod_two_eq_one.1 e; omega
  omega
theorem low_bit : ∀ (n x : Nat), 0 < x → x < 2 ^ n → x &&& (2 ^ n - x) = 2 ^ tz x
 | 0, x, h, hl => by simp at hl; omega
 | n + 1, x, h, hl => by
  have hp : 2 ^ (n + 1) = 2 * 2 ^ n := by rw [Nat.pow_succ, Nat.mul_comm]
  have hd : (x &&& (2 ^ (n + 1) - x)) / 2 = x / 2 &&& (2 ^ (n + 1) - x) / 2 := Nat.and_div_two
  rcases Nat.mod_two_eq_zero_or_one x with e | e
  · have ih := low_bit n (x / 2) (by omega) (by omega)
    have h3 : (2 ^ (n + 1) - x) / 2 = 2 ^ n - x / 2 := by omega
    have hm : (x &&& (2 ^ (n + 1) - x)) % 2 ≠ 1 := fun e' => by have := Nat.and_mod_two_eq_one.1 e'; omega
    rw [h3, ih] at hd
    have hps : 2 ^ (tz (x / 2) + 1) = 2 ^ tz (x / 2) * 2 := Nat.pow_succ ..
    rw [tz_even (by omega) e]
    omega
  · have h4 := and_compl n (x / 2) ((2 ^ (n + 1) - x) / 2) (by omega)
    have hm : (x &&& (2 ^ (n + 1) - x)) % 2 = 1 := Nat.and_mod_two_eq_one.2 ⟨e, by omega⟩
    rw [h4] at hd
    rw [tz_odd e, Nat.pow_zero]; omega
theorem low_word (x : Nat) (h : 0 < x) (hl : x < 18446744073709551616) : x &&& (18446744073709551616 - x) = 2 ^ tz x := low_bit 64 x h hl
theorem tz_lt_64 (x : Nat) (h : 0 < x) (hl : x < 18446744073709551616) : tz x < 64 := by
 have h1 := tz_lt_bitlen x (by omega)
 have h2 := bitlen_le x hl
 omega
theorem tz_add (w r : Nat) (h : 0 < w) (hl : w < 18446744073709551616) : tz (w + 18446744073709551616 * r) = tz w := by
 obtain ⟨q, hq, hw⟩ := tz_spec w (by omega)
 have ht := tz_lt_64 w h hl
 have e : w + 18446744073709551616 * r = 2 ^ tz w * (q + 2 ^ (64 - tz w) * r) := by
  rw [Nat.mul_add, ← hw, ← Nat.mul_assoc, ← Nat.pow_add, show tz w + (64 - tz w) = 64 from by omega]
 have h2 : 2 ^ (64 - tz w) * r % 2 = 0 := by
  obtain ⟨k, hk⟩ : ∃ k, 64 - tz w = k + 1 := ⟨63 - tz w, by omega⟩
  rw [hk, Nat.pow_succ, Nat.mul_assoc, Nat.mul_left_comm]; exact Nat.mul_mod_right _ _
 rw [e, tz_mul _ _ (by omega)]
theorem valW_take_drop (l : List UInt64) (i : Nat) (h : i ≤ l.length) : valW l = valW (l.take i) + 18446744073709551616 ^ i * valW (l.drop i) := by
 conv => lhs; rw [← List.take_append_drop i l]
 rw [valW_append, List.length_take, Nat.min_eq_left h]
theorem valW_drop (l : List UInt64) (i : Nat) (h : i < l.length) : valW (l.drop i) = (l.getD i 0).toNat + 18446744073709551616 * valW (l.drop (i + 1)) := by
 rw [List.drop_eq_getElem_cons h]
 simp only [valW, nW, List.map_cons, val]
 rw [List.getD_eq_getElem?_getD, List.getElem?_eq_getElem h]; rfl
theorem valW_drop_ge (l : List UInt64) (i : Nat) (h : l.length ≤ i) : valW (l.drop i) = 0 := by
 rw [List.drop_eq_nil_of_le h]; rfl
theorem valW_drop' (l : List UInt64) (i : Nat) : valW (l.drop i) = (l.getD i 0).toNat + 18446744073709551616 * valW (l.drop (i + 1)) := by
 by_cases h : i < l.length
 · exact valW_drop l i h
 · rw [valW_drop_ge _ _ (by omega), valW_drop_ge _ _ (by omega), getD_ge _ _ _ (by omega)]; rfl
theorem divW_pow_drop (l : List UInt64) (i : Nat) (h : i ≤ l.length) : valW l / 18446744073709551616 ^ i = valW (l.drop i) := by
 have hl := valW_lt (l.take i)
 rw [List.length_take, Nat.min_eq_left h] at hl
 rw [valW_take_drop l i h, Nat.add_mul_div_left _ _ (Nat.pow_pos (by decide)), Nat.div_eq_of_lt hl, Nat.zero_add]
theorem tz_words (l : List UInt64) (i : Nat) (hi : i < l.length) (hz : valW (l.take i) = 0) (hn : (l.getD i 0).toNat ≠ 0) : tz (valW l) = 64 * i + tz (l.getD i 0).toNat := by
 rw [valW_take_drop l i (by omega), hz, Nat.zero_add, valW_drop l i hi, Nat.mul_comm, pow64, tz_shift _ _ (by omega), tz_add _ _ (by omega) (UInt64.toNat_lt _)]
 omega
theorem downW_digit (w0 w1 r s : Nat) (h0 : w0 < 18446744073709551616) (hs : s < 64) : (w0 + 18446744073709551616 * (w1 + 18446744073709551616 * r)) / 2 ^ s % 18446744073709551616 = w0 / 2 ^ s + w1 * 2 ^ (64 - s) % 18446744073709551616 := by
 have e : (18446744073709551616 : Nat) = 2 ^ s * 2 ^ (64 - s) := by rw [← Nat.pow_add, show s + (64 - s) = 64 from by omega]
 have h1 : (w0 + 18446744073709551616 * (w1 + 18446744073709551616 * r)) / 2 ^ s = w0 / 2 ^ s + 2 ^ (64 - s) * (w1 + 18446744073709551616 * r) := by
  conv => lhs; rw [show 18446744073709551616 * (w1 + 18446744073709551616 * r) = 2 ^ s * (2 ^ (64 - s) * (w1 + 18446744073709551616 * r)) from by rw [← Nat.mul_assoc, ← e]]
  rw [Nat.add_mul_div_left _ _ (Nat.two_pow_pos s)]
 have h2 : w0 / 2 ^ s < 2 ^ (64 - s) := Nat.div_lt_of_lt_mul (by rw [← e]; exact h0)
 have h3 : w1 * 2 ^ (64 - s) % 18446744073709551616 = 2 ^ (64 - s) * (w1 % 2 ^ s) := by
  conv => lhs; rw [Nat.mul_comm, e, Nat.mul_comm (2 ^ s), Nat.mul_mod_mul_left]
 have h4 : 2 ^ (64 - s) * (w1 % 2 ^ s) + 2 ^ (64 - s) ≤ 18446744073709551616 := by
  have h5 : w1 % 2 ^ s + 1 ≤ 2 ^ s := Nat.mod_lt _ (Nat.two_pow_pos s)
  have := Nat.mul_le_mul_left (2 ^ (64 - s)) h5
  rw [Nat.mul_add, Nat.mul_one] at this
  rw [Nat.mul_comm (2 ^ (64 - s)) (2 ^ s), ← e] at this
  exact this
 rw [h1, h3]
 have h6 : w0 / 2 ^ s + 2 ^ (64 - s) * (w1 + 18446744073709551616 * r) = (w0 / 2 ^ s + 2 ^ (64 - s) * (w1 % 2 ^ s)) + 18446744073709551616 * (w1 / 2 ^ s + 2 ^ (64 - s) * r) := by
  have h7 := Nat.div_add_mod w1 (2 ^ s)
  have h8 : 2 ^ (64 - s) * w1 = 2 ^ (64 - s) * (2 ^ s * (w1 / 2 ^ s)) + 2 ^ (64 - s) * (w1 % 2 ^ s) := by rw [← Nat.mul_add, h7]
  rw [← Nat.mul_assoc, Nat.mul_comm (2 ^ (64 - s)) (2 ^ s), ← e] at h8
  rw [Nat.mul_add, Nat.mul_add, h8, Nat.mul_left_comm]
  omega
 rw [h6, Nat.add_mul_mod_self_left, Nat.mod_eq_of_lt (by omega)]
theorem downW_or (w0 w1 s : Nat) (h0 : w0 < 18446744073709551616) (hs : s < 64) : (w0 / 2 ^ s) ||| (w1 * 2 ^ (64 - s) % 18446744073709551616) = w0 / 2 ^ s + w1 * 2 ^ (64 - s) % 18446744073709551616 := by
 refine or_add _ _ (64 - s) (Nat.div_lt_of_lt_mul ?_) (mul_pow_mod _ _ (by omega))
 rw [← Nat.pow_add, show s + (64 - s) = 64 from by omega]; exact h0
end Go.Pv
end

section
/- Values as rational numbers. No program in it. -/
namespace Go.Pv
def p2 (e : Int) : Rat := (2 : Rat) ^ e
theorem p2_pos (e : Int) : 0 < p2 e := Rat.zpow_pos (by decide)
theorem p2_ne (e : Int) : p2 e ≠ 0 := Rat.ne_of_gt (p2_pos e)
theorem p2_add (a b : Int) : p2 (a + b) = p2 a * p2 b := Rat.zpow_add (by decide) a b
theorem p2_zero : p2 0 = 1 := Rat.zpow_zero 2
theorem p2_int (k : Nat) : (((2 : Int) ^ k : Int) : Rat) = p2 k := by
 unfold p2; rw [Rat.zpow_natCast]
 induction k with
 | zero => rfl
 | succ k ih => rw [Int.pow_succ, Rat.intCast_mul, ih, Rat.pow_succ]; rfl
def qM (s e : Int) : Rat := (s : Rat) * p2 e
def qV (v : Vl) : Rat := qM (mantV v) v.e
def qN (x : Nm) : Rat := qM (mant x) x.exp
theorem qM_pow (s : Int) (k : Nat) (e : Int) : qM (s * 2 ^ k) e = qM s (e + k) := by
 unfold qM; rw [Rat.intCast_mul, p2_int, p2_add]; grind
theorem qM_add (s t e : Int) : qM (s + t) e = qM s e + qM t e := by unfold qM; rw [Rat.intCast_add]; grind
theorem qM_mul (s t e f : Int) : qM (s * t) (e + f) = qM s e * qM t f := by unfold qM; rw [Rat.intCast_mul, p2_add]; grind
theorem qM_zero (e : Int) : qM 0 e = 0 := by unfold qM; rw [Rat.intCast_zero]; grind
theorem qM_neg (s e : Int) : qM (-s) e = - qM s e := by unfold qM; rw [Rat.intCast_neg]; grind
theorem qM_le {s t e : Int} : qM s e ≤ qM t e ↔ s ≤ t := by
 unfold qM
 constructor
 · intro h
   exact Rat.intCast_le_intCast.1 (Rat.le_of_mul_le_mul_right h (p2_pos e))
 · intro h
   exact Rat.mul_le_mul_of_nonneg_right (Rat.intCast_le_intCast.2 h) (Rat.le_of_lt (p2_pos e))
theorem qM_lt {s t e : Int} : qM s e < qM t e ↔ s < t := by
 rw [← Rat.not_le, qM_le]; omega
theorem qM_eq {s t e : Int} : qM s e = qM t e ↔ s = t := by
 constructor
 · intro h
   have h1 := (qM_le (s := s) (t := t) (e := e)).1 (by rw [h]; exact Rat.le_refl)
   have h2 := (qM_le (s := t) (t := s) (e := e)).1 (by rw [h]; exact Rat.le_refl)
   omega
 · rintro rfl; rfl
theorem qM_at (s e g : Int) (h : g ≤ e) : qM s e = qM (s * 2 ^ (e - g).toNat) g := by
 rw [qM_pow]; congr 1; omega
theorem qV_mk (s e : Int) : qV (mkV s e) = qM s e := by
 by_cases h : s = 0
 · subst h
   rw [mkV_zero, qM_zero]
   exact qM_zero 0
 · obtain ⟨k, k1, k2, k3⟩ := mkV_parts s e h
   unfold qV
   rw [k2, ← qM_pow, k1]
theorem qV_odd (neg : Bool) (m : Nat) (e : Int) : qV (oddV neg m e) = qM (if neg then -(m : Int) else (m : Int)) e := by rw [mkV_odd, qV_mk]
theorem qV_ofX (x : Nm) : qV (ofX x) = qN x := by rw [ofX_mk, qV_mk]; rfl
theorem qV_ofN (x : Nm) : qV (ofN x) = qN x := rfl
theorem qV_m0 {v : Vl} (h : v.m = 0) : qV v = 0 := by unfold qV; rw [mantV_zero h, qM_zero]
theorem qV_plus (a b : Vl) : qV (plusV a b) = qV a + qV b := by
 unfold plusV
 split
 · rename_i h; rw [qV_m0 h]; grind
 · split
   · rename_i h; rw [qV_m0 h]; grind
   · rw [qV_mk, qM_add, ← qM_at _ _ _ (by omega), ← qM_at _ _ _ (by omega)]; rfl
theorem qV_turn (v : Vl) : qV (turnV v) = - qV v := by
 unfold qV; rw [mantV_turn, turnV_e, qM_neg]
theorem qV_less (a b : Vl) : qV (lessV a b) = qV a - qV b := by
 unfold lessV; rw [qV_plus, qV_turn]; grind
theorem mantV_by {a b : Vl} (ha : a.m ≠ 0) (hb : b.m ≠ 0) : mantV (byV a b) = mantV a * mantV b ∧ (byV a b).e = a.e + b.e := by
 unfold byV
 rw [if_neg (by omega)]
 refine ⟨?_, rfl⟩
 unfold mantV
 cases a.neg <;> cases b.neg <;> simp [Int.neg_mul, Int.mul_neg]
theorem qV_by (a b : Vl) : qV (byV a b) = qV a * qV b := by
 by_cases ha : a.m = 0
 · rw [qV_m0 ha, qV_m0 (by unfold byV; rw [if_pos (.inl ha)])]; grind
 · by_cases hb : b.m = 0
   · rw [qV_m0 hb, qV_m0 (by unfold byV; rw [if_pos (.inr hb)])]; grind
   · obtain ⟨h1, h2⟩ := mantV_by ha hb
     unfold qV
     rw [h1, h2, qM_mul]
theorem sgn_le (m : Int) : sgn m ≤ 0 ↔ m ≤ 0 := by unfold sgn; split <;> (try split) <;> omega
theorem sgn_lt (m : Int) : sgn m < 0 ↔ m < 0 := by unfold sgn; split <;> (try split) <;> omega
theorem orderV_le (a b : Vl) : orderV a b ≤ 0 ↔ qV a ≤ qV b := by
 unfold orderV
 have h := qV_less a b
 rw [signV_eq, sgn_le]
 have h2 : mantV (lessV a b) ≤ 0 ↔ qV (lessV a b) ≤ 0 := by
  rw [← qM_zero (lessV a b).e]; exact qM_le.symm
 rw [h2, h]; grind
theorem orderV_lt (a b : Vl) : orderV a b < 0 ↔ qV a < qV b := by
 unfold orderV
 have h := qV_less a b
 rw [signV_eq, sgn_lt]
 have h2 : mantV (lessV a b) < 0 ↔ qV (lessV a b) < 0 := by
  rw [← qM_zero (lessV a b).e]; exact qM_lt.symm
 rw [h2, h]; grind
theorem cmpN_le {a b : Nm} : cmpN a b ≤ 0 ↔ qN a ≤ qN b := by rw [← orderV_ofN, orderV_le]; rfl
theorem cmpN_lt {a b : Nm} : cmpN a b < 0 ↔ qN a < qN b := by rw [← orderV_ofN, orderV_lt]; rfl
theorem cmpN_ge {a b : Nm} : 0 ≤ cmpN a b ↔ qN b ≤ qN a := by
 have := cmpN_lt (a := a) (b := b)
 rw [← Rat.not_lt, ← this]; omega
theorem cmpN_gt {a b : Nm} : 0 < cmpN a b ↔ qN b < qN a := by
 have := cmpN_le (a := a) (b := b)
 rw [← Rat.not_le, ← this]; omega
theorem signV_lt (a : Vl) : signV a < 0 ↔ qV a < 0 := by
 rw [signV_eq, sgn_lt, ← qM_zero a.e]; exact qM_lt.symm
theorem signV_le (a : Vl) : signV a ≤ 0 ↔ qV a ≤ 0 := by
 rw [signV_eq, sgn_le, ← qM_zero a.e]; exact qM_le.symm
def canV (v : Vl) : Prop := v.m % 2 = 1 ∨ v = ⟨false, 0, 0⟩
theorem canV_odd (neg : Bool) (m : Nat) (e : Int) : canV (oddV neg m e) := by
 unfold oddV canV
 split
 · exact .inr rfl
 · exact .inl (tz_odd_div m (by assumption))
theorem canV_mk (s e : Int) : canV (mkV s e) := canV_odd _ _ _
theorem canV_ofX (x : Nm) : canV (ofX x) := canV_odd _ _ _
theorem canV_ofN {x : Nm} (h : rightN x = true) : canV (ofN x) := by rw [← ofN_ofX h]; exact canV_ofX x
theorem canV_plus {a b : Vl} (ha : canV a) (hb : canV b) : canV (plusV a b) := by
 unfold plusV
 split
 · exact hb
 · split
   · exact ha
   · exact canV_mk _ _
theorem canV_turn {a : Vl} (ha : canV a) : canV (turnV a) := by
 rcases ha with h | rfl
 · exact .inl (by rw [turnV_m]; exact h)
 · exact .inr rfl
theorem canV_less {a b : Vl} (ha : canV a) (hb : canV b) : canV (lessV a b) := canV_plus ha (canV_turn hb)
theorem canV_by {a b : Vl} (ha : canV a) (hb : canV b) : canV (byV a b) := by
 rcases ha with h | rfl
 · rcases hb with k | rfl
   · exact .inl (by unfold byV; rw [if_neg (by omega)]; exact odd_mul h k)
   · exact .inr (by unfold byV; rw [if_pos (.inr rfl)])
 · exact .inr (by unfold byV; rw [if_pos (.inl rfl)])
theorem canV_round {v : Vl} (h : canV v) (p : Nat) (up : Bool) : canV (roundV v p up) := by
 unfold roundV
 split
 · exact h
 · exact canV_odd _ _ _
theorem canV_ok {v : Vl} (h : canV v) : okV v := by
 rcases h with h | rfl
 · exact .inl h
 · exact .inr rfl
theorem canV_self {v : Vl} (h : canV v) : v = mkV (mantV v) v.e := by
 rcases h with h | rfl
 · have : oddV v.neg v.m v.e = v := by rw [oddV_odd _ _ _ h]
   conv => lhs; rw [← this]
   rw [mkV_odd]; rfl
 · rw [show mantV ⟨false, 0, 0⟩ = 0 from rfl, mkV_zero]
theorem mkV_eq {s e t f : Int} (h : qM s e = qM t f) : mkV s e = mkV t f := by
 have h1 : mkV s e = mkV (s * 2 ^ (e - min e f).toNat) (min e f) := by rw [mkV_pow]; congr 1; omega
 have h2 : mkV t f = mkV (t * 2 ^ (f - min e f).toNat) (min e f) := by rw [mkV_pow]; congr 1; omega
 rw [qM_at s e (min e f) (by omega), qM_at t f (min e f) (by omega), qM_eq] at h
 rw [h1, h2, h]
theorem canV_inj {v w : Vl} (hv : canV v) (hw : canV w) (h : qV v = qV w) : v = w := by
 rw [canV_self hv, canV_self hw]
 exact mkV_eq h
theorem ofX_of {x : Nm} {v : Vl} (hv : canV v) (h : qN x = qV v) : ofX x = v := canV_inj (canV_ofX x) hv (by rw [qV_ofX, h])
theorem round_unit (neg : Bool) (m d : Nat) (c : Nat) (e : Int) : qM (if neg then -((m / 2 ^ d + c : Nat) : Int) else ((m / 2 ^ d + c : Nat) : Int)) (e + (d : Int)) = qM (if neg then -(((m / 2 ^ d + c) * 2 ^ d : Nat) : Int) else (((m / 2 ^ d + c) * 2 ^ d : Nat) : Int)) e := by
 rw [← qM_pow]
 congr 1
 cases neg
 · simp
 · simp [Int.neg_mul]
theorem roundV_le (v : Vl) (p : Nat) : qV (roundV v p false) ≤ qV v := by
 unfold roundV
 split
 · exact Rat.le_refl
 · rw [qV_odd, round_unit]
   unfold qV mantV
   rw [qM_le]
   generalize bitlen v.m - p = d
   have h1 := Nat.div_add_mod v.m (2 ^ d)
   have h2 := Nat.mod_lt v.m (Nat.two_pow_pos d)
   rw [Nat.mul_comm] at h1
   rw [Nat.add_mul]
   cases v.neg
   · rw [if_neg (by simp), if_neg (by simp), if_neg (by simp), Nat.zero_mul]; omega
   · rw [if_pos rfl, if_pos rfl]
     by_cases h3 : v.m % 2 ^ d = 0
     · rw [if_neg (by simp [h3]), Nat.zero_mul]; omega
     · rw [if_pos ⟨h3, by simp⟩, Nat.one_mul]; omega
theorem roundV_ge (v : Vl) (p : Nat) : qV v ≤ qV (roundV v p true) := by
 unfold roundV
 split
 · exact Rat.le_refl
 · rw [qV_odd, round_unit]
   unfold qV mantV
   rw [qM_le]
   generalize bitlen v.m - p = d
   have h1 := Nat.div_add_mod v.m (2 ^ d)
   have h2 := Nat.mod_lt v.m (Nat.two_pow_pos d)
   rw [Nat.mul_comm] at h1
   rw [Nat.add_mul]
   cases v.neg
   · rw [if_neg (by simp), if_neg (by simp)]
     by_cases h3 : v.m % 2 ^ d = 0
     · rw [if_neg (by simp [h3]), Nat.zero_mul]; omega
     · rw [if_pos ⟨h3, by simp⟩, Nat.one_mul]; omega
   · rw [if_pos rfl, if_pos rfl, if_neg (by simp), Nat.zero_mul]; omega
theorem numV_val {v : Vl} (hv : canV v) (h : (numV v).2 = 0) : ofN (numV v).1 = v ∧ qN (numV v).1 = qV v := by
 unfold numV at h ⊢
 split
 · rename_i h0
   rcases hv with hv | rfl
   · omega
   · exact ⟨rfl, rfl⟩
 · rename_i h0
   rw [if_neg h0] at h
   split
   · rename_i h1; rw [if_pos h1] at h; cases h
   · have e : ofN ⟨v.neg, v.e, wordsOf v.m⟩ = v := by unfold ofN; rw [valW_wordsOf]
     exact ⟨e, by rw [← qV_ofN, e]⟩
theorem numV_ofN {x : Nm} (h : rightN x = true) : numV (ofN x) = (x, 0) := by
 unfold numV ofN
 simp only
 have h2 := h
 unfold rightN at h2
 by_cases hw : x.w = []
 · rw [if_pos hw] at h2
   simp at h2
   rw [if_pos (by rw [hw]; rfl)]
   congr 1
   obtain ⟨n, e, w⟩ := x
   simp at hw h2
   obtain ⟨rfl, rfl⟩ := h2
   subst hw; rfl
 · rw [if_neg hw] at h2
   simp only [Bool.and_eq_true, decide_eq_true_eq] at h2
   rw [if_neg (by have := (zero_of_right h); intro e; exact hw (this.1 e)), wordsOf_valW, rightN_cut h, if_neg (by omega)]
end Go.Pv
end

section
/- What sums, differences and products of intervals come to. No program in it. -/
namespace Go.Pv
theorem mulq_nn {a b : Rat} (ha : 0 ≤ a) (hb : 0 ≤ b) : 0 ≤ a * b := Rat.mul_nonneg ha hb
theorem corner1 {x y u v X U : Rat} (h1 : x ≤ X) (h2 : X ≤ y) (h3 : u ≤ U) (h4 : U ≤ v) (hx : 0 ≤ x) (hu : 0 ≤ u) : x * u ≤ X * U := by
 have a1 := mulq_nn (a := X - x) (b := u) (by grind) hu
 have a2 := mulq_nn (a := X) (b := U - u) (by grind) (by grind)
 grind
theorem corner2 {x y u v X U : Rat} (h1 : x ≤ X) (h2 : X ≤ y) (h3 : u ≤ U) (h4 : U ≤ v) (hx : 0 ≤ X) (hu : u ≤ 0) : y * u ≤ X * U := by
 have a1 := mulq_nn (a := y - X) (b := -u) (by grind) (by grind)
 have a2 := mulq_nn (a := X) (b := U - u) (by grind) (by grind)
 grind
theorem corner3 {x y u v X U : Rat} (h1 : x ≤ X) (h2 : X ≤ y) (h3 : u ≤ U) (h4 : U ≤ v) (hx : x ≤ 0) (hu : 0 ≤ U) : x * v ≤ X * U := by
 have a1 := mulq_nn (a := -x) (b := v - U) (by grind) (by grind)
 have a2 := mulq_nn (a := X - x) (b := U) (by grind) (by grind)
 grind
theorem corner4 {x y u v X U : Rat} (h1 : x ≤ X) (h2 : X ≤ y) (h3 : u ≤ U) (h4 : U ≤ v) (hx : y ≤ 0) (hu : v ≤ 0) : y * v ≤ X * U := by
 have a1 := mulq_nn (a := y - X) (b := -v) (by grind) (by grind)
 have a2 := mulq_nn (a := -X) (b := v - U) (by grind) (by grind)
 grind
theorem pos_pos {a b : Rat} (ha : a ≤ 0) (hb : b ≤ 0) : 0 ≤ a * b := by
 have := mulq_nn (a := -a) (b := -b) (by grind) (by grind)
 grind
theorem pos_neg {a b : Rat} (ha : 0 ≤ a) (hb : b ≤ 0) : a * b ≤ 0 := by
 have := mulq_nn (a := a) (b := -b) ha (by grind)
 grind
theorem neg_pos' {a b : Rat} (ha : a ≤ 0) (hb : 0 ≤ b) : a * b ≤ 0 := by
 have := mulq_nn (a := -a) (b := b) (by grind) hb
 grind
def leastV (x y u v : Vl) : Vl :=
 if 0 ≤ signV x ∧ 0 ≤ signV u then byV x u else if 0 ≤ signV x then byV y u else if 0 ≤ signV u then byV x v else
 if signV y ≤ 0 ∧ signV v ≤ 0 then byV y v else if orderV (byV y u) (byV x v) < 0 then byV y u else byV x v
def greatV (x y u v : Vl) : Vl := turnV (leastV (turnV y) (turnV x) u v)
theorem signV_ge (a : Vl) : 0 ≤ signV a ↔ 0 ≤ qV a := by
 have := signV_lt a
 rw [← Rat.not_lt, ← this]; omega
theorem leastV_le {x y u v : Vl} (hx : qV x ≤ qV y) (hu : qV u ≤ qV v) {X U : Rat} (h1 : qV x ≤ X) (h2 : X ≤ qV y) (h3 : qV u ≤ U) (h4 : U ≤ qV v) : qV (leastV x y u v) ≤ X * U := by
 unfold leastV
 simp only [signV_ge, signV_le, orderV_lt, qV_by]
 split
 · rename_i h; rw [qV_by]; exact corner1 h1 h2 h3 h4 h.1 h.2
 · rename_i n1
   split
   · rename_i h; rw [qV_by]; exact corner2 h1 h2 h3 h4 (by grind) (by grind)
   · rename_i n2
     split
     · rename_i h; rw [qV_by]; exact corner3 h1 h2 h3 h4 (by grind) (by grind)
     · rename_i n3
       split
       · rename_i h; rw [qV_by]; exact corner4 h1 h2 h3 h4 h.1 h.2
       · rename_i n4
         have key : qV y * qV u ≤ X * U ∨ qV x * qV v ≤ X * U := by
          by_cases hX : 0 ≤ X
          · exact .inl (corner2 h1 h2 h3 h4 hX (by grind))
          · by_cases hU : 0 ≤ U
            · exact .inr (corner3 h1 h2 h3 h4 (by grind) hU)
            · have p := pos_pos (a := X) (b := U) (by grind) (by grind)
              by_cases hy : 0 ≤ qV y
              · have := pos_neg (a := qV y) (b := qV u) hy (by grind); exact .inl (by grind)
              · have := neg_pos' (a := qV x) (b := qV v) (by grind) (by grind); exact .inr (by grind)
         split
         · rename_i h; rw [qV_by]; grind
         · rename_i h; rw [qV_by]; grind
theorem leastV_one (x y u v : Vl) : leastV x y u v = byV x u ∨ leastV x y u v = byV x v ∨ leastV x y u v = byV y u ∨ leastV x y u v = byV y v := by
 unfold leastV
 repeat' split
 all_goals simp
theorem greatV_ge {x y u v : Vl} (hx : qV x ≤ qV y) (hu : qV u ≤ qV v) {X U : Rat} (h1 : qV x ≤ X) (h2 : X ≤ qV y) (h3 : qV u ≤ U) (h4 : U ≤ qV v) : X * U ≤ qV (greatV x y u v) := by
 unfold greatV
 have := leastV_le (x := turnV y) (y := turnV x) (u := u) (v := v) (X := -X) (U := U) (by rw [qV_turn, qV_turn]; grind) hu (by rw [qV_turn]; grind) (by rw [qV_turn]; grind) h3 h4
 rw [qV_turn]; grind
theorem greatV_one (x y u v : Vl) : qV (greatV x y u v) = qV x * qV u ∨ qV (greatV x y u v) = qV x * qV v ∨ qV (greatV x y u v) = qV y * qV u ∨ qV (greatV x y u v) = qV y * qV v := by
 unfold greatV
 rw [qV_turn]
 rcases leastV_one (turnV y) (turnV x) u v with h | h | h | h
 all_goals rw [h, qV_by, qV_turn]; grind
theorem canV_least {x y u v : Vl} (hx : canV x) (hy : canV y) (hu : canV u) (hv : canV v) : canV (leastV x y u v) := by
 rcases leastV_one x y u v with h | h | h | h
 all_goals rw [h]; exact canV_by (by assumption) (by assumption)
theorem canV_great {x y u v : Vl} (hx : canV x) (hy : canV y) (hu : canV u) (hv : canV v) : canV (greatV x y u v) := canV_turn (canV_least (canV_turn hy) (canV_turn hx) hu hv)
def exV (k : Nat) (a b : Vl) : Vl := if k = 0 then plusV a b else if k = 1 then lessV a b else byV a b
def exQ (k : Nat) (a b : Rat) : Rat := if k = 0 then a + b else if k = 1 then a - b else a * b
theorem exQ0 (a b : Rat) : exQ 0 a b = a + b := by simp [exQ]
theorem exQ1 (a b : Rat) : exQ 1 a b = a - b := by simp [exQ]
theorem exQ2 (a b : Rat) : exQ 2 a b = a * b := by simp [exQ]
theorem qV_ex (k : Nat) (a b : Vl) : qV (exV k a b) = exQ k (qV a) (qV b) := by
 unfold exV exQ
 split
 · exact qV_plus a b
 · split
   · exact qV_less a b
   · exact qV_by a b
theorem canV_ex (k : Nat) {a b : Vl} (ha : canV a) (hb : canV b) : canV (exV k a b) := by
 unfold exV
 split
 · exact canV_plus ha hb
 · split
   · exact canV_less ha hb
   · exact canV_by ha hb
def precF (p : Int) : Bool := decide (8 ≤ p) && decide (p ≤ 256)
def reckN (k : Nat) (a b : Nm) (p : Int) (up : Bool) : Nm × Int := if rightN a = true ∧ rightN b = true ∧ precF p = true then numV (roundV (exV k (ofN a) (ofN b)) p.toNat up) else (default, 1)
def strN (k : Nat) (a b : Nm) : Nm × Int := if rightN a = true ∧ rightN b = true then numV (exV k (ofN a) (ofN b)) else (default, 1)
def scaleN (x : Nm) (k : Int) : Nm × Int := if rightN x = true then (if x.w = [] then (x, 0) else if k < -131072 ∨ 131072 < k then (default, 2) else numV ⟨x.neg, valW x.w, x.exp + k⟩) else (default, 1)
def endsV (lo hi : Vl) : Ivl × Int := if (numV lo).2 = 0 ∧ (numV hi).2 = 0 then (⟨(numV lo).1, (numV hi).1⟩, 0) else (default, 2)
def loV (k : Nat) (x y u v : Vl) : Vl := if k = 0 then plusV x u else if k = 1 then lessV x v else leastV x y u v
def hiV (k : Nat) (x y u v : Vl) : Vl := if k = 0 then plusV y v else if k = 1 then lessV y u else greatV x y u v
def opI (k : Nat) (a b : Ivl) (p : Int) : Ivl × Int :=
 if rightI a = true ∧ rightI b = true ∧ precF p = true then endsV (roundV (loV k (ofN a.lo) (ofN a.hi) (ofN b.lo) (ofN b.hi)) p.toNat false) (roundV (hiV k (ofN a.lo) (ofN a.hi) (ofN b.lo) (ofN b.hi)) p.toNat true) else (default, 1)
theorem loV0 (x y u v : Vl) : loV 0 x y u v = plusV x u := by simp [loV]
theorem hiV0 (x y u v : Vl) : hiV 0 x y u v = plusV y v := by simp [hiV]
theorem loV_le (k : Nat) {x y u v : Vl} (hx : qV x ≤ qV y) (hu : qV u ≤ qV v) {X U : Rat} (h1 : qV x ≤ X) (h2 : X ≤ qV y) (h3 : qV u ≤ U) (h4 : U ≤ qV v) : qV (loV k x y u v) ≤ exQ k X U := by
 unfold loV exQ
 split
 · rw [qV_plus]; grind
 · split
   · rw [qV_less]; grind
   · exact leastV_le hx hu h1 h2 h3 h4
theorem hiV_ge (k : Nat) {x y u v : Vl} (hx : qV x ≤ qV y) (hu : qV u ≤ qV v) {X U : Rat} (h1 : qV x ≤ X) (h2 : X ≤ qV y) (h3 : qV u ≤ U) (h4 : U ≤ qV v) : exQ k X U ≤ qV (hiV k x y u v) := by
 unfold hiV exQ
 split
 · rw [qV_plus]; grind
 · split
   · rw [qV_less]; grind
   · exact greatV_ge hx hu h1 h2 h3 h4
theorem canV_lo (k : Nat) {x y u v : Vl} (hx : canV x) (hy : canV y) (hu : canV u) (hv : canV v) : canV (loV k x y u v) := by
 unfold loV
 split
 · exact canV_plus hx hu
 · split
   · exact canV_less hx hv
   · exact canV_least hx hy hu hv
theorem canV_hi (k : Nat) {x y u v : Vl} (hx : canV x) (hy : canV y) (hu : canV u) (hv : canV v) : canV (hiV k x y u v) := by
 unfold hiV
 split
 · exact canV_plus hy hv
 · split
   · exact canV_less hy hu
   · exact canV_great hx hy hu hv
theorem qI_le {x : Ivl} (h : rightI x = true) : qV (ofN x.lo) ≤ qV (ofN x.hi) := cmpN_le.1 (rightI_right h).2.2
theorem endsV_right {lo hi : Vl} (h1 : canV lo) (h2 : canV hi) (h : qV lo ≤ qV hi) : rightI (endsV lo hi).1 = true := by
 unfold endsV
 split
 · rename_i hh
   exact rightI_mk (rightN_numV (canV_ok h1)) (rightN_numV (canV_ok h2)) (cmpN_le.2 (by rw [(numV_val h1 hh.1).2, (numV_val h2 hh.2).2]; exact h))
 · decide
theorem lo_hi (k : Nat) {a b : Ivl} (ha : rightI a = true) (hb : rightI b = true) (p : Nat) :
  qV (roundV (loV k (ofN a.lo) (ofN a.hi) (ofN b.lo) (ofN b.hi)) p false) ≤ qV (roundV (hiV k (ofN a.lo) (ofN a.hi) (ofN b.lo) (ofN b.hi)) p true) := by
 have h1 := roundV_le (loV k (ofN a.lo) (ofN a.hi) (ofN b.lo) (ofN b.hi)) p
 have h2 := roundV_ge (hiV k (ofN a.lo) (ofN a.hi) (ofN b.lo) (ofN b.hi)) p
 have h3 := loV_le k (qI_le ha) (qI_le hb) Rat.le_refl (qI_le ha) Rat.le_refl (qI_le hb)
 have h4 := hiV_ge k (qI_le ha) (qI_le hb) Rat.le_refl (qI_le ha) Rat.le_refl (qI_le hb)
 grind
theorem canI {x : Ivl} (h : rightI x = true) : canV (ofN x.lo) ∧ canV (ofN x.hi) := ⟨canV_ofN (rightI_right h).1, canV_ofN (rightI_right h).2.1⟩
theorem opI_right (k : Nat) (a b : Ivl) (p : Int) : rightI (opI k a b p).1 = true := by
 unfold opI
 split
 · rename_i h
   have ca := canI h.1
   have cb := canI h.2.1
   exact endsV_right (canV_round (canV_lo k ca.1 ca.2 cb.1 cb.2) _ _) (canV_round (canV_hi k ca.1 ca.2 cb.1 cb.2) _ _) (lo_hi k h.1 h.2.1 _)
 · decide
def memI (X : Rat) (a : Ivl) : Prop := qN a.lo ≤ X ∧ X ≤ qN a.hi
theorem opI_mem (k : Nat) {a b : Ivl} {p : Int} (h : (opI k a b p).2 = 0) {X U : Rat} (hX : memI X a) (hU : memI U b) : memI (exQ k X U) (opI k a b p).1 := by
 unfold opI at h ⊢
 split
 · rename_i hr
   rw [if_pos hr] at h
   have ca := canI hr.1
   have cb := canI hr.2.1
   unfold endsV at h ⊢
   split
   · rename_i hh
     have h1 := (numV_val (canV_round (canV_lo k ca.1 ca.2 cb.1 cb.2) _ _) hh.1).2
     have h2 := (numV_val (canV_round (canV_hi k ca.1 ca.2 cb.1 cb.2) _ _) hh.2).2
     have h3 := loV_le k (qI_le hr.1) (qI_le hr.2.1) hX.1 hX.2 hU.1 hU.2
     have h4 := hiV_ge k (qI_le hr.1) (qI_le hr.2.1) hX.1 hX.2 hU.1 hU.2
     have h5 := roundV_le (loV k (ofN a.lo) (ofN a.hi) (ofN b.lo) (ofN b.hi)) p.toNat
     have h6 := roundV_ge (hiV k (ofN a.lo) (ofN a.hi) (ofN b.lo) (ofN b.hi)) p.toNat
     exact ⟨by rw [h1]; grind, by rw [h2]; grind⟩
   · rename_i hh; rw [if_neg hh] at h; cases h
 · rename_i hr; rw [if_neg hr] at h; cases h
end Go.Pv
end

section
/- Exact sums and products of numbers in any form, and how long they get. No program in it. -/
namespace Go.Pv
def bd (n k : Nat) (x : Nm) : Prop := x.w.length ≤ n ∧ -(k : Int) ≤ x.exp ∧ x.exp ≤ k
theorem bd.mono {n k n' k' : Nat} {x : Nm} (h : bd n k x) (h1 : n ≤ n') (h2 : k ≤ k') : bd n' k' x := ⟨by have := h.1; omega, by have := h.2.1; omega, by have := h.2.2; omega⟩
theorem rightN_bd {x : Nm} (h : rightN x = true) : bd 64 65536 x := by
 unfold rightN at h
 by_cases hw : x.w = []
 · rw [if_pos hw] at h
   simp at h
   exact ⟨by rw [hw]; simp, by rw [h.2]; omega, by rw [h.2]; omega⟩
 · rw [if_neg hw] at h
   simp only [Bool.and_eq_true, decide_eq_true_eq] at h
   exact ⟨h.1.1.1.2, h.1.2, h.2⟩
theorem qN_neg (x : Nm) : qN { x with neg := !x.neg } = - qN x := by
 unfold qN mant
 rw [← qM_neg]
 congr 1
 cases x.neg <;> simp
theorem qN_mk (neg : Bool) (e : Int) (m : Nat) : qN ⟨neg, e, wordsOf m⟩ = qM (if neg then -(m : Int) else (m : Int)) e := by
 unfold qN mant; rw [valW_wordsOf]
theorem qN_up (b : Nm) (e : Int) (d : Nat) (h : b.exp = e + d) : qN b = qM (if b.neg then -((valW b.w * 2 ^ d : Nat) : Int) else ((valW b.w * 2 ^ d : Nat) : Int)) e := by
 unfold qN
 rw [h, ← qM_pow]
 congr 1
 unfold mant
 cases b.neg
 · simp
 · simp [Int.neg_mul]
theorem ex_same (a b : Nm) (d : Nat) (h : b.exp = a.exp + d) (hn : a.neg = b.neg) : qN ⟨a.neg, a.exp, wordsOf (valW a.w + valW b.w * 2 ^ d)⟩ = qN a + qN b := by
 rw [qN_mk, qN_up b a.exp d h, show qN a = qM (mant a) a.exp from rfl, ← qM_add]
 congr 1
 unfold mant
 rw [← hn]
 cases a.neg <;> simp <;> omega
theorem ex_diff1 (a b : Nm) (d : Nat) (h : b.exp = a.exp + d) (hn : a.neg ≠ b.neg) (hle : valW b.w * 2 ^ d ≤ valW a.w) : qN ⟨a.neg, a.exp, wordsOf (valW a.w - valW b.w * 2 ^ d)⟩ = qN a + qN b := by
 rw [qN_mk, qN_up b a.exp d h, show qN a = qM (mant a) a.exp from rfl, ← qM_add]
 congr 1
 unfold mant
 generalize valW b.w * 2 ^ d = x at *
 cases ha : a.neg <;> cases hb : b.neg <;> simp [ha, hb] at hn ⊢ <;> omega
theorem ex_diff2 (a b : Nm) (d : Nat) (h : b.exp = a.exp + d) (hn : a.neg ≠ b.neg) (hle : valW a.w ≤ valW b.w * 2 ^ d) : qN ⟨b.neg, a.exp, wordsOf (valW b.w * 2 ^ d - valW a.w)⟩ = qN a + qN b := by
 rw [qN_mk, qN_up b a.exp d h, show qN a = qM (mant a) a.exp from rfl, ← qM_add]
 congr 1
 unfold mant
 generalize valW b.w * 2 ^ d = x at *
 cases ha : a.neg <;> cases hb : b.neg <;> simp [ha, hb] at hn ⊢ <;> omega
theorem sgnN_zero {x : Nm} (h : sgnN x = 0) : qN x = 0 := by
 have : mant x = 0 := by
  rw [sgnN_eq] at h
  unfold sgn at h
  split at h
  · assumption
  · split at h <;> omega
 unfold qN; rw [this, qM_zero]
theorem ex_len (a b : Nm) (n k d : Nat) (ha : bd n k a) (hb : bd n k b) (hd : d ≤ 2 * k) : (wordsOf (valW a.w + valW b.w * 2 ^ d)).length ≤ n + k + 1 := by
 refine wordsOf_length_le ?_
 have h1 := valW_lt a.w
 have h2 := valW_lt b.w
 have hp : ∀ l : Nat, l ≤ n → 18446744073709551616 ^ l ≤ 2 ^ (64 * n) := fun l hl => by rw [pow64]; exact Nat.pow_le_pow_right (by decide) (by omega)
 have h3 : valW a.w < 2 ^ (64 * n + d) := Nat.lt_of_lt_of_le h1 (Nat.le_trans (hp _ ha.1) (Nat.pow_le_pow_right (by decide) (by omega)))
 have h4 : valW b.w * 2 ^ d < 2 ^ (64 * n + d) := by
  rw [Nat.pow_add]
  exact Nat.mul_lt_mul_of_pos_right (Nat.lt_of_lt_of_le h2 (hp _ hb.1)) (Nat.two_pow_pos d)
 have h5 : 18446744073709551616 ^ (n + k + 1) = 2 ^ (64 * (n + k + 1)) := pow64 _
 have h6 : 2 ^ (64 * n + d + 1) ≤ 2 ^ (64 * (n + k + 1)) := Nat.pow_le_pow_right (by decide) (by omega)
 have h7 : 2 ^ (64 * n + d + 1) = 2 ^ (64 * n + d) * 2 := Nat.pow_succ ..
 rw [h5]
 omega
theorem ex_len2 (a b : Nm) (n k d m : Nat) (ha : bd n k a) (hb : bd n k b) (hd : d ≤ 2 * k) (hm : m ≤ valW a.w + valW b.w * 2 ^ d) : (wordsOf m).length ≤ n + k + 1 := Nat.le_trans (wordsOf_mono hm) (ex_len a b n k d ha hb hd)
theorem qN_mul (a b : Nm) : qN ⟨a.neg != b.neg, a.exp + b.exp, wordsOf (valW a.w * valW b.w)⟩ = qN a * qN b := by
 rw [qN_mk]
 show _ = qM (mant a) a.exp * qM (mant b) b.exp
 rw [← qM_mul]
 congr 1
 unfold mant
 cases a.neg <;> cases b.neg <;> simp [Int.neg_mul, Int.mul_neg]
theorem len_mul (a b : Nm) (n k m l : Nat) (ha : bd n k a) (hb : bd m l b) : bd (n + m) (k + l) ⟨a.neg != b.neg, a.exp + b.exp, wordsOf (valW a.w * valW b.w)⟩ := by
 refine ⟨wordsOf_length_le ?_, ?_, ?_⟩
 · have h1 := valW_lt a.w
   have h2 := valW_lt b.w
   refine Nat.lt_of_lt_of_le (Nat.mul_lt_mul'' h1 h2) ?_
   rw [← Nat.pow_add]
   exact Nat.pow_le_pow_right (by decide) (by have := ha.1; have := hb.1; omega)
 · have := ha.2.1; have := hb.2.1; simp only; omega
 · have := ha.2.2; have := hb.2.2; simp only; omega
end Go.Pv
end

section
/- The right number of words by a power of two, rounded or not. No program in it. -/
namespace Go.Pv
theorem wordsOf_first (m : Nat) (h : m ≠ 0) : ((wordsOf m).getD 0 0).toNat % 2 = m % 2 := by
 rw [← valW_mod2, valW_wordsOf]
theorem rightN_words (neg : Bool) (m : Nat) (e : Int) (h : m % 2 = 1) : rightN ⟨neg, e, wordsOf m⟩ = (decide ((wordsOf m).length ≤ 64) && decide (-65536 ≤ e) && decide (e ≤ 65536)) := by
 have hw : wordsOf m ≠ [] := fun e => by rw [wordsOf_nil] at e; omega
 have h1 : ((wordsOf m).getD 0 0).toNat % 2 = 1 := by rw [wordsOf_first m (by omega)]; exact h
 unfold rightN
 rw [if_neg hw, cutW_wordsOf]
 simp only [h1, decide_true, Bool.true_and, Bool.and_true]
def mkX (neg : Bool) (w : List UInt64) (e : Int) : Nm × Int := numV (oddV neg (valW w) e)
theorem mkX_zero {neg : Bool} {w : List UInt64} {e : Int} (h : valW w = 0) : mkX neg w e = (default, 0) := by
 unfold mkX; rw [h, oddV_zero]; rfl
theorem mkX_far {neg : Bool} {w : List UInt64} {e : Int} (h : valW w ≠ 0) (h2 : 65536 < e ∨ e < -65536 - ((tz (valW w) : Nat) : Int)) : mkX neg w e = (default, 2) := by
 unfold mkX oddV
 rw [if_neg h]
 have h1 : valW w / 2 ^ tz (valW w) ≠ 0 := by have := tz_odd_div (valW w) h; omega
 unfold numV
 rw [if_neg h1, if_pos (by simp only; omega)]
theorem mkX_near {neg : Bool} {w : List UInt64} {e : Int} (h : valW w ≠ 0) : mkX neg w e = if rightN ⟨neg, e + ((tz (valW w) : Nat) : Int), wordsOf (valW w / 2 ^ tz (valW w))⟩ = true then (⟨neg, e + ((tz (valW w) : Nat) : Int), wordsOf (valW w / 2 ^ tz (valW w))⟩, 0) else (default, 2) := by
 have h0 := tz_odd_div (valW w) h
 rw [rightN_words _ _ _ h0]
 unfold mkX oddV
 rw [if_neg h]
 unfold numV
 rw [if_neg (by simp only; omega)]
 simp only
 by_cases hc : 64 < (wordsOf (valW w / 2 ^ tz (valW w))).length ∨ e + ((tz (valW w) : Nat) : Int) < -65536 ∨ 65536 < e + ((tz (valW w) : Nat) : Int)
 · rw [if_pos hc, if_neg]
   simp only [Bool.and_eq_true, decide_eq_true_eq]; omega
 · rw [if_neg hc, if_pos]
   simp only [Bool.and_eq_true, decide_eq_true_eq]; omega
theorem mkX_ofX (x : Nm) : mkX x.neg x.w x.exp = numV (ofX x) := rfl
def rndX (x : Nm) (p : Nat) (up : Bool) : Nm :=
 if bitsW x.w ≤ p then x else ⟨x.neg, x.exp + ((bitsW x.w - p : Nat) : Int), wordsOf (valW x.w / 2 ^ (bitsW x.w - p) + (if tz (valW x.w) < bitsW x.w - p ∧ up ≠ x.neg then 1 else 0))⟩
theorem rndX_ofX (x : Nm) (p : Nat) (up : Bool) (hp : 0 < p) : ofX (rndX x p up) = roundV (ofX x) p up := by
 unfold rndX
 show _ = roundV (oddV x.neg (valW x.w) x.exp) p up
 rw [round_form _ _ _ _ _ hp]
 unfold bitsW
 split
 · rfl
 · unfold ofX
   rw [valW_wordsOf]
theorem rndX_bd (x : Nm) (p : Nat) (up : Bool) (n k : Nat) (h : bd n k x) : bd (n + 1) (k + 64 * n) (rndX x p up) := by
 have hb := bitsW_le x.w
 have hl := h.1
 unfold rndX
 split
 · exact h.mono (by omega) (by omega)
 · refine ⟨?_, ?_, ?_⟩
   · refine wordsOf_length_le ?_
     have h1 := valW_lt x.w
     have h2 : valW x.w / 2 ^ (bitsW x.w - p) ≤ valW x.w := Nat.div_le_self _ _
     have h3 : 18446744073709551616 ^ x.w.length ≤ 18446744073709551616 ^ n := Nat.pow_le_pow_right (by decide) hl
     have h4 : 18446744073709551616 ^ (n + 1) = 18446744073709551616 ^ n * 18446744073709551616 := Nat.pow_succ ..
     split <;> omega
   · have := h.2.1; simp only; omega
   · have := h.2.2; simp only; omega
end Go.Pv
end

section
/- Intervals: has, meet, middle, width. No program in it. -/
namespace Go.Pv
def hasI (a : Ivl) (x : Nm) : Bool := rightI a && rightN x && decide (cmpN a.lo x ≤ 0) && decide (cmpN x a.hi ≤ 0)
def makeI (lo hi : Nm) : Ivl × Int := if rightI ⟨lo, hi⟩ = true then (⟨lo, hi⟩, 0) else (default, 1)
def halfV (v : Vl) : Vl := if v.m = 0 then v else { v with e := v.e - 1 }
def midV (a : Ivl) (p : Nat) : Vl := roundV (halfV (plusV (ofN a.lo) (ofN a.hi))) p false
def midI (a : Ivl) (p : Int) : Nm × Int := if rightI a = true ∧ precF p = true then (if orderV (midV a p.toNat) (ofN a.lo) < 0 then (a.lo, 0) else numV (midV a p.toNat)) else (default, 1)
def wideI (a : Ivl) (p : Int) : Nm × Int := if rightI a = true ∧ precF p = true then numV (roundV (lessV (ofN a.hi) (ofN a.lo)) p.toNat true) else (default, 1)
theorem rightN_eq {x y : Nm} (hx : rightN x = true) (hy : rightN y = true) (h : qN x = qN y) : x = y := by
 have h1 := canV_inj (canV_ofN hx) (canV_ofN hy) (by rw [qV_ofN, qV_ofN, h])
 have h2 := numV_ofN hx
 rw [h1, numV_ofN hy] at h2
 exact (congrArg Prod.fst h2).symm
theorem qleast (a b : Nm) : qN (leastN a b) ≤ qN a ∧ qN (leastN a b) ≤ qN b ∧ (qN (leastN a b) = qN a ∨ qN (leastN a b) = qN b) := by
 have h1 := cmpN_le.1 (leastN_le1 a b)
 have h2 := cmpN_le.1 (leastN_le2 a b)
 refine ⟨h1, h2, ?_⟩
 unfold leastN
 split
 · exact .inr rfl
 · exact .inl rfl
theorem qgreat (a b : Nm) : qN a ≤ qN (greatN a b) ∧ qN b ≤ qN (greatN a b) ∧ (qN (greatN a b) = qN a ∨ qN (greatN a b) = qN b) := by
 have h1 := cmpN_le.1 (greatN_ge1 a b)
 have h2 := cmpN_le.1 (greatN_ge2 a b)
 refine ⟨h1, h2, ?_⟩
 unfold greatN
 split
 · exact .inr rfl
 · exact .inl rfl
theorem four_least {a b : Ivl} (ha : rightI a = true) (hb : rightI b = true) {p1 p2 p3 p4 : Nm} (h1 : qN p1 = qN a.lo * qN b.lo) (h2 : qN p2 = qN a.lo * qN b.hi) (h3 : qN p3 = qN a.hi * qN b.lo) (h4 : qN p4 = qN a.hi * qN b.hi) :
  ofX (leastN (leastN (leastN p1 p2) p3) p4) = loV 2 (ofN a.lo) (ofN a.hi) (ofN b.lo) (ofN b.hi) := by
 have ca := canI ha
 have cb := canI hb
 have la := qI_le ha
 have lb := qI_le hb
 show _ = leastV (ofN a.lo) (ofN a.hi) (ofN b.lo) (ofN b.hi)
 refine ofX_of (canV_least ca.1 ca.2 cb.1 cb.2) ?_
 have r1 := leastV_le la lb Rat.le_refl la Rat.le_refl lb
 have r2 := leastV_le la lb Rat.le_refl la lb Rat.le_refl
 have r3 := leastV_le la lb la Rat.le_refl Rat.le_refl lb
 have r4 := leastV_le la lb la Rat.le_refl lb Rat.le_refl
 have rr : ∀ v w : Vl, leastV (ofN a.lo) (ofN a.hi) (ofN b.lo) (ofN b.hi) = byV v w → qV (leastV (ofN a.lo) (ofN a.hi) (ofN b.lo) (ofN b.hi)) = qV v * qV w := fun v w e => by rw [e, qV_by]
 have r5 : qV (leastV (ofN a.lo) (ofN a.hi) (ofN b.lo) (ofN b.hi)) = qV (ofN a.lo) * qV (ofN b.lo) ∨ qV (leastV (ofN a.lo) (ofN a.hi) (ofN b.lo) (ofN b.hi)) = qV (ofN a.lo) * qV (ofN b.hi) ∨ qV (leastV (ofN a.lo) (ofN a.hi) (ofN b.lo) (ofN b.hi)) = qV (ofN a.hi) * qV (ofN b.lo) ∨ qV (leastV (ofN a.lo) (ofN a.hi) (ofN b.lo) (ofN b.hi)) = qV (ofN a.hi) * qV (ofN b.hi) := by
  rcases leastV_one (ofN a.lo) (ofN a.hi) (ofN b.lo) (ofN b.hi) with e | e | e | e
  · exact .inl (rr _ _ e)
  · exact .inr (.inl (rr _ _ e))
  · exact .inr (.inr (.inl (rr _ _ e)))
  · exact .inr (.inr (.inr (rr _ _ e)))
 generalize qV (leastV (ofN a.lo) (ofN a.hi) (ofN b.lo) (ofN b.hi)) = V at *
 simp only [qV_ofN] at *
 rw [← h1] at r1 r5
 rw [← h2] at r2 r5
 rw [← h3] at r3 r5
 rw [← h4] at r4 r5
 obtain ⟨s1, s2, s3⟩ := qleast p1 p2
 obtain ⟨t1, t2, t3⟩ := qleast (leastN p1 p2) p3
 obtain ⟨u1, u2, u3⟩ := qleast (leastN (leastN p1 p2) p3) p4
 clear h1 h2 h3 h4 la lb rr
 grind
theorem four_greatest {a b : Ivl} (ha : rightI a = true) (hb : rightI b = true) {p1 p2 p3 p4 : Nm} (h1 : qN p1 = qN a.lo * qN b.lo) (h2 : qN p2 = qN a.lo * qN b.hi) (h3 : qN p3 = qN a.hi * qN b.lo) (h4 : qN p4 = qN a.hi * qN b.hi) :
  ofX (greatN (greatN (greatN p1 p2) p3) p4) = hiV 2 (ofN a.lo) (ofN a.hi) (ofN b.lo) (ofN b.hi) := by
 have ca := canI ha
 have cb := canI hb
 have la := qI_le ha
 have lb := qI_le hb
 show _ = greatV (ofN a.lo) (ofN a.hi) (ofN b.lo) (ofN b.hi)
 refine ofX_of (canV_great ca.1 ca.2 cb.1 cb.2) ?_
 have r1 := greatV_ge la lb Rat.le_refl la Rat.le_refl lb
 have r2 := greatV_ge la lb Rat.le_refl la lb Rat.le_refl
 have r3 := greatV_ge la lb la Rat.le_refl Rat.le_refl lb
 have r4 := greatV_ge la lb la Rat.le_refl lb Rat.le_refl
 have r5 := greatV_one (ofN a.lo) (ofN a.hi) (ofN b.lo) (ofN b.hi)
 generalize qV (greatV (ofN a.lo) (ofN a.hi) (ofN b.lo) (ofN b.hi)) = V at *
 simp only [qV_ofN] at *
 rw [← h1] at r1 r5
 rw [← h2] at r2 r5
 rw [← h3] at r3 r5
 rw [← h4] at r4 r5
 obtain ⟨s1, s2, s3⟩ := qgreat p1 p2
 obtain ⟨t1, t2, t3⟩ := qgreat (greatN p1 p2) p3
 obtain ⟨u1, u2, u3⟩ := qgreat (greatN (greatN p1 p2) p3) p4
 clear h1 h2 h3 h4 la lb
 grind
end Go.Pv
end

section
/- What boxes are reckoned to. No program in it. -/
namespace Go.Pv
def opB (k : Nat) (a b : List Ivl) (p : Int) : List Ivl × Int := if rightB a = true ∧ rightB b = true ∧ a.length = b.length ∧ precF p = true then eachF (fun i x => opI k x (b.getD i default) p) 0 a [] else ([], 1)
def timesB (x : Ivl) (b : List Ivl) (p : Int) : List Ivl × Int := if rightB b = true ∧ rightI x = true ∧ precF p = true then eachF (fun _ y => opI 2 x y p) 0 b [] else ([], 1)
def midB (b : List Ivl) (p : Int) : List Nm × Int := if rightB b = true ∧ precF p = true then eachF (fun _ a => midI a p) 0 b [] else ([], 1)
def hasB (b : List Ivl) (q : List Nm) : Bool := rightB b && decide (q.length = b.length) && (List.range b.length).all fun i => hasI (b.getD i default) (q.getD i default)
def ofB (q : List Nm) : List Ivl := q.map fun x => ⟨x, x⟩
def widthsB (b : List Ivl) (p : Int) : List Nm × Int := if rightB b = true ∧ precF p = true then eachF (fun _ a => wideI a p) 0 b [] else ([], 1)
def amax (l : List Nm) : Nat → Nat
 | 0 => 0
 | n + 1 => if cmpR (l.getD n default) (l.getD (amax l n) default) > 0 then n else amax l n
def wideB (b : List Ivl) (p : Int) : Nm × Int := if (widthsB b p).2 = 0 then ((widthsB b p).1.getD (amax (widthsB b p).1 b.length) default, 0) else (default, (widthsB b p).2)
def blowI (a : Ivl) (p : Int) : Ivl × Int :=
 if (wideI a p).2 ≠ 0 then (default, (wideI a p).2) else if (scaleN (wideI a p).1 (-2)).2 ≠ 0 then (default, (scaleN (wideI a p).1 (-2)).2) else
 if (reckN 1 a.lo (scaleN (wideI a p).1 (-2)).1 p false).2 ≠ 0 ∨ (reckN 0 a.hi (scaleN (wideI a p).1 (-2)).1 p true).2 ≠ 0 then (default, 2) else
 (⟨(reckN 1 a.lo (scaleN (wideI a p).1 (-2)).1 p false).1, (reckN 0 a.hi (scaleN (wideI a p).1 (-2)).1 p true).1⟩, 0)
def blowB (b : List Ivl) (p : Int) : List Ivl × Int := if rightB b = true ∧ precF p = true then eachF (fun _ a => blowI a p) 0 b [] else ([], 1)
def withB (b : List Ivl) (at' : Nat) (x : Ivl) : List Ivl := b.set at' x
def halveB (b : List Ivl) (p : Int) : (List Ivl × List Ivl) × Int :=
 if (widthsB b p).2 ≠ 0 then (([], []), (widthsB b p).2) else
 if (midI (b.getD (amax (widthsB b p).1 b.length) default) p).2 ≠ 0 then (([], []), (midI (b.getD (amax (widthsB b p).1 b.length) default) p).2) else
 ((b.set (amax (widthsB b p).1 b.length) ⟨(b.getD (amax (widthsB b p).1 b.length) default).lo, (midI (b.getD (amax (widthsB b p).1 b.length) default) p).1⟩,
  b.set (amax (widthsB b p).1 b.length) ⟨(midI (b.getD (amax (widthsB b p).1 b.length) default) p).1, (b.getD (amax (widthsB b p).1 b.length) default).hi⟩), 0)
theorem eachF_first {α β : Type} [Inhabited α] (F : Nat → α → β × Int) (l : List α) (h : 0 < l.length) (e : Int) (he : e ≠ 0) (hf : ∀ i x, (F i x).2 = e) : eachF F 0 l [] = ([], e) := by
 cases l with
 | nil => simp at h
 | cons x l =>
  rw [eachF, if_pos (by rw [hf]; exact he), hf]
theorem opI_bad {k : Nat} {a b : Ivl} {p : Int} (h : precF p = false) : opI k a b p = (default, 1) := by
 rw [opI, if_neg (fun hh => by simp [h] at hh)]
theorem wideI_bad {a : Ivl} {p : Int} (h : precF p = false) : wideI a p = (default, 1) := by
 rw [wideI, if_neg (fun hh => by simp [h] at hh)]
theorem blowI_bad {a : Ivl} {p : Int} (h : precF p = false) : blowI a p = (default, 1) := by
 rw [blowI, wideI_bad h, if_pos (by decide)]
theorem wideI_right (a : Ivl) (p : Int) : rightN (wideI a p).1 = true := by
 unfold wideI
 split
 · rename_i h
   have c := canI h.1
   exact rightN_numV (canV_ok (canV_round (canV_less c.2 c.1) _ _))
 · exact rightN_default
theorem scaleN_right (x : Nm) (k : Int) : rightN (scaleN x k).1 = true := by
 unfold scaleN
 split
 · rename_i h
   split
   · exact h
   · split
     · exact rightN_default
     · refine rightN_numV ?_
       have h1 := okV_ofN h
       rcases h1 with h1 | h1
       · exact .inl h1
       · exact .inr h1
 · exact rightN_default
theorem reckN_right (k : Nat) (a b : Nm) (p : Int) (up : Bool) : rightN (reckN k a b p up).1 = true := by
 unfold reckN
 split
 · rename_i h
   exact rightN_numV (canV_ok (canV_round (canV_ex k (canV_ofN h.1) (canV_ofN h.2.1)) _ _))
 · exact rightN_default
theorem numV_e2 (v : Vl) : (numV v).2 = 0 ∨ (numV v).2 = 2 := by
 unfold numV
 split
 · exact .inl rfl
 · split
   · exact .inr rfl
   · exact .inl rfl
theorem reckN_e2 {k : Nat} {a b : Nm} {p : Int} {up : Bool} (ha : rightN a = true) (hb : rightN b = true) (hp : precF p = true) : (reckN k a b p up).2 = 0 ∨ (reckN k a b p up).2 = 2 := by
 rw [reckN, if_pos ⟨ha, hb, hp⟩]; exact numV_e2 _
end Go.Pv
end

section
/- How long values get. No program in it. -/
namespace Go.Pv
def bdV (n k : Nat) (v : Vl) : Prop := bitlen v.m ≤ n ∧ -(k : Int) ≤ v.e ∧ v.e ≤ k
theorem bdV.mono {n k n' k' : Nat} {v : Vl} (h : bdV n k v) (h1 : n ≤ n') (h2 : k ≤ k') : bdV n' k' v := ⟨by have := h.1; omega, by have := h.2.1; omega, by have := h.2.2; omega⟩
theorem bdV_ofN {x : Nm} (h : rightN x = true) : bdV 4096 65536 (ofN x) := by
 have hb := rightN_bd h
 have h1 := bitsW_le x.w
 exact ⟨by show bitlen (valW x.w) ≤ _; unfold bitsW at h1; have := hb.1; omega, hb.2.1, hb.2.2⟩
theorem bdV_odd {neg : Bool} {m : Nat} {e : Int} {n k : Nat} (h1 : bitlen m ≤ n) (h2 : -(k : Int) ≤ e) (h3 : e ≤ k) : bdV n (k + n) (oddV neg m e) := by
 unfold oddV
 split
 · exact ⟨by rw [bitlen_zero]; omega, by simp only; omega, by simp only; omega⟩
 · have ht := tz_le_bitlen m
   have hl := bitlen_mono (Nat.div_le_self m (2 ^ tz m))
   exact ⟨by simp only; omega, by simp only; omega, by simp only; omega⟩
theorem bdV_plus {a b : Vl} {n k : Nat} (ha : bdV n k a) (hb : bdV n k b) : bdV (n + 2 * k + 1) (n + 3 * k + 1) (plusV a b) := by
 unfold plusV
 split
 · exact hb.mono (by omega) (by omega)
 · split
   · exact ha.mono (by omega) (by omega)
   · have h1 := bitlen_mul_pow_le a.m (a.e - min a.e b.e).toNat
     have h2 := bitlen_mul_pow_le b.m (b.e - min a.e b.e).toNat
     have h3 := bitlen_add_le (a.m * 2 ^ (a.e - min a.e b.e).toNat) (b.m * 2 ^ (b.e - min a.e b.e).toNat)
     obtain ⟨a1, a2, a3⟩ := ha
     obtain ⟨b1, b2, b3⟩ := hb
     have hk1 : (a.e - min a.e b.e).toNat ≤ 2 * k := by omega
     have hk2 : (b.e - min a.e b.e).toNat ≤ 2 * k := by omega
     have hm : (mantV a * 2 ^ (a.e - min a.e b.e).toNat + mantV b * 2 ^ (b.e - min a.e b.e).toNat).natAbs ≤ a.m * 2 ^ (a.e - min a.e b.e).toNat + b.m * 2 ^ (b.e - min a.e b.e).toNat := by
      have e1 : ∀ (v : Vl) (j : Nat), (mantV v * 2 ^ j).natAbs = v.m * 2 ^ j := fun v j => by
       rw [Int.natAbs_mul, Int.natAbs_pow]
       congr 1
       unfold mantV; cases v.neg <;> simp
      have := Int.natAbs_add_le (mantV a * 2 ^ (a.e - min a.e b.e).toNat) (mantV b * 2 ^ (b.e - min a.e b.e).toNat)
      rw [e1, e1] at this
      exact this
     have h4 := bitlen_mono hm
     have := bdV_odd (neg := decide (mantV a * 2 ^ (a.e - min a.e b.e).toNat + mantV b * 2 ^ (b.e - min a.e b.e).toNat < 0)) (m := (mantV a * 2 ^ (a.e - min a.e b.e).toNat + mantV b * 2 ^ (b.e - min a.e b.e).toNat).natAbs) (e := min a.e b.e) (n := n + 2 * k + 1) (k := k) (by omega) (by omega) (by omega)
     exact this.mono (by omega) (by omega)
theorem bdV_by {a b : Vl} {n k m l : Nat} (ha : bdV n k a) (hb : bdV m l b) : bdV (n + m) (k + l) (byV a b) := by
 unfold byV
 split
 · exact ⟨by rw [bitlen_zero]; omega, by simp only; omega, by simp only; omega⟩
 · refine ⟨?_, ?_, ?_⟩
   · have h : bitlen (a.m * b.m) ≤ bitlen a.m + bitlen b.m := by
      rw [bitlen_le_iff, Nat.pow_add]
      exact Nat.mul_lt_mul'' (lt_pow_bitlen _) (lt_pow_bitlen _)
     have := ha.1; have := hb.1; simp only; omega
   · have := ha.2.1; have := hb.2.1; simp only; omega
   · have := ha.2.2; have := hb.2.2; simp only; omega
theorem bdV_digits {v : Vl} {n k : Nat} (h : bdV n k v) (hn : n ≤ 1000000000000) : (digitsOf v.m).length ≤ 1000000000000 := by
 have := digitsOf_len v.m
 have := h.1
 omega
end Go.Pv
end

section
/- A number of an interval, by parts of 8. No program in it. -/
namespace Go.Pv
def eighthV (v : Vl) : Vl := if signV v ≠ 0 then { v with e := v.e - 3 } else v
def inV (a : Ivl) (k : Nat) : Vl := eighthV (plusV (byV (ofN a.lo) (oddV false (8 - k) 0)) (byV (ofN a.hi) (oddV false k 0)))
def inN (a : Ivl) (k : Nat) : Nm := if k = 0 then a.lo else if k = 8 then a.hi else if (numV (inV a k)).2 ≠ 0 then a.lo else (numV (inV a k)).1
theorem p2_three : p2 3 = 8 := by
 have := p2_int 3
 rw [← show ((3 : Nat) : Int) = 3 from rfl, ← this]; rfl
theorem qM_eighth (s e : Int) : qM s (e - 3) * 8 = qM s e := by
 unfold qM
 have h := p2_add (e - 3) 3
 rw [show e - 3 + 3 = e from by omega, p2_three] at h
 rw [h]; grind
theorem signV_zero {v : Vl} (h : signV v = 0) : v.m = 0 := by
 unfold signV at h
 split at h
 · assumption
 · split at h <;> omega
theorem qV_eighth (v : Vl) : qV (eighthV v) * 8 = qV v := by
 unfold eighthV
 split
 · exact qM_eighth (mantV v) v.e
 · rename_i h
   rw [qV_m0 (signV_zero (Classical.not_not.1 h))]; grind
theorem canV_eighth {v : Vl} (h : canV v) : canV (eighthV v) := by
 unfold eighthV
 split
 · rename_i h0
   rcases h with h | rfl
   · exact .inl h
   · exact absurd rfl h0
 · exact h
theorem bdV_eighth {v : Vl} {n k : Nat} (h : bdV n k v) : bdV n (k + 3) (eighthV v) := by
 unfold eighthV
 split
 · exact ⟨h.1, by have := h.2.1; simp only; omega, by have := h.2.2; simp only; omega⟩
 · exact h.mono (by omega) (by omega)
theorem qV_whole (k : Nat) : qV (oddV false k 0) = (k : Rat) := by
 rw [qV_odd, if_neg (by simp)]
 unfold qM
 rw [p2_zero]
 show ((k : Int) : Rat) * 1 = _
 rw [Rat.mul_one]; rfl
theorem bdV_whole {k : Nat} (h : k ≤ 8) : bdV 4 4 (oddV false k 0) := by
 have hb : bitlen k ≤ 4 := bitlen_le_iff.2 (by omega)
 have := bdV_odd (neg := false) (m := k) (e := 0) (n := 4) (k := 0) hb (by omega) (by omega)
 exact this.mono (by omega) (by omega)
theorem bdV_in {a : Ivl} {n m k : Nat} (h1 : bdV n m (ofN a.lo)) (h2 : bdV n m (ofN a.hi)) (hk : k ≤ 8) : bdV (n + 2 * m + 13) (n + 3 * m + 20) (inV a k) := by
 have b1 := bdV_by h1 (bdV_whole (k := 8 - k) (by omega))
 have b2 := bdV_by h2 (bdV_whole hk)
 exact (bdV_eighth (bdV_plus b1 b2)).mono (by omega) (by omega)
theorem cast_rat (k : Nat) (h : k ≤ 8) : ((8 - k : Nat) : Rat) = 8 - (k : Rat) := by
 have : ((8 - k : Nat) : Int) = 8 - (k : Int) := by omega
 show (((8 - k : Nat) : Int) : Rat) = 8 - ((k : Int) : Rat)
 rw [this, Rat.intCast_sub]; rfl
theorem inV_mem {a : Ivl} {k : Nat} (ha : rightI a = true) (hk : k ≤ 8) : memI (qV (inV a k)) a := by
 have h := qI_le ha
 rw [qV_ofN, qV_ofN] at h
 have e := qV_eighth (plusV (byV (ofN a.lo) (oddV false (8 - k) 0)) (byV (ofN a.hi) (oddV false k 0)))
 rw [qV_plus, qV_by, qV_by, qV_whole, qV_whole, qV_ofN, qV_ofN, cast_rat k hk] at e
 have k0 : (0 : Rat) ≤ (k : Rat) := Rat.natCast_nonneg
 have k8 : (k : Rat) ≤ 8 := by
  have := Rat.natCast_le_natCast.2 hk
  exact this
 have a1 := mulq_nn (a := qN a.hi - qN a.lo) (b := (k : Rat)) (by grind) k0
 have a2 := mulq_nn (a := qN a.hi - qN a.lo) (b := 8 - (k : Rat)) (by grind) (by grind)
 unfold inV
 generalize qV (eighthV (plusV (byV (ofN a.lo) (oddV false (8 - k) 0)) (byV (ofN a.hi) (oddV false k 0)))) = x at *
 exact ⟨by grind, by grind⟩
theorem canV_in {a : Ivl} {k : Nat} (ha : rightI a = true) : canV (inV a k) := by
 have c := canI ha
 exact canV_eighth (canV_plus (canV_by c.1 (canV_odd _ _ _)) (canV_by c.2 (canV_odd _ _ _)))
theorem inN_right {a : Ivl} (k : Nat) (ha : rightI a = true) : rightN (inN a k) = true := by
 have h := rightI_right ha
 unfold inN
 split
 · exact h.1
 · split
   · exact h.2.1
   · split
     · exact h.1
     · exact rightN_numV (canV_ok (canV_in ha))
theorem inN_mem {a : Ivl} {k : Nat} (ha : rightI a = true) (hk : k ≤ 8) : memI (qN (inN a k)) a := by
 have h := qI_le ha
 rw [qV_ofN, qV_ofN] at h
 unfold inN
 split
 · exact ⟨Rat.le_refl, h⟩
 · split
   · exact ⟨h, Rat.le_refl⟩
   · split
     · exact ⟨Rat.le_refl, h⟩
     · rename_i hn
       rw [(numV_val (canV_in ha) (Classical.not_not.1 hn)).2]
       exact inV_mem ha hk
theorem inN_bd {a : Ivl} {n m k : Nat} (ha : rightI a = true) (h1 : bdV n m (ofN a.lo)) (h2 : bdV n m (ofN a.hi)) (hk : k ≤ 8) : bdV (n + 2 * m + 13) (n + 3 * m + 20) (ofN (inN a k)) := by
 unfold inN
 split
 · exact h1.mono (by omega) (by omega)
 · split
   · exact h2.mono (by omega) (by omega)
   · split
     · exact h1.mono (by omega) (by omega)
     · rename_i hn
       rw [(numV_val (canV_in ha) (Classical.not_not.1 hn)).1]
       exact bdV_in h1 h2 hk
theorem hasI_mem {a : Ivl} {x : Nm} (ha : rightI a = true) (hx : rightN x = true) (h : memI (qN x) a) : hasI a x = true := by
 unfold hasI
 rw [ha, hx]
 simp only [Bool.true_and, Bool.and_eq_true, decide_eq_true_eq]
 exact ⟨cmpN_le.2 h.1, cmpN_le.2 h.2⟩
theorem mem_hasI {a : Ivl} {x : Nm} (h : hasI a x = true) : rightI a = true ∧ rightN x = true ∧ memI (qN x) a := by
 unfold hasI at h
 simp only [Bool.and_eq_true, decide_eq_true_eq] at h
 exact ⟨h.1.1.1, h.1.1.2, cmpN_le.1 h.1.2, cmpN_le.1 h.2⟩
theorem numV_fits {v : Vl} {n k : Nat} (h : bdV n k v) (h1 : n ≤ 4096) (h2 : k ≤ 65536) : (numV v).2 = 0 := by
 unfold numV
 split
 · rfl
 · rw [if_neg]
   have hl := wordsOf_len v.m
   have := h.1; have := h.2.1; have := h.2.2
   omega
end Go.Pv
end
