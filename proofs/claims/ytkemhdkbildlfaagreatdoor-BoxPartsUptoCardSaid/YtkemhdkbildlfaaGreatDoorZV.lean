/- Parts of the walk: H10. -/
import Derived.Test.YtkemhdkbildlfaaGreatDoorZM
set_option linter.unusedVariables false
set_option linter.unusedSimpArgs false
section
/- Numbers, intervals and boxes out of the deck. -/
set_option linter.unusedVariables false
set_option linter.unusedSimpArgs false
set_option maxRecDepth 100000
namespace Go.Pv
open Go.Proofs
/-- A word of 64 bits, whatever it was reckoned from. -/
def isW (x : Int) : Prop := 0 ≤ x ∧ x < 18446744073709551616
theorem isW_ex {x : Int} (h : isW x) : ∃ c : UInt64, x = (c.toNat : Int) := by
  obtain ⟨h1, h2⟩ := h
  refine ⟨UInt64.ofNat x.toNat, ?_⟩
  rw [UInt64.toNat_ofNat']; omega
theorem isW_wrap (x : Int) : isW (IntKind.u64.wrap x) := by
  unfold isW
  simp [IntKind.wrap, IntKind.bits, IntKind.signed]
  omega
theorem isW_and (x y : Int) : isW (bAnd .u64 x y) := isW_wrap _
theorem isW_or (x y : Int) : isW (bOr .u64 x y) := isW_wrap _
theorem isW_xor (x y : Int) : isW (bXor .u64 x y) := isW_wrap _
theorem isW_shl (x y : Int) : isW (bShl .u64 x y) := isW_wrap _
theorem isW_nat (c : UInt64) : isW (c.toNat : Int) := by have := c.toNat_lt; unfold isW; omega
theorem isW_rem64 (x : Int) (h : 0 ≤ x) (y : Int) (hy : 0 < y) (hy2 : y ≤ 1000000) : isW (x.tmod y) := by
  have h1 := Int.tmod_nonneg y h
  have h2 := Int.tmod_lt_of_pos x hy
  unfold isW; omega
def absN (x : Nm) : Nm := if rightN x = true then ⟨false, x.exp, x.w⟩ else default
def minusN (x : Nm) : Nm := if rightN x = true then (if x.w = [] then x else ⟨!x.neg, x.exp, x.w⟩) else default
theorem absN_right (x : Nm) : rightN (absN x) = true := by
  unfold absN
  split
  · rename_i h
    unfold rightN at h ⊢
    simp only at h ⊢
    split
    · rename_i hw; rw [if_pos hw] at h; simp at h; simp [h]
    · rename_i hw; rw [if_neg hw] at h; exact h
  · exact rightN_default
theorem minusN_right (x : Nm) : rightN (minusN x) = true := by
  unfold minusN
  split
  · rename_i h
    split
    · exact h
    · rename_i hw
      unfold rightN at h ⊢
      simp only at h ⊢
      rw [if_neg hw] at h ⊢; exact h
  · exact rightN_default
theorem mant_abs (x : Nm) : 0 ≤ mant (absN x) := by
  unfold absN mant
  split
  · simp
  · decide
theorem mant_minus (x : Nm) : mant (minusN (absN x)) ≤ 0 := by
  have h := absN_right x
  unfold minusN
  rw [if_pos h]
  split
  · rename_i hw
    unfold mant
    rw [hw]; simp [valW, nW, val]
  · unfold mant
    have : (absN x).neg = false := by unfold absN; split <;> rfl
    rw [this]; simp
theorem symm_right (x y : Nm) : rightI ⟨minusN (absN x), absN y⟩ = true := by
  unfold rightI
  simp only [Bool.and_eq_true, decide_eq_true_eq]
  refine ⟨⟨minusN_right _, absN_right _⟩, ?_⟩
  unfold cmpN cmpE
  refine cmpI_le.2 ?_
  have h1 := mant_minus x
  have h2 := mant_abs y
  have p1 : (0 : Int) ≤ 2 ^ ((minusN (absN x)).exp - min (minusN (absN x)).exp (absN y).exp).toNat := Int.pow_nonneg (by decide)
  have p2 : (0 : Int) ≤ 2 ^ ((absN y).exp - min (minusN (absN x)).exp (absN y).exp).toNat := Int.pow_nonneg (by decide)
  have q1 := Int.mul_nonpos_of_nonpos_of_nonneg h1 p1
  have q2 := Int.mul_nonneg h2 p2
  omega
theorem abs_c (x : Nm) (st : Store) (hw : wN x) : PCalls Tryz.prog 67 [.agg (encN x)] st (fun r st' => r = .agg (encN (absN x)) ∧ st' = st) := by
  unfold wN at hw
  refine pcalls_enter none Tryz.func67 rfl fun E => pwp_of_vc ?_
  simp -dsimp only [go_sem]
  refine (refRight_c x st (by omega)).mono ?_
  rintro r st ⟨rfl, rfl⟩
  simp -dsimp only [go_sem]
  refine ck (fun h => ?_) (fun h => ?_)
  · have hr : rightN x = false := by simpa using h
    simp -dsimp only [go_sem]
    rw [absN, if_neg (by simp [hr])]; rfl
  · have hr : rightN x = true := by simpa using h
    simp -dsimp only [go_sem]
    rw [absN, if_pos hr]
theorem minus_c (x : Nm) (st : Store) (hw : wN x) : PCalls Tryz.prog 66 [.agg (encN x)] st (fun r st' => r = .agg (encN (minusN x)) ∧ st' = st) := by
  unfold wN at hw
  refine pcalls_enter none Tryz.func66 rfl fun E => pwp_of_vc ?_
  simp -dsimp only [go_sem]
  refine (refRight_c x st (by omega)).mono ?_
  rintro r st ⟨rfl, rfl⟩
  simp -dsimp only [go_sem]
  refine ck (fun h => ?_) (fun h => ?_)
  · have hr : rightN x = false := by simpa using h
    simp -dsimp only [go_sem]
    rw [minusN, if_neg (by simp [hr])]; rfl
  · have hr : rightN x = true := by simpa using h
    simp -dsimp only [go_sem]
    refine ck (fun h0 => ?_) (fun h0 => ?_)
    · have hw0 : x.w = [] := List.length_eq_zero_iff.1 (nbeq_t (b := 0) h0)
      simp -dsimp only [go_sem]
      rw [minusN, if_pos hr, if_pos hw0]
    · have hw0 : x.w ≠ [] := fun e => nbeq_f (b := 0) h0 (by rw [e]; rfl)
      simp -dsimp only [go_sem]
      rw [minusN, if_pos hr, if_neg hw0]
theorem dim_c (l : List UInt64) (i k : Nat) (st : Store) (h : atD st k l i) (hi : i ≤ 1000000000000) : PCalls Tryz.prog 15 [.gp k 0] st
    (fun r st' => ∃ n : Nat, 1 ≤ n ∧ n ≤ 4 ∧ r = .sc (.int .i64 n) ∧ st' = st.set k (dk l (i + 1))) := by
  refine pcalls_enter none Tryz.func15 rfl fun E => pwp_of_vc ?_
  simp -dsimp only [go_sem]
  refine (deckN_c l i k 4 st h hi (by omega) (by omega)).mono ?_
  rintro r st' ⟨rfl, rfl⟩
  have n1 := nx_lt l i (n := 4) (by omega)
  have x1 : IntKind.i64.wrap (1 + (nx l i 4 : Int)) = ((1 + nx l i 4 : Nat) : Int) := by rw [show (1 + (nx l i 4 : Int)) = ((1 + nx l i 4 : Nat) : Int) from by omega, wrapn_i64 _ (by omega)]
  simp -dsimp only [go_sem, x1]
  exact ⟨1 + nx l i 4, by omega, by omega, rfl⟩
set_option maxHeartbeats 4000000 in
theorem deckNum_c (l : List UInt64) (i k : Nat) (st : Store) (h : atD st k l i) (hi : i ≤ 900000000000) : PCalls Tryz.prog 63 [.gp k 0] st
    (fun r st' => ∃ x j, rightN x = true ∧ i ≤ j ∧ j ≤ i + 4 ∧ r = .agg (encN x) ∧ st' = st.set k (dk l j)) := by
  refine pcalls_enter none Tryz.func63 rfl fun E => pwp_of_vc ?_
  simp -dsimp only [go_sem]
  refine (next_c l i k st h (by omega)).mono ?_
  rintro r st' ⟨rfl, rfl⟩
  have hu := (l.getD i 0).toNat_lt
  obtain ⟨u, hue⟩ : ∃ u, u = (l.getD i 0).toNat := ⟨_, rfl⟩
  rw [← hue] at hu ⊢
  have s5 : bShr .u64 (u : Int) 1 = ((u / 2 : Nat) : Int) := bShr_nat .u64 u 1 (by decide)
  have m1 : ((u / 2 : Nat) : Int).tmod 41 = ((u / 2 % 41 : Nat) : Int) := by rw [show (41 : Int) = ((41 : Nat) : Int) from rfl, ← Int.ofNat_tmod]
  have w1 : IntKind.i64.wrap ((u / 2 % 41 : Nat) : Int) = ((u / 2 % 41 : Nat) : Int) := wrapn_i64 _ (by omega)
  obtain ⟨e, he⟩ : ∃ e : Int, e = ((u / 2 % 41 : Nat) : Int) - 32 := ⟨_, rfl⟩
  have w2 : IntKind.i64.wrap (((u / 2 % 41 : Nat) : Int) - 32) = e := by rw [he]; exact wrap_i64 _ (by omega) (by omega)
  obtain ⟨nb, hnb⟩ : ∃ nb, nb = (bAnd .u64 (u : Int) 1 == 1) := ⟨_, rfl⟩
  simp -dsimp only [go_sem, s5, m1, w1, w2, ← hnb]
  have z30 : bShr .u64 (u : Int) 30 = ((u / 2 ^ 30 : Nat) : Int) := bShr_nat .u64 u 30 (by decide)
  have z20 : bShr .u64 (u : Int) 20 = ((u / 2 ^ 20 : Nat) : Int) := bShr_nat .u64 u 20 (by decide)
  obtain ⟨d, hd⟩ : ∃ d : Nat, d = u / 2 ^ 30 % 9 := ⟨_, rfl⟩
  have y1 : ((u / 2 ^ 30 : Nat) : Int).tmod 9 = (d : Int) := by rw [hd, show (9 : Int) = ((9 : Nat) : Int) from rfl, ← Int.ofNat_tmod]
  have y2 : IntKind.i64.wrap (d : Int) = (d : Int) := wrapn_i64 _ (by omega)
  have y3 : IntKind.i64.wrap (65536 - (d : Int)) = 65536 - (d : Int) := wrap_i64 _ (by omega) (by omega)
  have y4 : IntKind.i64.wrap ((d : Int) - 65536) = (d : Int) - 65536 := wrap_i64 _ (by omega) (by omega)
  obtain ⟨f, hf⟩ : ∃ f : Nat, f = u / 2 ^ 20 % 64 := ⟨_, rfl⟩
  have y5 : ((u / 2 ^ 20 : Nat) : Int).tmod 64 = (f : Int) := by rw [hf, show (64 : Int) = ((64 : Nat) : Int) from rfl, ← Int.ofNat_tmod]
  have y6 : IntKind.i64.wrap (e - 100) = e - 100 := wrap_i64 _ (by omega) (by omega)
  have y7 : IntKind.i64.wrap (e - 30) = e - 30 := wrap_i64 _ (by omega) (by omega)
  have h1 : atD (st.set k (dk l (i + 1))) k l (i + 1) := h.set (i + 1)
  have h2 : atD (st.set k (dk l (i + 2))) k l (i + 2) := h.set (i + 2)
  have h3 : atD (st.set k (dk l (i + 3))) k l (i + 3) := h.set (i + 3)
  refine ck (fun q0 => ?_) (fun q0 => ?_)
  · simp -dsimp only [go_sem]
    obtain ⟨c, hc⟩ := isW_ex (isW_and (bShr .u64 (u : Int) 10) 31)
    rw [hc]
    refine (num_c nb [c] (e) _ (by simp) (by omega) (by omega)).mono ?_
    rintro r st' ⟨rfl, rfl⟩
    simp -dsimp only [go_sem, set_dk]
    exact ⟨(makeN nb [c] (e)).1, i + 1, rightN_makeN _ _ _, by omega, by omega, rfl, rfl⟩
  simp -dsimp only [go_sem]
  refine ck (fun q1 => ?_) (fun q1 => ?_)
  · simp -dsimp only [go_sem]
    refine (next_c l (i + 1) k _ h1 (by omega)).mono ?_
    rintro r st' ⟨rfl, rfl⟩
    simp -dsimp only [go_sem, set_dk]
    refine (next_c l (i + 2) k _ h2 (by omega)).mono ?_
    rintro r st' ⟨rfl, rfl⟩
    simp -dsimp only [go_sem, set_dk]
    refine (next_c l (i + 3) k _ h3 (by omega)).mono ?_
    rintro r st' ⟨rfl, rfl⟩
    simp -dsimp only [go_sem, set_dk, y6]
    refine (num_c nb [l.getD (i + 1) 0, l.getD (i + 2) 0, l.getD (i + 3) 0] (e - 100) _ (by simp) (by omega) (by omega)).mono ?_
    rintro r st' ⟨rfl, rfl⟩
    simp -dsimp only [go_sem, set_dk]
    exact ⟨(makeN nb [l.getD (i + 1) 0, l.getD (i + 2) 0, l.getD (i + 3) 0] (e - 100)).1, i + 4, rightN_makeN _ _ _, by omega, by omega, rfl, rfl⟩
  simp -dsimp only [go_sem]
  refine ck (fun q2 => ?_) (fun q2 => ?_)
  · simp -dsimp only [go_sem]
    obtain ⟨c, hc⟩ := isW_ex (isW_or 9223372036854775808 (bShr .u64 (u : Int) 11))
    obtain ⟨c2, hc2⟩ := isW_ex (isW_or 9223372036854775808 (u : Int))
    rw [hc, hc2]
    refine (num_c nb [c, c2] (e) _ (by simp) (by omega) (by omega)).mono ?_
    rintro r st' ⟨rfl, rfl⟩
    simp -dsimp only [go_sem, set_dk]
    exact ⟨(makeN nb [c, c2] (e)).1, i + 1, rightN_makeN _ _ _, by omega, by omega, rfl, rfl⟩
  have last : True := trivial
  simp -dsimp only [go_sem]
  refine ck (fun q3 => ?_) (fun q3 => ?_)
  · simp -dsimp only [go_sem]
    refine ck (fun q4 => ?_) (fun q4 => ?_)
    · simp -dsimp only [go_sem, z30, y1, y2, y3]
      obtain ⟨c, hc⟩ := isW_ex (isW_or 1 (bAnd .u64 (bShr .u64 (u : Int) 20) 15))
      rw [hc]
      refine (num_c nb [c] (65536 - (d : Int)) _ (by simp) (by omega) (by omega)).mono ?_
      rintro r st' ⟨rfl, rfl⟩
      simp -dsimp only [go_sem, set_dk]
      exact ⟨(makeN nb [c] (65536 - (d : Int))).1, i + 1, rightN_makeN _ _ _, by omega, by omega, rfl, rfl⟩
    simp -dsimp only [go_sem]
    refine ck (fun q5 => ?_) (fun q5 => ?_)
    · simp -dsimp only [go_sem, z30, y1, y2, y4]
      obtain ⟨c, hc⟩ := isW_ex (isW_or 1 (bAnd .u64 (bShr .u64 (u : Int) 20) 15))
      rw [hc]
      refine (num_c nb [c] ((d : Int) - 65536) _ (by simp) (by omega) (by omega)).mono ?_
      rintro r st' ⟨rfl, rfl⟩
      simp -dsimp only [go_sem, set_dk]
      exact ⟨(makeN nb [c] ((d : Int) - 65536)).1, i + 1, rightN_makeN _ _ _, by omega, by omega, rfl, rfl⟩
    simp -dsimp only [go_sem, z20, y5]
    refine ⟨by omega, ?_⟩
    obtain ⟨c, hc⟩ := isW_ex (isW_shl 1 (f : Int))
    rw [hc]
    refine (num_c nb [c] (e) _ (by simp) (by omega) (by omega)).mono ?_
    rintro r st' ⟨rfl, rfl⟩
    simp -dsimp only [go_sem, set_dk]
    exact ⟨(makeN nb [c] (e)).1, i + 1, rightN_makeN _ _ _, by omega, by omega, rfl, rfl⟩
  simp -dsimp only [go_sem]
  refine (next_c l (i + 1) k _ h1 (by omega)).mono ?_
  rintro r st' ⟨rfl, rfl⟩
  simp -dsimp only [go_sem, set_dk, y7]
  obtain ⟨c, hc⟩ := isW_ex (isW_or (bShr .u64 (u : Int) 10) (bShl .u64 ((l.getD (i + 1) 0).toNat : Int) 20))
  rw [hc]
  refine (num_c nb [c] (e - 30) _ (by simp) (by omega) (by omega)).mono ?_
  rintro r st' ⟨rfl, rfl⟩
  simp -dsimp only [go_sem, set_dk]
  exact ⟨(makeN nb [c] (e - 30)).1, i + 2, rightN_makeN _ _ _, by omega, by omega, rfl, rfl⟩
set_option maxHeartbeats 2000000 in
theorem deckIv_c (l : List UInt64) (i k : Nat) (st : Store) (h : atD st k l i) (hi : i ≤ 800000000000) : PCalls Tryz.prog 25 [.gp k 0] st
    (fun r st' => ∃ x j, rightI x = true ∧ i ≤ j ∧ j ≤ i + 10 ∧ r = .agg (encI x) ∧ st' = st.set k (dk l j)) := by
  have h1 : atD (st.set k (dk l (i + 1))) k l (i + 1) := h.set (i + 1)
  have h2 : atD (st.set k (dk l (i + 2))) k l (i + 2) := h.set (i + 2)
  refine pcalls_enter none Tryz.func25 rfl fun E => pwp_of_vc ?_
  simp -dsimp only [go_sem]
  refine (deckN_c l i k 6 st h (by omega) (by omega) (by omega)).mono ?_
  rintro r st' ⟨rfl, rfl⟩
  simp -dsimp only [go_sem]
  refine ck (fun q0 => ?_) (fun q0 => ?_)
  · simp -dsimp only [go_sem]
    refine (deckNum_c l (i + 1) k _ h1 (by omega)).mono ?_
    rintro r st' ⟨x, j, hx, hj1, hj2, rfl, rfl⟩
    simp -dsimp only [go_sem, set_dk]
    refine (point_c x _).mono ?_
    rintro r st' ⟨rfl, rfl⟩
    simp -dsimp only [go_sem]
    exact ⟨⟨x, x⟩, j, point_right hx, by omega, by omega, rfl, rfl⟩
  simp -dsimp only [go_sem]
  refine ck (fun q1 => ?_) (fun q1 => ?_)
  · simp -dsimp only [go_sem]
    refine (small_c l (i + 1) k _ h1 (by omega)).mono ?_
    rintro r st' ⟨x, hx, rfl, rfl⟩
    simp -dsimp only [go_sem, set_dk]
    refine (small_c l (i + 2) k _ h2 (by omega)).mono ?_
    rintro r st' ⟨y, hy, rfl, rfl⟩
    simp -dsimp only [go_sem, set_dk]
    refine (between_c x y _ (rightN_wN hx) (rightN_wN hy)).mono ?_
    rintro r st' ⟨rfl, rfl⟩
    simp -dsimp only [go_sem]
    exact ⟨betw x y, i + 3, betw_right hx hy, by omega, by omega, rfl, rfl⟩
  simp -dsimp only [go_sem]
  refine ck (fun q2 => ?_) (fun q2 => ?_)
  · simp -dsimp only [go_sem]
    refine (deckNum_c l (i + 1) k _ h1 (by omega)).mono ?_
    rintro r st' ⟨x, j, hx, hj1, hj2, rfl, rfl⟩
    simp -dsimp only [go_sem, set_dk]
    refine (abs_c x _ (rightN_wN hx)).mono ?_
    rintro r st' ⟨rfl, rfl⟩
    simp -dsimp only [go_sem]
    refine (minus_c (absN x) _ (rightN_wN (absN_right x))).mono ?_
    rintro r st' ⟨rfl, rfl⟩
    simp -dsimp only [go_sem]
    refine (deckNum_c l j k _ (h.set j) (by omega)).mono ?_
    rintro r st' ⟨y, j2, hy, hj3, hj4, rfl, rfl⟩
    simp -dsimp only [go_sem, set_dk]
    refine (abs_c y _ (rightN_wN hy)).mono ?_
    rintro r st' ⟨rfl, rfl⟩
    simp -dsimp only [go_sem]
    exact ⟨⟨minusN (absN x), absN y⟩, j2, symm_right x y, by omega, by omega, rfl, rfl⟩
  simp -dsimp only [go_sem]
  refine (deckNum_c l (i + 1) k _ h1 (by omega)).mono ?_
  rintro r st' ⟨x, j, hx, hj1, hj2, rfl, rfl⟩
  simp -dsimp only [go_sem, set_dk]
  refine (deckNum_c l j k _ (h.set j) (by omega)).mono ?_
  rintro r st' ⟨y, j2, hy, hj3, hj4, rfl, rfl⟩
  simp -dsimp only [go_sem, set_dk]
  refine (between_c x y _ (rightN_wN hx) (rightN_wN hy)).mono ?_
  rintro r st' ⟨rfl, rfl⟩
  simp -dsimp only [go_sem]
  exact ⟨betw x y, j2, betw_right hx hy, by omega, by omega, rfl, rfl⟩
theorem deckBox_c (l : List UInt64) (i k n : Nat) (st : Store) (h : atD st k l i) (hi : i ≤ 700000000000) (hn1 : 1 ≤ n) (hn : n ≤ 4) : PCalls Tryz.prog 23 [.gp k 0, .sc (.int .i64 n)] st
    (fun r st' => ∃ b j, rightB b = true ∧ b.length = n ∧ i ≤ j ∧ j ≤ i + 40 ∧ r = .sl .no (encIs b) ∧ st' = st.set k (dk l j)) := by
  refine pcalls_enter none Tryz.func23 rfl fun E => pwp_of_vc ?_
  simp -dsimp only [go_sem]
  refine pwp_claim 5 6 ?_
  simp -dsimp only [go_sem]
  refine pwp_loop_mask [true, true, false, false, false, true, true] 0 1 (fun m s => ∃ q b j, m = n - q ∧ q ≤ n ∧ b.length = q ∧ b.all rightI = true ∧ i ≤ j ∧ j ≤ i + 10 * q ∧
    s = ⟨[.gp k 0, .sc (.int .i64 (n : Nat)), .junk, .junk, .junk, .sl (.own 0) (encIs b), .sc (.int .i64 (q : Nat))] ++ List.replicate 11 .junk, [], [(b.length, 6)], st.set k (dk l j)⟩) n ?_ ?_
  · simp -dsimp only [go_sem]
    exact ⟨0, [], i, by omega, by omega, rfl, rfl, by omega, by omega, by rw [h.same]; rfl⟩
  · rintro m s ⟨q, b, j, rfl, hq, hb, hr, hj, hj2, rfl⟩
    simp -dsimp only [go_sem]
    refine ck (fun h1 => ?_) (fun h1 => ?_)
    · have hlt : q < n := by have := of_decide_eq_true h1; omega
      have x1 : IntKind.i64.wrap ((q : Int) + 1) = ((q + 1 : Nat) : Int) := by rw [show ((q : Int) + 1) = ((q + 1 : Nat) : Int) from rfl, wrapn_i64 _ (by omega)]
      simp -dsimp only [go_sem]
      refine (deckIv_c l j k _ (h.set j) (by omega)).mono ?_
      rintro r st' ⟨x, j2, hx, hj3, hj4, rfl, rfl⟩
      simp -dsimp only [go_sem, set_dk, x1]
      exact ⟨⟨by omega, by omega⟩, n - (q + 1), by omega, q + 1, b ++ [x], j2, rfl, by omega, by simp [hb], by simp [hx]; simpa using hr, by omega, by omega, by simp [encIs, encI]⟩
    · have hge : q = n := by have := of_decide_eq_false h1; omega
      simp -dsimp only [go_sem]
      refine pwp_plain [false, false, false, false, false, true] (pwp_of_vc ?_)
      simp -dsimp only [go_sem]
      refine ⟨b, j, ?_, by omega, by omega, by omega, rfl, rfl⟩
      unfold rightB
      simp only [Bool.and_eq_true, decide_eq_true_eq]
      exact ⟨⟨hr, by omega⟩, by omega⟩
end Go.Pv
end
