/- Parts of the walk: M20, M21, M22, C10, C11, C12. -/
import Derived.Test.YtclholhblbelbaaZQ
import Derived.Test.YtclholhblbelbaaZE
import Derived.Test.YtclholhblbelbaaZP
import Derived.Test.YtclholhblbelbaaZF
import Derived.Test.YtclholhblbelbaaZH
import Derived.Test.YtclholhblbelbaaZL
set_option linter.unusedVariables false
set_option linter.unusedSimpArgs false
section
/- What is read of bytes: numbers. No program in it. -/
set_option linter.unusedVariables false
set_option linter.unusedSimpArgs false
namespace Go.Pv
/-- Words, as long as there are bytes: the words, what is left, the error. -/
def readWs : Nat → List UInt8 → List UInt64 → List UInt64 × List UInt8 × Int
  | 0, l, w => (w, l, 0)
  | n + 1, l, w => if l.length < 8 then (w ++ [0], l, 10) else readWs n (l.drop 8) (w ++ [UInt64.ofNat (wordV l 8)])
/-- A number's head: it, what is left, the error. -/
def rp1 (l : List UInt8) : Nat × List UInt8 × Int := ((readU l 0).1, (readU l 0).2.1, if 64 < (readU l 0).1 / 2 ∧ (readU l 0).2.2 = 0 then 11 else (readU l 0).2.2)
/-- Its exponent. -/
def rp2 (u : Nat) (l : List UInt8) (e : Int) : Int × List UInt8 × Int := if e = 0 ∧ 1 < u then (unzig (readU l 0).1, (readU l 0).2.1, (readU l 0).2.2) else (0, l, e)
/-- Its words. -/
def rp3 (u : Nat) (l : List UInt8) (e : Int) : List UInt64 × List UInt8 × Int := if e = 0 then readWs (u / 2) l [] else ([], l, e)
def rp4 (x : Nm) (l : List UInt8) (e : Int) : Nm × List UInt8 × Int := (x, l, if e = 0 ∧ rightN x = false then 11 else e)
/-- A number's parts, by a reader without an error: how it is left by Reader.number, before whole looks at the error. -/
def readParts (l : List UInt8) : Nm × List UInt8 × Int :=
  let u := rp1 l
  let i := rp2 u.1 u.2.1 u.2.2
  let ws := rp3 u.1 i.2.1 i.2.2
  rp4 ⟨decide (u.1 % 2 = 1), i.1, ws.1⟩ ws.2.1 ws.2.2
/-- Reader.Num. -/
def readN (l : List UInt8) (e : Int) : Nm × List UInt8 × Int :=
  if e ≠ 0 then (default, l, e) else if (readParts l).2.2 = 0 then readParts l else (default, l, (readParts l).2.2)
theorem readU_err (l : List UInt8) (e : Int) (h : (readU l e).2.2 ≠ 0) : (readU l e).1 = 0 := by
  unfold readU at h ⊢
  split
  · rfl
  · rename_i he
    rw [if_neg he] at h
    split
    · rename_i h2; rw [if_pos h2] at h; exact absurd rfl h
    · rfl
theorem readWs_len : ∀ (n : Nat) (l : List UInt8) (w : List UInt64), (readWs n l w).2.1.length ≤ l.length ∧ (readWs n l w).1.length ≤ w.length + n
  | 0, l, w => by simp [readWs]
  | n + 1, l, w => by
    unfold readWs
    split
    · simp
    · have := readWs_len n (l.drop 8) (w ++ [UInt64.ofNat (wordV l 8)])
      simp at this ⊢
      omega
end Go.Pv
end

section
/- Reading inverts putting, and each number has one form: digits, words. No program in it. -/
set_option linter.unusedVariables false
set_option linter.unusedSimpArgs false
namespace Go.Pv
theorem ofNat8 (n : Nat) (h : n < 256) : (UInt8.ofNat n).toNat = n := by simp; omega
theorem uvar_pos (n : Nat) : 1 ≤ (uvar n).length := by
  rw [uvar]; split <;> simp
theorem lookF_uvar : ∀ (n i v : Nat) (l : List UInt8), i ≤ 9 → n * 2 ^ (7 * i) < 18446744073709551616 → (0 < i → 0 < n) → lookF i v (uvar n ++ l) = (v + n * 2 ^ (7 * i), i + (uvar n).length, 0) := by
  intro n
  induction n using Nat.strongRecOn with
  | _ n ih =>
    intro i v l hi hb h0
    by_cases hn : n < 128
    · rw [uvar_small hn, List.singleton_append, lookF, ofNat8 n (by omega), if_neg (by omega), if_neg (by omega), if_neg ?_]
      · rfl
      · rintro (h | ⟨rfl, h⟩)
        · omega
        · have h2 := Nat.mul_le_mul_right (2 ^ (7 * 9)) (by omega : 2 ≤ n)
          omega
    · have hi9 : i ≠ 9 := by
        rintro rfl
        have h2 := Nat.mul_le_mul_right (2 ^ (7 * 9)) (by omega : 128 ≤ n)
        omega
      have e : 2 ^ (7 * (i + 1)) = 128 * 2 ^ (7 * i) := by rw [show 7 * (i + 1) = 7 * i + 7 from by omega, Nat.pow_add, Nat.mul_comm]
      have hd : n = n % 128 + 128 * (n / 128) := by omega
      have hs : n * 2 ^ (7 * i) = n % 128 * 2 ^ (7 * i) + n / 128 * 2 ^ (7 * (i + 1)) := by
        rw [e]
        conv => lhs; rw [hd]
        rw [Nat.add_mul, Nat.mul_comm 128 (n / 128), Nat.mul_assoc]
      rw [uvar_big (by omega), List.cons_append, lookF, ofNat8 _ (by omega), if_neg (by omega), if_pos (by omega), ih (n / 128) (by omega) _ _ _ (by omega) (by omega) (by omega)]
      refine Prod.ext ?_ (Prod.ext ?_ rfl)
      · show v + (n % 128 + 128) % 128 * 2 ^ (7 * i) + n / 128 * 2 ^ (7 * (i + 1)) = _
        rw [Nat.add_mod_right, Nat.mod_mod]; omega
      · simp only [List.length_cons]; omega
theorem readU_uvar (n : Nat) (l : List UInt8) (h : n < 18446744073709551616) : readU (uvar n ++ l) 0 = (n, l, 0) := by
  rw [readU, if_neg (by simp), lookF_uvar n 0 0 l (by omega) (by omega) (by omega), if_pos rfl]
  simp
/-- p is the beginning of l, and not all of it. -/
def Pre (p l : List UInt8) : Prop := p <+: l ∧ p.length < l.length
theorem Pre.append {p a b : List UInt8} (h : Pre p (a ++ b)) : Pre p a ∨ ∃ q, p = a ++ q ∧ Pre q b := by
  obtain ⟨h1, h2⟩ := h
  by_cases hl : p.length < a.length
  · exact .inl ⟨List.prefix_of_prefix_length_le h1 (List.prefix_append a b) (by omega), hl⟩
  · have h3 : a <+: p := List.prefix_of_prefix_length_le (List.prefix_append a b) h1 (by omega)
    obtain ⟨q, rfl⟩ := h3
    refine .inr ⟨q, rfl, ?_, ?_⟩
    · exact (List.prefix_append_right_inj a).1 h1
    · simp at h2; exact h2
theorem Pre.nil {p : List UInt8} (h : Pre p []) : False := by have := h.2; simp at this
theorem lookF_pre : ∀ (n i v : Nat) (p : List UInt8), i ≤ 9 → n * 2 ^ (7 * i) < 18446744073709551616 → Pre p (uvar n) → lookF i v p = (0, 0, 10) := by
  intro n
  induction n using Nat.strongRecOn with
  | _ n ih =>
    intro i v p hi hb ⟨h1, h2⟩
    cases p with
    | nil => rw [lookF, if_neg (by omega)]
    | cons c p =>
      by_cases hn : n < 128
      · rw [uvar_small hn] at h2; simp at h2
      · have hi9 : i ≠ 9 := by
          rintro rfl
          have h2 := Nat.mul_le_mul_right (2 ^ (7 * 9)) (by omega : 128 ≤ n)
          omega
        have e : 2 ^ (7 * (i + 1)) = 128 * 2 ^ (7 * i) := by rw [show 7 * (i + 1) = 7 * i + 7 from by omega, Nat.pow_add, Nat.mul_comm]
        have hd : n = n % 128 + 128 * (n / 128) := by omega
        have hs : n * 2 ^ (7 * i) = n % 128 * 2 ^ (7 * i) + n / 128 * 2 ^ (7 * (i + 1)) := by
          rw [e]
          conv => lhs; rw [hd]
          rw [Nat.add_mul, Nat.mul_comm 128 (n / 128), Nat.mul_assoc]
        rw [uvar_big (by omega)] at h1 h2
        obtain ⟨rfl, h3⟩ := List.cons_prefix_cons.1 h1
        simp at h2
        rw [lookF, ofNat8 _ (by omega), if_neg (by omega), if_pos (by omega), ih (n / 128) (by omega) _ _ _ (by omega) (by omega) ⟨h3, h2⟩]
theorem readU_pre (n : Nat) (p : List UInt8) (h : n < 18446744073709551616) (hp : Pre p (uvar n)) : readU p 0 = (0, p, 10) := by
  rw [readU, if_neg (by simp), lookF_pre n 0 0 p (by omega) (by omega) hp]; rfl
theorem lookF_one : ∀ (l : List UInt8) (i v : Nat), (lookF i v l).2.2 = 0 → ∃ n r, (lookF i v l).1 = v + n * 2 ^ (7 * i) ∧ (lookF i v l).2.1 = i + (uvar n).length ∧ l = uvar n ++ r ∧ (0 < i → 0 < n)
  | [], i, v, h => by
    rw [lookF] at h
    by_cases h10 : 10 ≤ i <;> simp [h10] at h
  | c :: l, i, v, h => by
    have hc := c.toNat_lt
    rw [lookF] at h ⊢
    split at h
    · simp at h
    · rename_i h10
      rw [if_neg h10]
      split at h
      · rename_i hc1
        rw [if_pos hc1]
        obtain ⟨n, r, e1, e2, e3, e4⟩ := lookF_one l (i + 1) _ h
        refine ⟨c.toNat % 128 + 128 * n, r, ?_, ?_, ?_, fun _ => by have := e4 (by omega); omega⟩
        · rw [e1, Nat.add_mul, show 2 ^ (7 * (i + 1)) = 128 * 2 ^ (7 * i) from by rw [show 7 * (i + 1) = 7 * i + 7 from by omega, Nat.pow_add, Nat.mul_comm], Nat.mul_comm 128 n, Nat.mul_assoc]
          omega
        · have hn := e4 (by omega)
          rw [e2, uvar_big (n := c.toNat % 128 + 128 * n) (by omega), show (c.toNat % 128 + 128 * n) / 128 = n from by omega, List.length_cons]; omega
        · have hn := e4 (by omega)
          rw [uvar_big (n := c.toNat % 128 + 128 * n) (by omega), show (c.toNat % 128 + 128 * n) / 128 = n from by omega, List.cons_append, ← e3]
          congr 1
          rw [show (c.toNat % 128 + 128 * n) % 128 + 128 = c.toNat from by omega]
          simp
      · rename_i hc1
        rw [if_neg hc1]
        split at h
        · simp at h
        · rename_i hc2
          rw [if_neg hc2]
          refine ⟨c.toNat, l, rfl, ?_, ?_, fun hi => by omega⟩
          · rw [uvar_small (by omega)]; rfl
          · rw [uvar_small (by omega)]; simp
theorem readU_one (l : List UInt8) (h : (readU l 0).2.2 = 0) : l = uvar (readU l 0).1 ++ (readU l 0).2.1 := by
  have e : readU l 0 = readU l 0 := rfl
  conv at e => rhs; unfold readU
  rw [if_neg (by simp)] at e
  by_cases h0 : (lookF 0 0 l).2.2 = 0
  · rw [if_pos h0] at e
    obtain ⟨n, r, e1, e2, e3, e4⟩ := lookF_one l 0 0 h0
    rw [e]
    simp only [e1, e2]
    simp only [Nat.zero_add, Nat.mul_zero, Nat.pow_zero, Nat.mul_one]
    conv => lhs; rw [e3]
    conv => rhs; rw [e3]
    simp
  · rw [if_neg h0] at e; rw [e] at h; exact absurd h h0
theorem wordV_congr (a b : List UInt8) : ∀ n, (∀ i, i < n → a.getD i 0 = b.getD i 0) → wordV a n = wordV b n
  | 0, _ => rfl
  | n + 1, h => by rw [wordV, wordV, wordV_congr a b n (fun i hi => h i (by omega)), h n (by omega)]
theorem wordB_getD (w n i : Nat) (h : i < n) : (wordB w n).getD i 0 = UInt8.ofNat (w / 2 ^ (8 * i)) := by
  rw [wordB, List.getD_eq_getElem?_getD]; simp [h]
theorem wordV_wordB (w : Nat) (l : List UInt8) : ∀ n m, n ≤ m → wordV (wordB w m ++ l) n = w % 2 ^ (8 * n)
  | 0, m, _ => by simp [wordV, Nat.mod_one]
  | n + 1, m, h => by
    rw [wordV, wordV_wordB w l n m (by omega), List.getD_eq_getElem?_getD, List.getElem?_append_left (by rw [wordB_length]; omega), ← List.getD_eq_getElem?_getD, wordB_getD w m n (by omega)]
    have e : 2 ^ (8 * (n + 1)) = 2 ^ (8 * n) * 256 := by rw [show 8 * (n + 1) = 8 * n + 8 from by omega, Nat.pow_add]
    rw [e, Nat.mod_mul]
    simp [Nat.mul_comm]
theorem wordB_wordV (l : List UInt8) (h : 8 ≤ l.length) : l = wordB (wordV l 8) 8 ++ l.drop 8 := by
  have key : ∀ n i, i < n → wordV l n / 2 ^ (8 * i) % 256 = (l.getD i 0).toNat := by
    intro n
    induction n with
    | zero => intro i hi; omega
    | succ n ih =>
      intro i hi
      have h1 := wordV_lt l n
      have h2 := (l.getD n 0).toNat_lt
      rw [wordV]
      by_cases e : i = n
      · subst e
        rw [Nat.add_mul_div_right _ _ (Nat.two_pow_pos _), Nat.div_eq_of_lt h1]; omega
      · have h3 : 2 ^ (8 * n) = 2 ^ (8 * i) * (256 * 2 ^ (8 * (n - i - 1))) := by
          rw [show (256 : Nat) = 2 ^ 8 from rfl, ← Nat.pow_add, ← Nat.pow_add]; congr 1; omega
        rw [h3, show (l.getD n 0).toNat * (2 ^ (8 * i) * (256 * 2 ^ (8 * (n - i - 1)))) = 2 ^ (8 * i) * ((l.getD n 0).toNat * 2 ^ (8 * (n - i - 1)) * 256) from by
          rw [Nat.mul_left_comm, ← Nat.mul_assoc (l.getD n 0).toNat, Nat.mul_right_comm], Nat.add_mul_div_left _ _ (Nat.two_pow_pos _), Nat.add_mul_mod_self_right]
        exact ih i (by omega)
  conv => lhs; rw [← List.take_append_drop 8 l]
  congr 1
  refine List.ext_getElem (by rw [List.length_take, wordB_length]; omega) fun i h1 h2 => ?_
  rw [wordB_length] at h2
  have e1 := wordB_getD (wordV l 8) 8 i h2
  rw [List.getD_eq_getElem?_getD, List.getElem?_eq_getElem (by rw [wordB_length]; omega), Option.getD_some] at e1
  rw [e1, List.getElem_take]
  have e2 := key 8 i h2
  rw [List.getD_eq_getElem?_getD, List.getElem?_eq_getElem (by omega), Option.getD_some] at e2
  apply UInt8.toNat_inj.1
  rw [← e2]
  simp
theorem wordsB_cons (w : UInt64) (ws : List UInt64) : wordsB (w :: ws) = wordB w.toNat 8 ++ wordsB ws := by simp [wordsB]
theorem readWs_wordsB : ∀ (ws : List UInt64) (l : List UInt8) (acc : List UInt64), readWs ws.length (wordsB ws ++ l) acc = (acc ++ ws, l, 0)
  | [], l, acc => by simp [readWs, wordsB]
  | w :: ws, l, acc => by
    rw [List.length_cons, readWs, if_neg (by rw [wordsB_cons]; simp [wordB_length]), wordsB_cons, List.append_assoc, wordV_wordB _ _ 8 8 (by omega), Nat.mod_eq_of_lt w.toNat_lt,
      List.drop_append_of_le_length (by rw [wordB_length]; omega), List.drop_eq_nil_of_le (by rw [wordB_length]; omega), List.nil_append, readWs_wordsB ws l]
    simp
theorem readWs_pre : ∀ (ws : List UInt64) (p : List UInt8) (acc : List UInt64), Pre p (wordsB ws) → (readWs ws.length p acc).2.2 = 10
  | [], p, acc, h => (Pre.nil h).elim
  | w :: ws, p, acc, h => by
    rw [wordsB_cons] at h
    rw [List.length_cons, readWs]
    rcases h.append with h | ⟨q, rfl, hq⟩
    · rw [if_pos (by have := h.2; rw [wordB_length] at this; exact this)]
    · rw [if_neg (by simp [wordB_length]), List.drop_append_of_le_length (by rw [wordB_length]; omega), List.drop_eq_nil_of_le (by rw [wordB_length]; omega), List.nil_append]
      exact readWs_pre ws q _ hq
theorem readWs_err : ∀ (n : Nat) (l : List UInt8) (acc : List UInt64), (readWs n l acc).2.2 = 0 ∨ (readWs n l acc).2.2 = 10
  | 0, l, acc => .inl rfl
  | n + 1, l, acc => by
    rw [readWs]; split
    · exact .inr rfl
    · exact readWs_err n _ _
theorem readWs_one : ∀ (n : Nat) (l : List UInt8) (acc : List UInt64), (readWs n l acc).2.2 = 0 → ∃ ws, (readWs n l acc).1 = acc ++ ws ∧ ws.length = n ∧ l = wordsB ws ++ (readWs n l acc).2.1
  | 0, l, acc, h => ⟨[], by simp [readWs], rfl, by simp [readWs, wordsB]⟩
  | n + 1, l, acc, h => by
    rw [readWs] at h ⊢
    split at h
    · simp at h
    · rename_i h8
      rw [if_neg h8]
      obtain ⟨ws, e1, e2, e3⟩ := readWs_one n _ _ h
      refine ⟨UInt64.ofNat (wordV l 8) :: ws, by rw [e1]; simp, by simp [e2], ?_⟩
      rw [wordsB_cons, List.append_assoc, ← e3]
      have := wordV_lt l 8
      rw [show (UInt64.ofNat (wordV l 8)).toNat = wordV l 8 from by simp; omega]
      exact wordB_wordV l (by omega)
end Go.Pv
end

section
/- Reading inverts putting, and each number has one form: numbers, intervals, boxes. No program in it. -/
set_option linter.unusedVariables false
set_option linter.unusedSimpArgs false
namespace Go.Pv
theorem rightN_ty {x : Nm} (h : rightN x = true) : -65536 ≤ x.exp ∧ x.exp ≤ 65536 ∧ x.w.length ≤ 64 ∧ (x.w = [] → x.neg = false ∧ x.exp = 0) := by
  unfold rightN at h
  split at h
  · rename_i hw
    simp at h
    rw [hw]; simp; exact ⟨by omega, by omega, h.1, h.2⟩
  · rename_i hw
    simp only [Bool.and_eq_true, decide_eq_true_eq] at h
    exact ⟨by omega, by omega, by omega, fun e => absurd e hw⟩
theorem headN_facts {x : Nm} (hl : x.w.length ≤ 64) : headN x < 18446744073709551616 ∧ headN x / 2 = x.w.length ∧ decide (headN x % 2 = 1) = x.neg := by
  unfold headN
  cases x.neg <;> simp <;> omega
theorem rp1_uvar (u : Nat) (l : List UInt8) (h : u < 18446744073709551616) (h2 : u / 2 ≤ 64) : rp1 (uvar u ++ l) = (u, l, 0) := by
  unfold rp1
  rw [readU_uvar u l h]
  simp only
  rw [if_neg (by omega)]
theorem readParts_num (x : Nm) (l : List UInt8) (h : rightN x = true) : readParts (numB x ++ l) = (x, l, 0) := by
  obtain ⟨r1, r2, r3, r4⟩ := rightN_ty h
  obtain ⟨h1, h2, h3⟩ := headN_facts r3
  unfold readParts numB
  rw [if_pos h, List.append_assoc, rp1_uvar _ _ h1 (by omega)]
  by_cases hw : x.w = []
  · obtain ⟨n1, n2⟩ := r4 hw
    have h0 : headN x = 0 := by unfold headN; rw [hw, n1]; rfl
    have hx : (⟨false, 0, []⟩ : Nm) = x := by cases x; simp at hw n1 n2; simp [hw, n1, n2]
    have e2 : rp2 0 l 0 = (0, l, 0) := by rw [rp2, if_neg (by omega)]
    have e3 : rp3 0 l 0 = ([], l, 0) := by rw [rp3, if_pos rfl]; rfl
    simp only [h0, if_pos hw, List.nil_append, e2, e3, rp4]
    rw [if_neg (by rintro ⟨_, h4⟩; rw [show (⟨decide (0 % 2 = 1), 0, []⟩ : Nm) = x from hx, h] at h4; simp at h4)]
    rw [show (⟨decide (0 % 2 = 1), 0, []⟩ : Nm) = x from hx]
  · have hp : 0 < x.w.length := by have := mt List.length_eq_zero_iff.1 hw; omega
    have hz := zig_lt (i := x.exp) (by omega) (by omega)
    have e2 : rp2 (headN x) (uvar (zig x.exp) ++ wordsB x.w ++ l) 0 = (x.exp, wordsB x.w ++ l, 0) := by
      rw [rp2, if_pos ⟨rfl, by omega⟩, List.append_assoc, readU_uvar _ _ hz, unzig_zig]
    have e3 : rp3 (headN x) (wordsB x.w ++ l) 0 = (x.w, l, 0) := by
      rw [rp3, if_pos rfl, h2, readWs_wordsB]; simp
    rw [if_neg hw]
    simp only [e2, e3, h3, rp4]
    rw [if_neg (by rintro ⟨_, h4⟩; rw [show (⟨x.neg, x.exp, x.w⟩ : Nm) = x from rfl, h] at h4; simp at h4)]
theorem readN_num (x : Nm) (l : List UInt8) (h : rightN x = true) : readN (numB x ++ l) 0 = (x, l, 0) := by
  rw [readN, if_neg (by simp), readParts_num x l h, if_pos rfl]
theorem rp4_e (x : Nm) (l : List UInt8) (e : Int) (h : e ≠ 0) : rp4 x l e = (x, l, e) := by rw [rp4, if_neg (by rintro ⟨h2, _⟩; exact h h2)]
theorem rp3_e (u : Nat) (l : List UInt8) (e : Int) (h : e ≠ 0) : rp3 u l e = ([], l, e) := by rw [rp3, if_neg h]
theorem rp2_e (u : Nat) (l : List UInt8) (e : Int) (h : e ≠ 0) : rp2 u l e = (0, l, e) := by rw [rp2, if_neg (by rintro ⟨h2, _⟩; exact h h2)]
theorem readParts_pre (x : Nm) (p : List UInt8) (h : rightN x = true) (hp : Pre p (numB x)) : (readParts p).2.2 = 10 := by
  obtain ⟨r1, r2, r3, r4⟩ := rightN_ty h
  obtain ⟨h1, h2, h3⟩ := headN_facts r3
  unfold numB at hp
  rw [if_pos h] at hp
  unfold readParts
  rcases hp.append with hp | ⟨q, rfl, hq⟩
  · have e1 : rp1 p = (0, p, 10) := by unfold rp1; rw [readU_pre _ _ h1 hp]; simp
    simp only [e1, rp2_e _ _ 10 (by decide), rp3_e _ _ 10 (by decide), rp4_e _ _ 10 (by decide)]
  · rw [rp1_uvar _ _ h1 (by omega)]
    by_cases hw : x.w = []
    · rw [if_pos hw] at hq; exact hq.nil.elim
    · rw [if_neg hw] at hq
      have hl : 0 < x.w.length := by have := mt List.length_eq_zero_iff.1 hw; omega
      have hz := zig_lt (i := x.exp) (by omega) (by omega)
      simp only
      rcases hq.append with hq | ⟨r, rfl, hr⟩
      · have e2 : rp2 (headN x) q 0 = (0, q, 10) := by rw [rp2, if_pos ⟨rfl, by omega⟩, readU_pre _ _ hz hq]; simp [unzig]
        simp only [e2, rp3_e _ _ 10 (by decide), rp4_e _ _ 10 (by decide)]
      · have e2 : rp2 (headN x) (uvar (zig x.exp) ++ r) 0 = (x.exp, r, 0) := by
          rw [rp2, if_pos ⟨rfl, by omega⟩, readU_uvar _ _ hz, unzig_zig]
        have e3 : (rp3 (headN x) r 0).2.2 = 10 := by
          rw [rp3, if_pos rfl, h2]; exact readWs_pre x.w r [] hr
        simp only [e2]
        rw [rp4_e _ _ _ (by rw [e3]; decide)]
        exact e3
theorem readN_pre (x : Nm) (p : List UInt8) (h : rightN x = true) (hp : Pre p (numB x)) : readN p 0 = (default, p, 10) := by
  rw [readN, if_neg (by simp), readParts_pre x p h hp, if_neg (by simp)]
theorem readN_e (l : List UInt8) (e : Int) (h : e ≠ 0) : readN l e = (default, l, e) := by rw [readN, if_pos h]
theorem readU_e (l : List UInt8) (e : Int) (h : e ≠ 0) : readU l e = (0, l, e) := by rw [readU, if_pos h]
theorem readU_bad (l : List UInt8) (e : Int) (h : (readU l e).2.2 ≠ 0) : readU l e = (0, l, (readU l e).2.2) := by
  have e1 : readU l e = readU l e := rfl
  conv at e1 => rhs; unfold readU
  split at e1
  · rw [e1]
  · split at e1
    · rw [e1] at h; exact absurd rfl h
    · rw [e1]
theorem readN_bad (l : List UInt8) (e : Int) (h : (readN l e).2.2 ≠ 0) : readN l e = (default, l, (readN l e).2.2) := by
  have e1 : readN l e = readN l e := rfl
  conv at e1 => rhs; unfold readN
  split at e1
  · rw [e1]
  · split at e1
    · rename_i h2; rw [e1] at h; exact absurd h2 h
    · rw [e1]
theorem rp4_one {x : Nm} {l : List UInt8} {e : Int} (h : (rp4 x l e).2.2 = 0) : e = 0 ∧ rightN x = true ∧ rp4 x l e = (x, l, 0) := by
  unfold rp4 at h ⊢
  simp only at h
  split at h
  · simp at h
  · rename_i hn
    cases hq : rightN x
    · exact absurd ⟨h, hq⟩ hn
    · exact ⟨h, rfl, by simp [h]⟩
theorem rp3_one {u : Nat} {l : List UInt8} {e : Int} (h : (rp3 u l e).2.2 = 0) : e = 0 ∧ (rp3 u l e).1.length = u / 2 ∧ l = wordsB (rp3 u l e).1 ++ (rp3 u l e).2.1 := by
  unfold rp3 at h ⊢
  split at h
  · rename_i he
    rw [if_pos he]
    obtain ⟨ws, w1, w2, w3⟩ := readWs_one _ _ _ h
    rw [List.nil_append] at w1
    exact ⟨he, by rw [w1, w2], by rw [w1]; exact w3⟩
  · rename_i he; exact absurd h he
theorem rp2_one {u : Nat} {l : List UInt8} {e : Int} (h : (rp2 u l e).2.2 = 0) : e = 0 ∧ (if 1 < u then l = uvar (zig (rp2 u l e).1) ++ (rp2 u l e).2.1 else (rp2 u l e).1 = 0 ∧ l = (rp2 u l e).2.1) := by
  unfold rp2 at h ⊢
  split at h
  · rename_i he
    rw [if_pos he, if_pos he.2]
    have := readU_one l h
    exact ⟨he.1, by rw [zig_unzig]; exact this⟩
  · rename_i he
    rw [if_neg he]
    have h0 : e = 0 := h
    rw [if_neg (fun h1 => he ⟨h0, h1⟩)]
    exact ⟨h0, rfl, rfl⟩
theorem rp1_one {l : List UInt8} (h : (rp1 l).2.2 = 0) : (rp1 l).1 / 2 ≤ 64 ∧ l = uvar (rp1 l).1 ++ (rp1 l).2.1 := by
  unfold rp1 at h ⊢
  simp only at h ⊢
  split at h
  · simp at h
  · rename_i he
    have := readU_one l h
    exact ⟨by omega, this⟩
theorem readParts_one (l : List UInt8) (h : (readParts l).2.2 = 0) : rightN (readParts l).1 = true ∧ l = numB (readParts l).1 ++ (readParts l).2.1 := by
  unfold readParts at h ⊢
  simp only at h ⊢
  obtain ⟨a1, a2, a3⟩ := rp4_one h
  rw [a3]
  simp only
  refine ⟨a2, ?_⟩
  obtain ⟨b1, b2, b3⟩ := rp3_one a1
  obtain ⟨c1, c2⟩ := rp2_one b1
  obtain ⟨d1, d2⟩ := rp1_one c1
  rw [numB, if_pos a2]
  generalize rp1 l = U at *
  obtain ⟨u, l1, e1⟩ := U
  simp only at *
  generalize rp2 u l1 e1 = V at *
  obtain ⟨v, l2, e2⟩ := V
  simp only at *
  generalize rp3 u l2 e2 = T at *
  obtain ⟨w, l3, e3⟩ := T
  simp only at *
  have hh : headN ⟨decide (u % 2 = 1), v, w⟩ = u := by
    unfold headN; simp only [b2, decide_eq_true_eq]; split <;> omega
  rw [hh]
  by_cases hu : 1 < u
  · rw [if_pos hu] at c2
    have hne : w ≠ [] := fun e0 => by rw [e0] at b2; simp at b2; omega
    rw [if_neg hne, List.append_assoc, List.append_assoc, ← b3, ← c2]
    exact d2
  · rw [if_neg hu] at c2
    have h0 : w = [] := List.length_eq_zero_iff.1 (by rw [b2]; omega)
    rw [if_pos h0, List.append_nil]
    rw [h0] at b3
    simp [wordsB] at b3
    rw [← b3, ← c2.2]
    exact d2
theorem readN_one (l : List UInt8) (h : (readN l 0).2.2 = 0) : rightN (readN l 0).1 = true ∧ l = numB (readN l 0).1 ++ (readN l 0).2.1 := by
  by_cases h0 : (readParts l).2.2 = 0
  · rw [readN, if_neg (by simp), if_pos h0]; exact readParts_one l h0
  · rw [readN, if_neg (by simp), if_neg h0] at h; exact absurd h h0
/-- An interval's parts, by a reader without an error. -/
def partsI (l : List UInt8) : Ivl × List UInt8 × Int :=
  let a := readN l 0
  let b := readN a.2.1 a.2.2
  (⟨a.1, b.1⟩, b.2.1, if b.2.2 = 0 ∧ rightI ⟨a.1, b.1⟩ = false then 11 else b.2.2)
/-- Reader.Iv. -/
def readI (l : List UInt8) (e : Int) : Ivl × List UInt8 × Int :=
  if e ≠ 0 then (default, l, e) else if (partsI l).2.2 = 0 then partsI l else (default, l, (partsI l).2.2)
theorem rightI_parts {a : Ivl} (h : rightI a = true) : rightN a.lo = true ∧ rightN a.hi = true := by
  unfold rightI at h; simp only [Bool.and_eq_true] at h; exact h.1
theorem readI_iv (a : Ivl) (l : List UInt8) (h : rightI a = true) : readI (ivB a ++ l) 0 = (a, l, 0) := by
  obtain ⟨h1, h2⟩ := rightI_parts h
  have e : partsI (ivB a ++ l) = (a, l, 0) := by
    unfold partsI ivB
    rw [if_pos h, List.append_assoc, readN_num _ _ h1]
    simp only [readN_num _ _ h2]
    rw [if_neg (by rintro ⟨_, h3⟩; simp [h] at h3)]
  rw [readI, if_neg (by simp), e, if_pos rfl]
theorem readI_pre (a : Ivl) (p : List UInt8) (h : rightI a = true) (hp : Pre p (ivB a)) : readI p 0 = (default, p, 10) := by
  obtain ⟨h1, h2⟩ := rightI_parts h
  have e : (partsI p).2.2 = 10 := by
    unfold ivB at hp
    rw [if_pos h] at hp
    unfold partsI
    rcases hp.append with hp | ⟨q, rfl, hq⟩
    · rw [readN_pre _ _ h1 hp]
      simp [readN_e]
    · rw [readN_num _ _ h1]
      simp only [readN_pre _ _ h2 hq]
      simp
  rw [readI, if_neg (by simp), e, if_neg (by simp)]
theorem readI_e (l : List UInt8) (e : Int) (h : e ≠ 0) : readI l e = (default, l, e) := by rw [readI, if_pos h]
theorem readI_bad (l : List UInt8) (e : Int) (h : (readI l e).2.2 ≠ 0) : readI l e = (default, l, (readI l e).2.2) := by
  have e1 : readI l e = readI l e := rfl
  conv at e1 => rhs; unfold readI
  split at e1
  · rw [e1]
  · split at e1
    · rename_i h2; rw [e1] at h; exact absurd h2 h
    · rw [e1]
theorem readI_one (l : List UInt8) (h : (readI l 0).2.2 = 0) : rightI (readI l 0).1 = true ∧ l = ivB (readI l 0).1 ++ (readI l 0).2.1 := by
  by_cases h0 : (partsI l).2.2 = 0
  · rw [readI, if_neg (by simp), if_pos h0]
    unfold partsI at h0 ⊢
    simp only at h0 ⊢
    by_cases h1 : (readN l 0).2.2 = 0
    · obtain ⟨a1, a2⟩ := readN_one l h1
      rw [h1] at h0 ⊢
      split at h0
      · simp at h0
      · rename_i h3
        obtain ⟨b1, b2⟩ := readN_one _ h0
        have hr : rightI ⟨(readN l 0).1, (readN (readN l 0).2.1 0).1⟩ = true := by
          cases hq : rightI ⟨(readN l 0).1, (readN (readN l 0).2.1 0).1⟩
          · exact absurd ⟨h0, hq⟩ h3
          · rfl
        refine ⟨hr, ?_⟩
        rw [ivB, if_pos hr, List.append_assoc]
        simp only
        rw [← b2, ← a2]
    · rw [readN_e _ _ h1] at h0
      rw [if_neg (by rintro ⟨h2, _⟩; exact h1 h2)] at h0
      exact absurd h0 h1
  · rw [readI, if_neg (by simp), if_neg h0] at h; exact absurd h h0
/-- Intervals, up to the first error. -/
def readIs : Nat → List UInt8 → List Ivl → List Ivl × List UInt8 × Int
  | 0, l, o => (o, l, 0)
  | n + 1, l, o => if (readI l 0).2.2 = 0 then readIs n (readI l 0).2.1 (o ++ [(readI l 0).1]) else (o ++ [(readI l 0).1], (readI l 0).2.1, (readI l 0).2.2)
/-- How many there are. -/
def pb1 (l : List UInt8) : Nat × List UInt8 × Int := ((readU l 0).1, (readU l 0).2.1, if ((readU l 0).1 < 1 ∨ 4 < (readU l 0).1) ∧ (readU l 0).2.2 = 0 then 11 else (readU l 0).2.2)
def pb2 (n : Nat) (l : List UInt8) (e : Int) : List Ivl × List UInt8 × Int := if e = 0 then readIs n l [] else ([], l, e)
def partsB (l : List UInt8) : List Ivl × List UInt8 × Int := pb2 (pb1 l).1 (pb1 l).2.1 (pb1 l).2.2
/-- Reader.Box. -/
def readB (l : List UInt8) (e : Int) : List Ivl × List UInt8 × Int :=
  if e ≠ 0 then ([], l, e) else if (partsB l).2.2 = 0 then partsB l else ([], l, (partsB l).2.2)
theorem readIs_ivs : ∀ (b : List Ivl) (l : List UInt8) (o : List Ivl), b.all rightI = true → readIs b.length (b.flatMap ivB ++ l) o = (o ++ b, l, 0)
  | [], l, o, _ => by simp [readIs]
  | a :: b, l, o, h => by
    simp only [List.all_cons, Bool.and_eq_true] at h
    rw [List.length_cons, readIs, List.flatMap_cons, List.append_assoc, readI_iv a _ h.1, if_pos rfl, readIs_ivs b l _ h.2]
    simp
theorem readIs_pre : ∀ (b : List Ivl) (p : List UInt8) (o : List Ivl), b.all rightI = true → Pre p (b.flatMap ivB) → (readIs b.length p o).2.2 = 10
  | [], p, o, _, hp => hp.nil.elim
  | a :: b, p, o, h, hp => by
    simp only [List.all_cons, Bool.and_eq_true] at h
    rw [List.flatMap_cons] at hp
    rw [List.length_cons, readIs]
    rcases hp.append with hp | ⟨q, rfl, hq⟩
    · rw [readI_pre a p h.1 hp]; simp
    · rw [readI_iv a _ h.1, if_pos rfl]
      exact readIs_pre b q _ h.2 hq
theorem rightB_parts {b : List Ivl} (h : rightB b = true) : b.all rightI = true ∧ 1 ≤ b.length ∧ b.length ≤ 4 := by
  unfold rightB at h; simp only [Bool.and_eq_true, decide_eq_true_eq] at h; exact ⟨h.1.1, h.1.2, h.2⟩
theorem pb1_uvar (n : Nat) (l : List UInt8) (h1 : 1 ≤ n) (h2 : n ≤ 4) : pb1 (uvar n ++ l) = (n, l, 0) := by
  unfold pb1
  rw [readU_uvar _ _ (by omega)]
  simp only
  rw [if_neg (by omega)]
theorem readB_box (b : List Ivl) (l : List UInt8) (h : rightB b = true) : readB (boxB b ++ l) 0 = (b, l, 0) := by
  obtain ⟨h1, h2, h3⟩ := rightB_parts h
  have e : partsB (boxB b ++ l) = (b, l, 0) := by
    unfold partsB boxB
    rw [if_pos h, List.append_assoc, pb1_uvar _ _ h2 h3]
    simp only
    rw [pb2, if_pos rfl, readIs_ivs b l [] h1, List.nil_append]
  rw [readB, if_neg (by simp), e, if_pos rfl]
theorem readB_pre (b : List Ivl) (p : List UInt8) (h : rightB b = true) (hp : Pre p (boxB b)) : readB p 0 = ([], p, 10) := by
  obtain ⟨h1, h2, h3⟩ := rightB_parts h
  have e : (partsB p).2.2 = 10 := by
    unfold boxB at hp
    rw [if_pos h] at hp
    unfold partsB
    rcases hp.append with hp | ⟨q, rfl, hq⟩
    · have e1 : pb1 p = (0, p, 10) := by unfold pb1; rw [readU_pre _ _ (by omega) hp]; simp
      rw [e1]; rfl
    · rw [pb1_uvar _ _ h2 h3]
      simp only
      rw [pb2, if_pos rfl]
      exact readIs_pre b q [] h1 hq
  rw [readB, if_neg (by simp), e, if_neg (by simp)]
theorem readB_e (l : List UInt8) (e : Int) (h : e ≠ 0) : readB l e = ([], l, e) := by rw [readB, if_pos h]
theorem readB_bad (l : List UInt8) (e : Int) (h : (readB l e).2.2 ≠ 0) : readB l e = ([], l, (readB l e).2.2) := by
  have e1 : readB l e = readB l e := rfl
  conv at e1 => rhs; unfold readB
  split at e1
  · rw [e1]
  · split at e1
    · rename_i h2; rw [e1] at h; exact absurd h2 h
    · rw [e1]
theorem readIs_one : ∀ (n : Nat) (l : List UInt8) (o : List Ivl), (readIs n l o).2.2 = 0 → ∃ b, (readIs n l o).1 = o ++ b ∧ b.length = n ∧ b.all rightI = true ∧ l = b.flatMap ivB ++ (readIs n l o).2.1
  | 0, l, o, h => ⟨[], by simp [readIs], rfl, rfl, by simp [readIs]⟩
  | n + 1, l, o, h => by
    rw [readIs] at h ⊢
    by_cases h1 : (readI l 0).2.2 = 0
    · rw [if_pos h1] at h ⊢
      obtain ⟨b, b1, b2, b3, b4⟩ := readIs_one n _ _ h
      obtain ⟨a1, a2⟩ := readI_one l h1
      refine ⟨(readI l 0).1 :: b, by rw [b1]; simp, by simp [b2], by simp [a1]; simpa using b3, ?_⟩
      rw [List.flatMap_cons, List.append_assoc, ← b4, ← a2]
    · rw [if_neg h1] at h; exact absurd h h1
theorem readB_one (l : List UInt8) (h : (readB l 0).2.2 = 0) : rightB (readB l 0).1 = true ∧ l = boxB (readB l 0).1 ++ (readB l 0).2.1 := by
  by_cases h0 : (partsB l).2.2 = 0
  · rw [readB, if_neg (by simp), if_pos h0]
    unfold partsB at h0 ⊢
    have h1 : (pb1 l).2.2 = 0 := by
      refine Classical.byContradiction fun h1 => ?_
      rw [pb2, if_neg h1] at h0; exact h1 h0
    rw [h1, pb2, if_pos rfl] at h0 ⊢
    obtain ⟨b, b1, b2, b3, b4⟩ := readIs_one _ _ _ h0
    rw [List.nil_append] at b1
    have hn : 1 ≤ (pb1 l).1 ∧ (pb1 l).1 ≤ 4 ∧ l = uvar (pb1 l).1 ++ (pb1 l).2.1 := by
      unfold pb1 at h1 ⊢
      simp only at h1 ⊢
      split at h1
      · simp at h1
      · have := readU_one l h1
        exact ⟨by omega, by omega, this⟩
    have hr : rightB b = true := by unfold rightB; simp only [Bool.and_eq_true, decide_eq_true_eq]; exact ⟨⟨b3, by omega⟩, by omega⟩
    rw [b1]
    refine ⟨hr, ?_⟩
    rw [boxB, if_pos hr, List.append_assoc, b2, ← b4]
    exact hn.2.2
  · rw [readB, if_neg (by simp), if_neg h0] at h; exact absurd h h0
theorem numB_len (x : Nm) : (numB x).length ≤ 532 := by
  unfold numB
  split
  · rename_i h
    obtain ⟨r1, r2, r3, r4⟩ := rightN_ty h
    have q1 := uvar_len10 (headN_facts r3).1
    have q2 := uvar_len10 (zig_lt (i := x.exp) (by omega) (by omega))
    have q3 := wordsB_length x.w
    split
    · simp; omega
    · simp; omega
  · simp
theorem ivB_len (a : Ivl) : (ivB a).length ≤ 1064 := by
  unfold ivB
  have h1 := numB_len a.lo
  have h2 := numB_len a.hi
  split
  · simp; omega
  · simp
theorem flat_len : ∀ l : List Ivl, (l.flatMap ivB).length ≤ 1064 * l.length
  | [] => by simp
  | a :: l => by
    have h1 := flat_len l
    have h2 := ivB_len a
    rw [List.flatMap_cons, List.length_append, List.length_cons]; omega
theorem boxB_len (b : List Ivl) : (boxB b).length ≤ 4270 := by
  unfold boxB
  split
  · rename_i h
    obtain ⟨h1, h2, h3⟩ := rightB_parts h
    have q1 := uvar_len10 (v := b.length) (by omega)
    have q2 := flat_len b
    simp only [List.length_append]; omega
  · simp
end Go.Pv
end

section
/- The reader's number. -/
set_option linter.unusedVariables false
set_option linter.unusedSimpArgs false
set_option maxRecDepth 100000
namespace Go.Pv
open Go.Proofs
theorem and1_u64 (u : Nat) (h : u < 18446744073709551616) : bAnd .u64 (u : Int) 1 = ((u % 2 : Nat) : Int) := by
  rw [show (1 : Int) = ((1 : Nat) : Int) from rfl, bAnd_u64 _ _ h (by omega), show u &&& 1 = u % 2 from Nat.and_two_pow_sub_one_eq_mod u 1]
theorem rp1_lt (l : List UInt8) : (rp1 l).1 < 18446744073709551616 := readU_lt l 0
theorem rp1_len (l : List UInt8) : (rp1 l).2.1.length ≤ l.length := readU_len l 0
theorem rp1_small (l : List UInt8) (h : (rp1 l).2.2 = 0) : (rp1 l).1 / 2 ≤ 64 := by
  unfold rp1 at h ⊢
  simp only at h ⊢
  split at h
  · simp at h
  · omega
theorem rp2_len (u : Nat) (l : List UInt8) (e : Int) : (rp2 u l e).2.1.length ≤ l.length := by
  unfold rp2; split
  · exact readU_len l 0
  · simp
theorem rp2_ok {u : Nat} {l : List UInt8} {e : Int} (h : (rp2 u l e).2.2 = 0) : e = 0 := by
  unfold rp2 at h; split at h
  · rename_i he; exact he.1
  · exact h
set_option maxHeartbeats 1000000 in
theorem number_c (l : List UInt8) (k : Nat) (st : Store) (h : atR st k l 0) (hl : l.length ≤ 1000000000000) : PCalls Try.prog 87 [.gp k 0] st
    (fun r st' => r = .agg (encN (readParts l).1) ∧ st' = st.set k (rd (readParts l).2.1 (readParts l).2.2)) := by
  refine pcalls_enter none Try.func87 rfl fun E => pwp_seq (pwp_of_vc ?_)
  simp -dsimp only [go_sem]
  refine pwp_seq (pwp_of_vc ?_)
  simp -dsimp only [go_sem]
  refine (rdUint_c l 0 k st h hl).mono ?_
  rintro r st' ⟨rfl, rfl⟩
  simp -dsimp only [go_sem]
  have hu1 := rp1_lt l
  have hu2 := rp1_len l
  have s1 : bShr .u64 ((readU l 0).1 : Int) 1 = (((readU l 0).1 / 2 : Nat) : Int) := bShr_nat .u64 _ 1 (by decide)
  refine pwp_cut_mask [true, false, true, true] 1 0 (fun s => s = ⟨[.gp k 0, .junk, .lp 0 0, .sc (.int .u64 ((rp1 l).1 : Nat))] ++ List.replicate 51 .junk, [[.sc (.bool false), .sc (.int .i64 0), .sl .full []]], [], st.set k (rd (rp1 l).2.1 (rp1 l).2.2)⟩) ?_ ?_
  · simp -dsimp only [go_sem, s1]
    refine ck (fun h1 => ?_) (fun h1 => ?_)
    · have hb : 64 < (readU l 0).1 / 2 := by have := of_decide_eq_true h1; omega
      have he : (readU l 0).2.2 = 0 := by
        refine Classical.byContradiction fun he => ?_
        rw [readU_err l 0 he] at hb; omega
      simp -dsimp only [go_sem]
      refine (rfail_c _ _ 11 k _ (h.set (readU l 0).2.1 (readU l 0).2.2)).mono ?_
      rintro r st' ⟨rfl, rfl⟩
      simp -dsimp only [go_sem, set_rd]
      unfold rp1
      rw [if_pos he, if_pos ⟨hb, he⟩]
    · have hb : ¬64 < (readU l 0).1 / 2 := by have := of_decide_eq_false h1; omega
      simp -dsimp only [go_sem]
      unfold rp1
      rw [if_neg (fun h2 => hb h2.1)]
  rintro s rfl
  refine pwp_seq (pwp_of_vc ?_)
  have h2 := h.set (rp1 l).2.1 (rp1 l).2.2
  have hsm := rp1_small l
  have hp : readParts l = rp4 ⟨decide ((rp1 l).1 % 2 = 1), (rp2 (rp1 l).1 (rp1 l).2.1 (rp1 l).2.2).1, (rp3 (rp1 l).1 (rp2 (rp1 l).1 (rp1 l).2.1 (rp1 l).2.2).2.1 (rp2 (rp1 l).1 (rp1 l).2.1 (rp1 l).2.2).2.2).1⟩
    (rp3 (rp1 l).1 (rp2 (rp1 l).1 (rp1 l).2.1 (rp1 l).2.2).2.1 (rp2 (rp1 l).1 (rp1 l).2.1 (rp1 l).2.2).2.2).2.1 (rp3 (rp1 l).1 (rp2 (rp1 l).1 (rp1 l).2.1 (rp1 l).2.2).2.1 (rp2 (rp1 l).1 (rp1 l).2.1 (rp1 l).2.2).2.2).2.2 := rfl
  rw [hp]
  clear hp
  generalize rp1 l = U at *
  obtain ⟨u, l1, e1⟩ := U
  simp only at hu1 hu2 hsm h2 ⊢
  have s2 : bAnd .u64 (u : Int) 1 = ((u % 2 : Nat) : Int) := and1_u64 u hu1
  have s3 : (((u % 2 : Nat) : Int) == 1) = decide (u % 2 = 1) := by
    rw [show (1 : Int) = ((1 : Nat) : Int) from rfl, Bool.eq_iff_iff]; simp; omega
  simp -dsimp only [go_sem, s2, s3]
  have g2 : (st.set k (rd l1 e1)).getD k [] = [.sl .no (encB l1), .sc (.int .i64 e1)] := h2
  refine pwp_cut_mask [true, false, true, true, true] 2 0 (fun s => s = ⟨[.gp k 0, .junk, .lp 0 0, .sc (.int .u64 (u : Nat)), .lp 1 0] ++ List.replicate 50 .junk,
    [[.sc (.bool false), .sc (.int .i64 0), .sl .full []], [.sc (.bool (decide (u % 2 = 1))), .sc (.int .i64 (rp2 u l1 e1).1), .sl .full []]], [], st.set k (rd (rp2 u l1 e1).2.1 (rp2 u l1 e1).2.2)⟩) ?_ ?_
  · simp -dsimp only [go_sem, g2]
    have no : ¬(e1 = 0 ∧ 1 < u) → rp2 u l1 e1 = (0, l1, e1) := fun hn => by rw [rp2, if_neg hn]
    refine gkT (fun h1 => ?_) (fun h1 => ?_)
    · have he : e1 = 0 := by simpa using h1
      subst he
      simp -dsimp only [go_sem, h1]
      refine ck (fun h3 => ?_) (fun h3 => ?_)
      · have hb : 1 < u := by have := of_decide_eq_true h3; omega
        simp -dsimp only [go_sem]
        refine (rdInt_c l1 0 k _ h2 (by omega)).mono ?_
        rintro r st' ⟨rfl, rfl⟩
        simp -dsimp only [go_sem, set_rd]
        rw [rp2, if_pos ⟨rfl, hb⟩]
      · have hb : ¬1 < u := by have := of_decide_eq_false h3; omega
        simp -dsimp only [go_sem]
        rw [no (fun h => hb h.2)]
    · have he : e1 ≠ 0 := by simpa using h1
      simp -dsimp only [go_sem, h1]
      rw [no (fun h => he h.1)]
  rintro s rfl
  have hsm2 : (rp2 u l1 e1).2.2 = 0 → u / 2 ≤ 64 := fun h3 => hsm (rp2_ok h3)
  have hl2 := rp2_len u l1 e1
  have h4 : atR (st.set k (rd (rp2 u l1 e1).2.1 (rp2 u l1 e1).2.2)) k (rp2 u l1 e1).2.1 (rp2 u l1 e1).2.2 := h.set _ _
  generalize rp2 u l1 e1 = V at *
  obtain ⟨v, l2, e2⟩ := V
  simp only at hsm2 hl2 h4 ⊢
  have g3 : ∀ (l : List UInt8) (e : Int), (st.set k (rd l e)).getD k [] = [.sl .no (encB l), .sc (.int .i64 e)] := fun l e => h.set l e
  have s4 : bShr .u64 (u : Int) 1 = ((u / 2 : Nat) : Int) := bShr_nat .u64 u 1 (by decide)
  refine pwp_cut_mask [true, false, true, true, true] 2 1 (fun s => ∃ len, s = ⟨[.gp k 0, .junk, .lp 0 0, .sc (.int .u64 (u : Nat)), .lp 1 0] ++ List.replicate 50 .junk,
    [[.sc (.bool false), .sc (.int .i64 0), .sl .full []], [.sc (.bool (decide (u % 2 = 1))), .sc (.int .i64 v), .sl (.own 0) (encW (rp3 u l2 e2).1)]], [(len, 1)], st.set k (rd (rp3 u l2 e2).2.1 (rp3 u l2 e2).2.2)⟩) ?_ ?_
  · simp -dsimp only [go_sem]
    refine pwp_claimBox 1 2 1 ?_
    simp -dsimp only [go_sem]
    refine pwp_loop_mask [true, false, true, true, true, true] 2 1 (fun n s => ∃ i w l' e', n = u / 2 - i ∧ i ≤ u / 2 ∧ i ≤ 64 ∧ w.length = i ∧ l'.length ≤ l2.length ∧ (e' = 0 → u / 2 ≤ 64) ∧ (e' = 0 → readWs (u / 2 - i) l' w = rp3 u l2 e2) ∧ (e' ≠ 0 → (w, l', e') = rp3 u l2 e2) ∧
      s = ⟨[.gp k 0, .junk, .lp 0 0, .sc (.int .u64 (u : Nat)), .lp 1 0, .sc (.int .u64 (i : Nat))] ++ List.replicate 49 .junk,
        [[.sc (.bool false), .sc (.int .i64 0), .sl .full []], [.sc (.bool (decide (u % 2 = 1))), .sc (.int .i64 v), .sl (.own 0) (encW w)]], [(w.length, 1)], st.set k (rd l' e')⟩) (u / 2) ?_ ?_
    · simp -dsimp only [go_sem]
      refine ⟨0, [], l2, e2, by omega, by omega, by omega, rfl, by omega, hsm2, fun h5 => ?_, fun h5 => ?_, rfl⟩
      · rw [rp3, if_pos h5]; rfl
      · rw [rp3, if_neg h5]
    · rintro n s ⟨i, w, l', e', rfl, hi, hi64, hw, hl', hsm3, hk0, hk1, rfl⟩
      have g4 := g3 l' e'
      simp -dsimp only [go_sem, s4, g4]
      refine gkT (fun h5 => ?_) (fun h5 => ?_)
      · have hlt : i < u / 2 := by have := of_decide_eq_true h5; omega
        simp -dsimp only [go_sem, h5, s4, g4]
        refine ck (fun h6 => ?_) (fun h6 => ?_)
        · have he : e' = 0 := by simpa using h6
          subst he
          have hk := hk0 rfl
          have h64 := hsm3 rfl
          rw [show u / 2 - i = (u / 2 - (i + 1)) + 1 from by omega, readWs] at hk
          have x1 : IntKind.u64.wrap ((i : Int) + 1) = ((i + 1 : Nat) : Int) := by rw [show ((i : Int) + 1) = ((i + 1 : Nat) : Int) from rfl, wrap_u64 _ (by omega)]
          simp -dsimp only [go_sem]
          refine pwp_draw mixed 55 (.step 0 [] (.step 1 [] (.step 2 [] (.step 3 [1] (.step 4 [] (.step 5 [] (.step 6 [] (.step 7 [] (.done))))))))) (by decide +kernel) (by simp) ?_
          simp -dsimp only [go_sem]
          refine (word_c l' k _ (h.set l' 0) (by omega)).mono ?_
          rintro r st' ⟨rfl, rfl⟩
          simp -dsimp only [go_sem, set_rd]
          by_cases h8 : l'.length < 8
          · rw [if_pos h8] at hk
            simp -dsimp only [go_sem, set_rd, if_pos h8, x1]
            refine ⟨⟨by omega, by omega⟩, u / 2 - (i + 1), by omega, i + 1, w ++ [0], l', 10, rfl, by omega, by omega, by simp [hw], hl', fun h9 => absurd h9 (by decide), fun h9 => absurd h9 (by decide), fun _ => hk, ?_⟩
            simp [encW]
          · rw [if_neg h8] at hk
            have hv := wordV_lt l' 8
            simp -dsimp only [go_sem, set_rd, if_neg h8, x1]
            refine ⟨⟨by omega, by omega⟩, u / 2 - (i + 1), by omega, i + 1, w ++ [UInt64.ofNat (wordV l' 8)], l'.drop 8, 0, rfl, by omega, by omega, by simp [hw], by simp; omega, fun _ => h64, fun _ => hk, fun h9 => absurd rfl h9, ?_⟩
            have hn : (UInt64.ofNat (wordV l' 8)).toNat = wordV l' 8 := by simp; omega
            simp [encW]
            omega
        · have he : e' ≠ 0 := by simpa using h6
          have hk := hk1 he
          simp -dsimp only [go_sem]
          rw [← hk]
          exact ⟨w.length, rfl⟩
      · have hge : i = u / 2 := by have := of_decide_eq_false h5; omega
        simp -dsimp only [go_sem, h5]
        by_cases he : e' = 0
        · subst he
          have hk := hk0 rfl
          rw [hge, Nat.sub_self, readWs] at hk
          rw [← hk]
          exact ⟨w.length, rfl⟩
        · have hk := hk1 he
          rw [← hk]
          exact ⟨w.length, rfl⟩
  rintro s ⟨len, rfl⟩
  refine pwp_plainBox 1 ?_
  simp -dsimp only [go_sem]
  refine pwp_of_vc ?_
  simp -dsimp only [go_sem]
  have hlen : (rp3 u l2 e2).1.length ≤ 64 := by
    unfold rp3
    split
    · rename_i he
      have h7 := (readWs_len (u / 2) l2 []).2
      have h8 := hsm2 he
      simp at h7
      omega
    · simp
  refine (numRight_c ⟨decide (u % 2 = 1), v, (rp3 u l2 e2).1⟩ _ (by simp only; omega)).mono ?_
  rintro r st' ⟨rfl, rfl⟩
  simp -dsimp only [go_sem]
  refine ck (fun h5 => ?_) (fun h5 => ?_)
  · have hr : rightN ⟨decide (u % 2 = 1), v, (rp3 u l2 e2).1⟩ = false := by simpa using h5
    simp -dsimp only [go_sem]
    refine (rfail_c _ _ 11 k _ (h.set (rp3 u l2 e2).2.1 (rp3 u l2 e2).2.2)).mono ?_
    rintro r st' ⟨rfl, rfl⟩
    simp -dsimp only [go_sem, set_rd]
    unfold rp4
    refine ⟨rfl, ?_⟩
    by_cases h0 : (rp3 u l2 e2).2.2 = 0
    · rw [if_pos h0, if_pos ⟨h0, hr⟩]
    · rw [if_neg h0, if_neg (fun h2 => h0 h2.1)]
  · have hr : rightN ⟨decide (u % 2 = 1), v, (rp3 u l2 e2).1⟩ = true := by simpa using h5
    simp -dsimp only [go_sem]
    unfold rp4
    exact ⟨rfl, by rw [if_neg (fun h2 => by rw [hr] at h2; exact absurd h2.2 (by decide))]⟩
end Go.Pv
end

section
/- The reader's Num, Iv. -/
set_option linter.unusedVariables false
set_option linter.unusedSimpArgs false
set_option maxRecDepth 100000
namespace Go.Pv
open Go.Proofs
theorem readU_ok (l : List UInt8) (e : Int) (h : (readU l e).2.2 = 0) : e = 0 := by
  refine Classical.byContradiction fun he => ?_
  rw [readU_e l e he] at h; exact he h
theorem wholeN_c (l : List UInt8) (k : Nat) (st : Store) (h : atR st k l 0) (hl : l.length ≤ 1000000000000) : PCalls Try.prog 86 [.gp k 0, .fn (.func 87) [.gp k 0] []] st
    (fun r st' => r = .agg (encN (readN l 0).1) ∧ st' = st.set k (rd (readN l 0).2.1 (readN l 0).2.2)) := by
  have h' := h
  unfold atR rd at h
  refine pcalls_enter none Try.func86 rfl fun E => pwp_of_vc ?_
  simp -dsimp only [go_sem, h]
  refine (number_c l k st h' hl).mono ?_
  rintro r st' ⟨rfl, rfl⟩
  have h3 : (st.set k (rd (readParts l).2.1 (readParts l).2.2)).getD k [] = [.sl .no (encB (readParts l).2.1), .sc (.int .i64 (readParts l).2.2)] := h'.set _ _
  simp -dsimp only [go_sem, h3]
  rw [readN, if_neg (by simp)]
  refine ck (fun h1 => ?_) (fun h1 => ?_)
  · have he : (readParts l).2.2 = 0 := by simpa using h1
    simp -dsimp only [go_sem]
    rw [if_pos he]
    exact ⟨rfl, rfl⟩
  · have he : (readParts l).2.2 ≠ 0 := by simpa using h1
    simp -dsimp only [go_sem, h3]
    rw [if_neg he]
    exact ⟨rfl, set_rd _ _ _ _ _ _⟩
theorem rdNum_c (l : List UInt8) (e : Int) (k : Nat) (st : Store) (h : atR st k l e) (hl : l.length ≤ 1000000000000) : PCalls Try.prog 41 [.gp k 0] st
    (fun r st' => r = .agg (encN (readN l e).1) ∧ st' = st.set k (rd (readN l e).2.1 (readN l e).2.2)) := by
  have h' := h
  unfold atR rd at h
  refine pcalls_enter none Try.func41 rfl fun E => pwp_of_vc ?_
  simp -dsimp only [go_sem, h]
  refine ck (fun h1 => ?_) (fun h1 => ?_)
  · have he : e ≠ 0 := by simpa using h1
    simp -dsimp only [go_sem]
    rw [readN_e l e he]
    exact ⟨rfl, h'.same.symm⟩
  · have he : e = 0 := by simpa using h1
    subst he
    simp -dsimp only [go_sem]
    refine (wholeN_c l k st h' hl).mono ?_
    rintro r st' ⟨rfl, rfl⟩
    simp -dsimp only [go_sem]
theorem readParts_len (l : List UInt8) : (readParts l).2.1.length ≤ l.length := by
  have h1 := rp1_len l
  have h2 := rp2_len (rp1 l).1 (rp1 l).2.1 (rp1 l).2.2
  have h3 : ∀ u l e, (rp3 u l e).2.1.length ≤ l.length := fun u l e => by
    unfold rp3; split
    · exact (readWs_len _ l []).1
    · simp
  have h4 := h3 (rp1 l).1 (rp2 (rp1 l).1 (rp1 l).2.1 (rp1 l).2.2).2.1 (rp2 (rp1 l).1 (rp1 l).2.1 (rp1 l).2.2).2.2
  show (rp3 (rp1 l).1 (rp2 (rp1 l).1 (rp1 l).2.1 (rp1 l).2.2).2.1 (rp2 (rp1 l).1 (rp1 l).2.1 (rp1 l).2.2).2.2).2.1.length ≤ _
  omega
theorem readN_len (l : List UInt8) (e : Int) : (readN l e).2.1.length ≤ l.length := by
  unfold readN
  split
  · simp
  · split
    · exact readParts_len l
    · simp
theorem rightN_def : rightN default = true := by decide
theorem readN_right (l : List UInt8) (e : Int) : rightN (readN l e).1 = true := by
  by_cases he : e = 0
  · subst he
    by_cases h : (readN l 0).2.2 = 0
    · exact (readN_one l h).1
    · rw [readN_bad l 0 h]; exact rightN_def
  · rw [readN_e l e he]; exact rightN_def
theorem partsI_eq (l : List UInt8) : partsI l = (⟨(readN l 0).1, (readN (readN l 0).2.1 (readN l 0).2.2).1⟩, (readN (readN l 0).2.1 (readN l 0).2.2).2.1,
    if (readN (readN l 0).2.1 (readN l 0).2.2).2.2 = 0 ∧ rightI ⟨(readN l 0).1, (readN (readN l 0).2.1 (readN l 0).2.2).1⟩ = false then 11 else (readN (readN l 0).2.1 (readN l 0).2.2).2.2) := rfl
set_option maxHeartbeats 1000000 in
theorem interval_c (l : List UInt8) (k : Nat) (st : Store) (h : atR st k l 0) (hl : l.length ≤ 1000000000000) : PCalls Try.prog 89 [.gp k 0] st
    (fun r st' => r = .agg (encI (partsI l).1) ∧ st' = st.set k (rd (partsI l).2.1 (partsI l).2.2)) := by
  have h' := h
  refine pcalls_enter none Try.func89 rfl fun E => pwp_of_vc ?_
  simp -dsimp only [go_sem]
  refine (rdNum_c l 0 k st h hl).mono ?_
  rintro r st' ⟨rfl, rfl⟩
  simp -dsimp only [go_sem]
  have hl2 := readN_len l 0
  have w1 := rightN_wN (readN_right l 0)
  refine pwp_draw mixed 17 (.step 0 [] (.step 1 [] (.alt (.step 2 [0] (.step 3 [] (.step 4 [0] (.step 5 [] (.done))))) (.step 4 [0] (.step 2 [0] (.step 3 [] (.step 5 [] (.done)))))))) (by decide +kernel) (by simp) ?_
  simp -dsimp only [go_sem]
  refine And.intro ?_ ?_
  all_goals
    refine (rdNum_c _ _ k _ (h'.set (readN l 0).2.1 (readN l 0).2.2) (by omega)).mono ?_
    rintro r st' ⟨rfl, rfl⟩
    simp -dsimp only [go_sem, set_rd]
    have w2 := rightN_wN (readN_right (readN l 0).2.1 (readN l 0).2.2)
    refine (ivRight_c ⟨(readN l 0).1, (readN (readN l 0).2.1 (readN l 0).2.2).1⟩ _ ⟨w1, w2⟩).mono ?_
    rintro r st' ⟨rfl, rfl⟩
    simp -dsimp only [go_sem]
    refine ck (fun h1 => ?_) (fun h1 => ?_)
    · have hr : rightI ⟨(readN l 0).1, (readN (readN l 0).2.1 (readN l 0).2.2).1⟩ = false := by simpa using h1
      simp -dsimp only [go_sem]
      refine (rfail_c _ _ 11 k _ (h'.set (readN (readN l 0).2.1 (readN l 0).2.2).2.1 (readN (readN l 0).2.1 (readN l 0).2.2).2.2)).mono ?_
      rintro r st' ⟨rfl, rfl⟩
      simp -dsimp only [go_sem, set_rd]
      refine ⟨rfl, ?_⟩
      rw [partsI_eq]
      simp only
      by_cases h0 : (readN (readN l 0).2.1 (readN l 0).2.2).2.2 = 0
      · rw [if_pos h0, if_pos ⟨h0, hr⟩]
      · rw [if_neg h0, if_neg (fun h2 => h0 h2.1)]
    · have hr : rightI ⟨(readN l 0).1, (readN (readN l 0).2.1 (readN l 0).2.2).1⟩ = true := by simpa using h1
      simp -dsimp only [go_sem]
      refine ⟨rfl, ?_⟩
      rw [partsI_eq]
      simp only
      rw [if_neg (fun h2 => by rw [hr] at h2; exact absurd h2.2 (by decide))]
end Go.Pv
end

section
/- The reader's Iv, list, Box. -/
set_option linter.unusedVariables false
set_option linter.unusedSimpArgs false
set_option maxRecDepth 100000
namespace Go.Pv
open Go.Proofs
theorem wholeI_c (l : List UInt8) (k : Nat) (st : Store) (h : atR st k l 0) (hl : l.length ≤ 1000000000000) : PCalls Try.prog 88 [.gp k 0, .fn (.func 89) [.gp k 0] []] st
    (fun r st' => r = .agg (encI (readI l 0).1) ∧ st' = st.set k (rd (readI l 0).2.1 (readI l 0).2.2)) := by
  have h' := h
  unfold atR rd at h
  refine pcalls_enter none Try.func88 rfl fun E => pwp_of_vc ?_
  simp -dsimp only [go_sem, h]
  refine (interval_c l k st h' hl).mono ?_
  rintro r st' ⟨rfl, rfl⟩
  have h3 : (st.set k (rd (partsI l).2.1 (partsI l).2.2)).getD k [] = [.sl .no (encB (partsI l).2.1), .sc (.int .i64 (partsI l).2.2)] := h'.set _ _
  simp -dsimp only [go_sem, h3]
  rw [readI, if_neg (by simp)]
  refine ck (fun h1 => ?_) (fun h1 => ?_)
  · have he : (partsI l).2.2 = 0 := by simpa using h1
    simp -dsimp only [go_sem]
    rw [if_pos he]
    exact ⟨rfl, rfl⟩
  · have he : (partsI l).2.2 ≠ 0 := by simpa using h1
    simp -dsimp only [go_sem, h3]
    rw [if_neg he]
    exact ⟨rfl, set_rd _ _ _ _ _ _⟩
theorem rdIv_c (l : List UInt8) (e : Int) (k : Nat) (st : Store) (h : atR st k l e) (hl : l.length ≤ 1000000000000) : PCalls Try.prog 43 [.gp k 0] st
    (fun r st' => r = .agg (encI (readI l e).1) ∧ st' = st.set k (rd (readI l e).2.1 (readI l e).2.2)) := by
  have h' := h
  unfold atR rd at h
  refine pcalls_enter none Try.func43 rfl fun E => pwp_of_vc ?_
  simp -dsimp only [go_sem, h]
  refine ck (fun h1 => ?_) (fun h1 => ?_)
  · have he : e ≠ 0 := by simpa using h1
    simp -dsimp only [go_sem]
    rw [readI_e l e he]
    exact ⟨rfl, h'.same.symm⟩
  · have he : e = 0 := by simpa using h1
    subst he
    simp -dsimp only [go_sem]
    refine (wholeI_c l k st h' hl).mono ?_
    rintro r st' ⟨rfl, rfl⟩
    simp -dsimp only [go_sem]
theorem readI_len (l : List UInt8) (e : Int) : (readI l e).2.1.length ≤ l.length := by
  unfold readI
  split
  · simp
  · split
    · have h1 := readN_len l 0
      have h2 := readN_len (readN l 0).2.1 (readN l 0).2.2
      show (readN (readN l 0).2.1 (readN l 0).2.2).2.1.length ≤ _
      omega
    · simp
theorem rightI_def : rightI default = true := by decide
theorem readI_right (l : List UInt8) (e : Int) : rightI (readI l e).1 = true := by
  by_cases he : e = 0
  · subst he
    by_cases h : (readI l 0).2.2 = 0
    · exact (readI_one l h).1
    · rw [readI_bad l 0 h]; exact rightI_def
  · rw [readI_e l e he]; exact rightI_def
theorem pb1_lt (l : List UInt8) : (pb1 l).1 < 18446744073709551616 := readU_lt l 0
theorem pb1_len (l : List UInt8) : (pb1 l).2.1.length ≤ l.length := readU_len l 0
theorem pb1_small (l : List UInt8) (h : (pb1 l).2.2 = 0) : (pb1 l).1 ≤ 4 := by
  unfold pb1 at h ⊢
  simp only at h ⊢
  split at h
  · simp at h
  · omega
set_option maxHeartbeats 1000000 in
theorem list_c (l : List UInt8) (k : Nat) (st : Store) (h : atR st k l 0) (hl : l.length ≤ 1000000000000) : PCalls Try.prog 91 [.gp k 0] st
    (fun r st' => r = .sl .no (encIs (partsB l).1) ∧ st' = st.set k (rd (partsB l).2.1 (partsB l).2.2)) := by
  refine pcalls_enter none Try.func91 rfl fun E => pwp_seq (pwp_of_vc ?_)
  simp -dsimp only [go_sem]
  refine pwp_seq (pwp_of_vc ?_)
  simp -dsimp only [go_sem]
  refine (rdUint_c l 0 k st h hl).mono ?_
  rintro r st' ⟨rfl, rfl⟩
  simp -dsimp only [go_sem]
  have hu1 := pb1_lt l
  have hu2 := pb1_len l
  refine pwp_cut_mask [true, false, false, true] 0 0 (fun s => s = ⟨[.gp k 0, .junk, .junk, .sc (.int .u64 ((pb1 l).1 : Nat))] ++ List.replicate 33 .junk, [], [], st.set k (rd (pb1 l).2.1 (pb1 l).2.2)⟩) ?_ ?_
  · simp -dsimp only [go_sem]
    have bad : ((readU l 0).1 < 1 ∨ 4 < (readU l 0).1) → st.set k (rd (readU l 0).2.1 (if (readU l 0).2.2 = 0 then 11 else (readU l 0).2.2)) = st.set k (rd (pb1 l).2.1 (pb1 l).2.2) := fun hb => by
      unfold pb1
      by_cases he : (readU l 0).2.2 = 0
      · rw [if_pos he, if_pos ⟨hb, he⟩]
      · rw [if_neg he, if_neg (fun h2 => he h2.2)]
    refine gkF (fun h1 => ?_) (fun h1 => ?_)
    · have hb1 : ¬(readU l 0).1 < 1 := by have := of_decide_eq_false h1; omega
      simp -dsimp only [go_sem, h1]
      refine ck (fun h2 => ?_) (fun h2 => ?_)
      · have hb : 4 < (readU l 0).1 := by have := of_decide_eq_true h2; omega
        simp -dsimp only [go_sem]
        refine (rfail_c _ _ 11 k _ (h.set (readU l 0).2.1 (readU l 0).2.2)).mono ?_
        rintro r st' ⟨rfl, rfl⟩
        simp -dsimp only [go_sem, set_rd]
        rw [bad (.inr hb)]; rfl
      · have hb : ¬4 < (readU l 0).1 := by have := of_decide_eq_false h2; omega
        simp -dsimp only [go_sem]
        unfold pb1
        rw [if_neg (by rintro ⟨h3, _⟩; omega)]
    · have hb1 : (readU l 0).1 < 1 := by have := of_decide_eq_true h1; omega
      simp -dsimp only [go_sem, h1]
      refine (rfail_c _ _ 11 k _ (h.set (readU l 0).2.1 (readU l 0).2.2)).mono ?_
      rintro r st' ⟨rfl, rfl⟩
      simp -dsimp only [go_sem, set_rd]
      rw [bad (.inl hb1)]; rfl
  rintro s rfl
  have hsm := pb1_small l
  have hp : partsB l = pb2 (pb1 l).1 (pb1 l).2.1 (pb1 l).2.2 := rfl
  rw [hp]
  clear hp
  generalize pb1 l = U at *
  obtain ⟨u, l1, e1⟩ := U
  simp only at hu1 hu2 hsm ⊢
  have g3 : ∀ (l : List UInt8) (e : Int), (st.set k (rd l e)).getD k [] = [.sl .no (encB l), .sc (.int .i64 e)] := fun l e => h.set l e
  refine pwp_of_vc ?_
  simp -dsimp only [go_sem]
  refine pwp_claim 4 6 ?_
  simp -dsimp only [go_sem]
  refine pwp_loop_mask [true, false, false, true, true, true, true] 0 1 (fun n s => ∃ i o l' e', n = u - i ∧ i ≤ u ∧ i ≤ 4 ∧ o.length = i ∧ l'.length ≤ l1.length ∧ (e' = 0 → u ≤ 4) ∧ (e' = 0 → readIs (u - i) l' o = pb2 u l1 e1) ∧ (e' ≠ 0 → (o, l', e') = pb2 u l1 e1) ∧
      s = ⟨[.gp k 0, .junk, .junk, .sc (.int .u64 (u : Nat)), .sl (.own 0) (encIs o), .fn (.func 43) [.gp k 0] [], .sc (.int .u64 (i : Nat))] ++ List.replicate 30 .junk, [], [(o.length, 6)], st.set k (rd l' e')⟩) u ?_ ?_
  · simp -dsimp only [go_sem]
    refine ⟨0, [], l1, e1, by omega, by omega, by omega, rfl, by omega, hsm, fun h5 => ?_, fun h5 => ?_, rfl⟩
    · rw [pb2, if_pos h5]; rfl
    · rw [pb2, if_neg h5]
  · rintro n s ⟨i, o, l', e', rfl, hi, hi4, ho, hl', hsm3, hk0, hk1, rfl⟩
    have g4 := g3 l' e'
    have fin : (e' ≠ 0 ∨ i = u) → pb2 u l1 e1 = (o, l', e') := fun hf => by
      by_cases he : e' = 0
      · subst he
        have hge : i = u := hf.resolve_left (fun h => h rfl)
        rw [← hk0 rfl, hge, Nat.sub_self, readIs]
      · exact (hk1 he).symm
    simp -dsimp only [go_sem, g4]
    refine gkT (fun h5 => ?_) (fun h5 => ?_)
    · have hlt : i < u := by have := of_decide_eq_true h5; omega
      simp -dsimp only [go_sem, h5, g4]
      refine ck (fun h6 => ?_) (fun h6 => ?_)
      · have he : e' = 0 := by simpa using h6
        subst he
        have hk := hk0 rfl
        have h64 := hsm3 rfl
        rw [show u - i = (u - (i + 1)) + 1 from by omega, readIs] at hk
        have x1 : IntKind.u64.wrap ((i : Int) + 1) = ((i + 1 : Nat) : Int) := by rw [show ((i : Int) + 1) = ((i + 1 : Nat) : Int) from rfl, wrap_u64 _ (by omega)]
        simp -dsimp only [go_sem]
        refine (rdIv_c l' 0 k _ (h.set l' 0) (by omega)).mono ?_
        rintro r st' ⟨rfl, rfl⟩
        have hlen := readI_len l' 0
        simp -dsimp only [go_sem, set_rd, x1]
        refine ⟨⟨by omega, by omega⟩, u - (i + 1), by omega, i + 1, o ++ [(readI l' 0).1], (readI l' 0).2.1, (readI l' 0).2.2, rfl, by omega, by omega, by simp [ho], by omega, fun _ => h64, fun h9 => ?_, fun h9 => ?_, ?_⟩
        · rw [if_pos h9] at hk; exact hk
        · rw [if_neg h9] at hk; exact hk
        · simp [encIs, encI]
      · have he : e' ≠ 0 := by simpa using h6
        simp -dsimp only [go_sem]
        refine pwp_plain [false, false, false, false, true] (pwp_of_vc ?_)
        simp -dsimp only [go_sem]
        rw [fin (.inl he)]
        exact ⟨rfl, rfl⟩
    · have hge : i = u := by have := of_decide_eq_false h5; omega
      simp -dsimp only [go_sem, h5]
      refine pwp_plain [false, false, false, false, true] (pwp_of_vc ?_)
      simp -dsimp only [go_sem]
      rw [fin (.inr hge)]
      exact ⟨rfl, rfl⟩
theorem wholeB_c (l : List UInt8) (k : Nat) (st : Store) (h : atR st k l 0) (hl : l.length ≤ 1000000000000) : PCalls Try.prog 90 [.gp k 0, .fn (.func 91) [.gp k 0] []] st
    (fun r st' => r = .sl .no (encIs (readB l 0).1) ∧ st' = st.set k (rd (readB l 0).2.1 (readB l 0).2.2)) := by
  have h' := h
  unfold atR rd at h
  refine pcalls_enter none Try.func90 rfl fun E => pwp_of_vc ?_
  simp -dsimp only [go_sem, h]
  refine (list_c l k st h' hl).mono ?_
  rintro r st' ⟨rfl, rfl⟩
  have h3 : (st.set k (rd (partsB l).2.1 (partsB l).2.2)).getD k [] = [.sl .no (encB (partsB l).2.1), .sc (.int .i64 (partsB l).2.2)] := h'.set _ _
  simp -dsimp only [go_sem, h3]
  rw [readB, if_neg (by simp)]
  refine ck (fun h1 => ?_) (fun h1 => ?_)
  · have he : (partsB l).2.2 = 0 := by simpa using h1
    simp -dsimp only [go_sem]
    rw [if_pos he]
    exact ⟨rfl, rfl⟩
  · have he : (partsB l).2.2 ≠ 0 := by simpa using h1
    simp -dsimp only [go_sem, h3]
    rw [if_neg he]
    exact ⟨rfl, set_rd _ _ _ _ _ _⟩
theorem rdBox_c (l : List UInt8) (e : Int) (k : Nat) (st : Store) (h : atR st k l e) (hl : l.length ≤ 1000000000000) : PCalls Try.prog 45 [.gp k 0] st
    (fun r st' => r = .sl .no (encIs (readB l e).1) ∧ st' = st.set k (rd (readB l e).2.1 (readB l e).2.2)) := by
  have h' := h
  unfold atR rd at h
  refine pcalls_enter none Try.func45 rfl fun E => pwp_of_vc ?_
  simp -dsimp only [go_sem, h]
  refine ck (fun h1 => ?_) (fun h1 => ?_)
  · have he : e ≠ 0 := by simpa using h1
    simp -dsimp only [go_sem]
    rw [readB_e l e he]
    exact ⟨rfl, h'.same.symm⟩
  · have he : e = 0 := by simpa using h1
    subst he
    simp -dsimp only [go_sem]
    refine (wholeB_c l k st h' hl).mono ?_
    rintro r st' ⟨rfl, rfl⟩
    simp -dsimp only [go_sem]
end Go.Pv
end
