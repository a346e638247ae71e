/- Parts of the walk: N9, N10, N11, N12. -/
import Derived.Test.YtelmlebahoeikaaGreatDoorZAB
import Derived.Test.YtelmlebahoeikaaGreatDoorZY
import Derived.Test.YtelmlebahoeikaaGreatDoorZG
set_option linter.unusedVariables false
set_option linter.unusedSimpArgs false
section
/- nat.Mul. -/
set_option linter.unusedVariables false
set_option linter.unusedSimpArgs false
set_option maxRecDepth 100000
namespace Go.Pv
open Go.Proofs
theorem mul_step (b : List UInt64) (i j x V S : Nat) (hj : j < b.length) (hS : S = V + 18446744073709551616 ^ i * (x * valW (b.take j))) :
    S + 18446744073709551616 ^ (i + j) * (x * (b.getD j 0).toNat) = V + 18446744073709551616 ^ i * (x * valW (b.take (j + 1))) := by
  rw [hS, valW_take_succ b j hj, Nat.pow_add]
  grind
theorem mul_row (a b o : List UInt64) (i : Nat) (c : UInt64) (hi : i < a.length) (hn : i + b.length < o.length) (h0 : o.getD (i + b.length) 0 = 0)
    (hv : valW o + 18446744073709551616 ^ (i + b.length) * c.toNat = valW (a.take i) * valW b + 18446744073709551616 ^ i * ((a.getD i 0).toNat * valW b)) :
    valW (o.set (i + b.length) c) = valW (a.take (i + 1)) * valW b := by
  have h1 := valW_set o (i + b.length) c hn
  rw [h0, show (0 : UInt64).toNat = 0 from rfl, Nat.mul_zero, Nat.add_zero] at h1
  rw [h1, hv, valW_take_succ a i hi, Nat.add_mul, Nat.mul_assoc]
theorem three_bound (x y w c z1 z2 c1 c2 lo hi : Nat) (hx : x < 18446744073709551616) (hy : y < 18446744073709551616) (hw : w < 18446744073709551616) (hc : c < 18446744073709551616)
    (h1 : lo + 18446744073709551616 * hi = x * y) (h2 : z1 + 18446744073709551616 * c1 = lo + w) (h3 : z2 + 18446744073709551616 * c2 = z1 + c) :
    hi + c1 + c2 < 18446744073709551616 ∧ z2 + 18446744073709551616 * (hi + c1 + c2) = w + x * y + c := by
  have p : x * y ≤ 18446744073709551615 * 18446744073709551615 := Nat.mul_le_mul (by omega) (by omega)
  generalize x * y = q at *
  omega
set_option maxHeartbeats 1000000 in
theorem natMul_c (a b : List UInt64) (st : Store) (ha : a.length ≤ 1000000000000) (hb : b.length ≤ 1000000000000) : PCalls Tryz.prog 171 [.sl .no (encW a), .sl .no (encW b)] st (fun r st' => r = .sl .no (encW (wordsOf (valW a * valW b))) ∧ st' = st) := by
  refine pcalls_enter none Tryz.func171 rfl fun E => pwp_of_vc ?_
  simp -dsimp only [go_sem]
  refine (cut_c a st (by omega)).mono ?_
  rintro r st ⟨rfl, rfl⟩
  simp -dsimp only [go_sem]
  refine (cut_c b st (by omega)).mono ?_
  rintro r st ⟨rfl, rfl⟩
  simp -dsimp only [go_sem]
  have la := cutW_le a
  have lb := cutW_le b
  rw [← valW_cut a, ← valW_cut b]
  generalize cutW a = a at *
  generalize cutW b = b at *
  have zero : a = [] ∨ b = [] → wordsOf (valW a * valW b) = [] := by
    rintro (rfl | rfl)
    · rw [valW_nil, Nat.zero_mul, wordsOf_zero]
    · rw [valW_nil, Nat.mul_zero, wordsOf_zero]
  by_cases h0 : a.length = 0
  · rw [zero (.inl (List.length_eq_zero_iff.1 h0))]
    have f1 : ((a.length : Int) == 0) = true := by rw [h0]; rfl
    simp -dsimp only [go_sem, f1]
    try rfl
  · have f1 : ((a.length : Int) == 0) = false := beq_eq_false_iff_ne.2 (by omega)
    by_cases h1 : b.length = 0
    · rw [zero (.inr (List.length_eq_zero_iff.1 h1))]
      have f2 : ((b.length : Int) == 0) = true := by rw [h1]; rfl
      simp -dsimp only [go_sem, f1, f2]
      try rfl
    · have f2 : ((b.length : Int) == 0) = false := beq_eq_false_iff_ne.2 (by omega)
      obtain ⟨m0, hm0⟩ : ∃ m0, m0 = a.length + b.length := ⟨_, rfl⟩
      have e1 : IntKind.i64.wrap ((a.length : Int) + (b.length : Int)) = ((m0 : Nat) : Int) := by
        rw [← Int.natCast_add, wrapn_i64 _ (by omega), hm0]
      simp -dsimp only [go_sem, f1, f2, e1]
      refine ⟨⟨by omega, by omega, by omega⟩, ?_⟩
      refine pwp_loop_mask [false, true, false, false, false, true, false, false, false, false, false, false, false, false, false, false, false, false, false, false, false, false, false, false, false, false, false, false, false, false, false, false, true, true, true] 1 0
        (fun m s' => ∃ i o, m = a.length - i ∧ i ≤ a.length ∧ o.length = m0 ∧ valW o = valW (a.take i) * valW b ∧ (∀ q, i + b.length ≤ q → o.getD q 0 = 0) ∧
          s' = ⟨[.junk, .sl .no (encW b), .junk, .junk, .junk, .ms false 0 0 m0] ++ List.replicate 26 .junk ++ [.sl .no (encW a), .sc (.int .i64 a.length), .sc (.int .i64 (i : Nat))] ++ List.replicate 57 .junk, [encW o], [], st⟩) a.length ?_ ?_
      · simp -dsimp only [go_sem]
        refine ⟨0, List.replicate m0 0, by omega, by omega, by simp, by simp [valW_zeros, valW_nil], fun q _ => getD_replicate _ _ _, rfl⟩
      · rintro m s' ⟨i, o, rfl, hi, ho, hv, hz, rfl⟩
        simp -dsimp only [go_sem]
        refine ck (fun h => ?_) (fun h => ?_)
        · have hlt : i < a.length := by have := of_decide_eq_true h; omega
          have g1 := encW_get a i hlt
          have x4 : IntKind.i64.wrap ((i : Int) + 1) = ((i + 1 : Nat) : Int) := by
            rw [show ((i : Int) + 1) = ((i + 1 : Nat) : Int) from rfl, wrapn_i64 _ (by omega)]
          simp -dsimp only [go_sem, g1]
          refine ⟨by omega, ?_⟩
          refine pwp_loop_mask [false, true, false, false, false, true, true, true, true, false, false, false, false, false, false, false, false, false, false, false, false, false, false, false, false, false, false, false, false, false, false, false, true, true, true, false, false, false, false, true, true, true] 1 0
            (fun m s' => ∃ (j : Nat) (o : List UInt64) (c : UInt64), m = b.length - j ∧ j ≤ b.length ∧ o.length = m0 ∧ valW o + 18446744073709551616 ^ (i + j) * c.toNat = valW (a.take i) * valW b + 18446744073709551616 ^ i * ((a.getD i 0).toNat * valW (b.take j)) ∧ (∀ q, i + b.length ≤ q → o.getD q 0 = 0) ∧
              s' = ⟨[.junk, .sl .no (encW b), .junk, .junk, .junk, .ms false 0 0 m0, .sc (.int .i64 (i : Nat)), .sc (.int .u64 (a.getD i 0).toNat), .sc (.int .u64 c.toNat)] ++ List.replicate 23 .junk ++ [.sl .no (encW a), .sc (.int .i64 a.length), .sc (.int .i64 (i : Nat)), .junk, .junk, .junk, .junk, .sl .no (encW b), .sc (.int .i64 b.length), .sc (.int .i64 (j : Nat))] ++ List.replicate 50 .junk, [encW o], [], st⟩) b.length ?_ ?_
          · simp -dsimp only [go_sem]
            refine ⟨0, o, 0, by omega, by omega, ho, ?_, hz, rfl⟩
            rw [hv]; simp [valW_nil]
          · clear hv hz ho h
            clear o
            rintro m s' ⟨j, o, c, rfl, hj, ho, hv, hz, rfl⟩
            simp -dsimp only [go_sem]
            refine ck (fun h => ?_) (fun h => ?_)
            · have hjt : j < b.length := by have := of_decide_eq_true h; omega
              have g2 := encW_get b j hjt
              have g3 := encW_get o (i + j) (by omega)
              have x1 : IntKind.i64.wrap ((i : Int) + (j : Int)) = ((i + j : Nat) : Int) := by
                rw [← Int.natCast_add, wrapn_i64 _ (by omega)]
              have x2 : IntKind.i64.wrap ((j : Int) + 1) = ((j + 1 : Nat) : Int) := by
                rw [show ((j : Int) + 1) = ((j + 1 : Nat) : Int) from rfl, wrapn_i64 _ (by omega)]
              simp -dsimp only [go_sem, g2]
              refine ⟨by omega, ?_⟩
              refine (mul64_c (a.getD i 0).toNat (b.getD j 0).toNat st (UInt64.toNat_lt _) (UInt64.toNat_lt _)).mono ?_
              rintro r st ⟨hw, lw, hlw, rfl, rfl⟩
              simp -dsimp only [go_sem, x1, g3]
              refine ⟨⟨by omega, by omega⟩, by omega, ?_⟩
              refine (add64z_c lw.toNat (o.getD (i + j) 0).toNat 0 st (UInt64.toNat_lt _) (UInt64.toNat_lt _) (by decide)).mono ?_
              rintro r st ⟨z1, c1, hc1, hz1, rfl, rfl⟩
              simp -dsimp only [go_sem]
              refine (add64z_c z1.toNat c.toNat 0 st (UInt64.toNat_lt _) (UInt64.toNat_lt _) (by decide)).mono ?_
              rintro r st ⟨z2, c2, hc2, hz2, rfl, rfl⟩
              have q1 : (a.getD i 0).toNat < 18446744073709551616 := UInt64.toNat_lt (a.getD i 0)
              have q2 : (b.getD j 0).toNat < 18446744073709551616 := UInt64.toNat_lt (b.getD j 0)
              have q3 : (o.getD (i + j) 0).toNat < 18446744073709551616 := UInt64.toNat_lt (o.getD (i + j) 0)
              have q4 : c.toNat < 18446744073709551616 := UInt64.toNat_lt c
              have q5 : z1.toNat + 18446744073709551616 * c1 = lw.toNat + (o.getD (i + j) 0).toNat := by rw [Nat.add_zero] at hz1; exact hz1
              have q6 : z2.toNat + 18446744073709551616 * c2 = z1.toNat + c.toNat := by rw [Nat.add_zero] at hz2; exact hz2
              have t12 := three_bound (a.getD i 0).toNat (b.getD j 0).toNat (o.getD (i + j) 0).toNat c.toNat z1.toNat z2.toNat c1 c2 lw.toNat hw.toNat q1 q2 q3 q4 hlw q5 q6
              have t1 := t12.1
              have t2 := t12.2
              have w1 := wrap_addN hw.toNat c1 (by omega)
              have w2 := wrap_addN (hw.toNat + c1) c2 t1
              have w3 : ((hw.toNat + c1 + c2 : Nat) : Int) = (((UInt64.ofNat (hw.toNat + c1 + c2)).toNat : Nat) : Int) := by rw [u64_ofNat _ t1]
              rw [w3] at w2
              have o1 := encW_over o (i + j) z2 (by omega)
              have hs := carry_step o (i + j) z2 c.toNat (hw.toNat + c1 + c2) ((a.getD i 0).toNat * (b.getD j 0).toNat) _ (by omega) t2 hv
              have hm := mul_step b i j (a.getD i 0).toNat (valW (a.take i) * valW b) _ hjt rfl
              simp -dsimp only [go_sem, x1, x2, w1, w2, o1]
              refine ⟨⟨by omega, by omega⟩, ⟨by omega, by omega⟩, b.length - (j + 1), by omega, j + 1, o.set (i + j) z2, UInt64.ofNat (hw.toNat + c1 + c2), rfl, by omega, by rw [List.length_set]; exact ho, ?_, fun q hq => ?_, rfl⟩
              · rw [u64_ofNat _ t1, ← hm, ← hs, ← Nat.add_assoc i j 1]
              · rw [getD_set, if_neg (by omega)]; exact hz q hq
            · have hge : j = b.length := by have := of_decide_eq_false h; omega
              have x3 : IntKind.i64.wrap ((i : Int) + (b.length : Int)) = ((i + b.length : Nat) : Int) := by
                rw [← Int.natCast_add, wrapn_i64 _ (by omega)]
              have o1 := encW_over o (i + b.length) c (by omega)
              rw [hge, List.take_length] at hv
              have hr := mul_row a b o i c hlt (by omega) (hz _ (Nat.le_refl _)) hv
              simp -dsimp only [go_sem]
              refine pwp_of_vc ?_
              simp -dsimp only [go_sem, x3, o1]
              refine ⟨⟨by omega, by omega⟩, ⟨by omega, by omega⟩, ?_⟩
              refine pwp_of_vc ?_
              simp -dsimp only [go_sem, x4]
              refine ⟨a.length - (i + 1), by omega, i + 1, _, rfl, by omega, by rw [List.length_set]; exact ho, hr, fun q hq => ?_, rfl⟩
              rw [getD_set, if_neg (by omega)]; exact hz q (by omega)
        · have hge : i = a.length := by have := of_decide_eq_false h; omega
          have ht : o.take m0 = o := List.take_of_length_le (by omega)
          have hle : m0 ≤ o.length := by omega
          rw [hge, List.take_length] at hv
          simp -dsimp only [go_sem]
          refine pwp_freeze 0 ?_ ?_
          · simp -dsimp only [go_sem]
          · refine pwp_of_vc ?_
            simp -dsimp only [go_sem, ht, hle]
            refine (cut_c o st (by omega)).mono ?_
            rintro r st ⟨rfl, rfl⟩
            simp -dsimp only [go_sem]
            rw [← wordsOf_valW o, hv]
end Go.Pv
end

section
/- exact.Half, Mul, Add, Sub. -/
set_option linter.unusedVariables false
set_option linter.unusedSimpArgs false
set_option maxRecDepth 100000
namespace Go.Pv
open Go.Proofs
theorem exMul_c (a b : Nm) (n k m l : Nat) (st : Store) (ha : bd n k a) (hb : bd m l b) (h1 : n ≤ 100000000000) (h2 : m ≤ 100000000000) (h3 : k ≤ 100000000000) (h4 : l ≤ 100000000000) :
    PCalls Tryz.prog 105 [.agg (encN a), .agg (encN b)] st (fun r st' => ∃ y, bd (n + m) (k + l) y ∧ qN y = qN a * qN b ∧ r = .agg (encN y) ∧ st' = st) := by
  obtain ⟨a1, a2, a3⟩ := ha
  obtain ⟨b1, b2, b3⟩ := hb
  refine pcalls_enter none Tryz.func105 rfl fun E => pwp_of_vc ?_
  have x1 : IntKind.i64.wrap (a.exp + b.exp) = a.exp + b.exp := wrap_i64 _ (by omega) (by omega)
  simp -dsimp only [go_sem]
  refine pwp_draw mixed 21 (.step 0 [] (.step 1 [] (.step 2 [] (.step 3 [] (.step 4 [] (.step 5 [] (.step 6 [] (.step 7 [] (.step 8 [] (.step 9 [] (.step 10 [] (.step 11 [] (.step 12 [] (.step 13 [] (.step 14 [1, 3, 6, 8] (.step 15 [] (.step 16 [] (.done)))))))))))))))))) (by decide +kernel) (by simp) ?_
  simp -dsimp only [go_sem, x1]
  refine (natMul_c a.w b.w _ (by omega) (by omega)).mono ?_
  rintro r st ⟨rfl, rfl⟩
  simp -dsimp only [go_sem, x1]
  exact ⟨_, len_mul a b n k m l ⟨a1, a2, a3⟩ ⟨b1, b2, b3⟩, qN_mul a b, rfl⟩
theorem exAdd_c (a b : Nm) (n k : Nat) (st : Store) (ha : bd n k a) (hb : bd n k b) (h1 : n ≤ 10000000000) (h3 : k ≤ 10000000000) :
    PCalls Tryz.prog 100 [.agg (encN a), .agg (encN b)] st (fun r st' => ∃ y, bd (n + k + 1) k y ∧ qN y = qN a + qN b ∧ r = .agg (encN y) ∧ st' = st) := by
  refine pcalls_enter none Tryz.func100 rfl fun E => pwp_of_vc ?_
  simp -dsimp only [go_sem]
  refine (exSign_c a _ (by have := ha.1; omega)).mono ?_
  rintro r st ⟨rfl, rfl⟩
  simp -dsimp only [go_sem]
  refine ck (fun h => ?_) (fun h => ?_)
  · have h0 := sgnN_zero (zbeq_t h)
    simp -dsimp only [go_sem]
    exact ⟨b, hb.mono (by omega) (by omega), by rw [h0]; grind, rfl⟩
  · simp -dsimp only [go_sem]
    refine (exSign_c b _ (by have := hb.1; omega)).mono ?_
    rintro r st ⟨rfl, rfl⟩
    simp -dsimp only [go_sem]
    refine ck (fun h => ?_) (fun h => ?_)
    · have h0 := sgnN_zero (zbeq_t h)
      simp -dsimp only [go_sem]
      exact ⟨a, ha.mono (by omega) (by omega), by rw [h0]; grind, rfl⟩
    · rename_i hsa
      obtain ⟨Q, hQ⟩ : ∃ Q, Q = qN a + qN b := ⟨_, rfl⟩
      rw [← hQ]
      simp -dsimp only [go_sem]
      clear h hsa
      refine ck (fun h => ?_) (fun h => ?_)
      case' refine_1 =>
        have hle : b.exp ≤ a.exp := by have := of_decide_eq_true h; omega
        have hQ' : Q = qN b + qN a := by rw [hQ]; grind
        have hB := ha
        have hA := hb
        clear h hQ ha hb
        have hQ := hQ'
        clear hQ'
        generalize a = B at *
        generalize b = A at *
      case' refine_2 =>
        have hle : a.exp ≤ b.exp := by have := of_decide_eq_false h; omega
        have hA := ha
        have hB := hb
        clear h ha hb
        generalize b = B at *
        generalize a = A at *
      all_goals
        obtain ⟨d, hd⟩ : ∃ d : Nat, B.exp = A.exp + d := ⟨(B.exp - A.exp).toNat, by omega⟩
        have hd2 : d ≤ 2 * k := by have := hA.2.1; have := hB.2.2; omega
        have x1 : IntKind.i64.wrap (B.exp - A.exp) = ((d : Nat) : Int) := by rw [show B.exp - A.exp = (d : Int) from by omega, wrapn_i64 _ (by omega)]
        have lA := hA.1
        have lB := hB.1
        have hab : ∀ m, m ≤ valW A.w + valW B.w * 2 ^ d → ∀ neg, bd (n + k + 1) k ⟨neg, A.exp, wordsOf m⟩ := fun m hm neg => ⟨ex_len2 A B n k d m hA hB hd2 hm, hA.2.1, hA.2.2⟩
        have hlW : (wordsOf (valW B.w * 2 ^ d)).length ≤ n + k + 1 := ex_len2 A B n k d _ hA hB hd2 (by omega)
        simp -dsimp only [go_sem, x1]
        refine (up_c B.w d _ (by omega) (by omega)).mono ?_
        rintro r st ⟨rfl, rfl⟩
        simp -dsimp only [go_sem]
        refine ck (fun h => ?_) (fun h => ?_)
        · have hn : A.neg = B.neg := by simpa using h
          simp -dsimp only [go_sem]
          refine pwp_draw mixed 77 (.step 0 [] (.step 1 [] (.step 2 [] (.step 3 [] (.step 4 [] (.step 5 [] (.step 6 [] (.step 7 [1, 3] (.step 8 [] (.step 9 [] (.done))))))))))) (by decide +kernel) (by simp) ?_
          simp -dsimp only [go_sem]
          refine (natAdd_c A.w _ _ (by omega) (by omega)).mono ?_
          rintro r st ⟨rfl, rfl⟩
          rw [valW_wordsOf]
          simp -dsimp only [go_sem]
          exact ⟨_, hab _ (by omega) A.neg, by rw [ex_same A B d hd hn, hQ], rfl⟩
        · have hn : A.neg ≠ B.neg := by simpa using h
          simp -dsimp only [go_sem]
          refine (natSub_c A.w _ _ (by omega) (by omega)).mono ?_
          rintro r st ⟨rfl, rfl⟩
          rw [valW_wordsOf]
          by_cases hc : valW B.w * 2 ^ d ≤ valW A.w
          · rw [if_neg (by omega), decide_eq_true hc]
            simp -dsimp only [go_sem]
            exact ⟨_, hab _ (by omega) A.neg, by rw [ex_diff1 A B d hd hn hc, hQ], rfl⟩
          · rw [if_pos (by omega), decide_eq_false hc]
            simp -dsimp only [go_sem]
            refine (natSub_c _ A.w _ (by omega) (by omega)).mono ?_
            rintro r st ⟨rfl, rfl⟩
            rw [valW_wordsOf, if_neg (by omega), decide_eq_true (show valW A.w ≤ valW B.w * 2 ^ d by omega)]
            simp -dsimp only [go_sem]
            exact ⟨_, hab _ (by omega) B.neg, by rw [ex_diff2 A B d hd hn (by omega), hQ], rfl⟩
end Go.Pv
end

section
/- num.Make, made, both, Add, Sub, Mul, Scale. -/
set_option linter.unusedVariables false
set_option linter.unusedSimpArgs false
set_option maxRecDepth 100000
namespace Go.Pv
open Go.Proofs
theorem numMake_c (neg : Bool) (w : List UInt64) (e : Int) (st : Store) (hw : w.length ≤ 1000000000) (he1 : -1000000000000 ≤ e) (he2 : e ≤ 1000000000000) : PCalls Tryz.prog 106 [.sc (.bool neg), .sl .no (encW w), .sc (.int .i64 e)] st
    (fun r st' => r = .tup [.agg (encN (mkX neg w e).1), .sc (.int .i64 (mkX neg w e).2)] ∧ st' = st) := by
  refine pcalls_enter none Tryz.func106 rfl fun E => pwp_of_vc ?_
  have hb := bitsW_le w
  simp -dsimp only [go_sem]
  refine (natBits_c w _ (by omega)).mono ?_
  rintro r st ⟨rfl, rfl⟩
  simp -dsimp only [go_sem]
  refine ck (fun h => ?_) (fun h => ?_)
  · have h0 : valW w = 0 := by
      have h1 : bitsW w = 0 := nbeq_t (b := 0) h
      refine Classical.byContradiction fun hne => ?_
      have := bitlen_pos hne
      unfold bitsW at h1; omega
    simp -dsimp only [go_sem]
    rw [mkX_zero h0]; rfl
  · have h0 : valW w ≠ 0 := fun e => nbeq_f (b := 0) h (by unfold bitsW; rw [e, bitlen_zero])
    have ht := tz_lt_bitlen (valW w) h0
    have ht2 : tz (valW w) ≤ 64000000000 := by unfold bitsW at hb; omega
    have x1 : IntKind.i64.wrap (-65536 - ((tz (valW w) : Nat) : Int)) = -65536 - ((tz (valW w) : Nat) : Int) := wrap_i64 _ (by omega) (by omega)
    have x2 : IntKind.i64.wrap (e + ((tz (valW w) : Nat) : Int)) = e + ((tz (valW w) : Nat) : Int) := wrap_i64 _ (by omega) (by omega)
    simp -dsimp only [go_sem]
    refine (natZeros_c w _ (by omega)).mono ?_
    rintro r st ⟨rfl, rfl⟩
    by_cases c1 : 65536 < e
    · have f1 : decide (e > 65536) = true := decide_eq_true c1
      simp -dsimp only [go_sem, f1]
      rw [mkX_far h0 (.inl c1)]; rfl
    · have f1 : decide (e > 65536) = false := decide_eq_false c1
      by_cases c2 : e < -65536 - ((tz (valW w) : Nat) : Int)
      · have f2 : decide (e < -65536 - ((tz (valW w) : Nat) : Int)) = true := decide_eq_true c2
        simp -dsimp only [go_sem, f1, x1, f2]
        rw [mkX_far h0 (.inr c2)]; rfl
      · have f2 : decide (e < -65536 - ((tz (valW w) : Nat) : Int)) = false := decide_eq_false c2
        simp -dsimp only [go_sem, f1, x1, f2, x2]
        refine (natDown_c w (tz (valW w)) _ (by omega) (by omega)).mono ?_
        rintro r st ⟨rfl, rfl⟩
        simp -dsimp only [go_sem, x2]
        have hlen : (wordsOf (valW w / 2 ^ tz (valW w))).length ≤ w.length := by
          have h1 := wordsOf_mono (Nat.div_le_self (valW w) (2 ^ tz (valW w)))
          rw [wordsOf_valW] at h1
          have := cutW_le w
          omega
        refine (numRight_c ⟨neg, e + ((tz (valW w) : Nat) : Int), wordsOf (valW w / 2 ^ tz (valW w))⟩ _ (by simp only; omega)).mono ?_
        rintro r st ⟨rfl, rfl⟩
        rw [mkX_near h0]
        simp -dsimp only [go_sem]
        refine ck (fun h => ?_) (fun h => ?_)
        · have hr : rightN ⟨neg, e + ((tz (valW w) : Nat) : Int), wordsOf (valW w / 2 ^ tz (valW w))⟩ = false := by simpa using h
          simp -dsimp only [go_sem]
          rw [if_neg (by rw [hr]; simp)]; rfl
        · have hr : rightN ⟨neg, e + ((tz (valW w) : Nat) : Int), wordsOf (valW w / 2 ^ tz (valW w))⟩ = true := by simpa using h
          simp -dsimp only [go_sem]
          rw [if_pos hr]
theorem made_c (x : Nm) (st : Store) (hw : x.w.length ≤ 1000000000) (he1 : -1000000000000 ≤ x.exp) (he2 : x.exp ≤ 1000000000000) : PCalls Tryz.prog 83 [.agg (encN x)] st
    (fun r st' => r = .tup [.agg (encN (numV (ofX x)).1), .sc (.int .i64 (numV (ofX x)).2)] ∧ st' = st) := by
  refine pcalls_enter none Tryz.func83 rfl fun E => pwp_of_vc ?_
  simp -dsimp only [go_sem]
  refine (numMake_c x.neg x.w x.exp _ hw he1 he2).mono ?_
  rintro r st ⟨rfl, rfl⟩
  rw [mkX_ofX]
  simp -dsimp only [go_sem]
theorem numBoth_c (g : FuncId) (k : Nat) (a b : Nm) (st : Store) (hc : callable Tryz.prog g = true) (ha : wN a) (hb : wN b)
    (h : rightN a = true → rightN b = true → ∀ st, PCalls Tryz.prog g [.agg (encN a), .agg (encN b)] st (fun r st' => ∃ y, bd 1000000 1000000 y ∧ qN y = exQ k (qN a) (qN b) ∧ r = .agg (encN y) ∧ st' = st)) :
    PCalls Tryz.prog 99 [.agg (encN a), .agg (encN b), .fn (.func g) [] []] st (fun r st' => r = .tup [.agg (encN (strN k a b).1), .sc (.int .i64 (strN k a b).2)] ∧ st' = st) := by
  unfold wN at ha hb
  refine pcalls_enter none Tryz.func99 rfl fun E => pwp_of_vc ?_
  simp -dsimp only [go_sem]
  refine (numRight_c a _ (by omega)).mono ?_
  rintro r st ⟨rfl, rfl⟩
  cases r1 : rightN a with
  | false =>
    simp -dsimp only [go_sem]
    rw [strN, if_neg (by rw [r1]; simp)]; rfl
  | true =>
    simp -dsimp only [go_sem]
    refine (numRight_c b _ (by omega)).mono ?_
    rintro r st ⟨rfl, rfl⟩
    cases r2 : rightN b with
    | false =>
      simp -dsimp only [go_sem]
      rw [strN, if_neg (by rw [r2]; simp)]; rfl
    | true =>
      simp -dsimp only [go_sem, hc]
      refine (h r1 r2 _).mono ?_
      rintro r st ⟨y, y1, y2, rfl, rfl⟩
      simp -dsimp only [go_sem]
      refine (made_c y _ (by have := y1.1; omega) (by have := y1.2.1; omega) (by have := y1.2.2; omega)).mono ?_
      rintro r st ⟨rfl, rfl⟩
      simp -dsimp only [go_sem]
      rw [strN, if_pos ⟨r1, r2⟩, ofX_of (canV_ex k (canV_ofN r1) (canV_ofN r2)) (by rw [qV_ex, qV_ofN, qV_ofN, y2])]
theorem exOp0 (a b : Nm) (r1 : rightN a = true) (r2 : rightN b = true) (st : Store) : PCalls Tryz.prog 100 [.agg (encN a), .agg (encN b)] st (fun r st' => ∃ y, bd 1000000 1000000 y ∧ qN y = exQ 0 (qN a) (qN b) ∧ r = .agg (encN y) ∧ st' = st) :=
  (exAdd_c a b 64 65536 st (rightN_bd r1) (rightN_bd r2) (by omega) (by omega)).mono fun r st' ⟨y, h1, h2, h3⟩ => ⟨y, h1.mono (by omega) (by omega), h2, h3⟩
theorem exOp2 (a b : Nm) (r1 : rightN a = true) (r2 : rightN b = true) (st : Store) : PCalls Tryz.prog 105 [.agg (encN a), .agg (encN b)] st (fun r st' => ∃ y, bd 1000000 1000000 y ∧ qN y = exQ 2 (qN a) (qN b) ∧ r = .agg (encN y) ∧ st' = st) :=
  (exMul_c a b 64 65536 64 65536 st (rightN_bd r1) (rightN_bd r2) (by omega) (by omega) (by omega) (by omega)).mono fun r st' ⟨y, h1, h2, h3⟩ => ⟨y, h1.mono (by omega) (by omega), h2, h3⟩
theorem numMul_c (a b : Nm) (st : Store) (ha : wN a) (hb : wN b) : PCalls Tryz.prog 168 [.agg (encN a), .agg (encN b)] st (fun r st' => r = .tup [.agg (encN (strN 2 a b).1), .sc (.int .i64 (strN 2 a b).2)] ∧ st' = st) := by
  refine pcalls_enter none Tryz.func168 rfl fun E => pwp_of_vc ?_
  simp -dsimp only [go_sem]
  refine (numBoth_c _ 2 a b _ rfl ha hb (exOp2 a b)).mono ?_
  rintro r st ⟨rfl, rfl⟩
  simp -dsimp only [go_sem]
end Go.Pv
end

section
/- round.Valid, away, rounded, Exact, Value, both, Add, Sub. -/
set_option linter.unusedVariables false
set_option linter.unusedSimpArgs false
set_option maxRecDepth 100000
namespace Go.Pv
open Go.Proofs
@[go_sem] theorem recv_fn {d : Option Tmp} {f : Fn} {bs cs : List PV} {pa : List PV} {L st st' : Store} {T : List (Nat × Nat)} : (PFS.mk pa L T st).recv d (.fn f bs cs) st' = (PFS.mk pa L T st').put d (.fn f bs cs) := (rfl)
theorem rndValid_c (p : Int) (st : Store) : PCalls Tryz.prog 120 [.sc (.int .i64 p)] st (fun r st' => r = .sc (.bool (precF p)) ∧ st' = st) := by
  refine pcalls_enter none Tryz.func120 rfl fun E => pwp_of_vc ?_
  unfold precF
  by_cases h : 8 ≤ p
  · have f1 : decide (p ≥ 8) = true := decide_eq_true h
    have f2 : decide (8 ≤ p) = true := decide_eq_true h
    simp -dsimp only [go_sem, f1, f2]
    try simp
  · have f1 : decide (p ≥ 8) = false := decide_eq_false h
    have f2 : decide (8 ≤ p) = false := decide_eq_false h
    simp -dsimp only [go_sem, f1, f2]
    try simp
def farF (up : Bool) : PV := .fn (.func 286) [] [.ep [.sc (.bool up)] 0]
theorem away_c (up : Bool) (st : Store) : PCalls Tryz.prog 279 [.sc (.bool up)] st (fun r st' => r = farF up ∧ st' = st) := by
  refine pcalls_enter none Tryz.func279 rfl fun E => pwp_seq (pwp_of_vc ?_)
  simp -dsimp only [go_sem]
  refine pwp_freeze 0 ?_ ?_
  · simp -dsimp only [go_sem]
  · refine pwp_of_vc ?_
    simp -dsimp only [go_sem]
    rfl
theorem away1_c (up neg : Bool) (st : Store) : PCalls Tryz.prog 286 ([.sc (.bool neg)] ++ [.ep [.sc (.bool up)] 0]) st (fun r st' => r = .sc (.bool (up != neg)) ∧ st' = st) := by
  refine pcalls_enter none Tryz.func286 rfl fun E => pwp_of_vc ?_
  simp -dsimp only [go_sem]
  cases up <;> cases neg <;> rfl
theorem valW_one : valW [1] = 1 := by decide
theorem rounded_c (x : Nm) (p : Nat) (up : Bool) (st : Store) (hx : x.w.length ≤ 1000000000) (h1 : -1000000000000 ≤ x.exp) (h2 : x.exp ≤ 1000000000000) (hp : p ≤ 1000000000) : PCalls Tryz.prog 278 [.agg (encN x), .sc (.int .i64 p), farF up] st
    (fun r st' => r = .agg (encN (rndX x p up)) ∧ st' = st) := by
  refine pcalls_enter none Tryz.func278 rfl fun E => pwp_of_vc ?_
  have hb := bitsW_le x.w
  have x1 : IntKind.i64.wrap ((bitsW x.w : Int) - (p : Int)) = (bitsW x.w : Int) - (p : Int) := wrap_i64 _ (by omega) (by omega)
  simp -dsimp only [go_sem]
  refine (natBits_c x.w _ (by omega)).mono ?_
  rintro r st ⟨rfl, rfl⟩
  simp -dsimp only [go_sem, x1]
  refine ck (fun h => ?_) (fun h => ?_)
  · have hle : bitsW x.w ≤ p := by have := of_decide_eq_true h; omega
    simp -dsimp only [go_sem]
    rw [rndX, if_pos hle]
  · have hgt : p < bitsW x.w := by have := of_decide_eq_false h; omega
    have x2 : (bitsW x.w : Int) - (p : Int) = ((bitsW x.w - p : Nat) : Int) := by omega
    rw [rndX, if_neg (by omega)]
    obtain ⟨d, hd⟩ : ∃ d, d = bitsW x.w - p := ⟨_, rfl⟩
    rw [x2, ← hd]
    have x3 : IntKind.i64.wrap (x.exp + ((d : Nat) : Int)) = x.exp + ((d : Nat) : Int) := wrap_i64 _ (by omega) (by omega)
    have hlen : (wordsOf (valW x.w / 2 ^ d)).length ≤ x.w.length := by
      have h1 := wordsOf_mono (Nat.div_le_self (valW x.w) (2 ^ d))
      rw [wordsOf_valW] at h1
      have := cutW_le x.w
      omega
    simp -dsimp only [go_sem]
    refine (natDown_c x.w d _ (by omega) (by omega)).mono ?_
    rintro r st ⟨rfl, rfl⟩
    unfold farF
    simp -dsimp only [go_sem]
    refine (away1_c up x.neg _).mono ?_
    rintro r st ⟨rfl, rfl⟩
    cases hu : (up != x.neg) with
    | false =>
      rw [if_neg (fun h => by have := h.2; simp [this] at hu), Nat.add_zero]
      simp -dsimp only [go_sem, x3]
    | true =>
      have hne : up ≠ x.neg := by simpa using hu
      simp -dsimp only [go_sem]
      refine (natZeros_c x.w _ (by omega)).mono ?_
      rintro r st ⟨rfl, rfl⟩
      simp -dsimp only [go_sem]
      refine ck (fun h => ?_) (fun h => ?_)
      · have hz : tz (valW x.w) < d := by have := of_decide_eq_true h; omega
        rw [if_pos ⟨hz, hne⟩]
        simp -dsimp only [go_sem]
        have e1 : [PV.sc (.int .u64 1)] = encW [1] := rfl
        rw [e1]
        refine (natAdd_c _ [1] _ (by omega) (by simp)).mono ?_
        rintro r st ⟨rfl, rfl⟩
        rw [valW_wordsOf, valW_one]
        simp -dsimp only [go_sem, x3]
      · have hz : ¬ tz (valW x.w) < d := by have := of_decide_eq_false h; omega
        rw [if_neg (fun h => hz h.1), Nat.add_zero]
        simp -dsimp only [go_sem, x3]
theorem rndExact_c (x : Nm) (p : Nat) (up : Bool) (st : Store) (hx : x.w.length ≤ 1000000000) (h1 : -1000000000000 ≤ x.exp) (h2 : x.exp ≤ 1000000000000) (hp : p ≤ 1000000000) : PCalls Tryz.prog 265 [.agg (encN x), .sc (.int .i64 p), .sc (.bool up)] st
    (fun r st' => r = .agg (encN (rndX x p up)) ∧ st' = st) := by
  refine pcalls_enter none Tryz.func265 rfl fun E => pwp_of_vc ?_
  simp -dsimp only [go_sem]
  refine pwp_draw mixed 12 (.step 0 [] (.step 1 [] (.step 2 [] (.step 3 [0] (.step 4 [] (.step 5 [] (.done))))))) (by decide +kernel) (by simp) ?_
  simp -dsimp only [go_sem]
  refine (away_c up _).mono ?_
  rintro r st ⟨rfl, rfl⟩
  unfold farF
  simp -dsimp only [go_sem]
  refine (rounded_c x p up _ hx h1 h2 hp).mono ?_
  rintro r st ⟨rfl, rfl⟩
  simp -dsimp only [go_sem]
theorem rndValue_c (x : Nm) (p : Nat) (up : Bool) (st : Store) (hx : bd 1000000 1000000 x) (hp0 : 0 < p) (hp : p ≤ 1000000000) : PCalls Tryz.prog 242 [.agg (encN x), .sc (.int .i64 p), .sc (.bool up)] st
    (fun r st' => r = .tup [.agg (encN (numV (roundV (ofX x) p up)).1), .sc (.int .i64 (numV (roundV (ofX x) p up)).2)] ∧ st' = st) := by
  have b1 := hx.1
  have b2 := hx.2.1
  have b3 := hx.2.2
  refine pcalls_enter none Tryz.func242 rfl fun E => pwp_of_vc ?_
  simp -dsimp only [go_sem]
  refine (rndExact_c x p up _ (by omega) (by omega) (by omega) hp).mono ?_
  rintro r st ⟨rfl, rfl⟩
  have hy := rndX_bd x p up _ _ hx
  have y1 := hy.1
  have y2 := hy.2.1
  have y3 := hy.2.2
  simp -dsimp only [go_sem]
  refine (numMake_c (rndX x p up).neg (rndX x p up).w (rndX x p up).exp _ (by omega) (by omega) (by omega)).mono ?_
  rintro r st ⟨rfl, rfl⟩
  rw [mkX_ofX, rndX_ofX x p up hp0]
  simp -dsimp only [go_sem]
theorem precF_nat {p : Int} (h : precF p = true) : ∃ q : Nat, p = q ∧ 8 ≤ q ∧ q ≤ 256 ∧ p.toNat = q := by
  unfold precF at h
  simp only [Bool.and_eq_true, decide_eq_true_eq] at h
  exact ⟨p.toNat, by omega, by omega, by omega, rfl⟩
end Go.Pv
end
