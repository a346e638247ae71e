/- Parts of the walk: F16, F17, F18, F19, F20. -/
import Derived.Test.YtelmlebahoeikaaGreatDoorZG
import Derived.Test.YtelmlebahoeikaaGreatDoorZE
set_option linter.unusedVariables false
set_option linter.unusedSimpArgs false
section
/- The document's values: Of, Turned, Plus, Less, Sign, Order, CmpNum. -/
set_option linter.unusedVariables false
set_option linter.unusedSimpArgs false
set_option maxRecDepth 100000
namespace Go.Pv
open Go.Proofs
theorem of_c (x : Nm) (st : Store) (hl : x.w.length ≤ 1000000000000) : PCalls Tryz.prog 39 [.agg (encN x)] st (fun r st' => r = .agg (encV (ofN x)) ∧ st' = st) := by
  refine pcalls_enter none Tryz.func39 rfl fun E => pwp_of_vc ?_
  simp -dsimp only [go_sem]
  refine pwp_draw mixed 11 (.step 0 [] (.step 1 [] (.step 2 [] (.step 3 [] (.step 5 [] (.step 6 [] (.step 4 [1, 6] (.step 7 [] (.step 8 [] (.done)))))))))) (by decide +kernel) (by simp) ?_
  simp -dsimp only [go_sem]
  refine (part_c x.w st hl).mono ?_
  rintro r st ⟨rfl, rfl⟩
  simp -dsimp only [go_sem]
  rfl
theorem lenV (m : Nat) : ((((digitsOf m).length : Nat) : Int) == 0) = decide (m = 0) := by
  by_cases h : m = 0
  · subst h; rw [digitsOf_zero]; rfl
  · rw [decide_eq_false h]
    have : (digitsOf m).length ≠ 0 := fun e => h (digitsOf_nil.1 (List.length_eq_zero_iff.1 e))
    exact beq_eq_false_iff_ne.2 (by omega)
theorem turned_c (v : Vl) (st : Store) : PCalls Tryz.prog 111 [.agg (encV v)] st (fun r st' => r = .agg (encV (turnV v)) ∧ st' = st) := by
  refine pcalls_enter none Tryz.func111 rfl fun E => pwp_of_vc ?_
  simp -dsimp only [go_sem]
  refine ck (fun h => ?_) (fun h => ?_)
  · have h0 : v.m ≠ 0 := fun e => by rw [e, digitsOf_zero] at h; cases h
    simp -dsimp only [go_sem]
    rw [turnV, if_neg h0]
  · have h0 : v.m = 0 := by
      have := of_decide_eq_false h
      exact digitsOf_nil.1 (List.length_eq_zero_iff.1 (by omega))
    simp -dsimp only [go_sem]
    rw [turnV, if_pos h0]
theorem signV_c (v : Vl) (st : Store) : PCalls Tryz.prog 41 [.agg (encV v)] st (fun r st' => r = .sc (.int .i64 (signV v)) ∧ st' = st) := by
  refine pcalls_enter none Tryz.func41 rfl fun E => pwp_of_vc ?_
  simp -dsimp only [go_sem, lenV]
  refine ck (fun h => ?_) (fun h => ?_)
  · have h0 : v.m = 0 := of_decide_eq_true h
    simp -dsimp only [go_sem]
    rw [signV, if_pos h0]
  · have h0 : v.m ≠ 0 := of_decide_eq_false h
    simp -dsimp only [go_sem]
    refine ck (fun h => ?_) (fun h => ?_)
    · simp -dsimp only [go_sem]
      rw [signV, if_neg h0, if_pos h]
    · simp -dsimp only [go_sem]
      rw [signV, if_neg h0, if_neg (by simp [h])]
def smV (v : Vl) : Prop := bitlen v.m ≤ 1000000000000 ∧ -100000000000 ≤ v.e ∧ v.e ≤ 100000000000
theorem pos_mant (v : Vl) (k : Nat) : mantV v * 2 ^ k = if v.neg then -((v.m * 2 ^ k : Nat) : Int) else ((v.m * 2 ^ k : Nat) : Int) := by
  unfold mantV
  cases v.neg
  · simp
  · simp [Int.neg_mul]
theorem plus_c (a b : Vl) (st : Store) (ha : smV a) (hb : smV b) : PCalls Tryz.prog 52 [.agg (encV a), .agg (encV b)] st (fun r st' => r = .agg (encV (plusV a b)) ∧ st' = st) := by
  obtain ⟨a1, a2, a3⟩ := ha
  obtain ⟨b1, b2, b3⟩ := hb
  refine pcalls_enter none Tryz.func52 rfl fun E => pwp_of_vc ?_
  simp -dsimp only [go_sem, lenV]
  refine ck (fun h => ?_) (fun h => ?_)
  · have h0 : a.m = 0 := of_decide_eq_true h
    simp -dsimp only [go_sem]
    rw [plusV, if_pos h0]
  · have ha0 : a.m ≠ 0 := of_decide_eq_false h
    simp -dsimp only [go_sem, lenV]
    refine ck (fun h => ?_) (fun h => ?_)
    · have h0 : b.m = 0 := of_decide_eq_true h
      simp -dsimp only [go_sem]
      rw [plusV, if_neg ha0, if_pos h0]
    · have hb0 : b.m ≠ 0 := of_decide_eq_false h
      simp -dsimp only [go_sem]
      have hmin : (if b.e < a.e then b.e else a.e) = min a.e b.e := by split <;> omega
      have w1 : IntKind.i64.wrap (a.e - min a.e b.e) = (((a.e - min a.e b.e).toNat : Nat) : Int) := by rw [wrap_i64 _ (by omega) (by omega)]; omega
      have w2 : IntKind.i64.wrap (b.e - min a.e b.e) = (((b.e - min a.e b.e).toNat : Nat) : Int) := by rw [wrap_i64 _ (by omega) (by omega)]; omega
      have la := digitsOf_len a.m
      have lb := digitsOf_len b.m
      have l1 := bitlen_mul_pow_le a.m (a.e - min a.e b.e).toNat
      have l2 := bitlen_mul_pow_le b.m (b.e - min a.e b.e).toNat
      have px : a.m * 2 ^ (a.e - min a.e b.e).toNat ≠ 0 := Nat.mul_ne_zero ha0 (by have : 0 < 2 ^ (a.e - min a.e b.e).toNat := Nat.pow_pos (by decide)
                                                                                   omega)
      have py : b.m * 2 ^ (b.e - min a.e b.e).toNat ≠ 0 := Nat.mul_ne_zero hb0 (by have : 0 < 2 ^ (b.e - min a.e b.e).toNat := Nat.pow_pos (by decide)
                                                                                   omega)
      have hspec : plusV a b = mkV ((if a.neg then -((a.m * 2 ^ (a.e - min a.e b.e).toNat : Nat) : Int) else ((a.m * 2 ^ (a.e - min a.e b.e).toNat : Nat) : Int)) + (if b.neg then -((b.m * 2 ^ (b.e - min a.e b.e).toNat : Nat) : Int) else ((b.m * 2 ^ (b.e - min a.e b.e).toNat : Nat) : Int))) (min a.e b.e) := by
        rw [plusV, if_neg ha0, if_neg hb0, pos_mant, pos_mant]
      have he1 : (a.e - min a.e b.e).toNat ≤ 200000000000 := by omega
      have he2 : (b.e - min a.e b.e).toNat ≤ 200000000000 := by omega
      have hm1 : -100000000000 ≤ min a.e b.e := by omega
      have hm2 : min a.e b.e ≤ 100000000000 := by omega
      rw [hmin]
      refine pwp_draw mixed 71 (.step 0 [] (.step 1 [] (.step 2 [] (.step 3 [] (.step 4 [] (.step 5 [] (.step 7 [] (.step 8 [] (.step 9 [] (.step 10 [] (.step 11 [] (.step 12 [] (.step 6 [8, 10] (.step 13 [] (.step 14 [] (.step 15 [] (.done))))))))))))))))) (by decide +kernel) (by simp) ?_
      simp -dsimp only [go_sem, w1, w2]
      refine (refLeft_c a.m _ st (by omega) (by omega)).mono ?_
      rintro r st ⟨rfl, rfl⟩
      simp -dsimp only [go_sem, w1, w2]
      refine (refLeft_c b.m _ st (by omega) (by omega)).mono ?_
      rintro r st ⟨rfl, rfl⟩
      simp -dsimp only [go_sem, w1, w2]
      rw [hspec]
      generalize a.m * 2 ^ (a.e - min a.e b.e).toNat = x at *
      generalize b.m * 2 ^ (b.e - min a.e b.e).toNat = y at *
      generalize min a.e b.e = e at *
      have lx := digitsOf_len x
      have ly := digitsOf_len y
      have ls := bitlen_add_le x y
      refine ck (fun h => ?_) (fun h => ?_)
      · have hn : a.neg = b.neg := by simpa using h
        simp -dsimp only [go_sem]
        refine pwp_draw mixed 71 (.step 0 [] (.step 1 [] (.step 2 [] (.step 3 [] (.step 5 [] (.step 4 [1] (.step 6 [] (.step 7 [] (.done))))))))) (by decide +kernel) (by simp) ?_
        simp -dsimp only [go_sem]
        refine (refAdd_c x y st (by omega) (by omega)).mono ?_
        rintro r st ⟨rfl, rfl⟩
        simp -dsimp only [go_sem]
        refine (odd_c a.neg (x + y) e st (by omega) (by omega) (by omega)).mono ?_
        rintro r st ⟨rfl, rfl⟩
        simp -dsimp only [go_sem]
        have : mkV ((if a.neg then -(x : Int) else x) + (if b.neg then -(y : Int) else y)) e = oddV a.neg (x + y) e := by
          rw [← hn]
          unfold mkV
          cases a.neg
          · simp only [Bool.false_eq_true, if_false]
            rw [decide_eq_false (by omega), show ((x : Int) + y).natAbs = x + y from by omega]
          · simp only [if_true]
            rw [decide_eq_true (by omega), show (-(x : Int) + -(y : Int)).natAbs = x + y from by omega]
        rw [this]
      · have hn : a.neg = !b.neg := by cases hx : a.neg <;> cases hy : b.neg <;> simp [hx, hy] at h ⊢
        simp -dsimp only [go_sem]
        refine (refCmp_c x y st (by omega) (by omega)).mono ?_
        rintro r st ⟨rfl, rfl⟩
        simp -dsimp only [go_sem]
        by_cases hxy : y < x
        · have c1 : cmpW x y = 1 := cmpI_gt (by omega)
          have l3 := bitlen_mono (Nat.sub_le x y)
          simp -dsimp only [go_sem, c1]
          refine pwp_draw mixed 71 (.step 0 [] (.step 1 [] (.step 2 [] (.step 3 [] (.step 5 [] (.step 4 [1] (.step 6 [] (.step 7 [] (.done))))))))) (by decide +kernel) (by simp) ?_
          simp -dsimp only [go_sem]
          refine (refSub_c x y st (by omega) (by omega)).mono ?_
          rintro r st ⟨rfl, rfl⟩
          simp -dsimp only [go_sem]
          refine (odd_c a.neg (x - y) e st (by omega) (by omega) (by omega)).mono ?_
          rintro r st ⟨rfl, rfl⟩
          simp -dsimp only [go_sem]
          have : mkV ((if a.neg then -(x : Int) else x) + (if b.neg then -(y : Int) else y)) e = oddV a.neg (x - y) e := by
            rw [hn]
            unfold mkV
            cases b.neg
            · simp only [Bool.not_false, if_true, Bool.false_eq_true, if_false]
              rw [decide_eq_true (by omega), show (-(x : Int) + y).natAbs = x - y from by omega]
            · simp only [Bool.not_true, if_true, Bool.false_eq_true, if_false]
              rw [decide_eq_false (by omega), show ((x : Int) + -(y : Int)).natAbs = x - y from by omega]
          rw [this]
        · by_cases hyx : x < y
          · have c1 : cmpW x y = -1 := cmpI_lt (by omega)
            have l3 := bitlen_mono (Nat.sub_le y x)
            simp -dsimp only [go_sem, c1]
            refine pwp_draw mixed 71 (.step 0 [] (.step 1 [] (.step 2 [] (.step 3 [] (.step 5 [] (.step 4 [1] (.step 6 [] (.step 7 [] (.done))))))))) (by decide +kernel) (by simp) ?_
            simp -dsimp only [go_sem]
            refine (refSub_c y x st (by omega) (by omega)).mono ?_
            rintro r st ⟨rfl, rfl⟩
            simp -dsimp only [go_sem]
            refine (odd_c b.neg (y - x) e st (by omega) (by omega) (by omega)).mono ?_
            rintro r st ⟨rfl, rfl⟩
            simp -dsimp only [go_sem]
            have : mkV ((if a.neg then -(x : Int) else x) + (if b.neg then -(y : Int) else y)) e = oddV b.neg (y - x) e := by
              rw [hn]
              unfold mkV
              cases b.neg
              · simp only [Bool.not_false, if_true, Bool.false_eq_true, if_false]
                rw [decide_eq_false (by omega), show (-(x : Int) + y).natAbs = y - x from by omega]
              · simp only [Bool.not_true, if_true, Bool.false_eq_true, if_false]
                rw [decide_eq_true (by omega), show ((x : Int) + -(y : Int)).natAbs = y - x from by omega]
            rw [this]
          · have hxy : x = y := by omega
            subst hxy
            have c1 : cmpW x x = 0 := cmpI_eq rfl
            simp -dsimp only [go_sem, c1]
            have : mkV ((if a.neg then -(x : Int) else x) + (if b.neg then -(x : Int) else x)) e = ⟨false, 0, 0⟩ := by
              rw [hn]
              unfold mkV oddV
              cases b.neg <;> simp <;> omega
            rw [this, digitsOf_zero]; rfl
theorem less_c (a b : Vl) (st : Store) (ha : smV a) (hb : smV b) : PCalls Tryz.prog 54 [.agg (encV a), .agg (encV b)] st (fun r st' => r = .agg (encV (lessV a b)) ∧ st' = st) := by
  refine pcalls_enter none Tryz.func54 rfl fun E => pwp_of_vc ?_
  simp -dsimp only [go_sem]
  refine pwp_draw mixed 9 (.step 0 [] (.step 1 [] (.step 2 [0] (.step 3 [] (.step 4 [] (.done)))))) (by decide +kernel) (by simp) ?_
  simp -dsimp only [go_sem]
  refine (turned_c b st).mono ?_
  rintro r st ⟨rfl, rfl⟩
  simp -dsimp only [go_sem]
  refine (plus_c a (turnV b) st ha (by unfold smV; rw [turnV_m, turnV_e]; exact hb)).mono ?_
  rintro r st ⟨rfl, rfl⟩
  simp -dsimp only [go_sem]
  rfl
theorem order_c (a b : Vl) (st : Store) (ha : smV a) (hb : smV b) : PCalls Tryz.prog 53 [.agg (encV a), .agg (encV b)] st (fun r st' => r = .sc (.int .i64 (orderV a b)) ∧ st' = st) := by
  refine pcalls_enter none Tryz.func53 rfl fun E => pwp_of_vc ?_
  simp -dsimp only [go_sem]
  refine (less_c a b st ha hb).mono ?_
  rintro r st ⟨rfl, rfl⟩
  simp -dsimp only [go_sem]
  refine (signV_c _ st).mono ?_
  rintro r st ⟨rfl, rfl⟩
  simp -dsimp only [go_sem]
  rfl
theorem smV_ofN {x : Nm} (h : sm x) : smV (ofN x) := by
  obtain ⟨h1, h2, h3⟩ := h
  have := bitsW_le x.w
  unfold bitsW at this
  refine ⟨?_, ?_, ?_⟩
  · show bitlen (valW x.w) ≤ _; omega
  · show _ ≤ x.exp; omega
  · show x.exp ≤ _; omega
theorem cmpNum_c (a b : Nm) (st : Store) (ha : a.w.length ≤ 1000000000000) (hb : b.w.length ≤ 1000000000000) : PCalls Tryz.prog 186 [.agg (encN a), .agg (encN b)] st (fun r st' => r = .sc (.int .i64 (cmpR a b)) ∧ st' = st) := by
  refine pcalls_enter none Tryz.func186 rfl fun E => pwp_of_vc ?_
  simp -dsimp only [go_sem]
  refine (refRight_c a st (by omega)).mono ?_
  rintro r st ⟨rfl, rfl⟩
  simp -dsimp only [go_sem]
  refine gkF (fun h => ?_) (fun h => ?_)
  · have h1 : rightN a = true := by simpa using h
    simp -dsimp only [go_sem, h1]
    refine (refRight_c b st (by omega)).mono ?_
    rintro r st ⟨rfl, rfl⟩
    simp -dsimp only [go_sem]
    refine ck (fun h => ?_) (fun h => ?_)
    · have h2 : rightN b = false := by simpa using h
      simp -dsimp only [go_sem]
      rw [cmpR, if_neg (by simp [h2])]
    · have h2 : rightN b = true := by simpa using h
      simp -dsimp only [go_sem]
      refine pwp_draw mixed 18 (.step 0 [] (.step 2 [] (.step 1 [2] (.step 3 [] (.step 4 [] (.step 5 [] (.done))))))) (by decide +kernel) (by simp) ?_
      simp -dsimp only [go_sem]
      refine (of_c a st (by omega)).mono ?_
      rintro r st ⟨rfl, rfl⟩
      simp -dsimp only [go_sem]
      refine (of_c b st (by omega)).mono ?_
      rintro r st ⟨rfl, rfl⟩
      simp -dsimp only [go_sem]
      refine (order_c _ _ st (smV_ofN (rightN_sm h1)) (smV_ofN (rightN_sm h2))).mono ?_
      rintro r st ⟨rfl, rfl⟩
      simp -dsimp only [go_sem]
      rw [cmpR, if_pos ⟨h1, h2⟩, orderV_ofN]
  · have h1 : rightN a = false := by simpa using h
    simp -dsimp only [go_sem, h1]
    rw [cmpR, if_neg (by simp [h1])]
end Go.Pv
end

section
/- Intervals: iv.Right, Of, Hull, In; num.Same, iv.Same. -/
set_option linter.unusedVariables false
set_option linter.unusedSimpArgs false
set_option maxRecDepth 100000
namespace Go.Pv
open Go.Proofs
theorem ivRight_c (x : Ivl) (st : Store) (hw : wI x) : PCalls Tryz.prog 44 [.agg (encI x)] st (fun r st' => r = .sc (.bool (rightI x)) ∧ st' = st) := by
  obtain ⟨h1, h2⟩ := hw
  unfold wN at h1 h2
  refine pcalls_enter none Tryz.func44 rfl fun E => pwp_of_vc ?_
  simp -dsimp only [go_sem]
  refine (numRight_c x.lo st (by omega)).mono ?_
  rintro r st ⟨rfl, rfl⟩
  simp -dsimp only [go_sem]
  refine gkT (fun h => ?_) (fun h => ?_)
  · simp -dsimp only [go_sem, h]
    refine (numRight_c x.hi st (by omega)).mono ?_
    rintro r st ⟨rfl, rfl⟩
    simp -dsimp only [go_sem, h]
    refine gkT (fun h' => ?_) (fun h' => ?_)
    · simp -dsimp only [go_sem, h, h']
      refine (exCmp_c x.lo x.hi st (rightN_sm h) (rightN_sm h')).mono ?_
      rintro r st ⟨rfl, rfl⟩
      simp -dsimp only [go_sem, h, h']
      simp [rightI, h, h']
    · simp -dsimp only [go_sem, h, h']
      simp [rightI, h, h']
  · simp -dsimp only [go_sem, h]
    simp [rightI, h]
theorem copied_c (x : Nm) (st : Store) (hw : wN x) : PCalls Tryz.prog 229 [.agg (encN x)] st (fun r st' => r = .agg (encN x) ∧ st' = st) := by
  unfold wN at hw
  refine pcalls_enter none Tryz.func229 rfl fun E => pwp_of_vc ?_
  simp -dsimp only [go_sem]
  omega
theorem of2_c (x y : Nm) (st : Store) (hx : wN x) (hy : wN y) : PCalls Tryz.prog 179 [.agg (encN x), .agg (encN y)] st (fun r st' => r = .agg (encI ⟨x, y⟩) ∧ st' = st) := by
  refine pcalls_enter none Tryz.func179 rfl fun E => pwp_of_vc ?_
  simp -dsimp only [go_sem]
  refine pwp_draw mixed 10 (.step 0 [] (.step 2 [] (.step 1 [2] (.step 3 [] (.step 4 [] (.step 5 [] (.done))))))) (by decide +kernel) (by simp) ?_
  simp -dsimp only [go_sem]
  refine (copied_c x st hx).mono ?_
  rintro r st ⟨rfl, rfl⟩
  simp -dsimp only [go_sem]
  refine (copied_c y st hy).mono ?_
  rintro r st ⟨rfl, rfl⟩
  simp -dsimp only [go_sem]
theorem ivOf_c (x : Nm) (st : Store) (hx : wN x) : PCalls Tryz.prog 113 [.agg (encN x)] st (fun r st' => r = .agg (encI ⟨x, x⟩) ∧ st' = st) := by
  refine pcalls_enter none Tryz.func113 rfl fun E => pwp_of_vc ?_
  simp -dsimp only [go_sem]
  refine (of2_c x x st hx hx).mono ?_
  rintro r st ⟨rfl, rfl⟩
  simp -dsimp only [go_sem]
theorem least_c (a b : Nm) (st : Store) (ha : sm a) (hb : sm b) : PCalls Tryz.prog 248 [.agg (encN a), .agg (encN b)] st (fun r st' => r = .agg (encN (leastN a b)) ∧ st' = st) := by
  refine pcalls_enter none Tryz.func248 rfl fun E => pwp_of_vc ?_
  simp -dsimp only [go_sem]
  refine (exCmp_c b a st hb ha).mono ?_
  rintro r st ⟨rfl, rfl⟩
  simp -dsimp only [go_sem]
  refine ck (fun h => ?_) (fun h => ?_)
  · simp -dsimp only [go_sem]
    rw [leastN, if_pos (of_decide_eq_true h)]
  · simp -dsimp only [go_sem]
    rw [leastN, if_neg (of_decide_eq_false h)]
theorem greatest_c (a b : Nm) (st : Store) (ha : sm a) (hb : sm b) : PCalls Tryz.prog 249 [.agg (encN a), .agg (encN b)] st (fun r st' => r = .agg (encN (greatN a b)) ∧ st' = st) := by
  refine pcalls_enter none Tryz.func249 rfl fun E => pwp_of_vc ?_
  simp -dsimp only [go_sem]
  refine (exCmp_c b a st hb ha).mono ?_
  rintro r st ⟨rfl, rfl⟩
  simp -dsimp only [go_sem]
  refine ck (fun h => ?_) (fun h => ?_)
  · simp -dsimp only [go_sem]
    rw [greatN, if_pos (of_decide_eq_true h)]
  · simp -dsimp only [go_sem]
    rw [greatN, if_neg (of_decide_eq_false h)]
theorem numSame_c (x y : Nm) (st : Store) (hl : wN x) (hl2 : wN y) : PCalls Tryz.prog 57 [.agg (encN x), .agg (encN y)] st (fun r st' => r = .sc (.bool (decide (x = y))) ∧ st' = st) := by
  unfold wN at hl hl2
  refine pcalls_enter none Tryz.func57 rfl fun E => pwp_of_vc ?_
  simp -dsimp only [go_sem]
  repeat' (first
      | (refine gkF (fun h => ?_) (fun h => ?_) <;> simp -dsimp only [go_sem, h])
      | (refine gkT (fun h => ?_) (fun h => ?_) <;> simp -dsimp only [go_sem, h])
      | (refine ck (fun h => ?_) (fun h => ?_) <;> simp -dsimp only [go_sem, h])
      | refine And.intro (by omega) ?_)
  case refine_1.refine_1.refine_2 =>
    have hneg := ‹(!x.neg == y.neg) = false›
    have hexp := ‹(x.exp != y.exp) = false›
    have hn := ‹((x.w.length : Int) != (y.w.length : Int)) = false›
    have hneg' : x.neg = y.neg := by cases hx : x.neg <;> cases hy : y.neg <;> simp [hx, hy] at hneg ⊢
    have hexp' : x.exp = y.exp := by simpa using hexp
    have hn' : x.w.length = y.w.length := nbne_f hn
    refine pwp_loop_mask [false, false, true, true, false, false, false, false, false, false, false, false, false, false, false, false, false, false, false, false, false, false, false, false, false, false, false, false, false, true, true] 2 0 (fun n s => ∃ i, n = x.w.length - i ∧ i ≤ x.w.length ∧ (∀ j, j < i → x.w.getD j 0 = y.w.getD j 0) ∧ s = ⟨[.junk, .junk, .lp 0 0, .lp 1 0, .junk, .junk, .junk, .junk, .junk, .junk, .junk, .junk, .junk, .junk, .junk, .junk, .junk, .junk, .junk, .junk, .junk, .junk, .junk, .junk, .junk, .junk, .junk, .junk, .junk, .sc (.int .i64 x.w.length), .sc (.int .i64 i)] ++ List.replicate 14 .junk, [encN x, encN y], [], st⟩) x.w.length ?_ ?_
    · simp -dsimp only [go_sem]
      exact ⟨0, by omega, by omega, fun j hj => by omega, rfl⟩
    · rintro n s ⟨i, rfl, hi, hj, rfl⟩
      simp -dsimp only [go_sem]
      refine ck (fun h => ?_) (fun h => ?_)
      · have hlt : i < x.w.length := by have := of_decide_eq_true h; omega
        have e1 := encW_get x.w i hlt
        have e2 := encW_get y.w i (by omega)
        have e3 : IntKind.i64.wrap ((i : Int) + 1) = ((i + 1 : Nat) : Int) := by rw [wrap_i64 _ (by omega) (by omega)]; omega
        simp -dsimp only [go_sem, h]
        refine pwp_draw mixed 45 (.step 0 [] (.step 1 [] (.step 2 [] (.step 3 [] (.step 4 [] (.step 5 [] (.step 6 [] (.step 7 [] (.step 8 [] (.step 9 [] (.step 10 [] (.done)))))))))))) (by decide +kernel) (by simp) ?_
        simp -dsimp only [go_sem, h, e1, e2]
        refine ⟨by omega, by omega, ck (fun h2 => ?_) (fun h2 => ?_)⟩
        · simp -dsimp only [go_sem, h2]
          rw [decide_eq_false (fun e => by subst e; simp at h2)]
        · simp -dsimp only [go_sem, h2, e3]
          refine ⟨x.w.length - (i + 1), by omega, i + 1, rfl, by omega, fun j hj' => ?_, rfl⟩
          by_cases hji : j = i
          · subst hji; exact UInt64.toNat.inj (nbne_f h2)
          · exact hj j (by omega)
      · have hge : i = x.w.length := by have := of_decide_eq_false h; omega
        simp -dsimp only [go_sem, h]
        refine pwp_of_vc ?_
        simp -dsimp only [go_sem, h]
        rw [decide_eq_true]
        have hw : x.w = y.w := eq_of_getD 0 hn' fun j h1 => hj j (by omega)
        cases x; cases y; simp_all
  all_goals rw [decide_eq_false (fun e => by subst e; simp at *)]
end Go.Pv
end

section
/- Boxes: box.Right, all, In, Same, each, pairs, Hull. -/
set_option linter.unusedVariables false
set_option linter.unusedSimpArgs false
set_option maxRecDepth 100000
namespace Go.Pv
open Go.Proofs
theorem all_of_getD {α : Type} (d : α) (f : α → Bool) (l : List α) : l.all f = true ↔ ∀ i, i < l.length → f (l.getD i d) = true := by
  rw [List.all_eq_true]
  constructor
  · intro h i hi
    exact h _ (mem_getD l i d hi)
  · intro h x hx
    obtain ⟨i, hi, rfl⟩ := List.mem_iff_getElem.1 hx
    have := h i hi
    rwa [List.getD_eq_getElem?_getD, List.getElem?_eq_getElem hi] at this
theorem all_take {α : Type} (f : α → Bool) (l : List α) (i : Nat) (d : α) (h : i < l.length) : (l.take (i + 1)).all f = ((l.take i).all f && f (l.getD i d)) := by
  rw [take_snoc l i d h, List.all_append]; simp
theorem boxRight_c (l : List Ivl) (st : Store) (hw : wB l) : PCalls Tryz.prog 87 [.sl .no (encIs l)] st (fun r st' => r = .sc (.bool (rightB l)) ∧ st' = st) := by
  obtain ⟨hl, hw⟩ := hw
  refine pcalls_enter none Tryz.func87 rfl fun E => pwp_of_vc ?_
  simp -dsimp only [go_sem]
  refine pwp_loop_mask [true, false, false, false, false, true, true, true] 0 0 (fun n s => ∃ i, n = l.length - i ∧ i ≤ l.length ∧ (l.take i).all rightI = true ∧ s = ⟨[.sl .no (encIs l), .junk, .junk, .junk, .junk, .sl .no (encIs l), .sc (.int .i64 l.length), .sc (.int .i64 i)] ++ List.replicate 15 .junk, [], [], st⟩) l.length ?_ ?_
  · simp -dsimp only [go_sem]
    exact ⟨0, by omega, by omega, rfl, rfl⟩
  · rintro n s ⟨i, rfl, hi, hr, rfl⟩
    simp -dsimp only [go_sem]
    refine ck (fun h => ?_) (fun h => ?_)
    · have hlt : i < l.length := by have := of_decide_eq_true h; omega
      have e1 := encIs_get l i hlt
      have e3 : IntKind.i64.wrap ((i : Int) + 1) = ((i + 1 : Nat) : Int) := by rw [wrap_i64 _ (by omega) (by omega)]; omega
      have e4 := all_take rightI l i default hlt
      simp -dsimp only [go_sem, e1]
      refine ⟨by omega, ?_⟩
      refine (ivRight_c _ st (hw i hlt)).mono ?_
      rintro r st ⟨rfl, rfl⟩
      simp -dsimp only [go_sem, e1]
      refine ck (fun h => ?_) (fun h => ?_)
      · have hf : rightI (l.getD i default) = false := by simpa using h
        simp -dsimp only [go_sem]
        have : rightB l = false := by
          cases hb : rightB l with
          | false => rfl
          | true =>
            unfold rightB at hb
            simp only [Bool.and_eq_true] at hb
            have := (all_of_getD default rightI l).1 hb.1.1 i hlt
            rw [this] at hf; cases hf
        rw [this]
      · have ht : rightI (l.getD i default) = true := by simpa using h
        simp -dsimp only [go_sem, e3]
        exact ⟨l.length - (i + 1), by omega, i + 1, rfl, by omega, by rw [e4, hr, ht]; rfl, rfl⟩
    · have hge : i = l.length := by have := of_decide_eq_false h; omega
      simp -dsimp only [go_sem]
      refine pwp_of_vc ?_
      simp -dsimp only [go_sem]
      have hall : l.all rightI = true := by rw [← List.take_length (l := l), ← hge]; exact hr
      refine gkT (fun h => ?_) (fun h => ?_)
      · have h1 : 1 ≤ l.length := by have := of_decide_eq_true h; omega
        simp -dsimp only [go_sem, h]
        have : rightB l = decide ((l.length : Int) ≤ 4) := by
          unfold rightB
          rw [hall, decide_eq_true h1]
          simp only [Bool.true_and]
          exact decide_eq_decide.2 (by omega)
        rw [this]
      · have h1 : ¬ 1 ≤ l.length := by have := of_decide_eq_false h; omega
        simp -dsimp only [go_sem, h]
        have : rightB l = false := by unfold rightB; rw [decide_eq_false h1]; simp
        rw [this]
end Go.Pv
end

section
/- Boxes: pairs, Hull. -/
set_option linter.unusedVariables false
set_option linter.unusedSimpArgs false
set_option maxRecDepth 100000
namespace Go.Pv
open Go.Proofs
def pairsF (G : Ivl → Ivl → Ivl × Int) (a b : List Ivl) : List Ivl × Int := if rightB a = true ∧ rightB b = true ∧ a.length = b.length then eachF (fun i x => G x (b.getD i default)) 0 a [] else ([], 1)
end Go.Pv
end

section
/- The document's intervals: RightIv, Hull, Meet, SameIv. -/
set_option linter.unusedVariables false
set_option linter.unusedSimpArgs false
set_option maxRecDepth 100000
namespace Go.Pv
open Go.Proofs
theorem cmpR_right {a b : Nm} (ha : rightN a = true) (hb : rightN b = true) : cmpR a b = cmpN a b := if_pos ⟨ha, hb⟩
theorem refRightIv_c (x : Ivl) (st : Store) (hw : wI x) : PCalls Tryz.prog 208 [.agg (encI x)] st (fun r st' => r = .sc (.bool (rightI x)) ∧ st' = st) := by
  obtain ⟨h1, h2⟩ := hw
  unfold wN at h1 h2
  refine pcalls_enter none Tryz.func208 rfl fun E => pwp_of_vc ?_
  simp -dsimp only [go_sem]
  refine (refRight_c x.lo st (by omega)).mono ?_
  rintro r st ⟨rfl, rfl⟩
  simp -dsimp only [go_sem]
  refine gkT (fun h => ?_) (fun h => ?_)
  · simp -dsimp only [go_sem, h]
    refine (refRight_c x.hi st (by omega)).mono ?_
    rintro r st ⟨rfl, rfl⟩
    simp -dsimp only [go_sem, h]
    refine gkT (fun h' => ?_) (fun h' => ?_)
    · simp -dsimp only [go_sem, h, h']
      refine (cmpNum_c x.lo x.hi st (by omega) (by omega)).mono ?_
      rintro r st ⟨rfl, rfl⟩
      simp -dsimp only [go_sem, h, h', cmpR_right h h']
      simp [rightI, h, h']
    · simp -dsimp only [go_sem, h, h']
      simp [rightI, h, h']
  · simp -dsimp only [go_sem, h]
    simp [rightI, h]
def meetI (a b : Ivl) : Ivl × Int := if rightI a = true ∧ rightI b = true then (if cmpN (greatN a.lo b.lo) (leastN a.hi b.hi) > 0 then (default, 4) else (⟨greatN a.lo b.lo, leastN a.hi b.hi⟩, 0)) else (default, 1)
theorem sameIv_c (a b : Ivl) (st : Store) (ha : wI a) (hb : wI b) : PCalls Tryz.prog 132 [.agg (encI a), .agg (encI b)] st (fun r st' => r = .sc (.bool (decide (a = b))) ∧ st' = st) := by
  have h1 := ha.1; have h2 := ha.2; have h3 := hb.1; have h4 := hb.2
  unfold wN at h1 h2 h3 h4
  refine pcalls_enter none Tryz.func132 rfl fun E => pwp_of_vc ?_
  simp -dsimp only [go_sem]
  refine (refSame_c a.lo b.lo st (by omega) (by omega)).mono ?_
  rintro r st ⟨rfl, rfl⟩
  simp -dsimp only [go_sem]
  refine gkT (fun h => ?_) (fun h => ?_)
  · have h' := of_decide_eq_true h
    simp -dsimp only [go_sem, h]
    refine (refSame_c a.hi b.hi st (by omega) (by omega)).mono ?_
    rintro r st ⟨rfl, rfl⟩
    simp -dsimp only [go_sem, h]
    have : decide (a.hi = b.hi) = decide (a = b) := decide_eq_decide.2 ⟨fun e => by cases a; cases b; simp_all, fun e => by rw [e]⟩
    rw [this]
  · have h' := of_decide_eq_false h
    simp -dsimp only [go_sem, h]
    rw [decide_eq_false (fun e => h' (by rw [e]))]
end Go.Pv
end
