/- Parts of the walk: F16, F17, F18, F19, F20. -/
import Derived.Test.YthllcnigcnoghaaGreatDoorZG
import Derived.Test.YthllcnigcnoghaaGreatDoorZE
set_option linter.unusedVariables false
set_option linter.unusedSimpArgs false
section
/- The document's values: Of, Turned, Plus, Less, Sign, Order, CmpNum. -/
set_option maxRecDepth 100000
namespace Go.Pv
open Go.Proofs
theorem of_c (x : Nm) (st : Store) (hl : x.w.length ≤ 1000000000000) : PCalls Tryz.prog 30 [.agg (encN x)] st (fun r st' => r = .agg (encV (ofN x)) ∧ st' = st) := by
 refine pcalls_enter none Tryz.func30 rfl fun E => pwp_of_vc ?_
 simp -dsimp only [go_sem]
 refine pwp_draw mixed 11 (.step 0 [] (.step 1 [] (.step 2 [] (.step 3 [] (.step 5 [] (.step 6 [] (.step 4 [1, 6] (.step 7 [] (.step 8 [] (.done)))))))))) (by decide +kernel) (by simp) ?_
 simp -dsimp only [go_sem]
 refine (part_c x.w st hl).mono ?_
 rintro r st ⟨rfl, rfl⟩
 simp -dsimp only [go_sem]
 rfl
theorem lenV (m : Nat) : ((((digitsOf m).length : Nat) : Int) == 0) = decide (m = 0) := by
 by_cases h : m = 0
 · subst h; rw [digitsOf_zero]; rfl
 · rw [decide_eq_false h]
   have : (digitsOf m).length ≠ 0 := fun e => h (digitsOf_nil.1 (List.length_eq_zero_iff.1 e))
   exact beq_eq_false_iff_ne.2 (by omega)
theorem turned_c (v : Vl) (st : Store) : PCalls Tryz.prog 163 [.agg (encV v)] st (fun r st' => r = .agg (encV (turnV v)) ∧ st' = st) := by
 refine pcalls_enter none Tryz.func163 rfl fun E => pwp_of_vc ?_
 simp -dsimp only [go_sem]
 refine ck (fun h => ?_) (fun h => ?_)
 · have h0 : v.m ≠ 0 := fun e => by rw [e, digitsOf_zero] at h; cases h
   simp -dsimp only [go_sem]
   rw [turnV, if_neg h0]
 · have h0 : v.m = 0 := by
    have := of_decide_eq_false h
    exact digitsOf_nil.1 (List.length_eq_zero_iff.1 (by omega))
   simp -dsimp only [go_sem]
   rw [turnV, if_pos h0]
theorem signV_c (v : Vl) (st : Store) : PCalls Tryz.prog 32 [.agg (encV v)] st (fun r st' => r = .sc (.int .i64 (signV v)) ∧ st' = st) := by
 refine pcalls_enter none Tryz.func32 rfl fun E => pwp_of_vc ?_
 simp -dsimp only [go_sem, lenV]
 refine ck (fun h => ?_) (fun h => ?_)
 · have h0 : v.m = 0 := of_decide_eq_true h
   simp -dsimp only [go_sem]
   rw [signV, if_pos h0]
 · have h0 : v.m ≠ 0 := of_decide_eq_false h
   simp -dsimp only [go_sem]
   refine ck (fun h => ?_) (fun h => ?_)
   · simp -dsimp only [go_sem]
     rw [signV, if_neg h0, if_pos h]
   · simp -dsimp only [go_sem]
     rw [signV, if_neg h0, if_neg (by simp [h])]
def smV (v : Vl) : Prop := bitlen v.m ≤ 1000000000000 ∧ -100000000000 ≤ v.e ∧ v.e ≤ 100000000000
theorem pos_mant (v : Vl) (k : Nat) : mantV v * 2 ^ k = if v.neg then -((v.m * 2 ^ k : Nat) : Int) else ((v.m * 2 ^ k : Nat) : Int) := by
 unfold mantV
 cases v.neg
 · simp
 · simp [Int.neg_mul]
theorem plus_c (a b : Vl) (st : Store) (ha : smV a) (hb : smV b) : PCalls Tryz.prog 67 [.agg (encV a), .agg (encV b)] st (fun r st' => r = .agg (encV (plusV a b)) ∧ st' = st) := by
 obtain ⟨a1, a2, a3⟩ := ha
 obtain ⟨b1, b2, b3⟩ := hb
 refine pcalls_enter none Tryz.func67 rfl fun E => pwp_of_vc ?_
 simp -dsimp only [go_sem, lenV]
 refine ck (fun h => ?_) (fun h => ?_)
 · have h0 : a.m = 0 := of_decide_eq_true h
   simp -dsimp only [go_sem]
   rw [plusV, if_pos h0]
 · have ha0 : a.m ≠ 0 := of_decide_eq_false h
   simp -dsimp only [go_sem, lenV]
   refine ck (fun h => ?_) (fun h => ?_)
   · have h0 : b.m = 0 := of_decide_eq_true h
     simp -dsimp only [go_sem]
     rw [plusV, if_neg ha0, if_pos h0]
   · have hb0 : b.m ≠ 0 := of_decide_eq_false h
     simp -dsimp only [go_sem]
     have hmin : (if b.e < a.e then b.e else a.e) = min a.e b.e := by split <;> omega
     have w1 : IntKind.i64.wrap (a.e - min a.e b.e) = (((a.e - min a.e b.e).toNat : Nat) : Int) := by rw [wrap_i64 _ (by omega) (by omega)]; omega
     have w2 : IntKind.i64.wrap (b.e - min a.e b.e) = (((b.e - min a.e b.e).toNat : Nat) : Int) := by rw [wrap_i64 _ (by omega) (by omega)]; omega
     have la := digitsOf_len a.m
     have lb := digitsOf_len b.m
     have l1 := bitlen_mul_pow_le a.m (a.e - min a.e b.e).toNat
     have l2 := bitlen_mul_pow_le b.m (b.e - min a.e b.e).toNat
     have px : a.m * 2 ^ (a.e - min a.e b.e).toNat ≠ 0 := Nat.mul_ne_zero ha0 (by have : 0 < 2 ^ (a.e - min a.e b.e).toNat := Nat.pow_pos (by decide)
                                                                                  omega)
     have py : b.m * 2 ^ (b.e - min a.e b.e).toNat ≠ 0 := Nat.mul_ne_zero hb0 (by have : 0 < 2 ^ (b.e - min a.e b.e).toNat := Nat.pow_pos (by decide)
                                                                                  omega)
     have hspec : plusV a b = mkV ((if a.neg then -((a.m * 2 ^ (a.e - min a.e b.e).toNat : Nat) : Int) else ((a.m * 2 ^ (a.e - min a.e b.e).toNat : Nat) : Int)) + (if b.neg then -((b.m * 2 ^ (b.e - min a.e b.e).toNat : Nat) : Int) else ((b.m * 2 ^ (b.e - min a.e b.e).toNat : Nat) : Int))) (min a.e b.e) := by
      rw [plusV, if_neg ha0, if_neg hb0, pos_mant, pos_mant]
     have he1 : (a.e - min a.e b.e).toNat ≤ 200000000000 := by omega
     have he2 : (b.e - min a.e b.e).toNat ≤ 200000000000 := by omega
     have hm1 : -100000000000 ≤ min a.e b.e := by omega
     have hm2 : min a.e b.e ≤ 100000000000 := by omega
     rw [hmin]
     refine pwp_draw mixed 71 (.step 0 [] (.step 1 [] (.step 2 [] (.step 3 [] (.step 4 [] (.step 5 [] (.step 7 [] (.step 8 [] (.step 9 [] (.step 10 [] (.step 11 [] (.step 12 [] (.step 6 [8, 10] (.step 13 [] (.step 14 [] (.step 15 [] (.done))))))))))))))))) (by decide +kernel) (by simp) ?_
     simp -dsimp only [go_sem, w1, w2]
     refine (refLeft_c a.m _ st (by omega) (by omega)).mono ?_
     rintro r st ⟨rfl, rfl⟩
     simp -dsimp only [go_sem, w1, w2]
     refine (refLeft_c b.m _ st (by omega) (by omega)).mono ?_
     rintro r st ⟨rfl, rfl⟩
     simp -dsimp only [go_sem, w1, w2]
     rw [hspec]
     generalize a.m * 2 ^ (a.e - min a.e b.e).toNat = x at *
     generalize b.m * 2 ^ (b.e - min a.e b.e).toNat = y at *
     generalize min a.e b.e = e at *
     have lx := digitsOf_len x
     have ly := digitsOf_len y
     have ls := bitlen_add_le x y
     refine ck (fun h => ?_) (fun h => ?_)
     · have hn : a.neg = b.neg := by simpa using h
       simp -dsimp only [go_sem]
       refine pwp_draw mixed 71 (.step 0 [] (.step 1 [] (.step 2 [] (.step 3 [] (.step 5 [] (.step 4 [1] (.step 6 [] (.step 7 [] (.done))))))))) (by decide +kernel) (by simp) ?_
       simp -dsimp only [go_sem]
       refine (refAdd_c x y st (by omega) (by omega)).mono ?_
       rintro r st ⟨rfl, rfl⟩
       simp -dsimp only [go_sem]
       refine (odd_c a.neg (x + y) e st (by omega) (by omega) (by omega)).mono ?_
       rintro r st ⟨rfl, rfl⟩
       simp -dsimp only [go_sem]
       have : mkV ((if a.neg then -(x : Int) else x) + (if b.neg then -(y : Int) else y)) e = oddV a.neg (x + y) e := by
        rw [← hn]
        unfold mkV
        cases a.neg
        · simp only [Bool.false_eq_true, if_false]
          rw [decide_eq_false (by omega), show ((x : Int) + y).natAbs = x + y from by omega]
        · simp only [if_true]
          rw [decide_eq_true (by omega), show (-(x : Int) + -(y : Int)).natAbs = x + y from by omega]
       rw [this]
     · have hn : a.neg = !b.neg := by cases hx : a.neg <;> cases hy : b.neg <;> simp [hx, hy] at h ⊢
       simp -dsimp only [go_sem]
       refine (refCmp_c x y st (by omega) (by omega)).mono ?_
       rintro r st ⟨rfl, rfl⟩
       simp -dsimp only [go_sem]
       by_cases hxy : y < x
       · have c1 : cmpW x y = 1 := cmpI_gt (by omega)
         have l3 := bitlen_mono (Nat.sub_le x y)
         simp -dsimp only [go_sem, c1]
         refine pwp_draw mixed 71 (.step 0 [] (.step 1 [] (.step 2 [] (.step 3 [] (.step 5 [] (.step 4 [1] (.step 6 [] (.step 7 [] (.done))))))))) (by decide +kernel) (by simp) ?_
         simp -dsimp only [go_sem]
         refine (refSub_c x y st (by omega) (by omega)).mono ?_
         rintro r st ⟨rfl, rfl⟩
         simp -dsimp only [go_sem]
         refine (odd_c a.neg (x - y) e st (by omega) (by omega) (by omega)).mono ?_
         rintro r st ⟨rfl, rfl⟩
         simp -dsimp only [go_sem]
         have : mkV ((if a.neg then -(x : Int) else x) + (if b.neg then -(y : Int) else y)) e = oddV a.neg (x - y) e := by
          rw [hn]
          unfold mkV
          cases b.neg
          · simp only [Bool.not_false, if_true, Bool.false_eq_true, if_false]
            rw [decide_eq_true (by omega), show (-(x : Int) + y).natAbs = x - y from by omega]
          · simp only [Bool.not_true, if_true, Bool.false_eq_true, if_false]
            rw [decide_eq_false (by omega), show ((x : Int) + -(y : Int)).natAbs = x - y from by omega]
         rw [this]
       · by_cases hyx : x < y
         · have c1 : cmpW x y = -1 := cmpI_lt (by omega)
           have l3 := bitlen_mono (Nat.sub_le y x)
           simp -dsimp only [go_sem, c1]
           refine pwp_draw mixed 71 (.step 0 [] (.step 1 [] (.step 2 [] (.step 3 [] (.step 5 [] (.step 4 [1] (.step 6 [] (.step 7 [] (.done))))))))) (by decide +kernel) (by simp) ?_
           simp -dsimp only [go_sem]
           refine (refSub_c y x st (by omega) (by omega)).mono ?_
           rintro r st ⟨rfl, rfl⟩
           simp -dsimp only [go_sem]
           refine (odd_c b.neg (y - x) e st (by omega) (by omega) (by omega)).mono ?_
           rintro r st ⟨rfl, rfl⟩
           simp -dsimp only [go_sem]
           have : mkV ((if a.neg then -(x : Int) else x) + (if b.neg then -(y : Int) else y)) e = oddV b.neg (y - x) e := by
            rw [hn]
            unfold mkV
            cases b.neg
            · simp only [Bool.not_false, if_true, Bool.false_eq_true, if_false]
              rw [decide_eq_false (by omega), show (-(x : Int) + y).natAbs = y - x from by omega]
            · simp only [Bool.not_true, if_true, Bool.false_eq_true, if_false]
              rw [decide_eq_true (by omega), show ((x : Int) + -(y : Int)).natAbs = y - x from by omega]
           rw [this]
         · have hxy : x = y := by omega
           subst hxy
           have c1 : cmpW x x = 0 := cmpI_eq rfl
           simp -dsimp only [go_sem, c1]
           have : mkV ((if a.neg then -(x : Int) else x) + (if b.neg then -(x : Int) else x)) e = ⟨false, 0, 0⟩ := by
            rw [hn]
            unfold mkV oddV
            cases b.neg <;> simp <;> omega
           rw [this, digitsOf_zero]; rfl
theorem less_c (a b : Vl) (st : Store) (ha : smV a) (hb : smV b) : PCalls Tryz.prog 118 [.agg (encV a), .agg (encV b)] st (fun r st' => r = .agg (encV (lessV a b)) ∧ st' = st) := by
 refine pcalls_enter none Tryz.func118 rfl fun E => pwp_of_vc ?_
 simp -dsimp only [go_sem]
 refine pwp_draw mixed 9 (.step 0 [] (.step 1 [] (.step 2 [0] (.step 3 [] (.step 4 [] (.done)))))) (by decide +kernel) (by simp) ?_
 simp -dsimp only [go_sem]
 refine (turned_c b st).mono ?_
 rintro r st ⟨rfl, rfl⟩
 simp -dsimp only [go_sem]
 refine (plus_c a (turnV b) st ha (by unfold smV; rw [turnV_m, turnV_e]; exact hb)).mono ?_
 rintro r st ⟨rfl, rfl⟩
 simp -dsimp only [go_sem]
 rfl
theorem order_c (a b : Vl) (st : Store) (ha : smV a) (hb : smV b) : PCalls Tryz.prog 69 [.agg (encV a), .agg (encV b)] st (fun r st' => r = .sc (.int .i64 (orderV a b)) ∧ st' = st) := by
 refine pcalls_enter none Tryz.func69 rfl fun E => pwp_of_vc ?_
 simp -dsimp only [go_sem]
 refine (less_c a b st ha hb).mono ?_
 rintro r st ⟨rfl, rfl⟩
 simp -dsimp only [go_sem]
 refine (signV_c _ st).mono ?_
 rintro r st ⟨rfl, rfl⟩
 simp -dsimp only [go_sem]
 rfl
theorem smV_ofN {x : Nm} (h : sm x) : smV (ofN x) := by
 obtain ⟨h1, h2, h3⟩ := h
 have := bitsW_le x.w
 unfold bitsW at this
 refine ⟨?_, ?_, ?_⟩
 · show bitlen (valW x.w) ≤ _; omega
 · show _ ≤ x.exp; omega
 · show x.exp ≤ _; omega
theorem cmpNum_c (a b : Nm) (st : Store) (ha : a.w.length ≤ 1000000000000) (hb : b.w.length ≤ 1000000000000) : PCalls Tryz.prog 134 [.agg (encN a), .agg (encN b)] st (fun r st' => r = .sc (.int .i64 (cmpR a b)) ∧ st' = st) := by
 refine pcalls_enter none Tryz.func134 rfl fun E => pwp_of_vc ?_
 simp -dsimp only [go_sem]
 refine (refRight_c a st (by omega)).mono ?_
 rintro r st ⟨rfl, rfl⟩
 simp -dsimp only [go_sem]
 refine gkF (fun h => ?_) (fun h => ?_)
 · have h1 : rightN a = true := by simpa using h
   simp -dsimp only [go_sem, h1]
   refine (refRight_c b st (by omega)).mono ?_
   rintro r st ⟨rfl, rfl⟩
   simp -dsimp only [go_sem]
   refine ck (fun h => ?_) (fun h => ?_)
   · have h2 : rightN b = false := by simpa using h
     simp -dsimp only [go_sem]
     rw [cmpR, if_neg (by simp [h2])]
   · have h2 : rightN b = true := by simpa using h
     simp -dsimp only [go_sem]
     refine pwp_draw mixed 18 (.step 0 [] (.step 2 [] (.step 1 [2] (.step 3 [] (.step 4 [] (.step 5 [] (.done))))))) (by decide +kernel) (by simp) ?_
     simp -dsimp only [go_sem]
     refine (of_c a st (by omega)).mono ?_
     rintro r st ⟨rfl, rfl⟩
     simp -dsimp only [go_sem]
     refine (of_c b st (by omega)).mono ?_
     rintro r st ⟨rfl, rfl⟩
     simp -dsimp only [go_sem]
     refine (order_c _ _ st (smV_ofN (rightN_sm h1)) (smV_ofN (rightN_sm h2))).mono ?_
     rintro r st ⟨rfl, rfl⟩
     simp -dsimp only [go_sem]
     rw [cmpR, if_pos ⟨h1, h2⟩, orderV_ofN]
 · have h1 : rightN a = false := by simpa using h
   simp -dsimp only [go_sem, h1]
   rw [cmpR, if_neg (by simp [h1])]
end Go.Pv
end

section
/- Intervals: iv.Right, Of, Hull, In; num.Same, iv.Same. -/
set_option maxRecDepth 100000
namespace Go.Pv
open Go.Proofs
theorem ivRight_c (x : Ivl) (st : Store) (hw : wI x) : PCalls Tryz.prog 35 [.agg (encI x)] st (fun r st' => r = .sc (.bool (rightI x)) ∧ st' = st) := by
 obtain ⟨h1, h2⟩ := hw
 unfold wN at h1 h2
 refine pcalls_enter none Tryz.func35 rfl fun E => pwp_of_vc ?_
 simp -dsimp only [go_sem]
 refine (numRight_c x.lo st (by omega)).mono ?_
 rintro r st ⟨rfl, rfl⟩
 simp -dsimp only [go_sem]
 refine gkT (fun h => ?_) (fun h => ?_)
 · simp -dsimp only [go_sem, h]
   refine (numRight_c x.hi st (by omega)).mono ?_
   rintro r st ⟨rfl, rfl⟩
   simp -dsimp only [go_sem, h]
   refine gkT (fun h' => ?_) (fun h' => ?_)
   · simp -dsimp only [go_sem, h, h']
     refine (exCmp_c x.lo x.hi st (rightN_sm h) (rightN_sm h')).mono ?_
     rintro r st ⟨rfl, rfl⟩
     simp -dsimp only [go_sem, h, h']
     simp [rightI, h, h']
   · simp -dsimp only [go_sem, h, h']
     simp [rightI, h, h']
 · simp -dsimp only [go_sem, h]
   simp [rightI, h]
theorem copied_c (x : Nm) (st : Store) (hw : wN x) : PCalls Tryz.prog 173 [.agg (encN x)] st (fun r st' => r = .agg (encN x) ∧ st' = st) := by
 unfold wN at hw
 refine pcalls_enter none Tryz.func173 rfl fun E => pwp_of_vc ?_
 simp -dsimp only [go_sem]
 omega
theorem of2_c (x y : Nm) (st : Store) (hx : wN x) (hy : wN y) : PCalls Tryz.prog 127 [.agg (encN x), .agg (encN y)] st (fun r st' => r = .agg (encI ⟨x, y⟩) ∧ st' = st) := by
 refine pcalls_enter none Tryz.func127 rfl fun E => pwp_of_vc ?_
 simp -dsimp only [go_sem]
 refine pwp_draw mixed 10 (.step 0 [] (.step 2 [] (.step 1 [2] (.step 3 [] (.step 4 [] (.step 5 [] (.done))))))) (by decide +kernel) (by simp) ?_
 simp -dsimp only [go_sem]
 refine (copied_c x st hx).mono ?_
 rintro r st ⟨rfl, rfl⟩
 simp -dsimp only [go_sem]
 refine (copied_c y st hy).mono ?_
 rintro r st ⟨rfl, rfl⟩
 simp -dsimp only [go_sem]
theorem ivOf_c (x : Nm) (st : Store) (hx : wN x) : PCalls Tryz.prog 73 [.agg (encN x)] st (fun r st' => r = .agg (encI ⟨x, x⟩) ∧ st' = st) := by
 refine pcalls_enter none Tryz.func73 rfl fun E => pwp_of_vc ?_
 simp -dsimp only [go_sem]
 refine (of2_c x x st hx hx).mono ?_
 rintro r st ⟨rfl, rfl⟩
 simp -dsimp only [go_sem]
theorem least_c (a b : Nm) (st : Store) (ha : sm a) (hb : sm b) : PCalls Tryz.prog 193 [.agg (encN a), .agg (encN b)] st (fun r st' => r = .agg (encN (leastN a b)) ∧ st' = st) := by
 refine pcalls_enter none Tryz.func193 rfl fun E => pwp_of_vc ?_
 simp -dsimp only [go_sem]
 refine (exCmp_c b a st hb ha).mono ?_
 rintro r st ⟨rfl, rfl⟩
 simp -dsimp only [go_sem]
 refine ck (fun h => ?_) (fun h => ?_)
 · simp -dsimp only [go_sem]
   rw [leastN, if_pos (of_decide_eq_true h)]
 · simp -dsimp only [go_sem]
   rw [leastN, if_neg (of_decide_eq_false h)]
theorem greatest_c (a b : Nm) (st : Store) (ha : sm a) (hb : sm b) : PCalls Tryz.prog 194 [.agg (encN a), .agg (encN b)] st (fun r st' => r = .agg (encN (greatN a b)) ∧ st' = st) := by
 refine pcalls_enter none Tryz.func194 rfl fun E => pwp_of_vc ?_
 simp -dsimp only [go_sem]
 refine (exCmp_c b a st hb ha).mono ?_
 rintro r st ⟨rfl, rfl⟩
 simp -dsimp only [go_sem]
 refine ck (fun h => ?_) (fun h => ?_)
 · simp -dsimp only [go_sem]
   rw [greatN, if_pos (of_decide_eq_true h)]
 · simp -dsimp only [go_sem]
   rw [greatN, if_neg (of_decide_eq_false h)]
theorem picked_c (g1 g2 : FuncId) (f1 f2 : Nm → Nm → Nm) (a b : Ivl) (st : Store) (c1 : callable Tryz.prog g1 = true) (c2 : callable Tryz.prog g2 = true)
  (h1 : PCalls Tryz.prog g1 [.agg (encN a.lo), .agg (encN b.lo)] st (fun r st' => r = .agg (encN (f1 a.lo b.lo)) ∧ st' = st))
  (h2 : PCalls Tryz.prog g2 [.agg (encN a.hi), .agg (encN b.hi)] st (fun r st' => r = .agg (encN (f2 a.hi b.hi)) ∧ st' = st))
  (w1 : wN (f1 a.lo b.lo)) (w2 : wN (f2 a.hi b.hi)) :
  PCalls Tryz.prog 226 [.agg (encI a), .agg (encI b), .fn (.func g1) [] [], .fn (.func g2) [] []] st (fun r st' => r = .agg (encI ⟨f1 a.lo b.lo, f2 a.hi b.hi⟩) ∧ st' = st) := by
 refine pcalls_enter none Tryz.func226 rfl fun E => pwp_of_vc ?_
 simp -dsimp only [go_sem]
 refine pwp_draw mixed 22 (.step 0 [] (.step 1 [] (.step 2 [] (.step 3 [] (.step 4 [] (.step 6 [] (.step 7 [] (.step 8 [] (.step 9 [] (.step 10 [] (.step 5 [8, 10] (.step 11 [] (.step 12 [] (.step 13 [] (.done))))))))))))))) (by decide +kernel) (by simp) ?_
 simp -dsimp only [go_sem, c1, c2]
 refine h1.mono ?_
 rintro r st ⟨rfl, rfl⟩
 simp -dsimp only [go_sem, c1, c2]
 refine h2.mono ?_
 rintro r st ⟨rfl, rfl⟩
 simp -dsimp only [go_sem]
 refine (of2_c _ _ st w1 w2).mono ?_
 rintro r st ⟨rfl, rfl⟩
 simp -dsimp only [go_sem]
theorem ivHull_c (a b : Ivl) (st : Store) (ha : wI a) (hb : wI b) : PCalls Tryz.prog 204 [.agg (encI a), .agg (encI b)] st (fun r st' => r = .tup [.agg (encI (hullI a b).1), .sc (.int .i64 (hullI a b).2)] ∧ st' = st) := by
 refine pcalls_enter none Tryz.func204 rfl fun E => pwp_of_vc ?_
 simp -dsimp only [go_sem]
 refine (ivRight_c a st ha).mono ?_
 rintro r st ⟨rfl, rfl⟩
 simp -dsimp only [go_sem]
 refine gkF (fun h => ?_) (fun h => ?_)
 · have r1 : rightI a = true := by simpa using h
   simp -dsimp only [go_sem, r1]
   refine (ivRight_c b st hb).mono ?_
   rintro r st ⟨rfl, rfl⟩
   simp -dsimp only [go_sem]
   refine ck (fun h => ?_) (fun h => ?_)
   · have r2 : rightI b = false := by simpa using h
     simp -dsimp only [go_sem]
     rw [hullI, if_neg (by simp [r2])]; rfl
   · have r2 : rightI b = true := by simpa using h
     obtain ⟨a1, a2, _⟩ := rightI_right r1
     obtain ⟨b1, b2, _⟩ := rightI_right r2
     have s1 := rightN_sm a1; have s2 := rightN_sm a2; have s3 := rightN_sm b1; have s4 := rightN_sm b2
     simp -dsimp only [go_sem]
     refine (picked_c _ _ leastN greatN a b st rfl rfl (least_c a.lo b.lo st s1 s3) (greatest_c a.hi b.hi st s2 s4) (leastN_of ha.1 hb.1) (greatN_of ha.2 hb.2)).mono ?_
     rintro r st ⟨rfl, rfl⟩
     simp -dsimp only [go_sem]
     rw [hullI, if_pos ⟨r1, r2⟩]
 · have r1 : rightI a = false := by simpa using h
   simp -dsimp only [go_sem, r1]
   rw [hullI, if_neg (by simp [r1])]; rfl
theorem ends0_c (a b : Ivl) (st : Store) (ha : wI a) (hb : wI b) : PCalls Tryz.prog 103 [.agg (encI a), .agg (encI b), .sc (.int .i64 0)] st (fun r st' => r = .sc (.bool (inI a b)) ∧ st' = st) := by
 refine pcalls_enter none Tryz.func103 rfl fun E => pwp_of_vc ?_
 simp -dsimp only [go_sem]
 refine (ivRight_c a st ha).mono ?_
 rintro r st ⟨rfl, rfl⟩
 simp -dsimp only [go_sem]
 refine gkT (fun h => ?_) (fun h => ?_)
 · simp -dsimp only [go_sem, h]
   refine (ivRight_c b st hb).mono ?_
   rintro r st ⟨rfl, rfl⟩
   simp -dsimp only [go_sem, h]
   refine gkT (fun h' => ?_) (fun h' => ?_)
   · obtain ⟨a1, a2, _⟩ := rightI_right h
     obtain ⟨b1, b2, _⟩ := rightI_right h'
     simp -dsimp only [go_sem, h, h']
     refine (exCmp_c a.lo b.lo st (rightN_sm a1) (rightN_sm b1)).mono ?_
     rintro r st ⟨rfl, rfl⟩
     simp -dsimp only [go_sem, h, h']
     refine gkT (fun h2 => ?_) (fun h2 => ?_)
     · simp -dsimp only [go_sem, h, h', h2]
       refine (exCmp_c b.hi a.hi st (rightN_sm b2) (rightN_sm a2)).mono ?_
       rintro r st ⟨rfl, rfl⟩
       simp -dsimp only [go_sem, h, h', h2]
       have h2' : 0 ≤ cmpN a.lo b.lo := of_decide_eq_true h2
       simp [inI, h, h', h2']
     · have h2' : ¬ 0 ≤ cmpN a.lo b.lo := of_decide_eq_false h2
       simp -dsimp only [go_sem, h, h', h2]
       simp [inI, h, h', h2']
   · simp -dsimp only [go_sem, h, h']
     simp [inI, h, h']
 · simp -dsimp only [go_sem, h]
   simp [inI, h]
theorem ivIn_c (a b : Ivl) (st : Store) (ha : wI a) (hb : wI b) : PCalls Tryz.prog 56 [.agg (encI a), .agg (encI b)] st (fun r st' => r = .sc (.bool (inI a b)) ∧ st' = st) := by
 refine pcalls_enter none Tryz.func56 rfl fun E => pwp_of_vc ?_
 simp -dsimp only [go_sem]
 refine (ends0_c a b st ha hb).mono ?_
 rintro r st ⟨rfl, rfl⟩
 simp -dsimp only [go_sem]
end Go.Pv
end

section
/- Boxes: box.Right, all, In, Same, each, pairs, Hull. -/
set_option maxRecDepth 100000
namespace Go.Pv
open Go.Proofs
theorem all_of_getD {α : Type} (d : α) (f : α → Bool) (l : List α) : l.all f = true ↔ ∀ i, i < l.length → f (l.getD i d) = true := by
 rw [List.all_eq_true]
 constructor
 · intro h i hi
   exact h _ (mem_getD l i d hi)
 · intro h x hx
   obtain ⟨i, hi, rfl⟩ := List.mem_iff_getElem.1 hx
   have := h i hi
   rwa [List.getD_eq_getElem?_getD, List.getElem?_eq_getElem hi] at this
theorem all_take {α : Type} (f : α → Bool) (l : List α) (i : Nat) (d : α) (h : i < l.length) : (l.take (i + 1)).all f = ((l.take i).all f && f (l.getD i d)) := by
 rw [take_snoc l i d h, List.all_append]; simp
theorem boxRight_c (l : List Ivl) (st : Store) (hw : wB l) : PCalls Tryz.prog 54 [.sl .no (encIs l)] st (fun r st' => r = .sc (.bool (rightB l)) ∧ st' = st) := by
 obtain ⟨hl, hw⟩ := hw
 refine pcalls_enter none Tryz.func54 rfl fun E => pwp_of_vc ?_
 simp -dsimp only [go_sem]
 refine pwp_loop_mask [true, false, false, false, false, true, true, true] 0 0 (fun n s => ∃ i, n = l.length - i ∧ i ≤ l.length ∧ (l.take i).all rightI = true ∧ s = ⟨[.sl .no (encIs l), .junk, .junk, .junk, .junk, .sl .no (encIs l), .sc (.int .i64 l.length), .sc (.int .i64 i)] ++ List.replicate 15 .junk, [], [], st⟩) l.length ?_ ?_
 · simp -dsimp only [go_sem]
   exact ⟨0, by omega, by omega, rfl, rfl⟩
 · rintro n s ⟨i, rfl, hi, hr, rfl⟩
   simp -dsimp only [go_sem]
   refine ck (fun h => ?_) (fun h => ?_)
   · have hlt : i < l.length := by have := of_decide_eq_true h; omega
     have e1 := encIs_get l i hlt
     have e3 : IntKind.i64.wrap ((i : Int) + 1) = ((i + 1 : Nat) : Int) := by rw [wrap_i64 _ (by omega) (by omega)]; omega
     have e4 := all_take rightI l i default hlt
     simp -dsimp only [go_sem, e1]
     refine ⟨by omega, ?_⟩
     refine (ivRight_c _ st (hw i hlt)).mono ?_
     rintro r st ⟨rfl, rfl⟩
     simp -dsimp only [go_sem, e1]
     refine ck (fun h => ?_) (fun h => ?_)
     · have hf : rightI (l.getD i default) = false := by simpa using h
       simp -dsimp only [go_sem]
       have : rightB l = false := by
        cases hb : rightB l with
        | false => rfl
        | true =>
         unfold rightB at hb
         simp only [Bool.and_eq_true] at hb
         have := (all_of_getD default rightI l).1 hb.1.1 i hlt
         rw [this] at hf; cases hf
       rw [this]
     · have ht : rightI (l.getD i default) = true := by simpa using h
       simp -dsimp only [go_sem, e3]
       exact ⟨l.length - (i + 1), by omega, i + 1, rfl, by omega, by rw [e4, hr, ht]; rfl, rfl⟩
   · have hge : i = l.length := by have := of_decide_eq_false h; omega
     simp -dsimp only [go_sem]
     refine pwp_of_vc ?_
     simp -dsimp only [go_sem]
     have hall : l.all rightI = true := by rw [← List.take_length (l := l), ← hge]; exact hr
     refine gkT (fun h => ?_) (fun h => ?_)
     · have h1 : 1 ≤ l.length := by have := of_decide_eq_true h; omega
       simp -dsimp only [go_sem, h]
       have : rightB l = decide ((l.length : Int) ≤ 4) := by
        unfold rightB
        rw [hall, decide_eq_true h1]
        simp only [Bool.true_and]
        exact decide_eq_decide.2 (by omega)
       rw [this]
     · have h1 : ¬ 1 ≤ l.length := by have := of_decide_eq_false h; omega
       simp -dsimp only [go_sem, h]
       have : rightB l = false := by unfold rightB; rw [decide_eq_false h1]; simp
       rw [this]
theorem allF_take {α : Type} [Inhabited α] (f : α → α → Bool) (a b : List α) (hl : a.length = b.length) : allF f a b = (List.range a.length).all fun i => f (a.getD i default) (b.getD i default) := by
 unfold allF; rw [decide_eq_true hl]; rfl
theorem boxAll_c (g : FuncId) (f : Ivl → Ivl → Bool) (a b : List Ivl) (st : Store) (hc : callable Tryz.prog g = true) (ha : a.length ≤ 100000000000) (hb : b.length ≤ 100000000000)
  (h : ∀ i, i < a.length → i < b.length → PCalls Tryz.prog g [.agg (encI (a.getD i default)), .agg (encI (b.getD i default))] st (fun r st' => r = .sc (.bool (f (a.getD i default) (b.getD i default))) ∧ st' = st)) :
  PCalls Tryz.prog 55 [.sl .no (encIs a), .sl .no (encIs b), .fn (.func g) [] []] st (fun r st' => r = .sc (.bool (allF f a b)) ∧ st' = st) := by
 refine pcalls_enter none Tryz.func55 rfl fun E => pwp_of_vc ?_
 simp -dsimp only [go_sem]
 refine ck (fun h0 => ?_) (fun h0 => ?_)
 · have hne := nbne_t h0
   simp -dsimp only [go_sem]
   have : allF f a b = false := by unfold allF; rw [decide_eq_false hne]; rfl
   rw [this]
 · have hl := nbne_f h0
   rw [allF_take f a b hl]
   simp -dsimp only [go_sem]
   refine pwp_loop_mask [true, true, true, false, false, false, false, false, false, false, false, false, false, false, true, true] 0 0 (fun n s => ∃ i, n = a.length - i ∧ i ≤ a.length ∧ (∀ j, j < i → f (a.getD j default) (b.getD j default) = true) ∧ s = ⟨[.sl .no (encIs a), .sl .no (encIs b), .fn (.func g) [] [], .junk, .junk, .junk, .junk, .junk, .junk, .junk, .junk, .junk, .junk, .junk, .sc (.int .i64 a.length), .sc (.int .i64 i)] ++ List.replicate 14 .junk, [], [], st⟩) a.length ?_ ?_
   · simp -dsimp only [go_sem]
     exact ⟨0, by omega, by omega, fun j hj => by omega, rfl⟩
   · rintro n s ⟨i, rfl, hi, hr, rfl⟩
     simp -dsimp only [go_sem]
     refine ck (fun h' => ?_) (fun h' => ?_)
     · have hlt : i < a.length := by have := of_decide_eq_true h'; omega
       have e1 := encIs_get a i hlt
       have e2 := encIs_get b i (by omega)
       have e3 : IntKind.i64.wrap ((i : Int) + 1) = ((i + 1 : Nat) : Int) := by rw [wrap_i64 _ (by omega) (by omega)]; omega
       simp -dsimp only [go_sem]
       refine pwp_draw mixed 30 (.step 0 [] (.step 1 [] (.step 2 [] (.step 3 [] (.step 4 [] (.step 5 [] (.step 6 [] (.step 7 [] (.step 8 [] (.step 9 [] (.step 10 [] (.done)))))))))))) (by decide +kernel) (by simp) ?_
       simp -dsimp only [go_sem, e1, e2, hc]
       refine ⟨by omega, by omega, ?_⟩
       refine (h i hlt (by omega)).mono ?_
       rintro r st ⟨rfl, rfl⟩
       simp -dsimp only [go_sem]
       refine ck (fun h2 => ?_) (fun h2 => ?_)
       · have hf : f (a.getD i default) (b.getD i default) = false := by simpa using h2
         simp -dsimp only [go_sem]
         have : ((List.range a.length).all fun i => f (a.getD i default) (b.getD i default)) = false := by
          rw [List.all_eq_false]; exact ⟨i, by simpa using hlt, fun e => by rw [hf] at e; cases e⟩
         first | rw [this] | rw [← List.range_eq_range', this]
       · have ht : f (a.getD i default) (b.getD i default) = true := by simpa using h2
         simp -dsimp only [go_sem, e3]
         refine ⟨a.length - (i + 1), by omega, i + 1, rfl, by omega, fun j hj => ?_, rfl⟩
         by_cases e : j = i
         · subst e; exact ht
         · exact hr j (by omega)
     · have hge : i = a.length := by have := of_decide_eq_false h'; omega
       simp -dsimp only [go_sem]
       refine pwp_of_vc ?_
       simp -dsimp only [go_sem]
       have : ((List.range a.length).all fun i => f (a.getD i default) (b.getD i default)) = true := by
        rw [List.all_eq_true]; intro j hj; exact hr j (by rw [hge]; simpa using hj)
       first | rw [this] | rw [← List.range_eq_range', this]
theorem boxIn_c (a b : List Ivl) (st : Store) (ha : wB a) (hb : wB b) : PCalls Tryz.prog 23 [.sl .no (encIs a), .sl .no (encIs b)] st (fun r st' => r = .sc (.bool (inB a b)) ∧ st' = st) := by
 refine pcalls_enter none Tryz.func23 rfl fun E => pwp_of_vc ?_
 simp -dsimp only [go_sem]
 refine (boxRight_c a st ha).mono ?_
 rintro r st ⟨rfl, rfl⟩
 simp -dsimp only [go_sem]
 refine gkT (fun h => ?_) (fun h => ?_)
 · simp -dsimp only [go_sem, h]
   refine (boxRight_c b st hb).mono ?_
   rintro r st ⟨rfl, rfl⟩
   simp -dsimp only [go_sem, h]
   refine gkT (fun h' => ?_) (fun h' => ?_)
   · simp -dsimp only [go_sem, h, h']
     refine (boxAll_c _ inI a b st rfl ha.1 hb.1 fun i h1 h2 => ivIn_c _ _ st (ha.2 i h1) (hb.2 i h2)).mono ?_
     rintro r st ⟨rfl, rfl⟩
     simp -dsimp only [go_sem, h, h']
     simp [inB, h, h']
   · simp -dsimp only [go_sem, h, h']
     simp [inB, h, h']
 · simp -dsimp only [go_sem, h]
   simp [inB, h]
theorem eachF_drop {α β : Type} [Inhabited α] (F : Nat → α → β × Int) (l : List α) (i : Nat) (acc : List β) (h : i < l.length) : eachF F i (l.drop i) acc = if (F i (l.getD i default)).2 ≠ 0 then ([], (F i (l.getD i default)).2) else eachF F (i + 1) (l.drop (i + 1)) (acc ++ [(F i (l.getD i default)).1]) := by
 rw [List.drop_eq_getElem_cons h, eachF, List.getD_eq_getElem?_getD, List.getElem?_eq_getElem h]; rfl
theorem each_c (g : FuncId) (caps : List PV) (F : Nat → Ivl → Ivl × Int) (l : List Ivl) (st : Store) (hc : callable Tryz.prog g = true) (hl : l.length ≤ 100000000000) (h1 : caps.all PV.closed2 = true) (h1' : caps.all PV.closed1 = true) (h2 : caps.map PV.forget2 = caps) (h2' : caps.map PV.forget1 = caps) (hlim : caps.all (PV.lim1 0 1) = true)
  (h : ∀ i, i < l.length → PCalls Tryz.prog g ([.sc (.int .i64 i), .agg (encI (l.getD i default))] ++ caps) st (fun r st' => r = .tup [.agg (encI (F i (l.getD i default)).1), .sc (.int .i64 (F i (l.getD i default)).2)] ∧ st' = st)) :
  PCalls Tryz.prog 189 [.sl .no (encIs l), .fn (.func g) [] caps] st (fun r st' => r = .tup [.sl .no (encIs (eachF F 0 l []).1), .sc (.int .i64 (eachF F 0 l []).2)] ∧ st' = st) := by
 refine pcalls_enter none Tryz.func189 rfl fun E => pwp_of_vc ?_
 simp -dsimp only [go_sem]
 refine pwp_claim 6 6 ?_
 simp -dsimp only [go_sem]
 refine pwp_loop_mask [false, true, false, false, false, false, true, false, false, false, false, true, true, true] 0 1 (fun n s => ∃ i o, n = l.length - i ∧ i ≤ l.length ∧ o.length = i ∧ eachF F 0 l [] = eachF F i (l.drop i) o ∧ s = ⟨[.junk, .fn (.func g) [] caps, .junk, .junk, .junk, .junk, .sl (.own 0) (encIs o), .junk, .junk, .junk, .junk, .sl .no (encIs l), .sc (.int .i64 l.length), .sc (.int .i64 i)] ++ List.replicate 20 .junk, [], [(o.length, 6)], st⟩) l.length ?_ ?_
 · simp -dsimp only [go_sem, hlim]
   exact ⟨0, [], by omega, by omega, rfl, rfl, rfl⟩
 · rintro n s ⟨i, o, rfl, hi, ho, hr, rfl⟩
   simp -dsimp only [go_sem]
   refine ck (fun h' => ?_) (fun h' => ?_)
   · have hlt : i < l.length := by have := of_decide_eq_true h'; omega
     have e1 := encIs_get l i hlt
     have e3 : IntKind.i64.wrap ((i : Int) + 1) = ((i + 1 : Nat) : Int) := by rw [wrap_i64 _ (by omega) (by omega)]; omega
     have e4 := eachF_drop F l i o hlt
     simp -dsimp only [go_sem, e1, hc, h1, h2]
     refine ⟨by omega, ?_⟩
     refine (h i hlt).mono ?_
     rintro r st ⟨rfl, rfl⟩
     simp -dsimp only [go_sem, e1]
     refine ck (fun h2 => ?_) (fun h2 => ?_)
     · have hne := zbne_t h2
       simp -dsimp only [go_sem]
       rw [hr, e4, if_pos hne]; rfl
     · have he := zbne_f h2
       simp -dsimp only [go_sem, e3, hlim]
       refine ⟨by omega, l.length - (i + 1), by omega, i + 1, o ++ [(F i (l.getD i default)).1], rfl, by omega, by simp [ho], ?_, ?_⟩
       · rw [hr, e4, if_neg (fun hh => hh he)]
       · simp [encIs, encI]
   · have hge : i = l.length := by have := of_decide_eq_false h'; omega
     simp -dsimp only [go_sem]
     refine pwp_of_vc ?_
     simp -dsimp only [go_sem]
     rw [hr, hge, List.drop_length]; rfl
end Go.Pv
end

section
/- Boxes: pairs, Hull. -/
set_option maxRecDepth 100000
namespace Go.Pv
open Go.Proofs
theorem pairs1_c (g : FuncId) (G : Ivl → Ivl → Ivl × Int) (i : Nat) (x : Ivl) (b : List Ivl) (st : Store) (hc : callable Tryz.prog g = true) (hi : i < b.length)
  (h : PCalls Tryz.prog g [.agg (encI x), .agg (encI (b.getD i default))] st (fun r st' => r = .tup [.agg (encI (G x (b.getD i default)).1), .sc (.int .i64 (G x (b.getD i default)).2)] ∧ st' = st)) :
  PCalls Tryz.prog 190 ([.sc (.int .i64 i), .agg (encI x)] ++ [.ep [.fn (.func g) [] []] 0, .ep [.sl .no (encIs b)] 0]) st (fun r st' => r = .tup [.agg (encI (G x (b.getD i default)).1), .sc (.int .i64 (G x (b.getD i default)).2)] ∧ st' = st) := by
 refine pcalls_enter none Tryz.func190 rfl fun E => pwp_of_vc ?_
 simp -dsimp only [go_sem]
 have e1 := encIs_get b i hi
 refine pwp_draw mixed 17 (.step 0 [] (.step 1 [] (.step 2 [] (.step 3 [] (.step 4 [] (.step 5 [] (.step 6 [] (.step 7 [] (.step 8 [] (.step 9 [] (.step 10 [] (.done)))))))))))) (by decide +kernel) (by simp) ?_
 simp -dsimp only [go_sem, e1, hc]
 refine ⟨by omega, ?_⟩
 refine h.mono ?_
 rintro r st ⟨rfl, rfl⟩
 simp -dsimp only [go_sem]
def pairsF (G : Ivl → Ivl → Ivl × Int) (a b : List Ivl) : List Ivl × Int := if rightB a = true ∧ rightB b = true ∧ a.length = b.length then eachF (fun i x => G x (b.getD i default)) 0 a [] else ([], 1)
theorem pairs_c (g : FuncId) (G : Ivl → Ivl → Ivl × Int) (a b : List Ivl) (st : Store) (hc : callable Tryz.prog g = true) (ha : wB a) (hb : wB b)
  (h : rightB a = true → rightB b = true → ∀ i, i < a.length → i < b.length → PCalls Tryz.prog g [.agg (encI (a.getD i default)), .agg (encI (b.getD i default))] st (fun r st' => r = .tup [.agg (encI (G (a.getD i default) (b.getD i default)).1), .sc (.int .i64 (G (a.getD i default) (b.getD i default)).2)] ∧ st' = st)) :
  PCalls Tryz.prog 138 [.sl .no (encIs a), .sl .no (encIs b), .fn (.func g) [] []] st (fun r st' => r = .tup [.sl .no (encIs (pairsF G a b).1), .sc (.int .i64 (pairsF G a b).2)] ∧ st' = st) := by
 refine pcalls_enter none Tryz.func138 rfl fun E => pwp_seq (pwp_of_vc ?_)
 simp -dsimp only [go_sem]
 refine pwp_freeze 0 ?_ ?_
 · simp -dsimp only [go_sem]
 simp -dsimp only [go_sem]
 refine pwp_freeze 1 ?_ ?_
 · simp -dsimp only [go_sem]
 refine pwp_of_vc ?_
 simp -dsimp only [go_sem]
 refine (boxRight_c a st ha).mono ?_
 rintro r st ⟨rfl, rfl⟩
 simp -dsimp only [go_sem]
 have bad : ∀ st : Store, ¬ (rightB a = true ∧ rightB b = true ∧ a.length = b.length) → pairsF G a b = ([], 1) := fun _ h => if_neg h
 refine gkF (fun h1 => ?_) (fun h1 => ?_)
 · have r1 : rightB a = true := by simpa using h1
   simp -dsimp only [go_sem, r1]
   refine (boxRight_c b st hb).mono ?_
   rintro r st ⟨rfl, rfl⟩
   simp -dsimp only [go_sem, r1]
   refine gkF (fun h2 => ?_) (fun h2 => ?_)
   · have r2 : rightB b = true := by simpa using h2
     simp -dsimp only [go_sem, r1, r2]
     refine ck (fun h3 => ?_) (fun h3 => ?_)
     · have hne := nbne_t h3
       simp -dsimp only [go_sem]
       rw [bad st (fun h => hne h.2.2)]; rfl
     · have hl := nbne_f h3
       simp -dsimp only [go_sem]
       refine (each_c _ [.ep [.fn (.func g) [] []] 0, .ep [.sl .no (encIs b)] 0] (fun i x => G x (b.getD i default)) a st rfl ha.1 rfl rfl rfl rfl rfl fun i hi => pairs1_c g G i _ b st hc (by omega) (h r1 r2 i hi (by omega))).mono ?_
       rintro r st ⟨rfl, rfl⟩
       simp -dsimp only [go_sem]
       rw [pairsF, if_pos ⟨r1, r2, hl⟩]
   · have r2 : rightB b = false := by simpa using h2
     simp -dsimp only [go_sem, r1, r2]
     rw [bad st (fun h => by simp [r2] at h)]; rfl
 · have r1 : rightB a = false := by simpa using h1
   simp -dsimp only [go_sem, r1]
   rw [bad st (fun h => by simp [r1] at h)]; rfl
theorem hullB_eq (a b : List Ivl) : hullB a b = pairsF hullI a b := rfl
theorem boxHull_c (a b : List Ivl) (st : Store) (ha : wB a) (hb : wB b) : PCalls Tryz.prog 155 [.sl .no (encIs a), .sl .no (encIs b)] st (fun r st' => r = .tup [.sl .no (encIs (hullB a b).1), .sc (.int .i64 (hullB a b).2)] ∧ st' = st) := by
 refine pcalls_enter none Tryz.func155 rfl fun E => pwp_of_vc ?_
 simp -dsimp only [go_sem]
 refine (pairs_c _ hullI a b st rfl ha hb fun _ _ i h1 h2 => ivHull_c _ _ st (ha.2 i h1) (hb.2 i h2)).mono ?_
 rintro r st ⟨rfl, rfl⟩
 simp -dsimp only [go_sem, hullB_eq]
end Go.Pv
end

section
/- The document's intervals: RightIv, Hull, Meet, SameIv. -/
set_option maxRecDepth 100000
namespace Go.Pv
open Go.Proofs
def meetI (a b : Ivl) : Ivl × Int := if rightI a = true ∧ rightI b = true then (if cmpN (greatN a.lo b.lo) (leastN a.hi b.hi) > 0 then (default, 4) else (⟨greatN a.lo b.lo, leastN a.hi b.hi⟩, 0)) else (default, 1)
end Go.Pv
end
