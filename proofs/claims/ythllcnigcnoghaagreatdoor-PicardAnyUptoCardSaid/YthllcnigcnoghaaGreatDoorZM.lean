/- Parts of the walk: H1, H2, H3. -/
import Derived.Test.YthllcnigcnoghaaGreatDoorZH
import Derived.Test.YthllcnigcnoghaaGreatDoorZL
set_option linter.unusedVariables false
set_option linter.unusedSimpArgs false
section
/- The document's Words, Val.Num, Make. -/
set_option maxRecDepth 100000
namespace Go.Pv
open Go.Proofs
theorem words_c (m : Nat) (st : Store) (hm : (digitsOf m).length ≤ 1000000000000) : PCalls Tryz.prog 159 [.sl .no (encD (digitsOf m))] st (fun r st' => r = .sl .no (encW (wordsOf m)) ∧ st' = st) := by
  rw [← pk_words m]
  obtain ⟨a, ha⟩ : ∃ a, a = digitsOf m := ⟨_, rfl⟩
  rw [← ha] at hm ⊢
  refine pcalls_enter none Tryz.func159 rfl fun E => pwp_of_vc ?_
  simp -dsimp only [go_sem]
  refine pwp_claim 3 1 ?_
  simp -dsimp only [go_sem]
  refine pwp_loop_mask [true, false, false, true, true] 0 1 (fun n s => ∃ k, n = a.length + 1 - 2 * k ∧ 2 * k ≤ a.length + 1 ∧
    s = ⟨[.sl .no (encD a), .junk, .junk, .sl (.own 0) (encW (pk a k)), .sc (.int .i64 (2 * k : Nat))] ++ List.replicate 31 .junk, [], [((pk a k).length, 1)], st⟩) (a.length + 1) ?_ ?_
  · simp -dsimp only [go_sem]
    exact ⟨0, by omega, by omega, rfl⟩
  · rintro n s ⟨k, rfl, hk, rfl⟩
    simp -dsimp only [go_sem]
    refine ck (fun h => ?_) (fun h => ?_)
    · have hlt : 2 * k < a.length := by have := of_decide_eq_true h; omega
      have g1 := encD_get a (2 * k) hlt
      have h1 := (a.getD (2 * k) 0).toNat_lt
      have h2 := (a.getD (2 * k + 1) 0).toNat_lt
      have x1 : IntKind.i64.wrap (((2 * k : Nat) : Int) + 1) = ((2 * k + 1 : Nat) : Int) := by
        rw [show (((2 * k : Nat) : Int) + 1) = ((2 * k + 1 : Nat) : Int) from rfl, wrapn_i64 _ (by omega)]
      have x2 : IntKind.i64.wrap (((2 * k : Nat) : Int) + 2) = ((2 * (k + 1) : Nat) : Int) := by
        rw [show (((2 * k : Nat) : Int) + 2) = ((2 * (k + 1) : Nat) : Int) from by omega, wrapn_i64 _ (by omega)]
      have w1 : IntKind.u64.wrap ((a.getD (2 * k) 0).toNat : Int) = ((a.getD (2 * k) 0).toNat : Int) := wrap_u64 _ (by omega)
      have w2 : IntKind.u64.wrap ((a.getD (2 * k + 1) 0).toNat : Int) = ((a.getD (2 * k + 1) 0).toNat : Int) := wrap_u64 _ (by omega)
      have ew := pk_word a k
      have en := pk_succ a k
      have pl := pk_length a k
      simp -dsimp only [go_sem, g1, x1, w1]
      refine ⟨by omega, ?_⟩
      refine ck (fun h5 => ?_) (fun h5 => ?_)
      · have hlt2 : 2 * k + 1 < a.length := by have := of_decide_eq_true h5; omega
        have g2 := encD_get a (2 * k + 1) hlt2
        have s1 : bOr .u64 ((a.getD (2 * k) 0).toNat : Int) (bShl .u64 ((a.getD (2 * k + 1) 0).toNat : Int) 32) = ((UInt64.ofNat ((a.getD (2 * k) 0).toNat + 4294967296 * (a.getD (2 * k + 1) 0).toNat)).toNat : Int) := by
          rw [ew, show (32 : Int) = ((32 : Nat) : Int) from rfl, bShl_u64 _ 32 (by omega), bOr_u64 _ _ (by omega) (Nat.mod_lt _ (by decide)), or_add _ _ 32 (by omega) (mul_pow_mod _ 32 (by omega))]
          congr 1
          omega
        simp -dsimp only [go_sem, x1, x2, g2, w2, s1]
        refine ⟨by omega, by omega, a.length + 1 - 2 * (k + 1), by omega, k + 1, rfl, by omega, by rw [en]; simp⟩
      · have h0 : a.getD (2 * k + 1) 0 = 0 := getD_ge _ _ _ (by have := of_decide_eq_false h5; omega)
        have s1 : ((a.getD (2 * k) 0).toNat : Int) = ((UInt64.ofNat ((a.getD (2 * k) 0).toNat + 4294967296 * (a.getD (2 * k + 1) 0).toNat)).toNat : Int) := by
          rw [ew, h0]; rfl
        simp -dsimp only [go_sem, x2]
        rw [s1, encW_snoc, ← en]
        refine ⟨by omega, a.length + 1 - 2 * (k + 1), by omega, k + 1, rfl, by omega, by simp [pk_length]⟩
    · have hge : k = (a.length + 1) / 2 := by have := of_decide_eq_false h; omega
      simp -dsimp only [go_sem]
      refine pwp_plain [false, false, false, true] (pwp_of_vc ?_)
      simp -dsimp only [go_sem]
      rw [hge]
theorem vnum_c (v : Vl) (st : Store) (hm : (digitsOf v.m).length ≤ 1000000000000) : PCalls Tryz.prog 108 [.agg (encV v)] st (fun r st' => r = .tup [.agg (encN (numV v).1), .sc (.int .i64 (numV v).2)] ∧ st' = st) := by
  refine pcalls_enter none Tryz.func108 rfl fun E => pwp_of_vc ?_
  simp -dsimp only [go_sem]
  refine ck (fun h => ?_) (fun h => ?_)
  · have h0 : v.m = 0 := digitsOf_nil.1 (List.length_eq_zero_iff.1 (nbeq_t (b := 0) h))
    simp -dsimp only [go_sem]
    rw [numV, if_pos h0]; rfl
  · have h0 : v.m ≠ 0 := fun e => nbeq_f (b := 0) h (by rw [e, digitsOf_zero]; rfl)
    simp -dsimp only [go_sem]
    refine (words_c v.m st hm).mono ?_
    rintro r st ⟨rfl, rfl⟩
    simp -dsimp only [go_sem]
    have bad : 64 < (wordsOf v.m).length ∨ v.e < -65536 ∨ 65536 < v.e → numV v = (default, 2) := fun h => by rw [numV, if_neg h0, if_pos h]
    refine gkF (fun h1 => ?_) (fun h1 => ?_)
    · have h1' := of_decide_eq_false h1
      simp -dsimp only [go_sem, h1]
      refine gkF (fun h2 => ?_) (fun h2 => ?_)
      · have h2' := of_decide_eq_false h2
        simp -dsimp only [go_sem, h1, h2]
        refine ck (fun h3 => ?_) (fun h3 => ?_)
        · have h3' := of_decide_eq_true h3
          simp -dsimp only [go_sem]
          rw [bad (by omega)]; rfl
        · have h3' := of_decide_eq_false h3
          simp -dsimp only [go_sem]
          rw [numV, if_neg h0, if_neg (by omega)]
      · have h2' := of_decide_eq_true h2
        simp -dsimp only [go_sem, h1, h2]
        rw [bad (by omega)]; rfl
    · have h1' := of_decide_eq_true h1
      simp -dsimp only [go_sem, h1]
      rw [bad (by omega)]; rfl
theorem exactSum_c (a b : Vl) (st : Store) (ha : smV a) (hb : smV b) : PCalls Tryz.prog 225 [.sc (.int .i64 0), .agg (encV a), .agg (encV b)] st (fun r st' => r = .agg (encV (plusV a b)) ∧ st' = st) := by
  refine pcalls_enter none Tryz.func225 rfl fun E => pwp_of_vc ?_
  simp -dsimp only [go_sem]
  refine (plus_c a b st ha hb).mono ?_
  rintro r st ⟨rfl, rfl⟩
  simp -dsimp only [go_sem]
end Go.Pv
end

section
/- The deck: Of, Next, N, Yes. -/
set_option maxRecDepth 100000
namespace Go.Pv
open Go.Proofs
def dk (l : List UInt64) (i : Nat) : List PV := [.sl .no (encW l), .sc (.int .i64 i)]
def atD (st : Store) (k : Nat) (l : List UInt64) (i : Nat) : Prop := st.getD k [] = dk l i
theorem atD.lt {st : Store} {k : Nat} {l : List UInt64} {i : Nat} (h : atD st k l i) : k < st.length := by
  refine Nat.lt_of_not_le fun hn => ?_
  unfold atD at h
  rw [List.getD_eq_getElem?_getD, List.getElem?_eq_none hn] at h
  cases h
theorem atD.set {st : Store} {k : Nat} {l : List UInt64} {i : Nat} (h : atD st k l i) (j : Nat) : atD (st.set k (dk l j)) k l j := by
  unfold atD
  rw [getD_set_self _ _ _ _ h.lt]
theorem atD.same {st : Store} {k : Nat} {l : List UInt64} {i : Nat} (h : atD st k l i) : st.set k (dk l i) = st := by
  have hlt := h.lt
  unfold atD at h
  rw [← h, List.getD_eq_getElem?_getD, List.getElem?_eq_getElem hlt, Option.getD_some, List.set_getElem_self]
def nx (l : List UInt64) (i n : Nat) : Nat := (l.getD i 0).toNat % n
end Go.Pv
end

section
/- Numbers, intervals, boxes, times out of the deck. -/
set_option maxRecDepth 100000
namespace Go.Pv
open Go.Proofs
theorem point_c (x : Nm) (st : Store) : PCalls Tryz.prog 78 [.agg (encN x)] st (fun r st' => r = .agg (encI ⟨x, x⟩) ∧ st' = st) := by
  refine pcalls_enter none Tryz.func78 rfl fun E => pwp_of_vc ?_
  simp -dsimp only [go_sem]
end Go.Pv
end
