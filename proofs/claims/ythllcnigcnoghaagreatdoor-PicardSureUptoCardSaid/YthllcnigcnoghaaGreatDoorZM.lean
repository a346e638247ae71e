/- Parts of the walk: H1, H2, H3. -/
import Derived.Test.YthllcnigcnoghaaGreatDoorZH
import Derived.Test.YthllcnigcnoghaaGreatDoorZL
set_option linter.unusedVariables false
set_option linter.unusedSimpArgs false
section
/- The document's Words, Val.Num, Make. -/
set_option maxRecDepth 100000
namespace Go.Pv
open Go.Proofs
theorem words_c (m : Nat) (st : Store) (hm : (digitsOf m).length ≤ 1000000000000) : PCalls Tryz.prog 159 [.sl .no (encD (digitsOf m))] st (fun r st' => r = .sl .no (encW (wordsOf m)) ∧ st' = st) := by
 rw [← pk_words m]
 obtain ⟨a, ha⟩ : ∃ a, a = digitsOf m := ⟨_, rfl⟩
 rw [← ha] at hm ⊢
 refine pcalls_enter none Tryz.func159 rfl fun E => pwp_of_vc ?_
 simp -dsimp only [go_sem]
 refine pwp_claim 3 1 ?_
 simp -dsimp only [go_sem]
 refine pwp_loop_mask [true, false, false, true, true] 0 1 (fun n s => ∃ k, n = a.length + 1 - 2 * k ∧ 2 * k ≤ a.length + 1 ∧
  s = ⟨[.sl .no (encD a), .junk, .junk, .sl (.own 0) (encW (pk a k)), .sc (.int .i64 (2 * k : Nat))] ++ List.replicate 31 .junk, [], [((pk a k).length, 1)], st⟩) (a.length + 1) ?_ ?_
 · simp -dsimp only [go_sem]
   exact ⟨0, by omega, by omega, rfl⟩
 · rintro n s ⟨k, rfl, hk, rfl⟩
   simp -dsimp only [go_sem]
   refine ck (fun h => ?_) (fun h => ?_)
   · have hlt : 2 * k < a.length := by have := of_decide_eq_true h; omega
     have g1 := encD_get a (2 * k) hlt
     have h1 := (a.getD (2 * k) 0).toNat_lt
     have h2 := (a.getD (2 * k + 1) 0).toNat_lt
     have x1 : IntKind.i64.wrap (((2 * k : Nat) : Int) + 1) = ((2 * k + 1 : Nat) : Int) := by
      rw [show (((2 * k : Nat) : Int) + 1) = ((2 * k + 1 : Nat) : Int) from rfl, wrapn_i64 _ (by omega)]
     have x2 : IntKind.i64.wrap (((2 * k : Nat) : Int) + 2) = ((2 * (k + 1) : Nat) : Int) := by
      rw [show (((2 * k : Nat) : Int) + 2) = ((2 * (k + 1) : Nat) : Int) from by omega, wrapn_i64 _ (by omega)]
     have w1 : IntKind.u64.wrap ((a.getD (2 * k) 0).toNat : Int) = ((a.getD (2 * k) 0).toNat : Int) := wrap_u64 _ (by omega)
     have w2 : IntKind.u64.wrap ((a.getD (2 * k + 1) 0).toNat : Int) = ((a.getD (2 * k + 1) 0).toNat : Int) := wrap_u64 _ (by omega)
     have ew := pk_word a k
     have en := pk_succ a k
     have pl := pk_length a k
     simp -dsimp only [go_sem, g1, x1, w1]
     refine ⟨by omega, ?_⟩
     refine ck (fun h5 => ?_) (fun h5 => ?_)
     · have hlt2 : 2 * k + 1 < a.length := by have := of_decide_eq_true h5; omega
       have g2 := encD_get a (2 * k + 1) hlt2
       have s1 : bOr .u64 ((a.getD (2 * k) 0).toNat : Int) (bShl .u64 ((a.getD (2 * k + 1) 0).toNat : Int) 32) = ((UInt64.ofNat ((a.getD (2 * k) 0).toNat + 4294967296 * (a.getD (2 * k + 1) 0).toNat)).toNat : Int) := by
        rw [ew, show (32 : Int) = ((32 : Nat) : Int) from rfl, bShl_u64 _ 32 (by omega), bOr_u64 _ _ (by omega) (Nat.mod_lt _ (by decide)), or_add _ _ 32 (by omega) (mul_pow_mod _ 32 (by omega))]
        congr 1
        omega
       simp -dsimp only [go_sem, x1, x2, g2, w2, s1]
       refine ⟨by omega, by omega, a.length + 1 - 2 * (k + 1), by omega, k + 1, rfl, by omega, by rw [en]; simp⟩
     · have h0 : a.getD (2 * k + 1) 0 = 0 := getD_ge _ _ _ (by have := of_decide_eq_false h5; omega)
       have s1 : ((a.getD (2 * k) 0).toNat : Int) = ((UInt64.ofNat ((a.getD (2 * k) 0).toNat + 4294967296 * (a.getD (2 * k + 1) 0).toNat)).toNat : Int) := by
        rw [ew, h0]; rfl
       simp -dsimp only [go_sem, x2]
       rw [s1, encW_snoc, ← en]
       refine ⟨by omega, a.length + 1 - 2 * (k + 1), by omega, k + 1, rfl, by omega, by simp [pk_length]⟩
   · have hge : k = (a.length + 1) / 2 := by have := of_decide_eq_false h; omega
     simp -dsimp only [go_sem]
     refine pwp_plain [false, false, false, true] (pwp_of_vc ?_)
     simp -dsimp only [go_sem]
     rw [hge]
theorem vnum_c (v : Vl) (st : Store) (hm : (digitsOf v.m).length ≤ 1000000000000) : PCalls Tryz.prog 108 [.agg (encV v)] st (fun r st' => r = .tup [.agg (encN (numV v).1), .sc (.int .i64 (numV v).2)] ∧ st' = st) := by
 refine pcalls_enter none Tryz.func108 rfl fun E => pwp_of_vc ?_
 simp -dsimp only [go_sem]
 refine ck (fun h => ?_) (fun h => ?_)
 · have h0 : v.m = 0 := digitsOf_nil.1 (List.length_eq_zero_iff.1 (nbeq_t (b := 0) h))
   simp -dsimp only [go_sem]
   rw [numV, if_pos h0]; rfl
 · have h0 : v.m ≠ 0 := fun e => nbeq_f (b := 0) h (by rw [e, digitsOf_zero]; rfl)
   simp -dsimp only [go_sem]
   refine (words_c v.m st hm).mono ?_
   rintro r st ⟨rfl, rfl⟩
   simp -dsimp only [go_sem]
   have bad : 64 < (wordsOf v.m).length ∨ v.e < -65536 ∨ 65536 < v.e → numV v = (default, 2) := fun h => by rw [numV, if_neg h0, if_pos h]
   refine gkF (fun h1 => ?_) (fun h1 => ?_)
   · have h1' := of_decide_eq_false h1
     simp -dsimp only [go_sem, h1]
     refine gkF (fun h2 => ?_) (fun h2 => ?_)
     · have h2' := of_decide_eq_false h2
       simp -dsimp only [go_sem, h1, h2]
       refine ck (fun h3 => ?_) (fun h3 => ?_)
       · have h3' := of_decide_eq_true h3
         simp -dsimp only [go_sem]
         rw [bad (by omega)]; rfl
       · have h3' := of_decide_eq_false h3
         simp -dsimp only [go_sem]
         rw [numV, if_neg h0, if_neg (by omega)]
     · have h2' := of_decide_eq_true h2
       simp -dsimp only [go_sem, h1, h2]
       rw [bad (by omega)]; rfl
   · have h1' := of_decide_eq_true h1
     simp -dsimp only [go_sem, h1]
     rw [bad (by omega)]; rfl
theorem make_c (neg : Bool) (w : List UInt64) (e : Int) (st : Store) (hw : w.length ≤ 1000000000) (he1 : -1000000000000 ≤ e) (he2 : e ≤ 1000000000000) : PCalls Tryz.prog 99 [.sc (.bool neg), .sl .no (encW w), .sc (.int .i64 e)] st (fun r st' => r = .tup [.agg (encN (makeN neg w e).1), .sc (.int .i64 (makeN neg w e).2)] ∧ st' = st) := by
 have hb := bitsW_le w
 unfold bitsW at hb
 have hl := digitsOf_len (valW w)
 have ht := tz_le_bitlen (valW w)
 refine pcalls_enter none Tryz.func99 rfl fun E => pwp_of_vc ?_
 simp -dsimp only [go_sem]
 refine (part_c w st (by omega)).mono ?_
 rintro r st ⟨rfl, rfl⟩
 simp -dsimp only [go_sem]
 refine ck (fun h => ?_) (fun h => ?_)
 · have h0 : valW w = 0 := digitsOf_nil.1 (List.length_eq_zero_iff.1 (nbeq_t (b := 0) h))
   simp -dsimp only [go_sem]
   rw [makeN, if_pos h0]; rfl
 · have h0 : valW w ≠ 0 := fun e => nbeq_f (b := 0) h (by rw [e, digitsOf_zero]; rfl)
   have w1 : IntKind.i64.wrap (-65536 - (tz (valW w) : Int)) = -65536 - (tz (valW w) : Int) := wrap_i64 _ (by omega) (by omega)
   simp -dsimp only [go_sem, w1]
   have bad : 65536 < e ∨ e < -65536 - (tz (valW w) : Int) → makeN neg w e = (default, 2) := fun h => by rw [makeN, if_neg h0, if_pos h]
   refine gkF (fun h1 => ?_) (fun h1 => ?_)
   · have h1' := of_decide_eq_false h1
     simp -dsimp only [go_sem, h1]
     refine (zeros_c (valW w) st (by omega)).mono ?_
     rintro r st ⟨rfl, rfl⟩
     simp -dsimp only [go_sem, h1, w1]
     refine ck (fun h2 => ?_) (fun h2 => ?_)
     · have h2' := of_decide_eq_true h2
       simp -dsimp only [go_sem]
       rw [bad (by omega)]; rfl
     · have h2' := of_decide_eq_false h2
       simp -dsimp only [go_sem]
       refine (odd_c neg (valW w) e st (by omega) (by omega) (by omega)).mono ?_
       rintro r st ⟨rfl, rfl⟩
       simp -dsimp only [go_sem]
       have hv : (digitsOf (oddV neg (valW w) e).m).length ≤ 1000000000000 := by
        have : (oddV neg (valW w) e).m ≤ valW w := by
         unfold oddV; split
         · exact Nat.zero_le _
         · exact Nat.div_le_self _ _
        have h1 := digitsOf_len (oddV neg (valW w) e).m
        have h2 := bitlen_mono this
        omega
       refine (vnum_c _ st hv).mono ?_
       rintro r st ⟨rfl, rfl⟩
       simp -dsimp only [go_sem]
       rw [makeN, if_neg h0, if_neg (by omega)]
   · have h1' := of_decide_eq_true h1
     simp -dsimp only [go_sem, h1]
     rw [bad (by omega)]; rfl
theorem num_c (neg : Bool) (w : List UInt64) (e : Int) (st : Store) (hw : w.length ≤ 1000000000) (he1 : -1000000000000 ≤ e) (he2 : e ≤ 1000000000000) : PCalls Tryz.prog 51 [.sc (.bool neg), .sl .no (encW w), .sc (.int .i64 e)] st (fun r st' => r = .agg (encN (makeN neg w e).1) ∧ st' = st) := by
 refine pcalls_enter none Tryz.func51 rfl fun E => pwp_of_vc ?_
 simp -dsimp only [go_sem]
 refine (make_c neg w e st hw he1 he2).mono ?_
 rintro r st ⟨rfl, rfl⟩
 simp -dsimp only [go_sem]
end Go.Pv
end

section
/- The deck: Of, Next, N, Yes. -/
set_option maxRecDepth 100000
namespace Go.Pv
open Go.Proofs
def dk (l : List UInt64) (i : Nat) : List PV := [.sl .no (encW l), .sc (.int .i64 i)]
def atD (st : Store) (k : Nat) (l : List UInt64) (i : Nat) : Prop := st.getD k [] = dk l i
theorem atD.lt {st : Store} {k : Nat} {l : List UInt64} {i : Nat} (h : atD st k l i) : k < st.length := by
 refine Nat.lt_of_not_le fun hn => ?_
 unfold atD at h
 rw [List.getD_eq_getElem?_getD, List.getElem?_eq_none hn] at h
 cases h
theorem atD.set {st : Store} {k : Nat} {l : List UInt64} {i : Nat} (h : atD st k l i) (j : Nat) : atD (st.set k (dk l j)) k l j := by
 unfold atD
 rw [getD_set_self _ _ _ _ h.lt]
theorem atD.same {st : Store} {k : Nat} {l : List UInt64} {i : Nat} (h : atD st k l i) : st.set k (dk l i) = st := by
 have hlt := h.lt
 unfold atD at h
 rw [← h, List.getD_eq_getElem?_getD, List.getElem?_eq_getElem hlt, Option.getD_some, List.set_getElem_self]
theorem set_dk (st : Store) (k : Nat) (l : List UInt64) (i j : Nat) : (st.set k (dk l i)).set k (dk l j) = st.set k (dk l j) := List.set_set ..
theorem deckOf_c (l : List UInt64) (st : Store) : PCalls Tryz.prog 12 [.sl .no (encW l)] st (fun r st' => r = .gp st.length 0 ∧ st' = st ++ [dk l 0]) := by
 refine pcalls_enter none Tryz.func12 rfl fun E => pwp_seq (pwp_of_vc ?_)
 simp -dsimp only [go_sem]
 refine pwp_seq (pwp_of_vc ?_)
 simp -dsimp only [go_sem]
 refine pwp_give 0 (by simp [go_sem]) (by simp) (pwp_of_vc ?_)
 simp -dsimp only [go_sem]
 rfl
theorem next_c (l : List UInt64) (i k : Nat) (st : Store) (h : atD st k l i) (hi : i ≤ 1000000000000) : PCalls Tryz.prog 52 [.gp k 0] st (fun r st' => r = .sc (.int .u64 (l.getD i 0).toNat) ∧ st' = st.set k (dk l (i + 1))) := by
 unfold atD dk at h
 refine pcalls_enter none Tryz.func52 rfl fun E => pwp_of_vc ?_
 simp -dsimp only [go_sem]
 refine pwp_draw mixed 32 (.step 0 [] (.step 1 [] (.step 2 [] (.step 3 [] (.step 4 [] (.step 5 [] (.step 6 [] (.step 7 [] (.step 8 [] (.step 9 [] (.done))))))))))) (by decide +kernel) (by simp) ?_
 simp -dsimp only [go_sem, h]
 have x1 : IntKind.i64.wrap ((i : Int) + 1) = ((i + 1 : Nat) : Int) := by
  rw [show ((i : Int) + 1) = ((i + 1 : Nat) : Int) from rfl, wrapn_i64 _ (by omega)]
 refine ck (fun h1 => ?_) (fun h1 => ?_)
 · have hlt : i < l.length := by have := of_decide_eq_true h1; omega
   have g1 := encW_get l i hlt
   simp -dsimp only [go_sem]
   refine pwp_draw mixed 32 (.step 0 [] (.step 1 [] (.step 2 [] (.step 3 [] (.step 4 [] (.step 5 [] (.step 6 [] (.step 7 [] (.step 8 [] (.step 9 [] (.step 10 [] (.done)))))))))))) (by decide +kernel) (by simp) ?_
   simp -dsimp only [go_sem, h, g1, x1]
   exact ⟨⟨by omega, hlt⟩, rfl⟩
 · have hge : l.length ≤ i := by have := of_decide_eq_false h1; omega
   simp -dsimp only [go_sem, h, x1]
   rw [getD_ge _ _ _ hge]
   exact ⟨rfl, rfl⟩
def nx (l : List UInt64) (i n : Nat) : Nat := (l.getD i 0).toNat % n
theorem nx_lt (l : List UInt64) (i : Nat) {n : Nat} (h : 0 < n) : nx l i n < n := Nat.mod_lt _ h
theorem deckN_c (l : List UInt64) (i k n : Nat) (st : Store) (h : atD st k l i) (hi : i ≤ 1000000000000) (hn : 0 < n) (hn2 : n ≤ 1000000000000) : PCalls Tryz.prog 19 [.gp k 0, .sc (.int .i64 n)] st (fun r st' => r = .sc (.int .i64 (nx l i n)) ∧ st' = st.set k (dk l (i + 1))) := by
 refine pcalls_enter none Tryz.func19 rfl fun E => pwp_of_vc ?_
 simp -dsimp only [go_sem]
 refine (next_c l i k st h hi).mono ?_
 rintro r st ⟨rfl, rfl⟩
 have hm : (l.getD i 0).toNat % n < n := Nat.mod_lt _ hn
 have hv := (l.getD i 0).toNat_lt
 have w1 : IntKind.u64.wrap (n : Int) = (n : Int) := wrap_u64 _ (by omega)
 have w2 : ((l.getD i 0).toNat : Int).tmod (n : Int) = (nx l i n : Int) := tmod_nat _ _
 have w3 : IntKind.i64.wrap (nx l i n : Int) = (nx l i n : Int) := wrapn_i64 _ (by unfold nx; omega)
 have w4 : ((n : Int) == 0) = false := by simp; omega
 simp -dsimp only [go_sem, w1, w2, w3, w4]
 simp; omega
theorem yes_c (l : List UInt64) (i k n : Nat) (st : Store) (h : atD st k l i) (hi : i ≤ 1000000000000) (hn : 0 < n) (hn2 : n ≤ 1000000000000) : PCalls Tryz.prog 20 [.gp k 0, .sc (.int .i64 n)] st (fun r st' => r = .sc (.bool (decide (nx l i n = n - 1))) ∧ st' = st.set k (dk l (i + 1))) := by
 refine pcalls_enter none Tryz.func20 rfl fun E => pwp_of_vc ?_
 simp -dsimp only [go_sem]
 refine (deckN_c l i k n st h hi hn hn2).mono ?_
 rintro r st ⟨rfl, rfl⟩
 have w1 : IntKind.i64.wrap ((n : Int) - 1) = ((n - 1 : Nat) : Int) := by rw [wrap_i64 _ (by omega) (by omega)]; omega
 simp -dsimp only [go_sem, w1]
 congr 2
 rw [Bool.eq_iff_iff]; simp; omega
end Go.Pv
end

section
/- Numbers, intervals, boxes, times out of the deck. -/
set_option maxRecDepth 100000
namespace Go.Pv
open Go.Proofs
theorem point_c (x : Nm) (st : Store) : PCalls Tryz.prog 78 [.agg (encN x)] st (fun r st' => r = .agg (encI ⟨x, x⟩) ∧ st' = st) := by
 refine pcalls_enter none Tryz.func78 rfl fun E => pwp_of_vc ?_
 simp -dsimp only [go_sem]
theorem between_c (a b : Nm) (st : Store) (ha : wN a) (hb : wN b) : PCalls Tryz.prog 80 [.agg (encN a), .agg (encN b)] st (fun r st' => r = .agg (encI (betw a b)) ∧ st' = st) := by
 unfold wN at ha hb
 refine pcalls_enter none Tryz.func80 rfl fun E => pwp_of_vc ?_
 simp -dsimp only [go_sem]
 refine (cmpNum_c a b st (by omega) (by omega)).mono ?_
 rintro r st ⟨rfl, rfl⟩
 simp -dsimp only [go_sem]
 refine ck (fun h => ?_) (fun h => ?_)
 · have h1 := of_decide_eq_true h
   simp -dsimp only [go_sem]
   rw [betw, if_pos h1]
 · have h1 := of_decide_eq_false h
   simp -dsimp only [go_sem]
   rw [betw, if_neg h1]
theorem time_c (l : List UInt64) (i k : Nat) (st : Store) (h : atD st k l i) (hi : i ≤ 900000000000) : PCalls Tryz.prog 18 [.gp k 0] st (fun r st' => ∃ q, 0 < q ∧ q ≤ 64 ∧ r = .agg (encN (tq q)) ∧ st' = st.set k (dk l (i + 2))) := by
 refine pcalls_enter none Tryz.func18 rfl fun E => pwp_of_vc ?_
 simp -dsimp only [go_sem]
 refine (next_c l i k st h (by omega)).mono ?_
 rintro r st' ⟨rfl, rfl⟩
 have hv := (l.getD i 0).toNat_lt
 obtain ⟨v, hve⟩ : ∃ v, v = (l.getD i 0).toNat := ⟨_, rfl⟩
 rw [← hve] at hv
 have hc : v &&& 7 ≤ 7 := Nat.and_le_right
 have s1 : IntKind.u64.wrap (1 + bAnd .u64 (v : Int) 7) = ((UInt64.ofNat (1 + (v &&& 7))).toNat : Int) := by
  rw [show (7 : Int) = ((7 : Nat) : Int) from rfl, bAnd_u64 _ _ (by omega) (by omega), u64_ofNat _ (by omega), show (1 : Int) + ((v &&& 7 : Nat) : Int) = ((1 + (v &&& 7) : Nat) : Int) from by omega, wrap_u64 _ (by omega)]
 have h1 := h.set (i + 1)
 simp -dsimp only [go_sem, ← hve, s1]
 refine (deckN_c l (i + 1) k 4 _ h1 (by omega) (by omega) (by omega)).mono ?_
 rintro r st' ⟨rfl, rfl⟩
 have hj := nx_lt l (i + 1) (n := 4) (by omega)
 have s2 : IntKind.i64.wrap (IntKind.i64.wrap (nx l (i + 1) 4 : Int) - 3) = (nx l (i + 1) 4 : Int) - 3 := by
  rw [wrapn_i64 _ (by omega), wrap_i64 _ (by omega) (by omega)]
 have s3 : IntKind.i64.wrap ((nx l (i + 1) 4 : Int) - 3) = (nx l (i + 1) 4 : Int) - 3 := by
  rw [wrap_i64 _ (by omega) (by omega)]
 simp -dsimp only [go_sem, s2, s3, set_dk]
 have he := make_tq (1 + (v &&& 7)) (nx l (i + 1) 4) (by omega) hj (by omega)
 refine (num_c false [UInt64.ofNat (1 + (v &&& 7))] ((nx l (i + 1) 4 : Int) - 3) _ (by simp) (by omega) (by omega)).mono ?_
 rintro r st' ⟨rfl, rfl⟩
 simp -dsimp only [go_sem]
 rw [he]
 have hp : 2 ^ nx l (i + 1) 4 ≤ 8 := Nat.pow_le_pow_right (by decide) (by omega : nx l (i + 1) 4 ≤ 3)
 have hp0 : 0 < 2 ^ nx l (i + 1) 4 := Nat.pow_pos (by decide)
 have hle := Nat.mul_le_mul (by omega : 1 + (v &&& 7) ≤ 8) hp
 exact ⟨_, Nat.mul_pos (by omega) hp0, hle, rfl⟩
end Go.Pv
end
