/- Parts of the walk: N27, N28. -/
import Derived.Test.YtcfgdppnoephnaaGreatDoorZM
import Derived.Test.YtcfgdppnoephnaaGreatDoorZAL
import Derived.Test.YtcfgdppnoephnaaGreatDoorZAI
set_option linter.unusedVariables false
set_option linter.unusedSimpArgs false
section
/- Small numbers, intervals, boxes out of the deck, once more: how small they are. -/
set_option linter.unusedVariables false
set_option linter.unusedSimpArgs false
set_option maxRecDepth 100000
namespace Go.Pv
open Go.Proofs
theorem smallS_c (l : List UInt64) (i k : Nat) (st : Store) (h : atD st k l i) (hi : i ≤ 1000000000000) : PCalls Tryz.prog 71 [.gp k 0] st (fun r st' => ∃ x, smN x ∧ r = .agg (encN x) ∧ st' = st.set k (dk l (i + 1))) := by
  refine pcalls_enter none Tryz.func71 rfl fun E => pwp_of_vc ?_
  simp -dsimp only [go_sem]
  refine (next_c l i k st h hi).mono ?_
  rintro r st ⟨rfl, rfl⟩
  have hv := (l.getD i 0).toNat_lt
  obtain ⟨v, hve⟩ : ∃ v, v = (l.getD i 0).toNat := ⟨_, rfl⟩
  rw [← hve] at hv
  have s1 : bAnd .u64 (bShr .u64 (v : Int) 1) 63 = ((UInt64.ofNat (v / 2 &&& 63)).toNat : Int) := by
    rw [show (1 : Int) = ((1 : Nat) : Int) from rfl, bShr_u64 _ _ (by omega), show (63 : Int) = ((63 : Nat) : Int) from rfl, bAnd_u64 _ _ (by omega) (by omega), u64_ofNat _ (Nat.lt_of_le_of_lt Nat.and_le_right (by omega))]
  have s2 : IntKind.i64.wrap (IntKind.i64.wrap ((bShr .u64 (v : Int) 7).tmod 9) - 6) = ((v / 128 % 9 : Nat) : Int) - 6 := by
    rw [show (7 : Int) = ((7 : Nat) : Int) from rfl, bShr_u64 _ _ (by omega), show (9 : Int) = ((9 : Nat) : Int) from rfl, tmod_nat, wrapn_i64 _ (by omega), wrap_i64 _ (by omega) (by omega)]
  simp -dsimp only [go_sem, ← hve, s1, s2]
  refine (num_c _ [UInt64.ofNat (v / 2 &&& 63)] _ _ (by simp) (by omega) (by omega)).mono ?_
  rintro r st' ⟨rfl, rfl⟩
  simp -dsimp only [go_sem]
  refine ⟨_, smN_make ?_ (by omega) (by omega), rfl⟩
  have e : valW [UInt64.ofNat (v / 2 &&& 63)] = v / 2 &&& 63 := by
    show (UInt64.ofNat (v / 2 &&& 63)).toNat + 18446744073709551616 * 0 = _
    rw [u64_ofNat _ (Nat.lt_of_le_of_lt Nat.and_le_right (by omega))]
    omega
  rw [e, bitlen_le_iff]
  exact Nat.lt_of_le_of_lt Nat.and_le_right (by decide)
theorem smallIvS_c (l : List UInt64) (i k : Nat) (st : Store) (h : atD st k l i) (hi : i ≤ 900000000000) : PCalls Tryz.prog 27 [.gp k 0] st (fun r st' => ∃ x j, smI x ∧ i ≤ j ∧ j ≤ i + 3 ∧ r = .agg (encI x) ∧ st' = st.set k (dk l j)) := by
  refine pcalls_enter none Tryz.func27 rfl fun E => pwp_of_vc ?_
  simp -dsimp only [go_sem]
  refine (yes_c l i k 3 st h (by omega) (by omega) (by omega)).mono ?_
  rintro r st' ⟨rfl, rfl⟩
  have h1 := h.set (i + 1)
  have h2 := h.set (i + 2)
  simp -dsimp only [go_sem]
  refine ck (fun hy => ?_) (fun hy => ?_)
  · simp -dsimp only [go_sem]
    refine (smallS_c l (i + 1) k _ h1 (by omega)).mono ?_
    rintro r st' ⟨x, hx, rfl, rfl⟩
    simp -dsimp only [go_sem, set_dk]
    refine (point_c x _).mono ?_
    rintro r st' ⟨rfl, rfl⟩
    simp -dsimp only [go_sem]
    exact ⟨⟨x, x⟩, i + 2, smI_point hx, by omega, by omega, rfl, rfl⟩
  · simp -dsimp only [go_sem]
    refine (smallS_c l (i + 1) k _ h1 (by omega)).mono ?_
    rintro r st' ⟨x, hx, rfl, rfl⟩
    simp -dsimp only [go_sem, set_dk]
    refine (smallS_c l (i + 2) k _ h2 (by omega)).mono ?_
    rintro r st' ⟨y, hy, rfl, rfl⟩
    simp -dsimp only [go_sem, set_dk]
    refine (between_c x y _ (rightN_wN hx.1) (rightN_wN hy.1)).mono ?_
    rintro r st' ⟨rfl, rfl⟩
    simp -dsimp only [go_sem]
    exact ⟨betw x y, i + 3, smI_betw hx hy, by omega, by omega, rfl, rfl⟩
theorem smallBoxS_c (l : List UInt64) (i k n : Nat) (st : Store) (h : atD st k l i) (hi : i ≤ 800000000000) (hn : n ≤ 1000000) : PCalls Tryz.prog 19 [.gp k 0, .sc (.int .i64 n)] st (fun r st' => ∃ b j, b.length = n ∧ (∀ m, m < b.length → smI (b.getD m default)) ∧ i ≤ j ∧ j ≤ i + 3 * n ∧ r = .sl .no (encIs b) ∧ st' = st.set k (dk l j)) := by
  refine pcalls_enter none Tryz.func19 rfl fun E => pwp_of_vc ?_
  simp -dsimp only [go_sem]
  refine pwp_claim 5 6 ?_
  simp -dsimp only [go_sem]
  refine pwp_loop_mask [true, true, false, false, false, true, true] 0 1 (fun m s => ∃ b j, m = n - b.length ∧ b.length ≤ n ∧ (∀ m, m < b.length → smI (b.getD m default)) ∧ i ≤ j ∧ j ≤ i + 3 * b.length ∧
    s = ⟨[.gp k 0, .sc (.int .i64 n), .junk, .junk, .junk, .sl (.own 0) (encIs b), .sc (.int .i64 b.length)] ++ List.replicate 11 .junk, [], [(b.length, 6)], st.set k (dk l j)⟩) n ?_ ?_
  · simp -dsimp only [go_sem]
    refine ⟨[], i, by simp, by simp, fun m hm => by simp at hm, by omega, by omega, ?_⟩
    rw [h.same]; rfl
  · rintro m s ⟨b, j, rfl, hb, hr, hj, hj2, rfl⟩
    simp -dsimp only [go_sem]
    refine ck (fun h1 => ?_) (fun h1 => ?_)
    · have hlt : b.length < n := by have := of_decide_eq_true h1; omega
      have x1 : IntKind.i64.wrap ((b.length : Int) + 1) = ((b.length + 1 : Nat) : Int) := by
        rw [show ((b.length : Int) + 1) = ((b.length + 1 : Nat) : Int) from rfl, wrapn_i64 _ (by omega)]
      simp -dsimp only [go_sem]
      refine (smallIvS_c l j k _ (h.set j) (by omega)).mono ?_
      rintro r st' ⟨x, j', hx, hj3, hj4, rfl, rfl⟩
      simp -dsimp only [go_sem, set_dk, x1]
      refine ⟨by omega, n - (b.length + 1), by omega, b ++ [x], j', by simp, by simp; omega, fun m hm => ?_, by omega, by simp; omega, by simp [encIs, encI]⟩
      by_cases hm2 : m < b.length
      · rw [snocD _ _ _ _ hm2]; exact hr m hm2
      · have e : m = b.length := by simp at hm; omega
        rw [e, snocD']; exact hx
    · have hge : b.length = n := by have := of_decide_eq_false h1; omega
      simp -dsimp only [go_sem]
      refine pwp_plain [false, false, false, false, false, true] (pwp_of_vc ?_)
      simp -dsimp only [go_sem]
      exact ⟨b, j, hge, hr, hj, by omega, rfl, rfl⟩
end Go.Pv
end

section
/- The law BoxHolds. -/
set_option linter.unusedVariables false
set_option linter.unusedSimpArgs false
set_option maxRecDepth 100000
namespace Go.Pv
open Go.Proofs
/-- A list of small intervals. -/
def smB (b : List Ivl) : Prop := 1 ≤ b.length ∧ b.length ≤ 4 ∧ ∀ i, i < b.length → smI (b.getD i default)
theorem smB.right {b : List Ivl} (h : smB b) : rightB b = true := rightB_mk (fun i hi => (h.2.2 i hi).1) h.1 h.2.1
theorem getD_rmap {β : Type} [Inhabited β] (f : Nat → β) (n i : Nat) (h : i < n) : ((List.range n).map f).getD i default = f i := by
  simp [List.getD_eq_getElem?_getD, h]
theorem opB_sm (k : Nat) {a b : List Ivl} {p : Int} (ha : smB a) (hb : smB b) (hl : a.length = b.length) (hp : precF p = true) :
    ∃ S, opB k a b p = (S, 0) ∧ S.length = a.length ∧ ∀ i, i < a.length → S.getD i default = (opI k (a.getD i default) (b.getD i default) p).1 ∧ (opI k (a.getD i default) (b.getD i default) p).2 = 0 := by
  have ho : ∀ j, j < a.length → (opI k (a.getD j default) (b.getD j default) p).2 = 0 := fun j hj => opI_sm k (ha.2.2 j hj) (hb.2.2 j (by omega)) hp
  unfold opB
  rw [if_pos ⟨ha.right, hb.right, hl, hp⟩, eachF_ok _ a 0 [] (fun j hj => by rw [Nat.zero_add]; exact ho j hj)]
  refine ⟨_, rfl, by simp, fun i hi => ⟨?_, ho i hi⟩⟩
  rw [List.nil_append, getD_rmap _ _ _ hi, Nat.zero_add]
theorem timesB_sm {x : Ivl} {b : List Ivl} {p : Int} (hx : smI x) (hb : smB b) (hp : precF p = true) :
    ∃ S, timesB x b p = (S, 0) ∧ S.length = b.length ∧ ∀ i, i < b.length → S.getD i default = (opI 2 x (b.getD i default) p).1 ∧ (opI 2 x (b.getD i default) p).2 = 0 := by
  have ho : ∀ j, j < b.length → (opI 2 x (b.getD j default) p).2 = 0 := fun j hj => opI_sm 2 hx (hb.2.2 j hj) hp
  unfold timesB
  rw [if_pos ⟨hb.right, hx.1, hp⟩, eachF_ok _ b 0 [] (fun j hj => ho j hj)]
  refine ⟨_, rfl, by simp, fun i hi => ⟨?_, ho i hi⟩⟩
  rw [List.nil_append, getD_rmap _ _ _ hi]
theorem blowB_sm {b : List Ivl} {p : Int} (hb : smB b) (hp : precF p = true) : ∃ S, blowB b p = (S, 0) ∧ wB S ∧ inB b S = true := by
  have ho : ∀ j, j < b.length → (blowI (b.getD j default) p).2 = 0 := fun j hj => (blowI_sm (hb.2.2 j hj) hp).1
  have hS : ∃ S, blowB b p = (S, 0) ∧ S.length = b.length ∧ ∀ i, i < b.length → S.getD i default = (blowI (b.getD i default) p).1 := by
    unfold blowB
    rw [if_pos ⟨hb.right, hp⟩, eachF_ok _ b 0 [] (fun j hj => ho j hj)]
    refine ⟨_, rfl, by simp, fun i hi => ?_⟩
    rw [List.nil_append, getD_rmap _ _ _ hi]
  obtain ⟨S, h1, h2, h3⟩ := hS
  have hin : ∀ i, i < b.length → inI (b.getD i default) (S.getD i default) = true := fun i hi => by rw [h3 i hi]; exact (blowI_sm (hb.2.2 i hi) hp).2
  have hr : rightB S = true := rightB_mk (fun i hi => by
    have := hin i (by omega)
    unfold inI at this
    simp only [Bool.and_eq_true] at this
    exact this.1.1.2) (by have := hb.1; omega) (by have := hb.2.1; omega)
  refine ⟨S, h1, rightB_wB hr, ?_⟩
  unfold inB allF
  rw [hb.right, hr, h2]
  simp only [Bool.true_and, decide_true, List.all_eq_true]
  intro i hi
  exact hin i (by simpa using hi)
theorem precF_nat' {p : Nat} (h1 : 8 ≤ p) (h2 : p ≤ 256) : precF (p : Int) = true := by
  unfold precF
  simp only [Bool.and_eq_true, decide_eq_true_eq]
  omega
theorem pt_sm {a : Ivl} {n : Nat} (ha : smI a) (hn : n ≤ 8) : rightN (inN a n) = true ∧ memI (qN (inN a n)) a ∧ bdV 43 62 (ofN (inN a n)) := ⟨inN_right n ha.1, inN_mem ha.1 hn, inN_bd ha.1 ha.2.1 ha.2.2 hn⟩
theorem has_sm (k : Nat) {a b : Ivl} {p : Int} {x y : Nm} {S : Ivl} (hS : S = (opI k a b p).1 ∧ (opI k a b p).2 = 0) (hx : rightN x = true ∧ memI (qN x) a ∧ bdV 43 62 (ofN x)) (hy : rightN y = true ∧ memI (qN y) b ∧ bdV 43 62 (ofN y)) :
    (strN k x y).2 = 0 ∧ wN (strN k x y).1 ∧ wI S ∧ hasI S (strN k x y).1 = true := by
  obtain ⟨h1, h2, h3⟩ := strN_ok (k := k) hx.1 hy.1 hx.2.2 hy.2.2 (by omega) (by omega)
  refine ⟨h1, sm_wN (rightN_sm h2), ?_, ?_⟩
  · rw [hS.1]; exact wI_right (opI_right k a b p)
  · rw [hS.1]; exact has_op k hS.2 hx.2.1 hy.2.1 h2 h3
set_option maxHeartbeats 4000000 in
theorem boxHolds_c (l : List UInt64) : PCalls Tryz.prog 4 [.sl .no (encW l)] [] (fun r st' => r = .sc (.bool true)) := by
  refine pcalls_enter none Tryz.func4 rfl fun E => pwp_of_vc ?_
  simp -dsimp only [go_sem]
  refine (known6_c _).mono ?_
  rintro r st ⟨rfl, rfl⟩
  simp -dsimp only [go_sem]
  refine (deckOf_c l _).mono ?_
  rintro r st ⟨rfl, rfl⟩
  simp -dsimp only [go_sem]
  refine (dim_c l 0 0 [dk l 0] rfl (by omega)).mono ?_
  rintro r st ⟨n, hn1, hn2, rfl, rfl⟩
  simp -dsimp only [go_sem]
  refine (smallBoxS_c l 1 0 n [dk l 1] rfl (by omega) (by omega)).mono ?_
  rintro r st ⟨a, j1, hla, ha0, hj1, hj2, rfl, rfl⟩
  simp -dsimp only [go_sem]
  refine (smallBoxS_c l j1 0 n [dk l j1] rfl (by omega) (by omega)).mono ?_
  rintro r st ⟨b, j2, hlb, hb0, hj3, hj4, rfl, rfl⟩
  simp -dsimp only [go_sem]
  refine (smallIvS_c l j2 0 [dk l j2] rfl (by omega)).mono ?_
  rintro r st ⟨x, j3, hx, hj5, hj6, rfl, rfl⟩
  simp -dsimp only [go_sem]
  refine (prec_c l j3 0 [dk l j3] rfl (by omega)).mono ?_
  rintro r st ⟨p, j4, hp1, hp2, hj7, hj8, rfl, rfl⟩
  have ha : smB a := ⟨by omega, by omega, ha0⟩
  have hb : smB b := ⟨by omega, by omega, hb0⟩
  have wa := rightB_wB ha.right
  have wb := rightB_wB hb.right
  have wx := wI_right hx.1
  have hp := precF_nat' hp1 hp2
  obtain ⟨S, hS, hSl, hSi⟩ := opB_sm 0 ha hb (by omega) hp
  obtain ⟨T, hT, hTl, hTi⟩ := opB_sm 1 ha hb (by omega) hp
  obtain ⟨U, hU, hUl, hUi⟩ := timesB_sm hx ha hp
  obtain ⟨Z, hZ, wZ, hZi⟩ := blowB_sm ha hp
  simp -dsimp only [go_sem]
  refine (boxAdd_c a b p _ wa wb).mono ?_
  rintro r st ⟨rfl, rfl⟩
  rw [hS]
  simp -dsimp only [go_sem]
  refine (boxSub_c a b p _ wa wb).mono ?_
  rintro r st ⟨rfl, rfl⟩
  rw [hT]
  simp -dsimp only [go_sem]
  refine (boxTimes_c x a p _ wx wa).mono ?_
  rintro r st ⟨rfl, rfl⟩
  rw [hU]
  simp -dsimp only [go_sem]
  refine (boxBlow_c a p _ wa).mono ?_
  rintro r st ⟨rfl, rfl⟩
  rw [hZ]
  have z0 : (!((0 : Int) == 0)) = false := rfl
  have z1 : ((S.length : Int) != (n : Int)) = false := by rw [hSl, hla]; simp
  have z2 : ((T.length : Int) != (n : Int)) = false := by rw [hTl, hla]; simp
  have z3 : ((U.length : Int) != (n : Int)) = false := by rw [hUl, hla]; simp
  simp -dsimp only [go_sem, z0, z1, z2, z3]
  refine (boxIn_c a Z _ wa wZ).mono ?_
  rintro r st ⟨rfl, rfl⟩
  rw [hZi]
  simp -dsimp only [go_sem]
  refine pwp_late mixed 192 [0, 1, 2, 3, 4, 5, 6, 7, 8] [9] [10, 11, 12] (.step 0 [] (.step 1 [] (.step 3 [] (.step 4 [] (.step 6 [] (.step 7 [] (.step 2 [7] (.step 5 [7] (.step 8 [] (.done)))))))))) (.step 10 [] (.step 11 [] (.step 12 [] (.done)))) (by decide +kernel) (by simp) ?_
  simp -dsimp only [go_sem]
  refine (inBoxD_c l j4 0 a [dk l j4] rfl (by omega) (by omega) (rightB_all ha.right)).mono ?_
  rintro r st ⟨v, hv1, hv2, rfl, rfl⟩
  simp -dsimp only [go_sem]
  refine (inBoxD_c l (j4 + a.length) 0 b [dk l (j4 + a.length)] rfl (by omega) (by omega) (rightB_all hb.right)).mono ?_
  rintro r st ⟨w, hw1, hw2, rfl, rfl⟩
  simp -dsimp only [go_sem]
  refine (deckIn_c l (j4 + a.length + b.length) 0 x [dk l (j4 + a.length + b.length)] rfl (by omega) hx.1).mono ?_
  rintro r st ⟨rfl, rfl⟩
  have hk9 := nx_lt l (j4 + a.length + b.length) (n := 9) (by omega)
  generalize nx l (j4 + a.length + b.length) 9 = kk at *
  simp -dsimp only [go_sem]
  have hy := pt_sm hx (show kk ≤ 8 by omega)
  generalize inN x kk = y at *
  generalize [dk l (j4 + a.length + b.length + 1)] = st
  refine pwp_loop_mask [false, false, false, false, true, false, false, false, false, true, false, true, false, true, false, false, false, true, true, true, true] 2 0 (fun m s => ∃ i, m = n - i ∧ i ≤ n ∧
    s = ⟨[.junk, .junk, .junk, .junk, .sc (.int .i64 n), .junk, .junk, .junk, .junk, .sl .no (encIs S), .junk, .sl .no (encIs T), .junk, .sl .no (encIs U), .junk, .junk, .junk, .sl .no (encNs v), .sl .no (encNs w), .lp 1 0, .sc (.int .i64 i)] ++ List.replicate 171 .junk, [encI x, encN y], [], st⟩) n ?_ ?_
  · simp -dsimp only [go_sem]
    exact ⟨0, by omega, by omega, rfl⟩
  · rintro m s ⟨i, rfl, hi, rfl⟩
    simp -dsimp only [go_sem]
    refine ck (fun h1 => ?_) (fun h1 => ?_)
    · have hlt : i < n := by have := of_decide_eq_true h1; omega
      have e1 := encNs_get v i (by omega)
      have e2 := encNs_get w i (by omega)
      have e3 := succW i (by omega)
      have e4 := encIs_get S i (by omega)
      have e5 := encIs_get T i (by omega)
      have e6 := encIs_get U i (by omega)
      have hv : rightN (v.getD i default) = true ∧ memI (qN (v.getD i default)) (a.getD i default) ∧ bdV 43 62 (ofN (v.getD i default)) := by
        obtain ⟨q, hq, e⟩ := hv2 i (by omega)
        rw [e]; exact pt_sm (ha0 i (by omega)) hq
      have hw : rightN (w.getD i default) = true ∧ memI (qN (w.getD i default)) (b.getD i default) ∧ bdV 43 62 (ofN (w.getD i default)) := by
        obtain ⟨q, hq, e⟩ := hw2 i (by omega)
        rw [e]; exact pt_sm (hb0 i (by omega)) hq
      have wv : wN (v.getD i default) := sm_wN (rightN_sm hv.1)
      have ww : wN (w.getD i default) := sm_wN (rightN_sm hw.1)
      have wy : wN y := sm_wN (rightN_sm hy.1)
      obtain ⟨s1, s2, s3, s4⟩ := has_sm 0 (hSi i (by omega)) hv hw
      obtain ⟨t1, t2, t3, t4⟩ := has_sm 1 (hTi i (by omega)) hv hw
      obtain ⟨u1, u2, u3, u4⟩ := has_sm 2 (hUi i (by omega)) hy hv
      simp -dsimp only [go_sem]
      refine pwp_draw mixed 192 (.step 0 [] (.step 1 [] (.step 2 [] (.step 3 [] (.step 4 [] (.step 5 [] (.step 6 [] (.step 7 [] (.alt (.step 8 [] (.step 9 [] (.step 10 [] (.step 11 [] (.step 12 [3, 7] (.step 13 [] (.step 14 [] (.done)))))))) (.step 12 [3, 7] (.step 8 [] (.step 9 [] (.step 10 [] (.step 11 [] (.step 13 [] (.step 14 [] (.done))))))))))))))))) (by decide +kernel) (by simp) ?_
      simp -dsimp only [go_sem, e1, e2]
      refine ⟨⟨by omega, by omega⟩, ⟨by omega, by omega⟩, ?_, ?_⟩
      all_goals
        refine (numAdd_c _ _ _ wv ww).mono ?_
        rintro r st ⟨rfl, rfl⟩
        rw [s1]
        simp -dsimp only [go_sem]
        refine pwp_draw mixed 192 (.step 0 [] (.step 1 [] (.step 2 [] (.step 3 [] (.step 4 [] (.step 5 [] (.step 6 [] (.step 7 [] (.alt (.step 8 [] (.step 9 [] (.step 10 [] (.step 11 [] (.step 12 [3, 7] (.step 13 [] (.step 14 [] (.done)))))))) (.step 12 [3, 7] (.step 8 [] (.step 9 [] (.step 10 [] (.step 11 [] (.step 13 [] (.step 14 [] (.done))))))))))))))))) (by decide +kernel) (by simp) ?_
        simp -dsimp only [go_sem, e1, e2]
        refine ⟨⟨by omega, by omega⟩, ⟨by omega, by omega⟩, ?_, ?_⟩
        all_goals
          refine (numSub_c _ _ _ wv ww).mono ?_
          rintro r st ⟨rfl, rfl⟩
          rw [t1]
          simp -dsimp only [go_sem]
          refine pwp_draw mixed 192 (.step 0 [] (.step 1 [] (.step 2 [] (.step 3 [] (.step 4 [] (.alt (.step 5 [] (.step 6 [] (.step 7 [] (.step 8 [] (.step 9 [0, 4] (.step 10 [] (.step 11 [] (.done)))))))) (.step 9 [0, 4] (.step 5 [] (.step 6 [] (.step 7 [] (.step 8 [] (.step 10 [] (.step 11 [] (.done)))))))))))))) (by decide +kernel) (by simp) ?_
          simp -dsimp only [go_sem, e1, e2]
          refine ⟨⟨by omega, by omega⟩, ?_, ?_⟩
          all_goals
            refine (numMul_c _ _ _ wy wv).mono ?_
            rintro r st ⟨rfl, rfl⟩
            rw [u1]
            simp -dsimp only [go_sem]
            refine pwp_draw mixed 192 (.step 0 [] (.step 1 [] (.step 2 [] (.step 3 [] (.step 4 [] (.step 5 [] (.step 6 [] (.step 7 [] (.step 8 [] (.step 9 [] (.step 10 [] (.step 11 [] (.step 12 [] (.step 13 [] (.step 14 [] (.step 15 [] (.step 16 [] (.step 17 [] (.step 18 [] (.step 19 [] (.step 20 [] (.step 21 [] (.step 22 [] (.step 23 [] (.step 24 [] (.step 25 [] (.step 26 [] (.step 27 [] (.step 28 [] (.step 29 [] (.step 30 [] (.step 31 [] (.step 32 [] (.step 33 [] (.step 34 [14, 15] (.step 35 [] (.step 36 [] (.done)))))))))))))))))))))))))))))))))))))) (by decide +kernel) (by simp) ?_
            simp -dsimp only [go_sem, z0, e4, e5, e6]
            refine ⟨⟨by omega, by omega⟩, ?_⟩
            refine (ivHas_c _ _ _ s3 s2).mono ?_
            rintro r st ⟨rfl, rfl⟩
            rw [s4]
            simp -dsimp only [go_sem, e4, e5, e6]
            refine ⟨⟨by omega, by omega⟩, ?_⟩
            refine (ivHas_c _ _ _ t3 t2).mono ?_
            rintro r st ⟨rfl, rfl⟩
            rw [t4]
            simp -dsimp only [go_sem, e4, e5, e6]
            refine ⟨⟨by omega, by omega⟩, ?_⟩
            refine (ivHas_c _ _ _ u3 u2).mono ?_
            rintro r st ⟨rfl, rfl⟩
            rw [u4]
            simp -dsimp only [go_sem, e3]
            exact ⟨n - (i + 1), by omega, i + 1, rfl, by omega, rfl⟩
    · simp -dsimp only [go_sem]
      refine pwp_of_vc ?_
      simp -dsimp only [go_sem]
end Go.Pv
end
