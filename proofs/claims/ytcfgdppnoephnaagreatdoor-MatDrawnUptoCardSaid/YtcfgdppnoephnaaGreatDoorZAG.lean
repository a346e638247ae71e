/- Parts of the walk: N19, N20. -/
import Derived.Test.YtcfgdppnoephnaaGreatDoorZAF
import Derived.Test.YtcfgdppnoephnaaGreatDoorZI
import Derived.Test.YtcfgdppnoephnaaGreatDoorZM
set_option linter.unusedVariables false
set_option linter.unusedSimpArgs false
section
/- The document's bad, Reckon, Scale, Has, In. -/
set_option linter.unusedVariables false
set_option linter.unusedSimpArgs false
set_option maxRecDepth 100000
namespace Go.Pv
open Go.Proofs
theorem bad_c (p : Int) (l : List Nm) (st : Store) (hl : l.length ≤ 1000000) (hw : ∀ i, i < l.length → wN (l.getD i default)) : PCalls Tryz.prog 260 [.sc (.int .i64 p), .sl .no (encNs l)] st (fun r st' => r = .sc (.bool (!(l.all rightN && precF p))) ∧ st' = st) := by
  refine pcalls_enter none Tryz.func260 rfl fun E => pwp_of_vc ?_
  simp -dsimp only [go_sem]
  refine pwp_loop_mask [true, true, false, false, false, true] 0 0 (fun n s => ∃ i, n = l.length - i ∧ i ≤ l.length ∧ (∀ j, j < i → rightN (l.getD j default) = true) ∧ s = ⟨[.sc (.int .i64 p), .sl .no (encNs l), .junk, .junk, .junk, .sc (.int .i64 (i : Nat))] ++ List.replicate 18 .junk, [], [], st⟩) l.length ?_ ?_
  · simp -dsimp only [go_sem]
    exact ⟨0, by omega, by omega, fun j hj => by omega, rfl⟩
  · rintro n s ⟨i, rfl, hi, hr, rfl⟩
    simp -dsimp only [go_sem]
    refine ck (fun h => ?_) (fun h => ?_)
    · have hlt : i < l.length := by have := of_decide_eq_true h; omega
      have e1 := encNs_get l i hlt
      have e3 : IntKind.i64.wrap ((i : Int) + 1) = ((i + 1 : Nat) : Int) := by rw [wrap_i64 _ (by omega) (by omega)]; omega
      have w := hw i hlt
      simp -dsimp only [go_sem, e1]
      refine ⟨⟨by omega, hlt⟩, ?_⟩
      refine (refRight_c _ _ (by unfold wN at w; omega)).mono ?_
      rintro r st ⟨rfl, rfl⟩
      simp -dsimp only [go_sem]
      refine ck (fun h => ?_) (fun h => ?_)
      · have hf : rightN (l.getD i default) = false := by simpa using h
        have ha : l.all rightN = false := by
          cases hb : l.all rightN with
          | false => rfl
          | true => rw [(all_of_getD default rightN l).1 hb i hlt] at hf; cases hf
        simp -dsimp only [go_sem]
        rw [ha]; rfl
      · have ht : rightN (l.getD i default) = true := by simpa using h
        simp -dsimp only [go_sem, e3]
        refine ⟨l.length - (i + 1), by omega, i + 1, rfl, by omega, fun j hj => ?_, rfl⟩
        by_cases e : j = i
        · subst e; exact ht
        · exact hr j (by omega)
    · have hge : i = l.length := by have := of_decide_eq_false h; omega
      have ha : l.all rightN = true := (all_of_getD default rightN l).2 fun j hj => hr j (by omega)
      rw [ha]
      simp -dsimp only [go_sem]
      refine pwp_of_vc ?_
      unfold precF
      by_cases c1 : p < 8
      · have f1 : decide (p < 8) = true := decide_eq_true c1
        have f2 : decide (8 ≤ p) = false := decide_eq_false (by omega)
        simp -dsimp only [go_sem, f1, f2]
        try rfl
      · have f1 : decide (p < 8) = false := decide_eq_false c1
        have f2 : decide (8 ≤ p) = true := decide_eq_true (by omega)
        have f3 : decide (p > 256) = !decide (p ≤ 256) := by
          by_cases c : p ≤ 256
          · rw [decide_eq_true c, decide_eq_false (by omega)]; rfl
          · rw [decide_eq_false c, decide_eq_true (by omega)]; rfl
        simp -dsimp only [go_sem, f1, f2, f3]
        try rfl
theorem refReckon0_c (a b : Nm) (p : Int) (up : Bool) (st : Store) (ha : wN a) (hb : wN b) : PCalls Tryz.prog 217 [.sc (.int .i64 0), .agg (encN a), .agg (encN b), .sc (.int .i64 p), .sc (.bool up)] st (fun r st' => r = .tup [.agg (encN (reckN 0 a b p up).1), .sc (.int .i64 (reckN 0 a b p up).2)] ∧ st' = st) := by
  refine pcalls_enter none Tryz.func217 rfl fun E => pwp_of_vc ?_
  have e0 : ∀ x y : Nm, [PV.agg [.sc (.bool x.neg), .sc (.int .i64 x.exp), .sl .no (encW x.w)], .agg [.sc (.bool y.neg), .sc (.int .i64 y.exp), .sl .no (encW y.w)]] = encNs [x, y] := fun x y => rfl
  simp -dsimp only [go_sem, e0]
  refine (bad_c p [a, b] _ (by simp) (fun i hi => by
    match i, hi with
    | 0, _ => exact ha
    | 1, _ => exact hb)).mono ?_
  rintro r st ⟨rfl, rfl⟩
  simp -dsimp only [go_sem]
  refine ck (fun h => ?_) (fun h => ?_)
  · simp -dsimp only [go_sem]
    rw [reckN, if_neg (fun hh => by simp [hh.1, hh.2.1, hh.2.2] at h)]; rfl
  · have hv : rightN a = true ∧ rightN b = true ∧ precF p = true := by simpa [and_assoc] using h
    obtain ⟨r1, r2, r3⟩ := hv
    obtain ⟨q, rfl, q1, q2, q3⟩ := precF_nat r3
    have hm : reckN 0 a b q up = numV (roundV (plusV (ofN a) (ofN b)) q up) := by rw [reckN, if_pos ⟨r1, r2, r3⟩, q3]; rfl
    rw [hm]
    have d1 := bdV_ofN r1
    have d2 := bdV_ofN r2
    simp -dsimp only [go_sem]
    refine pwp_late mixed 49 [0, 1, 2, 3] [4, 5] [6, 7] (.step 0 [] (.step 2 [] (.step 1 [2] (.step 3 [] (.done))))) (.step 6 [] (.step 7 [] (.done))) (by decide +kernel) (by simp) ?_
    simp -dsimp only [go_sem]
    refine (of_c a _ (sm_wN1 r1)).mono ?_
    rintro r st ⟨rfl, rfl⟩
    simp -dsimp only [go_sem]
    refine (of_c b _ (sm_wN1 r2)).mono ?_
    rintro r st ⟨rfl, rfl⟩
    generalize ofN a = x at *
    generalize ofN b = y at *
    simp -dsimp only [go_sem]
    refine (exactSum_c x y _ (smV_bd d1 (by omega) (by omega)) (smV_bd d2 (by omega) (by omega))).mono ?_
    rintro r st ⟨rfl, rfl⟩
    have e1 := bdV_plus d1 d2
    simp -dsimp only [go_sem]
    refine (round_c _ q up _ (smV_bd e1 (by omega) (by omega)) (by omega)).mono ?_
    rintro r st ⟨rfl, rfl⟩
    have e2 := bdV_round e1 q up
    simp -dsimp only [go_sem]
    refine (vnum_c _ _ (bdV_digits e2 (by omega))).mono ?_
    rintro r st ⟨rfl, rfl⟩
    simp -dsimp only [go_sem]
theorem refIn_c (a b : Ivl) (st : Store) (ha : wI a) (hb : wI b) : PCalls Tryz.prog 210 [.agg (encI a), .agg (encI b)] st (fun r st' => r = .sc (.bool (inI a b)) ∧ st' = st) := by
  refine pcalls_enter none Tryz.func210 rfl fun E => pwp_of_vc ?_
  unfold inI
  simp -dsimp only [go_sem]
  refine (refRightIv_c a _ ha).mono ?_
  rintro r st ⟨rfl, rfl⟩
  cases r1 : rightI a with
  | false => simp -dsimp only [go_sem]; try rfl
  | true =>
    simp -dsimp only [go_sem]
    refine (refRightIv_c b _ hb).mono ?_
    rintro r st ⟨rfl, rfl⟩
    cases r2 : rightI b with
    | false => simp -dsimp only [go_sem]; try rfl
    | true =>
      have a1 := (rightI_right r1).1
      have a2 := (rightI_right r1).2.1
      have b1 := (rightI_right r2).1
      have b2 := (rightI_right r2).2.1
      have e1 : cmpR b.lo a.lo = - cmpN a.lo b.lo := by rw [show cmpR b.lo a.lo = cmpN b.lo a.lo from if_pos ⟨b1, a1⟩, cmpN_swap]
      have e2 : cmpR a.hi b.hi = - cmpN b.hi a.hi := by rw [show cmpR a.hi b.hi = cmpN a.hi b.hi from if_pos ⟨a2, b2⟩, cmpN_swap]
      have g1 : ∀ z : Int, decide (-z ≤ 0) = decide (0 ≤ z) := fun z => decide_eq_decide.2 (by omega)
      simp -dsimp only [go_sem]
      refine (cmpNum_c b.lo a.lo _ (sm_wN1 b1) (sm_wN1 a1)).mono ?_
      rintro r st ⟨rfl, rfl⟩
      rw [e1]
      cases c1 : decide (0 ≤ cmpN a.lo b.lo) with
      | false => simp -dsimp only [go_sem, g1, c1]; try rfl
      | true =>
        simp -dsimp only [go_sem, g1, c1]
        refine (cmpNum_c a.hi b.hi _ (sm_wN1 a2) (sm_wN1 b2)).mono ?_
        rintro r st ⟨rfl, rfl⟩
        rw [e2]
        simp -dsimp only [go_sem, g1, c1]
        try rfl
end Go.Pv
end

section
/- The document's boxes: Points, HasPoint, InBox, MeetBox, OpBox, Times, MidBox. -/
set_option linter.unusedVariables false
set_option linter.unusedSimpArgs false
set_option maxRecDepth 100000
namespace Go.Pv
open Go.Proofs
theorem precs6_c (p : Int) (st : Store) : PCalls Tryz.prog 184 [.sc (.int .i64 p)] st (fun r st' => r = .sc (.bool (precF p)) ∧ st' = st) := by
  refine pcalls_enter none Tryz.func184 rfl fun E => pwp_of_vc ?_
  unfold precF
  by_cases h : 8 ≤ p
  · have f1 : decide (p ≥ 8) = true := decide_eq_true h
    have f2 : decide (8 ≤ p) = true := decide_eq_true h
    simp -dsimp only [go_sem, f1, f2]
    try simp
  · have f1 : decide (p ≥ 8) = false := decide_eq_false h
    have f2 : decide (8 ≤ p) = false := decide_eq_false h
    simp -dsimp only [go_sem, f1, f2]
    try simp
theorem points_c (q : List Nm) (st : Store) (hq : wNs q) : PCalls Tryz.prog 128 [.sl .no (encNs q)] st (fun r st' => r = .sl (.fresh 6) (encIs (ofB q)) ∧ st' = st) := by
  obtain ⟨hl, hw⟩ := hq
  refine pcalls_enter none Tryz.func128 rfl fun E => pwp_of_vc ?_
  simp -dsimp only [go_sem]
  refine pwp_claim 3 6 ?_
  simp -dsimp only [go_sem]
  refine pwp_loop_mask [true, false, false, true, true] 0 1
    (fun n s => ∃ i, n = q.length - i ∧ i ≤ q.length ∧ s = ⟨[.sl .no (encNs q), .junk, .junk, .sl (.own 0) (encIs (ofB (q.take i))), .sc (.int .i64 (i : Nat))] ++ List.replicate 15 .junk, [], [((ofB (q.take i)).length, 6)], st⟩) q.length ?_ ?_
  · simp -dsimp only [go_sem]
    exact ⟨0, by omega, by omega, rfl⟩
  · rintro n s ⟨i, rfl, hi, rfl⟩
    simp -dsimp only [go_sem]
    refine ck (fun h' => ?_) (fun h' => ?_)
    · have hlt : i < q.length := by have := of_decide_eq_true h'; omega
      have e1 := encNs_get q i hlt
      have e3 : IntKind.i64.wrap ((i : Int) + 1) = ((i + 1 : Nat) : Int) := by rw [wrap_i64 _ (by omega) (by omega)]; omega
      have ll : (ofB (q.take i)).length = i := by simp [ofB]; omega
      simp -dsimp only [go_sem, e1]
      refine ⟨⟨by omega, hlt⟩, ?_⟩
      refine (point_c _ _).mono ?_
      rintro r st ⟨rfl, rfl⟩
      simp -dsimp only [go_sem, e3]
      refine ⟨⟨by omega, by omega⟩, q.length - (i + 1), by omega, i + 1, rfl, by omega, ?_⟩
      rw [ofB_take q i hlt]
      simp [encIs, encI]
    · have hge : i = q.length := by have := of_decide_eq_false h'; omega
      simp -dsimp only [go_sem]
      refine pwp_of_vc ?_
      simp -dsimp only [go_sem]
      rw [hge, List.take_length]
theorem inBox_c (b : List Ivl) (q : List Ivl) (st : Store) (hb : wB b) (hq : wB q) : PCalls Tryz.prog 124 [.sl .no (encIs b), .sl .no (encIs q)] st (fun r st' => r = .sc (.bool (inB b q)) ∧ st' = st) := by
  have hbl := hb.1
  refine pcalls_enter none Tryz.func124 rfl fun E => pwp_of_vc ?_
  unfold inB allF
  simp -dsimp only [go_sem]
  refine (rightBox_c b _ hb).mono ?_
  rintro r st ⟨rfl, rfl⟩
  cases r1 : rightB b with
  | false => simp -dsimp only [go_sem]; try rfl
  | true =>
    simp -dsimp only [go_sem]
    refine (rightBox_c q _ hq).mono ?_
    rintro r st ⟨rfl, rfl⟩
    cases r2 : rightB q with
    | false => simp -dsimp only [go_sem]; try rfl
    | true =>
      by_cases hn : q.length = b.length
      · have f1 : ((b.length : Int) != (q.length : Int)) = false := by rw [hn]; simp
        rw [decide_eq_true hn.symm]
        simp -dsimp only [go_sem, f1]
        refine pwp_loop_mask [true, true, false, false, false, true] 0 0
          (fun n s => ∃ i, n = b.length - i ∧ i ≤ b.length ∧ (∀ j, j < i → inI (b.getD j default) (q.getD j default) = true) ∧ s = ⟨[.sl .no (encIs b), .sl .no (encIs q), .junk, .junk, .junk, .sc (.int .i64 (i : Nat))] ++ List.replicate 31 .junk, [], [], st⟩) b.length ?_ ?_
        · simp -dsimp only [go_sem]
          exact ⟨0, by omega, by omega, fun j hj => by omega, rfl⟩
        · rintro n s ⟨i, rfl, hi, hr, rfl⟩
          simp -dsimp only [go_sem]
          refine ck (fun h' => ?_) (fun h' => ?_)
          · have hlt : i < b.length := by have := of_decide_eq_true h'; omega
            have e1 := encIs_get b i hlt
            have e2 := encIs_get q i (by omega)
            have e3 : IntKind.i64.wrap ((i : Int) + 1) = ((i + 1 : Nat) : Int) := by rw [wrap_i64 _ (by omega) (by omega)]; omega
            simp -dsimp only [go_sem]
            refine pwp_draw mixed 37 (.step 0 [] (.step 1 [] (.step 2 [] (.step 3 [] (.step 4 [] (.step 5 [] (.step 6 [] (.step 7 [] (.step 8 [] (.step 9 [] (.done))))))))))) (by decide +kernel) (by simp) ?_
            simp -dsimp only [go_sem, e1, e2]
            refine ⟨⟨by omega, hlt⟩, ⟨by omega, by omega⟩, ?_⟩
            refine (refIn_c _ _ _ (hb.2 i hlt) (hq.2 i (by omega))).mono ?_
            rintro r st ⟨rfl, rfl⟩
            simp -dsimp only [go_sem]
            refine ck (fun h2 => ?_) (fun h2 => ?_)
            · have hf : inI (b.getD i default) (q.getD i default) = false := by simpa using h2
              simp -dsimp only [go_sem]
              have : ((List.range b.length).all fun i => inI (b.getD i default) (q.getD i default)) = false := by
                rw [List.all_eq_false]; exact ⟨i, by simpa using hlt, fun e => by rw [hf] at e; cases e⟩
              first | rw [this] | rw [← List.range_eq_range', this]
            · have ht : inI (b.getD i default) (q.getD i default) = true := by simpa using h2
              simp -dsimp only [go_sem, e3]
              refine ⟨b.length - (i + 1), by omega, i + 1, rfl, by omega, fun j hj => ?_, rfl⟩
              by_cases e : j = i
              · subst e; exact ht
              · exact hr j (by omega)
          · have hge : i = b.length := by have := of_decide_eq_false h'; omega
            simp -dsimp only [go_sem]
            refine pwp_of_vc ?_
            simp -dsimp only [go_sem]
            have : ((List.range b.length).all fun i => inI (b.getD i default) (q.getD i default)) = true := by
              rw [List.all_eq_true]; intro j hj; exact hr j (by rw [hge]; simpa using hj)
            first | rw [this] | rw [← List.range_eq_range', this]
      · have f1 : ((b.length : Int) != (q.length : Int)) = true := by rw [bne_iff_ne]; omega
        rw [decide_eq_false (fun e : b.length = q.length => hn e.symm)]
        simp -dsimp only [go_sem, f1]
        try rfl
theorem opBox0_c (a b : List Ivl) (p : Int) (st : Store) (ha : wB a) (hb : wB b) : PCalls Tryz.prog 211 [.sc (.int .i64 0), .sl .no (encIs a), .sl .no (encIs b), .sc (.int .i64 p)] st (fun r st' => r = .tup [.sl .no (encIs (opB 0 a b p).1), .sc (.int .i64 (opB 0 a b p).2)] ∧ st' = st) := by
  refine pcalls_enter none Tryz.func211 rfl fun E => pwp_of_vc ?_
  simp -dsimp only [go_sem]
  refine (rightBox_c a _ ha).mono ?_
  rintro r st ⟨rfl, rfl⟩
  cases r1 : rightB a with
  | false =>
    simp -dsimp only [go_sem]
    rw [opB, if_neg (by simp [r1])]; rfl
  | true =>
    simp -dsimp only [go_sem]
    refine (rightBox_c b _ hb).mono ?_
    rintro r st ⟨rfl, rfl⟩
    cases r2 : rightB b with
    | false =>
      simp -dsimp only [go_sem]
      rw [opB, if_neg (by simp [r2])]; rfl
    | true =>
      by_cases hl : a.length = b.length
      · have f1 : ((a.length : Int) != (b.length : Int)) = false := by rw [hl]; simp
        simp -dsimp only [go_sem, f1]
        refine (precs6_c p _).mono ?_
        rintro r st ⟨rfl, rfl⟩
        cases r3 : precF p with
        | false =>
          simp -dsimp only [go_sem, f1]
          rw [opB, if_neg (by simp [r3])]; rfl
        | true =>
          have hla := ha.1
          have hab : opB 0 a b p = eachF (fun i x => opI 0 x (b.getD i default) p) 0 a [] := if_pos ⟨r1, r2, hl, r3⟩
          rw [hab]
          simp -dsimp only [go_sem, f1]
          refine pwp_claim 10 6 ?_
          simp -dsimp only [go_sem]
          refine pwp_loop_mask [true, true, true, true, false, false, false, false, false, false, true, true] 0 1 (fun n s => ∃ i o, n = a.length - i ∧ i ≤ a.length ∧ o.length = i ∧ eachF (fun i x => opI 0 x (b.getD i default) p) 0 a [] = eachF (fun i x => opI 0 x (b.getD i default) p) i (a.drop i) o ∧ s = ⟨[.sc (.int .i64 0), .sl .no (encIs a), .sl .no (encIs b), .sc (.int .i64 p), .junk, .junk, .junk, .junk, .junk, .junk, .sl (.own 0) (encIs o), .sc (.int .i64 (i : Nat))] ++ List.replicate 50 .junk, [], [(o.length, 6)], st⟩) a.length ?_ ?_
          · simp -dsimp only [go_sem]
            exact ⟨0, [], by omega, by omega, rfl, rfl, rfl⟩
          · rintro n s ⟨i, o, rfl, hi, ho, hr, rfl⟩
            simp -dsimp only [go_sem]
            refine ck (fun h' => ?_) (fun h' => ?_)
            · have hlt : i < a.length := by have := of_decide_eq_true h'; omega
              have e1 := encIs_get a i hlt
              have e2 := encIs_get b i (by omega)
              have e3 : IntKind.i64.wrap ((i : Int) + 1) = ((i + 1 : Nat) : Int) := by rw [wrap_i64 _ (by omega) (by omega)]; omega
              have e4 := eachF_drop (fun i x => opI 0 x (b.getD i default) p) a i o hlt
              simp -dsimp only [go_sem]
              refine pwp_draw mixed 62 (.step 0 [] (.step 1 [] (.step 2 [] (.step 3 [] (.step 4 [] (.step 5 [] (.step 6 [] (.step 7 [] (.step 8 [] (.step 9 [] (.alt (.step 10 [] (.step 11 [] (.step 12 [] (.step 13 [] (.step 14 [4, 8] (.step 15 [] (.step 16 [] (.done)))))))) (.step 14 [4, 8] (.step 10 [] (.step 11 [] (.step 12 [] (.step 13 [] (.step 15 [] (.step 16 [] (.done))))))))))))))))))) (by decide +kernel) (by simp) ?_
              simp -dsimp only [go_sem, e1, e2]
              refine ⟨⟨by omega, by omega⟩, ⟨by omega, by omega⟩, ?_, ?_⟩
              all_goals
                refine (refOp0_c _ _ p _ (ha.2 i hlt) (hb.2 i (by omega))).mono ?_
                rintro r st ⟨rfl, rfl⟩
                simp -dsimp only [go_sem, e1, e2]
                refine ck (fun h2 => ?_) (fun h2 => ?_)
                · have hne := zbne_t h2
                  simp -dsimp only [go_sem]
                  rw [hr, e4, if_pos hne]; rfl
                · have he := zbne_f h2
                  simp -dsimp only [go_sem, e3]
                  refine ⟨by omega, a.length - (i + 1), by omega, i + 1, o ++ [(opI 0 (a.getD i default) (b.getD i default) p).1], rfl, by omega, by simp [ho], ?_, ?_⟩
                  · rw [hr, e4, if_neg (fun hh => hh he)]
                  · simp [encIs, encI]
            · have hge : i = a.length := by have := of_decide_eq_false h'; omega
              simp -dsimp only [go_sem]
              refine pwp_of_vc ?_
              simp -dsimp only [go_sem]
              rw [hr, hge, List.drop_length]; rfl
      · have f1 : ((a.length : Int) != (b.length : Int)) = true := by rw [bne_iff_ne]; omega
        simp -dsimp only [go_sem, f1]
        rw [opB, if_neg (fun h => hl h.2.2.1)]; rfl
theorem opBox1_c (a b : List Ivl) (p : Int) (st : Store) (ha : wB a) (hb : wB b) : PCalls Tryz.prog 211 [.sc (.int .i64 1), .sl .no (encIs a), .sl .no (encIs b), .sc (.int .i64 p)] st (fun r st' => r = .tup [.sl .no (encIs (opB 1 a b p).1), .sc (.int .i64 (opB 1 a b p).2)] ∧ st' = st) := by
  refine pcalls_enter none Tryz.func211 rfl fun E => pwp_of_vc ?_
  simp -dsimp only [go_sem]
  refine (rightBox_c a _ ha).mono ?_
  rintro r st ⟨rfl, rfl⟩
  cases r1 : rightB a with
  | false =>
    simp -dsimp only [go_sem]
    rw [opB, if_neg (by simp [r1])]; rfl
  | true =>
    simp -dsimp only [go_sem]
    refine (rightBox_c b _ hb).mono ?_
    rintro r st ⟨rfl, rfl⟩
    cases r2 : rightB b with
    | false =>
      simp -dsimp only [go_sem]
      rw [opB, if_neg (by simp [r2])]; rfl
    | true =>
      by_cases hl : a.length = b.length
      · have f1 : ((a.length : Int) != (b.length : Int)) = false := by rw [hl]; simp
        simp -dsimp only [go_sem, f1]
        refine (precs6_c p _).mono ?_
        rintro r st ⟨rfl, rfl⟩
        cases r3 : precF p with
        | false =>
          simp -dsimp only [go_sem, f1]
          rw [opB, if_neg (by simp [r3])]; rfl
        | true =>
          have hla := ha.1
          have hab : opB 1 a b p = eachF (fun i x => opI 1 x (b.getD i default) p) 0 a [] := if_pos ⟨r1, r2, hl, r3⟩
          rw [hab]
          simp -dsimp only [go_sem, f1]
          refine pwp_claim 10 6 ?_
          simp -dsimp only [go_sem]
          refine pwp_loop_mask [true, true, true, true, false, false, false, false, false, false, true, true] 0 1 (fun n s => ∃ i o, n = a.length - i ∧ i ≤ a.length ∧ o.length = i ∧ eachF (fun i x => opI 1 x (b.getD i default) p) 0 a [] = eachF (fun i x => opI 1 x (b.getD i default) p) i (a.drop i) o ∧ s = ⟨[.sc (.int .i64 1), .sl .no (encIs a), .sl .no (encIs b), .sc (.int .i64 p), .junk, .junk, .junk, .junk, .junk, .junk, .sl (.own 0) (encIs o), .sc (.int .i64 (i : Nat))] ++ List.replicate 50 .junk, [], [(o.length, 6)], st⟩) a.length ?_ ?_
          · simp -dsimp only [go_sem]
            exact ⟨0, [], by omega, by omega, rfl, rfl, rfl⟩
          · rintro n s ⟨i, o, rfl, hi, ho, hr, rfl⟩
            simp -dsimp only [go_sem]
            refine ck (fun h' => ?_) (fun h' => ?_)
            · have hlt : i < a.length := by have := of_decide_eq_true h'; omega
              have e1 := encIs_get a i hlt
              have e2 := encIs_get b i (by omega)
              have e3 : IntKind.i64.wrap ((i : Int) + 1) = ((i + 1 : Nat) : Int) := by rw [wrap_i64 _ (by omega) (by omega)]; omega
              have e4 := eachF_drop (fun i x => opI 1 x (b.getD i default) p) a i o hlt
              simp -dsimp only [go_sem]
              refine pwp_draw mixed 62 (.step 0 [] (.step 1 [] (.step 2 [] (.step 3 [] (.step 4 [] (.step 5 [] (.step 6 [] (.step 7 [] (.step 8 [] (.step 9 [] (.alt (.step 10 [] (.step 11 [] (.step 12 [] (.step 13 [] (.step 14 [4, 8] (.step 15 [] (.step 16 [] (.done)))))))) (.step 14 [4, 8] (.step 10 [] (.step 11 [] (.step 12 [] (.step 13 [] (.step 15 [] (.step 16 [] (.done))))))))))))))))))) (by decide +kernel) (by simp) ?_
              simp -dsimp only [go_sem, e1, e2]
              refine ⟨⟨by omega, by omega⟩, ⟨by omega, by omega⟩, ?_, ?_⟩
              all_goals
                refine (refOp1_c _ _ p _ (ha.2 i hlt) (hb.2 i (by omega))).mono ?_
                rintro r st ⟨rfl, rfl⟩
                simp -dsimp only [go_sem, e1, e2]
                refine ck (fun h2 => ?_) (fun h2 => ?_)
                · have hne := zbne_t h2
                  simp -dsimp only [go_sem]
                  rw [hr, e4, if_pos hne]; rfl
                · have he := zbne_f h2
                  simp -dsimp only [go_sem, e3]
                  refine ⟨by omega, a.length - (i + 1), by omega, i + 1, o ++ [(opI 1 (a.getD i default) (b.getD i default) p).1], rfl, by omega, by simp [ho], ?_, ?_⟩
                  · rw [hr, e4, if_neg (fun hh => hh he)]
                  · simp [encIs, encI]
            · have hge : i = a.length := by have := of_decide_eq_false h'; omega
              simp -dsimp only [go_sem]
              refine pwp_of_vc ?_
              simp -dsimp only [go_sem]
              rw [hr, hge, List.drop_length]; rfl
      · have f1 : ((a.length : Int) != (b.length : Int)) = true := by rw [bne_iff_ne]; omega
        simp -dsimp only [go_sem, f1]
        rw [opB, if_neg (fun h => hl h.2.2.1)]; rfl
theorem times6_c (x : Ivl) (b : List Ivl) (p : Int) (st : Store) (hx : wI x) (hb : wB b) : PCalls Tryz.prog 214 [.agg (encI x), .sl .no (encIs b), .sc (.int .i64 p)] st (fun r st' => r = .tup [.sl .no (encIs (timesB x b p).1), .sc (.int .i64 (timesB x b p).2)] ∧ st' = st) := by
  refine pcalls_enter none Tryz.func214 rfl fun E => pwp_of_vc ?_
  simp -dsimp only [go_sem]
  refine (rightBox_c b _ hb).mono ?_
  rintro r st ⟨rfl, rfl⟩
  cases r1 : rightB b with
  | false =>
    simp -dsimp only [go_sem]
    rw [timesB, if_neg (by simp [r1])]; rfl
  | true =>
    simp -dsimp only [go_sem]
    refine (refRightIv_c x _ hx).mono ?_
    rintro r st ⟨rfl, rfl⟩
    cases r2 : rightI x with
    | false =>
      simp -dsimp only [go_sem]
      rw [timesB, if_neg (by simp [r2])]; rfl
    | true =>
      simp -dsimp only [go_sem]
      refine (precs6_c p _).mono ?_
      rintro r st ⟨rfl, rfl⟩
      cases r3 : precF p with
      | false =>
        simp -dsimp only [go_sem]
        rw [timesB, if_neg (by simp [r3])]; rfl
      | true =>
        have hla := hb.1
        have hab : timesB x b p = eachF (fun _ y => opI 2 x y p) 0 b [] := if_pos ⟨r1, r2, r3⟩
        rw [hab]
        simp -dsimp only [go_sem]
        refine pwp_claim 8 6 ?_
        simp -dsimp only [go_sem]
        refine pwp_loop_mask [false, true, true, true, false, false, false, false, true, true] 1 1 (fun n s => ∃ i o, n = b.length - i ∧ i ≤ b.length ∧ o.length = i ∧ eachF (fun _ y => opI 2 x y p) 0 b [] = eachF (fun _ y => opI 2 x y p) i (b.drop i) o ∧ s = ⟨[.junk, .sl .no (encIs b), .sc (.int .i64 p), .lp 0 0, .junk, .junk, .junk, .junk, .sl (.own 0) (encIs o), .sc (.int .i64 (i : Nat))] ++ List.replicate 39 .junk, [encI x], [(o.length, 6)], st⟩) b.length ?_ ?_
        · simp -dsimp only [go_sem]
          exact ⟨0, [], by omega, by omega, rfl, rfl, rfl⟩
        · rintro n s ⟨i, o, rfl, hi, ho, hr, rfl⟩
          simp -dsimp only [go_sem]
          refine ck (fun h' => ?_) (fun h' => ?_)
          · have hlt : i < b.length := by have := of_decide_eq_true h'; omega
            have e1 := encIs_get b i hlt
            have e3 : IntKind.i64.wrap ((i : Int) + 1) = ((i + 1 : Nat) : Int) := by rw [wrap_i64 _ (by omega) (by omega)]; omega
            have e4 := eachF_drop (fun _ y => opI 2 x y p) b i o hlt
            simp -dsimp only [go_sem]
            refine pwp_draw mixed 49 (.step 0 [] (.step 1 [] (.step 2 [] (.step 3 [] (.step 4 [] (.step 5 [] (.alt (.step 6 [] (.step 7 [] (.step 8 [] (.step 9 [] (.step 10 [0, 4] (.step 11 [] (.step 12 [] (.done)))))))) (.step 10 [0, 4] (.step 6 [] (.step 7 [] (.step 8 [] (.step 9 [] (.step 11 [] (.step 12 [] (.done))))))))))))))) (by decide +kernel) (by simp) ?_
            simp -dsimp only [go_sem, e1]
            refine ⟨⟨by omega, by omega⟩, ?_, ?_⟩
            all_goals
              refine (refOp2_c x _ p _ hx (hb.2 i hlt)).mono ?_
              rintro r st ⟨rfl, rfl⟩
              simp -dsimp only [go_sem, e1]
              refine ck (fun h2 => ?_) (fun h2 => ?_)
              · have hne := zbne_t h2
                simp -dsimp only [go_sem]
                rw [hr, e4, if_pos hne]; rfl
              · have he := zbne_f h2
                simp -dsimp only [go_sem, e3]
                refine ⟨by omega, b.length - (i + 1), by omega, i + 1, o ++ [(opI 2 x (b.getD i default) p).1], rfl, by omega, by simp [ho], ?_, ?_⟩
                · rw [hr, e4, if_neg (fun hh => hh he)]
                · simp [encIs, encI]
          · have hge : i = b.length := by have := of_decide_eq_false h'; omega
            simp -dsimp only [go_sem]
            refine pwp_of_vc ?_
            simp -dsimp only [go_sem]
            rw [hr, hge, List.drop_length]; rfl
theorem midBox_c (b : List Ivl) (p : Int) (st : Store) (hb : wB b) : PCalls Tryz.prog 215 [.sl .no (encIs b), .sc (.int .i64 p)] st (fun r st' => r = .tup [.sl .no (encNs (midB b p).1), .sc (.int .i64 (midB b p).2)] ∧ st' = st) := by
  refine pcalls_enter none Tryz.func215 rfl fun E => pwp_of_vc ?_
  simp -dsimp only [go_sem]
  refine (rightBox_c b _ hb).mono ?_
  rintro r st ⟨rfl, rfl⟩
  cases r1 : rightB b with
  | false =>
    simp -dsimp only [go_sem]
    rw [midB, if_neg (by simp [r1])]; rfl
  | true =>
    simp -dsimp only [go_sem]
    refine (precs6_c p _).mono ?_
    rintro r st ⟨rfl, rfl⟩
    cases r3 : precF p with
    | false =>
      simp -dsimp only [go_sem]
      rw [midB, if_neg (by simp [r3])]; rfl
    | true =>
      have hla := hb.1
      have hab : midB b p = eachF (fun _ a => midI a p) 0 b [] := if_pos ⟨r1, r3⟩
      rw [hab]
      simp -dsimp only [go_sem]
      refine pwp_claim 6 3 ?_
      simp -dsimp only [go_sem]
      refine pwp_loop_mask [true, true, false, false, false, false, true, true] 0 1 (fun n s => ∃ i o, n = b.length - i ∧ i ≤ b.length ∧ o.length = i ∧ eachF (fun _ a => midI a p) 0 b [] = eachF (fun _ a => midI a p) i (b.drop i) o ∧ s = ⟨[.sl .no (encIs b), .sc (.int .i64 p), .junk, .junk, .junk, .junk, .sl (.own 0) (encNs o), .sc (.int .i64 (i : Nat))] ++ List.replicate 33 .junk, [], [(o.length, 3)], st⟩) b.length ?_ ?_
      · simp -dsimp only [go_sem]
        exact ⟨0, [], by omega, by omega, rfl, rfl, rfl⟩
      · rintro n s ⟨i, o, rfl, hi, ho, hr, rfl⟩
        simp -dsimp only [go_sem]
        refine ck (fun h' => ?_) (fun h' => ?_)
        · have hlt : i < b.length := by have := of_decide_eq_true h'; omega
          have e1 := encIs_get b i hlt
          have e3 : IntKind.i64.wrap ((i : Int) + 1) = ((i + 1 : Nat) : Int) := by rw [wrap_i64 _ (by omega) (by omega)]; omega
          have e4 := eachF_drop (fun _ a => midI a p) b i o hlt
          simp -dsimp only [go_sem, e1]
          refine ⟨⟨by omega, by omega⟩, ?_⟩
          refine (refMid_c _ p _ (hb.2 i hlt)).mono ?_
          rintro r st ⟨rfl, rfl⟩
          simp -dsimp only [go_sem, e1]
          refine ck (fun h2 => ?_) (fun h2 => ?_)
          · have hne := zbne_t h2
            simp -dsimp only [go_sem]
            rw [hr, e4, if_pos hne]; rfl
          · have he := zbne_f h2
            simp -dsimp only [go_sem, e3]
            refine ⟨by omega, b.length - (i + 1), by omega, i + 1, o ++ [(midI (b.getD i default) p).1], rfl, by omega, by simp [ho], ?_, ?_⟩
            · rw [hr, e4, if_neg (fun hh => hh he)]
            · simp [encNs, encN]
        · have hge : i = b.length := by have := of_decide_eq_false h'; omega
          simp -dsimp only [go_sem]
          refine pwp_of_vc ?_
          simp -dsimp only [go_sem]
          rw [hr, hge, List.drop_length]; rfl
end Go.Pv
end
