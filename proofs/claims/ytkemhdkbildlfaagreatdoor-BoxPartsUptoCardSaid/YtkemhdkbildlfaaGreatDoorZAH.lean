/- Parts of the walk: N21, N22, N24, N25. -/
import Derived.Test.YtkemhdkbildlfaaGreatDoorZAG
set_option linter.unusedVariables false
set_option linter.unusedSimpArgs false
section
/- The document's boxes: MeetBox, widest, WideBox, Blow; Nums. -/
set_option linter.unusedVariables false
set_option linter.unusedSimpArgs false
set_option maxRecDepth 100000
namespace Go.Pv
open Go.Proofs
theorem twoMeet_c (a b : List Ivl) (st : Store) (ha : wB a) (hb : wB b) : PCalls Tryz.prog 123 [.sl .no (encIs a), .sl .no (encIs b), .sc (.bool false)] st (fun r st' => r = .tup [.sl .no (encIs (pairsF meetI a b).1), .sc (.int .i64 (pairsF meetI a b).2)] ∧ st' = st) := by
  refine pcalls_enter none Tryz.func123 rfl fun E => pwp_of_vc ?_
  have bad : ¬ (rightB a = true ∧ rightB b = true ∧ a.length = b.length) → pairsF meetI a b = ([], 1) := fun h => if_neg h
  simp -dsimp only [go_sem]
  refine (rightBox_c a st ha).mono ?_
  rintro r st ⟨rfl, rfl⟩
  cases r1 : rightB a with
  | false =>
    simp -dsimp only [go_sem]
    rw [bad (fun h => by simp [r1] at h)]; rfl
  | true =>
    simp -dsimp only [go_sem]
    refine (rightBox_c b st hb).mono ?_
    rintro r st ⟨rfl, rfl⟩
    cases r2 : rightB b with
    | false =>
      simp -dsimp only [go_sem]
      rw [bad (fun h => by simp [r2] at h)]; rfl
    | true =>
      by_cases hl : a.length = b.length
      · have f1 : ((a.length : Int) != (b.length : Int)) = false := by rw [hl]; simp
        have hla := ha.1
        have hab : pairsF meetI a b = eachF (fun i x => meetI x (b.getD i default)) 0 a [] := if_pos ⟨r1, r2, hl⟩
        rw [hab]
        simp -dsimp only [go_sem, f1]
        refine pwp_claim 8 6 ?_
        simp -dsimp only [go_sem]
        refine pwp_loop_mask [true, true, true, false, false, false, false, false, true, true] 0 1 (fun n s => ∃ i o, n = a.length - i ∧ i ≤ a.length ∧ o.length = i ∧ eachF (fun i x => meetI x (b.getD i default)) 0 a [] = eachF (fun i x => meetI x (b.getD i default)) i (a.drop i) o ∧ s = ⟨[.sl .no (encIs a), .sl .no (encIs b), .sc (.bool false), .junk, .junk, .junk, .junk, .junk, .sl (.own 0) (encIs o), .sc (.int .i64 (i : Nat))] ++ List.replicate 56 .junk, [], [(o.length, 6)], st⟩) a.length ?_ ?_
        · simp -dsimp only [go_sem]
          exact ⟨0, [], by omega, by omega, rfl, rfl, rfl⟩
        · rintro n s ⟨i, o, rfl, hi, ho, hr, rfl⟩
          simp -dsimp only [go_sem]
          refine ck (fun h' => ?_) (fun h' => ?_)
          · have hlt : i < a.length := by have := of_decide_eq_true h'; omega
            have e1 := encIs_get a i hlt
            have e2 := encIs_get b i (by omega)
            have e3 : IntKind.i64.wrap ((i : Int) + 1) = ((i + 1 : Nat) : Int) := by rw [wrap_i64 _ (by omega) (by omega)]; omega
            have e4 := eachF_drop (fun i x => meetI x (b.getD i default)) a i o hlt
            simp -dsimp only [go_sem]
            refine pwp_draw mixed 66 (.step 0 [] (.step 1 [] (.step 2 [] (.step 3 [] (.step 4 [] (.step 5 [] (.step 6 [] (.step 7 [] (.alt (.step 8 [] (.step 9 [] (.step 10 [] (.step 11 [] (.step 12 [3, 7] (.step 13 [] (.step 14 [] (.done)))))))) (.step 12 [3, 7] (.step 8 [] (.step 9 [] (.step 10 [] (.step 11 [] (.step 13 [] (.step 14 [] (.done))))))))))))))))) (by decide +kernel) (by simp) ?_
            simp -dsimp only [go_sem, e1, e2]
            refine ⟨⟨by omega, by omega⟩, ⟨by omega, by omega⟩, ?_, ?_⟩
            all_goals
              refine (refMeet_c _ _ st (ha.2 i hlt) (hb.2 i (by omega))).mono ?_
              rintro r st ⟨rfl, rfl⟩
              simp -dsimp only [go_sem, e1, e2]
              refine ck (fun h2 => ?_) (fun h2 => ?_)
              · have hne := zbne_t h2
                simp -dsimp only [go_sem]
                rw [hr, e4, if_pos hne]; rfl
              · have he := zbne_f h2
                simp -dsimp only [go_sem, e3]
                refine ⟨by omega, a.length - (i + 1), by omega, i + 1, o ++ [(meetI (a.getD i default) (b.getD i default)).1], rfl, by omega, by simp [ho], ?_, ?_⟩
                · rw [hr, e4, if_neg (fun hh => hh he)]
                · simp [encIs, encI]
          · have hge : i = a.length := by have := of_decide_eq_false h'; omega
            simp -dsimp only [go_sem]
            refine pwp_of_vc ?_
            simp -dsimp only [go_sem]
            rw [hr, hge, List.drop_length]; rfl
      · have f1 : ((a.length : Int) != (b.length : Int)) = true := by rw [bne_iff_ne]; omega
        simp -dsimp only [go_sem, f1]
        rw [bad (fun h => hl h.2.2)]; rfl
theorem meetBox_c (a b : List Ivl) (st : Store) (ha : wB a) (hb : wB b) : PCalls Tryz.prog 56 [.sl .no (encIs a), .sl .no (encIs b)] st (fun r st' => r = .tup [.sl .no (encIs (pairsF meetI a b).1), .sc (.int .i64 (pairsF meetI a b).2)] ∧ st' = st) := by
  refine pcalls_enter none Tryz.func56 rfl fun E => pwp_of_vc ?_
  simp -dsimp only [go_sem]
  refine (twoMeet_c a b _ ha hb).mono ?_
  rintro r st ⟨rfl, rfl⟩
  simp -dsimp only [go_sem]
theorem qN_default : qN (default : Nm) = 0 := by unfold qN; exact qM_zero 0
theorem wide_nonneg (a : Ivl) (p : Int) : 0 ≤ qN (wideI a p).1 := by
  unfold wideI
  split
  · rename_i h
    have c := canI h.1
    have hq := qI_le h.1
    by_cases he : (numV (roundV (lessV (ofN a.hi) (ofN a.lo)) p.toNat true)).2 = 0
    · rw [(numV_val (canV_round (canV_less c.2 c.1) _ _) he).2]
      have h1 := roundV_ge (lessV (ofN a.hi) (ofN a.lo)) p.toNat
      rw [qV_less] at h1
      grind
    · rcases numV_err (roundV (lessV (ofN a.hi) (ofN a.lo)) p.toNat true) with e | e
      · exact absurd e he
      · rw [e]; show 0 ≤ qN (default : Nm); rw [qN_default]; exact Rat.le_refl
  · show 0 ≤ qN (default : Nm); rw [qN_default]; exact Rat.le_refl
theorem amax_app (l : List Nm) (x : Nm) : ∀ n, n ≤ l.length → amax (l ++ [x]) n = amax l n
  | 0, _ => rfl
  | n + 1, h => by
    have ih := amax_app l x n (by omega)
    unfold amax
    rw [ih]
    have hm : amax l n < l.length := by
      by_cases h0 : n = 0
      · subst h0; show 0 < _; omega
      · have := amax_lt l n (by omega) (by omega); omega
    have g : ∀ i, i < l.length → (l ++ [x]).getD i default = l.getD i default := fun i hi => getD_app_lt _ _ _ _ hi
    rw [g n (by omega), g _ hm]
/-- The widest so far. -/
def mostF (o : List Nm) : Nm := if o.length = 0 then default else o.getD (amax o o.length) default
theorem most_step (o : List Nm) (w : Nm) (hw : rightN w = true) (h0 : 0 ≤ qN w) (ho : ∀ x ∈ o, rightN x = true) :
    (cmpR w (mostF o) > 0 → amax (o ++ [w]) (o.length + 1) = o.length ∧ mostF (o ++ [w]) = w) ∧ (¬ cmpR w (mostF o) > 0 → amax (o ++ [w]) (o.length + 1) = amax o o.length ∧ mostF (o ++ [w]) = mostF o) := by
  have gl : (o ++ [w]).getD o.length default = w := by rw [List.getD_eq_getElem?_getD, List.getElem?_append_right (Nat.le_refl _)]; simp
  have hs : amax (o ++ [w]) (o.length + 1) = if cmpR w ((o ++ [w]).getD (amax o o.length) default) > 0 then o.length else amax o o.length := by
    rw [amax, amax_app o w o.length (Nat.le_refl _), gl]
  have hm2 : mostF (o ++ [w]) = (o ++ [w]).getD (amax (o ++ [w]) (o.length + 1)) default := by
    unfold mostF; rw [if_neg (by simp), List.length_append]; rfl
  by_cases hz : o.length = 0
  · have ho0 : o = [] := List.length_eq_zero_iff.1 hz
    subst ho0
    have hself : cmpR w w = 0 := by unfold cmpR; rw [if_pos ⟨hw, hw⟩, cmpN_self]
    have hg : ([] ++ [w] : List Nm).getD (amax [] ([] : List Nm).length) default = w := rfl
    rw [hg, hself, if_neg (by decide)] at hs
    have hm3 : mostF ([] ++ [w]) = w := by rw [hm2, hs]; rfl
    refine ⟨fun h => ⟨by rw [hs]; rfl, hm3⟩, fun h => ⟨hs, ?_⟩⟩
    rw [hm3]
    show w = mostF []
    have hd : mostF [] = default := rfl
    rw [hd] at h ⊢
    refine rightN_eq hw rightN_default ?_
    have h1 : cmpR w default = cmpN w default := if_pos ⟨hw, rightN_default⟩
    rw [h1] at h
    have h2 : ¬ qN (default : Nm) < qN w := fun e => h (cmpN_gt.2 e)
    have h3 : qN (default : Nm) = 0 := by unfold qN; exact qM_zero 0
    rw [h3] at h2 ⊢
    grind
  · have hlt := amax_lt o o.length (by omega) (Nat.le_refl _)
    have hg : (o ++ [w]).getD (amax o o.length) default = o.getD (amax o o.length) default := getD_app_lt _ _ _ _ hlt
    have hmo : mostF o = o.getD (amax o o.length) default := if_neg hz
    rw [hg, ← hmo] at hs
    refine ⟨fun h => ?_, fun h => ?_⟩
    · rw [if_pos h] at hs
      exact ⟨hs, by rw [hm2, hs, gl]⟩
    · rw [if_neg h] at hs
      exact ⟨hs, by rw [hm2, hs, hg, hmo]⟩
theorem mostF_right (o : List Nm) (ho : ∀ x ∈ o, rightN x = true) : rightN (mostF o) = true := by
  unfold mostF
  split
  · exact rightN_default
  · rename_i h
    exact ho _ (mem_getD _ _ _ (amax_lt o o.length (by omega) (Nat.le_refl _)))
set_option maxHeartbeats 1000000 in
theorem widest_c (b : List Ivl) (p : Int) (st : Store) (hb : wB b) : PCalls Tryz.prog 45 [.sl .no (encIs b), .sc (.int .i64 p)] st
    (fun r st' => r = .tup [.sc (.int .i64 (if (widthsB b p).2 = 0 then amax (widthsB b p).1 b.length else 0 : Nat)), .agg (encN (wideB b p).1), .sc (.int .i64 (wideB b p).2)] ∧ st' = st) := by
  have hbl := hb.1
  refine pcalls_enter none Tryz.func45 rfl fun E => pwp_of_vc ?_
  unfold wideB
  simp -dsimp only [go_sem]
  refine (rightBox_c b _ hb).mono ?_
  rintro r st ⟨rfl, rfl⟩
  cases r1 : rightB b with
  | false =>
    have hw : widthsB b p = ([], 1) := by rw [widthsB, if_neg (by simp [r1])]
    rw [hw]
    simp -dsimp only [go_sem]
    rfl
  | true =>
    simp -dsimp only [go_sem]
    refine (precs6_c p _).mono ?_
    rintro r st ⟨rfl, rfl⟩
    cases r3 : precF p with
    | false =>
      have hw : widthsB b p = ([], 1) := by rw [widthsB, if_neg (by simp [r3])]
      rw [hw]
      simp -dsimp only [go_sem]
      rfl
    | true =>
      have hab : widthsB b p = eachF (fun _ a => wideI a p) 0 b [] := if_pos ⟨r1, r3⟩
      rw [hab]
      simp -dsimp only [go_sem]
      refine pwp_plainBox 1 ?_
      simp -dsimp only [go_sem]
      refine pwp_loop_mask [true, true, false, false, false, true, false, true, true, true] 2 0 (fun n s => ∃ i o, n = b.length - i ∧ i ≤ b.length ∧ o.length = i ∧ (∀ x ∈ o, rightN x = true) ∧ eachF (fun _ a => wideI a p) 0 b [] = eachF (fun _ a => wideI a p) i (b.drop i) o ∧ s = ⟨[.sl .no (encIs b), .sc (.int .i64 p), .junk, .junk, .junk, .lp 0 0, .junk, .sc (.int .i64 (amax o i : Nat)), .lp 1 0, .sc (.int .i64 (i : Nat))] ++ List.replicate 39 .junk, [[.sc (.bool false), .sc (.int .i64 0), .sl .full []], encN (mostF o)], [], st⟩) b.length ?_ ?_
      · simp -dsimp only [go_sem]
        exact ⟨0, [], by omega, by omega, rfl, (fun x hx => by cases hx), rfl, rfl⟩
      · rintro n s ⟨i, o, rfl, hi, ho, hor, hr, rfl⟩
        simp -dsimp only [go_sem]
        refine ck (fun h' => ?_) (fun h' => ?_)
        · have hlt : i < b.length := by have := of_decide_eq_true h'; omega
          have e1 := encIs_get b i hlt
          have e3 : IntKind.i64.wrap ((i : Int) + 1) = ((i + 1 : Nat) : Int) := by rw [wrap_i64 _ (by omega) (by omega)]; omega
          have e4 := eachF_drop (fun _ a => wideI a p) b i o hlt
          have hwr := wideI_right (b.getD i default) p
          have hmr := mostF_right o hor
          have hstep := most_step o (wideI (b.getD i default) p).1 hwr (wide_nonneg _ p) hor
          rw [ho] at hstep
          have hor' : ∀ x ∈ o ++ [(wideI (b.getD i default) p).1], rightN x = true := fun x hx => by
            rcases List.mem_append.1 hx with h | h
            · exact hor x h
            · simp at h; rw [h]; exact hwr
          simp -dsimp only [go_sem, e1]
          refine ⟨⟨by omega, by omega⟩, ?_⟩
          refine (refWide_c _ p _ (hb.2 i hlt)).mono ?_
          rintro r st ⟨rfl, rfl⟩
          simp -dsimp only [go_sem, e1]
          refine ck (fun h2 => ?_) (fun h2 => ?_)
          · have hne := zbne_t h2
            have hf : eachF (fun _ a => wideI a p) 0 b [] = ([], (wideI (b.getD i default) p).2) := by rw [hr, e4, if_pos hne]
            rw [hf, if_neg hne, if_neg hne]
            simp -dsimp only [go_sem]
            rfl
          · have he := zbne_f h2
            simp -dsimp only [go_sem]
            refine (cmpNum_c _ (mostF o) _ (sm_wN1 hwr) (sm_wN1 hmr)).mono ?_
            rintro r st ⟨rfl, rfl⟩
            simp -dsimp only [go_sem]
            refine ck (fun h3 => ?_) (fun h3 => ?_)
            · have hc : cmpR (wideI (b.getD i default) p).1 (mostF o) > 0 := of_decide_eq_true h3
              obtain ⟨s1, s2⟩ := hstep.1 hc
              simp -dsimp only [go_sem]
              refine pwp_draw mixed 49 (.step 0 [] (.step 1 [] (.step 2 [] (.step 3 [] (.done))))) (by decide +kernel) (by simp) ?_
              simp -dsimp only [go_sem, e3]
              refine ⟨b.length - (i + 1), by omega, i + 1, o ++ [(wideI (b.getD i default) p).1], rfl, by omega, by simp [ho], hor', ?_, ?_⟩
              · rw [hr, e4, if_neg (fun hh => hh he)]
              · rw [s1, s2]
                try rfl
            · have hc : ¬ cmpR (wideI (b.getD i default) p).1 (mostF o) > 0 := of_decide_eq_false h3
              obtain ⟨s1, s2⟩ := hstep.2 hc
              simp -dsimp only [go_sem, e3]
              refine ⟨b.length - (i + 1), by omega, i + 1, o ++ [(wideI (b.getD i default) p).1], rfl, by omega, by simp [ho], hor', ?_, ?_⟩
              · rw [hr, e4, if_neg (fun hh => hh he)]
              · rw [s1, s2]
                try rfl
        · have hge : i = b.length := by have := of_decide_eq_false h'; omega
          have hf : eachF (fun _ a => wideI a p) 0 b [] = (o, 0) := by rw [hr, hge, List.drop_length]; rfl
          have hm : mostF o = o.getD (amax o b.length) default := by
            unfold mostF
            have := (rightB_len r1).1
            rw [if_neg (by omega), ho, hge]
          rw [hf, if_pos rfl, if_pos rfl]
          simp -dsimp only [go_sem]
          refine pwp_of_vc ?_
          simp -dsimp only [go_sem]
          refine pwp_draw mixed 49 (.step 0 [] (.step 1 [] (.step 2 [] (.step 3 [] (.step 4 [] (.done)))))) (by decide +kernel) (by simp) ?_
          simp -dsimp only [go_sem]
          rw [hm, hge]
theorem wideBox_c (b : List Ivl) (p : Int) (st : Store) (hb : wB b) : PCalls Tryz.prog 71 [.sl .no (encIs b), .sc (.int .i64 p)] st (fun r st' => r = .tup [.agg (encN (wideB b p).1), .sc (.int .i64 (wideB b p).2)] ∧ st' = st) := by
  refine pcalls_enter none Tryz.func71 rfl fun E => pwp_of_vc ?_
  simp -dsimp only [go_sem]
  refine (widest_c b p _ hb).mono ?_
  rintro r st ⟨rfl, rfl⟩
  simp -dsimp only [go_sem]
end Go.Pv
end

section
/- The document's Blow; Nums. -/
set_option linter.unusedVariables false
set_option linter.unusedSimpArgs false
set_option maxRecDepth 100000
namespace Go.Pv
open Go.Proofs
set_option maxHeartbeats 2000000 in
theorem blow6_c (b : List Ivl) (p : Int) (st : Store) (hb : wB b) : PCalls Tryz.prog 72 [.sl .no (encIs b), .sc (.int .i64 p)] st (fun r st' => r = .tup [.sl .no (encIs (blowB b p).1), .sc (.int .i64 (blowB b p).2)] ∧ st' = st) := by
  refine pcalls_enter none Tryz.func72 rfl fun E => pwp_of_vc ?_
  simp -dsimp only [go_sem]
  refine (rightBox_c b _ hb).mono ?_
  rintro r st ⟨rfl, rfl⟩
  cases r1 : rightB b with
  | false =>
    simp -dsimp only [go_sem]
    rw [blowB, if_neg (by simp [r1])]; rfl
  | true =>
    simp -dsimp only [go_sem]
    refine (precs6_c p _).mono ?_
    rintro r st ⟨rfl, rfl⟩
    cases r3 : precF p with
    | false =>
      simp -dsimp only [go_sem]
      rw [blowB, if_neg (by simp [r3])]; rfl
    | true =>
      have hla := hb.1
      have hab : blowB b p = eachF (fun _ a => blowI a p) 0 b [] := if_pos ⟨r1, r3⟩
      rw [hab]
      simp -dsimp only [go_sem]
      refine pwp_claim 6 6 ?_
      simp -dsimp only [go_sem]
      refine pwp_loop_mask [true, true, false, false, false, false, true, true] 0 1 (fun n s => ∃ i o, n = b.length - i ∧ i ≤ b.length ∧ o.length = i ∧ eachF (fun _ a => blowI a p) 0 b [] = eachF (fun _ a => blowI a p) i (b.drop i) o ∧ s = ⟨[.sl .no (encIs b), .sc (.int .i64 p), .junk, .junk, .junk, .junk, .sl (.own 0) (encIs o), .sc (.int .i64 (i : Nat))] ++ List.replicate 75 .junk, [], [(o.length, 6)], st⟩) b.length ?_ ?_
      · simp -dsimp only [go_sem]
        exact ⟨0, [], by omega, by omega, rfl, rfl, rfl⟩
      · rintro n s ⟨i, o, rfl, hi, ho, hr, rfl⟩
        simp -dsimp only [go_sem]
        refine ck (fun h' => ?_) (fun h' => ?_)
        · have hlt : i < b.length := by have := of_decide_eq_true h'; omega
          have e1 := encIs_get b i hlt
          have e3 : IntKind.i64.wrap ((i : Int) + 1) = ((i + 1 : Nat) : Int) := by rw [wrap_i64 _ (by omega) (by omega)]; omega
          have e4 := eachF_drop (fun _ a => blowI a p) b i o hlt
          have hw := hb.2 i hlt
          have hwr := wideI_right (b.getD i default) p
          have hI : blowI (b.getD i default) p = blowI (b.getD i default) p := rfl
          conv at hI => rhs; unfold blowI
          simp -dsimp only [go_sem, e1]
          refine ⟨⟨by omega, by omega⟩, ?_⟩
          refine (refWide_c _ p _ hw).mono ?_
          rintro r st ⟨rfl, rfl⟩
          simp -dsimp only [go_sem, e1]
          refine ck (fun h2 => ?_) (fun h2 => ?_)
          · have hne := zbne_t h2
            rw [if_pos hne] at hI
            have hf : eachF (fun _ a => blowI a p) 0 b [] = ([], (wideI (b.getD i default) p).2) := by rw [hr, e4, hI, if_pos hne]
            rw [hf]
            simp -dsimp only [go_sem]
            try rfl
          · have he := zbne_f h2
            rw [if_neg (fun e => e he)] at hI
            generalize (wideI (b.getD i default) p).1 = w at *
            simp -dsimp only [go_sem]
            refine (refScale_c w (-2) _ (sm_wN (rightN_sm hwr))).mono ?_
            rintro r st ⟨rfl, rfl⟩
            simp -dsimp only [go_sem]
            refine ck (fun h3 => ?_) (fun h3 => ?_)
            · have hne := zbne_t h3
              rw [if_pos hne] at hI
              have hf : eachF (fun _ a => blowI a p) 0 b [] = ([], (scaleN w (-2)).2) := by rw [hr, e4, hI, if_pos hne]
              rw [hf]
              simp -dsimp only [go_sem]
              try rfl
            · have he2 := zbne_f h3
              rw [if_neg (fun e => e he2)] at hI
              have hs := scaleN_right w (-2)
              generalize (scaleN w (-2)).1 = v at *
              have hv := sm_wN (rightN_sm hs)
              simp -dsimp only [go_sem]
              refine pwp_draw mixed 83 (.step 0 [] (.step 1 [] (.step 2 [] (.step 3 [] (.step 4 [] (.step 5 [] (.step 6 [] (.alt (.step 7 [] (.step 8 [] (.step 9 [] (.step 10 [] (.step 11 [4, 5] (.step 12 [] (.step 13 [] (.done)))))))) (.step 11 [4, 5] (.step 7 [] (.step 8 [] (.step 9 [] (.step 10 [] (.step 12 [] (.step 13 [] (.done)))))))))))))))) (by decide +kernel) (by simp) ?_
              simp -dsimp only [go_sem, e1]
              refine ⟨⟨by omega, by omega⟩, ?_, ?_⟩
              all_goals
                refine (refReckon1_c _ v p false _ hw.1 hv).mono ?_
                rintro r st ⟨rfl, rfl⟩
                simp -dsimp only [go_sem, e1]
                refine pwp_draw mixed 83 (.step 0 [] (.step 1 [] (.step 2 [] (.step 3 [] (.step 4 [] (.step 5 [] (.step 6 [] (.alt (.step 7 [] (.step 8 [] (.step 9 [] (.step 10 [] (.step 11 [4, 5] (.step 12 [] (.step 13 [] (.done)))))))) (.step 11 [4, 5] (.step 7 [] (.step 8 [] (.step 9 [] (.step 10 [] (.step 12 [] (.step 13 [] (.done)))))))))))))))) (by decide +kernel) (by simp) ?_
                simp -dsimp only [go_sem, e1]
                refine ⟨⟨by omega, by omega⟩, ?_, ?_⟩
                all_goals
                  refine (refReckon0_c _ v p true _ hw.2 hv).mono ?_
                  rintro r st ⟨rfl, rfl⟩
                  by_cases c1 : (reckN 1 (b.getD i default).lo v p false).2 = 0
                  · have f1 : ((reckN 1 (b.getD i default).lo v p false).2 != 0) = false := by rw [c1]; rfl
                    by_cases c2 : (reckN 0 (b.getD i default).hi v p true).2 = 0
                    · have f2 : ((reckN 0 (b.getD i default).hi v p true).2 != 0) = false := by rw [c2]; rfl
                      rw [if_neg (fun e => e.elim (fun e => e c1) (fun e => e c2))] at hI
                      simp -dsimp only [go_sem, f1, f2, e3]
                      refine ⟨by omega, b.length - (i + 1), by omega, i + 1, o ++ [(blowI (b.getD i default) p).1], rfl, by omega, by simp [ho], ?_, ?_⟩
                      · rw [hr, e4, if_neg (by rw [hI]; simp)]
                      · rw [hI]; simp [encIs, encI]
                    · have f2 : ((reckN 0 (b.getD i default).hi v p true).2 != 0) = true := bne_iff_ne.2 c2
                      rw [if_pos (.inr c2)] at hI
                      have hf : eachF (fun _ a => blowI a p) 0 b [] = ([], 2) := by rw [hr, e4, hI, if_pos (by decide)]
                      rw [hf]
                      simp -dsimp only [go_sem, f1, f2]
                      try rfl
                  · have f1 : ((reckN 1 (b.getD i default).lo v p false).2 != 0) = true := bne_iff_ne.2 c1
                    rw [if_pos (.inl c1)] at hI
                    have hf : eachF (fun _ a => blowI a p) 0 b [] = ([], 2) := by rw [hr, e4, hI, if_pos (by decide)]
                    rw [hf]
                    simp -dsimp only [go_sem, f1]
                    try rfl
        · have hge : i = b.length := by have := of_decide_eq_false h'; omega
          simp -dsimp only [go_sem]
          refine pwp_of_vc ?_
          simp -dsimp only [go_sem]
          rw [hr, hge, List.drop_length]; rfl
theorem helpNums_c (a b : List Nm) (st : Store) (ha : wNs a) (hb : wNs b) : PCalls Tryz.prog 73 [.sl .no (encNs a), .sl .no (encNs b)] st (fun r st' => r = .sc (.bool (decide (a = b))) ∧ st' = st) := by
  have hal := ha.1
  refine pcalls_enter none Tryz.func73 rfl fun E => pwp_of_vc ?_
  simp -dsimp only [go_sem]
  refine ck (fun h0 => ?_) (fun h0 => ?_)
  · have hne := nbne_t h0
    simp -dsimp only [go_sem]
    rw [decide_eq_false (fun e => hne (by rw [e]))]
  · have hl := nbne_f h0
    simp -dsimp only [go_sem]
    refine pwp_loop_mask [true, true, false, false, false, true] 0 0 (fun n s => ∃ i, n = a.length - i ∧ i ≤ a.length ∧ (∀ j, j < i → a.getD j default = b.getD j default) ∧ s = ⟨[.sl .no (encNs a), .sl .no (encNs b), .junk, .junk, .junk, .sc (.int .i64 (i : Nat))] ++ List.replicate 21 .junk, [], [], st⟩) a.length ?_ ?_
    · simp -dsimp only [go_sem]
      exact ⟨0, by omega, by omega, fun j hj => by omega, rfl⟩
    · rintro n s ⟨i, rfl, hi, hr, rfl⟩
      simp -dsimp only [go_sem]
      refine ck (fun h' => ?_) (fun h' => ?_)
      · have hlt : i < a.length := by have := of_decide_eq_true h'; omega
        have e1 := encNs_get a i hlt
        have e2 := encNs_get b i (by omega)
        have e3 : IntKind.i64.wrap ((i : Int) + 1) = ((i + 1 : Nat) : Int) := by rw [wrap_i64 _ (by omega) (by omega)]; omega
        have w1 := ha.2 i hlt
        have w2 := hb.2 i (by omega)
        unfold wN at w1 w2
        simp -dsimp only [go_sem]
        refine pwp_draw mixed 27 (.step 0 [] (.step 1 [] (.step 2 [] (.step 3 [] (.step 4 [] (.step 5 [] (.step 6 [] (.step 7 [] (.step 8 [] (.step 9 [] (.done))))))))))) (by decide +kernel) (by simp) ?_
        simp -dsimp only [go_sem, e1, e2]
        refine ⟨⟨by omega, by omega⟩, ⟨by omega, by omega⟩, ?_⟩
        refine (refSame_c _ _ _ (by omega) (by omega)).mono ?_
        rintro r st ⟨rfl, rfl⟩
        simp -dsimp only [go_sem]
        refine ck (fun h2 => ?_) (fun h2 => ?_)
        · have hf : ¬ a.getD i default = b.getD i default := by simpa using h2
          simp -dsimp only [go_sem]
          rw [decide_eq_false (fun e => hf (by rw [e]))]
        · have ht : a.getD i default = b.getD i default := by simpa using h2
          simp -dsimp only [go_sem, e3]
          refine ⟨a.length - (i + 1), by omega, i + 1, rfl, by omega, fun j hj => ?_, rfl⟩
          by_cases e : j = i
          · subst e; exact ht
          · exact hr j (by omega)
      · have hge : i = a.length := by have := of_decide_eq_false h'; omega
        simp -dsimp only [go_sem]
        refine pwp_of_vc ?_
        simp -dsimp only [go_sem]
        rw [decide_eq_true (eq_of_getD default hl fun j hj => hr j (by omega))]
end Go.Pv
end

section
/- The law's parts and reckons. -/
set_option linter.unusedVariables false
set_option linter.unusedSimpArgs false
set_option maxRecDepth 100000
namespace Go.Pv
open Go.Proofs
theorem eachF_all {α β : Type} (F : Nat → α → β × Int) (P : β → Prop) (hp : ∀ i x, x ∈ ([] : List α) ∨ P (F i x).1) : ∀ (l : List α) (i : Nat) (acc : List β), (∀ y, y ∈ acc → P y) → (∀ y, y ∈ (eachF F i l acc).1 → P y) ∧ (eachF F i l acc).1.length ≤ acc.length + l.length
  | [], i, acc, h => ⟨h, by simp [eachF]⟩
  | x :: l, i, acc, h => by
    unfold eachF
    split
    · exact ⟨fun y hy => by simp at hy, by simp⟩
    · obtain ⟨h1, h2⟩ := eachF_all F P hp l (i + 1) (acc ++ [(F i x).1]) (fun y hy => by
        rcases List.mem_append.1 hy with h3 | h3
        · exact h y h3
        · rw [List.mem_singleton.1 h3]; rcases hp i x with h4 | h4
          · simp at h4
          · exact h4)
      exact ⟨h1, by simp at h2 ⊢; omega⟩
theorem eachF_wB (F : Nat → Ivl → Ivl × Int) (hF : ∀ i x, wI (F i x).1) (l : List Ivl) (hl : l.length ≤ 100000000000) : wB (eachF F 0 l []).1 := by
  obtain ⟨h1, h2⟩ := eachF_all F wI (fun i x => .inr (hF i x)) l 0 [] (fun y hy => by simp at hy)
  exact ⟨by simp at h2; omega, fun i hi => h1 _ (mem_getD _ i default hi)⟩
theorem eachF_wNs (F : Nat → Ivl → Nm × Int) (hF : ∀ i x, wN (F i x).1) (l : List Ivl) (hl : l.length ≤ 100000000000) : wNs (eachF F 0 l []).1 := by
  obtain ⟨h1, h2⟩ := eachF_all F wN (fun i x => .inr (hF i x)) l 0 [] (fun y hy => by simp at hy)
  exact ⟨by simp at h2; omega, fun i hi => h1 _ (mem_getD _ i default hi)⟩
theorem wNs_nil : wNs [] := ⟨by simp, fun i hi => by simp at hi⟩
theorem wI_op (k : Nat) (a b : Ivl) (p : Int) : wI (opI k a b p).1 := wI_right (opI_right k a b p)
theorem meetI_wI (a b : Ivl) : wI (meetI a b).1 := by
  unfold meetI
  split
  · rename_i h
    split
    · exact wI_default
    · obtain ⟨a1, a2, _⟩ := rightI_right h.1
      obtain ⟨b1, b2, _⟩ := rightI_right h.2
      exact ⟨greatN_of (sm_wN (rightN_sm a1)) (sm_wN (rightN_sm b1)), leastN_of (sm_wN (rightN_sm a2)) (sm_wN (rightN_sm b2))⟩
  · exact wI_default
theorem blowI_wI (a : Ivl) (p : Int) : wI (blowI a p).1 := by
  unfold blowI
  split
  · exact wI_default
  · split
    · exact wI_default
    · split
      · exact wI_default
      · exact ⟨sm_wN (rightN_sm (reckN_right _ _ _ _ _)), sm_wN (rightN_sm (reckN_right _ _ _ _ _))⟩
theorem wB_op (k : Nat) (a b : List Ivl) (p : Int) (ha : wB a) : wB (opB k a b p).1 := by
  unfold opB
  split
  · exact eachF_wB _ (fun i x => wI_op _ _ _ _) a ha.1
  · exact wB_nil
theorem wB_meet (a b : List Ivl) (ha : wB a) : wB (pairsF meetI a b).1 := by
  unfold pairsF
  split
  · exact eachF_wB _ (fun i x => meetI_wI _ _) a ha.1
  · exact wB_nil
theorem wB_times (x : Ivl) (b : List Ivl) (p : Int) (hb : wB b) : wB (timesB x b p).1 := by
  unfold timesB
  split
  · exact eachF_wB _ (fun i x => wI_op _ _ _ _) b hb.1
  · exact wB_nil
theorem wB_blow (b : List Ivl) (p : Int) (hb : wB b) : wB (blowB b p).1 := by
  unfold blowB
  split
  · exact eachF_wB _ (fun i x => blowI_wI _ _) b hb.1
  · exact wB_nil
theorem wNs_mid (b : List Ivl) (p : Int) (hb : wB b) : wNs (midB b p).1 := by
  unfold midB
  split
  · exact eachF_wNs _ (fun i x => sm_wN (rightN_sm (midI_right _ _))) b hb.1
  · exact wNs_nil
theorem wN_wide (b : List Ivl) (p : Int) : wN (wideB b p).1 := by
  unfold wideB
  split
  · have h : ∀ y, y ∈ (widthsB b p).1 → wN y := by
      unfold widthsB
      split
      · exact (eachF_all _ wN (fun i x => .inr (sm_wN (rightN_sm (wideI_right _ _)))) b 0 [] (fun y hy => by simp at hy)).1
      · intro y hy; simp at hy
    by_cases hi : amax (widthsB b p).1 b.length < (widthsB b p).1.length
    · exact h _ (mem_getD _ _ default hi)
    · rw [List.getD_eq_getElem?_getD, List.getElem?_eq_none (by omega)]; exact wN_default
  · exact wN_default
theorem wB_of {q : List Nm} (h : wNs q) : wB (ofB q) := ⟨by unfold ofB; simpa using h.1, fun i hi => by
  have hi' : i < q.length := by simpa [ofB] using hi
  have := h.2 i hi'
  have e : (ofB q).getD i default = ⟨q.getD i default, q.getD i default⟩ := by
    unfold ofB
    simp [List.getD_eq_getElem?_getD, hi']
  rw [e]; exact ⟨this, this⟩⟩
theorem parts_c (a b : List Ivl) (q : List Nm) (st : Store) (ha : wB a) (hb : wB b) (hq : wNs q) : PCalls Tryz.prog 22 [.sl .no (encIs a), .sl .no (encIs b), .sl .no (encNs q)] st (fun r st' => r = .sc (.bool true) ∧ st' = st) := by
  refine pcalls_enter none Tryz.func22 rfl fun E => pwp_of_vc ?_
  have t1 : ((hullB a b).2 == (hullB a b).2) = true := by simp
  have t2 : ((pairsF meetI a b).2 == (pairsF meetI a b).2) = true := by simp
  simp -dsimp only [go_sem]
  refine (boxHull_c a b st ha hb).mono ?_
  rintro r st ⟨rfl, rfl⟩
  simp -dsimp only [go_sem]
  refine (boxMeet_c a b st ha hb).mono ?_
  rintro r st ⟨rfl, rfl⟩
  simp -dsimp only [go_sem]
  refine (hullBox_c a b st ha hb).mono ?_
  rintro r st ⟨rfl, rfl⟩
  simp -dsimp only [go_sem]
  refine (meetBox_c a b st ha hb).mono ?_
  rintro r st ⟨rfl, rfl⟩
  simp -dsimp only [go_sem, t1, t2]
  refine (sameBox_c _ _ st (wB_hull ha hb) (wB_hull ha hb)).mono ?_
  rintro r st ⟨rfl, rfl⟩
  simp -dsimp only [go_sem]
  refine (sameBox_c _ _ st (wB_meet a b ha) (wB_meet a b ha)).mono ?_
  rintro r st ⟨rfl, rfl⟩
  simp -dsimp only [go_sem]
  refine (boxRight_c a st ha).mono ?_
  rintro r st ⟨rfl, rfl⟩
  simp -dsimp only [go_sem]
  refine (rightBox_c a st ha).mono ?_
  rintro r st ⟨rfl, rfl⟩
  simp -dsimp only [go_sem]
  refine (boxSame_c a b st ha hb).mono ?_
  rintro r st ⟨rfl, rfl⟩
  simp -dsimp only [go_sem]
  refine (sameBox_c a b st ha hb).mono ?_
  rintro r st ⟨rfl, rfl⟩
  simp -dsimp only [go_sem]
  refine (boxIn_c a b st ha hb).mono ?_
  rintro r st ⟨rfl, rfl⟩
  simp -dsimp only [go_sem]
  refine (inBox_c a b st ha hb).mono ?_
  rintro r st ⟨rfl, rfl⟩
  simp -dsimp only [go_sem]
  refine (boxHas_c a q st ha hq).mono ?_
  rintro r st ⟨rfl, rfl⟩
  simp -dsimp only [go_sem]
  refine (hasPoint_c a q st ha hq).mono ?_
  rintro r st ⟨rfl, rfl⟩
  simp -dsimp only [go_sem]
  refine (boxOf_c q st hq).plain.mono ?_
  rintro r st ⟨rfl, rfl⟩
  simp -dsimp only [go_sem]
  refine (points_c q _ hq).plain.mono ?_
  rintro r st ⟨rfl, rfl⟩
  simp -dsimp only [go_sem]
  refine (sameBox_c _ _ _ (wB_of hq) (wB_of hq)).mono ?_
  rintro r st ⟨rfl, rfl⟩
  simp -dsimp only [go_sem]
theorem wN2 {x : Nm} (h : wN x) : x.w.length ≤ 9223372036854775806 := by unfold wN at h; omega
theorem reckons_c (a b : List Ivl) (x : Ivl) (p : Int) (st : Store) (ha : wB a) (hb : wB b) (hx : wI x) : PCalls Tryz.prog 26 [.sl .no (encIs a), .sl .no (encIs b), .agg (encI x), .sc (.int .i64 p)] st (fun r st' => r = .sc (.bool true) ∧ st' = st) := by
  refine pcalls_enter none Tryz.func26 rfl fun E => pwp_of_vc ?_
  have t1 : ((opB 0 a b p).2 == (opB 0 a b p).2) = true := by simp
  have t2 : ((opB 1 a b p).2 == (opB 1 a b p).2) = true := by simp
  have t3 : ((timesB x a p).2 == (timesB x a p).2) = true := by simp
  have t4 : ((midB a p).2 == (midB a p).2) = true := by simp
  have t5 : ((wideB a p).2 == (wideB a p).2) = true := by simp
  have t6 : ((blowB a p).2 == (blowB a p).2) = true := by simp
  simp -dsimp only [go_sem]
  refine (boxAdd_c a b p _ ha hb).mono ?_
  rintro r st ⟨rfl, rfl⟩
  simp -dsimp only [go_sem]
  refine (boxSub_c a b p _ ha hb).mono ?_
  rintro r st ⟨rfl, rfl⟩
  simp -dsimp only [go_sem]
  refine (boxTimes_c x a p _ hx ha).mono ?_
  rintro r st ⟨rfl, rfl⟩
  simp -dsimp only [go_sem]
  refine (boxMid_c a p _ ha).mono ?_
  rintro r st ⟨rfl, rfl⟩
  simp -dsimp only [go_sem]
  refine (boxWide_c a p _ ha).mono ?_
  rintro r st ⟨rfl, rfl⟩
  simp -dsimp only [go_sem]
  refine (boxBlow_c a p _ ha).mono ?_
  rintro r st ⟨rfl, rfl⟩
  simp -dsimp only [go_sem]
  refine (opBox0_c a b p _ ha hb).mono ?_
  rintro r st ⟨rfl, rfl⟩
  simp -dsimp only [go_sem]
  refine (opBox1_c a b p _ ha hb).mono ?_
  rintro r st ⟨rfl, rfl⟩
  simp -dsimp only [go_sem]
  refine (times6_c x a p _ hx ha).mono ?_
  rintro r st ⟨rfl, rfl⟩
  simp -dsimp only [go_sem]
  refine (midBox_c a p _ ha).mono ?_
  rintro r st ⟨rfl, rfl⟩
  simp -dsimp only [go_sem]
  refine (wideBox_c a p _ ha).mono ?_
  rintro r st ⟨rfl, rfl⟩
  simp -dsimp only [go_sem]
  refine (blow6_c a p _ ha).mono ?_
  rintro r st ⟨rfl, rfl⟩
  simp -dsimp only [go_sem, t1, t2, t3, t4, t5, t6]
  refine (sameBox_c _ _ _ (wB_op 0 a b p ha) (wB_op 0 a b p ha)).mono ?_
  rintro r st ⟨rfl, rfl⟩
  simp -dsimp only [go_sem]
  refine (sameBox_c _ _ _ (wB_op 1 a b p ha) (wB_op 1 a b p ha)).mono ?_
  rintro r st ⟨rfl, rfl⟩
  simp -dsimp only [go_sem]
  refine (sameBox_c _ _ _ (wB_times x a p ha) (wB_times x a p ha)).mono ?_
  rintro r st ⟨rfl, rfl⟩
  simp -dsimp only [go_sem]
  refine (helpNums_c _ _ _ (wNs_mid a p ha) (wNs_mid a p ha)).mono ?_
  rintro r st ⟨rfl, rfl⟩
  simp -dsimp only [go_sem]
  refine (refSame_c (wideB a p).1 (wideB a p).1 _ (wN2 (wN_wide a p)) (wN2 (wN_wide a p))).mono ?_
  rintro r st ⟨rfl, rfl⟩
  simp -dsimp only [go_sem]
  refine (sameBox_c _ _ _ (wB_blow a p ha) (wB_blow a p ha)).mono ?_
  rintro r st ⟨rfl, rfl⟩
  simp -dsimp only [go_sem]
end Go.Pv
end

section
/- The law's known and light. -/
set_option linter.unusedVariables false
set_option linter.unusedSimpArgs false
set_option maxRecDepth 100000
namespace Go.Pv
open Go.Proofs
def k1 : Nm := ⟨false, 0, [1]⟩
def k2 : Nm := ⟨false, 1, [1]⟩
def k4 : Nm := ⟨false, 2, [1]⟩
def kB : List Ivl := [⟨default, k1⟩, ⟨default, k4⟩]
def kX : List Ivl := [⟨default, k1⟩, ⟨default, k2⟩]
def kY : List Ivl := [⟨default, k1⟩, ⟨k2, k4⟩]
def kSm : List Ivl := [⟨default, k2⟩, ⟨k2, ⟨false, 1, [3]⟩⟩]
def kM : List Nm := [⟨false, -1, [1]⟩, k2]
def kZ : List Ivl := [⟨⟨true, -2, [1]⟩, ⟨false, -2, [5]⟩⟩, ⟨⟨true, 0, [1]⟩, ⟨false, 0, [5]⟩⟩]
theorem k_halve : halveB kB 16 = ((kX, kY), 0) := by decide +kernel
theorem k_hull : hullB kX kY = (kB, 0) := by decide +kernel
theorem k_add : opB 0 kX kY 16 = (kSm, 0) := by decide +kernel
theorem k_wide : wideB kB 16 = (k4, 0) := by decide +kernel
theorem k_mid : midB kB 16 = (kM, 0) := by decide +kernel
theorem k_blow : blowB kB 16 = (kZ, 0) := by decide +kernel
theorem k_rS : rightB kSm = true := by decide +kernel
theorem k_rB : rightB kB = true := by decide +kernel
theorem k_rX : rightB kX = true := by decide +kernel
theorem k_rY : rightB kY = true := by decide +kernel
theorem k_rZ : rightB kZ = true := by decide +kernel
theorem k_has : hasB kB kM = true := by decide +kernel
theorem k_in : inB kB kZ = true := by decide +kernel
theorem OL_app {P : Program} {ops l m : List Oper} {x : Oper} {K : PFS → Prop} {s : PFS} : OL P ops (List.append (x :: l) m) K s = OL P ops (x :: List.append l m) K s := rfl
theorem OL_app0 {P : Program} {ops m : List Oper} {K : PFS → Prop} {s : PFS} : OL P ops (List.append [] m) K s = OL P ops m K s := rfl
theorem kM_w : wNs kM := by
  refine ⟨by decide, fun i hi => ?_⟩
  have : i = 0 ∨ i = 1 := by have : kM.length = 2 := rfl
                             omega
  rcases this with rfl | rfl <;> exact by unfold wN; decide
theorem kB_enc : encIs kB = [.agg [.sc (.bool false), .sc (.int .i64 0), .sl .no [], .sc (.bool false), .sc (.int .i64 0), .sl .no [.sc (.int .u64 1)]],
  .agg [.sc (.bool false), .sc (.int .i64 0), .sl .no [], .sc (.bool false), .sc (.int .i64 2), .sl .no [.sc (.int .u64 1)]]] := rfl
theorem k4_enc : encN k4 = [.sc (.bool false), .sc (.int .i64 2), .sl .no [.sc (.int .u64 1)]] := rfl
theorem known6_c (st : Store) : PCalls Tryz.prog 8 [] st (fun r st' => r = .sc (.bool true) ∧ st' = st) := by
  have hB := rightB_wB k_rB
  have hX := rightB_wB k_rX
  have hY := rightB_wB k_rY
  refine pcalls_enter none Tryz.func8 rfl fun E => pwp_of_vc ?_
  simp -dsimp only [go_sem]
  rw [← kB_enc]

  refine (boxHalve_c kB 16 _ hB).mono ?_
  rintro r st ⟨rfl, rfl⟩
  rw [k_halve]
  simp -dsimp only [go_sem]
  refine (boxHull_c kX kY _ hX hY).mono ?_
  rintro r st ⟨rfl, rfl⟩
  rw [k_hull]
  simp -dsimp only [go_sem]
  refine (boxAdd_c kX kY 16 _ hX hY).mono ?_
  rintro r st ⟨rfl, rfl⟩
  rw [k_add]
  simp -dsimp only [go_sem]
  refine (boxWide_c kB 16 _ hB).mono ?_
  rintro r st ⟨rfl, rfl⟩
  rw [k_wide]
  simp -dsimp only [go_sem]
  refine (boxMid_c kB 16 _ hB).mono ?_
  rintro r st ⟨rfl, rfl⟩
  rw [k_mid]
  simp -dsimp only [go_sem]
  have b0 : ((0 : Int) == 0) = true := rfl
  have d1 : ((kX.length : Int) == 2) = true := rfl
  have d2 := encIs_get kX 1 (by decide)
  have d3 : kX.getD 1 default = ⟨default, k2⟩ := rfl
  have d4 : (((1 : Nat) : Int) == 1) = true := rfl
  have d5 : (k2.exp == 1) = true := rfl
  refine (boxBlow_c kB 16 _ hB).mono ?_
  rintro r st ⟨rfl, rfl⟩
  rw [k_blow]
  simp -dsimp only [go_sem, b0, OL_app, OL_app0, List.append_eq, List.cons_append, List.nil_append]
  refine (boxSame_c kB kB _ hB hB).mono ?_
  rintro r st ⟨rfl, rfl⟩
  simp -dsimp only [go_sem, d1, d2, d3, d4, d5, OL_app, OL_app0, List.append_eq, List.cons_append, List.nil_append]
  refine ⟨by decide, ?_⟩
  refine (boxRight_c kSm _ (rightB_wB k_rS)).mono ?_
  rintro r st ⟨rfl, rfl⟩
  rw [k_rS]
  simp -dsimp only [go_sem, OL_app, OL_app0, List.append_eq, List.cons_append, List.nil_append]
  refine (refSame_c k4 k4 _ (by decide) (by decide)).mono ?_
  rintro r st ⟨rfl, rfl⟩
  simp -dsimp only [go_sem, OL_app, OL_app0, List.append_eq, List.cons_append, List.nil_append]
  refine (boxHas_c kB kM _ hB kM_w).mono ?_
  rintro r st ⟨rfl, rfl⟩
  rw [k_has]
  simp -dsimp only [go_sem, OL_app, OL_app0, List.append_eq, List.cons_append, List.nil_append]
  refine (boxIn_c kB kZ _ hB (rightB_wB k_rZ)).mono ?_
  rintro r st ⟨rfl, rfl⟩
  rw [k_in]
  simp -dsimp only [go_sem, OL_app, OL_app0, List.append_eq, List.cons_append, List.nil_append]
  refine (boxRight_c kB _ hB).mono ?_
  rintro r st ⟨rfl, rfl⟩
  rw [k_rB]
  simp -dsimp only [go_sem, OL_app, OL_app0, List.append_eq, List.cons_append, List.nil_append]

  refine ((boxOf_c kM _ kM_w).plain).mono ?_
  rintro r st ⟨rfl, rfl⟩
  simp -dsimp only [go_sem, OL_app, OL_app0, List.append_eq, List.cons_append, List.nil_append]
  rfl
theorem succW (i : Nat) (h : i < 100000000000000) : IntKind.i64.wrap ((i : Int) + 1) = ((i + 1 : Nat) : Int) := by rw [wrap_i64 _ (by omega) (by omega)]; omega
/-- Boxes, one behind the other. -/
def encIss (l : List (List Ivl)) : List PV := l.map fun c => .sl .no (encIs c)
theorem encIss_length (l : List (List Ivl)) : (encIss l).length = l.length := by simp [encIss]
theorem encIss_get (l : List (List Ivl)) (n : Nat) (h : n < l.length) : (encIss l).getD n .junk = .sl .no (encIs (l.getD n default)) := by
  simp [encIss, h, List.getD_eq_getElem?_getD]
theorem light_c (l : List (List Ivl)) (st : Store) (hl : l.length ≤ 100000000000) (hw : ∀ i, i < l.length → (l.getD i default).length ≤ 100000000000) : PCalls Tryz.prog 9 [.sl .no (encIss l)] st (fun r st' => (∃ b, r = .sc (.bool b)) ∧ st' = st) := by
  refine pcalls_enter none Tryz.func9 rfl fun E => pwp_of_vc ?_
  simp -dsimp only [go_sem]
  refine pwp_loop_mask [true, false, false, true] 0 0 (fun n s => ∃ i, n = l.length - i ∧ i ≤ l.length ∧ s = ⟨[.sl .no (encIss l), .junk, .junk, .sc (.int .i64 i)] ++ List.replicate 46 .junk, [], [], st⟩) l.length ?_ ?_
  · simp -dsimp only [go_sem]
    exact ⟨0, by omega, by omega, rfl⟩
  · rintro n s ⟨i, rfl, hi, rfl⟩
    simp -dsimp only [go_sem, encIss_length]
    refine ck (fun h2 => ?_) (fun h2 => ?_)
    · have hlt : i < l.length := by have := of_decide_eq_true h2; omega
      have e1 := encIss_get l i hlt
      have e3 := succW i (by omega)
      have hwi := hw i hlt
      simp -dsimp only [go_sem, e1, encIss_length]
      refine ⟨by omega, ?_⟩
      refine ck (fun h3 => ?_) (fun h3 => ?_)
      · simp -dsimp only [go_sem]
        exact ⟨_, rfl⟩
      · simp -dsimp only [go_sem]
        refine pwp_loop_mask [true, false, false, true, true] 0 0 (fun n s => ∃ j, n = (l.getD i default).length - j ∧ j ≤ (l.getD i default).length ∧ s = ⟨[.sl .no (encIss l), .junk, .junk, .sc (.int .i64 i), .sc (.int .i64 j)] ++ List.replicate 45 .junk, [], [], st⟩) (l.getD i default).length ?_ ?_
        · simp -dsimp only [go_sem]
          exact ⟨0, by omega, by omega, rfl⟩
        · rintro n s ⟨j, rfl, hj, rfl⟩
          simp -dsimp only [go_sem, encIss_length, e1]
          refine ⟨by omega, ck (fun h4 => ?_) (fun h4 => ?_)⟩
          · have hlt2 : j < (l.getD i default).length := by have := of_decide_eq_true h4; omega
            have f1 := encIs_get (l.getD i default) j hlt2
            have f3 := succW j (by omega)
            simp -dsimp only [go_sem, encIss_length, e1, f1]
            refine ⟨⟨by omega, hlt⟩, ⟨by omega, hlt2⟩, ?_⟩
            refine gkF (fun h5 => ?_) (fun h5 => ?_)
            · simp -dsimp only [go_sem, h5, encIss_length, e1, f1]
              refine ⟨⟨by omega, hlt⟩, ⟨by omega, hlt2⟩, ck (fun h6 => ?_) (fun h6 => ?_)⟩
              · simp -dsimp only [go_sem]
                exact ⟨_, rfl⟩
              · simp -dsimp only [go_sem, f3]
                exact ⟨(l.getD i default).length - (j + 1), by omega, j + 1, rfl, by omega, rfl⟩
            · simp -dsimp only [go_sem, h5]
              exact ⟨_, rfl⟩
          · simp -dsimp only [go_sem]
            refine pwp_of_vc ?_
            simp -dsimp only [go_sem, e3]
            exact ⟨l.length - (i + 1), by omega, i + 1, rfl, by omega, rfl⟩
    · simp -dsimp only [go_sem]
      refine pwp_of_vc ?_
      simp -dsimp only [go_sem]
      exact ⟨_, rfl⟩
end Go.Pv
end
