/- Parts of the walk: N21, N22, N24, N25. -/
import Derived.Test.YtcfgdppnoephnaaGreatDoorZAG
set_option linter.unusedVariables false
set_option linter.unusedSimpArgs false
section
/- The document's boxes: MeetBox, widest, WideBox, Blow; Nums. -/
set_option linter.unusedVariables false
set_option linter.unusedSimpArgs false
set_option maxRecDepth 100000
namespace Go.Pv
open Go.Proofs
theorem qN_default : qN (default : Nm) = 0 := by unfold qN; exact qM_zero 0
theorem wide_nonneg (a : Ivl) (p : Int) : 0 ≤ qN (wideI a p).1 := by
  unfold wideI
  split
  · rename_i h
    have c := canI h.1
    have hq := qI_le h.1
    by_cases he : (numV (roundV (lessV (ofN a.hi) (ofN a.lo)) p.toNat true)).2 = 0
    · rw [(numV_val (canV_round (canV_less c.2 c.1) _ _) he).2]
      have h1 := roundV_ge (lessV (ofN a.hi) (ofN a.lo)) p.toNat
      rw [qV_less] at h1
      grind
    · rcases numV_err (roundV (lessV (ofN a.hi) (ofN a.lo)) p.toNat true) with e | e
      · exact absurd e he
      · rw [e]; show 0 ≤ qN (default : Nm); rw [qN_default]; exact Rat.le_refl
  · show 0 ≤ qN (default : Nm); rw [qN_default]; exact Rat.le_refl
theorem amax_app (l : List Nm) (x : Nm) : ∀ n, n ≤ l.length → amax (l ++ [x]) n = amax l n
  | 0, _ => rfl
  | n + 1, h => by
    have ih := amax_app l x n (by omega)
    unfold amax
    rw [ih]
    have hm : amax l n < l.length := by
      by_cases h0 : n = 0
      · subst h0; show 0 < _; omega
      · have := amax_lt l n (by omega) (by omega); omega
    have g : ∀ i, i < l.length → (l ++ [x]).getD i default = l.getD i default := fun i hi => getD_app_lt _ _ _ _ hi
    rw [g n (by omega), g _ hm]
/-- The widest so far. -/
def mostF (o : List Nm) : Nm := if o.length = 0 then default else o.getD (amax o o.length) default
theorem most_step (o : List Nm) (w : Nm) (hw : rightN w = true) (h0 : 0 ≤ qN w) (ho : ∀ x ∈ o, rightN x = true) :
    (cmpR w (mostF o) > 0 → amax (o ++ [w]) (o.length + 1) = o.length ∧ mostF (o ++ [w]) = w) ∧ (¬ cmpR w (mostF o) > 0 → amax (o ++ [w]) (o.length + 1) = amax o o.length ∧ mostF (o ++ [w]) = mostF o) := by
  have gl : (o ++ [w]).getD o.length default = w := by rw [List.getD_eq_getElem?_getD, List.getElem?_append_right (Nat.le_refl _)]; simp
  have hs : amax (o ++ [w]) (o.length + 1) = if cmpR w ((o ++ [w]).getD (amax o o.length) default) > 0 then o.length else amax o o.length := by
    rw [amax, amax_app o w o.length (Nat.le_refl _), gl]
  have hm2 : mostF (o ++ [w]) = (o ++ [w]).getD (amax (o ++ [w]) (o.length + 1)) default := by
    unfold mostF; rw [if_neg (by simp), List.length_append]; rfl
  by_cases hz : o.length = 0
  · have ho0 : o = [] := List.length_eq_zero_iff.1 hz
    subst ho0
    have hself : cmpR w w = 0 := by unfold cmpR; rw [if_pos ⟨hw, hw⟩, cmpN_self]
    have hg : ([] ++ [w] : List Nm).getD (amax [] ([] : List Nm).length) default = w := rfl
    rw [hg, hself, if_neg (by decide)] at hs
    have hm3 : mostF ([] ++ [w]) = w := by rw [hm2, hs]; rfl
    refine ⟨fun h => ⟨by rw [hs]; rfl, hm3⟩, fun h => ⟨hs, ?_⟩⟩
    rw [hm3]
    show w = mostF []
    have hd : mostF [] = default := rfl
    rw [hd] at h ⊢
    refine rightN_eq hw rightN_default ?_
    have h1 : cmpR w default = cmpN w default := if_pos ⟨hw, rightN_default⟩
    rw [h1] at h
    have h2 : ¬ qN (default : Nm) < qN w := fun e => h (cmpN_gt.2 e)
    have h3 : qN (default : Nm) = 0 := by unfold qN; exact qM_zero 0
    rw [h3] at h2 ⊢
    grind
  · have hlt := amax_lt o o.length (by omega) (Nat.le_refl _)
    have hg : (o ++ [w]).getD (amax o o.length) default = o.getD (amax o o.length) default := getD_app_lt _ _ _ _ hlt
    have hmo : mostF o = o.getD (amax o o.length) default := if_neg hz
    rw [hg, ← hmo] at hs
    refine ⟨fun h => ?_, fun h => ?_⟩
    · rw [if_pos h] at hs
      exact ⟨hs, by rw [hm2, hs, gl]⟩
    · rw [if_neg h] at hs
      exact ⟨hs, by rw [hm2, hs, hg, hmo]⟩
theorem mostF_right (o : List Nm) (ho : ∀ x ∈ o, rightN x = true) : rightN (mostF o) = true := by
  unfold mostF
  split
  · exact rightN_default
  · rename_i h
    exact ho _ (mem_getD _ _ _ (amax_lt o o.length (by omega) (Nat.le_refl _)))
set_option maxHeartbeats 1000000 in
theorem widest_c (b : List Ivl) (p : Int) (st : Store) (hb : wB b) : PCalls Tryz.prog 87 [.sl .no (encIs b), .sc (.int .i64 p)] st
    (fun r st' => r = .tup [.sc (.int .i64 (if (widthsB b p).2 = 0 then amax (widthsB b p).1 b.length else 0 : Nat)), .agg (encN (wideB b p).1), .sc (.int .i64 (wideB b p).2)] ∧ st' = st) := by
  have hbl := hb.1
  refine pcalls_enter none Tryz.func87 rfl fun E => pwp_of_vc ?_
  unfold wideB
  simp -dsimp only [go_sem]
  refine (rightBox_c b _ hb).mono ?_
  rintro r st ⟨rfl, rfl⟩
  cases r1 : rightB b with
  | false =>
    have hw : widthsB b p = ([], 1) := by rw [widthsB, if_neg (by simp [r1])]
    rw [hw]
    simp -dsimp only [go_sem]
    rfl
  | true =>
    simp -dsimp only [go_sem]
    refine (precs6_c p _).mono ?_
    rintro r st ⟨rfl, rfl⟩
    cases r3 : precF p with
    | false =>
      have hw : widthsB b p = ([], 1) := by rw [widthsB, if_neg (by simp [r3])]
      rw [hw]
      simp -dsimp only [go_sem]
      rfl
    | true =>
      have hab : widthsB b p = eachF (fun _ a => wideI a p) 0 b [] := if_pos ⟨r1, r3⟩
      rw [hab]
      simp -dsimp only [go_sem]
      refine pwp_plainBox 1 ?_
      simp -dsimp only [go_sem]
      refine pwp_loop_mask [true, true, false, false, false, true, false, true, true, true] 2 0 (fun n s => ∃ i o, n = b.length - i ∧ i ≤ b.length ∧ o.length = i ∧ (∀ x ∈ o, rightN x = true) ∧ eachF (fun _ a => wideI a p) 0 b [] = eachF (fun _ a => wideI a p) i (b.drop i) o ∧ s = ⟨[.sl .no (encIs b), .sc (.int .i64 p), .junk, .junk, .junk, .lp 0 0, .junk, .sc (.int .i64 (amax o i : Nat)), .lp 1 0, .sc (.int .i64 (i : Nat))] ++ List.replicate 39 .junk, [[.sc (.bool false), .sc (.int .i64 0), .sl .full []], encN (mostF o)], [], st⟩) b.length ?_ ?_
      · simp -dsimp only [go_sem]
        exact ⟨0, [], by omega, by omega, rfl, (fun x hx => by cases hx), rfl, rfl⟩
      · rintro n s ⟨i, o, rfl, hi, ho, hor, hr, rfl⟩
        simp -dsimp only [go_sem]
        refine ck (fun h' => ?_) (fun h' => ?_)
        · have hlt : i < b.length := by have := of_decide_eq_true h'; omega
          have e1 := encIs_get b i hlt
          have e3 : IntKind.i64.wrap ((i : Int) + 1) = ((i + 1 : Nat) : Int) := by rw [wrap_i64 _ (by omega) (by omega)]; omega
          have e4 := eachF_drop (fun _ a => wideI a p) b i o hlt
          have hwr := wideI_right (b.getD i default) p
          have hmr := mostF_right o hor
          have hstep := most_step o (wideI (b.getD i default) p).1 hwr (wide_nonneg _ p) hor
          rw [ho] at hstep
          have hor' : ∀ x ∈ o ++ [(wideI (b.getD i default) p).1], rightN x = true := fun x hx => by
            rcases List.mem_append.1 hx with h | h
            · exact hor x h
            · simp at h; rw [h]; exact hwr
          simp -dsimp only [go_sem, e1]
          refine ⟨⟨by omega, by omega⟩, ?_⟩
          refine (refWide_c _ p _ (hb.2 i hlt)).mono ?_
          rintro r st ⟨rfl, rfl⟩
          simp -dsimp only [go_sem, e1]
          refine ck (fun h2 => ?_) (fun h2 => ?_)
          · have hne := zbne_t h2
            have hf : eachF (fun _ a => wideI a p) 0 b [] = ([], (wideI (b.getD i default) p).2) := by rw [hr, e4, if_pos hne]
            rw [hf, if_neg hne, if_neg hne]
            simp -dsimp only [go_sem]
            rfl
          · have he := zbne_f h2
            simp -dsimp only [go_sem]
            refine (cmpNum_c _ (mostF o) _ (sm_wN1 hwr) (sm_wN1 hmr)).mono ?_
            rintro r st ⟨rfl, rfl⟩
            simp -dsimp only [go_sem]
            refine ck (fun h3 => ?_) (fun h3 => ?_)
            · have hc : cmpR (wideI (b.getD i default) p).1 (mostF o) > 0 := of_decide_eq_true h3
              obtain ⟨s1, s2⟩ := hstep.1 hc
              simp -dsimp only [go_sem]
              refine pwp_draw mixed 49 (.step 0 [] (.step 1 [] (.step 2 [] (.step 3 [] (.done))))) (by decide +kernel) (by simp) ?_
              simp -dsimp only [go_sem, e3]
              refine ⟨b.length - (i + 1), by omega, i + 1, o ++ [(wideI (b.getD i default) p).1], rfl, by omega, by simp [ho], hor', ?_, ?_⟩
              · rw [hr, e4, if_neg (fun hh => hh he)]
              · rw [s1, s2]
                try rfl
            · have hc : ¬ cmpR (wideI (b.getD i default) p).1 (mostF o) > 0 := of_decide_eq_false h3
              obtain ⟨s1, s2⟩ := hstep.2 hc
              simp -dsimp only [go_sem, e3]
              refine ⟨b.length - (i + 1), by omega, i + 1, o ++ [(wideI (b.getD i default) p).1], rfl, by omega, by simp [ho], hor', ?_, ?_⟩
              · rw [hr, e4, if_neg (fun hh => hh he)]
              · rw [s1, s2]
                try rfl
        · have hge : i = b.length := by have := of_decide_eq_false h'; omega
          have hf : eachF (fun _ a => wideI a p) 0 b [] = (o, 0) := by rw [hr, hge, List.drop_length]; rfl
          have hm : mostF o = o.getD (amax o b.length) default := by
            unfold mostF
            have := (rightB_len r1).1
            rw [if_neg (by omega), ho, hge]
          rw [hf, if_pos rfl, if_pos rfl]
          simp -dsimp only [go_sem]
          refine pwp_of_vc ?_
          simp -dsimp only [go_sem]
          refine pwp_draw mixed 49 (.step 0 [] (.step 1 [] (.step 2 [] (.step 3 [] (.step 4 [] (.done)))))) (by decide +kernel) (by simp) ?_
          simp -dsimp only [go_sem]
          rw [hm, hge]
end Go.Pv
end

section
/- The document's Blow; Nums. -/
set_option linter.unusedVariables false
set_option linter.unusedSimpArgs false
set_option maxRecDepth 100000
namespace Go.Pv
open Go.Proofs
theorem helpNums_c (a b : List Nm) (st : Store) (ha : wNs a) (hb : wNs b) : PCalls Tryz.prog 160 [.sl .no (encNs a), .sl .no (encNs b)] st (fun r st' => r = .sc (.bool (decide (a = b))) ∧ st' = st) := by
  have hal := ha.1
  refine pcalls_enter none Tryz.func160 rfl fun E => pwp_of_vc ?_
  simp -dsimp only [go_sem]
  refine ck (fun h0 => ?_) (fun h0 => ?_)
  · have hne := nbne_t h0
    simp -dsimp only [go_sem]
    rw [decide_eq_false (fun e => hne (by rw [e]))]
  · have hl := nbne_f h0
    simp -dsimp only [go_sem]
    refine pwp_loop_mask [true, true, false, false, false, true] 0 0 (fun n s => ∃ i, n = a.length - i ∧ i ≤ a.length ∧ (∀ j, j < i → a.getD j default = b.getD j default) ∧ s = ⟨[.sl .no (encNs a), .sl .no (encNs b), .junk, .junk, .junk, .sc (.int .i64 (i : Nat))] ++ List.replicate 21 .junk, [], [], st⟩) a.length ?_ ?_
    · simp -dsimp only [go_sem]
      exact ⟨0, by omega, by omega, fun j hj => by omega, rfl⟩
    · rintro n s ⟨i, rfl, hi, hr, rfl⟩
      simp -dsimp only [go_sem]
      refine ck (fun h' => ?_) (fun h' => ?_)
      · have hlt : i < a.length := by have := of_decide_eq_true h'; omega
        have e1 := encNs_get a i hlt
        have e2 := encNs_get b i (by omega)
        have e3 : IntKind.i64.wrap ((i : Int) + 1) = ((i + 1 : Nat) : Int) := by rw [wrap_i64 _ (by omega) (by omega)]; omega
        have w1 := ha.2 i hlt
        have w2 := hb.2 i (by omega)
        unfold wN at w1 w2
        simp -dsimp only [go_sem]
        refine pwp_draw mixed 27 (.step 0 [] (.step 1 [] (.step 2 [] (.step 3 [] (.step 4 [] (.step 5 [] (.step 6 [] (.step 7 [] (.step 8 [] (.step 9 [] (.done))))))))))) (by decide +kernel) (by simp) ?_
        simp -dsimp only [go_sem, e1, e2]
        refine ⟨⟨by omega, by omega⟩, ⟨by omega, by omega⟩, ?_⟩
        refine (refSame_c _ _ _ (by omega) (by omega)).mono ?_
        rintro r st ⟨rfl, rfl⟩
        simp -dsimp only [go_sem]
        refine ck (fun h2 => ?_) (fun h2 => ?_)
        · have hf : ¬ a.getD i default = b.getD i default := by simpa using h2
          simp -dsimp only [go_sem]
          rw [decide_eq_false (fun e => hf (by rw [e]))]
        · have ht : a.getD i default = b.getD i default := by simpa using h2
          simp -dsimp only [go_sem, e3]
          refine ⟨a.length - (i + 1), by omega, i + 1, rfl, by omega, fun j hj => ?_, rfl⟩
          by_cases e : j = i
          · subst e; exact ht
          · exact hr j (by omega)
      · have hge : i = a.length := by have := of_decide_eq_false h'; omega
        simp -dsimp only [go_sem]
        refine pwp_of_vc ?_
        simp -dsimp only [go_sem]
        rw [decide_eq_true (eq_of_getD default hl fun j hj => hr j (by omega))]
end Go.Pv
end

section
/- The law's parts and reckons. -/
set_option linter.unusedVariables false
set_option linter.unusedSimpArgs false
set_option maxRecDepth 100000
namespace Go.Pv
open Go.Proofs
theorem eachF_all {α β : Type} (F : Nat → α → β × Int) (P : β → Prop) (hp : ∀ i x, x ∈ ([] : List α) ∨ P (F i x).1) : ∀ (l : List α) (i : Nat) (acc : List β), (∀ y, y ∈ acc → P y) → (∀ y, y ∈ (eachF F i l acc).1 → P y) ∧ (eachF F i l acc).1.length ≤ acc.length + l.length
  | [], i, acc, h => ⟨h, by simp [eachF]⟩
  | x :: l, i, acc, h => by
    unfold eachF
    split
    · exact ⟨fun y hy => by simp at hy, by simp⟩
    · obtain ⟨h1, h2⟩ := eachF_all F P hp l (i + 1) (acc ++ [(F i x).1]) (fun y hy => by
        rcases List.mem_append.1 hy with h3 | h3
        · exact h y h3
        · rw [List.mem_singleton.1 h3]; rcases hp i x with h4 | h4
          · simp at h4
          · exact h4)
      exact ⟨h1, by simp at h2 ⊢; omega⟩
theorem eachF_wB (F : Nat → Ivl → Ivl × Int) (hF : ∀ i x, wI (F i x).1) (l : List Ivl) (hl : l.length ≤ 100000000000) : wB (eachF F 0 l []).1 := by
  obtain ⟨h1, h2⟩ := eachF_all F wI (fun i x => .inr (hF i x)) l 0 [] (fun y hy => by simp at hy)
  exact ⟨by simp at h2; omega, fun i hi => h1 _ (mem_getD _ i default hi)⟩
theorem eachF_wNs (F : Nat → Ivl → Nm × Int) (hF : ∀ i x, wN (F i x).1) (l : List Ivl) (hl : l.length ≤ 100000000000) : wNs (eachF F 0 l []).1 := by
  obtain ⟨h1, h2⟩ := eachF_all F wN (fun i x => .inr (hF i x)) l 0 [] (fun y hy => by simp at hy)
  exact ⟨by simp at h2; omega, fun i hi => h1 _ (mem_getD _ i default hi)⟩
theorem wNs_nil : wNs [] := ⟨by simp, fun i hi => by simp at hi⟩
theorem wI_op (k : Nat) (a b : Ivl) (p : Int) : wI (opI k a b p).1 := wI_right (opI_right k a b p)
theorem meetI_wI (a b : Ivl) : wI (meetI a b).1 := by
  unfold meetI
  split
  · rename_i h
    split
    · exact wI_default
    · obtain ⟨a1, a2, _⟩ := rightI_right h.1
      obtain ⟨b1, b2, _⟩ := rightI_right h.2
      exact ⟨greatN_of (sm_wN (rightN_sm a1)) (sm_wN (rightN_sm b1)), leastN_of (sm_wN (rightN_sm a2)) (sm_wN (rightN_sm b2))⟩
  · exact wI_default
theorem blowI_wI (a : Ivl) (p : Int) : wI (blowI a p).1 := by
  unfold blowI
  split
  · exact wI_default
  · split
    · exact wI_default
    · split
      · exact wI_default
      · exact ⟨sm_wN (rightN_sm (reckN_right _ _ _ _ _)), sm_wN (rightN_sm (reckN_right _ _ _ _ _))⟩
theorem wB_op (k : Nat) (a b : List Ivl) (p : Int) (ha : wB a) : wB (opB k a b p).1 := by
  unfold opB
  split
  · exact eachF_wB _ (fun i x => wI_op _ _ _ _) a ha.1
  · exact wB_nil
theorem wB_meet (a b : List Ivl) (ha : wB a) : wB (pairsF meetI a b).1 := by
  unfold pairsF
  split
  · exact eachF_wB _ (fun i x => meetI_wI _ _) a ha.1
  · exact wB_nil
theorem wB_times (x : Ivl) (b : List Ivl) (p : Int) (hb : wB b) : wB (timesB x b p).1 := by
  unfold timesB
  split
  · exact eachF_wB _ (fun i x => wI_op _ _ _ _) b hb.1
  · exact wB_nil
theorem wB_blow (b : List Ivl) (p : Int) (hb : wB b) : wB (blowB b p).1 := by
  unfold blowB
  split
  · exact eachF_wB _ (fun i x => blowI_wI _ _) b hb.1
  · exact wB_nil
theorem wNs_mid (b : List Ivl) (p : Int) (hb : wB b) : wNs (midB b p).1 := by
  unfold midB
  split
  · exact eachF_wNs _ (fun i x => sm_wN (rightN_sm (midI_right _ _))) b hb.1
  · exact wNs_nil
theorem wN_wide (b : List Ivl) (p : Int) : wN (wideB b p).1 := by
  unfold wideB
  split
  · have h : ∀ y, y ∈ (widthsB b p).1 → wN y := by
      unfold widthsB
      split
      · exact (eachF_all _ wN (fun i x => .inr (sm_wN (rightN_sm (wideI_right _ _)))) b 0 [] (fun y hy => by simp at hy)).1
      · intro y hy; simp at hy
    by_cases hi : amax (widthsB b p).1 b.length < (widthsB b p).1.length
    · exact h _ (mem_getD _ _ default hi)
    · rw [List.getD_eq_getElem?_getD, List.getElem?_eq_none (by omega)]; exact wN_default
  · exact wN_default
theorem wB_of {q : List Nm} (h : wNs q) : wB (ofB q) := ⟨by unfold ofB; simpa using h.1, fun i hi => by
  have hi' : i < q.length := by simpa [ofB] using hi
  have := h.2 i hi'
  have e : (ofB q).getD i default = ⟨q.getD i default, q.getD i default⟩ := by
    unfold ofB
    simp [List.getD_eq_getElem?_getD, hi']
  rw [e]; exact ⟨this, this⟩⟩
theorem wN2 {x : Nm} (h : wN x) : x.w.length ≤ 9223372036854775806 := by unfold wN at h; omega
end Go.Pv
end

section
/- The law's known and light. -/
set_option linter.unusedVariables false
set_option linter.unusedSimpArgs false
set_option maxRecDepth 100000
namespace Go.Pv
open Go.Proofs
def k1 : Nm := ⟨false, 0, [1]⟩
def k2 : Nm := ⟨false, 1, [1]⟩
def k4 : Nm := ⟨false, 2, [1]⟩
def kB : List Ivl := [⟨default, k1⟩, ⟨default, k4⟩]
def kX : List Ivl := [⟨default, k1⟩, ⟨default, k2⟩]
def kY : List Ivl := [⟨default, k1⟩, ⟨k2, k4⟩]
def kSm : List Ivl := [⟨default, k2⟩, ⟨k2, ⟨false, 1, [3]⟩⟩]
def kM : List Nm := [⟨false, -1, [1]⟩, k2]
def kZ : List Ivl := [⟨⟨true, -2, [1]⟩, ⟨false, -2, [5]⟩⟩, ⟨⟨true, 0, [1]⟩, ⟨false, 0, [5]⟩⟩]
theorem k_halve : halveB kB 16 = ((kX, kY), 0) := by decide +kernel
theorem k_hull : hullB kX kY = (kB, 0) := by decide +kernel
theorem k_add : opB 0 kX kY 16 = (kSm, 0) := by decide +kernel
theorem k_wide : wideB kB 16 = (k4, 0) := by decide +kernel
theorem k_mid : midB kB 16 = (kM, 0) := by decide +kernel
theorem k_blow : blowB kB 16 = (kZ, 0) := by decide +kernel
theorem k_rS : rightB kSm = true := by decide +kernel
theorem k_rB : rightB kB = true := by decide +kernel
theorem k_rX : rightB kX = true := by decide +kernel
theorem k_rY : rightB kY = true := by decide +kernel
theorem k_rZ : rightB kZ = true := by decide +kernel
theorem k_has : hasB kB kM = true := by decide +kernel
theorem k_in : inB kB kZ = true := by decide +kernel
theorem OL_app {P : Program} {ops l m : List Oper} {x : Oper} {K : PFS → Prop} {s : PFS} : OL P ops (List.append (x :: l) m) K s = OL P ops (x :: List.append l m) K s := rfl
theorem OL_app0 {P : Program} {ops m : List Oper} {K : PFS → Prop} {s : PFS} : OL P ops (List.append [] m) K s = OL P ops m K s := rfl
theorem kM_w : wNs kM := by
  refine ⟨by decide, fun i hi => ?_⟩
  have : i = 0 ∨ i = 1 := by have : kM.length = 2 := rfl
                             omega
  rcases this with rfl | rfl <;> exact by unfold wN; decide
theorem kB_enc : encIs kB = [.agg [.sc (.bool false), .sc (.int .i64 0), .sl .no [], .sc (.bool false), .sc (.int .i64 0), .sl .no [.sc (.int .u64 1)]],
  .agg [.sc (.bool false), .sc (.int .i64 0), .sl .no [], .sc (.bool false), .sc (.int .i64 2), .sl .no [.sc (.int .u64 1)]]] := rfl
theorem k4_enc : encN k4 = [.sc (.bool false), .sc (.int .i64 2), .sl .no [.sc (.int .u64 1)]] := rfl
theorem known6_c (st : Store) : PCalls Tryz.prog 13 [] st (fun r st' => r = .sc (.bool true) ∧ st' = st) := by
  have hB := rightB_wB k_rB
  have hX := rightB_wB k_rX
  have hY := rightB_wB k_rY
  refine pcalls_enter none Tryz.func13 rfl fun E => pwp_of_vc ?_
  simp -dsimp only [go_sem]
  rw [← kB_enc]

  refine (boxHalve_c kB 16 _ hB).mono ?_
  rintro r st ⟨rfl, rfl⟩
  rw [k_halve]
  simp -dsimp only [go_sem]
  refine (boxHull_c kX kY _ hX hY).mono ?_
  rintro r st ⟨rfl, rfl⟩
  rw [k_hull]
  simp -dsimp only [go_sem]
  refine (boxAdd_c kX kY 16 _ hX hY).mono ?_
  rintro r st ⟨rfl, rfl⟩
  rw [k_add]
  simp -dsimp only [go_sem]
  refine (boxWide_c kB 16 _ hB).mono ?_
  rintro r st ⟨rfl, rfl⟩
  rw [k_wide]
  simp -dsimp only [go_sem]
  refine (boxMid_c kB 16 _ hB).mono ?_
  rintro r st ⟨rfl, rfl⟩
  rw [k_mid]
  simp -dsimp only [go_sem]
  have b0 : ((0 : Int) == 0) = true := rfl
  have d1 : ((kX.length : Int) == 2) = true := rfl
  have d2 := encIs_get kX 1 (by decide)
  have d3 : kX.getD 1 default = ⟨default, k2⟩ := rfl
  have d4 : (((1 : Nat) : Int) == 1) = true := rfl
  have d5 : (k2.exp == 1) = true := rfl
  refine (boxBlow_c kB 16 _ hB).mono ?_
  rintro r st ⟨rfl, rfl⟩
  rw [k_blow]
  simp -dsimp only [go_sem, b0, OL_app, OL_app0, List.append_eq, List.cons_append, List.nil_append]
  refine (boxSame_c kB kB _ hB hB).mono ?_
  rintro r st ⟨rfl, rfl⟩
  simp -dsimp only [go_sem, d1, d2, d3, d4, d5, OL_app, OL_app0, List.append_eq, List.cons_append, List.nil_append]
  refine ⟨by decide, ?_⟩
  refine (boxRight_c kSm _ (rightB_wB k_rS)).mono ?_
  rintro r st ⟨rfl, rfl⟩
  rw [k_rS]
  simp -dsimp only [go_sem, OL_app, OL_app0, List.append_eq, List.cons_append, List.nil_append]
  refine (refSame_c k4 k4 _ (by decide) (by decide)).mono ?_
  rintro r st ⟨rfl, rfl⟩
  simp -dsimp only [go_sem, OL_app, OL_app0, List.append_eq, List.cons_append, List.nil_append]
  refine (boxHas_c kB kM _ hB kM_w).mono ?_
  rintro r st ⟨rfl, rfl⟩
  rw [k_has]
  simp -dsimp only [go_sem, OL_app, OL_app0, List.append_eq, List.cons_append, List.nil_append]
  refine (boxIn_c kB kZ _ hB (rightB_wB k_rZ)).mono ?_
  rintro r st ⟨rfl, rfl⟩
  rw [k_in]
  simp -dsimp only [go_sem, OL_app, OL_app0, List.append_eq, List.cons_append, List.nil_append]
  refine (boxRight_c kB _ hB).mono ?_
  rintro r st ⟨rfl, rfl⟩
  rw [k_rB]
  simp -dsimp only [go_sem, OL_app, OL_app0, List.append_eq, List.cons_append, List.nil_append]

  refine ((boxOf_c kM _ kM_w).plain).mono ?_
  rintro r st ⟨rfl, rfl⟩
  simp -dsimp only [go_sem, OL_app, OL_app0, List.append_eq, List.cons_append, List.nil_append]
  rfl
theorem succW (i : Nat) (h : i < 100000000000000) : IntKind.i64.wrap ((i : Int) + 1) = ((i + 1 : Nat) : Int) := by rw [wrap_i64 _ (by omega) (by omega)]; omega
/-- Boxes, one behind the other. -/
def encIss (l : List (List Ivl)) : List PV := l.map fun c => .sl .no (encIs c)
theorem encIss_length (l : List (List Ivl)) : (encIss l).length = l.length := by simp [encIss]
theorem encIss_get (l : List (List Ivl)) (n : Nat) (h : n < l.length) : (encIss l).getD n .junk = .sl .no (encIs (l.getD n default)) := by
  simp [encIss, h, List.getD_eq_getElem?_getD]
theorem light_c (l : List (List Ivl)) (st : Store) (hl : l.length ≤ 100000000000) (hw : ∀ i, i < l.length → (l.getD i default).length ≤ 100000000000) : PCalls Tryz.prog 14 [.sl .no (encIss l)] st (fun r st' => (∃ b, r = .sc (.bool b)) ∧ st' = st) := by
  refine pcalls_enter none Tryz.func14 rfl fun E => pwp_of_vc ?_
  simp -dsimp only [go_sem]
  refine pwp_loop_mask [true, false, false, true] 0 0 (fun n s => ∃ i, n = l.length - i ∧ i ≤ l.length ∧ s = ⟨[.sl .no (encIss l), .junk, .junk, .sc (.int .i64 i)] ++ List.replicate 46 .junk, [], [], st⟩) l.length ?_ ?_
  · simp -dsimp only [go_sem]
    exact ⟨0, by omega, by omega, rfl⟩
  · rintro n s ⟨i, rfl, hi, rfl⟩
    simp -dsimp only [go_sem, encIss_length]
    refine ck (fun h2 => ?_) (fun h2 => ?_)
    · have hlt : i < l.length := by have := of_decide_eq_true h2; omega
      have e1 := encIss_get l i hlt
      have e3 := succW i (by omega)
      have hwi := hw i hlt
      simp -dsimp only [go_sem, e1, encIss_length]
      refine ⟨by omega, ?_⟩
      refine ck (fun h3 => ?_) (fun h3 => ?_)
      · simp -dsimp only [go_sem]
        exact ⟨_, rfl⟩
      · simp -dsimp only [go_sem]
        refine pwp_loop_mask [true, false, false, true, true] 0 0 (fun n s => ∃ j, n = (l.getD i default).length - j ∧ j ≤ (l.getD i default).length ∧ s = ⟨[.sl .no (encIss l), .junk, .junk, .sc (.int .i64 i), .sc (.int .i64 j)] ++ List.replicate 45 .junk, [], [], st⟩) (l.getD i default).length ?_ ?_
        · simp -dsimp only [go_sem]
          exact ⟨0, by omega, by omega, rfl⟩
        · rintro n s ⟨j, rfl, hj, rfl⟩
          simp -dsimp only [go_sem, encIss_length, e1]
          refine ⟨by omega, ck (fun h4 => ?_) (fun h4 => ?_)⟩
          · have hlt2 : j < (l.getD i default).length := by have := of_decide_eq_true h4; omega
            have f1 := encIs_get (l.getD i default) j hlt2
            have f3 := succW j (by omega)
            simp -dsimp only [go_sem, encIss_length, e1, f1]
            refine ⟨⟨by omega, hlt⟩, ⟨by omega, hlt2⟩, ?_⟩
            refine gkF (fun h5 => ?_) (fun h5 => ?_)
            · simp -dsimp only [go_sem, h5, encIss_length, e1, f1]
              refine ⟨⟨by omega, hlt⟩, ⟨by omega, hlt2⟩, ck (fun h6 => ?_) (fun h6 => ?_)⟩
              · simp -dsimp only [go_sem]
                exact ⟨_, rfl⟩
              · simp -dsimp only [go_sem, f3]
                exact ⟨(l.getD i default).length - (j + 1), by omega, j + 1, rfl, by omega, rfl⟩
            · simp -dsimp only [go_sem, h5]
              exact ⟨_, rfl⟩
          · simp -dsimp only [go_sem]
            refine pwp_of_vc ?_
            simp -dsimp only [go_sem, e3]
            exact ⟨l.length - (i + 1), by omega, i + 1, rfl, by omega, rfl⟩
    · simp -dsimp only [go_sem]
      refine pwp_of_vc ?_
      simp -dsimp only [go_sem]
      exact ⟨_, rfl⟩
end Go.Pv
end
