/- Parts of the walk: N21, N22, N24, N25. -/
import Derived.Test.YthllcnigcnoghaaGreatDoorZAF
set_option linter.unusedVariables false
set_option linter.unusedSimpArgs false
section
/- The document's boxes: MeetBox, widest, WideBox, Blow; Nums. -/
set_option maxRecDepth 100000
namespace Go.Pv
open Go.Proofs
def mostF (o : List Nm) : Nm := if o.length = 0 then default else o.getD (amax o o.length) default
end Go.Pv
end

section
/- The document's Blow; Nums. -/
set_option maxRecDepth 100000
namespace Go.Pv
open Go.Proofs
set_option maxHeartbeats 2000000 in
theorem blow6_c (b : List Ivl) (p : Int) (st : Store) (hb : wB b) : PCalls Tryz.prog 148 [.sl .no (encIs b), .sc (.int .i64 p)] st (fun r st' => r = .tup [.sl .no (encIs (blowB b p).1), .sc (.int .i64 (blowB b p).2)] ∧ st' = st) := by
  refine pcalls_enter none Tryz.func148 rfl fun E => pwp_of_vc ?_
  simp -dsimp only [go_sem]
  refine (rightBox_c b _ hb).mono ?_
  rintro r st ⟨rfl, rfl⟩
  cases r1 : rightB b with
  | false =>
    simp -dsimp only [go_sem]
    rw [blowB, if_neg (by simp [r1])]; rfl
  | true =>
    simp -dsimp only [go_sem]
    refine (precs6_c p _).mono ?_
    rintro r st ⟨rfl, rfl⟩
    cases r3 : precF p with
    | false =>
      simp -dsimp only [go_sem]
      rw [blowB, if_neg (by simp [r3])]; rfl
    | true =>
      have hla := hb.1
      have hab : blowB b p = eachF (fun _ a => blowI a p) 0 b [] := if_pos ⟨r1, r3⟩
      rw [hab]
      simp -dsimp only [go_sem]
      refine pwp_claim 6 6 ?_
      simp -dsimp only [go_sem]
      refine pwp_loop_mask [true, true, false, false, false, false, true, true] 0 1 (fun n s => ∃ i o, n = b.length - i ∧ i ≤ b.length ∧ o.length = i ∧ eachF (fun _ a => blowI a p) 0 b [] = eachF (fun _ a => blowI a p) i (b.drop i) o ∧ s = ⟨[.sl .no (encIs b), .sc (.int .i64 p), .junk, .junk, .junk, .junk, .sl (.own 0) (encIs o), .sc (.int .i64 (i : Nat))] ++ List.replicate 75 .junk, [], [(o.length, 6)], st⟩) b.length ?_ ?_
      · simp -dsimp only [go_sem]
        exact ⟨0, [], by omega, by omega, rfl, rfl, rfl⟩
      · rintro n s ⟨i, o, rfl, hi, ho, hr, rfl⟩
        simp -dsimp only [go_sem]
        refine ck (fun h' => ?_) (fun h' => ?_)
        · have hlt : i < b.length := by have := of_decide_eq_true h'; omega
          have e1 := encIs_get b i hlt
          have e3 : IntKind.i64.wrap ((i : Int) + 1) = ((i + 1 : Nat) : Int) := by rw [wrap_i64 _ (by omega) (by omega)]; omega
          have e4 := eachF_drop (fun _ a => blowI a p) b i o hlt
          have hw := hb.2 i hlt
          have hwr := wideI_right (b.getD i default) p
          have hI : blowI (b.getD i default) p = blowI (b.getD i default) p := rfl
          conv at hI => rhs; unfold blowI
          simp -dsimp only [go_sem, e1]
          refine ⟨⟨by omega, by omega⟩, ?_⟩
          refine (refWide_c _ p _ hw).mono ?_
          rintro r st ⟨rfl, rfl⟩
          simp -dsimp only [go_sem, e1]
          refine ck (fun h2 => ?_) (fun h2 => ?_)
          · have hne := zbne_t h2
            rw [if_pos hne] at hI
            have hf : eachF (fun _ a => blowI a p) 0 b [] = ([], (wideI (b.getD i default) p).2) := by rw [hr, e4, hI, if_pos hne]
            rw [hf]
            simp -dsimp only [go_sem]
            try rfl
          · have he := zbne_f h2
            rw [if_neg (fun e => e he)] at hI
            generalize (wideI (b.getD i default) p).1 = w at *
            simp -dsimp only [go_sem]
            refine (refScale_c w (-2) _ (sm_wN (rightN_sm hwr))).mono ?_
            rintro r st ⟨rfl, rfl⟩
            simp -dsimp only [go_sem]
            refine ck (fun h3 => ?_) (fun h3 => ?_)
            · have hne := zbne_t h3
              rw [if_pos hne] at hI
              have hf : eachF (fun _ a => blowI a p) 0 b [] = ([], (scaleN w (-2)).2) := by rw [hr, e4, hI, if_pos hne]
              rw [hf]
              simp -dsimp only [go_sem]
              try rfl
            · have he2 := zbne_f h3
              rw [if_neg (fun e => e he2)] at hI
              have hs := scaleN_right w (-2)
              generalize (scaleN w (-2)).1 = v at *
              have hv := sm_wN (rightN_sm hs)
              simp -dsimp only [go_sem]
              refine pwp_draw mixed 83 (.step 0 [] (.step 1 [] (.step 2 [] (.step 3 [] (.step 4 [] (.step 5 [] (.step 6 [] (.alt (.step 7 [] (.step 8 [] (.step 9 [] (.step 10 [] (.step 11 [4, 5] (.step 12 [] (.step 13 [] (.done)))))))) (.step 11 [4, 5] (.step 7 [] (.step 8 [] (.step 9 [] (.step 10 [] (.step 12 [] (.step 13 [] (.done)))))))))))))))) (by decide +kernel) (by simp) ?_
              simp -dsimp only [go_sem, e1]
              refine ⟨⟨by omega, by omega⟩, ?_, ?_⟩
              all_goals
                refine (refReckon1_c _ v p false _ hw.1 hv).mono ?_
                rintro r st ⟨rfl, rfl⟩
                simp -dsimp only [go_sem, e1]
                refine pwp_draw mixed 83 (.step 0 [] (.step 1 [] (.step 2 [] (.step 3 [] (.step 4 [] (.step 5 [] (.step 6 [] (.alt (.step 7 [] (.step 8 [] (.step 9 [] (.step 10 [] (.step 11 [4, 5] (.step 12 [] (.step 13 [] (.done)))))))) (.step 11 [4, 5] (.step 7 [] (.step 8 [] (.step 9 [] (.step 10 [] (.step 12 [] (.step 13 [] (.done)))))))))))))))) (by decide +kernel) (by simp) ?_
                simp -dsimp only [go_sem, e1]
                refine ⟨⟨by omega, by omega⟩, ?_, ?_⟩
                all_goals
                  refine (refReckon0_c _ v p true _ hw.2 hv).mono ?_
                  rintro r st ⟨rfl, rfl⟩
                  by_cases c1 : (reckN 1 (b.getD i default).lo v p false).2 = 0
                  · have f1 : ((reckN 1 (b.getD i default).lo v p false).2 != 0) = false := by rw [c1]; rfl
                    by_cases c2 : (reckN 0 (b.getD i default).hi v p true).2 = 0
                    · have f2 : ((reckN 0 (b.getD i default).hi v p true).2 != 0) = false := by rw [c2]; rfl
                      rw [if_neg (fun e => e.elim (fun e => e c1) (fun e => e c2))] at hI
                      simp -dsimp only [go_sem, f1, f2, e3]
                      refine ⟨by omega, b.length - (i + 1), by omega, i + 1, o ++ [(blowI (b.getD i default) p).1], rfl, by omega, by simp [ho], ?_, ?_⟩
                      · rw [hr, e4, if_neg (by rw [hI]; simp)]
                      · rw [hI]; simp [encIs, encI]
                    · have f2 : ((reckN 0 (b.getD i default).hi v p true).2 != 0) = true := bne_iff_ne.2 c2
                      rw [if_pos (.inr c2)] at hI
                      have hf : eachF (fun _ a => blowI a p) 0 b [] = ([], 2) := by rw [hr, e4, hI, if_pos (by decide)]
                      rw [hf]
                      simp -dsimp only [go_sem, f1, f2]
                      try rfl
                  · have f1 : ((reckN 1 (b.getD i default).lo v p false).2 != 0) = true := bne_iff_ne.2 c1
                    rw [if_pos (.inl c1)] at hI
                    have hf : eachF (fun _ a => blowI a p) 0 b [] = ([], 2) := by rw [hr, e4, hI, if_pos (by decide)]
                    rw [hf]
                    simp -dsimp only [go_sem, f1]
                    try rfl
        · have hge : i = b.length := by have := of_decide_eq_false h'; omega
          simp -dsimp only [go_sem]
          refine pwp_of_vc ?_
          simp -dsimp only [go_sem]
          rw [hr, hge, List.drop_length]; rfl
end Go.Pv
end

section
/- The law's parts and reckons. -/
set_option maxRecDepth 100000
namespace Go.Pv
open Go.Proofs
theorem eachF_all {α β : Type} (F : Nat → α → β × Int) (P : β → Prop) (hp : ∀ i x, x ∈ ([] : List α) ∨ P (F i x).1) : ∀ (l : List α) (i : Nat) (acc : List β), (∀ y, y ∈ acc → P y) → (∀ y, y ∈ (eachF F i l acc).1 → P y) ∧ (eachF F i l acc).1.length ≤ acc.length + l.length
  | [], i, acc, h => ⟨h, by simp [eachF]⟩
  | x :: l, i, acc, h => by
    unfold eachF
    split
    · exact ⟨fun y hy => by simp at hy, by simp⟩
    · obtain ⟨h1, h2⟩ := eachF_all F P hp l (i + 1) (acc ++ [(F i x).1]) (fun y hy => by
        rcases List.mem_append.1 hy with h3 | h3
        · exact h y h3
        · rw [List.mem_singleton.1 h3]; rcases hp i x with h4 | h4
          · simp at h4
          · exact h4)
      exact ⟨h1, by simp at h2 ⊢; omega⟩
theorem eachF_wB (F : Nat → Ivl → Ivl × Int) (hF : ∀ i x, wI (F i x).1) (l : List Ivl) (hl : l.length ≤ 100000000000) : wB (eachF F 0 l []).1 := by
  obtain ⟨h1, h2⟩ := eachF_all F wI (fun i x => .inr (hF i x)) l 0 [] (fun y hy => by simp at hy)
  exact ⟨by simp at h2; omega, fun i hi => h1 _ (mem_getD _ i default hi)⟩
theorem wI_op (k : Nat) (a b : Ivl) (p : Int) : wI (opI k a b p).1 := wI_right (opI_right k a b p)
theorem blowI_wI (a : Ivl) (p : Int) : wI (blowI a p).1 := by
  unfold blowI
  split
  · exact wI_default
  · split
    · exact wI_default
    · split
      · exact wI_default
      · exact ⟨sm_wN (rightN_sm (reckN_right _ _ _ _ _)), sm_wN (rightN_sm (reckN_right _ _ _ _ _))⟩
theorem wB_op (k : Nat) (a b : List Ivl) (p : Int) (ha : wB a) : wB (opB k a b p).1 := by
  unfold opB
  split
  · exact eachF_wB _ (fun i x => wI_op _ _ _ _) a ha.1
  · exact wB_nil
theorem wB_times (x : Ivl) (b : List Ivl) (p : Int) (hb : wB b) : wB (timesB x b p).1 := by
  unfold timesB
  split
  · exact eachF_wB _ (fun i x => wI_op _ _ _ _) b hb.1
  · exact wB_nil
theorem wB_blow (b : List Ivl) (p : Int) (hb : wB b) : wB (blowB b p).1 := by
  unfold blowB
  split
  · exact eachF_wB _ (fun i x => blowI_wI _ _) b hb.1
  · exact wB_nil
end Go.Pv
end

section
/- The law's known and light. -/
set_option maxRecDepth 100000
namespace Go.Pv
open Go.Proofs
def k1 : Nm := ⟨false, 0, [1]⟩
def k2 : Nm := ⟨false, 1, [1]⟩
def k4 : Nm := ⟨false, 2, [1]⟩
def kB : List Ivl := [⟨default, k1⟩, ⟨default, k4⟩]
def kX : List Ivl := [⟨default, k1⟩, ⟨default, k2⟩]
def kY : List Ivl := [⟨default, k1⟩, ⟨k2, k4⟩]
def kSm : List Ivl := [⟨default, k2⟩, ⟨k2, ⟨false, 1, [3]⟩⟩]
def kM : List Nm := [⟨false, -1, [1]⟩, k2]
def kZ : List Ivl := [⟨⟨true, -2, [1]⟩, ⟨false, -2, [5]⟩⟩, ⟨⟨true, 0, [1]⟩, ⟨false, 0, [5]⟩⟩]
theorem succW (i : Nat) (h : i < 100000000000000) : IntKind.i64.wrap ((i : Int) + 1) = ((i + 1 : Nat) : Int) := by rw [wrap_i64 _ (by omega) (by omega)]; omega
def encIss (l : List (List Ivl)) : List PV := l.map fun c => .sl .no (encIs c)
end Go.Pv
end
