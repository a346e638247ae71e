/- Parts of the walk: N38, N39. -/
import Derived.Test.YtcfgdppnoephnaaGreatDoorZAS
import Derived.Test.YtcfgdppnoephnaaGreatDoorZAQ
set_option linter.unusedVariables false
set_option linter.unusedSimpArgs false
section
/- The document's matrices: One, MulMat. -/
set_option linter.unusedVariables false
set_option linter.unusedSimpArgs false
set_option maxRecDepth 100000
namespace Go.Pv
open Go.Proofs
theorem over_map (f : PV → PV) (l : List PV) (o : Nat) (r : List PV) : (over l o r).map f = over (l.map f) o (r.map f) := by
  simp [over, List.map_take, List.map_drop]
theorem repC_map (f : PV → PV) (n : Nat) (z : List PV) : (repC n z).map f = repC n (z.map f) := by
  unfold repC; rw [List.map_flatten, List.map_replicate]
theorem fz_over {l r : List PV} {o : Nat} (h1 : fzOK l = true) (h2 : fzOK r = true) : fzOK (over l o r) = true := by
  unfold fzOK at *
  rw [List.all_eq_true] at *
  intro p hp
  simp only [over, List.mem_append] at hp
  rcases hp with (hp | hp) | hp
  · exact h1 p (List.mem_of_mem_take hp)
  · exact h2 p hp
  · exact h1 p (List.mem_of_mem_drop hp)
theorem fz_repC {n : Nat} {z : List PV} (h : fzOK z = true) : fzOK (repC n z) = true := by
  unfold fzOK at *
  rw [List.all_eq_true] at *
  intro p hp
  simp only [repC, List.mem_flatten, List.mem_replicate] at hp
  obtain ⟨l, ⟨_, rfl⟩, hp⟩ := hp
  exact h p hp
theorem repC_N (n : Nat) : repC n (encN default) = flat (encNs (List.replicate n default)) := by
  simp [repC, flat, encNs, PV.cells]
def rowQ (n i : Nat) : List Nm := (List.replicate n default).set i oneN
def oneL (k : Nat) : List (List Nm) := (List.range k).map (rowQ k)
theorem oneL_length (k : Nat) : (oneL k).length = k := by simp [oneL]
def oneQ (n : Int) : List (List Nm) := if 1 ≤ n ∧ n ≤ 4 then oneL n.toNat else []
theorem oneQ_id (n : Int) : ofM (oneQ n) = idM n := by
  unfold oneQ idM
  split
  · rename_i h
    have : n = 1 ∨ n = 2 ∨ n = 3 ∨ n = 4 := by omega
    rcases this with rfl | rfl | rfl | rfl <;> decide +kernel
  · rfl
theorem rowQ_length (n i : Nat) : (rowQ n i).length = n := by simp [rowQ]
set_option maxHeartbeats 1000000 in
theorem one_c (n : Int) (st : Store) : PCalls Tryz.prog 47 [.sc (.int .i64 n)] st (fun r st' => r = .sl .no (encQ (oneQ n)) ∧ st' = st) := by
  refine pcalls_enter none Tryz.func47 rfl fun E => pwp_of_vc ?_
  by_cases h1 : n < 1
  · have f1 : decide (n < 1) = true := decide_eq_true h1
    simp -dsimp only [go_sem, f1]
    rw [oneQ, if_neg (by omega)]; rfl
  · have f1 : decide (n < 1) = false := decide_eq_false h1
    by_cases h4 : n > 4
    · have f2 : decide (n > 4) = true := decide_eq_true h4
      simp -dsimp only [go_sem, f1, f2]
      rw [oneQ, if_neg (by omega)]; rfl
    · have f2 : decide (n > 4) = false := decide_eq_false h4
      obtain ⟨k, rfl⟩ := Int.eq_ofNat_of_zero_le (show 0 ≤ n by omega)
      have hq : oneQ (k : Int) = oneL k := by rw [oneQ, if_pos (by omega)]; rfl
      rw [hq]
      simp -dsimp only [go_sem, f1, f2]
      refine pwp_claim 3 1 ?_
      simp -dsimp only [go_sem]
      refine pwp_loop_maskP [true, false, false, true, true] 0 1
        (fun m s => ∃ i, m = k - i ∧ i ≤ k ∧ s = ⟨[.sc (.int .i64 k), .junk, .junk, .sl (.own 0) (encQ ((oneL k).take i)), .sc (.int .i64 (i : Nat))] ++ List.replicate 24 .junk, [], [(((oneL k).take i).length, 1)], st⟩) k ?_ ?_
      · simp -dsimp only [go_sem]
        exact ⟨0, by omega, by omega, rfl⟩
      · rintro m s ⟨i, rfl, hi, rfl⟩
        refine pwp_seq (pwp_of_vc ?_)
        simp -dsimp only [go_sem]
        refine ck (fun h' => ?_) (fun h' => ?_)
        · have hlt : i < k := by have := of_decide_eq_true h'; omega
          have e3 := succW i (by omega)
          have ll : ((oneL k).take i).length = i := by rw [List.length_take, oneL_length]; omega
          have e5 : (oneL k).take (i + 1) = (oneL k).take i ++ [rowQ k i] := take_range_snoc _ _ _ hlt
          have e6 : flat (encNs (rowQ k i)) = over (flat (encNs (List.replicate k default))) (i * 3) (encN oneN) := (flatN_set _ i oneN (by simpa using hlt)).symm
          simp -dsimp only [go_sem]
          refine pwp_seq (pwp_block (pwp_seq (pwp_of_vc ?_)))
          simp -dsimp only [go_sem]
          refine ⟨⟨by omega, by omega⟩, ?_⟩
          refine pwp_seq (pwp_of_vc ?_)
          simp -dsimp only [go_sem, repC_length]
          refine ⟨⟨by omega, hlt⟩, ⟨by omega, by omega⟩, ?_⟩
          have r0 : repC k [.sc (.bool false), .sc (.int .i64 0), .sl .no []] = flat (encNs (List.replicate k default)) := repC_N k
          have r1 : over (flat (encNs (List.replicate k default))) (i * 3) [.sc (.bool false), .sc (.int .i64 0), .sl .no [.sc (.int .u64 1)]] = flat (encNs (rowQ k i)) := e6.symm
          have r2 := chunksN' (rowQ k i) k (rowQ_length k i).symm
          have r3 := rowQ_length k i
          refine pwp_freezeN 0 3 ?_ ?_
          · simp -dsimp only [go_sem]
            exact fz_over (fz_repC rfl) rfl
          simp -dsimp only [go_sem, over_map, repC_map, r0, r1, r2, r3]
          refine pwp_of_vc ?_
          simp -dsimp only [go_sem]
          refine ⟨⟨by omega, by omega⟩, pwp_of_vc ?_⟩
          simp -dsimp only [go_sem, e3]
          refine ⟨k - (i + 1), by omega, i + 1, rfl, by omega, ?_⟩
          rw [e5]
          simp
        · have hge : i = k := by have := of_decide_eq_false h'; omega
          have ht : (oneL k).take i = oneL k := List.take_of_length_le (by rw [oneL_length]; omega)
          rw [ht]
          simp -dsimp only [go_sem]
          refine pwp_plain [false, false, false, true] (pwp_of_vc ?_)
          simp -dsimp only [go_sem]
theorem colM_wB {m : Mx} {j : Nat} (hm : wM m) (r : rightM m = true) (hj : j < m.length) : wB (colM m j) := by
  refine ⟨by rw [colM_length]; exact hm.1, fun i hi => ?_⟩
  rw [colM_length] at hi
  rw [colM_get _ _ _ hi]
  exact (hm.2 i hi).2 j (by rw [(rightM_row r hi).1]; exact hj)
theorem dotCol_c (a b : Mx) (i j : Nat) (p : Int) (st : Store) (ha : wM a) (hb : wM b) (r1 : rightM a = true) (r2 : rightM b = true) (hn : a.length = b.length) (hi : i < a.length) (hj : j < a.length) :
    PCalls Tryz.prog 212 [.sl .no (encIs (a.getD i [])), .sl .no (encIs (colM b j)), .sc (.int .i64 p)] st
    (fun r st' => r = .tup [.agg (encI (dotF (atM a i) (fun k => atM b k j) p a.length).1), .sc (.int .i64 (dotF (atM a i) (fun k => atM b k j) p a.length).2)] ∧ st' = st) := by
  have := dotAt_c a i (colM b j) p st (ha.2 i hi) (colM_wB hb r2 (by omega)) (by rw [(rightM_row r1 hi).1, colM_length]; exact hn)
  rw [colM_length, ← hn, dotF_congr (x' := atM a i) (y' := fun k => atM b k j) a.length (fun k hk => ⟨rfl, colM_get _ _ _ (by omega)⟩)] at this
  exact this
set_option maxHeartbeats 4000000 in
theorem mulMat_c (a b : Mx) (p : Int) (st : Store) (ha : wM a) (hb : wM b) : PCalls Tryz.prog 130 [.sl .no (encM a), .sl .no (encM b), .sc (.int .i64 p)] st (fun r st' => r = .tup [.sl .no (encM (mulM a b p).1), .sc (.int .i64 (mulM a b p).2)] ∧ st' = st) := by
  have hal := ha.1
  refine pcalls_enter none Tryz.func130 rfl fun E => pwp_of_vc ?_
  simp -dsimp only [go_sem]
  refine (rightMat_c a _ ha).mono ?_
  rintro r st ⟨rfl, rfl⟩
  cases r1 : rightM a with
  | false =>
    simp -dsimp only [go_sem]
    rw [mulM, if_neg (by simp [r1])]; rfl
  | true =>
    simp -dsimp only [go_sem]
    refine (rightMat_c b _ hb).mono ?_
    rintro r st ⟨rfl, rfl⟩
    cases r2 : rightM b with
    | false =>
      simp -dsimp only [go_sem]
      rw [mulM, if_neg (by simp [r2])]; rfl
    | true =>
      by_cases hn : a.length = b.length
      · have f1 : ((a.length : Int) != (b.length : Int)) = false := by rw [hn]; simp
        simp -dsimp only [go_sem, f1]
        refine (precs6_c p _).mono ?_
        rintro r st ⟨rfl, rfl⟩
        cases r3 : precF p with
        | false =>
          simp -dsimp only [go_sem]
          rw [mulM, if_neg (by simp [r3])]; rfl
        | true =>
          rw [mulM, if_pos ⟨r1, r2, hn, r3⟩]
          have hl := rightM_len r1
          generalize hG : (fun i j => dotF (atM a i) (fun k => atM b k j) p a.length) = G
          have hg : ∀ i j, G i j = dotF (atM a i) (fun k => atM b k j) p a.length := fun i j => by rw [← hG]
          simp -dsimp only [go_sem]
          refine pwp_claim 8 1 ?_
          simp -dsimp only [go_sem]
          refine pwp_loop_mask [true, true, true, false, false, false, false, false, true, true] 0 1
            (fun k s => ∃ (i : Nat) (o : Mx), k = a.length - i ∧ i ≤ a.length ∧ o.length = i ∧ fillM G a.length = tabF (fun i => tabF (fun j => G i j) 0 a.length []) i (a.length - i) o ∧
              s = ⟨[.sl .no (encM a), .sl .no (encM b), .sc (.int .i64 p), .junk, .junk, .junk, .junk, .junk, .sl (.own 0) (encM o), .sc (.int .i64 (i : Nat))] ++ List.replicate 60 .junk, [], [(o.length, 1)], st⟩) a.length ?_ ?_
          · simp -dsimp only [go_sem]
            exact ⟨0, [], by omega, by omega, rfl, rfl, rfl⟩
          · rintro k s ⟨i, o, rfl, hi, ho, hr, rfl⟩
            simp -dsimp only [go_sem]
            refine ck (fun h' => ?_) (fun h' => ?_)
            · have hlt : i < a.length := by have := of_decide_eq_true h'; omega
              have e1 := encM_get a i hlt
              have e3 := succW i (by omega)
              have e4 := tabF_step (fun i => tabF (fun j => G i j) 0 a.length []) hlt o
              simp -dsimp only [go_sem]
              refine pwp_claim 10 6 ?_
              simp -dsimp only [go_sem]
              refine pwp_loop_mask [true, true, true, false, false, false, false, false, true, true, true, true] 0 2
                (fun k s => ∃ (j : Nat) (r : List Ivl), k = a.length - j ∧ j ≤ a.length ∧ r.length = j ∧ tabF (fun j => G i j) 0 a.length [] = tabF (fun j => G i j) j (a.length - j) r ∧
                  s = ⟨[.sl .no (encM a), .sl .no (encM b), .sc (.int .i64 p), .junk, .junk, .junk, .junk, .junk, .sl (.own 0) (encM o), .sc (.int .i64 (i : Nat)), .sl (.own 1) (encIs r), .sc (.int .i64 (j : Nat))] ++ List.replicate 58 .junk, [], [(o.length, 1), (r.length, 6)], st⟩) a.length ?_ ?_
              · simp -dsimp only [go_sem]
                exact ⟨0, [], by omega, by omega, rfl, rfl, rfl⟩
              · rintro k s ⟨j, r, rfl, hj, hrl, hrr, rfl⟩
                simp -dsimp only [go_sem]
                refine ck (fun h'' => ?_) (fun h'' => ?_)
                · have hlt2 : j < a.length := by have := of_decide_eq_true h''; omega
                  have f3 := succW j (by omega)
                  have f4 := tabF_step (fun j => G i j) hlt2 r
                  have hcol := (column_c b j st hb.1 (fun m hm => by rw [(rightM_row r2 hm).1]; omega)).plain
                  have hdot := dotCol_c a b i j p st ha hb r1 r2 hn hlt hlt2
                  rw [← hg] at hdot
                  simp -dsimp only [go_sem]
                  refine pwp_draw mixed 70 (.step 0 [] (.step 1 [] (.step 2 [] (.step 3 [] (.step 4 [] (.step 5 [] (.step 7 [] (.alt (.step 6 [3] (.alt (.step 8 [] (.step 9 [] (.step 10 [] (.step 11 [] (.step 12 [3] (.step 13 [] (.step 14 [] (.done)))))))) (.step 12 [3] (.step 8 [] (.step 9 [] (.step 10 [] (.step 11 [] (.step 13 [] (.step 14 [] (.done)))))))))) (.step 12 [3] (.step 6 [3] (.step 8 [] (.step 9 [] (.step 10 [] (.step 11 [] (.step 13 [] (.step 14 [] (.done))))))))))))))))) (by decide +kernel) (by simp) ?_
                  simp -dsimp only [go_sem, e1]
                  refine ⟨by omega, ?_⟩
                  refine And.intro ?_ ?_
                  all_goals
                    refine hcol.mono ?_
                    rintro rr st ⟨rfl, rfl⟩
                    simp -dsimp only [go_sem]
                  refine And.intro ?_ ?_
                  all_goals
                    refine hdot.mono ?_
                    rintro rr st ⟨rfl, rfl⟩
                    simp -dsimp only [go_sem]
                    refine ck (fun h5 => ?_) (fun h5 => ?_)
                    · have hne := zbne_t h5
                      simp -dsimp only [go_sem]
                      have q1 : tabF (fun j => G i j) 0 a.length [] = ([], (G i j).2) := by rw [hrr, f4, if_pos hne]
                      rw [hr, e4, if_pos (by rw [q1]; exact hne), q1]
                      rfl
                    · have he := zbne_f h5
                      simp -dsimp only [go_sem, f3]
                      refine ⟨⟨by omega, by omega⟩, a.length - (j + 1), by omega, j + 1, r ++ [(G i j).1], rfl, by omega, by simp [hrl], ?_, ?_⟩
                      · rw [hrr, f4, if_neg (fun hh => hh he)]
                      · simp [encIs, encI]
                · have hge : j = a.length := by have := of_decide_eq_false h''; omega
                  have q1 : tabF (fun j => G i j) 0 a.length [] = (r, 0) := by rw [hrr, hge]; exact tabF_end _ _ r
                  simp -dsimp only [go_sem]
                  refine pwp_of_vc ?_
                  simp -dsimp only [go_sem]
                  refine ⟨⟨by omega, by omega⟩, pwp_of_vc ?_⟩
                  simp -dsimp only [go_sem, e3]
                  refine ⟨a.length - (i + 1), by omega, i + 1, o ++ [r], rfl, by omega, by simp [ho], ?_, ?_⟩
                  · rw [hr, e4, q1, if_neg (by simp)]
                  · simp
            · have hge : i = a.length := by have := of_decide_eq_false h'; omega
              simp -dsimp only [go_sem]
              refine pwp_of_vc ?_
              simp -dsimp only [go_sem]
              rw [hr, hge, tabF_end]
      · have f1 : ((a.length : Int) != (b.length : Int)) = true := by rw [bne_iff_ne]; omega
        simp -dsimp only [go_sem, f1]
        rw [mulM, if_neg (fun hh => hn hh.2.2.1)]; rfl
end Go.Pv
end

section
/- The document's matrices: Norm. -/
set_option linter.unusedVariables false
set_option linter.unusedSimpArgs false
set_option maxRecDepth 100000
namespace Go.Pv
open Go.Proofs
set_option maxHeartbeats 4000000 in
theorem refNorm_c (m : Mx) (p : Int) (st : Store) (hm : wM m) : PCalls Tryz.prog 134 [.sl .no (encM m), .sc (.int .i64 p)] st (fun r st' => r = .tup [.agg (encN (normM m p).1), .sc (.int .i64 (normM m p).2)] ∧ st' = st) := by
  have hal := hm.1
  refine pcalls_enter none Tryz.func134 rfl fun E => pwp_of_vc ?_
  simp -dsimp only [go_sem]
  refine (rightMat_c m _ hm).mono ?_
  rintro r st ⟨rfl, rfl⟩
  cases v1 : rightM m with
  | false =>
    simp -dsimp only [go_sem]
    rw [normM, if_neg (by simp [v1])]; rfl
  | true =>
    simp -dsimp only [go_sem]
    refine (precs6_c p _).mono ?_
    rintro r st ⟨rfl, rfl⟩
    cases v4 : precF p with
    | false =>
      simp -dsimp only [go_sem]
      rw [normM, if_neg (by simp [v4])]; rfl
    | true =>
      have hl := rightM_len v1
      have hM : normM m p = normF m p m.length := if_pos ⟨v1, v4⟩
      rw [hM]
      simp -dsimp only [go_sem]
      refine pwp_plainBox 1 ?_
      simp -dsimp only [go_sem]
      refine pwp_loop_mask [true, true, false, false, true, false, true, true] 2 0
        (fun k s => ∃ i, k = m.length - i ∧ i ≤ m.length ∧ (normF m p i).2 = 0 ∧
          s = ⟨[.sl .no (encM m), .sc (.int .i64 p), .junk, .junk, .lp 0 0, .junk, .lp 1 0, .sc (.int .i64 (i : Nat))] ++ List.replicate 58 .junk,
            [[.sc (.bool false), .sc (.int .i64 0), .sl .full []], encN (normF m p i).1], [], st⟩) m.length ?_ ?_
      · simp -dsimp only [go_sem]
        exact ⟨0, by omega, by omega, rfl, rfl⟩
      · rintro k s ⟨i, rfl, hi, hz, rfl⟩
        simp -dsimp only [go_sem]
        refine ck (fun h' => ?_) (fun h' => ?_)
        · have hlt : i < m.length := by have := of_decide_eq_true h'; omega
          have e1 := encM_get m i hlt
          have e3 := succW i (by omega)
          obtain ⟨q1, q2⟩ := rightM_row v1 hlt
          have hrl := rightB_len q2
          have e2 := encIs_get (m.getD i []) 0 (by omega)
          simp -dsimp only [go_sem, e1, e2]
          refine ⟨by omega, by omega, ?_⟩
          refine (refMag_c _ _ ((hm.2 i hlt).2 0 (by omega))).mono ?_
          rintro r st ⟨rfl, rfl⟩
          have hs0 : sumF (atM m i) p 0 = (magI ((m.getD i []).getD 0 default), 0) := rfl
          simp -dsimp only [go_sem]
          refine pwp_loop_mask [true, true, false, false, true, false, true, true, true, true] 3 0
            (fun k s => ∃ j, k = m.length - 1 - j ∧ j ≤ m.length - 1 ∧ (sumF (atM m i) p j).2 = 0 ∧
              s = ⟨[.sl .no (encM m), .sc (.int .i64 p), .junk, .junk, .lp 0 0, .junk, .lp 1 0, .sc (.int .i64 (i : Nat)), .lp 2 0, .sc (.int .i64 ((j + 1 : Nat) : Int))] ++ List.replicate 56 .junk,
                [[.sc (.bool false), .sc (.int .i64 0), .sl .full []], encN (normF m p i).1, encN (sumF (atM m i) p j).1], [], st⟩) (m.length - 1) ?_ ?_
          · simp -dsimp only [go_sem]
            exact ⟨0, by omega, by omega, by rw [hs0], by rw [hs0]; rfl⟩
          · rintro k s ⟨j, rfl, hj, hsz, rfl⟩
            simp -dsimp only [go_sem]
            refine ck (fun h2 => ?_) (fun h2 => ?_)
            · have hlt2 : j + 1 < m.length := by have := of_decide_eq_true h2; omega
              have f1 := encIs_get (m.getD i []) (j + 1) (by omega)
              have f3 := succW (j + 1) (by omega)
              have f4 := sumF_next hsz
              have wx : wI ((m.getD i []).getD (j + 1) default) := (hm.2 i hlt).2 (j + 1) (by omega)
              have wm := sm_wN (rightN_sm (magI_right ((m.getD i []).getD (j + 1) default)))
              have ws := sm_wN (rightN_sm (sumF_right (atM m i) p j))
              have f5 : atM m i (j + 1) = (m.getD i []).getD (j + 1) default := rfl
              rw [f5] at f4
              simp -dsimp only [go_sem]
              refine pwp_draw mixed 66 (.step 0 [] (.step 1 [] (.step 2 [] (.step 3 [] (.step 4 [] (.step 5 [] (.step 6 [] (.step 7 [] (.step 9 [] (.alt (.step 8 [0] (.alt (.step 10 [4] (.step 11 [] (.step 12 [] (.step 13 [] (.step 14 [0, 4, 7] (.step 15 [] (.step 16 [] (.done)))))))) (.step 14 [0, 4, 7] (.step 10 [4] (.step 11 [] (.step 12 [] (.step 13 [] (.step 15 [] (.step 16 [] (.done)))))))))) (.step 14 [0, 4, 7] (.step 8 [0] (.step 10 [4] (.step 11 [] (.step 12 [] (.step 13 [] (.step 15 [] (.step 16 [] (.done))))))))))))))))))) (by decide +kernel) (by simp) ?_
              simp -dsimp only [go_sem, e1, f1]
              refine ⟨by omega, by omega, ?_⟩
              refine And.intro ?_ ?_
              all_goals
                refine (refMag_c _ _ wx).mono ?_
                rintro r st ⟨rfl, rfl⟩
                simp -dsimp only [go_sem]
              refine And.intro ?_ ?_
              all_goals
                refine (refReckon0_c _ _ p true _ ws wm).mono ?_
                rintro r st ⟨rfl, rfl⟩
                simp -dsimp only [go_sem]
                refine ck (fun h3 => ?_) (fun h3 => ?_)
                · have hne := zbne_t h3
                  simp -dsimp only [go_sem]
                  rw [normF_bad (j := j + 1) hne hlt (by omega) hz (by rw [f4])]
                  rfl
                · have he := zbne_f h3
                  simp -dsimp only [go_sem, f3]
                  exact ⟨m.length - 1 - (j + 1), by omega, j + 1, rfl, by omega, by rw [f4]; exact he, by rw [f4]⟩
            · have hge : j = m.length - 1 := by have := of_decide_eq_false h2; omega
              have hnx := normF_next hz (by rw [← hge]; exact hsz)
              rw [← hge] at hnx
              have w1 := sm_wN (rightN_sm (sumF_right (atM m i) p j))
              have w2 := sm_wN (rightN_sm (normF_right m p i))
              simp -dsimp only [go_sem]
              refine pwp_of_vc ?_
              simp -dsimp only [go_sem]
              refine (cmpNum_c _ _ _ (by unfold wN at w1; omega) (by unfold wN at w2; omega)).mono ?_
              rintro r st ⟨rfl, rfl⟩
              simp -dsimp only [go_sem]
              refine ck (fun h3 => ?_) (fun h3 => ?_)
              · have hc := of_decide_eq_true h3
                rw [if_pos hc] at hnx
                simp -dsimp only [go_sem]
                refine pwp_of_vc ?_
                simp -dsimp only [go_sem, e3]
                exact ⟨m.length - (i + 1), by omega, i + 1, rfl, by omega, by rw [hnx], by rw [hnx]⟩
              · have hc := of_decide_eq_false h3
                rw [if_neg hc] at hnx
                simp -dsimp only [go_sem]
                refine pwp_of_vc ?_
                simp -dsimp only [go_sem, e3]
                exact ⟨m.length - (i + 1), by omega, i + 1, rfl, by omega, by rw [hnx], by rw [hnx]⟩
        · have hge : i = m.length := by have := of_decide_eq_false h'; omega
          subst hge
          simp -dsimp only [go_sem]
          refine pwp_of_vc ?_
          simp -dsimp only [go_sem]
          rw [hz]
end Go.Pv
end
