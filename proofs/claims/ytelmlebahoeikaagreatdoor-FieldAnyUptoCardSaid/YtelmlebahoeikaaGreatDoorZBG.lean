/- Parts of the walk: N53, N54. -/
import Derived.Test.YtelmlebahoeikaaGreatDoorZBE
import Derived.Test.YtelmlebahoeikaaGreatDoorZBD
import Derived.Test.YtelmlebahoeikaaGreatDoorZAQ
import Derived.Test.YtelmlebahoeikaaGreatDoorZBF
set_option linter.unusedVariables false
set_option linter.unusedSimpArgs false
section
/- poly.Diff. -/
set_option linter.unusedVariables false
set_option linter.unusedSimpArgs false
set_option maxRecDepth 100000
namespace Go.Pv
open Go.Proofs
theorem cloneK_c (l : List Int) (st : Store) (hl : l.length ≤ 100000000000) : PCalls Tryz.prog 169 [.sl .no (encZ l)] st (fun r st' => r = .sl (.fresh 1) (encZ l) ∧ st' = st) := by
  refine pcalls_enter (some 1) Tryz.func169 rfl fun E => pwp_of_vc ?_
  simp -dsimp only [go_sem]
  intro b hb
  cases b
  · simp -dsimp only [go_sem]
    omega
  · have : l = [] := by have := hb rfl; simpa [encZ] using this
    subst this
    simp -dsimp only [go_sem]
theorem cloneO_c (l : List Int) (st : Store) (hl : l.length ≤ 100000000000) (h0 : 0 < l.length) : PCalls Tryz.prog 169 [.sl .no (encZ l)] st (fun r st' => ∃ off, r = .ms true st.length off l.length ∧ st' = st ++ [List.replicate off PV.junk ++ encZ l]) := by
  have := PCalls.owned (P := Tryz.prog) (f := 169) (args := [.sl .no (encZ l)]) (es := encZ l) (by rw [encZ_length]; exact h0) (fun j hj => ⟨_, encZ_get l j (by rw [encZ_length] at hj; exact hj)⟩) (fun p hp => by
    simp at hp; subst hp; exact noG_encZ l _) (cloneK_c l [] hl) st
  rw [encZ_length] at this
  exact this
set_option maxHeartbeats 2000000 in
theorem polyDiff_raw (p : List Mn) (i n : Int) (st : Store) (hp : wP p) : PCalls Tryz.prog 102 [.sl .no (encPs p), .sc (.int .i64 i), .sc (.int .i64 n)] st (fun r st' => r = .tup [.sl .no (encPs (diffP p i n).1), .sc (.int .i64 (diffP p i n).2)] ∧ ∃ e, st' = st ++ List.replicate e []) := by
  refine pcalls_enter none Tryz.func102 rfl fun E => pwp_of_vc ?_
  have bad : ¬ (rightP p n = true ∧ 0 ≤ i ∧ i < n) → diffP p i n = ([], 1) := fun h => if_neg h
  simp -dsimp only [go_sem]
  refine (polyRight_c p n _ hp).mono ?_
  rintro r st ⟨rfl, rfl⟩
  cases r1 : rightP p n with
  | false =>
    have hv := bad (by rintro ⟨h, _⟩; rw [r1] at h; cases h)
    simp -dsimp only [go_sem]
    rw [hv]; exact ⟨rfl, 0, by simp⟩
  | true =>
    simp -dsimp only [go_sem]
    refine gkF (fun g1 => ?_) (fun g1 => ?_)
    · have g1' := of_decide_eq_false g1
      simp -dsimp only [go_sem, g1]
      refine ck (fun g2 => ?_) (fun g2 => ?_)
      · have hv := bad (by rintro ⟨_, _, h⟩; have := of_decide_eq_true g2; omega)
        simp -dsimp only [go_sem]
        rw [hv]; exact ⟨rfl, 0, by simp⟩
      · have g2' := of_decide_eq_false g2
        obtain ⟨k, rfl⟩ : ∃ k : Nat, i = k := ⟨i.toNat, by omega⟩
        have hv : diffP p k n = diffL k p [] := by rw [diffP, if_pos ⟨r1, by omega, by omega⟩, Int.toNat_natCast]
        rw [hv]
        clear hv bad
        have h4 := ((rightP_iff _ _).1 r1).1
        simp -dsimp only [go_sem]
        refine pwp_claim 8 4 ?_
        simp -dsimp only [go_sem]
        refine pwp_loop_maskP [false, true, false, false, false, false, false, false, true, false, false, false, false, false, false, false, false, false, false, false, false, false, false, false, false, false, false, true, true, true] 0 1
          (fun c s => ∃ (j : Nat) (o : List Mn) (e : Nat), c = p.length - j ∧ j ≤ p.length ∧ o.length ≤ j ∧ diffL k p [] = diffL k (p.drop j) o ∧
            s = ⟨[.junk, .sc (.int .i64 k), .junk, .junk, .junk, .junk, .junk, .junk, .sl (.own 0) (encPs o), .junk, .junk, .junk, .junk, .junk, .junk, .junk, .junk, .junk, .junk, .junk, .junk, .junk, .junk, .junk, .junk, .junk, .junk, .sl .no (encPs p), .sc (.int .i64 p.length), .sc (.int .i64 (j : Nat))] ++ List.replicate 42 .junk, [], [(o.length, 4)], st ++ List.replicate e []⟩) p.length ?_ ?_
        · simp -dsimp only [go_sem]
          exact ⟨0, [], 0, by omega, by omega, by simp, by rw [List.drop_zero], by simp [encPs_nil]⟩
        · rintro c s ⟨j, o, e, rfl, hj, ho, hr, rfl⟩
          generalize hS : st ++ List.replicate e [] = S
          refine pwp_seq (pwp_of_vc ?_)
          simp -dsimp only [go_sem]
          refine pwp_seq (pwp_of_vc ?_)
          simp -dsimp only [go_sem]
          refine ck (fun h' => ?_) (fun h' => ?_)
          · have hlt : j < p.length := by have := of_decide_eq_true h'; omega
            have e1 := encPs_get p j hlt
            have e3 := succW j (by omega)
            obtain ⟨k1, k2, k3⟩ := rightP_mono r1 hlt
            rw [diffL_drop hlt] at hr
            generalize hm : p.getD j default = m at *
            have hkl : k < m.ks.length := by omega
            have f1 := encZ_get m.ks k hkl
            have hk := rightK_at k2 k hkl
            simp -dsimp only [go_sem]
            refine pwp_seq (pwp_block (pwp_seq (pwp_of_vc ?_)))
            simp -dsimp only [go_sem, e1]
            refine ⟨by omega, ?_⟩
            refine pwp_seq (pwp_of_vc ?_)
            simp -dsimp only [go_sem, f1]
            refine ⟨by omega, ?_⟩
            refine ck (fun h2 => ?_) (fun h2 => ?_)
            · have h2' := zbeq_t h2
              rw [if_pos h2'] at hr
              simp -dsimp only [go_sem]
              refine pwp_of_vc ?_
              simp -dsimp only [go_sem, e3]
              exact ⟨p.length - (j + 1), by omega, j + 1, o, e, rfl, by omega, by omega, hr, by rw [← hS]⟩
            · have h2' := zbeq_f h2
              rw [if_neg h2'] at hr
              obtain ⟨x, hx⟩ : ∃ x : Nat, m.ks.getD k 0 = x := ⟨(m.ks.getD k 0).toNat, by omega⟩
              rw [hx] at f1
              rw [hx, Int.toNat_natCast] at hr
              have wi : wN (intN x) := sm_wN (rightN_sm (rightN_numV (canV_ok (canV_ofX ⟨false, 0, [UInt64.ofNat x]⟩))))
              have wc : wN m.c := sm_wN (rightN_sm k3)
              simp -dsimp only [go_sem]
              refine pwp_cut_mask [false, true, false, false, false, false, false, false, true, false, true, true, true, false, false, false, false, false, false, false, false, false, false, false, false, false, false, true, true, true] 2 1
                (fun s => s = ⟨[.junk, .sc (.int .i64 k), .junk, .junk, .junk, .junk, .junk, .junk, .sl (.own 0) (encPs o), .junk, .lp 0 0, .lp 1 0, .sc (.int .i64 (strN 2 m.c (intN x)).2), .junk, .junk, .junk, .junk, .junk, .junk, .junk, .junk, .junk, .junk, .junk, .junk, .junk, .junk, .sl .no (encPs p), .sc (.int .i64 p.length), .sc (.int .i64 (j : Nat))] ++ List.replicate 42 .junk, [encMn m, encN (strN 2 m.c (intN x)).1], [(o.length, 4)], S⟩) ?_ ?_
              · simp -dsimp only [go_sem]
                refine pwp_draw mixed 72 (.step 0 [] (.step 1 [] (.step 2 [] (.step 3 [] (.step 4 [] (.step 5 [] (.step 6 [] (.alt (.step 7 [1] (.alt (.step 8 [3] (.step 9 [] (.step 10 [] (.step 11 [] (.step 12 [1, 3, 6] (.step 13 [] (.step 14 [] (.done)))))))) (.step 12 [1, 3, 6] (.step 8 [3] (.step 9 [] (.step 10 [] (.step 11 [] (.step 13 [] (.step 14 [] (.done)))))))))) (.step 12 [1, 3, 6] (.step 7 [1] (.step 8 [3] (.step 9 [] (.step 10 [] (.step 11 [] (.step 13 [] (.step 14 [] (.done))))))))))))))))) (by decide +kernel) (by simp) ?_
                simp -dsimp only [go_sem, f1]
                refine ⟨by omega, And.intro ?_ ?_⟩
                · refine (numInt_c x _ (by omega)).mono ?_
                  rintro r st' ⟨rfl, rfl⟩
                  simp -dsimp only [go_sem]
                  refine And.intro ?_ ?_
                  all_goals
                    refine (numMul_c m.c (intN x) _ wc wi).mono ?_
                    rintro r st' ⟨rfl, rfl⟩
                    simp -dsimp only [go_sem]
                · refine (numInt_c x _ (by omega)).mono ?_
                  rintro r st' ⟨rfl, rfl⟩
                  simp -dsimp only [go_sem]
                  refine (numMul_c m.c (intN x) _ wc wi).mono ?_
                  rintro r st' ⟨rfl, rfl⟩
                  simp -dsimp only [go_sem]
              · rintro s rfl
                refine pwp_seq (pwp_of_vc ?_)
                simp -dsimp only [go_sem]
                refine ck (fun h3 => ?_) (fun h3 => ?_)
                · have hne := zbne_t h3
                  rw [if_pos hne] at hr
                  rw [hr]
                  simp -dsimp only [go_sem]
                  exact ⟨e, hS.symm⟩
                · have he := zbne_f h3
                  rw [if_neg (fun hh => hh he)] at hr
                  simp -dsimp only [go_sem]
                  generalize (strN 2 m.c (intN x)).1 = y at *
                  have hml : m.ks.length ≤ 100000000000 := by omega
                  refine pwp_cut_mask [false, true, false, false, false, false, false, false, true, false, false, false, false, true, false, false, false, false, false, false, false, false, false, false, false, false, false, true, true, true] 3 1
                    (fun s => ∃ off, s = ⟨[.junk, .sc (.int .i64 k), .junk, .junk, .junk, .junk, .junk, .junk, .sl (.own 0) (encPs o), .junk, .junk, .junk, .junk, .lp 2 0, .junk, .junk, .junk, .junk, .junk, .junk, .junk, .junk, .junk, .junk, .junk, .junk, .junk, .sl .no (encPs p), .sc (.int .i64 p.length), .sc (.int .i64 (j : Nat))] ++ List.replicate 42 .junk, [encMn m, encN y, [.sc (.bool y.neg), .sc (.int .i64 y.exp), .sl .no (encW y.w), .ms true S.length off m.ks.length]], [(o.length, 4)], S ++ [List.replicate off PV.junk ++ encZ m.ks]⟩) ?_ ?_
                  · simp -dsimp only [go_sem]
                    refine pwp_draw mixed 72 (.step 0 [] (.step 1 [] (.step 2 [] (.alt (.step 3 [0] (.step 4 [] (.step 5 [0, 2] (.step 6 [] (.done))))) (.step 5 [0, 2] (.step 3 [0] (.step 4 [] (.step 6 [] (.done))))))))) (by decide +kernel) (by simp) ?_
                    simp -dsimp only [go_sem]
                    refine And.intro ?_ ?_
                    all_goals
                      refine (cloneO_c m.ks _ hml (by omega)).mono ?_
                      rintro r st' ⟨off, rfl, rfl⟩
                      simp -dsimp only [go_sem]
                      exact ⟨off, rfl⟩
                  · rintro s ⟨off, rfl⟩
                    have gst : (S ++ [List.replicate off PV.junk ++ encZ m.ks]).getD S.length [] = List.replicate off PV.junk ++ encZ m.ks := by simp [List.getD_eq_getElem?_getD]
                    have g2 := obZ_get off m.ks k hkl
                    rw [hx] at g2
                    have x6 : IntKind.i64.wrap ((x : Int) - 1) = (x : Int) - 1 := wrap_i64 _ (by omega) (by omega)
                    have o1 := obZ_set off m.ks k ((x : Int) - 1) hkl
                    have sst : (S ++ [List.replicate off PV.junk ++ encZ m.ks]).set S.length (List.replicate off PV.junk ++ encZ (m.ks.set k ((x : Int) - 1))) = S ++ [List.replicate off PV.junk ++ encZ (decK m.ks k)] := by
                      rw [List.set_append_right _ _ (Nat.le_refl _), decK, hx]; simp
                    have r0 : (List.replicate off PV.junk).length = off := List.length_replicate
                    refine pwp_seq (pwp_of_vc ?_)
                    simp -dsimp only [go_sem, gst, g2, x6, o1, sst]
                    rw [r0]
                    refine ⟨by omega, by omega, by omega, by omega, ?_⟩
                    have hdl : (decK m.ks k).length = m.ks.length := by unfold decK; rw [List.length_set]
                    have gst2 : (S ++ [List.replicate off PV.junk ++ encZ (decK m.ks k)]).getD S.length [] = List.replicate off PV.junk ++ encZ (decK m.ks k) := by simp [List.getD_eq_getElem?_getD]
                    have sst2 : (S ++ [List.replicate off PV.junk ++ encZ (decK m.ks k)]).set S.length [] = S ++ [[]] := by
                      rw [List.set_append_right _ _ (Nat.le_refl _)]; simp
                    have hcut := obZ_cut off (decK m.ks k)
                    rw [hdl] at hcut
                    have hms : PV.frzG S.length (List.replicate off PV.junk ++ encZ (decK m.ks k)) (.ms true S.length off m.ks.length) = .sl .no (encZ (decK m.ks k)) := by
                      rw [frzG_ms (by rw [List.length_append, encZ_length, hdl, r0]; exact Nat.le_refl _), hcut]
                    refine pwp_freezeA S.length (by simp) ?_ ?_ ?_
                    · intro q hq
                      have hq' : q ∈ List.replicate off PV.junk ++ encZ (decK m.ks k) := by rw [← gst2]; exact hq
                      rcases List.mem_append.1 hq' with hq' | hq'
                      · rw [List.eq_of_mem_replicate hq']; rfl
                      · simp [encZ] at hq'
                        obtain ⟨c, _, rfl⟩ := hq'; rfl
                    · intro e0
                      have h2 : (List.replicate off PV.junk ++ encZ (decK m.ks k)).length = 0 := by
                        have e' : (S ++ [List.replicate off PV.junk ++ encZ (decK m.ks k)]).getD S.length [] = [] := e0
                        rw [gst2] at e'; rw [e']; rfl
                      rw [List.length_append, encZ_length, hdl] at h2; omega
                    · simp -dsimp only [go_sem, gst2, sst2, hms]
                      refine pwp_of_vc ?_
                      simp -dsimp only [go_sem]
                      refine ⟨⟨by omega, by omega⟩, pwp_of_vc ?_⟩
                      simp -dsimp only [go_sem, e3]
                      refine ⟨p.length - (j + 1), by omega, j + 1, o ++ [⟨y, decK m.ks k⟩], e + 1, rfl, by omega, by simp; omega, hr, ?_⟩
                      have hS2 : S ++ [[]] = st ++ List.replicate (e + 1) [] := by rw [← hS, List.append_assoc, ← List.replicate_succ']
                      rw [hS2]
                      simp [encPs, encMn]
          · have hge : j = p.length := by have := of_decide_eq_false h'; omega
            subst hge
            rw [diffL_end] at hr
            rw [hr]
            simp -dsimp only [go_sem]
            refine pwp_plain [false, false, false, false, false, false, false, false, true] (pwp_of_vc ?_)
            simp -dsimp only [go_sem]
            exact ⟨e, hS.symm⟩
    · have hv := bad (by rintro ⟨_, h, _⟩; have := of_decide_eq_true g1; omega)
      simp -dsimp only [go_sem, g1]
      rw [hv]; exact ⟨rfl, 0, by simp⟩
theorem noGB_encMn (n : Nat) (m : Mn) : ∀ j, j < (encMn m).length → Bnd n ((encMn m).getD j .junk) := fun j hj => by
  have hj' : j < 4 := hj
  have hw : Bnd n (.sl .no (encW m.c.w)) := .sl _ _ 1 (fun i hi => by rw [encW_length] at hi; rw [encW_get _ i hi]; rfl) fun i j hi hj => by
    rw [encW_length] at hi
    rw [encW_get _ i hi]
    have : j = 0 := by omega
    subst this; exact .sc _
  have hz : Bnd n (.sl .no (encZ m.ks)) := .sl _ _ 1 (fun i hi => by rw [encZ_length] at hi; rw [encZ_get _ i hi]; rfl) fun i j hi hj => by
    rw [encZ_length] at hi
    rw [encZ_get _ i hi]
    have : j = 0 := by omega
    subst this; exact .sc _
  match j, hj' with
  | 0, _ => exact .sc _
  | 1, _ => exact .sc _
  | 2, _ => exact hw
  | 3, _ => exact hz
theorem bnd_encPs (n : Nat) (p : List Mn) (t : Tag) : Bnd n (.sl t (encPs p)) := .sl _ _ 4 (encPs_cells p) fun i j hi hj => by
  rw [encPs_length] at hi
  rw [encPs_get p i hi]
  exact noGB_encMn n _ j hj
theorem bnd_tup2 {n : Nat} {a b : PV} (ha : Bnd n a) (hb : Bnd n b) : Bnd n (.tup [a, b]) := .tup _ fun j hj => by
  have hj' : j < 2 := hj
  match j, hj' with
  | 0, _ => exact ha
  | 1, _ => exact hb
theorem polyDiff_c (p : List Mn) (i n : Int) (st : Store) (hp : wP p) : PCalls Tryz.prog 102 [.sl .no (encPs p), .sc (.int .i64 i), .sc (.int .i64 n)] st (fun r st' => r = .tup [.sl .no (encPs (diffP p i n).1), .sc (.int .i64 (diffP p i n).2)] ∧ st' = st) := by
  refine PCalls.drop ((polyDiff_raw p i n st hp).mono ?_)
  rintro r st' ⟨rfl, e, rfl⟩
  exact ⟨bnd_tup2 (bnd_encPs _ _ _) (.sc _), _, rfl, rfl, rfl⟩
end Go.Pv
end

section
/- field.Jac. -/
set_option linter.unusedVariables false
set_option linter.unusedSimpArgs false
set_option maxRecDepth 100000
namespace Go.Pv
open Go.Proofs
def jacG (f : List (List Mn)) (i j : Nat) : List Mn × Int := diffP (f.getD i []) (j : Nat) f.length
def jacF (f : List (List Mn)) : List (List (List Mn)) × Int := if rightF f = true then tabF (fun i => tabF (fun j => jacG f i j) 0 f.length []) 0 f.length [] else ([], 1)
set_option maxHeartbeats 2000000 in
theorem fieldJac_c (f : List (List Mn)) (st : Store) (hf : wF f) : PCalls Tryz.prog 50 [.sl .no (encFs f)] st (fun r st' => r = .tup [.sl .no (encJs (jacF f).1), .sc (.int .i64 (jacF f).2)] ∧ st' = st) := by
  have hfl := hf.1
  refine pcalls_enter none Tryz.func50 rfl fun E => pwp_of_vc ?_
  simp -dsimp only [go_sem]
  refine (fieldRight_c f _ hf).mono ?_
  rintro r st ⟨rfl, rfl⟩
  cases r1 : rightF f with
  | false =>
    have hv : jacF f = ([], 1) := by rw [jacF, if_neg (by rw [r1]; decide)]
    simp -dsimp only [go_sem]
    rw [hv]; rfl
  | true =>
    have h4 := ((rightF_iff f).1 r1).1
    have hv : jacF f = tabF (fun i => tabF (fun j => jacG f i j) 0 f.length []) 0 f.length [] := by rw [jacF, if_pos r1]
    rw [hv]
    clear hv
    generalize hT : tabF (fun i => tabF (fun j => jacG f i j) 0 f.length []) 0 f.length [] = T
    simp -dsimp only [go_sem]
    refine pwp_claim 5 1 ?_
    simp -dsimp only [go_sem]
    refine pwp_loop_mask [true, false, false, false, true, true, false, false, false, false, false, false, false, false, false, true, true] 0 1
      (fun k s => ∃ (i : Nat) (o : List (List (List Mn))), k = f.length - i ∧ i ≤ f.length ∧ o.length = i ∧ T = tabF (fun i => tabF (fun j => jacG f i j) 0 f.length []) i (f.length - i) o ∧
        s = ⟨[.sl .no (encFs f), .junk, .junk, .junk, .sc (.int .i64 0), .sl (.own 0) (encJs o), .junk, .junk, .junk, .junk, .junk, .junk, .junk, .junk, .junk, .sc (.int .i64 f.length), .sc (.int .i64 (i : Nat))] ++ List.replicate 35 .junk, [], [(o.length, 1)], st⟩) f.length ?_ ?_
    · simp -dsimp only [go_sem]
      exact ⟨0, [], by omega, by omega, rfl, hT.symm, rfl⟩
    · rintro k s ⟨i, o, rfl, hi, ho, hr, rfl⟩
      simp -dsimp only [go_sem]
      refine ck (fun h' => ?_) (fun h' => ?_)
      · have hlt : i < f.length := by have := of_decide_eq_true h'; omega
        have e1 := encFs_get f i hlt
        have e3 := succW i (by omega)
        have e4 := tabF_step (fun i => tabF (fun j => jacG f i j) 0 f.length []) hlt o
        simp -dsimp only [go_sem]
        refine pwp_claim 7 1 ?_
        simp -dsimp only [go_sem]
        refine pwp_loop_mask [true, false, false, false, true, true, true, true, false, false, false, false, false, false, false, true, true, false, false, false, true, true] 0 2
          (fun k s => ∃ (j : Nat) (r : List (List Mn)), k = f.length - j ∧ j ≤ f.length ∧ r.length = j ∧ tabF (fun j => jacG f i j) 0 f.length [] = tabF (fun j => jacG f i j) j (f.length - j) r ∧
            s = ⟨[.sl .no (encFs f), .junk, .junk, .junk, .sc (.int .i64 0), .sl (.own 0) (encJs o), .sc (.int .i64 (i : Nat)), .sl (.own 1) (encFs r), .junk, .junk, .junk, .junk, .junk, .junk, .junk, .sc (.int .i64 f.length), .sc (.int .i64 (i : Nat)), .junk, .junk, .junk, .sc (.int .i64 f.length), .sc (.int .i64 (j : Nat))] ++ List.replicate 30 .junk, [], [(o.length, 1), (r.length, 1)], st⟩) f.length ?_ ?_
        · simp -dsimp only [go_sem]
          exact ⟨0, [], by omega, by omega, rfl, rfl, rfl⟩
        · rintro k s ⟨j, r, rfl, hj, hrl, hrr, rfl⟩
          simp -dsimp only [go_sem]
          refine ck (fun h'' => ?_) (fun h'' => ?_)
          · have hlt2 : j < f.length := by have := of_decide_eq_true h''; omega
            have f3 := succW j (by omega)
            have f4 := tabF_step (fun j => jacG f i j) hlt2 r
            simp -dsimp only [go_sem, e1]
            refine ⟨by omega, ?_⟩
            refine (polyDiff_c (f.getD i []) j f.length _ (hf.2 i hlt)).mono ?_
            rintro rr st ⟨rfl, rfl⟩
            simp -dsimp only [go_sem]
            refine ck (fun h5 => ?_) (fun h5 => ?_)
            · have hne : (jacG f i j).2 ≠ 0 := zbne_t h5
              have q1 : tabF (fun j => jacG f i j) 0 f.length [] = ([], (jacG f i j).2) := by rw [hrr, f4, if_pos hne]
              have hTT : T = ([], (jacG f i j).2) := by rw [hr, e4, if_pos (by rw [q1]; exact hne), q1]
              subst hTT
              simp -dsimp only [go_sem]
              refine pwp_of_vc ?_
              simp -dsimp only [go_sem, h5]
              try rfl
            · have he : (jacG f i j).2 = 0 := zbne_f h5
              simp -dsimp only [go_sem, f3]
              refine ⟨⟨by omega, by omega⟩, f.length - (j + 1), by omega, j + 1, r ++ [(jacG f i j).1], rfl, by omega, by simp [hrl], ?_, ?_⟩
              · rw [hrr, f4, if_neg (fun hh => hh he)]
              · simp [encFs, jacG]
          · have hge : j = f.length := by have := of_decide_eq_false h''; omega
            have q1 : tabF (fun j => jacG f i j) 0 f.length [] = (r, 0) := by rw [hrr, hge]; exact tabF_end _ f.length r
            simp -dsimp only [go_sem]
            refine pwp_of_vc ?_
            simp -dsimp only [go_sem]
            refine ⟨⟨by omega, by omega⟩, pwp_of_vc ?_⟩
            simp -dsimp only [go_sem, e3]
            refine ⟨f.length - (i + 1), by omega, i + 1, o ++ [r], rfl, by omega, by simp [ho], ?_, ?_⟩
            · rw [hr, e4, q1, if_neg (by simp)]
            · simp
      · have hge : i = f.length := by have := of_decide_eq_false h'; omega
        have z0 : ((0 : Int) != 0) = false := rfl
        simp -dsimp only [go_sem]
        refine pwp_of_vc ?_
        simp -dsimp only [go_sem, z0]
        rw [hr, hge, tabF_end]
end Go.Pv
end
