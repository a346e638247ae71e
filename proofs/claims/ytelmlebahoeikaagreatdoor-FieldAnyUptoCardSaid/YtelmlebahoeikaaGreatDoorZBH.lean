/- Parts of the walk: N55, N56, N57, M46, N58, N59. -/
import Derived.Test.YtelmlebahoeikaaGreatDoorZBE
import Derived.Test.YtelmlebahoeikaaGreatDoorZBG
import Derived.Test.YtelmlebahoeikaaGreatDoorZAH
set_option linter.unusedVariables false
set_option linter.unusedSimpArgs false
section
/- The document's gather, for terms in falling order. -/
set_option linter.unusedVariables false
set_option linter.unusedSimpArgs false
set_option maxRecDepth 100000
namespace Go.Pv
open Go.Proofs
theorem falls_at {ts : List Tm} (h : fallsK (ts.map Tm.ks)) {i j : Nat} (hij : i < j) (hj : j < ts.length) : ordK (ts.getD i default).ks (ts.getD j default).ks = 1 := by
  have := List.pairwise_iff_getElem.1 h i j (by simpa using (by omega : i < ts.length)) (by simpa using hj) hij
  simpa [List.getD_eq_getElem?_getD, hj, (by omega : i < ts.length)] using this
theorem drop_consT (a : List Tm) (i : Nat) (h : i < a.length) : a.drop i = a.getD i default :: a.drop (i + 1) := by
  rw [List.drop_eq_getElem_cons h]
  simp [List.getD_eq_getElem?_getD, h]
theorem take_snocT (a : List Tm) (i : Nat) (h : i < a.length) : a.take (i + 1) = a.take i ++ [a.getD i default] := by
  rw [List.take_add_one, List.getElem?_eq_getElem h]
  simp [List.getD_eq_getElem?_getD, h]
set_option maxHeartbeats 4000000 in
theorem gatherS_c (ts : List Tm) (st : Store) (hl : ts.length ≤ 24) (hf : fallsK (ts.map Tm.ks)) (hw : ∀ i, i < ts.length → wK (ts.getD i default).ks ∧ (digitsOf (ts.getD i default).v.m).length ≤ 1000000000000) :
    PCalls Tryz.prog 157 [.sl .no (encTs ts)] st (fun r st' => r = .tup [.sl .no (encPs (gathL ts []).1), .sc (.int .i64 (gathL ts []).2)] ∧ st' = st) := by
  refine pcalls_enter none Tryz.func157 rfl fun E => pwp_of_vc ?_
  simp -dsimp only [go_sem]
  refine pwp_plain [false, false, false, false, true] ?_
  simp -dsimp only [go_sem]
  refine pwp_loop_maskP [true, false, false, false, true, true] 0 0
    (fun c s => ∃ i, c = ts.length - i ∧ i ≤ ts.length ∧ s = ⟨[.sl .no (encTs ts), .junk, .junk, .junk, .sl .no (encTs (ts.take i)), .sc (.int .i64 (i : Nat))] ++ List.replicate 122 .junk, [], [], st⟩) ts.length ?_ ?_
  · simp -dsimp only [go_sem]
    exact ⟨0, by omega, by omega, by simp [encTs_nil]⟩
  · rintro c s ⟨i, rfl, hi, rfl⟩
    have hti : (ts.take i).length = i := by rw [List.length_take]; omega
    have htg : ∀ j, j < i → (ts.take i).getD j default = ts.getD j default := fun j hj => by simp [List.getD_eq_getElem?_getD, List.getElem?_take, hj]
    have hts : i < ts.length → ts.take (i + 1) = ts.take i ++ [ts.getD i default] := fun h => take_snocT ts i h
    have hfull : i = ts.length → ts.take i = ts := fun e => by rw [e, List.take_length]
    generalize ts.take i = O at *
    refine pwp_seq (pwp_of_vc ?_)
    simp -dsimp only [go_sem]
    refine ck (fun h' => ?_) (fun h' => ?_)
    · have hlt : i < ts.length := by have := of_decide_eq_true h'; omega
      have e1 := encTs_get ts i hlt
      have e3 := succW i (by omega)
      simp -dsimp only [go_sem]
      refine pwp_seq (pwp_block (pwp_seq (pwp_of_vc ?_)))
      simp -dsimp only [go_sem]
      refine pwp_cut_mask [true, false, false, false, true, true, true] 0 0
        (fun s => s = ⟨[.sl .no (encTs ts), .junk, .junk, .junk, .sl .no (encTs O), .sc (.int .i64 (i : Nat)), .sc (.int .i64 (i : Nat))] ++ List.replicate 121 .junk, [], [], st⟩) ?_ ?_
      · simp -dsimp only [go_sem]
        refine pwp_loop_mask [true, false, false, false, true, true, true] 0 0
          (fun c s => ∃ j, c = i - j ∧ j ≤ i ∧ s = ⟨[.sl .no (encTs ts), .junk, .junk, .junk, .sl .no (encTs O), .sc (.int .i64 (i : Nat)), .sc (.int .i64 (j : Nat))] ++ List.replicate 121 .junk, [], [], st⟩) i ?_ ?_
        · simp -dsimp only [go_sem]
          exact ⟨0, by omega, by omega, rfl⟩
        · rintro c s ⟨j, rfl, hj, rfl⟩
          have f3 := succW j (by omega)
          simp -dsimp only [go_sem]
          refine pwp_draw mixed 128 (.step 0 [] (.step 1 [] (.step 2 [] (.step 3 [] (.step 4 [] (.step 5 [] (.step 6 [] (.step 7 [] (.step 8 [] (.step 9 [] (.step 10 [] (.step 11 [] (.step 12 [] (.step 13 [] (.step 14 [] (.step 15 [] (.step 16 [] (.step 17 [] (.done))))))))))))))))))) (by decide +kernel) (by simp) ?_
          simp -dsimp only [go_sem]
          refine gkT (fun h1 => ?_) (fun h1 => ?_)
          · have hlt2 : j < i := by have := of_decide_eq_true h1; omega
            have e2 := encTs_get O j (by omega)
            rw [htg j hlt2] at e2
            simp -dsimp only [go_sem, h1, e1, e2]
            refine ⟨by omega, by omega, ?_⟩
            refine (refOrder_c (ts.getD j default).ks (ts.getD i default).ks _ (hw j (by omega)).1 (hw i hlt).1).mono ?_
            rintro r st ⟨rfl, rfl⟩
            rw [falls_at hf hlt2 hlt]
            have z1 : decide ((1 : Int) > 0) = true := rfl
            simp -dsimp only [go_sem, h1, z1, f3]
            exact ⟨i - (j + 1), by omega, j + 1, rfl, by omega, rfl⟩
          · have hge : j = i := by have := of_decide_eq_false h1; omega
            subst hge
            simp -dsimp only [go_sem, h1]
            try rfl
      · rintro s rfl
        have z0 : decide ((i : Int) < (O.length : Int)) = false := decide_eq_false (by omega)
        refine pwp_seq (pwp_of_vc ?_)
        simp -dsimp only [go_sem]
        refine pwp_draw mixed 128 (.step 0 [] (.step 1 [] (.step 2 [] (.step 3 [] (.step 4 [] (.step 5 [] (.step 6 [] (.step 7 [] (.step 8 [] (.step 9 [] (.step 10 [] (.step 11 [] (.step 12 [] (.step 13 [] (.step 14 [] (.step 15 [] (.step 16 [] (.step 17 [] (.done))))))))))))))))))) (by decide +kernel) (by simp) ?_
        simp -dsimp only [go_sem, z0]
        refine pwp_seq (pwp_of_vc ?_)
        simp -dsimp only [go_sem]
        refine pwp_claim 7 4 ?_
        simp -dsimp only [go_sem]
        refine pwp_seq (pwp_of_vc ?_)
        have hOt : O.take i = O := List.take_of_length_le (by omega)
        have hOd : O.drop i = [] := List.drop_of_length_le (by omega)
        simp -dsimp only [go_sem, hOt]
        refine ⟨⟨⟨by omega, by omega⟩, by omega⟩, ⟨by omega, by omega⟩, ?_⟩
        refine pwp_seq (pwp_of_vc ?_)
        have hsn : encTs O ++ [PV.agg [.sc (.bool (ts.getD i default).v.neg), .sl .no (encD (digitsOf (ts.getD i default).v.m)), .sc (.int .i64 (ts.getD i default).v.e), .sl .no (encZ (ts.getD i default).ks)]] = encTs (O ++ [ts.getD i default]) := encTs_snoc O _
        simp -dsimp only [go_sem, e1, hsn]
        refine ⟨by omega, ⟨by omega, by omega⟩, ?_⟩
        refine pwp_of_vc ?_
        simp -dsimp only [go_sem, List.take_length, hOd, hsn, List.append_nil, List.length_nil]
        refine ⟨⟨⟨by omega, by omega⟩, by omega⟩, ⟨by omega, by omega⟩, ?_⟩
        refine pwp_plain [false, false, false, false, true] (pwp_of_vc ?_)
        simp -dsimp only [go_sem, e3]
        exact ⟨ts.length - (i + 1), by omega, i + 1, rfl, by omega, by rw [hts hlt]⟩
    · have hge : i = ts.length := by have := of_decide_eq_false h'; omega
      have hO := hfull hge
      subst hO
      simp -dsimp only [go_sem]
      refine pwp_of_vc ?_
      simp -dsimp only [go_sem]
      clear hti htg hts hfull h' hge hi
      refine pwp_claim 8 4 ?_
      simp -dsimp only [go_sem]
      refine pwp_loop_mask [false, false, false, false, true, false, false, false, true, true] 0 1
        (fun c s => ∃ (j : Nat) (o : List Mn), c = O.length - j ∧ j ≤ O.length ∧ o.length ≤ j ∧ gathL O [] = gathL (O.drop j) o ∧
          s = ⟨[.junk, .junk, .junk, .junk, .sl .no (encTs O), .junk, .junk, .junk, .sl (.own 0) (encPs o), .sc (.int .i64 (j : Nat))] ++ List.replicate 118 .junk, [], [(o.length, 4)], st⟩) O.length ?_ ?_
      · simp -dsimp only [go_sem]
        exact ⟨0, [], by omega, by omega, by simp, rfl, rfl⟩
      · rintro c s ⟨j, o, rfl, hj, ho, hr, rfl⟩
        simp -dsimp only [go_sem]
        refine ck (fun h1 => ?_) (fun h1 => ?_)
        · have hlt : j < O.length := by have := of_decide_eq_true h1; omega
          have e1 := encTs_get O j hlt
          have e3 := succW j (by omega)
          obtain ⟨w1, w2⟩ := hw j hlt
          have w3 := w1.1
          rw [drop_consT O j hlt, gathL] at hr
          simp -dsimp only [go_sem, e1]
          refine ⟨by omega, ?_⟩
          refine (signV_c (O.getD j default).v _).mono ?_
          rintro r st ⟨rfl, rfl⟩
          simp -dsimp only [go_sem]
          refine ck (fun h2 => ?_) (fun h2 => ?_)
          · rw [if_pos (zbeq_t h2)] at hr
            simp -dsimp only [go_sem, e3]
            exact ⟨O.length - (j + 1), by omega, j + 1, o, rfl, by omega, by omega, hr, rfl⟩
          · rw [if_neg (zbeq_f h2)] at hr
            simp -dsimp only [go_sem, e1]
            refine ⟨by omega, ?_⟩
            refine (vnum_c (O.getD j default).v _ w2).mono ?_
            rintro r st ⟨rfl, rfl⟩
            simp -dsimp only [go_sem]
            refine ck (fun h3 => ?_) (fun h3 => ?_)
            · rw [if_pos (zbne_t h3)] at hr
              simp -dsimp only [go_sem]
              rw [hr]; rfl
            · rw [if_neg (by rw [zbne_f h3]; decide)] at hr
              simp -dsimp only [go_sem]
              refine pwp_draw mixed 128 (.step 0 [] (.step 1 [] (.step 2 [] (.step 3 [] (.step 4 [] (.step 5 [] (.step 6 [] (.step 7 [] (.step 8 [1] (.step 9 [] (.step 10 [] (.step 11 [] (.step 12 [] (.done)))))))))))))) (by decide +kernel) (by simp) ?_
              simp -dsimp only [go_sem, e1, e3]
              refine ⟨by omega, ⟨by omega, by omega⟩, ⟨by omega, by omega⟩, O.length - (j + 1), by omega, j + 1, o ++ [⟨(numV (O.getD j default).v).1, (O.getD j default).ks⟩], rfl, by omega, by simp; omega, hr, ?_⟩
              simp [encPs, encMn]
        · have hge : j = O.length := by have := of_decide_eq_false h1; omega
          subst hge
          rw [List.drop_length, gathL] at hr
          have z1 : decide ((o.length : Int) > 24) = false := decide_eq_false (by omega)
          simp -dsimp only [go_sem]
          refine pwp_plain [false, false, false, false, false, false, false, false, true] (pwp_of_vc ?_)
          simp -dsimp only [go_sem, z1]
          rw [hr]
end Go.Pv
end

section
/- The document's Diff. -/
set_option linter.unusedVariables false
set_option linter.unusedSimpArgs false
set_option maxRecDepth 100000
namespace Go.Pv
open Go.Proofs
theorem flat_encZ (l : List Int) : flat (encZ l) = encZ l := by
  induction l with
  | nil => rfl
  | cons x l ih =>
    show flat (.sc (.int .i64 x) :: encZ l) = .sc (.int .i64 x) :: encZ l
    rw [flat_cons, ih]; rfl
theorem dterms_drop {p : List Mn} {i j : Nat} (h : j < p.length) : dterms i (p.drop j) = if (p.getD j default).ks.getD i 0 = 0 then dterms i (p.drop (j + 1)) else ⟨byV (ofN (p.getD j default).c) (oddV false ((p.getD j default).ks.getD i 0).toNat 0), decK (p.getD j default).ks i⟩ :: dterms i (p.drop (j + 1)) := by
  rw [drop_consP p j h, dterms]
theorem dterms_form {i : Nat} {t : Tm} : ∀ {p : List Mn}, t ∈ dterms i p → ∃ m ∈ p, t = ⟨byV (ofN m.c) (oddV false (m.ks.getD i 0).toNat 0), decK m.ks i⟩
  | [], h => by cases h
  | m :: r, h => by
    rw [dterms] at h
    split at h
    · obtain ⟨m', h1, h2⟩ := dterms_form h; exact ⟨m', by simp [h1], h2⟩
    · rcases List.mem_cons.1 h with rfl | h
      · exact ⟨m, by simp, rfl⟩
      · obtain ⟨m', h1, h2⟩ := dterms_form h; exact ⟨m', by simp [h1], h2⟩
set_option maxHeartbeats 4000000 in
theorem refDiff_c (p : List Mn) (i n : Int) (st : Store) (hp : wP p) : PCalls Tryz.prog 130 [.sl .no (encPs p), .sc (.int .i64 i), .sc (.int .i64 n)] st (fun r st' => r = .tup [.sl .no (encPs (diffP p i n).1), .sc (.int .i64 (diffP p i n).2)] ∧ st' = st) := by
  refine pcalls_enter none Tryz.func130 rfl fun E => pwp_of_vc ?_
  have bad : ¬ (rightP p n = true ∧ 0 ≤ i ∧ i < n) → diffP p i n = ([], 1) := fun h => if_neg h
  simp -dsimp only [go_sem]
  refine (refPolyRight_c p n _ hp).mono ?_
  rintro r st ⟨rfl, rfl⟩
  cases r1 : rightP p n with
  | false =>
    have hv := bad (by rintro ⟨h, _⟩; rw [r1] at h; cases h)
    simp -dsimp only [go_sem]
    rw [hv]; rfl
  | true =>
    simp -dsimp only [go_sem]
    refine gkF (fun g1 => ?_) (fun g1 => ?_)
    · have g1' := of_decide_eq_false g1
      simp -dsimp only [go_sem, g1]
      refine ck (fun g2 => ?_) (fun g2 => ?_)
      · have hv := bad (by rintro ⟨_, _, h⟩; have := of_decide_eq_true g2; omega)
        simp -dsimp only [go_sem]
        rw [hv]; rfl
      · have g2' := of_decide_eq_false g2
        obtain ⟨k, rfl⟩ : ∃ k : Nat, i = k := ⟨i.toNat, by omega⟩
        have h4 := ((rightP_iff _ _).1 r1).1
        have hmem : ∀ m ∈ p, rightN m.c = true ∧ m.c.w.length ≠ 0 ∧ 0 ≤ m.ks.getD k 0 ∧ m.ks.getD k 0 ≤ 8 := fun m hm => by
          obtain ⟨q, hq, e⟩ := List.mem_iff_getElem.1 hm
          have e' : p.getD q default = m := by simp [List.getD_eq_getElem?_getD, hq, e]
          obtain ⟨k1, k2, k3⟩ := rightP_mono r1 hq
          have k4 := ((okP_iff _ _ _).1 (((rightP_iff p n).1 r1).2 q hq)).2.1
          rw [e'] at k1 k2 k3 k4
          have k5 := rightK_at k2 k (by omega)
          exact ⟨k3, k4, k5.1, k5.2⟩
        have hv : diffP p k n = gathL (dterms k p) [] := by rw [diffP, if_pos ⟨r1, by omega, by omega⟩, Int.toNat_natCast, gathL_diff p [] hmem]
        rw [hv]
        clear hv bad
        have hwt : ∀ q, q < (dterms k p).length → wK ((dterms k p).getD q default).ks ∧ (digitsOf ((dterms k p).getD q default).v.m).length ≤ 1000000000000 := fun q hq => by
          have hq' : (dterms k p).getD q default ∈ dterms k p := by
            rw [show (dterms k p).getD q default = (dterms k p)[q] by simp [List.getD_eq_getElem?_getD, hq]]
            exact List.getElem_mem hq
          obtain ⟨m, hm, e⟩ := dterms_form hq'
          obtain ⟨a, ha, e'⟩ := List.mem_iff_getElem.1 hm
          have e'' : p.getD a default = m := by simp [List.getD_eq_getElem?_getD, ha, e']
          obtain ⟨k1, k2, k3⟩ := rightP_mono r1 ha
          rw [e''] at k1 k2 k3
          have hx := (hmem m hm).2.2
          rw [e]
          refine ⟨⟨by rw [decK_length]; omega, fun z hz => ?_⟩, ?_⟩
          · rw [decK_length] at hz
            have h1 := rightK_at k2 z hz
            unfold decK
            by_cases c : z = k
            · subst c
              rw [show (m.ks.set z (m.ks.getD z 0 - 1)).getD z 0 = m.ks.getD z 0 - 1 by simp [List.getD_eq_getElem?_getD, hz]]
              omega
            · rw [show (m.ks.set k (m.ks.getD k 0 - 1)).getD z 0 = m.ks.getD z 0 by simp [List.getD_eq_getElem?_getD, List.getElem?_set_ne (Ne.symm c)]]
              omega
          · exact bdV_digits (bdV_by (bdV_ofN k3) (bdV_whole (k := (m.ks.getD k 0).toNat) (by omega))) (by omega)
        simp -dsimp only [go_sem]
        refine pwp_claim 8 4 ?_
        simp -dsimp only [go_sem]
        refine pwp_loop_maskP [true, true, false, false, false, false, false, false, true, true] 0 1
          (fun c s => ∃ (j : Nat) (o : List Tm), c = p.length - j ∧ j ≤ p.length ∧ o.length ≤ j ∧ dterms k p = o ++ dterms k (p.drop j) ∧
            s = ⟨[.sl .no (encPs p), .sc (.int .i64 k), .junk, .junk, .junk, .junk, .junk, .junk, .sl (.own 0) (encTs o), .sc (.int .i64 (j : Nat))] ++ List.replicate 67 .junk, [], [(o.length, 4)], st⟩) p.length ?_ ?_
        · simp -dsimp only [go_sem]
          exact ⟨0, [], by omega, by omega, by simp, by rw [List.drop_zero]; rfl, rfl⟩
        · rintro c s ⟨j, o, rfl, hj, ho, hr, rfl⟩
          refine pwp_seq (pwp_of_vc ?_)
          simp -dsimp only [go_sem]
          refine ck (fun h' => ?_) (fun h' => ?_)
          · have hlt : j < p.length := by have := of_decide_eq_true h'; omega
            have e1 := encPs_get p j hlt
            have e3 := succW j (by omega)
            obtain ⟨k1, k2, k3⟩ := rightP_mono r1 hlt
            rw [dterms_drop hlt] at hr
            generalize hm : p.getD j default = m at *
            have hkl : k < m.ks.length := by omega
            have f1 := encZ_get m.ks k hkl
            have hk := rightK_at k2 k hkl
            simp -dsimp only [go_sem]
            refine pwp_seq (pwp_block (pwp_seq (pwp_of_vc ?_)))
            simp -dsimp only [go_sem, e1, f1]
            refine ⟨by omega, by omega, ?_⟩
            refine ck (fun h2 => ?_) (fun h2 => ?_)
            · rw [if_pos (zbeq_t h2)] at hr
              simp -dsimp only [go_sem]
              refine pwp_of_vc ?_
              simp -dsimp only [go_sem, e3]
              exact ⟨p.length - (j + 1), by omega, j + 1, o, rfl, by omega, by omega, hr, rfl⟩
            · rw [if_neg (zbeq_f h2)] at hr
              obtain ⟨x, hx⟩ : ∃ x : Nat, m.ks.getD k 0 = x := ⟨(m.ks.getD k 0).toNat, by omega⟩
              rw [hx] at f1
              rw [hx, Int.toNat_natCast] at hr
              have x6 : IntKind.i64.wrap ((x : Int) - 1) = (x : Int) - 1 := wrap_i64 _ (by omega) (by omega)
              have o1 : over (encZ m.ks) k [.sc (.int .i64 ((x : Int) - 1))] = encZ (decK m.ks k) := by rw [encZ_over _ _ _ hkl, decK, hx]
              have hfz := flat_encZ m.ks
              have hdl := decK_length m.ks k
              simp -dsimp only [go_sem]
              refine pwp_seq (pwp_melt [false, false, false, false, false, false, true] ?_)
              simp -dsimp only [go_sem, e1, hfz]
              refine ⟨by omega, ⟨⟨by omega, by omega⟩, by omega⟩, ?_⟩
              refine pwp_seq (pwp_of_vc ?_)
              simp -dsimp only [go_sem, f1, x6, o1]
              refine ⟨by omega, by omega, by omega, ⟨by omega, by omega⟩, ?_⟩
              have hcut : (encZ (decK m.ks k)).take m.ks.length = encZ (decK m.ks k) := by rw [← hdl, encZ_take, List.take_length]
              refine pwp_freeze 0 ?_ ?_
              · simp -dsimp only [go_sem]
              simp -dsimp only [go_sem, hdl, List.drop_zero, hcut]
              refine pwp_of_vc ?_
              have b1 := bdV_ofN k3
              have b2 := bdV_whole (k := x) (by omega)
              refine pwp_draw mixed 77 (.step 0 [] (.step 1 [] (.step 2 [] (.step 3 [] (.step 4 [] (.step 5 [] (.step 7 [] (.step 8 [] (.step 9 [] (.step 10 [] (.step 11 [] (.step 12 [] (.step 13 [] (.step 14 [] (.step 17 [] (.step 6 [11, 14] (.step 15 [] (.step 16 [11] (.step 18 [] (.step 19 [] (.step 20 [11] (.step 21 [] (.done))))))))))))))))))))))) (by decide +kernel) (by simp) ?_
              simp -dsimp only [go_sem, e1, f1]
              refine ⟨by omega, by omega, by omega, ?_⟩
              refine (of_c m.c _ (sm_wN1 k3)).mono ?_
              rintro r st ⟨rfl, rfl⟩
              simp -dsimp only [go_sem]
              refine (whole_c x _ (by omega)).mono ?_
              rintro r st ⟨rfl, rfl⟩
              simp -dsimp only [go_sem]
              refine (by_c _ _ _ (smV_bd b1 (by omega) (by omega)) (smV_bd b2 (by omega) (by omega))).mono ?_
              rintro r st ⟨rfl, rfl⟩
              simp -dsimp only [go_sem]
              refine ⟨⟨by omega, by omega⟩, pwp_of_vc ?_⟩
              simp -dsimp only [go_sem, e3]
              refine ⟨p.length - (j + 1), by omega, j + 1, o ++ [⟨byV (ofN m.c) (oddV false x 0), decK m.ks k⟩], rfl, by omega, by simp; omega, by rw [hr, List.append_assoc]; rfl, ?_⟩
              simp [encTs, encTm]
          · have hge : j = p.length := by have := of_decide_eq_false h'; omega
            rw [hge, List.drop_length] at hr
            have hro : o = dterms k p := by rw [hr]; simp [dterms]
            subst hro
            have hdl := dterms_length k p
            simp -dsimp only [go_sem]
            refine pwp_of_vc ?_
            simp -dsimp only [go_sem]
            refine (gatherS_c (dterms k p) _ (by omega) (dterms_falls (rightP_falls r1)) hwt).mono ?_
            rintro r st ⟨rfl, rfl⟩
            simp -dsimp only [go_sem]
    · have hv := bad (by rintro ⟨_, h, _⟩; have := of_decide_eq_true g1; omega)
      simp -dsimp only [go_sem, g1]
      rw [hv]; rfl
end Go.Pv
end

section
/- The document's Jac. -/
set_option linter.unusedVariables false
set_option linter.unusedSimpArgs false
set_option maxRecDepth 100000
namespace Go.Pv
open Go.Proofs
set_option maxHeartbeats 2000000 in
theorem refJac_c (f : List (List Mn)) (st : Store) (hf : wF f) : PCalls Tryz.prog 69 [.sl .no (encFs f)] st (fun r st' => r = .tup [.sl .no (encJs (jacF f).1), .sc (.int .i64 (jacF f).2)] ∧ st' = st) := by
  have hfl := hf.1
  refine pcalls_enter none Tryz.func69 rfl fun E => pwp_of_vc ?_
  simp -dsimp only [go_sem]
  refine (refRightF_c f _ hf).mono ?_
  rintro r st ⟨rfl, rfl⟩
  cases r1 : rightF f with
  | false =>
    have hv : jacF f = ([], 1) := by rw [jacF, if_neg (by rw [r1]; decide)]
    simp -dsimp only [go_sem]
    rw [hv]; rfl
  | true =>
    have h4 := ((rightF_iff f).1 r1).1
    have hv : jacF f = tabF (fun i => tabF (fun j => jacG f i j) 0 f.length []) 0 f.length [] := by rw [jacF, if_pos r1]
    rw [hv]
    clear hv
    generalize hT : tabF (fun i => tabF (fun j => jacG f i j) 0 f.length []) 0 f.length [] = T
    simp -dsimp only [go_sem]
    refine pwp_claim 4 1 ?_
    simp -dsimp only [go_sem]
    refine pwp_loop_mask [true, false, false, false, true, true] 0 1
      (fun k s => ∃ (i : Nat) (o : List (List (List Mn))), k = f.length - i ∧ i ≤ f.length ∧ o.length = i ∧ T = tabF (fun i => tabF (fun j => jacG f i j) 0 f.length []) i (f.length - i) o ∧
        s = ⟨[.sl .no (encFs f), .junk, .junk, .junk, .sl (.own 0) (encJs o), .sc (.int .i64 (i : Nat))] ++ List.replicate 42 .junk, [], [(o.length, 1)], st⟩) f.length ?_ ?_
    · simp -dsimp only [go_sem]
      exact ⟨0, [], by omega, by omega, rfl, hT.symm, rfl⟩
    · rintro k s ⟨i, o, rfl, hi, ho, hr, rfl⟩
      simp -dsimp only [go_sem]
      refine ck (fun h' => ?_) (fun h' => ?_)
      · have hlt : i < f.length := by have := of_decide_eq_true h'; omega
        have e1 := encFs_get f i hlt
        have e3 := succW i (by omega)
        have e4 := tabF_step (fun i => tabF (fun j => jacG f i j) 0 f.length []) hlt o
        simp -dsimp only [go_sem]
        refine pwp_claim 6 1 ?_
        simp -dsimp only [go_sem]
        refine pwp_loop_mask [true, false, false, false, true, true, true, true] 0 2
          (fun k s => ∃ (j : Nat) (r : List (List Mn)), k = f.length - j ∧ j ≤ f.length ∧ r.length = j ∧ tabF (fun j => jacG f i j) 0 f.length [] = tabF (fun j => jacG f i j) j (f.length - j) r ∧
            s = ⟨[.sl .no (encFs f), .junk, .junk, .junk, .sl (.own 0) (encJs o), .sc (.int .i64 (i : Nat)), .sl (.own 1) (encFs r), .sc (.int .i64 (j : Nat))] ++ List.replicate 40 .junk, [], [(o.length, 1), (r.length, 1)], st⟩) f.length ?_ ?_
        · simp -dsimp only [go_sem]
          exact ⟨0, [], by omega, by omega, rfl, rfl, rfl⟩
        · rintro k s ⟨j, r, rfl, hj, hrl, hrr, rfl⟩
          simp -dsimp only [go_sem]
          refine ck (fun h'' => ?_) (fun h'' => ?_)
          · have hlt2 : j < f.length := by have := of_decide_eq_true h''; omega
            have f3 := succW j (by omega)
            have f4 := tabF_step (fun j => jacG f i j) hlt2 r
            simp -dsimp only [go_sem, e1]
            refine ⟨by omega, ?_⟩
            refine (refDiff_c (f.getD i []) j f.length _ (hf.2 i hlt)).mono ?_
            rintro rr st ⟨rfl, rfl⟩
            simp -dsimp only [go_sem]
            refine ck (fun h5 => ?_) (fun h5 => ?_)
            · have hne : (jacG f i j).2 ≠ 0 := zbne_t h5
              have q1 : tabF (fun j => jacG f i j) 0 f.length [] = ([], (jacG f i j).2) := by rw [hrr, f4, if_pos hne]
              have hTT : T = ([], (jacG f i j).2) := by rw [hr, e4, if_pos (by rw [q1]; exact hne), q1]
              subst hTT
              simp -dsimp only [go_sem]
              try rfl
            · have he : (jacG f i j).2 = 0 := zbne_f h5
              simp -dsimp only [go_sem, f3]
              refine ⟨⟨by omega, by omega⟩, f.length - (j + 1), by omega, j + 1, r ++ [(jacG f i j).1], rfl, by omega, by simp [hrl], ?_, ?_⟩
              · rw [hrr, f4, if_neg (fun hh => hh he)]
              · simp [encFs, jacG]
          · have hge : j = f.length := by have := of_decide_eq_false h''; omega
            have q1 : tabF (fun j => jacG f i j) 0 f.length [] = (r, 0) := by rw [hrr, hge]; exact tabF_end _ f.length r
            simp -dsimp only [go_sem]
            refine pwp_of_vc ?_
            simp -dsimp only [go_sem]
            refine ⟨⟨by omega, by omega⟩, pwp_of_vc ?_⟩
            simp -dsimp only [go_sem, e3]
            refine ⟨f.length - (i + 1), by omega, i + 1, o ++ [r], rfl, by omega, by simp [ho], ?_, ?_⟩
            · rw [hr, e4, q1, if_neg (by simp)]
            · simp
      · have hge : i = f.length := by have := of_decide_eq_false h'; omega
        simp -dsimp only [go_sem]
        refine pwp_of_vc ?_
        simp -dsimp only [go_sem]
        rw [hr, hge, tabF_end]
end Go.Pv
end

section
/- What the machine holds of derivatives and values. No program in it. -/
set_option linter.unusedVariables false
set_option linter.unusedSimpArgs false
namespace Go.Pv
theorem wP_mem {p : List Mn} : wP p ↔ p.length ≤ 100000000000 ∧ ∀ m ∈ p, wMn m := by
  unfold wP
  constructor
  · rintro ⟨h1, h2⟩
    refine ⟨h1, fun m hm => ?_⟩
    obtain ⟨i, hi, e⟩ := List.mem_iff_getElem.1 hm
    have := h2 i hi
    rwa [show p.getD i default = m by simp [List.getD_eq_getElem?_getD, hi, e]] at this
  · rintro ⟨h1, h2⟩
    refine ⟨h1, fun i hi => ?_⟩
    rw [show p.getD i default = p[i] by simp [List.getD_eq_getElem?_getD, hi]]
    exact h2 _ (List.getElem_mem hi)
theorem wF_mem {f : List (List Mn)} : wF f ↔ f.length ≤ 100000000000 ∧ ∀ p ∈ f, wP p := by
  unfold wF
  constructor
  · rintro ⟨h1, h2⟩
    refine ⟨h1, fun m hm => ?_⟩
    obtain ⟨i, hi, e⟩ := List.mem_iff_getElem.1 hm
    have := h2 i hi
    rwa [show f.getD i [] = m by simp [List.getD_eq_getElem?_getD, hi, e]] at this
  · rintro ⟨h1, h2⟩
    refine ⟨h1, fun i hi => ?_⟩
    rw [show f.getD i [] = f[i] by simp [List.getD_eq_getElem?_getD, hi]]
    exact h2 _ (List.getElem_mem hi)
theorem strN_wN (k : Nat) (a b : Nm) : wN (strN k a b).1 := by
  unfold strN
  split
  · rename_i h
    exact sm_wN (rightN_sm (rightN_numV (canV_ok (canV_ex k (canV_ofN h.1) (canV_ofN h.2)))))
  · exact sm_wN (rightN_sm (show rightN default = true by decide))
theorem decK_wK {ks : List Int} {i : Nat} (hr : rightK ks = true) (hl : ks.length ≤ 100000000000) (hi : i < ks.length) : wK (decK ks i) := by
  refine ⟨by rw [decK_length]; omega, fun z hz => ?_⟩
  rw [decK_length] at hz
  have h1 := rightK_at hr z hz
  unfold decK
  by_cases c : z = i
  · subst c
    rw [show (ks.set z (ks.getD z 0 - 1)).getD z 0 = ks.getD z 0 - 1 by simp [List.getD_eq_getElem?_getD, hz]]
    omega
  · rw [show (ks.set i (ks.getD i 0 - 1)).getD z 0 = ks.getD z 0 by simp [List.getD_eq_getElem?_getD, List.getElem?_set_ne (Ne.symm c)]]
    omega
theorem diffL_wP {i : Nat} : ∀ (p acc : List Mn), (∀ m ∈ p, wK (decK m.ks i)) → (∀ m ∈ acc, wMn m) → (diffL i p acc).1.length ≤ acc.length + p.length ∧ ∀ m ∈ (diffL i p acc).1, wMn m
  | [], acc, _, h => ⟨by simp [diffL], h⟩
  | m :: r, acc, hp, h => by
    rw [diffL]
    split
    · obtain ⟨a1, a2⟩ := diffL_wP (i := i) r acc (fun m hm => hp m (by simp [hm])) h
      exact ⟨by simp only [List.length_cons]; omega, a2⟩
    · split
      · exact ⟨by simp, fun m hm => by cases hm⟩
      · obtain ⟨a1, a2⟩ := diffL_wP (i := i) r (acc ++ [⟨(strN 2 m.c (intN (m.ks.getD i 0).toNat)).1, decK m.ks i⟩]) (fun m hm => hp m (by simp [hm])) (fun q hq => by
          rcases List.mem_append.1 hq with hq | hq
          · exact h q hq
          · simp at hq; subst hq
            exact ⟨strN_wN _ _ _, hp m (by simp)⟩)
        exact ⟨by simp only [List.length_append, List.length_cons, List.length_nil] at a1; simp only [List.length_cons]; omega, a2⟩
theorem diffP_wP (p : List Mn) (i n : Int) : wP (diffP p i n).1 := by
  rw [wP_mem]
  unfold diffP
  split
  · rename_i h
    obtain ⟨h1, h2, h3⟩ := h
    have h4 := ((rightP_iff _ _).1 h1).1
    obtain ⟨a1, a2⟩ := diffL_wP (i := i.toNat) p [] (fun m hm => by
      obtain ⟨q, hq, e⟩ := List.mem_iff_getElem.1 hm
      obtain ⟨k1, k2, k3⟩ := rightP_mono h1 hq
      rw [show p.getD q default = m by simp [List.getD_eq_getElem?_getD, hq, e]] at k1 k2
      exact decK_wK k2 (by omega) (by omega)) (fun m hm => by cases hm)
    exact ⟨by have := a1; rw [List.length_nil] at this; omega, a2⟩
  · exact ⟨by simp, fun m hm => by cases hm⟩
theorem jacF_wF (f : List (List Mn)) (hf : f.length ≤ 100000000000) : (jacF f).1.length ≤ 100000000000 ∧ ∀ g ∈ (jacF f).1, wF g := by
  unfold jacF
  split
  · refine ⟨?_, ?_⟩
    · have := tabF_len (G := fun i => tabF (fun j => jacG f i j) 0 f.length []) f.length 0 []
      simp only [List.length_nil] at this; omega
    · refine tabF_mem wF f.length 0 [] (fun i _ _ => ?_) (fun x hx => by cases hx)
      rw [wF_mem]
      refine ⟨?_, tabF_mem wP f.length 0 [] (fun j _ _ => diffP_wP _ _ _) (fun x hx => by cases hx)⟩
      have := tabF_len (G := fun j => jacG f i j) f.length 0 []
      simp only [List.length_nil] at this; omega
  · exact ⟨by simp, fun g hg => by cases hg⟩
theorem atP_right (p : List Mn) (x : List Nm) : rightN (atP p x).1 = true := by
  unfold atP
  split
  · rename_i h
    exact rightN_numV (canV_ok (canV_val ((all_getD x rightN).1 h.2) _ fun j hj => (rightP_mono h.1 hj).2.2))
  · decide
end Go.Pv
end

section
/- Layer 11: light, told. -/
set_option linter.unusedVariables false
set_option linter.unusedSimpArgs false
set_option maxRecDepth 100000
namespace Go.Pv
open Go.Proofs
theorem atFd_wNs (f : List (List Mn)) (x : List Nm) (hf : f.length ≤ 100000000000) : wNs (atFd f x).1 := by
  have key : (atFd f x).1.length ≤ 100000000000 ∧ ∀ y ∈ (atFd f x).1, wN y := by
    unfold atFd
    split
    · refine ⟨?_, tabF_mem wN f.length 0 [] (fun i _ _ => sm_wN (rightN_sm (atP_right _ _))) (fun x hx => by cases hx)⟩
      have := tabF_len (G := fun i => atP (f.getD i []) x) f.length 0 []
      rw [List.length_nil] at this; omega
    · exact ⟨by simp, fun y hy => by cases hy⟩
  refine ⟨key.1, fun i hi => ?_⟩
  rw [show (atFd f x).1.getD i default = (atFd f x).1[i] by simp [List.getD_eq_getElem?_getD, hi]]
  exact key.2 _ (List.getElem_mem hi)
theorem rangeP_wI (q : List Mn) (b : List Ivl) (p : Int) : wI (rangeP q b p).1 := by
  unfold rangeP
  split
  · exact rangeF_wI _ _ _ _
  · exact wI_dflt
theorem rangeFd_wB (f : List (List Mn)) (b : List Ivl) (p : Int) (hf : f.length ≤ 100000000000) : wB (rangeFd f b p).1 := by
  have key : (rangeFd f b p).1.length ≤ 100000000000 ∧ ∀ y ∈ (rangeFd f b p).1, wI y := by
    unfold rangeFd
    split
    · refine ⟨?_, tabF_mem wI f.length 0 [] (fun i _ _ => rangeP_wI _ _ _) (fun x hx => by cases hx)⟩
      have := tabF_len (G := fun i => rangeP (f.getD i []) b p) f.length 0 []
      rw [List.length_nil] at this; omega
    · exact ⟨by simp, fun y hy => by cases hy⟩
  refine ⟨key.1, fun i hi => ?_⟩
  rw [show (rangeFd f b p).1.getD i default = (rangeFd f b p).1[i] by simp [List.getD_eq_getElem?_getD, hi]]
  exact key.2 _ (List.getElem_mem hi)
set_option maxHeartbeats 4000000 in
theorem told11_c (f g : List (List Mn)) (x : List Nm) (b : List Ivl) (p : Int) (st : Store) (hf : wF f) (hg : wF g) (hx : wNs x) (hb : wB b) : PCalls Tryz.prog 17 [.sl .no (encFs f), .sl .no (encFs g), .sl .no (encNs x), .sl .no (encIs b), .sc (.int .i64 p)] st (fun r st' => r = .sc (.bool true) ∧ st' = st) := by
  have wa := atFd_wNs f x hf.1
  have wr := rangeFd_wB f b p hf.1
  have wj := jacF_wF f hf.1
  refine pcalls_enter none Tryz.func17 rfl fun E => pwp_of_vc ?_
  simp -dsimp only [go_sem]
  refine (fieldAt_c f x _ hf hx.1 hx.2).mono ?_
  rintro r st ⟨rfl, rfl⟩
  simp -dsimp only [go_sem]
  refine (refAtField_c f x _ hf hx.1 hx.2).mono ?_
  rintro r st ⟨rfl, rfl⟩
  simp -dsimp only [go_sem]
  refine (fieldRange_c f b p _ hf hb).mono ?_
  rintro r st ⟨rfl, rfl⟩
  simp -dsimp only [go_sem]
  refine (refRangeField_c f b p _ hf hb).mono ?_
  rintro r st ⟨rfl, rfl⟩
  simp -dsimp only [go_sem]
  refine (fieldJac_c f _ hf).mono ?_
  rintro r st ⟨rfl, rfl⟩
  simp -dsimp only [go_sem]
  refine (refJac_c f _ hf).mono ?_
  rintro r st ⟨rfl, rfl⟩
  generalize (atFd f x).1 = A at *
  generalize (atFd f x).2 = a at *
  generalize (rangeFd f b p).1 = R at *
  generalize (rangeFd f b p).2 = ra at *
  generalize (jacF f).1 = Q at *
  generalize (jacF f).2 = q at *
  simp -dsimp only [go_sem, bne_self_eq_false]
  refine (helpNums_c A A _ wa wa).mono ?_
  rintro r st ⟨rfl, rfl⟩
  have dA : decide (A = A) = true := decide_eq_true rfl
  simp -dsimp only [go_sem, bne_self_eq_false, dA]
  refine (sameBox_c R R _ wr wr).mono ?_
  rintro r st ⟨rfl, rfl⟩
  have dR : decide (R = R) = true := decide_eq_true rfl
  simp -dsimp only [go_sem, bne_self_eq_false, dR]
  refine pwp_loop_mask [true, true, false, false, false, false, false, false, false, false, false, false, false, false, false, false, false, false, false, true, false, true, false, true] 0 0
    (fun n s => ∃ i, n = Q.length - i ∧ i ≤ Q.length ∧ s = ⟨[.sl .no (encFs f), .sl .no (encFs g), .junk, .junk, .junk, .junk, .junk, .junk, .junk, .junk, .junk, .junk, .junk, .junk, .junk, .junk, .junk, .junk, .junk, .sl .no (encJs Q), .junk, .sl .no (encJs Q), .junk, .sc (.int .i64 (i : Nat))] ++ List.replicate 105 .junk, [], [], st⟩) Q.length ?_ ?_
  · simp -dsimp only [go_sem]
    exact ⟨0, by omega, by omega, rfl⟩
  · rintro n s ⟨i, rfl, hi, rfl⟩
    simp -dsimp only [go_sem]
    refine ck (fun h' => ?_) (fun h' => ?_)
    · have hlt : i < Q.length := by have := of_decide_eq_true h'; omega
      have e1 := encJs_get Q i hlt
      have e3 := succW i (by have := wj.1; omega)
      have wq : wF (Q.getD i []) := by
        rw [show Q.getD i [] = Q[i] by simp [List.getD_eq_getElem?_getD, hlt]]
        exact wj.2 _ (List.getElem_mem hlt)
      simp -dsimp only [go_sem]
      refine pwp_draw mixed 129 (.step 0 [] (.step 1 [] (.step 2 [] (.step 3 [] (.step 4 [] (.step 5 [] (.step 6 [] (.step 7 [] (.step 8 [] (.step 9 [] (.done))))))))))) (by decide +kernel) (by simp) ?_
      simp -dsimp only [go_sem, e1]
      refine ⟨by omega, by omega, ?_⟩
      refine (refSameF_c _ _ _ wq wq).mono ?_
      rintro r st ⟨rfl, rfl⟩
      rw [decide_eq_true rfl]
      simp -dsimp only [go_sem, e3]
      exact ⟨Q.length - (i + 1), by omega, i + 1, rfl, by omega, rfl⟩
    · simp -dsimp only [go_sem]
      refine pwp_of_vc ?_
      simp -dsimp only [go_sem]
      refine (fieldRight_c f _ hf).mono ?_
      rintro r st ⟨rfl, rfl⟩
      simp -dsimp only [go_sem]
      refine (refRightF_c f _ hf).mono ?_
      rintro r st ⟨rfl, rfl⟩
      simp -dsimp only [go_sem, beq_self_eq_true]
      refine (fieldSame_c f g _ hf hg).mono ?_
      rintro r st ⟨rfl, rfl⟩
      simp -dsimp only [go_sem, beq_self_eq_true]
      refine (refSameF_c f g _ hf hg).mono ?_
      rintro r st ⟨rfl, rfl⟩
      simp -dsimp only [go_sem, beq_self_eq_true]
      refine (fieldDegree_c f _ hf).mono ?_
      rintro r st ⟨rfl, rfl⟩
      simp -dsimp only [go_sem, beq_self_eq_true]
      refine (refDegreeF_c f _ hf).mono ?_
      rintro r st ⟨rfl, rfl⟩
      simp -dsimp only [go_sem, beq_self_eq_true]
end Go.Pv
end

section
/- Layer 11: light. -/
set_option linter.unusedVariables false
set_option linter.unusedSimpArgs false
set_option maxRecDepth 100000
namespace Go.Pv
open Go.Proofs
theorem light11_c (f : List (List Mn)) (st : Store) (hf : wF f) : PCalls Tryz.prog 16 [.sl .no (encFs f)] st (fun r st' => (∃ b, r = .sc (.bool b)) ∧ st' = st) := by
  have hfl := hf.1
  refine pcalls_enter none Tryz.func16 rfl fun E => pwp_of_vc ?_
  simp -dsimp only [go_sem]
  refine ck (fun h0 => ?_) (fun h0 => ?_)
  · simp -dsimp only [go_sem]
    exact ⟨_, rfl⟩
  · simp -dsimp only [go_sem]
    refine pwp_loop_mask [true, false, false, true] 0 0 (fun n s => ∃ i, n = f.length - i ∧ i ≤ f.length ∧ s = ⟨[.sl .no (encFs f), .junk, .junk, .sc (.int .i64 (i : Nat))] ++ List.replicate 48 .junk, [], [], st⟩) f.length ?_ ?_
    · simp -dsimp only [go_sem]
      exact ⟨0, by omega, by omega, rfl⟩
    · rintro n s ⟨i, rfl, hi, rfl⟩
      simp -dsimp only [go_sem]
      refine ck (fun h2 => ?_) (fun h2 => ?_)
      · have hlt : i < f.length := by have := of_decide_eq_true h2; omega
        have e1 := encFs_get f i hlt
        have e3 := succW i (by omega)
        have hp := hf.2 i hlt
        have hpl := hp.1
        simp -dsimp only [go_sem, e1]
        refine ⟨by omega, ?_⟩
        refine ck (fun h3 => ?_) (fun h3 => ?_)
        · simp -dsimp only [go_sem]
          exact ⟨_, rfl⟩
        · simp -dsimp only [go_sem]
          refine pwp_loop_mask [true, false, false, true, true] 0 0 (fun n s => ∃ j, n = (f.getD i []).length - j ∧ j ≤ (f.getD i []).length ∧ s = ⟨[.sl .no (encFs f), .junk, .junk, .sc (.int .i64 (i : Nat)), .sc (.int .i64 (j : Nat))] ++ List.replicate 47 .junk, [], [], st⟩) (f.getD i []).length ?_ ?_
          · simp -dsimp only [go_sem]
            exact ⟨0, by omega, by omega, rfl⟩
          · rintro n s ⟨j, rfl, hj, rfl⟩
            simp -dsimp only [go_sem, e1]
            refine ⟨by omega, ck (fun h4 => ?_) (fun h4 => ?_)⟩
            · have hlt2 : j < (f.getD i []).length := by have := of_decide_eq_true h4; omega
              have f1 := encPs_get (f.getD i []) j hlt2
              have f3 := succW j (by omega)
              simp -dsimp only [go_sem, e1, f1]
              refine ⟨by omega, by omega, ?_⟩
              refine gkF (fun h5 => ?_) (fun h5 => ?_)
              · simp -dsimp only [go_sem, h5, e1, f1]
                refine ⟨by omega, by omega, ck (fun h6 => ?_) (fun h6 => ?_)⟩
                · simp -dsimp only [go_sem]
                  exact ⟨_, rfl⟩
                · simp -dsimp only [go_sem, f3]
                  exact ⟨(f.getD i []).length - (j + 1), by omega, j + 1, rfl, by omega, rfl⟩
              · simp -dsimp only [go_sem, h5]
                exact ⟨_, rfl⟩
            · simp -dsimp only [go_sem]
              refine pwp_of_vc ?_
              simp -dsimp only [go_sem, e3]
              exact ⟨f.length - (i + 1), by omega, i + 1, rfl, by omega, rfl⟩
      · simp -dsimp only [go_sem]
        refine pwp_of_vc ?_
        simp -dsimp only [go_sem]
        exact ⟨_, rfl⟩
end Go.Pv
end
