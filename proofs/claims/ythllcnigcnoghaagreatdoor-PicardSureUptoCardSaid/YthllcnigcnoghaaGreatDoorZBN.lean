/- Parts of the walk: N61, N62, N64. -/
import Derived.Test.YthllcnigcnoghaaGreatDoorZBH
import Derived.Test.YthllcnigcnoghaaGreatDoorZBM
import Derived.Test.YthllcnigcnoghaaGreatDoorZBI
import Derived.Test.YthllcnigcnoghaaGreatDoorZAM
import Derived.Test.YthllcnigcnoghaaGreatDoorZBJ
import Derived.Test.YthllcnigcnoghaaGreatDoorZBB
set_option linter.unusedVariables false
set_option linter.unusedSimpArgs false
section
/- The document's gather, for any terms. -/
set_option maxRecDepth 100000
namespace Go.Pv
open Go.Proofs
theorem flatT_cells (O : List Tm) : ∀ i, i < (encTs O).length → ((encTs O).getD i .junk).cells.length = 4 := fun i hi => by
 rw [encTs_length] at hi
 rw [encTs_get O i hi]; rfl
theorem flatT_len (O : List Tm) : (flat (encTs O)).length = O.length * 4 := by rw [flat_length (flatT_cells O), encTs_length]
theorem flatT_at (O : List Tm) (R : List PV) (k m : Nat) (hk : k < O.length) (hm : m < 4) : (flat (encTs O) ++ R).getD (k * 4 + m) .junk = (encTm (O.getD k default)).getD m .junk := by
 have h := flatT_len O
 rw [getD_append_left _ _ _ _ (by omega), flat_getD (flatT_cells O) _ (by rw [encTs_length]; omega), show (k * 4 + m) / 4 = k from by omega, show (k * 4 + m) % 4 = m from by omega, encTs_get O k hk]
 rfl
theorem flatT_drop (O : List Tm) (k : Nat) : (flat (encTs O)).drop (k * 4) = flat (encTs (O.drop k)) := by
 induction k generalizing O with
 | zero => simp
 | succ k ih =>
  cases O with
  | nil => simp [encTs, flat]
  | cons o r =>
   have e : flat (encTs (o :: r)) = encTm o ++ flat (encTs r) := rfl
   rw [e, show (k + 1) * 4 = 4 + k * 4 from by omega, ← List.drop_drop, List.drop_append_of_le_length (by simp [encTm]), show (encTm o).drop 4 = [] from rfl, List.nil_append, ih r, List.drop_succ_cons]
theorem flatT_v (O : List Tm) (R : List PV) (k : Nat) (hk : k < O.length) : ((flat (encTs O) ++ R).drop (k * 4)).take 3 = encV (O.getD k default).v := by
 have h := flatT_len O
 rw [List.drop_append_of_le_length (by omega), flatT_drop, show O.drop k = O.getD k default :: O.drop (k + 1) from drop_consT O k hk]
 rfl
theorem flatT_set (O : List Tm) (R : List PV) (k : Nat) (v : Vl) (hk : k < O.length) : over (flat (encTs O) ++ R) (k * 4) (encV v) = flat (encTs (O.set k ⟨v, (O.getD k default).ks⟩)) ++ R := by
 have h := flatT_len O
 induction k generalizing O with
 | zero =>
  cases O with
  | nil => simp at hk
  | cons o r => rfl
 | succ k ih =>
  cases O with
  | nil => simp at hk
  | cons o r =>
   have e : flat (encTs (o :: r)) = encTm o ++ flat (encTs r) := rfl
   have ih' := ih r (by simpa using hk) (flatT_len r)
   have hl : (encTm o).length = 4 := rfl
   have hget : (o :: r).getD (k + 1) default = r.getD k default := rfl
   rw [hget, List.set_cons_succ, show flat (encTs (o :: r.set k ⟨v, (r.getD k default).ks⟩)) = encTm o ++ flat (encTs (r.set k ⟨v, (r.getD k default).ks⟩)) from rfl, e, List.append_assoc, List.append_assoc, ← ih']
   unfold over
   rw [show (k + 1) * 4 = 4 + k * 4 from by omega, List.take_append, List.drop_append, hl, List.take_of_length_le (by rw [hl]; omega), List.drop_of_length_le (by rw [hl]; omega)]
   simp only [show 4 + k * 4 - 4 = k * 4 from by omega, show 4 + k * 4 + (encV v).length - 4 = k * 4 + (encV v).length from by omega, List.nil_append, List.append_assoc]
theorem flatT_quiet (O : List Tm) : (flat (encTs O)).all PV.quiet = true := by
 induction O with
 | nil => rfl
 | cons o r ih =>
  have e : flat (encTs (o :: r)) = encTm o ++ flat (encTs r) := rfl
  rw [e, List.all_append, ih]; rfl
theorem flatT_take (O : List Tm) (R : List PV) (n : Nat) (hn : n = O.length) : (flat (encTs O) ++ R).take (n * 4) = flat (encTs O) := take_flat (flatT_cells O) (by rw [encTs_length]; exact hn)
theorem flatT_room (O X : List Tm) (R : List PV) : flat (encTs O) ++ (flat (encTs X) ++ R) = flat (encTs (O ++ X)) ++ R := by
 rw [← List.append_assoc, ← flat_append, encTs_app]
theorem flatT_forget (O : List Tm) : (flat (encTs O)).map PV.forget2 = flat (encTs O) := by
 induction O with
 | nil => rfl
 | cons o r ih =>
  have e : flat (encTs (o :: r)) = encTm o ++ flat (encTs r) := rfl
  rw [e, List.map_append, ih]; rfl
theorem flatT_chunks (O : List Tm) (R : List PV) : chunks 4 O.length (flat (encTs O) ++ R) = encTs O := by
 have := chunks_flat (sz := 4) (ys := encTs O) R (fun y hy => by
  unfold encTs at hy
  obtain ⟨t, _, rfl⟩ := List.mem_map.1 hy
  exact ⟨rfl, rfl⟩)
 rw [encTs_length] at this
 exact this
theorem flatT_frz (O : List Tm) (R : List PV) : (flat (encTs O) ++ R).map PV.forget2 = flat (encTs O) ++ R.map PV.forget2 ∧ (O.length * 4 ≤ (flat (encTs O)).length + (R.map PV.forget2).length) = True ∧ chunks 4 O.length (flat (encTs O) ++ R.map PV.forget2) = encTs O :=
 ⟨by rw [List.map_append, flatT_forget], eq_true (by have := flatT_len O; omega), flatT_chunks O _⟩
theorem roomOK_T {O X : List Tm} {R : List PV} {cap n : Nat} {id : TypeId} (hn : n = O.length) (hc : n ≤ cap) (hR : R.length = (cap - n) * 4) (hq : R.all PV.quiet = true) (hl : n + X.length ≤ 1000) :
  RoomOK (flat (encTs O) ++ R) n cap (encTs X) ⟨id, 4, 64, true, true, false⟩ := by
 have h1 := flatT_len O
 refine ⟨rfl, by show 0 < 4; decide, by show _ = cap * 4; rw [List.length_append, h1, hR]; omega, by rw [encTs_length]; omega, by show (n + (encTs X).length) * 64 ≤ _; rw [encTs_length]; omega, encTs_ok X, by rw [List.all_append, flatT_quiet, hq]; rfl, flatT_quiet X⟩
def roomT (O : List Tm) (cap : Nat) (R : List PV) : Prop := R.length = (cap - O.length) * 4 ∧ O.length ≤ cap ∧ R.all PV.quiet = true
set_option maxHeartbeats 4000000 in
theorem gather_c (ts : List Tm) (st : Store) (hl : ts.length ≤ 24) (hw : ∀ i, i < ts.length → wK (ts.getD i default).ks ∧ smV (ts.getD i default).v)
  (hwT : ∀ i, i ≤ ts.length → ∀ t ∈ gatT (ts.take i) [], wK t.ks ∧ smV t.v ∧ (digitsOf t.v.m).length ≤ 1000000000000) :
  PCalls Tryz.prog 106 [.sl .no (encTs ts)] st (fun r st' => r = .tup [.sl .no (encPs (gathL (gatT ts []) []).1), .sc (.int .i64 (gathL (gatT ts []) []).2)] ∧ st' = st) := by
 refine pcalls_enter none Tryz.func106 rfl fun E => pwp_of_vc ?_
 simp -dsimp only [go_sem]
 refine pwp_moreL ?_
 refine pwp_claimR 4 0 (by simp) (by rfl) ?_
 simp -dsimp only [go_sem]
 refine pwp_loop_maskP [true, false, false, false, true, true] 1 0
  (fun c s => ∃ (i cap : Nat) (O : List Tm) (R : List PV), c = ts.length - i ∧ i ≤ ts.length ∧ O = gatT (ts.take i) [] ∧ roomT O cap R ∧ s = ⟨[.sl .no (encTs ts), .junk, .junk, .junk, .mr 0 O.length cap, .sc (.int .i64 (i : Nat))] ++ List.replicate 122 .junk, [flat (encTs O) ++ R], [], st⟩) ts.length ?_ ?_
 · simp -dsimp only [go_sem]
   exact ⟨0, 0, [], [], by omega, by omega, by simp [gatT], ⟨rfl, Nat.le_refl _, rfl⟩, rfl⟩
 · rintro c s ⟨i, cap, O, R, rfl, hi, hO, hR, rfl⟩
   have hOl : O.length ≤ i := by
    rw [hO]
    have : ∀ (ts acc : List Tm), (gatT ts acc).length ≤ acc.length + ts.length := by
     intro ts
     induction ts with
     | nil => intro acc; exact Nat.le_refl _
     | cons t r ih =>
      intro acc
      have h1 := ih (insT t acc)
      have h2 := insT_length t acc
      rw [gatT]; simp only [List.length_cons]; omega
    have h3 := this (ts.take i) []
    rw [List.length_take] at h3
    simp at h3; omega
   obtain ⟨hR1, hR2, hR3⟩ := hR
   have hall : (flat (encTs O) ++ R).all PV.quiet = true := by rw [List.all_append, flatT_quiet, hR3]; rfl
   have hlims := quiet_lims (a := 1) (b := 0) hall
   have hfl := flatT_len O
   have hOw : ∀ j, j < O.length → wK (O.getD j default).ks ∧ smV (O.getD j default).v ∧ (digitsOf (O.getD j default).v.m).length ≤ 1000000000000 := fun j hj => by
    rw [show O.getD j default = O[j] by simp [List.getD_eq_getElem?_getD, hj]]
    exact hwT i hi _ (by rw [← hO]; exact List.getElem_mem hj)
   have hnx : i < ts.length → gatT (ts.take (i + 1)) [] = insT (ts.getD i default) O := fun h => by rw [take_snocT ts i h, gatT_snoc, ← hO]
   have hfin : i = ts.length → O = gatT ts [] := fun e => by rw [hO, e, List.take_length]
   refine pwp_seq (pwp_of_vc ?_)
   simp -dsimp only [go_sem]
   refine ck (fun h' => ?_) (fun h' => ?_)
   · have hlt : i < ts.length := by have := of_decide_eq_true h'; omega
     have e1 := encTs_get ts i hlt
     have e3 := succW i (by omega)
     simp -dsimp only [go_sem]
     refine pwp_seq (pwp_block (pwp_seq (pwp_of_vc ?_)))
     simp -dsimp only [go_sem]
     refine pwp_cut_mask [true, false, false, false, true, true, true] 1 0
      (fun s => ∃ k, k ≤ O.length ∧ (∀ q, q < k → ordK (O.getD q default).ks (ts.getD i default).ks > 0) ∧ (k < O.length → ¬ ordK (O.getD k default).ks (ts.getD i default).ks > 0) ∧ s = ⟨[.sl .no (encTs ts), .junk, .junk, .junk, .mr 0 O.length cap, .sc (.int .i64 (i : Nat)), .sc (.int .i64 (k : Nat))] ++ List.replicate 121 .junk, [flat (encTs O) ++ R], [], st⟩) ?_ ?_
     · simp -dsimp only [go_sem]
       refine pwp_loop_mask [true, false, false, false, true, true, true] 1 0
        (fun c s => ∃ j, c = O.length - j ∧ j ≤ O.length ∧ (∀ q, q < j → ordK (O.getD q default).ks (ts.getD i default).ks > 0) ∧ s = ⟨[.sl .no (encTs ts), .junk, .junk, .junk, .mr 0 O.length cap, .sc (.int .i64 (i : Nat)), .sc (.int .i64 (j : Nat))] ++ List.replicate 121 .junk, [flat (encTs O) ++ R], [], st⟩) O.length ?_ ?_
       · simp -dsimp only [go_sem]
         exact ⟨hlims, 0, by omega, by omega, fun q hq => absurd hq (by omega), rfl⟩
       · rintro c s ⟨j, rfl, hj, hq, rfl⟩
         have f3 := succW j (by omega)
         simp -dsimp only [go_sem]
         refine pwp_draw mixed 128 (.step 0 [] (.step 1 [] (.step 2 [] (.step 3 [] (.step 4 [] (.step 5 [] (.step 6 [] (.step 7 [] (.step 8 [] (.step 9 [] (.step 10 [] (.step 11 [] (.step 12 [] (.step 13 [] (.step 14 [] (.step 15 [] (.step 16 [] (.step 17 [] (.done))))))))))))))))))) (by decide +kernel) (by simp) ?_
         simp -dsimp only [go_sem]
         refine gkT (fun h1 => ?_) (fun h1 => ?_)
         · have hlt2 : j < O.length := by have := of_decide_eq_true h1; omega
           have e2 := flatT_at O R j 3 hlt2 (by omega)
           simp -dsimp only [go_sem, h1, e1, e2]
           refine ⟨⟨by omega, hlt2⟩, by omega, ⟨by omega, by omega⟩, ?_⟩
           refine (refOrder_c (O.getD j default).ks (ts.getD i default).ks _ (hOw j hlt2).1 (hw i hlt).1).mono ?_
           rintro r st ⟨rfl, rfl⟩
           simp -dsimp only [go_sem, h1]
           refine ck (fun h2 => ?_) (fun h2 => ?_)
           · simp -dsimp only [go_sem, f3]
             exact ⟨hlims, O.length - (j + 1), by omega, j + 1, rfl, by omega, fun q hq' => by
              by_cases e : q = j
              · rw [e]; exact of_decide_eq_true h2
              · exact hq q (by omega), rfl⟩
           · simp -dsimp only [go_sem]
             exact ⟨hlims, j, by omega, hq, fun _ => of_decide_eq_false h2, rfl⟩
         · have hge : j = O.length := by have := of_decide_eq_false h1; omega
           subst hge
           simp -dsimp only [go_sem, h1]
           exact ⟨hlims, O.length, by omega, hq, fun h => absurd h (Nat.lt_irrefl _), rfl⟩
     · rintro s ⟨k, hk, hq, hnq, rfl⟩
       refine pwp_cut_mask [true, false, false, false, true, true, true] 1 0
        (fun s => insT (ts.getD i default) O = O.take k ++ ts.getD i default :: O.drop k ∧ s = ⟨[.sl .no (encTs ts), .junk, .junk, .junk, .mr 0 O.length cap, .sc (.int .i64 (i : Nat)), .sc (.int .i64 (k : Nat))] ++ List.replicate 121 .junk, [flat (encTs O) ++ R], [], st⟩) ?_ ?_
       rotate_left
       · rintro s ⟨hs, rfl⟩
         clear hq hnq
         obtain ⟨f1, f2, f3⟩ := flatT_frz O R
         refine pwp_freezeN 0 4 (by simp only [freezeOK_mk]; exact quiet_fz hall) ?_
         generalize R.map PV.forget2 = R' at f1 f2 f3
         simp -dsimp only [go_sem, f1, f2, f3]
         refine pwp_seq (pwp_of_vc ?_)
         simp -dsimp only [go_sem]
         refine pwp_claimR 7 0 (by simp) (by rfl) ?_
         simp -dsimp only [go_sem]
         refine pwp_seq ?_
         refine pwp_room [false, false, false, false, true, false] ?_
         have hA : (O.take k).length = k := by rw [List.length_take]; omega
         have hB : (O.drop k).length = O.length - k := List.length_drop
         simp -dsimp only [go_sem]
         have hOO : O.take O.length = O := List.take_length
         generalize O.take k = A at *
         generalize hBe : O.drop k = B at *
         refine ⟨⟨⟨by omega, by omega⟩, by omega⟩, roomOK_T (O := []) rfl (by omega) rfl rfl (by omega), ?_⟩
         intro c1 R1 g1 g2 g3
         have t1 := flatT_take A R1 A.length rfl
         refine pwp_seq ?_
         refine pwp_room [false, false, false, false, false, false, true, false] ?_
         have hone : [PV.agg [.sc (.bool (ts.getD i default).v.neg), .sl .no (encD (digitsOf (ts.getD i default).v.m)), .sc (.int .i64 (ts.getD i default).v.e), .sl .no (encZ (ts.getD i default).ks)]] = encTs [ts.getD i default] := rfl
         simp -dsimp only [go_sem, e1, hone, t1, flatT_room]
         refine ⟨⟨by omega, by omega⟩, roomOK_T rfl g1 g2 g3 (by show A.length + 1 ≤ 1000; omega), ?_⟩
         intro c2 R2 k1 k2 k3
         have hA2 : (A ++ [ts.getD i default]).length = A.length + 1 := by simp
         generalize hA3 : A ++ [ts.getD i default] = A2 at *
         have t2 := flatT_take A2 R2 (A.length + 1) hA2.symm
         refine pwp_room [false, false, false, false, true, false] ?_
         simp -dsimp only [go_sem, hOO, hBe, t2, flatT_room]
         refine ⟨⟨⟨by omega, by omega⟩, by omega⟩, roomOK_T hA2.symm k1 k2 k3 (by omega), ?_⟩
         intro c3 R3 l1 l2 l3
         have hall2 : (flat (encTs (A2 ++ B)) ++ R3).all PV.quiet = true := by rw [List.all_append, flatT_quiet, l3]; rfl
         have hl2 : (A2 ++ B).length = A.length + 1 + B.length := by rw [List.length_append, hA2]
         refine pwp_of_vc ?_
         simp -dsimp only [go_sem, e3]
         exact ⟨quiet_lims hall2, ts.length - (i + 1), by omega, i + 1, c3, A2 ++ B, R3, rfl, by omega, by rw [hnx hlt, hs, ← hA3]; simp, ⟨by rw [hl2]; exact l2, by rw [hl2]; exact l1, l3⟩, by rw [hl2]⟩
       simp -dsimp only [go_sem]
       refine pwp_draw mixed 128 (.step 0 [] (.step 1 [] (.step 2 [] (.step 3 [] (.step 4 [] (.step 5 [] (.step 6 [] (.step 7 [] (.step 8 [] (.step 9 [] (.step 10 [] (.step 11 [] (.step 12 [] (.step 13 [] (.step 14 [] (.step 15 [] (.step 16 [] (.step 17 [] (.done))))))))))))))))))) (by decide +kernel) (by simp) ?_
       simp -dsimp only [go_sem]
       refine gkT (fun h1 => ?_) (fun h1 => ?_)
       · have hlt2 : k < O.length := by have := of_decide_eq_true h1; omega
         have e2 := flatT_at O R k 3 hlt2 (by omega)
         simp -dsimp only [go_sem, h1, e1, e2]
         refine ⟨⟨by omega, hlt2⟩, by omega, ⟨by omega, by omega⟩, ?_⟩
         refine (refOrder_c (O.getD k default).ks (ts.getD i default).ks _ (hOw k hlt2).1 (hw i hlt).1).mono ?_
         rintro r st ⟨rfl, rfl⟩
         simp -dsimp only [go_sem, h1]
         refine ck (fun h2 => ?_) (fun h2 => ?_)
         · have hz : ordK (O.getD k default).ks (ts.getD i default).ks = 0 := zbeq_t h2
           have e4 := flatT_v O R k hlt2
           simp -dsimp only [go_sem]
           refine pwp_draw mixed 128 (.step 0 [] (.step 1 [] (.step 2 [] (.step 3 [] (.step 4 [] (.step 5 [] (.step 6 [] (.step 7 [] (.step 8 [] (.step 9 [] (.step 10 [] (.step 11 [] (.step 12 [] (.step 13 [] (.step 14 [] (.step 15 [] (.done))))))))))))))))) (by decide +kernel) (by simp) ?_
           simp -dsimp only [go_sem, e1, e4]
           refine ⟨⟨by omega, hlt2⟩, by omega, ⟨by omega, by omega⟩, ?_⟩
           refine (plus_c (O.getD k default).v (ts.getD i default).v _ (hOw k hlt2).2.1 (hw i hlt).2).mono ?_
           rintro r st ⟨rfl, rfl⟩
           have e5 := flatT_set O R k (plusV (O.getD k default).v (ts.getD i default).v) hlt2
           unfold encV at e5
           simp -dsimp only [go_sem, e5]
           have hs : insT (ts.getD i default) O = O.set k ⟨plusV (O.getD k default).v (ts.getD i default).v, (O.getD k default).ks⟩ := insT_same hlt2 hq hz
           have hall2 : (flat (encTs (O.set k ⟨plusV (O.getD k default).v (ts.getD i default).v, (O.getD k default).ks⟩)) ++ R).all PV.quiet = true := by rw [List.all_append, flatT_quiet, hR3]; rfl
           refine ⟨⟨by omega, hlt2⟩, ⟨by omega, by omega⟩, pwp_of_vc ?_⟩
           simp -dsimp only [go_sem, e3]
           exact ⟨quiet_lims hall2, ts.length - (i + 1), by omega, i + 1, cap, _, R, rfl, by omega, by rw [hnx hlt, hs], ⟨by rw [List.length_set]; exact hR1, by rw [List.length_set]; exact hR2, hR3⟩, by rw [List.length_set]⟩
         · have hne := zbeq_f h2
           have hs : insT (ts.getD i default) O = O.take k ++ ts.getD i default :: O.drop k := insT_less hlt2 hq (hnq hlt2) hne
           simp -dsimp only [go_sem]
           exact ⟨hlims, hs⟩
       · have hge : k = O.length := by have := of_decide_eq_false h1; omega
         have hs : insT (ts.getD i default) O = O.take k ++ ts.getD i default :: O.drop k := by
          rw [insT_end (by rw [← hge]; exact hq), hge, List.take_length, List.drop_length]
         simp -dsimp only [go_sem, h1]
         exact ⟨hlims, hs⟩
   · have hge : i = ts.length := by have := of_decide_eq_false h'; omega
     have hO2 := hfin hge
     subst hO2
     have hO24 : (gatT ts []).length ≤ 24 := by omega
     clear hlims hnx hfin hge h' hi
     obtain ⟨f1, f2, f3⟩ := flatT_frz (gatT ts []) R
     generalize gatT ts [] = O at *
     simp -dsimp only [go_sem]
     refine pwp_freezeN 0 4 (by simp only [freezeOK_mk]; exact quiet_fz hall) ?_
     generalize R.map PV.forget2 = R' at f1 f2 f3
     simp -dsimp only [go_sem, f1, f2, f3]
     refine pwp_of_vc ?_
     simp -dsimp only [go_sem]
     refine pwp_claim 8 4 ?_
     simp -dsimp only [go_sem]
     refine pwp_loop_mask [false, false, false, false, true, false, false, false, true, true] 0 1
      (fun c s => ∃ (j : Nat) (o : List Mn), c = O.length - j ∧ j ≤ O.length ∧ o.length ≤ j ∧ gathL O [] = gathL (O.drop j) o ∧
       s = ⟨[.junk, .junk, .junk, .junk, .sl .no (encTs O), .junk, .junk, .junk, .sl (.own 0) (encPs o), .sc (.int .i64 (j : Nat))] ++ List.replicate 118 .junk, [], [(o.length, 4)], st⟩) O.length ?_ ?_
     · simp -dsimp only [go_sem]
       exact ⟨0, [], by omega, by omega, by simp, rfl, rfl⟩
     · rintro c s ⟨j, o, rfl, hj, ho, hr, rfl⟩
       simp -dsimp only [go_sem]
       refine ck (fun h1 => ?_) (fun h1 => ?_)
       · have hlt : j < O.length := by have := of_decide_eq_true h1; omega
         have e1 := encTs_get O j hlt
         have e3 := succW j (by omega)
         obtain ⟨w1, _, w2⟩ := hOw j hlt
         have w3 := w1.1
         rw [drop_consT O j hlt, gathL] at hr
         simp -dsimp only [go_sem, e1]
         refine ⟨by omega, ?_⟩
         refine (signV_c (O.getD j default).v _).mono ?_
         rintro r st ⟨rfl, rfl⟩
         simp -dsimp only [go_sem]
         refine ck (fun h2 => ?_) (fun h2 => ?_)
         · rw [if_pos (zbeq_t h2)] at hr
           simp -dsimp only [go_sem, e3]
           exact ⟨O.length - (j + 1), by omega, j + 1, o, rfl, by omega, by omega, hr, rfl⟩
         · rw [if_neg (zbeq_f h2)] at hr
           simp -dsimp only [go_sem, e1]
           refine ⟨by omega, ?_⟩
           refine (vnum_c (O.getD j default).v _ w2).mono ?_
           rintro r st ⟨rfl, rfl⟩
           simp -dsimp only [go_sem]
           refine ck (fun h3 => ?_) (fun h3 => ?_)
           · rw [if_pos (zbne_t h3)] at hr
             simp -dsimp only [go_sem]
             rw [hr]; rfl
           · rw [if_neg (by rw [zbne_f h3]; decide)] at hr
             simp -dsimp only [go_sem]
             refine pwp_draw mixed 128 (.step 0 [] (.step 1 [] (.step 2 [] (.step 3 [] (.step 4 [] (.step 5 [] (.step 6 [] (.step 7 [] (.step 8 [1] (.step 9 [] (.step 10 [] (.step 11 [] (.step 12 [] (.done)))))))))))))) (by decide +kernel) (by simp) ?_
             simp -dsimp only [go_sem, e1, e3]
             refine ⟨by omega, ⟨by omega, by omega⟩, ⟨by omega, by omega⟩, O.length - (j + 1), by omega, j + 1, o ++ [⟨(numV (O.getD j default).v).1, (O.getD j default).ks⟩], rfl, by omega, by simp; omega, hr, ?_⟩
             simp [encPs, encMn]
       · have hge : j = O.length := by have := of_decide_eq_false h1; omega
         subst hge
         rw [List.drop_length, gathL] at hr
         have z1 : decide ((o.length : Int) > 24) = false := decide_eq_false (by omega)
         simp -dsimp only [go_sem]
         refine pwp_plain [false, false, false, false, false, false, false, false, true] (pwp_of_vc ?_)
         simp -dsimp only [go_sem, z1]
         rw [hr]
end Go.Pv
end

section
/- The document's Make; the deck's powers, monomials, polynomials, fields. -/
set_option maxRecDepth 100000
namespace Go.Pv
open Go.Proofs
theorem sum_set (ks : List Int) (j : Nat) (x : Int) (hj : j < ks.length) : (ks.set j x).sum = ks.sum - ks.getD j 0 + x := by
 induction ks generalizing j with
 | nil => simp at hj
 | cons k r ih =>
  cases j with
  | zero => simp; omega
  | succ j =>
   have := ih j (by simpa using hj)
   simp only [List.set_cons_succ, List.sum_cons, List.getD_cons_succ, this]; omega
def okKs (n : Nat) (D : Int) (ks : List Int) : Prop := ks.length = n ∧ (∀ j, j < n → 0 ≤ ks.getD j 0) ∧ ks.sum ≤ D
theorem okKs.right {n : Nat} {D : Int} {ks : List Int} (h : okKs n D ks) (hD : D ≤ 8) : rightK ks = true := (rightK_iff ks).2 ⟨fun j hj => h.2.1 j (by rw [← h.1]; exact hj), by have := h.2.2; omega⟩
theorem okKs.wK {n : Nat} {D : Int} {ks : List Int} (h : okKs n D ks) (hD : D ≤ 8) (hn : n ≤ 1000) : wK ks := ⟨by rw [h.1]; omega, fun i hi => by
 have := rightK_at (h.right hD) i hi
 omega⟩
theorem repZ (n : Nat) : List.replicate n (PV.sc (.int .i64 0)) = encZ (List.replicate n 0) := by simp [encZ]
theorem encZ_set (T : List Int) (q : Nat) (c : Int) (h : q < T.length) : over (encZ T) q [.sc (.int .i64 c)] = encZ (T.set q c) := by
 have := obZ_set 0 T q c h
 simpa using this
theorem sum_rep (n : Nat) : (List.replicate n (0 : Int)).sum = 0 := by
 induction n with
 | zero => rfl
 | succ n ih => rw [List.replicate_succ, List.sum_cons, ih]; rfl
theorem powers_c (l : List UInt64) (i k n D : Nat) (st : Store) (h : atD st k l i) (hi : i ≤ 900000000000) (hn : 1 ≤ n) (hn2 : n ≤ 1000) (hD : D ≤ 8) : PCalls Tryz.prog 104 [.gp k 0, .sc (.int .i64 n), .sc (.int .i64 D)] st
  (fun r st' => ∃ ks j, okKs n D ks ∧ i ≤ j ∧ j ≤ i + 1 + D ∧ r = .sl .no (encZ ks) ∧ st' = st.set k (dk l j)) := by
 refine pcalls_enter none Tryz.func104 rfl fun E => pwp_of_vc ?_
 have x1 : IntKind.i64.wrap ((D : Int) + 1) = ((D + 1 : Nat) : Int) := by
  rw [show ((D : Int) + 1) = ((D + 1 : Nat) : Int) from rfl, wrapn_i64 _ (by omega)]
 simp -dsimp only [go_sem, x1]
 refine ⟨⟨by omega, by omega, by omega⟩, ?_⟩
 refine (deckN_c l i k (D + 1) st h (by omega) (by omega) (by omega)).mono ?_
 rintro r st' ⟨rfl, rfl⟩
 have hnx := nx_lt l i (n := D + 1) (by omega)
 simp -dsimp only [go_sem]
 refine pwp_loop_mask [true, true, false, false, false, false, false, true, true] 1 0 (fun m s => ∃ (ks : List Int) (c j : Nat), m = c ∧ c ≤ D ∧ okKs n (D - c) ks ∧ i ≤ j ∧ j + c ≤ i + 1 + D ∧
  s = ⟨[.gp k 0, .sc (.int .i64 n), .junk, .junk, .junk, .junk, .junk, .ms false 0 0 n, .sc (.int .i64 (c : Nat))] ++ List.replicate 19 .junk, [encZ ks], [], st.set k (dk l j)⟩) (nx l i (D + 1)) ?_ ?_
 · simp -dsimp only [go_sem]
   refine ⟨(by rw [repZ]; exact encZ_lim _ _ _), List.replicate n 0, nx l i (D + 1), i + 1, rfl, by omega, ⟨by simp, fun j hj => by simp [List.getD_eq_getElem?_getD, hj], by rw [sum_rep]; omega⟩, by omega, by omega, ?_⟩
   rw [repZ]
 · rintro m s ⟨ks, c, j, hm, hc, hks, hj1, hj2, rfl⟩
   subst hm
   obtain ⟨k1, k2, k3⟩ := hks
   simp -dsimp only [go_sem]
   refine ck (fun h1 => ?_) (fun h1 => ?_)
   · have hpos : 0 < m := by have := of_decide_eq_true h1; omega
     have x2 : IntKind.i64.wrap ((m : Int) - 1) = ((m - 1 : Nat) : Int) := by rw [wrap_i64 _ (by omega) (by omega)]; omega
     simp -dsimp only [go_sem]
     refine (deckN_c l j k n _ (h.set j) (by omega) (by omega) (by omega)).mono ?_
     rintro r st' ⟨rfl, rfl⟩
     have hq := nx_lt l j (n := n) (by omega)
     generalize nx l j n = q at hq ⊢
     have hg := encZ_get ks q (by omega)
     have hv := k2 q hq
     have hup : ks.getD q 0 ≤ 8 := by
      have := rightK_at ((rightK_iff ks).2 ⟨fun j hj => k2 j (by omega), by omega⟩) q (by omega)
      exact this.2
     have x3 : IntKind.i64.wrap (ks.getD q 0 + 1) = ks.getD q 0 + 1 := wrap_i64 _ (by omega) (by omega)
     have hs := encZ_set ks q (ks.getD q 0 + 1) (by omega)
     simp -dsimp only [go_sem, hg, x3, hs, x2, set_dk]
     refine ⟨⟨by omega, hq⟩, by omega, ⟨by omega, hq⟩, ⟨by omega, by omega⟩, m - 1, by omega, ks.set q (ks.getD q 0 + 1), m - 1, j + 1, rfl, by omega, ⟨by rw [List.length_set, k1], fun a ha => ?_, ?_⟩, by omega, by omega, rfl⟩
     · by_cases e : q = a
       · subst e; rw [getD_set_self _ _ _ _ (by omega)]; omega
       · rw [getD_set_other _ _ _ _ _ e]; exact k2 a ha
     · rw [sum_set _ _ _ (by omega)]; omega
   · have hz : m = 0 := by have := of_decide_eq_false h1; omega
     subst hz
     have ht : ks.take n = ks := List.take_of_length_le (by omega)
     have hle : (n ≤ ks.length) = True := eq_true (by omega)
     simp -dsimp only [go_sem]
     refine pwp_freeze 0 (by simp only [freezeOK_mk]; exact encZ_fz _) (pwp_of_vc ?_)
     simp -dsimp only [go_sem, ht, hle]
     exact ⟨ks, j, ⟨k1, k2, by omega⟩, by omega, by omega, rfl, rfl⟩
def okRaw (n : Nat) (D : Int) (m : Mn) : Prop := okKs n D m.ks ∧ smN m.c
theorem monos_c (l : List UInt64) (i k n M D : Nat) (st : Store) (h : atD st k l i) (hi : i ≤ 800000000000) (hn : 1 ≤ n) (hn2 : n ≤ 1000) (hM : M ≤ 20) (hD : D ≤ 8) : PCalls Tryz.prog 58 [.gp k 0, .sc (.int .i64 n), .sc (.int .i64 M), .sc (.int .i64 D)] st
  (fun r st' => ∃ p j, p.length ≤ M ∧ (∀ m ∈ p, okRaw n D m) ∧ i ≤ j ∧ j ≤ i + 1 + 10 * M ∧ r = .sl .no (encPs p) ∧ st' = st.set k (dk l j)) := by
 refine pcalls_enter none Tryz.func58 rfl fun E => pwp_of_vc ?_
 have x1 : IntKind.i64.wrap ((M : Int) + 1) = ((M + 1 : Nat) : Int) := by
  rw [show ((M : Int) + 1) = ((M + 1 : Nat) : Int) from rfl, wrapn_i64 _ (by omega)]
 simp -dsimp only [go_sem, x1]
 refine (deckN_c l i k (M + 1) st h (by omega) (by omega) (by omega)).mono ?_
 rintro r st' ⟨rfl, rfl⟩
 have hnx := nx_lt l i (n := M + 1) (by omega)
 simp -dsimp only [go_sem]
 refine pwp_claim 9 4 ?_
 simp -dsimp only [go_sem]
 refine pwp_loop_mask [true, true, false, true, false, false, false, false, false, true, true] 0 1 (fun m s => ∃ (p : List Mn) (c j : Nat), m = c ∧ p.length + c ≤ M ∧ (∀ m ∈ p, okRaw n D m) ∧ i ≤ j ∧ j + 10 * c ≤ i + 1 + 10 * M ∧
  s = ⟨[.gp k 0, .sc (.int .i64 n), .junk, .sc (.int .i64 D), .junk, .junk, .junk, .junk, .junk, .sl (.own 0) (encPs p), .sc (.int .i64 (c : Nat))] ++ List.replicate 19 .junk, [], [(p.length, 4)], st.set k (dk l j)⟩) (nx l i (M + 1)) ?_ ?_
 · simp -dsimp only [go_sem]
   exact ⟨[], nx l i (M + 1), i + 1, rfl, by simp; omega, (fun m hm => by cases hm), by omega, by omega, rfl⟩
 · rintro m s ⟨p, c, j, hm, hc, hp, hj1, hj2, rfl⟩
   subst hm
   simp -dsimp only [go_sem]
   refine ck (fun h1 => ?_) (fun h1 => ?_)
   · have hpos : 0 < m := by have := of_decide_eq_true h1; omega
     have x2 : IntKind.i64.wrap ((m : Int) - 1) = ((m - 1 : Nat) : Int) := by rw [wrap_i64 _ (by omega) (by omega)]; omega
     simp -dsimp only [go_sem]
     refine (smallS_c l j k _ (h.set j) (by omega)).mono ?_
     rintro r st' ⟨x, hx, rfl, rfl⟩
     simp -dsimp only [go_sem, set_dk]
     refine (powers_c l (j + 1) k n D _ (h.set (j + 1)) (by omega) hn hn2 hD).mono ?_
     rintro r st' ⟨ks, j', hks, hj3, hj4, rfl, rfl⟩
     have hsn : encPs p ++ [PV.agg [.sc (.bool x.neg), .sc (.int .i64 x.exp), .sl .no (encW x.w), .sl .no (encZ ks)]] = encPs (p ++ [⟨x, ks⟩]) := encPs_snoc p ⟨x, ks⟩
     simp -dsimp only [go_sem, set_dk, x2, hsn]
     refine ⟨⟨by omega, by omega⟩, m - 1, by omega, p ++ [⟨x, ks⟩], m - 1, j', rfl, by simp; omega, fun y hy => ?_, by omega, by omega, by simp⟩
     rcases List.mem_append.1 hy with hy | hy
     · exact hp y hy
     · rw [List.mem_singleton.1 hy]; exact ⟨hks, hx⟩
   · have hz : m = 0 := by have := of_decide_eq_false h1; omega
     subst hz
     simp -dsimp only [go_sem]
     refine pwp_plain [false, false, false, false, false, false, false, false, false, true] (pwp_of_vc ?_)
     simp -dsimp only [go_sem]
     exact ⟨p, j, by omega, hp, by omega, by omega, rfl, rfl⟩
def tmOf (m : Mn) : Tm := ⟨ofN m.c, m.ks⟩
theorem okRaw_tm {n : Nat} {D : Int} {m : Mn} (h : okRaw n D m) (hD : D ≤ 8) : okT n 12 18 D (tmOf m) :=
 ⟨h.1.1, h.1.right hD, h.1.2.2, canV_ofN h.2.1, luQ_bd h.2.2⟩
theorem okRaw_mono {n : Nat} {D : Int} {m : Mn} (h : okRaw n D m) (hD : D ≤ 8) : monoB m n = true := (monoB_iff _ _).2 ⟨by have := h.1.1; omega, h.1.right hD, h.2.1⟩
theorem okT_wK {n L U : Nat} {D : Int} {t : Tm} (h : okT n L U D t) (hn : n ≤ 4) : wK t.ks := ⟨by rw [h.1]; omega, fun i hi => by
 have := rightK_at h.2.1 i hi
 omega⟩
theorem okT_smV {n L U : Nat} {D : Int} {t : Tm} (h : okT n L U D t) (hb : L + U ≤ 4000) : smV t.v ∧ (digitsOf t.v.m).length ≤ 1000000000000 := by
 have := luV_bd h.2.2.2.1 h.2.2.2.2
 refine ⟨⟨by have := this.1; omega, by have := this.2.1; omega, by have := this.2.2; omega⟩, bdV_digits this (by omega)⟩
theorem getD_mem' {α : Type} [Inhabited α] {l : List α} {P : α → Prop} (h : ∀ x ∈ l, P x) {i : Nat} (hi : i < l.length) : P (l.getD i default) := by
 rw [show l.getD i default = l[i] by simp [List.getD_eq_getElem?_getD, hi]]
 exact h _ (List.getElem_mem hi)
set_option maxHeartbeats 4000000 in
theorem refMake_c (p : List Mn) (n : Nat) (D : Int) (st : Store) (hn : 1 ≤ n) (hn4 : n ≤ 4) (hl : p.length ≤ 24) (hD : D ≤ 8) (hp : ∀ m ∈ p, okRaw n D m) : PCalls Tryz.prog 59 [.sl .no (encPs p), .sc (.int .i64 n)] st
  (fun r st' => r = .tup [.sl .no (encPs (gathL (gatT (p.map tmOf) []) []).1), .sc (.int .i64 (gathL (gatT (p.map tmOf) []) []).2)] ∧ st' = st) := by
 have hok : ∀ t ∈ p.map tmOf, okT n 12 18 D t := fun t ht => by
  obtain ⟨m, hm, rfl⟩ := List.mem_map.1 ht
  exact okRaw_tm (hp m hm) hD
 refine pcalls_enter none Tryz.func59 rfl fun E => pwp_of_vc ?_
 simp -dsimp only [go_sem]
 have d1 : decide ((n : Int) < 1) = false := decide_eq_false (by omega)
 have d2 : decide ((n : Int) > 4) = false := decide_eq_false (by omega)
 simp -dsimp only [go_sem, d1, d2]
 refine pwp_claim 6 4 ?_
 simp -dsimp only [go_sem]
 refine pwp_loop_mask [true, true, false, false, false, false, true, true] 0 1 (fun c s => ∃ i, c = p.length - i ∧ i ≤ p.length ∧
  s = ⟨[.sl .no (encPs p), .sc (.int .i64 n), .junk, .junk, .junk, .junk, .sl (.own 0) (encTs ((p.take i).map tmOf)), .sc (.int .i64 (i : Nat))] ++ List.replicate 38 .junk, [], [(i, 4)], st⟩) p.length ?_ ?_
 · simp -dsimp only [go_sem]
   exact ⟨0, by omega, by omega, rfl⟩
 · rintro c s ⟨i, rfl, hi, rfl⟩
   have htl : ((p.take i).map tmOf).length = i := by rw [List.length_map, List.length_take]; omega
   simp -dsimp only [go_sem]
   refine ck (fun h1 => ?_) (fun h1 => ?_)
   · have hlt : i < p.length := by have := of_decide_eq_true h1; omega
     have e1 := encPs_get p i hlt
     have e3 := succW i (by omega)
     have hm := getD_mem' hp hlt
     have hsn2 : (p.take (i + 1)).map tmOf = (p.take i).map tmOf ++ [tmOf (p.getD i default)] := by
      rw [List.take_add_one, List.map_append, List.getElem?_eq_getElem hlt]
      simp [List.getD_eq_getElem?_getD, hlt]
     have hwm : wMn (p.getD i default) := ⟨rightN_wN hm.2.1, hm.1.wK hD (by omega)⟩
     simp -dsimp only [go_sem, e1]
     refine ⟨by omega, ?_⟩
     refine (refMono_c (p.getD i default) n _ hwm (by omega)).mono ?_
     rintro r st ⟨rfl, rfl⟩
     rw [okRaw_mono hm hD]
     simp -dsimp only [go_sem, Bool.not_true]
     refine pwp_draw mixed 46 (.step 0 [] (.step 1 [] (.step 2 [] (.step 3 [] (.step 4 [] (.step 5 [] (.step 7 [] (.step 8 [] (.step 9 [] (.step 10 [] (.step 11 [] (.step 6 [11] (.step 12 [] (.step 13 [] (.step 14 [] (.step 15 [] (.done))))))))))))))))) (by decide +kernel) (by simp) ?_
     generalize hT : (p.take i).map tmOf = T at *
     simp -dsimp only [go_sem, e1]
     refine ⟨⟨by omega, by omega⟩, ⟨by omega, by omega⟩, ?_⟩
     refine (of_c (p.getD i default).c _ (by have := rightN_wN hm.2.1; unfold wN at this; omega)).mono ?_
     rintro r st ⟨rfl, rfl⟩
     have hsn : encTs T ++ [PV.agg [.sc (.bool (ofN (p.getD i default).c).neg), .sl .no (encD (digitsOf (ofN (p.getD i default).c).m)), .sc (.int .i64 (ofN (p.getD i default).c).e), .sl .no (encZ (p.getD i default).ks)]] = encTs (T ++ [tmOf (p.getD i default)]) := encTs_snoc T (tmOf (p.getD i default))
     simp -dsimp only [go_sem, e1, e3, hsn, htl]
     exact ⟨⟨by omega, by omega⟩, p.length - (i + 1), by omega, i + 1, rfl, by omega, by rw [hsn2]⟩
   · have hge : i = p.length := by have := of_decide_eq_false h1; omega
     subst hge
     have hfull : p.take p.length = p := List.take_length
     rw [hfull] at htl
     simp -dsimp only [go_sem, hfull]
     refine pwp_plain [false, false, false, false, false, false, true] (pwp_of_vc ?_)
     simp -dsimp only [go_sem]
     have hw : ∀ (T : List Tm) (i : Nat), (∀ t ∈ T, okT n 12 (18 + i) D t) → i ≤ 100 → ∀ t ∈ T, wK t.ks ∧ smV t.v ∧ (digitsOf t.v.m).length ≤ 1000000000000 := fun T i hT hi t ht => by
      have := okT_smV (hT t ht) (by omega)
      exact ⟨okT_wK (hT t ht) hn4, this.1, this.2⟩
     refine (gather_c (p.map tmOf) _ (by rw [htl]; exact hl) (fun i hi => ?_) (fun i hi t ht => ?_)).mono ?_
     · have := hw (p.map tmOf) 0 hok (by omega)
       exact ⟨(getD_mem' (P := fun t => wK t.ks) (fun t ht => (this t ht).1) hi), (getD_mem' (P := fun t => smV t.v) (fun t ht => (this t ht).2.1) hi)⟩
     · have := (gatT_ok (n := n) (L := 12) (D := D) ((p.map tmOf).take i) [] 18 (fun t ht => hok t (List.mem_of_mem_take ht)) (fun t ht => by cases ht) List.Pairwise.nil).1
       exact hw _ ((p.map tmOf).take i).length this (by rw [List.length_take, htl]; omega) t ht
     · rintro r st ⟨rfl, rfl⟩
       simp -dsimp only [go_sem]
def okPoly (n M : Nat) (D : Int) (p : List Mn) : Prop := rightP p n = true ∧ p.length ≤ M ∧ ∀ m ∈ p, okMn n 12 (18 + M) D m
theorem poly_c (l : List UInt64) (i k n M D : Nat) (st : Store) (h : atD st k l i) (hi : i ≤ 800000000000) (hn : 1 ≤ n) (hn4 : n ≤ 4) (hM : M ≤ 20) (hD : D ≤ 8) : PCalls Tryz.prog 48 [.gp k 0, .sc (.int .i64 n), .sc (.int .i64 M), .sc (.int .i64 D)] st
  (fun r st' => ∃ p j, okPoly n M D p ∧ i ≤ j ∧ j ≤ i + 1 + 10 * M ∧ r = .sl .no (encPs p) ∧ st' = st.set k (dk l j)) := by
 refine pcalls_enter none Tryz.func48 rfl fun E => pwp_of_vc ?_
 simp -dsimp only [go_sem]
 refine (monos_c l i k n M D st h hi hn (by omega) hM hD).mono ?_
 rintro r st' ⟨p, j, hpl, hp, hj1, hj2, rfl, rfl⟩
 simp -dsimp only [go_sem]
 refine (refMake_c p n D _ hn hn4 (by omega) (by omega) hp).mono ?_
 rintro r st' ⟨rfl, rfl⟩
 have hok : ∀ t ∈ p.map tmOf, okT n 12 18 D t := fun t ht => by
  obtain ⟨m, hm, rfl⟩ := List.mem_map.1 ht
  exact okRaw_tm (hp m hm) (by omega)
 obtain ⟨g1, g2, g3, g4⟩ := gath_right (n := n) (L := 12) (U := 18) (D := D) (ts := p.map tmOf) (by rw [List.length_map]; omega) hn hn4 (by rw [List.length_map]; omega) hok
 rw [List.length_map] at g3 g4
 generalize (gathL (gatT (p.map tmOf) []) []).1 = P at *
 generalize (gathL (gatT (p.map tmOf) []) []).2 = e at *
 simp -dsimp only [go_sem]
 exact ⟨P, j, ⟨g2, by omega, fun m hm => by
  obtain ⟨a1, a2, a3, a4, a5, a6⟩ := g3 m hm
  exact ⟨a1, a2, a3, a4, a5, a6.up (by omega)⟩⟩, hj1, hj2, rfl, rfl⟩
def okField (n M : Nat) (D : Int) (f : List (List Mn)) : Prop := f.length = n ∧ ∀ p ∈ f, okPoly n M D p
theorem okField.right {n M : Nat} {D : Int} {f : List (List Mn)} (h : okField n M D f) (hn : 1 ≤ n) (hn4 : n ≤ 4) : rightF f = true := (rightF_iff f).2 ⟨by rw [h.1]; exact ⟨hn, hn4⟩, fun i hi => by
 rw [show f.getD i [] = f[i] by simp [List.getD_eq_getElem?_getD, hi], h.1]
 exact (h.2 _ (List.getElem_mem hi)).1⟩
theorem deckField_c (l : List UInt64) (i k n M D : Nat) (st : Store) (h : atD st k l i) (hi : i ≤ 700000000000) (hn : 1 ≤ n) (hn4 : n ≤ 4) (hM : M ≤ 20) (hD : D ≤ 8) : PCalls Tryz.prog 14 [.gp k 0, .sc (.int .i64 n), .sc (.int .i64 M), .sc (.int .i64 D)] st
  (fun r st' => ∃ f j, okField n M D f ∧ i ≤ j ∧ j ≤ i + 1000 ∧ r = .sl .no (encFs f) ∧ st' = st.set k (dk l j)) := by
 refine pcalls_enter none Tryz.func14 rfl fun E => pwp_of_vc ?_
 simp -dsimp only [go_sem]
 refine pwp_claim 9 1 ?_
 simp -dsimp only [go_sem]
 refine pwp_loop_mask [true, true, true, true, false, false, false, false, false, true, true] 0 1 (fun m s => ∃ (f : List (List Mn)) (j : Nat), m = n - f.length ∧ f.length ≤ n ∧ (∀ p ∈ f, okPoly n M D p) ∧ i ≤ j ∧ j ≤ i + 250 * f.length ∧
  s = ⟨[.gp k 0, .sc (.int .i64 n), .sc (.int .i64 M), .sc (.int .i64 D), .junk, .junk, .junk, .junk, .junk, .sl (.own 0) (encFs f), .sc (.int .i64 (f.length : Nat))] ++ List.replicate 14 .junk, [], [(f.length, 1)], st.set k (dk l j)⟩) n ?_ ?_
 · simp -dsimp only [go_sem]
   refine ⟨[], i, by simp, by simp, (fun m hm => by cases hm), by omega, by omega, ?_⟩
   rw [h.same]; rfl
 · rintro m s ⟨f, j, rfl, hf, hp, hj1, hj2, rfl⟩
   simp -dsimp only [go_sem]
   refine ck (fun h1 => ?_) (fun h1 => ?_)
   · have hlt : f.length < n := by have := of_decide_eq_true h1; omega
     have x2 := succW f.length (by omega)
     simp -dsimp only [go_sem]
     refine (poly_c l j k n M D _ (h.set j) (by omega) hn hn4 hM hD).mono ?_
     rintro r st' ⟨p, j', hpo, hj3, hj4, rfl, rfl⟩
     simp -dsimp only [go_sem, set_dk, x2]
     refine ⟨⟨by omega, by omega⟩, n - (f.length + 1), by omega, f ++ [p], j', by simp, by simp; omega, fun y hy => ?_, by omega, by simp; omega, by simp⟩
     rcases List.mem_append.1 hy with hy | hy
     · exact hp y hy
     · rw [List.mem_singleton.1 hy]; exact hpo
   · have hge : f.length = n := by have := of_decide_eq_false h1; omega
     simp -dsimp only [go_sem]
     refine pwp_plain [false, false, false, false, false, false, false, false, false, true] (pwp_of_vc ?_)
     simp -dsimp only [go_sem]
     exact ⟨f, j, ⟨hge, hp⟩, by omega, by omega, rfl, rfl⟩
end Go.Pv
end

section
/- Layer 11: FieldDrawn, FieldHolds. -/
set_option maxRecDepth 100000
namespace Go.Pv
open Go.Proofs
theorem betw_lu {x y : Nm} {L U : Nat} (h : rightI (betw x y) = true) (hx : luQ L U (qN x)) (hy : luQ L U (qN y)) : luI L U (betw x y) := by
 refine ⟨h, ?_⟩
 unfold betw
 split
 · exact ⟨hy, hx⟩
 · exact ⟨hx, hy⟩
theorem deckPartS_c (l : List UInt64) (i k : Nat) (a : Ivl) (st : Store) (h : atD st k l i) (hi : i ≤ 100000000) (hs : smI a) : PCalls Tryz.prog 57 [.gp k 0, .agg (encI a)] st
  (fun r st' => ∃ x, luI 62 105 x ∧ inI x a = true ∧ r = .agg (encI x) ∧ st' = st.set k (dk l (i + 2))) := by
 have ha := hs.1
 have n1 := nx_lt l i (n := 9) (by omega)
 have n2 := nx_lt l (i + 1) (n := 9) (by omega)
 have r1 := inN_right (nx l i 9) ha
 have r2 := inN_right (nx l (i + 1) 9) ha
 have m1 := inN_mem (k := nx l i 9) ha (by omega)
 have m2 := inN_mem (k := nx l (i + 1) 9) ha (by omega)
 have hp := partI_right ha r1 r2 m1 m2
 refine pcalls_enter none Tryz.func57 rfl fun E => pwp_of_vc ?_
 simp -dsimp only [go_sem]
 refine pwp_draw mixed 12 (.step 0 [] (.step 1 [] (.step 3 [] (.step 4 [] (.step 2 [4] (.step 5 [] (.step 6 [] (.step 7 [] (.done))))))))) (by decide +kernel) (by simp) ?_
 simp -dsimp only [go_sem]
 refine (deckIn_c l i k a st h (by omega) ha).mono ?_
 rintro r st' ⟨rfl, rfl⟩
 simp -dsimp only [go_sem]
 refine (deckIn_c l (i + 1) k a _ (h.set (i + 1)) (by omega) ha).mono ?_
 rintro r st' ⟨rfl, rfl⟩
 simp -dsimp only [go_sem, set_dk]
 refine (between_c _ _ _ (sm_wN (rightN_sm r1)) (sm_wN (rightN_sm r2))).mono ?_
 rintro r st' ⟨rfl, rfl⟩
 simp -dsimp only [go_sem]
 have l1 := pt_lu hs (n := nx l i 9) (by omega)
 have l2 := pt_lu hs (n := nx l (i + 1) 9) (by omega)
 exact ⟨_, betw_lu hp.1 l1.2.2 l2.2.2, hp.2, rfl⟩
theorem partBoxS_c (l : List UInt64) (i k : Nat) (b : List Ivl) (st : Store) (h : atD st k l i) (hi : i ≤ 10000000) (hl : b.length ≤ 1000000) (hb : ∀ j, j < b.length → smI (b.getD j default)) : PCalls Tryz.prog 24 [.gp k 0, .sl .no (encIs b)] st
  (fun r st' => ∃ q, q.length = b.length ∧ (∀ j, j < b.length → luI 62 105 (q.getD j default) ∧ inI (q.getD j default) (b.getD j default) = true) ∧ r = .sl .no (encIs q) ∧ st' = st.set k (dk l (i + 2 * b.length))) := by
 refine pcalls_enter none Tryz.func24 rfl fun E => pwp_of_vc ?_
 simp -dsimp only [go_sem]
 refine pwp_claim 5 6 ?_
 simp -dsimp only [go_sem]
 refine pwp_loop_mask [true, true, false, false, false, true, true] 0 1 (fun m s => ∃ q, m = b.length - q.length ∧ q.length ≤ b.length ∧ (∀ j, j < q.length → luI 62 105 (q.getD j default) ∧ inI (q.getD j default) (b.getD j default) = true) ∧
  s = ⟨[.gp k 0, .sl .no (encIs b), .junk, .junk, .junk, .sl (.own 0) (encIs q), .sc (.int .i64 (q.length : Nat))] ++ List.replicate 16 .junk, [], [(q.length, 6)], st.set k (dk l (i + 2 * q.length))⟩) b.length ?_ ?_
 · simp -dsimp only [go_sem]
   refine ⟨[], by simp, by simp, (fun j hj => by simp at hj), ?_⟩
   show _ = PFS.mk _ _ _ (st.set k (dk l i))
   rw [h.same]; rfl
 · rintro m s ⟨q, rfl, hq, hr, rfl⟩
   simp -dsimp only [go_sem]
   refine ck (fun h1 => ?_) (fun h1 => ?_)
   · have hlt : q.length < b.length := by have := of_decide_eq_true h1; omega
     have e1 := encIs_get b q.length hlt
     have x1 : IntKind.i64.wrap ((q.length : Int) + 1) = ((q.length + 1 : Nat) : Int) := by
      rw [show ((q.length : Int) + 1) = ((q.length + 1 : Nat) : Int) from rfl, wrapn_i64 _ (by omega)]
     simp -dsimp only [go_sem, e1]
     refine ⟨⟨by omega, hlt⟩, ?_⟩
     refine (deckPartS_c l (i + 2 * q.length) k _ _ (h.set (i + 2 * q.length)) (by omega) (hb _ hlt)).mono ?_
     rintro r st' ⟨x, hx1, hx2, rfl, rfl⟩
     simp -dsimp only [go_sem, set_dk, x1]
     refine ⟨by omega, b.length - (q.length + 1), by omega, q ++ [x], by simp, by simp; omega, fun j hj => ?_, by simp [encIs, encI, Nat.mul_add, Nat.add_assoc]⟩
     by_cases hj2 : j < q.length
     · rw [snocD _ _ _ _ hj2]; exact hr j hj2
     · have e : j = q.length := by simp at hj; omega
       rw [e, snocD']; exact ⟨hx1, hx2⟩
   · have hge : q.length = b.length := by have := of_decide_eq_false h1; omega
     simp -dsimp only [go_sem]
     refine pwp_plain [false, false, false, false, false, true] (pwp_of_vc ?_)
     simp -dsimp only [go_sem]
     exact ⟨q, hge, fun j hj => hr j (by omega), rfl, by rw [hge]⟩
theorem okPoly.at {n M : Nat} {D : Int} {p : List Mn} (h : okPoly n M D p) {j : Nat} (hj : j < p.length) : okMn n 12 (18 + M) D (p.getD j default) := getD_mem' h.2.2 hj
theorem okField.at {n M : Nat} {D : Int} {f : List (List Mn)} (h : okField n M D f) {i : Nat} (hi : i < f.length) : okPoly n M D (f.getD i []) := by
 rw [show f.getD i [] = f[i] by simp [List.getD_eq_getElem?_getD, hi]]
 exact h.2 _ (List.getElem_mem hi)
theorem okField.wF {n M : Nat} {D : Int} {f : List (List Mn)} (h : okField n M D f) (hn4 : n ≤ 4) (hM : M ≤ 20) : wF f := ⟨by have := h.1; omega, fun i hi => ⟨by have := (h.at hi).2.1; omega, fun j hj => by
 obtain ⟨a1, a2, a3, a4, a5, a6⟩ := (h.at hi).at hj
 exact ⟨rightN_wN a4, by rw [a1]; omega, fun k hk => by
  have := rightK_at a2 k hk
  omega⟩⟩⟩
theorem smB_wB {b : List Ivl} {n : Nat} (hl : b.length = n) (hn4 : n ≤ 4) (h : ∀ m, m < b.length → smI (b.getD m default)) : wB b := ⟨by omega, fun i hi => wI_right (h i hi).1⟩
theorem rangeP_small {n M : Nat} {D : Int} {q : List Mn} {b : List Ivl} {p : Int} {L U : Nat} (hq : okPoly n M D q) (hM : M ≤ 24) (hl : b.length = n) (hn1 : 1 ≤ n) (hn4 : n ≤ 4) (hb : ∀ j, j < b.length → luI L U (b.getD j default)) (hp : precF p = true) (hbd : 154 + 8 * L + 8 * U ≤ 4096) :
  rangeP q b p = rangeF q b p q.length ∧ (rangeF q b p q.length).2 = 0 ∧ luI (12 + L * 8) (26 + M + U * 8 + 2 * q.length) (rangeF q b p q.length).1 := by
 have hlu := rangeF_lu (q := q) (b := b) (p := p) (Lc := 12) (Uc := 18 + M) (L := L) (U := U) hp (fun j hj => by
  obtain ⟨a1, a2, a3, a4, a5, a6⟩ := hq.at hj
  exact ⟨a4, a6, a2, by omega⟩) (by omega) hb (by have := hq.2.1; omega) (by omega) q.length (Nat.le_refl _)
 refine ⟨?_, hlu.1, hlu.2.mono (by omega) (by omega)⟩
 unfold rangeP
 have hr := hq.1
 rw [← hl] at hr
 rw [if_pos ⟨hr, List.all_eq_true.2 fun x hx => by
  obtain ⟨j, hj, e⟩ := List.mem_iff_getElem.1 hx
  have := (hb j hj).1
  rw [show b.getD j default = b[j] by simp [List.getD_eq_getElem?_getD, hj], e] at this
  exact this, hp⟩]
theorem rangeFd_small {n M : Nat} {D : Int} {f : List (List Mn)} {b : List Ivl} {p : Int} {L U : Nat} (hf : okField n M D f) (hM : M ≤ 24) (hl : b.length = n) (hn1 : 1 ≤ n) (hn4 : n ≤ 4) (hb : ∀ j, j < b.length → luI L U (b.getD j default)) (hp : precF p = true) (hbd : 154 + 8 * L + 8 * U ≤ 4096) :
  (rangeFd f b p).2 = 0 ∧ (rangeFd f b p).1.length = n ∧ ∀ i, i < n → (rangeFd f b p).1.getD i default = (rangeF (f.getD i []) b p (f.getD i []).length).1 ∧ (rangeF (f.getD i []) b p (f.getD i []).length).2 = 0 ∧ luI (12 + L * 8) (26 + M + U * 8 + 2 * M) (rangeF (f.getD i []) b p (f.getD i []).length).1 := by
 have hfl := hf.1
 have key : ∀ i, i < n → _ := fun i hi => rangeP_small (hf.at (i := i) (by omega)) hM hl hn1 hn4 hb hp hbd
 have h0 : (tabF (fun i => rangeP (f.getD i []) b p) 0 f.length []).2 = 0 := tabF_all _ _ _ fun j _ hj => by
  show (rangeP (f.getD j []) b p).2 = 0
  rw [(key j (by omega)).1]; exact (key j (by omega)).2.1
 obtain ⟨g1, g2, g3⟩ := tabF_get h0
 unfold rangeFd
 rw [if_pos ⟨hf.right hn1 hn4, by omega⟩]
 refine ⟨h0, by omega, fun i hi => ?_⟩
 obtain ⟨k1, k2, k3⟩ := key i hi
 refine ⟨?_, k2, k3.mono (by omega) (by have := (hf.at (i := i) (by omega)).2.1; omega)⟩
 rw [g3 i (by omega)]
 show (rangeP (f.getD i []) b p).1 = _
 rw [k1]
end Go.Pv
end
