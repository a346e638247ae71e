/- Parts of the walk: N43. -/
import Derived.Test.YtcfgdppnoephnaaGreatDoorZAU
import Derived.Test.YtcfgdppnoephnaaGreatDoorZAI
import Derived.Test.YtcfgdppnoephnaaGreatDoorZAO
import Derived.Test.YtcfgdppnoephnaaGreatDoorZAW
set_option linter.unusedVariables false
set_option linter.unusedSimpArgs false
section
/- The laws MatParts, MatDrawn. -/
set_option linter.unusedVariables false
set_option linter.unusedSimpArgs false
set_option maxRecDepth 100000
namespace Go.Pv
open Go.Proofs
theorem rightN_one : rightN oneN = true := by decide
theorem rowQ_get (n i j : Nat) (h : j < n) : (rowQ n i).getD j default = if i = j then oneN else default := by
  unfold rowQ
  rw [getD_put _ _ _ _ _ (by simpa using h)]
  split
  · rfl
  · simp [List.getD_eq_getElem?_getD, h]
theorem oneQ_wQ (n : Int) : wQ (oneQ n) := by
  unfold oneQ
  split
  · rename_i h
    refine ⟨by rw [oneL_length]; omega, fun i hi => ?_⟩
    rw [oneL_length] at hi
    have e : (oneL n.toNat).getD i [] = rowQ n.toNat i := by simp [oneL, List.getD_eq_getElem?_getD, hi]
    rw [e]
    refine ⟨by rw [rowQ_length]; omega, fun j hj => ?_⟩
    rw [rowQ_length] at hj
    rw [rowQ_get _ _ _ hj]
    split
    · exact sm_wN (rightN_sm rightN_one)
    · exact sm_wN (rightN_sm rightN_dflt)
  · exact ⟨by simp, fun i hi => by simp at hi⟩
theorem matParts_c (a b : Mx) (n : Int) (st : Store) (ha : wM a) (hb : wM b) : PCalls Tryz.prog 5 [.sl .no (encM a), .sl .no (encM b), .sc (.int .i64 n)] st (fun r st' => r = .sc (.bool true) ∧ st' = st) := by
  refine pcalls_enter none Tryz.func5 rfl fun E => pwp_of_vc ?_
  have wid : wM (idM n) := by rw [← oneQ_id]; exact ofM_wM (oneQ_wQ n)
  simp -dsimp only [go_sem]
  refine (known7_c st).mono ?_
  rintro r st ⟨rfl, rfl⟩
  simp -dsimp only [go_sem]
  have e : [PV.sl Tag.no (encM a), PV.sl Tag.no (encM b)] = encMs [a, b] := rfl
  rw [e]
  refine (light7_c [a, b] st (by simp) (fun i hi => by
    have : i = 0 ∨ i = 1 := by simp at hi; omega
    rcases this with rfl | rfl
    · exact ha
    · exact hb)).mono ?_
  rintro r st ⟨⟨g, rfl⟩, rfl⟩
  simp -dsimp only [go_sem]
  refine ck (fun h1 => ?_) (fun h1 => ?_)
  · simp -dsimp only [go_sem]
  · simp -dsimp only [go_sem]
    refine (matRight_c a _ ha).mono ?_
    rintro r st ⟨rfl, rfl⟩
    simp -dsimp only [go_sem]
    refine (rightMat_c a _ ha).mono ?_
    rintro r st ⟨rfl, rfl⟩
    simp -dsimp only [go_sem, beq_self_eq_true]
    refine (matSame_c a b _ ha hb).mono ?_
    rintro r st ⟨rfl, rfl⟩
    simp -dsimp only [go_sem]
    refine (sameMat_c a b _ ha hb).mono ?_
    rintro r st ⟨rfl, rfl⟩
    simp -dsimp only [go_sem, beq_self_eq_true]
    refine (matIn_c a b _ ha hb).mono ?_
    rintro r st ⟨rfl, rfl⟩
    simp -dsimp only [go_sem]
    refine (inMat_c a b _ ha hb).mono ?_
    rintro r st ⟨rfl, rfl⟩
    simp -dsimp only [go_sem, beq_self_eq_true]
    refine (matId_c n _).mono ?_
    rintro r st ⟨rfl, rfl⟩
    simp -dsimp only [go_sem]
    refine (one_c n _).mono ?_
    rintro r st ⟨rfl, rfl⟩
    simp -dsimp only [go_sem]
    refine (pointMat_c (oneQ n) _ (oneQ_wQ n)).plain.mono ?_
    rintro r st ⟨rfl, rfl⟩
    rw [oneQ_id]
    simp -dsimp only [go_sem]
    refine (sameMat_c _ _ _ wid wid).mono ?_
    rintro r st ⟨rfl, rfl⟩
    rw [decide_eq_true rfl]
    simp -dsimp only [go_sem]
theorem inM_mk {a b : Mx} (ha : rightM a = true) (hb : rightM b = true) (hl : a.length = b.length) (h : ∀ i j, i < a.length → j < a.length → inI (atM a i j) (atM b i j) = true) : inM a b = true := by
  unfold inM allF
  rw [ha, hb, decide_eq_true hl]
  simp only [Bool.true_and, List.all_eq_true]
  intro i hi
  have hi' : i < a.length := by simpa using hi
  obtain ⟨a1, a2⟩ := rightM_row ha hi'
  obtain ⟨b1, b2⟩ := rightM_row hb (show i < b.length by omega)
  show inB (a.getD i []) (b.getD i []) = true
  unfold inB allF
  rw [a2, b2, decide_eq_true (by rw [a1, b1]; exact hl)]
  simp only [Bool.true_and, List.all_eq_true]
  intro j hj
  exact h i j hi' (by rw [← a1]; simpa using hj)
theorem inQ_right {m : Mx} {q : List (List Nm)} (hm : rightM m = true) (h : inQ m q) : ∀ i j, i < m.length → j < m.length → rightN ((q.getD i []).getD j default) = true ∧ memI (qN ((q.getD i []).getD j default)) (atM m i j) := fun i j hi hj => by
  obtain ⟨n, hn, e⟩ := (h.2 i hi).2 j hj
  have hr := rightM_at hm hi hj
  rw [e]
  exact ⟨inN_right n hr, inN_mem hr hn⟩
theorem inQ_wQ {m : Mx} {q : List (List Nm)} (hm : rightM m = true) (h : inQ m q) : wQ q := by
  have hl := rightM_len hm
  refine ⟨by rw [h.1]; omega, fun i hi => ?_⟩
  rw [h.1] at hi
  have h2 := (h.2 i hi).1
  refine ⟨by rw [h2]; omega, fun j hj => ?_⟩
  rw [h2] at hj
  exact sm_wN (rightN_sm (inQ_right hm h i j hi hj).1)
theorem atM_of {q : List (List Nm)} {i j : Nat} (hi : i < q.length) (hj : j < (q.getD i []).length) : atM (ofM q) i j = ⟨(q.getD i []).getD j default, (q.getD i []).getD j default⟩ := by
  unfold atM
  rw [ofM_get q i hi]
  simp [ofB, List.getD_eq_getElem?_getD] at hj ⊢
  simp [hj]
theorem inQ_ofM {m : Mx} {q : List (List Nm)} (hm : rightM m = true) (h : inQ m q) : rightM (ofM q) = true ∧ inM (ofM q) m = true := by
  have hl := rightM_len hm
  have h1 : (ofM q).length = m.length := by unfold ofM; rw [List.length_map, h.1]
  have hat : ∀ i j, i < m.length → j < m.length → atM (ofM q) i j = ⟨(q.getD i []).getD j default, (q.getD i []).getD j default⟩ := fun i j hi hj =>
    atM_of (by rw [h.1]; exact hi) (by rw [(h.2 i hi).1]; exact hj)
  have hri : ∀ i j, i < m.length → j < m.length → rightI (atM (ofM q) i j) = true := fun i j hi hj => by
    rw [hat i j hi hj]; exact point_right (inQ_right hm h i j hi hj).1
  have hr : rightM (ofM q) = true := by
    refine rightM_iff.2 ⟨fun i hi => ?_, by omega, by omega⟩
    rw [h1] at hi
    have hlen : ((ofM q).getD i []).length = m.length := by rw [ofM_get q i (by rw [h.1]; exact hi)]; unfold ofB; rw [List.length_map]; exact (h.2 i hi).1
    refine ⟨by rw [hlen, h1], rightB_mk (fun j hj => hri i j hi (by rw [← hlen]; exact hj)) (by omega) (by omega)⟩
  refine ⟨hr, inM_mk hr hm h1 fun i j hi hj => ?_⟩
  rw [h1] at hi hj
  obtain ⟨m1, m2⟩ := inQ_right hm h i j hi hj
  have hp := hri i j hi hj
  rw [hat i j hi hj] at hp ⊢
  exact inI_mk hp (rightM_at hm hi hj) m2.1 m2.2
theorem inM_self {m : Mx} (h : rightM m = true) : inM m m = true := inM_mk h h rfl fun i j hi hj => inI_self (rightM_at h hi hj)
theorem wM_take {m : Mx} (h : wM m) (n : Nat) : wM (m.take n) := ⟨by have := h.1; simp; omega, fun i hi => by
  simp at hi
  rw [getD_take' _ _ _ _ (by omega)]; exact h.2 i (by omega)⟩
set_option maxHeartbeats 4000000 in
theorem matDrawn_c (l : List UInt64) : PCalls Tryz.prog 6 [.sl .no (encW l)] [] (fun r st' => r = .sc (.bool true)) := by
  refine pcalls_enter none Tryz.func6 rfl fun E => pwp_of_vc ?_
  simp -dsimp only [go_sem]
  refine (known7_c _).mono ?_
  rintro r st ⟨rfl, rfl⟩
  simp -dsimp only [go_sem]
  refine (deckOf_c l _).mono ?_
  rintro r st ⟨rfl, rfl⟩
  simp -dsimp only [go_sem]
  refine (dim_c l 0 0 [dk l 0] rfl (by omega)).mono ?_
  rintro r st ⟨n, hn1, hn2, rfl, rfl⟩
  have hnn : 3 * n * n ≤ 3 * 4 * 4 := Nat.mul_le_mul (Nat.mul_le_mul_left 3 hn2) hn2
  simp -dsimp only [go_sem]
  refine (deckMat_c l 1 0 n [dk l 1] rfl (by omega) (by omega)).mono ?_
  rintro r st ⟨a, j1, hla, ha0, hj1, hj2, rfl, rfl⟩
  simp -dsimp only [go_sem]
  refine (deckMat_c l j1 0 n [dk l j1] rfl (by omega) (by omega)).mono ?_
  rintro r st ⟨b, j2, hlb, hb0, hj3, hj4, rfl, rfl⟩
  simp -dsimp only [go_sem]
  refine (smallIvS_c l j2 0 [dk l j2] rfl (by omega)).mono ?_
  rintro r st ⟨x, j3, hx, hj5, hj6, rfl, rfl⟩
  simp -dsimp only [go_sem]
  refine (smallBoxS_c l j3 0 n [dk l j3] rfl (by omega) (by omega)).mono ?_
  rintro r st ⟨v, j4, hlv, hv0, hj7, hj8, rfl, rfl⟩
  simp -dsimp only [go_sem]
  refine (prec_c l j4 0 [dk l j4] rfl (by omega)).mono ?_
  rintro r st ⟨p, j5, hp1, hp2, hj9, hj10, rfl, rfl⟩
  have sa : smM a := ⟨by omega, by omega, by rw [hla]; exact ha0⟩
  have sb : smM b := ⟨by omega, by omega, by rw [hlb]; exact hb0⟩
  have sv : smB v := ⟨by omega, by omega, hv0⟩
  have ra := sa.right
  have wa := rightM_wM ra
  have wb := rightM_wM sb.right
  have wx := wI_right hx.1
  have wv := rightB_wB sv.right
  simp -dsimp only [go_sem]
  refine (deckInMat_c l j5 0 a [dk l j5] rfl (by omega) ra).mono ?_
  rintro r st ⟨q, hq, rfl, rfl⟩
  obtain ⟨rq, iq⟩ := inQ_ofM ra hq
  have wq := inQ_wQ ra hq
  have woq := ofM_wM wq
  simp -dsimp only [go_sem]
  generalize [dk l (j5 + a.length * a.length)] = st
  have x1 : IntKind.i64.wrap ((n : Int) - 1) = ((n - 1 : Nat) : Int) := by rw [show (n : Int) - 1 = ((n - 1 : Nat) : Int) from by omega, wrapn_i64 _ (by omega)]
  refine pwp_draw mixed 75 (.step 0 [] (.step 1 [] (.step 2 [] (.step 3 [] (.step 4 [] (.step 5 [] (.step 6 [] (.step 7 [] (.step 8 [] (.step 9 [] (.step 10 [] (.step 11 [] (.step 12 [] (.step 13 [] (.step 14 [] (.step 15 [] (.step 16 [] (.step 17 [] (.step 18 [] (.step 19 [] (.step 20 [] (.step 21 [] (.step 23 [] (.step 22 [2] (.step 24 [2] (.step 25 [] (.step 26 [] (.step 27 [] (.step 29 [] (.step 28 [2, 12] (.step 30 [2, 12] (.step 31 [2, 12] (.step 32 [] (.step 33 [] (.step 34 [] (.step 35 [] (.step 36 [2, 12] (.step 37 [] (.step 38 [] (.step 39 [] (.step 40 [2, 12] (.step 41 [] (.step 42 [] (.done)))))))))))))))))))))))))))))))))))))))))))) (by decide +kernel) (by simp) ?_
  simp -dsimp only [go_sem]
  refine (reckons7_c a b x v p _ wa wb wx wv).mono ?_
  rintro r st ⟨rfl, rfl⟩
  simp -dsimp only [go_sem, x1]
  refine ⟨⟨⟨by omega, by omega⟩, by omega⟩, ⟨⟨by omega, by omega⟩, by omega⟩, ?_⟩
  refine (reckons7_c a (b.take (n - 1)) x (v.take (n - 1)) p _ wa (wM_take wb _) wx (wB_take wv _)).mono ?_
  rintro r st ⟨rfl, rfl⟩
  simp -dsimp only [go_sem]
  refine (matOf_c q _ wq).plain.mono ?_
  rintro r st ⟨rfl, rfl⟩
  simp -dsimp only [go_sem]
  refine (matIn_c (ofM q) a _ woq wa).mono ?_
  rintro r st ⟨rfl, rfl⟩
  rw [iq]
  simp -dsimp only [go_sem]
  refine (matOf_c q _ wq).plain.mono ?_
  rintro r st ⟨rfl, rfl⟩
  simp -dsimp only [go_sem]
  refine (pointMat_c q _ wq).plain.mono ?_
  rintro r st ⟨rfl, rfl⟩
  simp -dsimp only [go_sem]
  refine (sameMat_c _ _ _ woq woq).mono ?_
  rintro r st ⟨rfl, rfl⟩
  rw [decide_eq_true rfl]
  simp -dsimp only [go_sem]
  refine (matIn_c a a _ wa wa).mono ?_
  rintro r st ⟨rfl, rfl⟩
  rw [inM_self ra]
  simp -dsimp only [go_sem]
  refine (matRight_c a _ wa).mono ?_
  rintro r st ⟨rfl, rfl⟩
  rw [ra]
  simp -dsimp only [go_sem]
end Go.Pv
end
