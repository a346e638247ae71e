/- Parts of the walk: N64. -/
import Derived.Test.YtelmlebahoeikaaGreatDoorZBN
import Derived.Test.YtelmlebahoeikaaGreatDoorZBJ
import Derived.Test.YtelmlebahoeikaaGreatDoorZBB
set_option linter.unusedVariables false
set_option linter.unusedSimpArgs false
section
/- Layer 11: FieldDrawn, FieldHolds. -/
set_option linter.unusedVariables false
set_option linter.unusedSimpArgs false
set_option maxRecDepth 100000
namespace Go.Pv
open Go.Proofs
theorem betw_lu {x y : Nm} {L U : Nat} (h : rightI (betw x y) = true) (hx : luQ L U (qN x)) (hy : luQ L U (qN y)) : luI L U (betw x y) := by
  refine ⟨h, ?_⟩
  unfold betw
  split
  · exact ⟨hy, hx⟩
  · exact ⟨hx, hy⟩
theorem deckPartS_c (l : List UInt64) (i k : Nat) (a : Ivl) (st : Store) (h : atD st k l i) (hi : i ≤ 100000000) (hs : smI a) : PCalls Tryz.prog 90 [.gp k 0, .agg (encI a)] st
    (fun r st' => ∃ x, luI 62 105 x ∧ inI x a = true ∧ r = .agg (encI x) ∧ st' = st.set k (dk l (i + 2))) := by
  have ha := hs.1
  have n1 := nx_lt l i (n := 9) (by omega)
  have n2 := nx_lt l (i + 1) (n := 9) (by omega)
  have r1 := inN_right (nx l i 9) ha
  have r2 := inN_right (nx l (i + 1) 9) ha
  have m1 := inN_mem (k := nx l i 9) ha (by omega)
  have m2 := inN_mem (k := nx l (i + 1) 9) ha (by omega)
  have hp := partI_right ha r1 r2 m1 m2
  refine pcalls_enter none Tryz.func90 rfl fun E => pwp_of_vc ?_
  simp -dsimp only [go_sem]
  refine pwp_draw mixed 12 (.step 0 [] (.step 1 [] (.step 3 [] (.step 4 [] (.step 2 [4] (.step 5 [] (.step 6 [] (.step 7 [] (.done))))))))) (by decide +kernel) (by simp) ?_
  simp -dsimp only [go_sem]
  refine (deckIn_c l i k a st h (by omega) ha).mono ?_
  rintro r st' ⟨rfl, rfl⟩
  simp -dsimp only [go_sem]
  refine (deckIn_c l (i + 1) k a _ (h.set (i + 1)) (by omega) ha).mono ?_
  rintro r st' ⟨rfl, rfl⟩
  simp -dsimp only [go_sem, set_dk]
  refine (between_c _ _ _ (sm_wN (rightN_sm r1)) (sm_wN (rightN_sm r2))).mono ?_
  rintro r st' ⟨rfl, rfl⟩
  simp -dsimp only [go_sem]
  have l1 := pt_lu hs (n := nx l i 9) (by omega)
  have l2 := pt_lu hs (n := nx l (i + 1) 9) (by omega)
  exact ⟨_, betw_lu hp.1 l1.2.2 l2.2.2, hp.2, rfl⟩
theorem partBoxS_c (l : List UInt64) (i k : Nat) (b : List Ivl) (st : Store) (h : atD st k l i) (hi : i ≤ 10000000) (hl : b.length ≤ 1000000) (hb : ∀ j, j < b.length → smI (b.getD j default)) : PCalls Tryz.prog 34 [.gp k 0, .sl .no (encIs b)] st
    (fun r st' => ∃ q, q.length = b.length ∧ (∀ j, j < b.length → luI 62 105 (q.getD j default) ∧ inI (q.getD j default) (b.getD j default) = true) ∧ r = .sl .no (encIs q) ∧ st' = st.set k (dk l (i + 2 * b.length))) := by
  refine pcalls_enter none Tryz.func34 rfl fun E => pwp_of_vc ?_
  simp -dsimp only [go_sem]
  refine pwp_claim 5 6 ?_
  simp -dsimp only [go_sem]
  refine pwp_loop_mask [true, true, false, false, false, true, true] 0 1 (fun m s => ∃ q, m = b.length - q.length ∧ q.length ≤ b.length ∧ (∀ j, j < q.length → luI 62 105 (q.getD j default) ∧ inI (q.getD j default) (b.getD j default) = true) ∧
    s = ⟨[.gp k 0, .sl .no (encIs b), .junk, .junk, .junk, .sl (.own 0) (encIs q), .sc (.int .i64 (q.length : Nat))] ++ List.replicate 16 .junk, [], [(q.length, 6)], st.set k (dk l (i + 2 * q.length))⟩) b.length ?_ ?_
  · simp -dsimp only [go_sem]
    refine ⟨[], by simp, by simp, (fun j hj => by simp at hj), ?_⟩
    show _ = PFS.mk _ _ _ (st.set k (dk l i))
    rw [h.same]; rfl
  · rintro m s ⟨q, rfl, hq, hr, rfl⟩
    simp -dsimp only [go_sem]
    refine ck (fun h1 => ?_) (fun h1 => ?_)
    · have hlt : q.length < b.length := by have := of_decide_eq_true h1; omega
      have e1 := encIs_get b q.length hlt
      have x1 : IntKind.i64.wrap ((q.length : Int) + 1) = ((q.length + 1 : Nat) : Int) := by
        rw [show ((q.length : Int) + 1) = ((q.length + 1 : Nat) : Int) from rfl, wrapn_i64 _ (by omega)]
      simp -dsimp only [go_sem, e1]
      refine ⟨⟨by omega, hlt⟩, ?_⟩
      refine (deckPartS_c l (i + 2 * q.length) k _ _ (h.set (i + 2 * q.length)) (by omega) (hb _ hlt)).mono ?_
      rintro r st' ⟨x, hx1, hx2, rfl, rfl⟩
      simp -dsimp only [go_sem, set_dk, x1]
      refine ⟨by omega, b.length - (q.length + 1), by omega, q ++ [x], by simp, by simp; omega, fun j hj => ?_, by simp [encIs, encI, Nat.mul_add, Nat.add_assoc]⟩
      by_cases hj2 : j < q.length
      · rw [snocD _ _ _ _ hj2]; exact hr j hj2
      · have e : j = q.length := by simp at hj; omega
        rw [e, snocD']; exact ⟨hx1, hx2⟩
    · have hge : q.length = b.length := by have := of_decide_eq_false h1; omega
      simp -dsimp only [go_sem]
      refine pwp_plain [false, false, false, false, false, true] (pwp_of_vc ?_)
      simp -dsimp only [go_sem]
      exact ⟨q, hge, fun j hj => hr j (by omega), rfl, by rw [hge]⟩
theorem okPoly.at {n M : Nat} {D : Int} {p : List Mn} (h : okPoly n M D p) {j : Nat} (hj : j < p.length) : okMn n 12 (18 + M) D (p.getD j default) := getD_mem' h.2.2 hj
theorem okField.at {n M : Nat} {D : Int} {f : List (List Mn)} (h : okField n M D f) {i : Nat} (hi : i < f.length) : okPoly n M D (f.getD i []) := by
  rw [show f.getD i [] = f[i] by simp [List.getD_eq_getElem?_getD, hi]]
  exact h.2 _ (List.getElem_mem hi)
theorem okField.wF {n M : Nat} {D : Int} {f : List (List Mn)} (h : okField n M D f) (hn4 : n ≤ 4) (hM : M ≤ 20) : wF f := ⟨by have := h.1; omega, fun i hi => ⟨by have := (h.at hi).2.1; omega, fun j hj => by
  obtain ⟨a1, a2, a3, a4, a5, a6⟩ := (h.at hi).at hj
  exact ⟨rightN_wN a4, by rw [a1]; omega, fun k hk => by
    have := rightK_at a2 k hk
    omega⟩⟩⟩
theorem smB_wB {b : List Ivl} {n : Nat} (hl : b.length = n) (hn4 : n ≤ 4) (h : ∀ m, m < b.length → smI (b.getD m default)) : wB b := ⟨by omega, fun i hi => wI_right (h i hi).1⟩
theorem inPts {b : List Ivl} {q : List Nm} (hb : ∀ m, m < b.length → smI (b.getD m default)) (hq : ∀ j, j < b.length → ∃ n, n ≤ 8 ∧ q.getD j default = inN (b.getD j default) n) : ∀ j, j < b.length → rightN (q.getD j default) = true ∧ memI (qN (q.getD j default)) (b.getD j default) ∧ luQ 62 105 (qN (q.getD j default)) := fun j hj => by
  obtain ⟨n, hn, e⟩ := hq j hj
  rw [e]; exact pt_lu (hb j hj) hn
theorem rightB_lu {b : List Ivl} {n L U : Nat} (hl : b.length = n) (hn1 : 1 ≤ n) (hn4 : n ≤ 4) (h : ∀ j, j < b.length → luI L U (b.getD j default)) : rightB b = true := rightB_mk (fun j hj => (h j hj).1) (by omega) (by omega)
theorem rangeP_small {n M : Nat} {D : Int} {q : List Mn} {b : List Ivl} {p : Int} {L U : Nat} (hq : okPoly n M D q) (hM : M ≤ 24) (hl : b.length = n) (hn1 : 1 ≤ n) (hn4 : n ≤ 4) (hb : ∀ j, j < b.length → luI L U (b.getD j default)) (hp : precF p = true) (hbd : 154 + 8 * L + 8 * U ≤ 4096) :
    rangeP q b p = rangeF q b p q.length ∧ (rangeF q b p q.length).2 = 0 ∧ luI (12 + L * 8) (26 + M + U * 8 + 2 * q.length) (rangeF q b p q.length).1 := by
  have hlu := rangeF_lu (q := q) (b := b) (p := p) (Lc := 12) (Uc := 18 + M) (L := L) (U := U) hp (fun j hj => by
    obtain ⟨a1, a2, a3, a4, a5, a6⟩ := hq.at hj
    exact ⟨a4, a6, a2, by omega⟩) (by omega) hb (by have := hq.2.1; omega) (by omega) q.length (Nat.le_refl _)
  refine ⟨?_, hlu.1, hlu.2.mono (by omega) (by omega)⟩
  unfold rangeP
  have hr := hq.1
  rw [← hl] at hr
  rw [if_pos ⟨hr, List.all_eq_true.2 fun x hx => by
    obtain ⟨j, hj, e⟩ := List.mem_iff_getElem.1 hx
    have := (hb j hj).1
    rw [show b.getD j default = b[j] by simp [List.getD_eq_getElem?_getD, hj], e] at this
    exact this, hp⟩]
theorem rangeFd_small {n M : Nat} {D : Int} {f : List (List Mn)} {b : List Ivl} {p : Int} {L U : Nat} (hf : okField n M D f) (hM : M ≤ 24) (hl : b.length = n) (hn1 : 1 ≤ n) (hn4 : n ≤ 4) (hb : ∀ j, j < b.length → luI L U (b.getD j default)) (hp : precF p = true) (hbd : 154 + 8 * L + 8 * U ≤ 4096) :
    (rangeFd f b p).2 = 0 ∧ (rangeFd f b p).1.length = n ∧ ∀ i, i < n → (rangeFd f b p).1.getD i default = (rangeF (f.getD i []) b p (f.getD i []).length).1 ∧ (rangeF (f.getD i []) b p (f.getD i []).length).2 = 0 ∧ luI (12 + L * 8) (26 + M + U * 8 + 2 * M) (rangeF (f.getD i []) b p (f.getD i []).length).1 := by
  have hfl := hf.1
  have key : ∀ i, i < n → _ := fun i hi => rangeP_small (hf.at (i := i) (by omega)) hM hl hn1 hn4 hb hp hbd
  have h0 : (tabF (fun i => rangeP (f.getD i []) b p) 0 f.length []).2 = 0 := tabF_all _ _ _ fun j _ hj => by
    show (rangeP (f.getD j []) b p).2 = 0
    rw [(key j (by omega)).1]; exact (key j (by omega)).2.1
  obtain ⟨g1, g2, g3⟩ := tabF_get h0
  unfold rangeFd
  rw [if_pos ⟨hf.right hn1 hn4, by omega⟩]
  refine ⟨h0, by omega, fun i hi => ?_⟩
  obtain ⟨k1, k2, k3⟩ := key i hi
  refine ⟨?_, k2, k3.mono (by omega) (by have := (hf.at (i := i) (by omega)).2.1; omega)⟩
  rw [g3 i (by omega)]
  show (rangeP (f.getD i []) b p).1 = _
  rw [k1]
theorem atFd_small {n M : Nat} {D : Int} {f : List (List Mn)} {x : List Nm} {L U : Nat} (hf : okField n M D f) (hM : M ≤ 24) (hl : x.length = n) (hn1 : 1 ≤ n) (hn4 : n ≤ 4) (hx : ∀ j, j < x.length → rightN (x.getD j default) = true ∧ luQ L U (qN (x.getD j default))) (hbd : 100 + 8 * L + 8 * U ≤ 4096) :
    (atFd f x).2 = 0 ∧ (atFd f x).1.length = n ∧ ∀ i, i < n → rightN ((atFd f x).1.getD i default) = true ∧ qN ((atFd f x).1.getD i default) = valQ (f.getD i []) (fun j => qN (x.getD j default)) n (f.getD i []).length ∧ luQ (12 + L * 8) (42 + M + U * 8) (qN ((atFd f x).1.getD i default)) := by
  have hfl := hf.1
  have key : ∀ i, i < n → _ := fun i hi => atP_ok (p := f.getD i []) (x := x) (Lc := 12) (Uc := 18 + M) (L := L) (U := U) (by rw [hl]; exact (hf.at (i := i) (by omega)).1) (fun j hj => ((hf.at (i := i) (by omega)).at hj).2.2.2.2.2) hx (by omega)
  have h0 : (tabF (fun i => atP (f.getD i []) x) 0 f.length []).2 = 0 := tabF_all _ _ _ fun j _ hj => (key j (by omega)).1
  obtain ⟨g1, g2, g3⟩ := tabF_get h0
  unfold atFd
  rw [if_pos ⟨hf.right hn1 hn4, by omega⟩]
  refine ⟨h0, by omega, fun i hi => ?_⟩
  obtain ⟨k1, k2, k3, k4⟩ := key i hi
  rw [g3 i (by omega)]
  exact ⟨k2, by rw [k3, hl], k4.mono (by omega) (by omega)⟩
set_option maxHeartbeats 4000000 in
theorem fieldHolds_c (l : List UInt64) : PCalls Tryz.prog 10 [.sl .no (encW l)] [] (fun r st' => r = .sc (.bool true)) := by
  refine pcalls_enter none Tryz.func10 rfl fun E => pwp_of_vc ?_
  simp -dsimp only [go_sem]
  refine (known11_c _).mono ?_
  rintro r st ⟨rfl, rfl⟩
  simp -dsimp only [go_sem]
  refine (deckOf_c l _).mono ?_
  rintro r st ⟨rfl, rfl⟩
  simp -dsimp only [go_sem]
  refine (dim_c l 0 0 [dk l 0] rfl (by omega)).mono ?_
  rintro r st ⟨n, hn1, hn2, rfl, rfl⟩
  simp -dsimp only [go_sem]
  refine (deckField_c l 1 0 n 4 5 [dk l 1] rfl (by omega) hn1 hn2 (by omega) (by omega)).mono ?_
  rintro r st ⟨f, j1, hf, hj1, hj2, rfl, rfl⟩
  simp -dsimp only [go_sem]
  refine (smallBoxS_c l j1 0 n [dk l j1] rfl (by omega) (by omega)).mono ?_
  rintro r st ⟨b, j3, hbl, hb, hj5, hj6, rfl, rfl⟩
  simp -dsimp only [go_sem]
  refine (prec_c l j3 0 [dk l j3] rfl (by omega)).mono ?_
  rintro r st ⟨p, j4, hp1, hp2, hj7, hj8, rfl, rfl⟩
  simp -dsimp only [go_sem]
  refine (inBoxD_c l j4 0 b [dk l j4] rfl (by omega) (by omega) (fun j hj => (hb j hj).1)).mono ?_
  rintro r st ⟨x, hxl, hx, rfl, rfl⟩
  simp -dsimp only [go_sem]
  refine (partBoxS_c l (j4 + b.length) 0 b [dk l (j4 + b.length)] rfl (by omega) (by omega) hb).mono ?_
  rintro r st ⟨c, hcl, hc, rfl, rfl⟩
  have hxp := inPts hb hx
  have hp := precF_nat' hp1 hp2
  have wf := hf.wF hn2 (by omega)
  have wb := smB_wB hbl hn2 hb
  have wc : wB c := ⟨by omega, fun i hi => wI_right (hc i (by omega)).1.1⟩
  have wx : wNs x := ⟨by omega, fun i hi => rightN_wN (hxp i (by omega)).1⟩
  obtain ⟨v1, v2, v3⟩ := atFd_small (L := 62) (U := 105) hf (by omega) (by omega) hn1 hn2 (fun j hj => ⟨(hxp j (by omega)).1, (hxp j (by omega)).2.2⟩) (by omega)
  obtain ⟨r1, r2, r3⟩ := rangeFd_small (L := 12) (U := 18) hf (by omega) hbl hn1 hn2 (fun j hj => smI_lu (hb j hj)) hp (by omega)
  obtain ⟨s1, s2, s3⟩ := rangeFd_small (L := 62) (U := 105) hf (by omega) (by omega) hn1 hn2 (fun j hj => (hc j (by omega)).1) hp (by omega)
  have hasV : hasB (rangeFd f b p).1 (atFd f x).1 = true := by
    unfold hasB
    have hrr : rightB (rangeFd f b p).1 = true := rightB_lu (L := 12 + 12 * 8) (U := 26 + 4 + 18 * 8 + 2 * 4) r2 hn1 hn2 (fun j hj => by rw [(r3 j (by omega)).1]; exact (r3 j (by omega)).2.2)
    rw [hrr, Bool.true_and, Bool.and_eq_true]
    refine ⟨decide_eq_true (by omega), List.all_eq_true.2 fun i hi => ?_⟩
    have hi' : i < n := by have := List.mem_range.1 hi; omega
    obtain ⟨a1, a2, a3⟩ := r3 i hi'
    obtain ⟨b1, b2, b3⟩ := v3 i hi'
    rw [a1]
    refine hasI_mem a3.1 b1 ?_
    rw [b2]
    have := rangeF_mem (q := f.getD i []) (b := b) (p := p) (X := fun j => qN (x.getD j default)) (fun j hj => (hxp j hj).2.1) _ a2
    rw [hbl] at this
    exact this
  have inR : inB (rangeFd f c p).1 (rangeFd f b p).1 = true := by
    refine inB_iff.2 ⟨rightB_lu (L := 12 + 62 * 8) (U := 26 + 4 + 105 * 8 + 2 * 4) s2 hn1 hn2 (fun j hj => by rw [(s3 j (by omega)).1]; exact (s3 j (by omega)).2.2), rightB_lu (L := 12 + 12 * 8) (U := 26 + 4 + 18 * 8 + 2 * 4) r2 hn1 hn2 (fun j hj => by rw [(r3 j (by omega)).1]; exact (r3 j (by omega)).2.2), by omega, fun i hi => ?_⟩
    have hi' : i < n := by omega
    obtain ⟨a1, a2, a3⟩ := r3 i hi'
    obtain ⟨b1, b2, b3⟩ := s3 i hi'
    rw [a1, b1]
    refine (inI_sub b3.1 a3.1).2 (rangeF_sub (by omega) (fun j hj => (inI_sub (hc j hj).1.1 (hb j hj).1).1 (hc j hj).2) _ b2 a2)
  have wv := atFd_wNs f x wf.1
  have wr := rangeFd_wB f b p wf.1
  have wr2 := rangeFd_wB f c p wf.1
  generalize [dk l (j4 + b.length + 2 * b.length)] = st
  simp -dsimp only [go_sem]
  refine (fieldAt_c f x _ wf wx.1 wx.2).mono ?_
  rintro r st ⟨rfl, rfl⟩
  simp -dsimp only [go_sem]
  refine (fieldRange_c f b p _ wf wb).mono ?_
  rintro r st ⟨rfl, rfl⟩
  simp -dsimp only [go_sem]
  refine (fieldRange_c f c p _ wf wc).mono ?_
  rintro r st ⟨rfl, rfl⟩
  generalize (atFd f x).1 = V at *
  generalize (rangeFd f b p).1 = R at *
  generalize (rangeFd f c p).1 = S at *
  have z0 : ((0 : Int) == 0) = true := rfl
  simp -dsimp only [go_sem, v1, r1, s1, z0]
  refine (boxHas_c R V _ wr wv).mono ?_
  rintro r st ⟨rfl, rfl⟩
  rw [hasV]
  simp -dsimp only [go_sem, v1, r1, s1, z0]
  refine (boxIn_c S R _ wr2 wr).mono ?_
  rintro r st ⟨rfl, rfl⟩
  rw [inR]
  simp -dsimp only [go_sem]
end Go.Pv
end
