/- Parts of the walk: N65. -/
import Derived.Test.YtelmlebahoeikaaGreatDoorZBO
import Derived.Test.YtelmlebahoeikaaGreatDoorZBM
set_option linter.unusedVariables false
set_option linter.unusedSimpArgs false
section
/- Layer 11: FieldChains. -/
set_option linter.unusedVariables false
set_option linter.unusedSimpArgs false
set_option maxRecDepth 100000
namespace Go.Pv
open Go.Proofs
theorem str_lu {k : Nat} {x y : Nm} {L U : Nat} (hk : k < 2) (hx : rightN x = true) (hy : rightN y = true) (h1 : luQ L U (qN x)) (h2 : luQ L U (qN y)) (hb : L + U + 2 ≤ 4096) : (strN k x y).2 = 0 ∧ rightN (strN k x y).1 = true ∧ qN (strN k x y).1 = exQ k (qN x) (qN y) ∧ luQ L (U + 1) (qN (strN k x y).1) := by
  have hc : canV (exV k (ofN x) (ofN y)) := canV_ex k (canV_ofN hx) (canV_ofN hy)
  have hq : qV (exV k (ofN x) (ofN y)) = exQ k (qN x) (qN y) := by rw [qV_ex]; rfl
  have hl : luQ L (U + 1) (qV (exV k (ofN x) (ofN y))) := by
    rw [hq]
    unfold exQ
    split
    · exact luQ_add h1 h2
    · rw [if_pos (by omega)]; exact luQ_sub h1 h2
  have hf := luV_fits hc hl (by omega)
  have hv := (numV_val hc hf).2
  unfold strN
  rw [if_pos ⟨hx, hy⟩]
  exact ⟨hf, rightN_numV (canV_ok hc), by rw [hv, hq], by rw [hv]; exact hl⟩
theorem luQ_half {L U : Nat} {x y : Rat} (h : luQ L U x) (e : y * 2 = x) : luQ (L + 1) U y := by
  obtain ⟨z, h1, h2⟩ := h
  refine ⟨z, ?_, Nat.le_trans h2 (Nat.pow_le_pow_right (by decide) (by omega))⟩
  have := qM_half z (-(L : Int))
  rw [show -(L : Int) - 1 = -((L + 1 : Nat) : Int) from by omega, ← h1] at this
  exact two_inj (by rw [e, this])
theorem scale_half {x : Nm} {L U : Nat} (hx : rightN x = true) (h : luQ L U (qN x)) (hb : L + U + 2 ≤ 4096) : (scaleN x (-1)).2 = 0 ∧ rightN (scaleN x (-1)).1 = true ∧ qN (scaleN x (-1)).1 * 2 = qN x ∧ luQ (L + 1) U (qN (scaleN x (-1)).1) := by
  unfold scaleN
  rw [if_pos hx]
  split
  · rename_i hw
    have h0 : qN x = 0 := qN_nil (by rw [hw]; rfl)
    refine ⟨rfl, hx, ?_, ?_⟩
    · show qN x * 2 = qN x
      rw [h0, Rat.zero_mul]
    · show luQ (L + 1) U (qN x)
      rw [h0]; exact luQ_zero _ _
  · rename_i hw
    rw [if_neg (by omega)]
    have hc : canV (⟨x.neg, valW x.w, x.exp + -1⟩ : Vl) := by
      rcases canV_ofN hx with h1 | h1
      · exact .inl h1
      · have : valW x.w = 0 := congrArg Vl.m h1
        exfalso
        have h2 := numV_ofN hx
        rw [h1] at h2
        have h3 := congrArg Prod.fst h2
        have : x = default := h3.symm
        rw [this] at hw
        exact hw rfl
    have hq : qV (⟨x.neg, valW x.w, x.exp + -1⟩ : Vl) * 2 = qN x := qN_half x
    have hl := luQ_half h hq
    have hf := luV_fits hc hl (by omega)
    have hv := (numV_val hc hf).2
    exact ⟨hf, rightN_numV (canV_ok hc), by rw [hv]; exact hq, by rw [hv]; exact hl⟩
structure Pts (a b m w : List Nm) (i : Nat) : Prop where
  la : a.length = i
  lb : b.length = i
  lm : m.length = i
  lw : w.length = i
  pa : ∀ k, k < i → rightN (a.getD k default) = true ∧ luQ 12 18 (qN (a.getD k default))
  pb : ∀ k, k < i → rightN (b.getD k default) = true ∧ luQ 12 18 (qN (b.getD k default))
  pm : ∀ k, k < i → rightN (m.getD k default) = true ∧ luQ 13 19 (qN (m.getD k default)) ∧ qN (m.getD k default) * 2 = qN (a.getD k default) + qN (b.getD k default)
  pw : ∀ k, k < i → rightN (w.getD k default) = true ∧ luQ 12 19 (qN (w.getD k default)) ∧ qN (w.getD k default) = qN (b.getD k default) - qN (a.getD k default)
theorem Pts.snoc {a b m w : List Nm} {i : Nat} (h : Pts a b m w i) {x y : Nm} (hx : smN x) (hy : smN y) : Pts (a ++ [x]) (b ++ [y]) (m ++ [(scaleN (strN 0 x y).1 (-1)).1]) (w ++ [(strN 1 y x).1]) (i + 1) ∧ (strN 0 x y).2 = 0 ∧ (scaleN (strN 0 x y).1 (-1)).2 = 0 ∧ (strN 1 y x).2 = 0 := by
  obtain ⟨s1, s2, s3, s4⟩ := str_lu (k := 0) (by omega) hx.1 hy.1 (luQ_bd hx.2) (luQ_bd hy.2) (by omega)
  obtain ⟨d1, d2, d3, d4⟩ := str_lu (k := 1) (by omega) hy.1 hx.1 (luQ_bd hy.2) (luQ_bd hx.2) (by omega)
  obtain ⟨c1, c2, c3, c4⟩ := scale_half s2 s4 (by omega)
  rw [exQ0] at s3
  rw [exQ1] at d3
  have g : ∀ {l : List Nm} {z : Nm} {k : Nat}, l.length = i → k < i + 1 → (k < i ∧ (l ++ [z]).getD k default = l.getD k default) ∨ (k = i ∧ (l ++ [z]).getD k default = z) := fun {l z k} hl hk => by
    by_cases hk2 : k < i
    · exact .inl ⟨hk2, snocD _ _ _ _ (by omega)⟩
    · have e : k = l.length := by omega
      exact .inr ⟨by omega, by rw [e, snocD']⟩
  refine ⟨⟨by simp [h.la], by simp [h.lb], by simp [h.lm], by simp [h.lw], fun k hk => ?_, fun k hk => ?_, fun k hk => ?_, fun k hk => ?_⟩, s1, c1, d1⟩
  · rcases g (z := x) h.la hk with ⟨e1, e2⟩ | ⟨e1, e2⟩
    · rw [e2]; exact h.pa k e1
    · rw [e2]; exact ⟨hx.1, luQ_bd hx.2⟩
  · rcases g (z := y) h.lb hk with ⟨e1, e2⟩ | ⟨e1, e2⟩
    · rw [e2]; exact h.pb k e1
    · rw [e2]; exact ⟨hy.1, luQ_bd hy.2⟩
  · rcases g (z := (scaleN (strN 0 x y).1 (-1)).1) h.lm hk with ⟨e1, e2⟩ | ⟨e1, e2⟩
    · rcases g (z := x) h.la hk with ⟨f1, f2⟩ | ⟨f1, f2⟩
      · rcases g (z := y) h.lb hk with ⟨g1, g2⟩ | ⟨g1, g2⟩
        · rw [e2, f2, g2]; exact h.pm k e1
        · omega
      · omega
    · rcases g (z := x) h.la hk with ⟨f1, f2⟩ | ⟨f1, f2⟩
      · omega
      · rcases g (z := y) h.lb hk with ⟨g1, g2⟩ | ⟨g1, g2⟩
        · omega
        · rw [e2, f2, g2]; exact ⟨c2, c4, by rw [c3, s3]⟩
  · rcases g (z := (strN 1 y x).1) h.lw hk with ⟨e1, e2⟩ | ⟨e1, e2⟩
    · rcases g (z := x) h.la hk with ⟨f1, f2⟩ | ⟨f1, f2⟩
      · rcases g (z := y) h.lb hk with ⟨g1, g2⟩ | ⟨g1, g2⟩
        · rw [e2, f2, g2]; exact h.pw k e1
        · omega
      · omega
    · rcases g (z := x) h.la hk with ⟨f1, f2⟩ | ⟨f1, f2⟩
      · omega
      · rcases g (z := y) h.lb hk with ⟨g1, g2⟩ | ⟨g1, g2⟩
        · omega
        · rw [e2, f2, g2]; exact ⟨d2, d4, d3⟩
theorem jacF_small {n M : Nat} {D : Int} {f : List (List Mn)} (hf : okField n M D f) (hM : M ≤ 24) (hn1 : 1 ≤ n) (hn4 : n ≤ 4) :
    (jacF f).2 = 0 ∧ (jacF f).1.length = n ∧ ∀ i, i < n → ((jacF f).1.getD i []).length = n ∧ ∀ k, k < n → rightP (((jacF f).1.getD i []).getD k []) n = true ∧ (∀ m ∈ ((jacF f).1.getD i []).getD k [], okMn n 12 (21 + M) D m) ∧
      ∀ X, valQ (((jacF f).1.getD i []).getD k []) X n (((jacF f).1.getD i []).getD k []).length = dvalQ (f.getD i []) k X n (f.getD i []).length := by
  have hfl := hf.1
  have key : ∀ i k, i < n → k < n → _ := fun i k hi hk => diffP_ok (n := n) (L := 12) (U := 18 + M) (D := D) (p := f.getD i []) (k := k) hn1 hn4 (hf.at (i := i) (by omega)).1 (hf.at (i := i) (by omega)).2.2 hk (by omega)
  have hrow : ∀ i, i < n → (tabF (fun j => jacG f i j) 0 f.length []).2 = 0 := fun i hi => tabF_all _ _ _ fun j _ hj => by
    show (diffP (f.getD i []) (j : Nat) f.length).2 = 0
    rw [hfl]; exact (key i j hi (by omega)).1
  have h0 : (tabF (fun i => tabF (fun j => jacG f i j) 0 f.length []) 0 f.length []).2 = 0 := tabF_all _ _ _ fun j _ hj => hrow j (by omega)
  obtain ⟨g1, g2, g3⟩ := tabF_get h0
  unfold jacF
  rw [if_pos (hf.right hn1 hn4)]
  have eg : ∀ i, i < n → (tabF (fun i => tabF (fun j => jacG f i j) 0 f.length []) 0 f.length []).1.getD i [] = (tabF (fun j => jacG f i j) 0 f.length []).1 := fun i hi => g3 i (by omega)
  refine ⟨h0, by omega, fun i hi => ?_⟩
  rw [eg i hi]
  obtain ⟨r1, r2, r3⟩ := tabF_get (hrow i hi)
  refine ⟨by omega, fun k hk => ?_⟩
  have ek : (tabF (fun j => jacG f i j) 0 f.length []).1.getD k [] = (diffP (f.getD i []) k n).1 := by
    have := r3 k (by omega)
    rw [show (tabF (fun j => jacG f i j) 0 f.length []).1.getD k [] = (jacG f i k).1 from this]
    unfold jacG; rw [hfl]
  rw [ek]
  obtain ⟨k1, k2, k3, k4, k5⟩ := key i k hi hk
  exact ⟨k2, fun m hm => by
    obtain ⟨a1, a2, a3, a4, a5, a6⟩ := k4 m hm
    exact ⟨a1, a2, a3, a4, a5, a6.up (by omega)⟩, k5⟩
theorem smV_lu {v : Vl} {L U : Nat} (hc : canV v) (h : luQ L U (qV v)) (hb : L + U ≤ 4000) : smV v := by
  have := luV_bd hc h
  exact ⟨by have := this.1; omega, by have := this.2.1; omega, by have := this.2.2; omega⟩
theorem orderV_same {a b : Vl} (h : qV a = qV b) : orderV a b = 0 := by
  have h1 := (orderV_le a b).2 (by rw [h]; exact Rat.le_refl)
  have h2 : ¬ orderV a b < 0 := fun e => by
    have := (orderV_lt a b).1 e
    rw [h] at this
    exact absurd this (by grind)
  omega
set_option maxHeartbeats 8000000 in
theorem fieldChains_c (l : List UInt64) : PCalls Tryz.prog 9 [.sl .no (encW l)] [] (fun r st' => r = .sc (.bool true)) := by
  refine pcalls_enter none Tryz.func9 rfl fun E => pwp_of_vc ?_
  simp -dsimp only [go_sem]
  refine (known11_c _).mono ?_
  rintro r st ⟨rfl, rfl⟩
  simp -dsimp only [go_sem]
  refine (deckOf_c l _).mono ?_
  rintro r st ⟨rfl, rfl⟩
  simp -dsimp only [go_sem]
  refine (dim_c l 0 0 [dk l 0] rfl (by omega)).mono ?_
  rintro r st ⟨n, hn1, hn2, rfl, rfl⟩
  simp -dsimp only [go_sem]
  refine (deckField_c l 1 0 n 4 2 [dk l 1] rfl (by omega) hn1 hn2 (by omega) (by omega)).mono ?_
  rintro r st ⟨f, j1, hf, hj1, hj2, rfl, rfl⟩
  have wf := hf.wF hn2 (by omega)
  simp -dsimp only [go_sem]
  refine pwp_claim 6 3 ?_
  simp -dsimp only [go_sem]
  refine pwp_claim 7 3 ?_
  simp -dsimp only [go_sem]
  refine pwp_claim 8 3 ?_
  simp -dsimp only [go_sem]
  refine pwp_claim 9 3 ?_
  simp -dsimp only [go_sem]
  refine pwp_loop_mask [false, false, false, true, true, true, true, true, true, true, true] 0 4
    (fun c s => ∃ (i j : Nat) (a b m w : List Nm), c = n - i ∧ i ≤ n ∧ Pts a b m w i ∧ j ≤ j1 + 2 * i ∧ s = ⟨[.junk, .junk, .junk, .gp 0 0, .sc (.int .i64 n), .sl .no (encFs f), .sl (.own 0) (encNs a), .sl (.own 1) (encNs b), .sl (.own 2) (encNs m), .sl (.own 3) (encNs w), .sc (.int .i64 (i : Nat))] ++ List.replicate 180 .junk, [], [(i, 3), (i, 3), (i, 3), (i, 3)], [dk l j]⟩) n ?_ ?_
  · simp -dsimp only [go_sem]
    exact ⟨0, j1, [], [], [], [], by omega, by omega, ⟨rfl, rfl, rfl, rfl, fun k hk => absurd hk (by omega), fun k hk => absurd hk (by omega), fun k hk => absurd hk (by omega), fun k hk => absurd hk (by omega)⟩, by omega, rfl⟩
  · rintro c s ⟨i, j, a, b, m, w, rfl, hi, hP, hj, rfl⟩
    simp -dsimp only [go_sem]
    refine ck (fun h1 => ?_) (fun h1 => ?_)
    · have hlt : i < n := by have := of_decide_eq_true h1; omega
      have e3 := succW i (by omega)
      simp -dsimp only [go_sem]
      refine (smallS_c l j 0 [dk l j] rfl (by omega)).mono ?_
      rintro r st ⟨x, hx, rfl, rfl⟩
      simp -dsimp only [go_sem]
      refine (smallS_c l (j + 1) 0 [dk l (j + 1)] rfl (by omega)).mono ?_
      rintro r st ⟨y, hy, rfl, rfl⟩
      obtain ⟨hP2, s1, c1, d1⟩ := hP.snoc hx hy
      have wx := rightN_wN hx.1
      have wy := rightN_wN hy.1
      simp -dsimp only [go_sem]
      refine (numAdd_c x y _ wx wy).mono ?_
      rintro r st ⟨rfl, rfl⟩
      simp -dsimp only [go_sem]
      refine (numScale_c (strN 0 x y).1 (-1) _ (strN_wN 0 x y)).mono ?_
      rintro r st ⟨rfl, rfl⟩
      simp -dsimp only [go_sem]
      refine (numSub_c y x _ wy wx).mono ?_
      rintro r st ⟨rfl, rfl⟩
      have z0 : ((0 : Int) != 0) = false := rfl
      generalize (scaleN (strN 0 x y).1 (-1)).1 = h0 at *
      generalize (scaleN (strN 0 x y).1 (-1)).2 = h0e at *
      generalize (strN 0 x y).1 = s0 at *
      generalize (strN 0 x y).2 = s0e at *
      generalize (strN 1 y x).1 = t0 at *
      generalize (strN 1 y x).2 = t0e at *
      subst s1 c1 d1
      simp -dsimp only [go_sem, z0]
      refine pwp_draw mixed 191 (.step 0 [] (.step 1 [] (.step 2 [] (.step 4 [] (.step 5 [] (.step 6 [] (.step 8 [] (.step 9 [] (.step 10 [] (.step 12 [] (.step 13 [] (.step 14 [] (.step 3 [5, 9, 13] (.step 7 [9, 13] (.step 11 [1, 13] (.step 15 [1, 5] (.step 16 [] (.step 17 [] (.step 18 [] (.step 19 [] (.done))))))))))))))))))))) (by decide +kernel) (by simp) ?_
      have la := hP.la
      have lb := hP.lb
      have lm := hP.lm
      have lw := hP.lw
      simp -dsimp only [go_sem, la, lb, lm, lw, e3]
      refine ⟨⟨by omega, by omega⟩, ⟨by omega, by omega⟩, ⟨by omega, by omega⟩, ⟨by omega, by omega⟩, n - (i + 1), by omega, i + 1, j + 1 + 1, a ++ [x], b ++ [y], m ++ [h0], w ++ [t0], rfl, by omega, hP2, by omega, ?_⟩
      simp [encNs, encN]
    · have hge : i = n := by have := of_decide_eq_false h1; omega
      subst hge
      have la := hP.la
      have lb := hP.lb
      have lm := hP.lm
      have lw := hP.lw
      have wa : ∀ k, k < a.length → wN (a.getD k default) := fun k hk => rightN_wN (hP.pa k (by omega)).1
      have wb : ∀ k, k < b.length → wN (b.getD k default) := fun k hk => rightN_wN (hP.pb k (by omega)).1
      have wm : ∀ k, k < m.length → wN (m.getD k default) := fun k hk => rightN_wN (hP.pm k (by omega)).1
      obtain ⟨u1, u2, u3⟩ := atFd_small (L := 12) (U := 18) hf (by omega) la hn1 hn2 (fun j hj => hP.pa j (by omega)) (by omega)
      obtain ⟨v1, v2, v3⟩ := atFd_small (L := 12) (U := 18) hf (by omega) lb hn1 hn2 (fun j hj => hP.pb j (by omega)) (by omega)
      obtain ⟨q1, q2, q3⟩ := jacF_small hf (by omega) hn1 hn2
      have wq := jacF_wF f wf.1
      simp -dsimp only [go_sem]
      refine pwp_plain [false, false, false, false, false, false, true, true, true, true] (pwp_of_vc ?_)
      simp -dsimp only [go_sem]
      refine (fieldAt_c f a _ wf (by omega) wa).mono ?_
      rintro r st ⟨rfl, rfl⟩
      simp -dsimp only [go_sem]
      refine (fieldAt_c f b _ wf (by omega) wb).mono ?_
      rintro r st ⟨rfl, rfl⟩
      simp -dsimp only [go_sem]
      refine (fieldJac_c f _ wf).mono ?_
      rintro r st ⟨rfl, rfl⟩
      generalize (atFd f a).1 = U at *
      generalize (atFd f b).1 = V at *
      generalize (jacF f).1 = Q at *
      have z0 : ((0 : Int) != 0) = false := rfl
      have zn : ((i : Int) != (i : Int)) = false := by simp
      generalize [dk l j] = st
      simp -dsimp only [go_sem, u1, v1, q1, z0, u2, v2, q2, zn]
      have hz : ∀ j, qN (m.getD j default) * 2 = qN (a.getD j default) + qN (b.getD j default) := fun j => by
        by_cases hj : j < i
        · exact (hP.pm j hj).2.2
        · rw [getD_ge m _ _ (by omega), getD_ge a _ _ (by omega), getD_ge b _ _ (by omega), qN_dflt]; grind
      have hline : ∀ r, r < i → valQ (f.getD r []) (fun j => qN (b.getD j default)) i (f.getD r []).length - valQ (f.getD r []) (fun j => qN (a.getD j default)) i (f.getD r []).length = sumR (fun k => dvalQ (f.getD r []) k (fun j => qN (m.getD j default)) i (f.getD r []).length * (qN (b.getD k default) - qN (a.getD k default))) i := fun r hr =>
        val_line (p := f.getD r []) (n := i) (fun q hq => by
          obtain ⟨a1, a2, a3, a4, a5, a6⟩ := (hf.at (i := r) (by have := hf.1; omega)).at hq
          exact ⟨a1, a2, a3⟩) (fun j => hz j) _ (Nat.le_refl _)
      refine pwp_loop_mask [false, false, false, false, true, false, false, false, true, true, false, false, false, false, false, false, false, false, false, true, false, true, false, true, false, true] 0 0
        (fun c s => ∃ r, c = i - r ∧ r ≤ i ∧ s = ⟨[.junk, .junk, .junk, .junk, .sc (.int .i64 (i : Nat)), .junk, .junk, .junk, .sl .no (encNs m), .sl .no (encNs w), .junk, .junk, .junk, .junk, .junk, .junk, .junk, .junk, .junk, .sl .no (encNs U), .junk, .sl .no (encNs V), .junk, .sl .no (encJs Q), .junk, .sc (.int .i64 (r : Nat))] ++ List.replicate 165 .junk, [], [], st⟩) i ?_ ?_
      · simp -dsimp only [go_sem]
        exact ⟨0, by omega, by omega, rfl⟩
      · rintro c s ⟨r, rfl, hr, rfl⟩
        simp -dsimp only [go_sem]
        refine ck (fun h2 => ?_) (fun h2 => ?_)
        · have hlt : r < i := by have := of_decide_eq_true h2; omega
          have e1 := encJs_get Q r (by omega)
          have e3 := succW r (by omega)
          obtain ⟨k1, k2⟩ := q3 r hlt
          simp -dsimp only [go_sem, e1, k1, zn]
          refine ⟨⟨by omega, by omega⟩, ?_⟩
          refine pwp_plainBox 0 ?_
          simp -dsimp only [go_sem]
          refine pwp_loop_mask [false, false, false, false, true, false, false, false, true, true, false, false, false, false, false, false, false, false, false, true, false, true, false, true, false, true, true, true] 1 0
            (fun c s => ∃ (k : Nat) (t : Vl), c = i - k ∧ k ≤ i ∧ canV t ∧ luQ 128 (220 + k) (qV t) ∧ qV t = sumR (fun k => dvalQ (f.getD r []) k (fun j => qN (m.getD j default)) i (f.getD r []).length * (qN (b.getD k default) - qN (a.getD k default))) k ∧
              s = ⟨[.junk, .junk, .junk, .junk, .sc (.int .i64 (i : Nat)), .junk, .junk, .junk, .sl .no (encNs m), .sl .no (encNs w), .junk, .junk, .junk, .junk, .junk, .junk, .junk, .junk, .junk, .sl .no (encNs U), .junk, .sl .no (encNs V), .junk, .sl .no (encJs Q), .junk, .sc (.int .i64 (r : Nat)), .lp 0 0, .sc (.int .i64 (k : Nat))] ++ List.replicate 163 .junk, [encV t], [], st⟩) i ?_ ?_
          · simp -dsimp only [go_sem]
            exact ⟨0, ⟨false, 0, 0⟩, by omega, by omega, .inr rfl, by rw [qV_m0 rfl]; exact luQ_zero _ _, qV_m0 rfl, by rw [digitsOf_zero, encD_nil]; rfl⟩
          · rintro c s ⟨k, t, rfl, hk, ct, lt, qt, rfl⟩
            simp -dsimp only [go_sem]
            refine ck (fun h3 => ?_) (fun h3 => ?_)
            · have hlk : k < i := by have := of_decide_eq_true h3; omega
              have e2 := encFs_get (Q.getD r []) k (by omega)
              have e4 := succW k (by omega)
              have e5 := encNs_get w k (by omega)
              obtain ⟨p1, p2, p3⟩ := k2 k hlk
              have wp : wP ((Q.getD r []).getD k []) := by
                have hg : wF (Q.getD r []) := by
                  rw [show Q.getD r [] = Q[r] by simp [List.getD_eq_getElem?_getD, (by omega : r < Q.length)]]
                  exact wq.2 _ (List.getElem_mem (by omega))
                exact hg.2 k (by omega)
              obtain ⟨b1, b2, b3, b4⟩ := atP_ok (p := (Q.getD r []).getD k []) (x := m) (Lc := 12) (Uc := 25) (L := 13) (U := 19) (by rw [lm]; exact p1) (fun q hq => (getD_mem' p2 hq).2.2.2.2.2) (fun q hq => ⟨(hP.pm q (by omega)).1, (hP.pm q (by omega)).2.1⟩) (by omega)
              rw [lm, p3] at b3
              obtain ⟨w1, w2, w3⟩ := hP.pw k hlk
              simp -dsimp only [go_sem, e1, e2]
              refine ⟨⟨by omega, by omega⟩, ⟨by omega, by omega⟩, ?_⟩
              refine (polyAt_c ((Q.getD r []).getD k []) m _ wp (by omega) wm).mono ?_
              rintro r2 st ⟨rfl, rfl⟩
              generalize (atP ((Q.getD r []).getD k []) m).1 = y at *
              generalize (atP ((Q.getD r []).getD k []) m).2 = ye at *
              subst b1
              have hqy : qV (byV (ofN y) (ofN (w.getD k default))) = qN y * qN (w.getD k default) := by rw [qV_by, qV_ofN, qV_ofN]
              have cby : canV (byV (ofN y) (ofN (w.getD k default))) := canV_by (canV_ofN b2) (canV_ofN w1)
              have lby : luQ 128 220 (qV (byV (ofN y) (ofN (w.getD k default)))) := by rw [hqy]; exact luQ_mul (b4.mono (L' := 116) (U' := 201) (by omega) (by omega)) w2
              simp -dsimp only [go_sem, e5, z0]
              refine pwp_draw mixed 191 (.step 0 [] (.step 1 [] (.step 3 [] (.step 4 [] (.step 5 [] (.step 6 [] (.step 2 [0, 6] (.step 7 [0] (.step 8 [0] (.step 9 [] (.step 10 [] (.done)))))))))))) (by decide +kernel) (by simp) ?_
              simp -dsimp only [go_sem, e5]
              refine ⟨⟨by omega, by omega⟩, ?_⟩
              refine (of_c y _ (by have := rightN_wN b2; unfold wN at this; omega)).mono ?_
              rintro r2 st ⟨rfl, rfl⟩
              simp -dsimp only [go_sem, e5]
              refine (of_c (w.getD k default) _ (by have := rightN_wN w1; unfold wN at this; omega)).mono ?_
              rintro r2 st ⟨rfl, rfl⟩
              simp -dsimp only [go_sem, e5]
              refine (by_c (ofN y) (ofN (w.getD k default)) _ (smV_lu (canV_ofN b2) (by rw [qV_ofN]; exact b4) (by omega)) (smV_lu (canV_ofN w1) (by rw [qV_ofN]; exact w2) (by omega))).mono ?_
              rintro r2 st ⟨rfl, rfl⟩
              simp -dsimp only [go_sem, e5]
              refine (plus_c t (byV (ofN y) (ofN (w.getD k default))) _ (smV_lu ct lt (by omega)) (smV_lu cby lby (by omega))).mono ?_
              rintro r2 st ⟨rfl, rfl⟩
              simp -dsimp only [go_sem, e5, e4]
              refine ⟨i - (k + 1), by omega, k + 1, plusV t (byV (ofN y) (ofN (w.getD k default))), rfl, by omega, canV_plus ct cby, by rw [qV_plus]; exact luQ_add (U := 220 + k) lt (lby.up (by omega)), ?_, rfl⟩
              rw [qV_plus, hqy, qt, b3, w3]; rfl
            · have hge : k = i := by have := of_decide_eq_false h3; omega
              subst hge
              have e5 := encNs_get V r (by omega)
              have e6 := encNs_get U r (by omega)
              obtain ⟨v4, v5, v6⟩ := v3 r hlt
              obtain ⟨u4, u5, u6⟩ := u3 r hlt
              have hless : qV (lessV (ofN (V.getD r default)) (ofN (U.getD r default))) = qV t := by
                rw [qV_less, qV_ofN, qV_ofN, v5, u5, qt]; exact hline r hlt
              have cl : canV (lessV (ofN (V.getD r default)) (ofN (U.getD r default))) := canV_less (canV_ofN v4) (canV_ofN u4)
              have ll : luQ 128 (220 + k) (qV (lessV (ofN (V.getD r default)) (ofN (U.getD r default)))) := by rw [hless]; exact lt
              have hord := orderV_same hless
              simp -dsimp only [go_sem]
              refine pwp_of_vc ?_
              simp -dsimp only [go_sem]
              refine pwp_draw mixed 191 (.step 0 [] (.step 1 [] (.step 2 [] (.step 3 [] (.step 5 [] (.step 6 [] (.step 7 [] (.step 8 [] (.step 11 [] (.step 4 [8, 11] (.step 9 [11] (.step 10 [11] (.step 12 [] (.step 13 [] (.done))))))))))))))) (by decide +kernel) (by simp) ?_
              simp -dsimp only [go_sem, e5, e6]
              refine ⟨⟨by omega, by omega⟩, ⟨by omega, by omega⟩, ?_⟩
              refine (of_c (V.getD r default) _ (by have := rightN_wN v4; unfold wN at this; omega)).mono ?_
              rintro r2 st ⟨rfl, rfl⟩
              simp -dsimp only [go_sem, e5, e6]
              refine (of_c (U.getD r default) _ (by have := rightN_wN u4; unfold wN at this; omega)).mono ?_
              rintro r2 st ⟨rfl, rfl⟩
              simp -dsimp only [go_sem, e5, e6]
              refine (less_c (ofN (V.getD r default)) (ofN (U.getD r default)) _ (smV_lu (canV_ofN v4) (by rw [qV_ofN]; exact v6) (by omega)) (smV_lu (canV_ofN u4) (by rw [qV_ofN]; exact u6) (by omega))).mono ?_
              rintro r2 st ⟨rfl, rfl⟩
              simp -dsimp only [go_sem, e5, e6]
              refine (order_c (lessV (ofN (V.getD r default)) (ofN (U.getD r default))) t _ (smV_lu cl ll (by omega)) (smV_lu ct lt (by omega))).mono ?_
              rintro r2 st ⟨rfl, rfl⟩
              rw [hord]
              simp -dsimp only [go_sem, z0, e3]
              refine pwp_of_vc ?_
              simp -dsimp only [go_sem, z0, e3]
              exact ⟨k - (r + 1), by omega, r + 1, rfl, by omega, rfl⟩
        · simp -dsimp only [go_sem]
          refine pwp_of_vc ?_
          simp -dsimp only [go_sem]
end Go.Pv
end
