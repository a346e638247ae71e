/- Parts of the walk: M59, M52, M53, M54. -/
import Derived.Test.YthllcnigcnoghaaGreatDoorZBA
import Derived.Test.YthllcnigcnoghaaGreatDoorZBM
import Derived.Test.YthllcnigcnoghaaGreatDoorZL
import Derived.Test.YthllcnigcnoghaaGreatDoorZBR
import Derived.Test.YthllcnigcnoghaaGreatDoorZBN
set_option linter.unusedVariables false
set_option linter.unusedSimpArgs false
section
/- Numbers by powers of two; times. No program in it. -/
namespace Go.Pv
theorem scaleN_val {x : Nm} {k : Nat} (h : (scaleN x (-(k : Int))).2 = 0) : rightN x = true ∧ qN (scaleN x (-(k : Int))).1 * p2 k = qN x := by
  unfold scaleN at h ⊢
  split at h
  · rename_i hr
    rw [if_pos hr]
    refine ⟨hr, ?_⟩
    split at h
    · rename_i hw
      rw [if_pos hw]
      have h0 : qN x = 0 := qN_nil (by rw [hw]; rfl)
      show qN x * p2 k = qN x
      rw [h0, Rat.zero_mul]
    · rename_i hw
      rw [if_neg hw]
      split at h
      · exact absurd h (by decide)
      · rename_i hk
        rw [if_neg hk]
        have hc : canV (⟨x.neg, valW x.w, x.exp + -(k : Int)⟩ : Vl) := by
          rcases canV_ofN hr with h1 | h1
          · exact .inl h1
          · exact absurd ((zero_of_right hr).1 (show valW x.w = 0 from congrArg Vl.m h1)) hw
        rw [(numV_val hc h).2]
        unfold qV qN qM
        show ((mantV ⟨x.neg, valW x.w, x.exp + -(k : Int)⟩ : Int) : Rat) * p2 (x.exp + -(k : Int)) * p2 k = ((mant x : Int) : Rat) * p2 x.exp
        rw [Rat.mul_assoc, ← p2_add]
        congr 2
        omega
  · exact absurd h (by decide)
theorem scaleN_lu {x : Nm} {L U k : Nat} (hx : rightN x = true) (h : luQ L U (qN x)) (hk : k ≤ 1000) (hb : L + U + k + 1 ≤ 4096) : (scaleN x (-(k : Int))).2 = 0 ∧ luQ (L + k) U (qN (scaleN x (-(k : Int))).1) := by
  have key : ∀ y : Rat, y * p2 k = qN x → luQ (L + k) U y := fun y hy => by
    obtain ⟨z, h1, h2⟩ := h
    refine ⟨z, ?_, Nat.le_trans h2 (Nat.pow_le_pow_right (by decide) (by omega))⟩
    have hne := p2_ne k
    have e : qM z (-((L + k : Nat) : Int)) * p2 k = qM z (-(L : Int)) := by
      unfold qM
      rw [Rat.mul_assoc, ← p2_add]
      congr 2
      omega
    rw [h1, ← e] at hy
    have := congrArg (fun t => t * (p2 k)⁻¹) hy
    simp only [Rat.mul_assoc, Rat.mul_inv_cancel _ hne, Rat.mul_one] at this
    exact this
  have h0 : (scaleN x (-(k : Int))).2 = 0 := by
    unfold scaleN
    rw [if_pos hx]
    split
    · rfl
    · rename_i hw
      rw [if_neg (by omega)]
      have hc : canV (⟨x.neg, valW x.w, x.exp + -(k : Int)⟩ : Vl) := by
        rcases canV_ofN hx with h1 | h1
        · exact .inl h1
        · exact absurd ((zero_of_right hx).1 (show valW x.w = 0 from congrArg Vl.m h1)) hw
      refine luV_fits hc (key _ ?_) (by omega)
      unfold qV qN qM
      show ((mantV ⟨x.neg, valW x.w, x.exp + -(k : Int)⟩ : Int) : Rat) * p2 (x.exp + -(k : Int)) * p2 k = ((mant x : Int) : Rat) * p2 x.exp
      rw [Rat.mul_assoc, ← p2_add]
      congr 2
      omega
  exact ⟨h0, key _ (scaleN_val h0).2⟩
end Go.Pv
end

section
/- Boxes taken apart and put together; where solutions go. No program in it. -/
namespace Go.Pv
theorem opB_get {k : Nat} {a b : List Ivl} {p : Int} (h : (opB k a b p).2 = 0) : (rightB a = true ∧ rightB b = true ∧ a.length = b.length ∧ precF p = true) ∧ (opB k a b p).1.length = a.length ∧
    (∀ j, j < a.length → (opI k (a.getD j default) (b.getD j default) p).2 = 0) ∧ ∀ j, j < a.length → (opB k a b p).1.getD j default = (opI k (a.getD j default) (b.getD j default) p).1 := by
  unfold opB at h ⊢
  by_cases c : rightB a = true ∧ rightB b = true ∧ a.length = b.length ∧ precF p = true
  · rw [if_pos c, eachF_tab0] at h
    rw [if_pos c, eachF_tab0]
    exact ⟨c, tabF_get h⟩
  · rw [if_neg c] at h; exact absurd h (by decide)
theorem opB_all {k : Nat} {a b : List Ivl} {p : Int} (c : rightB a = true ∧ rightB b = true ∧ a.length = b.length ∧ precF p = true) (h : ∀ j, j < a.length → (opI k (a.getD j default) (b.getD j default) p).2 = 0) : (opB k a b p).2 = 0 := by
  unfold opB
  rw [if_pos c, eachF_tab0]
  exact tabF_all _ _ _ fun j _ hj => h j (by omega)
theorem timesB_get {x : Ivl} {b : List Ivl} {p : Int} (h : (timesB x b p).2 = 0) : (rightB b = true ∧ rightI x = true ∧ precF p = true) ∧ (timesB x b p).1.length = b.length ∧
    (∀ j, j < b.length → (opI 2 x (b.getD j default) p).2 = 0) ∧ ∀ j, j < b.length → (timesB x b p).1.getD j default = (opI 2 x (b.getD j default) p).1 := by
  unfold timesB at h ⊢
  by_cases c : rightB b = true ∧ rightI x = true ∧ precF p = true
  · rw [if_pos c, eachF_tab0] at h
    rw [if_pos c, eachF_tab0]
    exact ⟨c, tabF_get h⟩
  · rw [if_neg c] at h; exact absurd h (by decide)
theorem timesB_all {x : Ivl} {b : List Ivl} {p : Int} (c : rightB b = true ∧ rightI x = true ∧ precF p = true) (h : ∀ j, j < b.length → (opI 2 x (b.getD j default) p).2 = 0) : (timesB x b p).2 = 0 := by
  unfold timesB
  rw [if_pos c, eachF_tab0]
  exact tabF_all _ _ _ fun j _ hj => h j (by omega)
theorem blowB_get {b : List Ivl} {p : Int} (h : (blowB b p).2 = 0) : (rightB b = true ∧ precF p = true) ∧ (blowB b p).1.length = b.length ∧
    (∀ j, j < b.length → (blowI (b.getD j default) p).2 = 0) ∧ ∀ j, j < b.length → (blowB b p).1.getD j default = (blowI (b.getD j default) p).1 := by
  unfold blowB at h ⊢
  by_cases c : rightB b = true ∧ precF p = true
  · rw [if_pos c, eachF_tab0] at h
    rw [if_pos c, eachF_tab0]
    exact ⟨c, tabF_get h⟩
  · rw [if_neg c] at h; exact absurd h (by decide)
theorem blowB_all {b : List Ivl} {p : Int} (c : rightB b = true ∧ precF p = true) (h : ∀ j, j < b.length → (blowI (b.getD j default) p).2 = 0) : (blowB b p).2 = 0 := by
  unfold blowB
  rw [if_pos c, eachF_tab0]
  exact tabF_all _ _ _ fun j _ hj => h j (by omega)
theorem hullB_all {a b : List Ivl} (ha : rightB a = true) (hb : rightB b = true) (hl : a.length = b.length) : (hullB a b).2 = 0 ∧ (hullB a b).1.length = a.length ∧
    ∀ j, j < a.length → (hullB a b).1.getD j default = ⟨leastN (a.getD j default).lo (b.getD j default).lo, greatN (a.getD j default).hi (b.getD j default).hi⟩ := by
  have hI : ∀ j, j < a.length → hullI (a.getD j default) (b.getD j default) = (⟨leastN (a.getD j default).lo (b.getD j default).lo, greatN (a.getD j default).hi (b.getD j default).hi⟩, 0) := fun j hj => hullI_ok (rightB_at ha hj) (rightB_at hb (by omega))
  unfold hullB
  rw [if_pos ⟨ha, hb, hl⟩, eachF_tab0]
  have h0 : (tabF (fun j => hullI (a.getD j default) (b.getD j default)) 0 a.length []).2 = 0 := tabF_all _ _ _ fun j _ hj => by show (hullI (a.getD j default) (b.getD j default)).2 = 0; rw [hI j (by omega)]
  obtain ⟨g1, g2, g3⟩ := tabF_get h0
  refine ⟨h0, g1, fun j hj => ?_⟩
  rw [g3 j hj]
  show (hullI (a.getD j default) (b.getD j default)).1 = _
  rw [hI j hj]
theorem least_q (a b : Nm) : (qN (leastN a b) = qN a ∨ qN (leastN a b) = qN b) ∧ qN (leastN a b) ≤ qN a ∧ qN (leastN a b) ≤ qN b := by
  unfold leastN
  split
  · rename_i h
    have := cmpN_lt.1 h
    exact ⟨.inr rfl, by grind, Rat.le_refl⟩
  · rename_i h
    have h2 : ¬ qN b < qN a := fun e => h (cmpN_lt.2 e)
    exact ⟨.inl rfl, Rat.le_refl, by grind⟩
theorem great_q (a b : Nm) : (qN (greatN a b) = qN a ∨ qN (greatN a b) = qN b) ∧ qN a ≤ qN (greatN a b) ∧ qN b ≤ qN (greatN a b) := by
  unfold greatN
  split
  · rename_i h
    have := cmpN_gt.1 h
    exact ⟨.inr rfl, by grind, Rat.le_refl⟩
  · rename_i h
    have h2 : ¬ qN a < qN b := fun e => h (cmpN_gt.2 e)
    exact ⟨.inl rfl, Rat.le_refl, by grind⟩
theorem inB_sub {a b : List Ivl} : inB a b = true ↔ rightB a = true ∧ rightB b = true ∧ a.length = b.length ∧ ∀ j, j < a.length → subI (a.getD j default) (b.getD j default) := by
  unfold inB allF
  simp only [Bool.and_eq_true, decide_eq_true_eq, List.all_eq_true, List.mem_range]
  constructor
  · rintro ⟨⟨ha, hb⟩, hl, hj⟩
    exact ⟨ha, hb, hl, fun j h => (inI_sub (rightB_at ha h) (rightB_at hb (by omega))).1 (hj j h)⟩
  · rintro ⟨ha, hb, hl, hj⟩
    exact ⟨⟨ha, hb⟩, hl, fun j h => (inI_sub (rightB_at ha h) (rightB_at hb (by omega))).2 (hj j h)⟩
theorem sgn_ownQ {h : Nm} (hr : rightN h = true) : (¬ sgnN (ownN h) ≤ 0) ↔ 0 < qN h := by
  unfold ownN
  rw [if_pos hr, ← sgnN_gt]; omega
theorem time_right {h : Nm} (hr : rightN h = true) (h0 : 0 < qN h) : rightI ⟨default, h⟩ = true := rightI_mk rightN_dflt hr (cmpN_le.2 (by rw [qN_dflt]; grind))
structure NextOK (f : List (List Mn)) (x a : List Ivl) (h : Nm) (p : Int) : Prop where
  rf : rightF f = true
  rx : rightB x = true
  ra : rightB a = true
  lx : x.length = f.length
  la : a.length = f.length
  rh : rightN h = true
  ph : 0 < qN h
  pp : precF p = true
  e1 : (rangeFd f a p).2 = 0
  e2 : (timesB ⟨default, h⟩ (rangeFd f a p).1 p).2 = 0
  e3 : (opB 0 x (timesB ⟨default, h⟩ (rangeFd f a p).1 p).1 p).2 = 0
theorem nextP_iff {f : List (List Mn)} {x a : List Ivl} {h : Nm} {p : Int} : (nextP f x a h p).2 = 0 ↔ NextOK f x a h p := by
  constructor
  · intro e
    unfold nextP at e
    split at e
    · rename_i c
      obtain ⟨c1, c2, c3, c4, c5, c6, c7, c8⟩ := c
      split at e
      · rename_i d1
        split at e
        · rename_i d2
          exact ⟨c1, c2, c3, c4, c5, c6, (sgn_ownQ c6).1 c7, c8, d1, d2, e⟩
        · rename_i d2; exact absurd e d2
      · rename_i d1; exact absurd e d1
    · exact absurd e (by decide)
  · rintro ⟨c1, c2, c3, c4, c5, c6, c7, c8, d1, d2, e⟩
    unfold nextP
    rw [if_pos ⟨c1, c2, c3, c4, c5, c6, (sgn_ownQ c6).2 c7, c8⟩, if_pos d1, if_pos d2]
    exact e
theorem NextOK.val {f : List (List Mn)} {x a : List Ivl} {h : Nm} {p : Int} (n : NextOK f x a h p) : (nextP f x a h p).1 = (opB 0 x (timesB ⟨default, h⟩ (rangeFd f a p).1 p).1 p).1 := by
  unfold nextP
  rw [if_pos ⟨n.rf, n.rx, n.ra, n.lx, n.la, n.rh, (sgn_ownQ n.rh).2 n.ph, n.pp⟩, if_pos n.e1, if_pos n.e2]
theorem rangeFd_get {f : List (List Mn)} {a : List Ivl} {p : Int} (h : (rangeFd f a p).2 = 0) : (rightF f = true ∧ a.length = f.length) ∧ (rangeFd f a p).1.length = f.length ∧ ∀ j, j < f.length → (rangeFd f a p).1.getD j default = (rangeF (f.getD j []) a p (f.getD j []).length).1 ∧ (rangeF (f.getD j []) a p (f.getD j []).length).2 = 0 := by
  unfold rangeFd at h ⊢
  by_cases c : rightF f = true ∧ a.length = f.length
  · rw [if_pos c] at h ⊢
    obtain ⟨g1, g2, g3⟩ := tabF_get h
    refine ⟨c, g1, fun j hj => ?_⟩
    have e := g2 j hj
    rw [g3 j hj]
    show (rangeP (f.getD j []) a p).1 = _ ∧ _
    replace e : (rangeP (f.getD j []) a p).2 = 0 := e
    unfold rangeP at e ⊢
    split at e
    · rename_i d; rw [if_pos d]; exact ⟨rfl, e⟩
    · exact absurd e (by decide)
  · rw [if_neg c] at h; exact absurd h (by decide)
structure NextAt (f : List (List Mn)) (x a : List Ivl) (h : Nm) (p : Int) (j : Nat) : Prop where
  r0 : (rangeF (f.getD j []) a p (f.getD j []).length).2 = 0
  t0 : (opI 2 ⟨default, h⟩ (rangeF (f.getD j []) a p (f.getD j []).length).1 p).2 = 0
  s0 : (opI 0 (x.getD j default) (opI 2 ⟨default, h⟩ (rangeF (f.getD j []) a p (f.getD j []).length).1 p).1 p).2 = 0
  val : (nextP f x a h p).1.getD j default = (opI 0 (x.getD j default) (opI 2 ⟨default, h⟩ (rangeF (f.getD j []) a p (f.getD j []).length).1 p).1 p).1
theorem NextOK.len {f : List (List Mn)} {x a : List Ivl} {h : Nm} {p : Int} (n : NextOK f x a h p) : (nextP f x a h p).1.length = f.length := by
  rw [n.val, (opB_get n.e3).2.1, n.lx]
theorem NextOK.at {f : List (List Mn)} {x a : List Ivl} {h : Nm} {p : Int} (n : NextOK f x a h p) {j : Nat} (hj : j < f.length) : NextAt f x a h p j := by
  obtain ⟨_, r1, r2⟩ := rangeFd_get n.e1
  obtain ⟨r3, r4⟩ := r2 j hj
  obtain ⟨_, t1, t2, t3⟩ := timesB_get n.e2
  obtain ⟨_, s1, s2, s3⟩ := opB_get n.e3
  have t2 := t2 j (by omega)
  have t3 := t3 j (by omega)
  have s2 := s2 j (by rw [n.lx]; exact hj)
  have s3 := s3 j (by rw [n.lx]; exact hj)
  rw [r3] at t2 t3
  rw [t3] at s2 s3
  exact ⟨r4, t2, s2, by rw [n.val]; exact s3⟩
theorem opB_rightB {k : Nat} {a b : List Ivl} {p : Int} (h : (opB k a b p).2 = 0) : rightB (opB k a b p).1 = true := by
  obtain ⟨c, l, _, v⟩ := opB_get h
  have := rightB_len c.1
  exact rightB_mk (fun j hj => by rw [v j (by omega)]; exact opI_right _ _ _ _) (by omega) (by omega)
theorem NextOK.rightB {f : List (List Mn)} {x a : List Ivl} {h : Nm} {p : Int} (n : NextOK f x a h p) : Go.Pv.rightB (nextP f x a h p).1 = true := by
  rw [n.val]; exact opB_rightB n.e3
theorem nextP_mk {f : List (List Mn)} {x a : List Ivl} {h : Nm} {p : Int} (rf : rightF f = true) (rx : rightB x = true) (ra : rightB a = true) (lx : x.length = f.length) (la : a.length = f.length) (rh : rightN h = true) (ph : 0 < qN h) (pp : precF p = true) (e1 : (rangeFd f a p).2 = 0)
    (h2 : ∀ j, j < f.length → (opI 2 ⟨default, h⟩ (rangeF (f.getD j []) a p (f.getD j []).length).1 p).2 = 0)
    (h3 : ∀ j, j < f.length → (opI 0 (x.getD j default) (opI 2 ⟨default, h⟩ (rangeF (f.getD j []) a p (f.getD j []).length).1 p).1 p).2 = 0) : NextOK f x a h p := by
  obtain ⟨_, r1, r2⟩ := rangeFd_get e1
  have hx := rightB_len rx
  have rr : rightB (rangeFd f a p).1 = true := rightB_mk (fun j hj => by
    obtain ⟨q1, q2⟩ := r2 j (by omega)
    have := h2 j (by omega)
    rw [q1]; exact (opI_need this).2.1) (by omega) (by omega)
  have e2 : (timesB ⟨default, h⟩ (rangeFd f a p).1 p).2 = 0 := timesB_all ⟨rr, time_right rh ph, pp⟩ fun j hj => by
    rw [(r2 j (by omega)).1]; exact h2 j (by omega)
  obtain ⟨_, t1, t2, t3⟩ := timesB_get e2
  have rt : rightB (timesB ⟨default, h⟩ (rangeFd f a p).1 p).1 = true := rightB_mk (fun j hj => by
    rw [t3 j (by omega)]; exact opI_right _ _ _ _) (by omega) (by omega)
  refine ⟨rf, rx, ra, lx, la, rh, ph, pp, e1, e2, opB_all ⟨rx, rt, by omega, pp⟩ fun j hj => ?_⟩
  rw [t3 j (by omega), (r2 j (by omega)).1]
  exact h3 j (by omega)
theorem blowI_get {a : Ivl} {p : Int} (h : (blowI a p).2 = 0) : (wideI a p).2 = 0 ∧ (scaleN (wideI a p).1 (-2)).2 = 0 ∧ (reckN 1 a.lo (scaleN (wideI a p).1 (-2)).1 p false).2 = 0 ∧ (reckN 0 a.hi (scaleN (wideI a p).1 (-2)).1 p true).2 = 0 ∧
    (blowI a p).1 = ⟨(reckN 1 a.lo (scaleN (wideI a p).1 (-2)).1 p false).1, (reckN 0 a.hi (scaleN (wideI a p).1 (-2)).1 p true).1⟩ := by
  unfold blowI at h ⊢
  split at h
  · rename_i c; exact absurd h c
  · rename_i c
    split at h
    · rename_i d; exact absurd h d
    · rename_i d
      split at h
      · exact absurd h (by decide)
      · rename_i e
        rw [if_neg c, if_neg d, if_neg e]
        have e1 : ¬ (reckN 1 a.lo (scaleN (wideI a p).1 (-2)).1 p false).2 ≠ 0 := fun q => e (.inl q)
        have e2 : ¬ (reckN 0 a.hi (scaleN (wideI a p).1 (-2)).1 p true).2 ≠ 0 := fun q => e (.inr q)
        exact ⟨Classical.not_not.1 c, Classical.not_not.1 d, Classical.not_not.1 e1, Classical.not_not.1 e2, rfl⟩
theorem blowI_mk {a : Ivl} {p : Int} (h1 : (wideI a p).2 = 0) (h2 : (scaleN (wideI a p).1 (-2)).2 = 0) (h3 : (reckN 1 a.lo (scaleN (wideI a p).1 (-2)).1 p false).2 = 0) (h4 : (reckN 0 a.hi (scaleN (wideI a p).1 (-2)).1 p true).2 = 0) : (blowI a p).2 = 0 := by
  unfold blowI
  rw [if_neg (by rw [h1]; decide), if_neg (by rw [h2]; decide), if_neg (by rw [h3, h4]; decide)]
theorem reckN_need {k : Nat} {a b : Nm} {p : Int} {up : Bool} (h : (reckN k a b p up).2 = 0) : rightN a = true ∧ rightN b = true ∧ precF p = true := by
  unfold reckN at h
  split at h
  · assumption
  · exact absurd h (by decide)
theorem reckN_val {k : Nat} {a b : Nm} {p : Int} {up : Bool} (h : (reckN k a b p up).2 = 0) : qN (reckN k a b p up).1 = qV (roundV (exV k (ofN a) (ofN b)) p.toNat up) := by
  have c := reckN_need h
  unfold reckN at h ⊢
  rw [if_pos c] at h ⊢
  exact (numV_val (canV_round (canV_ex k (canV_ofN c.1) (canV_ofN c.2.1)) _ _) h).2
theorem wideI_need {a : Ivl} {p : Int} (h : (wideI a p).2 = 0) : rightI a = true ∧ precF p = true := by
  unfold wideI at h
  split at h
  · assumption
  · exact absurd h (by decide)
theorem wideI_val {a : Ivl} {p : Int} (h : (wideI a p).2 = 0) : qN (wideI a p).1 = qV (roundV (lessV (ofN a.hi) (ofN a.lo)) p.toNat true) := by
  have c := wideI_need h
  have hc := canI c.1
  unfold wideI at h ⊢
  rw [if_pos c] at h ⊢
  exact (numV_val (canV_round (canV_less hc.2 hc.1) _ _) h).2
end Go.Pv
end

section
/- How great what is reckoned gets: at most a power of two, which rounding does not pass. No program in it. -/
namespace Go.Pv
theorem p2_qM (e : Int) : p2 e = qM 1 e := by simp [qM]
theorem p2_mono {a b : Int} (h : a ≤ b) : p2 a ≤ p2 b := by
  rw [p2_qM, p2_qM, show b = a + ((b - a).toNat : Int) from by omega, ← qM_pow, qM_le]
  have : 0 < (2 : Int) ^ (b - a).toNat := Int.pow_pos (by decide)
  omega
theorem p2_succ (a : Int) : p2 (a + 1) = p2 a * 2 := by
  rw [p2_add]; congr 1
def magQ (e : Int) (x : Rat) : Prop := -(p2 e) ≤ x ∧ x ≤ p2 e
theorem magQ_zero (e : Int) : magQ e 0 := by
  have := p2_pos e
  exact ⟨by grind, by grind⟩
theorem magQ.up {e g : Int} {x : Rat} (h : magQ e x) (he : e ≤ g) : magQ g x := by
  have := p2_mono he
  exact ⟨by have := h.1; grind, by have := h.2; grind⟩
theorem magQ_neg {e : Int} {x : Rat} (h : magQ e x) : magQ e (-x) := ⟨by have := h.2; grind, by have := h.1; grind⟩
theorem magQ_add {e : Int} {x y : Rat} (h : magQ e x) (g : magQ e y) : magQ (e + 1) (x + y) := by
  obtain ⟨a, b⟩ := h
  obtain ⟨c, d⟩ := g
  refine ⟨?_, ?_⟩
  · rw [p2_succ]; grind
  · rw [p2_succ]; grind
theorem magQ_mul {e g : Int} {x y : Rat} (h : magQ e x) (k : magQ g y) : magQ (e + g) (x * y) := by
  obtain ⟨a, b⟩ := h
  obtain ⟨c, d⟩ := k
  have q1 := mulq_nn (a := p2 e - x) (b := p2 g + y) (by grind) (by grind)
  have q2 := mulq_nn (a := p2 e + x) (b := p2 g - y) (by grind) (by grind)
  have q3 := mulq_nn (a := p2 e - x) (b := p2 g - y) (by grind) (by grind)
  have q4 := mulq_nn (a := p2 e + x) (b := p2 g + y) (by grind) (by grind)
  unfold magQ
  rw [p2_add]
  exact ⟨by grind, by grind⟩
theorem magQ_pow {e : Int} {x : Rat} (h : magQ e x) : ∀ k : Nat, magQ (e * k) (powQ x k)
  | 0 => by
    show magQ (e * ((0 : Nat) : Int)) 1
    rw [Int.natCast_zero, Int.mul_zero]
    unfold magQ
    rw [p2_zero]
    exact ⟨by decide, Rat.le_refl⟩
  | k + 1 => by
    show magQ _ (powQ x k * x)
    rw [show e * ((k + 1 : Nat) : Int) = e * k + e from by rw [Int.natCast_add, Int.mul_add]; omega]
    exact magQ_mul (magQ_pow h k) h
theorem lu_mag {L U : Nat} {x : Rat} (h : luQ L U x) : magQ U x := by
  obtain ⟨z, rfl, hz⟩ := h
  have e : p2 (U : Int) = qM (2 ^ (L + U)) (-(L : Int)) := by
    rw [p2_qM, show (U : Int) = -(L : Int) + ((L + U : Nat) : Int) from by omega, ← qM_pow, Int.one_mul]
  have hz2 : (z.natAbs : Int) ≤ 2 ^ (L + U) := by
    have : ((2 ^ (L + U) : Nat) : Int) = 2 ^ (L + U) := by simp
    rw [← this]; exact_mod_cast hz
  unfold magQ
  rw [e, ← qM_neg, qM_le, qM_le]
  omega
theorem fits_p2n (p : Nat) (e : Int) : fitsQ p (-(p2 e)) := ⟨-1, e, by rw [p2_qM, qM_neg], Nat.one_le_two_pow⟩
theorem mag_round {e : Int} {v : Vl} {p : Nat} (hp : 1 ≤ p) (h : magQ e (qV v)) (up : Bool) : magQ e (qV (roundV v p up)) := by
  have dn : ∀ w : Vl, magQ e (qV w) → magQ e (qV (roundV w p false)) := fun w hw => ⟨round_most hp (fits_p2n p e) hw.1, Rat.le_trans (roundV_le w p) hw.2⟩
  cases up with
  | false => exact dn v h
  | true =>
    rw [round_turn]
    refine magQ_neg (dn _ ?_)
    rw [qV_turn]; exact magQ_neg h
def ampI (e : Int) (a : Ivl) : Prop := magQ e (qN a.lo) ∧ magQ e (qN a.hi)
theorem ampI.up {e g : Int} {a : Ivl} (h : ampI e a) (he : e ≤ g) : ampI g a := ⟨h.1.up he, h.2.up he⟩
theorem ampI_mem {e : Int} {a : Ivl} (h : ampI e a) {X : Rat} (hX : memI X a) : magQ e X := ⟨Rat.le_trans h.1.1 hX.1, Rat.le_trans hX.2 h.2.2⟩
theorem luI_mag {L U : Nat} {a : Ivl} (h : luI L U a) : ampI U a := ⟨lu_mag h.2.1, lu_mag h.2.2⟩
theorem opI_mag {k : Nat} {a b : Ivl} {p : Int} {g : Int} (h : (opI k a b p).2 = 0) (hx : ∀ X U, memI X a → memI U b → magQ g (exQ k X U)) : ampI g (opI k a b p).1 := by
  have r := opI_need h
  obtain ⟨e1, e2⟩ := opI_ends h
  have pp := precF_pos r.2.2
  obtain ⟨X, U, x1, x2, x3⟩ := lo_at k r.1 r.2.1
  obtain ⟨Y, V, y1, y2, y3⟩ := hi_at k r.1 r.2.1
  refine ⟨?_, ?_⟩
  · rw [e1]; exact mag_round pp (by rw [x3]; exact hx X U x1 x2) _
  · rw [e2]; exact mag_round pp (by rw [y3]; exact hx Y V y1 y2) _
theorem opI_mag2 {a b : Ivl} {p : Int} {e g : Int} (h : (opI 2 a b p).2 = 0) (ha : ampI e a) (hb : ampI g b) : ampI (e + g) (opI 2 a b p).1 :=
  opI_mag h fun X U hX hU => by rw [exQ2]; exact magQ_mul (ampI_mem ha hX) (ampI_mem hb hU)
theorem opI_mag0 {a b : Ivl} {p : Int} {e : Int} (h : (opI 0 a b p).2 = 0) (ha : ampI e a) (hb : ampI e b) : ampI (e + 1) (opI 0 a b p).1 :=
  opI_mag h fun X U hX hU => by rw [exQ0]; exact magQ_add (ampI_mem ha hX) (ampI_mem hb hU)
theorem powI_mag {a : Ivl} {k p : Int} {e : Int} (h : (powI a k p).2 = 0) (ha : ampI e a) : ampI (e * k.toNat) (powI a k p).1 := by
  have r := powI_need h
  obtain ⟨e1, e2⟩ := powI_ends h
  have pp := precF_pos r.2.2.2
  obtain ⟨X, x1, x3⟩ := powLo_at r.1 k.toNat
  obtain ⟨Y, y1, y3⟩ := powHi_at r.1 k.toNat
  refine ⟨?_, ?_⟩
  · rw [e1]; exact mag_round pp (by rw [x3]; exact magQ_pow (ampI_mem ha x1) _) _
  · rw [e2]; exact mag_round pp (by rw [y3]; exact magQ_pow (ampI_mem ha y1) _) _
theorem overF_mag {m : Mn} {b : List Ivl} {p : Int} {c e : Int} (hc : magQ c (qN m.c)) (hk : rightK m.ks = true) : ∀ i, i ≤ m.ks.length → (∀ j, j < i → ampI e (b.getD j default)) → (overF m b p i).2 = 0 → ampI (c + e * sumK m.ks i) (overF m b p i).1
  | 0, _, _, _ => by
    have : sumK m.ks 0 = 0 := rfl
    rw [this, Int.natCast_zero, Int.mul_zero, Int.add_zero]
    exact ⟨hc, hc⟩
  | i + 1, hi, hb, h => by
    have ih := overF_mag (e := e) hc hk i (by omega) (fun j hj => hb j (by omega)) (overF_prev h)
    have hs := rightK_pre hk (i + 1) hi
    have hs0 := rightK_pre hk i (by omega)
    have hat := rightK_at hk i (by omega)
    have hst := sum_take m.ks i (by omega)
    have hsum : sumK m.ks (i + 1) = sumK m.ks i + (m.ks.getD i 0).toNat := by unfold sumK; omega
    rcases overF_step h with ⟨d, q⟩ | ⟨d, d2, q⟩
    · rw [q, hsum, d]; exact ih
    · rw [q] at h ⊢
      have := opI_mag2 h ih (powI_mag d2 (hb i (by omega)))
      rw [hsum, Int.natCast_add, Int.mul_add, ← Int.add_assoc]
      exact this
theorem rangeF_mag {q : List Mn} {b : List Ivl} {p : Int} {g : Int} : ∀ i, (∀ j, j < i → (overF (q.getD j default) b p b.length).2 = 0 → ampI g (overF (q.getD j default) b p b.length).1) → (rangeF q b p i).2 = 0 → ampI (g + i) (rangeF q b p i).1
  | 0, _, _ => by
    have e : qN (default : Ivl).lo = 0 := qM_zero 0
    have e2 : qN (default : Ivl).hi = 0 := qM_zero 0
    exact ⟨by show magQ _ (qN (default : Ivl).lo); rw [e]; exact magQ_zero _, by show magQ _ (qN (default : Ivl).hi); rw [e2]; exact magQ_zero _⟩
  | i + 1, hj, h => by
    obtain ⟨c1, c2, e⟩ := rangeF_prev h
    have ih := rangeF_mag i (fun j hjl => hj j (by omega)) c1
    rw [e] at h ⊢
    have := opI_mag0 h ih ((hj i (by omega) c2).up (by omega))
    rw [show g + ((i + 1 : Nat) : Int) = g + i + 1 from by omega]
    exact this
theorem blowI_ends {a : Ivl} {p : Int} (h : (blowI a p).2 = 0) : ∃ s : Rat, qN a.hi - qN a.lo ≤ s * 4 ∧ 0 ≤ s ∧
    (∃ v : Vl, canV v ∧ qV v = qN a.lo - s ∧ qN (blowI a p).1.lo = qV (roundV v p.toNat false)) ∧ (∃ v : Vl, canV v ∧ qV v = qN a.hi + s ∧ qN (blowI a p).1.hi = qV (roundV v p.toNat true)) ∧ ∃ w : Vl, canV w ∧ qV w = qN a.hi - qN a.lo ∧ s * 4 = qV (roundV w p.toNat true) := by
  obtain ⟨w0, s0, l0, h0, e⟩ := blowI_get h
  have hw := wideI_val w0
  obtain ⟨wn, pp⟩ := wideI_need w0
  have hs := (scaleN_val (x := (wideI a p).1) (k := 2) s0).2
  have hr := reckN_need l0
  have hr2 := reckN_need h0
  rw [show p2 ((2 : Nat) : Int) = 4 from p2_two] at hs
  rw [show -((2 : Nat) : Int) = -2 from rfl] at hs
  have hge := roundV_ge (lessV (ofN a.hi) (ofN a.lo)) p.toNat
  rw [← hw, qV_less, qV_ofN, qV_ofN] at hge
  have hle := qI_le wn
  rw [qV_ofN, qV_ofN] at hle
  have ca := canI wn
  refine ⟨qN (scaleN (wideI a p).1 (-2)).1, by rw [hs]; exact hge, by grind, ⟨exV 1 (ofN a.lo) (ofN (scaleN (wideI a p).1 (-2)).1), canV_ex 1 ca.1 (canV_ofN hr.2.1), by rw [qV_ex, exQ1, qV_ofN, qV_ofN], ?_⟩,
    ⟨exV 0 (ofN a.hi) (ofN (scaleN (wideI a p).1 (-2)).1), canV_ex 0 ca.2 (canV_ofN hr.2.1), by rw [qV_ex, exQ0, qV_ofN, qV_ofN], ?_⟩, lessV (ofN a.hi) (ofN a.lo), canV_less ca.2 ca.1, by rw [qV_less, qV_ofN, qV_ofN], by rw [hs, hw]⟩
  · rw [e]; exact reckN_val l0
  · rw [e]; exact reckN_val h0
theorem blowI_right {a : Ivl} {p : Int} (h : (blowI a p).2 = 0) : rightI (blowI a p).1 = true ∧ subI a (blowI a p).1 := by
  obtain ⟨s, h1, h2, ⟨v, _, h3, h4⟩, ⟨u, _, h5, h6⟩, _⟩ := blowI_ends h
  obtain ⟨w0, s0, l0, h0, e⟩ := blowI_get h
  have wn := (wideI_need w0).1
  have q1 := roundV_le v p.toNat
  have q2 := roundV_ge u p.toNat
  have hle := qI_le wn
  rw [qV_ofN, qV_ofN] at hle
  have hs : subI a (blowI a p).1 := ⟨by rw [h4]; grind, by rw [h6]; grind⟩
  refine ⟨rightI_mk ?_ ?_ (cmpN_le.2 ?_), hs⟩
  · rw [e]; exact reckN_right _ _ _ _ _
  · rw [e]; exact reckN_right _ _ _ _ _
  · have := hs.1
    have := hs.2
    grind
theorem blowI_mag {a : Ivl} {p : Int} {e : Int} (h : (blowI a p).2 = 0) (ha : ampI e a) : ampI (e + 1) (blowI a p).1 := by
  have pp := precF_pos (wideI_need (blowI_get h).1).2
  obtain ⟨s, h1, h2, ⟨v, _, h3, h4⟩, ⟨u, _, h5, h6⟩, w, _, h7, h8⟩ := blowI_ends h
  have m1 : magQ (e + 1) (s * 4) := by
    rw [h8]
    refine mag_round pp ?_ _
    rw [h7, Rat.sub_eq_add_neg]
    exact magQ_add ha.2 (magQ_neg ha.1)
  have m2 : magQ e s := by
    have := m1.2
    have := m1.1
    have e2 := p2_succ e
    have := p2_pos e
    exact ⟨by grind, by grind⟩
  refine ⟨?_, ?_⟩
  · rw [h4]
    refine mag_round pp ?_ _
    rw [h3, Rat.sub_eq_add_neg]; exact magQ_add ha.1 (magQ_neg m2)
  · rw [h6]
    refine mag_round pp ?_ _
    rw [h5]; exact magQ_add ha.2 m2
theorem reckN_lu {k L U : Nat} {x y : Nm} {p : Int} (hk : k < 2) (hx : rightN x = true) (hy : rightN y = true) (h1 : luQ L U (qN x)) (h2 : luQ L U (qN y)) (hp : precF p = true) (up : Bool) (hb : L + U + 3 ≤ 4096) : (reckN k x y p up).2 = 0 ∧ luQ L (U + 2) (qN (reckN k x y p up).1) := by
  have hc : canV (exV k (ofN x) (ofN y)) := canV_ex k (canV_ofN hx) (canV_ofN hy)
  have hq : qV (exV k (ofN x) (ofN y)) = exQ k (qN x) (qN y) := by rw [qV_ex]; rfl
  have hl : luQ L (U + 1) (qV (exV k (ofN x) (ofN y))) := by
    rw [hq]
    unfold exQ
    split
    · exact luQ_add h1 h2
    · rw [if_pos (by omega)]; exact luQ_sub h1 h2
  have hr := luV_round hc hl p.toNat (precF_pos hp) up
  have hf : (reckN k x y p up).2 = 0 := by
    unfold reckN
    rw [if_pos ⟨hx, hy, hp⟩]
    exact luV_fits (canV_round hc _ _) hr (by omega)
  exact ⟨hf, by rw [reckN_val hf]; exact hr⟩
theorem blowI_lu {L U : Nat} {a : Ivl} {p : Int} (ha : luI L U a) (hp : precF p = true) (hb : L + U + 8 ≤ 4096) : (blowI a p).2 = 0 ∧ luI (L + 2) (U + 4) (blowI a p).1 := by
  have ca := canI ha.1
  have rr := rightI_right ha.1
  have hl : luQ L (U + 1) (qV (lessV (ofN a.hi) (ofN a.lo))) := by rw [qV_less, qV_ofN, qV_ofN]; exact luQ_sub ha.2.2 ha.2.1
  have cl := canV_less ca.2 ca.1
  have hr := luV_round cl hl p.toNat (precF_pos hp) true
  have w0 : (wideI a p).2 = 0 := by
    unfold wideI
    rw [if_pos ⟨ha.1, hp⟩]
    exact luV_fits (canV_round cl _ _) hr (by omega)
  rw [← wideI_val w0] at hr
  obtain ⟨s0, s1⟩ := scaleN_lu (k := 2) (wideI_right a p) hr (by omega) (by omega)
  rw [show -((2 : Nat) : Int) = -2 from rfl] at s0 s1
  have sr := scaleN_right (wideI a p).1 (-2)
  obtain ⟨l0, l1⟩ := reckN_lu (k := 1) (by omega) rr.1 sr (ha.2.1.mono (L' := L + 2) (U' := U + 2) (by omega) (by omega)) s1 hp false (by omega)
  obtain ⟨h0, h1⟩ := reckN_lu (k := 0) (by omega) rr.2.1 sr (ha.2.2.mono (L' := L + 2) (U' := U + 2) (by omega) (by omega)) s1 hp true (by omega)
  have hb0 := blowI_mk w0 s0 l0 h0
  refine ⟨hb0, (blowI_right hb0).1, ?_, ?_⟩
  · rw [(blowI_get hb0).2.2.2.2]; exact l1
  · rw [(blowI_get hb0).2.2.2.2]; exact h1
end Go.Pv
end

section
/- For a short time a box is found. No program in it. -/
namespace Go.Pv
def okPolyT (n M : Nat) (D : Int) (p : List Mn) : Prop := rightP p n = true ∧ p.length ≤ M ∧ ∀ m ∈ p, okMn n 6 (8 + M) D m
def okFieldT (n M : Nat) (D : Int) (f : List (List Mn)) : Prop := f.length = n ∧ ∀ p ∈ f, okPolyT n M D p
theorem okFieldT.ok {n M : Nat} {D : Int} {f : List (List Mn)} (h : okFieldT n M D f) : okField n M D f := ⟨h.1, fun p hp => ⟨(h.2 p hp).1, (h.2 p hp).2.1, fun m hm => by
  obtain ⟨a1, a2, a3, a4, a5, a6⟩ := (h.2 p hp).2.2 m hm
  exact ⟨a1, a2, a3, a4, a5, a6.mono (by omega) (by omega)⟩⟩⟩
theorem okFieldT.at {n M : Nat} {D : Int} {f : List (List Mn)} (h : okFieldT n M D f) {i j : Nat} (hi : i < f.length) (hj : j < (f.getD i []).length) : okMn n 6 (8 + M) D ((f.getD i []).getD j default) := by
  have e : f.getD i [] = f[i] := by simp [List.getD_eq_getElem?_getD, hi]
  rw [e] at hj ⊢
  exact getD_mem' (h.2 _ (List.getElem_mem hi)).2.2 hj
theorem sumK_le {ks : List Int} {D : Int} (hr : rightK ks = true) (h : ks.sum ≤ D) {i : Nat} (hi : i ≤ ks.length) : (sumK ks i : Int) ≤ D := by
  have h0 := rightK_pre hr i hi
  have h1 : (ks.take i).sum ≤ ks.sum := by
    have hk := ((rightK_iff ks).1 hr).1
    have : ∀ (l : List Int) (n : Nat), (∀ j, j < l.length → 0 ≤ l.getD j 0) → (l.take n).sum ≤ l.sum := by
      intro l
      induction l with
      | nil => intro n _; simp
      | cons x l ih =>
        intro n hp
        have hx : 0 ≤ x := hp 0 (by simp)
        have hp' : ∀ j, j < l.length → 0 ≤ l.getD j 0 := fun j hj => by have := hp (j + 1) (by simpa using hj); simpa using this
        cases n with
        | zero =>
          have := ih 0 hp'
          simp at this ⊢; omega
        | succ n =>
          have := ih n hp'
          simp; omega
    exact this ks i hk
  unfold sumK; omega
theorem rangeT_mag {n : Nat} {f : List (List Mn)} {a : List Ivl} {p : Int} {e : Int} (he : 0 ≤ e) (hf : okFieldT n 3 3 f) (hl : a.length = n) {i : Nat} (hi : i < n) (ha : ∀ j, j < n → ampI e (a.getD j default)) (h0 : (rangeF (f.getD i []) a p (f.getD i []).length).2 = 0) :
    ampI (14 + e * 3) (rangeF (f.getD i []) a p (f.getD i []).length).1 := by
  have hfl := hf.1
  have hlen : (f.getD i []).length ≤ 3 := by
    have e : f.getD i [] = f[i]'(by omega) := by simp [List.getD_eq_getElem?_getD, (by omega : i < f.length)]
    rw [e]; exact (hf.2 _ (List.getElem_mem _)).2.1
  refine (rangeF_mag (g := 11 + e * 3) _ (fun j hj c => ?_) h0).up (by omega)
  obtain ⟨a1, a2, a3, a4, a5, a6⟩ := hf.at (by omega : i < f.length) hj
  have hs := sumK_le a2 a3 (i := a.length) (by omega)
  have hm := overF_mag (c := 11) (e := e) (p := p) ((lu_mag a6).up (by omega)) a2 a.length (by omega) (fun j hj => ha j (by omega)) c
  refine hm.up ?_
  have : e * (sumK ((f.getD i []).getD j default).ks a.length : Int) ≤ e * 3 := Int.mul_le_mul_of_nonneg_left hs he
  omega
theorem hull_lu {L U : Nat} {a b : Ivl} (ha : luI L U a) (hb : luI L U b) : luI L U ⟨leastN a.lo b.lo, greatN a.hi b.hi⟩ ∧ subI a ⟨leastN a.lo b.lo, greatN a.hi b.hi⟩ ∧ subI b ⟨leastN a.lo b.lo, greatN a.hi b.hi⟩ := by
  have hr : rightI (⟨leastN a.lo b.lo, greatN a.hi b.hi⟩ : Ivl) = true := by
    have := hullI_right ha.1 hb.1
    rw [hullI_ok ha.1 hb.1] at this; exact this
  obtain ⟨q1, q2, q3⟩ := least_q a.lo b.lo
  obtain ⟨g1, g2, g3⟩ := great_q a.hi b.hi
  refine ⟨⟨hr, ?_, ?_⟩, ⟨q2, g2⟩, ⟨q3, g3⟩⟩
  · rcases q1 with q1 | q1
    · show luQ L U (qN (leastN a.lo b.lo)); rw [q1]; exact ha.2.1
    · show luQ L U (qN (leastN a.lo b.lo)); rw [q1]; exact hb.2.1
  · rcases g1 with g1 | g1
    · show luQ L U (qN (greatN a.hi b.hi)); rw [g1]; exact ha.2.2
    · show luQ L U (qN (greatN a.hi b.hi)); rw [g1]; exact hb.2.2
theorem hull_mag {e : Int} {a b : Ivl} (ha : ampI e a) (hb : ampI e b) : ampI e ⟨leastN a.lo b.lo, greatN a.hi b.hi⟩ := by
  obtain ⟨q1, q2, q3⟩ := least_q a.lo b.lo
  obtain ⟨g1, g2, g3⟩ := great_q a.hi b.hi
  refine ⟨?_, ?_⟩
  · rcases q1 with q1 | q1
    · show magQ e (qN (leastN a.lo b.lo)); rw [q1]; exact ha.1
    · show magQ e (qN (leastN a.lo b.lo)); rw [q1]; exact hb.1
  · rcases g1 with g1 | g1
    · show magQ e (qN (greatN a.hi b.hi)); rw [g1]; exact ha.2
    · show magQ e (qN (greatN a.hi b.hi)); rw [g1]; exact hb.2
def hFind : Nm := ⟨false, -60, [1]⟩
theorem hFind_q : qN hFind = p2 (-60) := by rw [p2_qM]; rfl
theorem hFind_right : rightN hFind = true := by decide
theorem hFind_pos : 0 < qN hFind := by rw [hFind_q]; exact p2_pos _
theorem hFind_lu : luI 60 0 ⟨default, hFind⟩ := ⟨time_right hFind_right hFind_pos, by show luQ 60 0 (qN default); rw [qN_dflt]; exact luQ_zero _ _, by show luQ 60 0 (qN hFind); rw [hFind_q]; exact ⟨1, p2_qM _, by decide⟩⟩
theorem hFind_mag : ampI (-60) ⟨default, hFind⟩ := ⟨by show magQ _ (qN default); rw [qN_dflt]; exact magQ_zero _, by show magQ _ (qN hFind); rw [hFind_q]; have := p2_pos (-60); exact ⟨by grind, Rat.le_refl⟩⟩
theorem next_find {n : Nat} {f : List (List Mn)} {x a : List Ivl} {p : Int} {L U : Nat} {e : Int} (hf : okFieldT n 3 3 f) (hn1 : 1 ≤ n) (hn4 : n ≤ 4) (hx : x.length = n) (hxl : ∀ j, j < n → luI 6 9 (x.getD j default)) (ha : a.length = n) (hal : ∀ j, j < n → luI L U (a.getD j default)) (hL : 6 ≤ L) (hU : 9 ≤ U)
    (hp : precF p = true) (hbd : 400 + 8 * L + 8 * U ≤ 4096) (he : 0 ≤ e) (he2 : 14 + e * 3 ≤ 52) (ham : ∀ j, j < n → ampI e (a.getD j default)) :
    NextOK f x a hFind p ∧ ∀ j, j < n → luI (72 + L * 8) (50 + U * 8) ((nextP f x a hFind p).1.getD j default) ∧ ampI (-8) (opI 2 ⟨default, hFind⟩ (rangeF (f.getD j []) a p (f.getD j []).length).1 p).1 := by
  have hfl := hf.1
  obtain ⟨r1, r2, r3⟩ := rangeFd_small (L := L) (U := U) hf.ok (by omega) ha hn1 hn4 (fun j hj => hal j (by omega)) hp (by omega)
  have ht : ∀ j, j < n → _ := fun j hj => opI_lu2 hFind_lu (r3 j hj).2.2 hp (by omega)
  have hs : ∀ j, j < n → _ := fun j hj => opI_lu (k := 0) (by omega) ((hxl j hj).mono (L' := 60 + (12 + L * 8)) (U' := 0 + (26 + 3 + U * 8 + 2 * 3) + 1) (by omega) (by omega)) (ht j hj).2 hp (by omega)
  have hrx : rightB x = true := rightB_mk (fun j hj => (hxl j (by omega)).1) (by omega) (by omega)
  have hra : rightB a = true := rightB_mk (fun j hj => (hal j (by omega)).1) (by omega) (by omega)
  have N : NextOK f x a hFind p := nextP_mk (hf.ok.right hn1 hn4) hrx hra (by omega) (by omega) hFind_right hFind_pos hp r1 (fun j hj => (ht j (by omega)).1) (fun j hj => (hs j (by omega)).1)
  refine ⟨N, fun j hj => ?_⟩
  have A := N.at (j := j) (by omega)
  refine ⟨by rw [A.val]; exact (hs j hj).2.mono (by omega) (by omega), ?_⟩
  have m := rangeT_mag he hf ha hj ham (r3 j hj).2.1
  exact (opI_mag2 (ht j hj).1 hFind_mag m).up (by omega)
theorem finds {n : Nat} {f : List (List Mn)} {x : List Ivl} {p : Int} (hf : okFieldT n 3 3 f) (hn1 : 1 ≤ n) (hn4 : n ≤ 4) (hx : x.length = n) (hxl : ∀ j, j < n → luI 6 9 (x.getD j default)) (hw : ∀ j, j < n → qN (x.getD j default).lo + p2 (-6) ≤ qN (x.getD j default).hi) (hp : precF p = true) :
    (boxP f x hFind p).2 = true := by
  have pp := precF_pos hp
  obtain ⟨N0, H0⟩ := next_find (e := 9) hf hn1 hn4 hx hxl hx hxl (by omega) (by omega) hp (by omega) (by omega) (by omega) (fun j hj => luI_mag (hxl j hj))
  have hfl := hf.1
  have hb0l : (nextP f x x hFind p).1.length = n := by rw [N0.len, hfl]
  have b0m : ∀ j, j < n → ampI 10 ((nextP f x x hFind p).1.getD j default) := fun j hj => by
    have A := N0.at (j := j) (by omega)
    rw [A.val]
    exact opI_mag0 (e := 9) A.s0 (luI_mag (hxl j hj)) ((H0 j hj).2.up (by omega))
  obtain ⟨u1, u2, u3⟩ := hullB_all N0.rx N0.rightB (by omega)
  have b0lu : ∀ j, j < n → luI 120 122 ((nextP f x x hFind p).1.getD j default) := fun j hj => (H0 j hj).1
  have hB := N0.rightB
  generalize hb0 : (nextP f x x hFind p).1 = b0 at *
  have hd : ∀ j, j < n → luI 120 122 ((hullB x b0).1.getD j default) ∧ subI (x.getD j default) ((hullB x b0).1.getD j default) ∧ ampI 10 ((hullB x b0).1.getD j default) := fun j hj => by
    rw [u3 j (by omega)]
    obtain ⟨h1, h2, _⟩ := hull_lu ((hxl j hj).mono (L' := 120) (U' := 122) (by omega) (by omega)) (b0lu j hj)
    exact ⟨h1, h2, hull_mag ((luI_mag (hxl j hj)).up (by omega)) (b0m j hj)⟩
  have rd : rightB (hullB x b0).1 = true := rightB_mk (fun j hj => (hd j (by omega)).1.1) (by omega) (by omega)
  have hbl : ∀ j, j < n → _ := fun j hj => blowI_lu (p := p) (hd j hj).1 hp (by omega)
  have w0 : (blowB (hullB x b0).1 p).2 = 0 := blowB_all ⟨rd, hp⟩ fun j hj => (hbl j (by omega)).1
  obtain ⟨_, v1, v2, v3⟩ := blowB_get w0
  have hwid : widerP x b0 p = blowB (hullB x b0).1 p := by unfold widerP; rw [if_pos u1]
  generalize hd0 : (hullB x b0).1 = d at *
  have ha1 : ∀ j, j < n → (blowB d p).1.getD j default = (blowI (d.getD j default) p).1 := fun j hj => v3 j (by omega)
  have a1l : (blowB d p).1.length = n := by omega
  have a1lu : ∀ j, j < n → luI 122 126 ((blowB d p).1.getD j default) := fun j hj => by rw [ha1 j hj]; exact (hbl j hj).2
  have a1m : ∀ j, j < n → ampI 11 ((blowB d p).1.getD j default) := fun j hj => by rw [ha1 j hj]; exact blowI_mag (hbl j hj).1 (hd j hj).2.2
  obtain ⟨N1, H1⟩ := next_find (e := 11) hf hn1 hn4 hx hxl a1l a1lu (by omega) (by omega) hp (by omega) (by omega) (by omega) a1m
  have hin : inB (nextP f x (blowB d p).1 hFind p).1 (blowB d p).1 = true := by
    refine inB_sub.2 ⟨N1.rightB, N1.ra, by rw [N1.len, a1l, hfl], fun j hj => ?_⟩
    have hj : j < n := by rw [N1.len] at hj; omega
    have A := N1.at (j := j) (by omega)
    obtain ⟨e1, e2⟩ := opI_ends A.s0
    have r := opI_need A.s0
    obtain ⟨s, s1, s2, ⟨v, _, v1, v2⟩, ⟨u, _, u1, u2⟩, _⟩ := blowI_ends (hbl j hj).1
    have hm := (H1 j hj).2
    have hsub := (hd j hj).2.1
    have hww := hw j hj
    have q64 : p2 (-6) = p2 (-8) * 4 := by
      have := p2_add (-8) 2
      rw [p2_two] at this; exact this
    rw [A.val, ha1 j hj]
    refine ⟨?_, ?_⟩
    · rw [v2, e1]
      refine roundV_mono pp ?_
      rw [v1, loV0, qV_plus, qV_ofN, qV_ofN]
      have := hm.1.1
      have := hsub.1
      have := hsub.2
      grind
    · rw [u2, e2]
      refine roundV_mono_up pp ?_
      rw [u1, hiV0, qV_plus, qV_ofN, qV_ofN]
      have := hm.2.2
      have := hsub.1
      have := hsub.2
      grind
  unfold boxP
  rw [triesL_succ, if_pos (nextP_iff.2 N0), hb0, hwid, if_pos w0, triesL_succ, if_pos (nextP_iff.2 N1)]
  simp only [Bool.false_eq_true, if_false, if_true, List.nil_append, List.cons_append]
  rw [boxL_cons, if_pos hin]
end Go.Pv
end
