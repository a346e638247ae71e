/- Parts of the walk: M59, M52, M53, M54, M55, M56, M57, M58, M60, M61. -/
import Derived.Test.YthllcnigcnoghaaGreatDoorZBA
import Derived.Test.YthllcnigcnoghaaGreatDoorZBM
import Derived.Test.YthllcnigcnoghaaGreatDoorZL
import Derived.Test.YthllcnigcnoghaaGreatDoorZBR
import Derived.Test.YthllcnigcnoghaaGreatDoorZBN
set_option linter.unusedVariables false
set_option linter.unusedSimpArgs false
section
/- Numbers by powers of two; times. No program in it. -/
namespace Go.Pv
theorem scaleN_val {x : Nm} {k : Nat} (h : (scaleN x (-(k : Int))).2 = 0) : rightN x = true ∧ qN (scaleN x (-(k : Int))).1 * p2 k = qN x := by
 unfold scaleN at h ⊢
 split at h
 · rename_i hr
   rw [if_pos hr]
   refine ⟨hr, ?_⟩
   split at h
   · rename_i hw
     rw [if_pos hw]
     have h0 : qN x = 0 := qN_nil (by rw [hw]; rfl)
     show qN x * p2 k = qN x
     rw [h0, Rat.zero_mul]
   · rename_i hw
     rw [if_neg hw]
     split at h
     · exact absurd h (by decide)
     · rename_i hk
       rw [if_neg hk]
       have hc : canV (⟨x.neg, valW x.w, x.exp + -(k : Int)⟩ : Vl) := by
        rcases canV_ofN hr with h1 | h1
        · exact .inl h1
        · exact absurd ((zero_of_right hr).1 (show valW x.w = 0 from congrArg Vl.m h1)) hw
       rw [(numV_val hc h).2]
       unfold qV qN qM
       show ((mantV ⟨x.neg, valW x.w, x.exp + -(k : Int)⟩ : Int) : Rat) * p2 (x.exp + -(k : Int)) * p2 k = ((mant x : Int) : Rat) * p2 x.exp
       rw [Rat.mul_assoc, ← p2_add]
       congr 2
       omega
 · exact absurd h (by decide)
theorem scaleN_lu {x : Nm} {L U k : Nat} (hx : rightN x = true) (h : luQ L U (qN x)) (hk : k ≤ 1000) (hb : L + U + k + 1 ≤ 4096) : (scaleN x (-(k : Int))).2 = 0 ∧ luQ (L + k) U (qN (scaleN x (-(k : Int))).1) := by
 have key : ∀ y : Rat, y * p2 k = qN x → luQ (L + k) U y := fun y hy => by
  obtain ⟨z, h1, h2⟩ := h
  refine ⟨z, ?_, Nat.le_trans h2 (Nat.pow_le_pow_right (by decide) (by omega))⟩
  have hne := p2_ne k
  have e : qM z (-((L + k : Nat) : Int)) * p2 k = qM z (-(L : Int)) := by
   unfold qM
   rw [Rat.mul_assoc, ← p2_add]
   congr 2
   omega
  rw [h1, ← e] at hy
  have := congrArg (fun t => t * (p2 k)⁻¹) hy
  simp only [Rat.mul_assoc, Rat.mul_inv_cancel _ hne, Rat.mul_one] at this
  exact this
 have h0 : (scaleN x (-(k : Int))).2 = 0 := by
  unfold scaleN
  rw [if_pos hx]
  split
  · rfl
  · rename_i hw
    rw [if_neg (by omega)]
    have hc : canV (⟨x.neg, valW x.w, x.exp + -(k : Int)⟩ : Vl) := by
     rcases canV_ofN hx with h1 | h1
     · exact .inl h1
     · exact absurd ((zero_of_right hx).1 (show valW x.w = 0 from congrArg Vl.m h1)) hw
    refine luV_fits hc (key _ ?_) (by omega)
    unfold qV qN qM
    show ((mantV ⟨x.neg, valW x.w, x.exp + -(k : Int)⟩ : Int) : Rat) * p2 (x.exp + -(k : Int)) * p2 k = ((mant x : Int) : Rat) * p2 x.exp
    rw [Rat.mul_assoc, ← p2_add]
    congr 2
    omega
 exact ⟨h0, key _ (scaleN_val h0).2⟩
theorem tq_lu {q : Nat} (h0 : 0 < q) (h : q ≤ 64) : luQ 3 6 (qN (tq q)) ∧ 0 < qN (tq q) := by
 have e : qN (tq q) = qM (q : Int) (-3) := by rw [← qV_ofN, (numV_tq q (by omega)).2, qV_mk]
 refine ⟨⟨(q : Int), e, ?_⟩, ?_⟩
 · simp only [Int.natAbs_natCast]; omega
 · rw [e, ← qM_zero (-3)]; exact qM_lt.2 (by omega)
theorem pos_scale {x y : Rat} {k : Int} (h : y * p2 k = x) (hx : 0 < x) : 0 < y := by
 have := p2_pos k
 apply Rat.not_le.1
 intro hy
 have h2 := mulq_nn (a := -y) (b := p2 k) (by grind) (by grind)
 grind
end Go.Pv
end

section
/- Boxes taken apart and put together; where solutions go. No program in it. -/
namespace Go.Pv
theorem opB_get {k : Nat} {a b : List Ivl} {p : Int} (h : (opB k a b p).2 = 0) : (rightB a = true ∧ rightB b = true ∧ a.length = b.length ∧ precF p = true) ∧ (opB k a b p).1.length = a.length ∧
  (∀ j, j < a.length → (opI k (a.getD j default) (b.getD j default) p).2 = 0) ∧ ∀ j, j < a.length → (opB k a b p).1.getD j default = (opI k (a.getD j default) (b.getD j default) p).1 := by
 unfold opB at h ⊢
 by_cases c : rightB a = true ∧ rightB b = true ∧ a.length = b.length ∧ precF p = true
 · rw [if_pos c, eachF_tab0] at h
   rw [if_pos c, eachF_tab0]
   exact ⟨c, tabF_get h⟩
 · rw [if_neg c] at h; exact absurd h (by decide)
theorem opB_all {k : Nat} {a b : List Ivl} {p : Int} (c : rightB a = true ∧ rightB b = true ∧ a.length = b.length ∧ precF p = true) (h : ∀ j, j < a.length → (opI k (a.getD j default) (b.getD j default) p).2 = 0) : (opB k a b p).2 = 0 := by
 unfold opB
 rw [if_pos c, eachF_tab0]
 exact tabF_all _ _ _ fun j _ hj => h j (by omega)
theorem timesB_get {x : Ivl} {b : List Ivl} {p : Int} (h : (timesB x b p).2 = 0) : (rightB b = true ∧ rightI x = true ∧ precF p = true) ∧ (timesB x b p).1.length = b.length ∧
  (∀ j, j < b.length → (opI 2 x (b.getD j default) p).2 = 0) ∧ ∀ j, j < b.length → (timesB x b p).1.getD j default = (opI 2 x (b.getD j default) p).1 := by
 unfold timesB at h ⊢
 by_cases c : rightB b = true ∧ rightI x = true ∧ precF p = true
 · rw [if_pos c, eachF_tab0] at h
   rw [if_pos c, eachF_tab0]
   exact ⟨c, tabF_get h⟩
 · rw [if_neg c] at h; exact absurd h (by decide)
theorem timesB_all {x : Ivl} {b : List Ivl} {p : Int} (c : rightB b = true ∧ rightI x = true ∧ precF p = true) (h : ∀ j, j < b.length → (opI 2 x (b.getD j default) p).2 = 0) : (timesB x b p).2 = 0 := by
 unfold timesB
 rw [if_pos c, eachF_tab0]
 exact tabF_all _ _ _ fun j _ hj => h j (by omega)
theorem blowB_get {b : List Ivl} {p : Int} (h : (blowB b p).2 = 0) : (rightB b = true ∧ precF p = true) ∧ (blowB b p).1.length = b.length ∧
  (∀ j, j < b.length → (blowI (b.getD j default) p).2 = 0) ∧ ∀ j, j < b.length → (blowB b p).1.getD j default = (blowI (b.getD j default) p).1 := by
 unfold blowB at h ⊢
 by_cases c : rightB b = true ∧ precF p = true
 · rw [if_pos c, eachF_tab0] at h
   rw [if_pos c, eachF_tab0]
   exact ⟨c, tabF_get h⟩
 · rw [if_neg c] at h; exact absurd h (by decide)
theorem blowB_all {b : List Ivl} {p : Int} (c : rightB b = true ∧ precF p = true) (h : ∀ j, j < b.length → (blowI (b.getD j default) p).2 = 0) : (blowB b p).2 = 0 := by
 unfold blowB
 rw [if_pos c, eachF_tab0]
 exact tabF_all _ _ _ fun j _ hj => h j (by omega)
theorem hullB_all {a b : List Ivl} (ha : rightB a = true) (hb : rightB b = true) (hl : a.length = b.length) : (hullB a b).2 = 0 ∧ (hullB a b).1.length = a.length ∧
  ∀ j, j < a.length → (hullB a b).1.getD j default = ⟨leastN (a.getD j default).lo (b.getD j default).lo, greatN (a.getD j default).hi (b.getD j default).hi⟩ := by
 have hI : ∀ j, j < a.length → hullI (a.getD j default) (b.getD j default) = (⟨leastN (a.getD j default).lo (b.getD j default).lo, greatN (a.getD j default).hi (b.getD j default).hi⟩, 0) := fun j hj => hullI_ok (rightB_at ha hj) (rightB_at hb (by omega))
 unfold hullB
 rw [if_pos ⟨ha, hb, hl⟩, eachF_tab0]
 have h0 : (tabF (fun j => hullI (a.getD j default) (b.getD j default)) 0 a.length []).2 = 0 := tabF_all _ _ _ fun j _ hj => by show (hullI (a.getD j default) (b.getD j default)).2 = 0; rw [hI j (by omega)]
 obtain ⟨g1, g2, g3⟩ := tabF_get h0
 refine ⟨h0, g1, fun j hj => ?_⟩
 rw [g3 j hj]
 show (hullI (a.getD j default) (b.getD j default)).1 = _
 rw [hI j hj]
theorem least_q (a b : Nm) : (qN (leastN a b) = qN a ∨ qN (leastN a b) = qN b) ∧ qN (leastN a b) ≤ qN a ∧ qN (leastN a b) ≤ qN b := by
 unfold leastN
 split
 · rename_i h
   have := cmpN_lt.1 h
   exact ⟨.inr rfl, by grind, Rat.le_refl⟩
 · rename_i h
   have h2 : ¬ qN b < qN a := fun e => h (cmpN_lt.2 e)
   exact ⟨.inl rfl, Rat.le_refl, by grind⟩
theorem great_q (a b : Nm) : (qN (greatN a b) = qN a ∨ qN (greatN a b) = qN b) ∧ qN a ≤ qN (greatN a b) ∧ qN b ≤ qN (greatN a b) := by
 unfold greatN
 split
 · rename_i h
   have := cmpN_gt.1 h
   exact ⟨.inr rfl, by grind, Rat.le_refl⟩
 · rename_i h
   have h2 : ¬ qN a < qN b := fun e => h (cmpN_gt.2 e)
   exact ⟨.inl rfl, Rat.le_refl, by grind⟩
theorem inB_sub {a b : List Ivl} : inB a b = true ↔ rightB a = true ∧ rightB b = true ∧ a.length = b.length ∧ ∀ j, j < a.length → subI (a.getD j default) (b.getD j default) := by
 unfold inB allF
 simp only [Bool.and_eq_true, decide_eq_true_eq, List.all_eq_true, List.mem_range]
 constructor
 · rintro ⟨⟨ha, hb⟩, hl, hj⟩
   exact ⟨ha, hb, hl, fun j h => (inI_sub (rightB_at ha h) (rightB_at hb (by omega))).1 (hj j h)⟩
 · rintro ⟨ha, hb, hl, hj⟩
   exact ⟨⟨ha, hb⟩, hl, fun j h => (inI_sub (rightB_at ha h) (rightB_at hb (by omega))).2 (hj j h)⟩
theorem sgn_ownQ {h : Nm} (hr : rightN h = true) : (¬ sgnN (ownN h) ≤ 0) ↔ 0 < qN h := by
 unfold ownN
 rw [if_pos hr, ← sgnN_gt]; omega
theorem time_right {h : Nm} (hr : rightN h = true) (h0 : 0 < qN h) : rightI ⟨default, h⟩ = true := rightI_mk rightN_dflt hr (cmpN_le.2 (by rw [qN_dflt]; grind))
structure NextOK (f : List (List Mn)) (x a : List Ivl) (h : Nm) (p : Int) : Prop where
 rf : rightF f = true
 rx : rightB x = true
 ra : rightB a = true
 lx : x.length = f.length
 la : a.length = f.length
 rh : rightN h = true
 ph : 0 < qN h
 pp : precF p = true
 e1 : (rangeFd f a p).2 = 0
 e2 : (timesB ⟨default, h⟩ (rangeFd f a p).1 p).2 = 0
 e3 : (opB 0 x (timesB ⟨default, h⟩ (rangeFd f a p).1 p).1 p).2 = 0
theorem nextP_iff {f : List (List Mn)} {x a : List Ivl} {h : Nm} {p : Int} : (nextP f x a h p).2 = 0 ↔ NextOK f x a h p := by
 constructor
 · intro e
   unfold nextP at e
   split at e
   · rename_i c
     obtain ⟨c1, c2, c3, c4, c5, c6, c7, c8⟩ := c
     split at e
     · rename_i d1
       split at e
       · rename_i d2
         exact ⟨c1, c2, c3, c4, c5, c6, (sgn_ownQ c6).1 c7, c8, d1, d2, e⟩
       · rename_i d2; exact absurd e d2
     · rename_i d1; exact absurd e d1
   · exact absurd e (by decide)
 · rintro ⟨c1, c2, c3, c4, c5, c6, c7, c8, d1, d2, e⟩
   unfold nextP
   rw [if_pos ⟨c1, c2, c3, c4, c5, c6, (sgn_ownQ c6).2 c7, c8⟩, if_pos d1, if_pos d2]
   exact e
theorem NextOK.val {f : List (List Mn)} {x a : List Ivl} {h : Nm} {p : Int} (n : NextOK f x a h p) : (nextP f x a h p).1 = (opB 0 x (timesB ⟨default, h⟩ (rangeFd f a p).1 p).1 p).1 := by
 unfold nextP
 rw [if_pos ⟨n.rf, n.rx, n.ra, n.lx, n.la, n.rh, (sgn_ownQ n.rh).2 n.ph, n.pp⟩, if_pos n.e1, if_pos n.e2]
theorem rangeFd_get {f : List (List Mn)} {a : List Ivl} {p : Int} (h : (rangeFd f a p).2 = 0) : (rightF f = true ∧ a.length = f.length) ∧ (rangeFd f a p).1.length = f.length ∧ ∀ j, j < f.length → (rangeFd f a p).1.getD j default = (rangeF (f.getD j []) a p (f.getD j []).length).1 ∧ (rangeF (f.getD j []) a p (f.getD j []).length).2 = 0 := by
 unfold rangeFd at h ⊢
 by_cases c : rightF f = true ∧ a.length = f.length
 · rw [if_pos c] at h ⊢
   obtain ⟨g1, g2, g3⟩ := tabF_get h
   refine ⟨c, g1, fun j hj => ?_⟩
   have e := g2 j hj
   rw [g3 j hj]
   show (rangeP (f.getD j []) a p).1 = _ ∧ _
   replace e : (rangeP (f.getD j []) a p).2 = 0 := e
   unfold rangeP at e ⊢
   split at e
   · rename_i d; rw [if_pos d]; exact ⟨rfl, e⟩
   · exact absurd e (by decide)
 · rw [if_neg c] at h; exact absurd h (by decide)
structure NextAt (f : List (List Mn)) (x a : List Ivl) (h : Nm) (p : Int) (j : Nat) : Prop where
 r0 : (rangeF (f.getD j []) a p (f.getD j []).length).2 = 0
 t0 : (opI 2 ⟨default, h⟩ (rangeF (f.getD j []) a p (f.getD j []).length).1 p).2 = 0
 s0 : (opI 0 (x.getD j default) (opI 2 ⟨default, h⟩ (rangeF (f.getD j []) a p (f.getD j []).length).1 p).1 p).2 = 0
 val : (nextP f x a h p).1.getD j default = (opI 0 (x.getD j default) (opI 2 ⟨default, h⟩ (rangeF (f.getD j []) a p (f.getD j []).length).1 p).1 p).1
theorem NextOK.len {f : List (List Mn)} {x a : List Ivl} {h : Nm} {p : Int} (n : NextOK f x a h p) : (nextP f x a h p).1.length = f.length := by
 rw [n.val, (opB_get n.e3).2.1, n.lx]
theorem NextOK.at {f : List (List Mn)} {x a : List Ivl} {h : Nm} {p : Int} (n : NextOK f x a h p) {j : Nat} (hj : j < f.length) : NextAt f x a h p j := by
 obtain ⟨_, r1, r2⟩ := rangeFd_get n.e1
 obtain ⟨r3, r4⟩ := r2 j hj
 obtain ⟨_, t1, t2, t3⟩ := timesB_get n.e2
 obtain ⟨_, s1, s2, s3⟩ := opB_get n.e3
 have t2 := t2 j (by omega)
 have t3 := t3 j (by omega)
 have s2 := s2 j (by rw [n.lx]; exact hj)
 have s3 := s3 j (by rw [n.lx]; exact hj)
 rw [r3] at t2 t3
 rw [t3] at s2 s3
 exact ⟨r4, t2, s2, by rw [n.val]; exact s3⟩
theorem opB_rightB {k : Nat} {a b : List Ivl} {p : Int} (h : (opB k a b p).2 = 0) : rightB (opB k a b p).1 = true := by
 obtain ⟨c, l, _, v⟩ := opB_get h
 have := rightB_len c.1
 exact rightB_mk (fun j hj => by rw [v j (by omega)]; exact opI_right _ _ _ _) (by omega) (by omega)
theorem NextOK.rightB {f : List (List Mn)} {x a : List Ivl} {h : Nm} {p : Int} (n : NextOK f x a h p) : Go.Pv.rightB (nextP f x a h p).1 = true := by
 rw [n.val]; exact opB_rightB n.e3
theorem nextP_mk {f : List (List Mn)} {x a : List Ivl} {h : Nm} {p : Int} (rf : rightF f = true) (rx : rightB x = true) (ra : rightB a = true) (lx : x.length = f.length) (la : a.length = f.length) (rh : rightN h = true) (ph : 0 < qN h) (pp : precF p = true) (e1 : (rangeFd f a p).2 = 0)
  (h2 : ∀ j, j < f.length → (opI 2 ⟨default, h⟩ (rangeF (f.getD j []) a p (f.getD j []).length).1 p).2 = 0)
  (h3 : ∀ j, j < f.length → (opI 0 (x.getD j default) (opI 2 ⟨default, h⟩ (rangeF (f.getD j []) a p (f.getD j []).length).1 p).1 p).2 = 0) : NextOK f x a h p := by
 obtain ⟨_, r1, r2⟩ := rangeFd_get e1
 have hx := rightB_len rx
 have rr : rightB (rangeFd f a p).1 = true := rightB_mk (fun j hj => by
  obtain ⟨q1, q2⟩ := r2 j (by omega)
  have := h2 j (by omega)
  rw [q1]; exact (opI_need this).2.1) (by omega) (by omega)
 have e2 : (timesB ⟨default, h⟩ (rangeFd f a p).1 p).2 = 0 := timesB_all ⟨rr, time_right rh ph, pp⟩ fun j hj => by
  rw [(r2 j (by omega)).1]; exact h2 j (by omega)
 obtain ⟨_, t1, t2, t3⟩ := timesB_get e2
 have rt : rightB (timesB ⟨default, h⟩ (rangeFd f a p).1 p).1 = true := rightB_mk (fun j hj => by
  rw [t3 j (by omega)]; exact opI_right _ _ _ _) (by omega) (by omega)
 refine ⟨rf, rx, ra, lx, la, rh, ph, pp, e1, e2, opB_all ⟨rx, rt, by omega, pp⟩ fun j hj => ?_⟩
 rw [t3 j (by omega), (r2 j (by omega)).1]
 exact h3 j (by omega)
theorem blowI_get {a : Ivl} {p : Int} (h : (blowI a p).2 = 0) : (wideI a p).2 = 0 ∧ (scaleN (wideI a p).1 (-2)).2 = 0 ∧ (reckN 1 a.lo (scaleN (wideI a p).1 (-2)).1 p false).2 = 0 ∧ (reckN 0 a.hi (scaleN (wideI a p).1 (-2)).1 p true).2 = 0 ∧
  (blowI a p).1 = ⟨(reckN 1 a.lo (scaleN (wideI a p).1 (-2)).1 p false).1, (reckN 0 a.hi (scaleN (wideI a p).1 (-2)).1 p true).1⟩ := by
 unfold blowI at h ⊢
 split at h
 · rename_i c; exact absurd h c
 · rename_i c
   split at h
   · rename_i d; exact absurd h d
   · rename_i d
     split at h
     · exact absurd h (by decide)
     · rename_i e
       rw [if_neg c, if_neg d, if_neg e]
       have e1 : ¬ (reckN 1 a.lo (scaleN (wideI a p).1 (-2)).1 p false).2 ≠ 0 := fun q => e (.inl q)
       have e2 : ¬ (reckN 0 a.hi (scaleN (wideI a p).1 (-2)).1 p true).2 ≠ 0 := fun q => e (.inr q)
       exact ⟨Classical.not_not.1 c, Classical.not_not.1 d, Classical.not_not.1 e1, Classical.not_not.1 e2, rfl⟩
theorem blowI_mk {a : Ivl} {p : Int} (h1 : (wideI a p).2 = 0) (h2 : (scaleN (wideI a p).1 (-2)).2 = 0) (h3 : (reckN 1 a.lo (scaleN (wideI a p).1 (-2)).1 p false).2 = 0) (h4 : (reckN 0 a.hi (scaleN (wideI a p).1 (-2)).1 p true).2 = 0) : (blowI a p).2 = 0 := by
 unfold blowI
 rw [if_neg (by rw [h1]; decide), if_neg (by rw [h2]; decide), if_neg (by rw [h3, h4]; decide)]
theorem reckN_need {k : Nat} {a b : Nm} {p : Int} {up : Bool} (h : (reckN k a b p up).2 = 0) : rightN a = true ∧ rightN b = true ∧ precF p = true := by
 unfold reckN at h
 split at h
 · assumption
 · exact absurd h (by decide)
theorem reckN_val {k : Nat} {a b : Nm} {p : Int} {up : Bool} (h : (reckN k a b p up).2 = 0) : qN (reckN k a b p up).1 = qV (roundV (exV k (ofN a) (ofN b)) p.toNat up) := by
 have c := reckN_need h
 unfold reckN at h ⊢
 rw [if_pos c] at h ⊢
 exact (numV_val (canV_round (canV_ex k (canV_ofN c.1) (canV_ofN c.2.1)) _ _) h).2
theorem wideI_need {a : Ivl} {p : Int} (h : (wideI a p).2 = 0) : rightI a = true ∧ precF p = true := by
 unfold wideI at h
 split at h
 · assumption
 · exact absurd h (by decide)
theorem wideI_val {a : Ivl} {p : Int} (h : (wideI a p).2 = 0) : qN (wideI a p).1 = qV (roundV (lessV (ofN a.hi) (ofN a.lo)) p.toNat true) := by
 have c := wideI_need h
 have hc := canI c.1
 unfold wideI at h ⊢
 rw [if_pos c] at h ⊢
 exact (numV_val (canV_round (canV_less hc.2 hc.1) _ _) h).2
end Go.Pv
end

section
/- How great what is reckoned gets: at most a power of two, which rounding does not pass. No program in it. -/
namespace Go.Pv
theorem p2_qM (e : Int) : p2 e = qM 1 e := by simp [qM]
theorem p2_mono {a b : Int} (h : a ≤ b) : p2 a ≤ p2 b := by
 rw [p2_qM, p2_qM, show b = a + ((b - a).toNat : Int) from by omega, ← qM_pow, qM_le]
 have : 0 < (2 : Int) ^ (b - a).toNat := Int.pow_pos (by decide)
 omega
theorem p2_succ (a : Int) : p2 (a + 1) = p2 a * 2 := by
 rw [p2_add]; congr 1
def magQ (e : Int) (x : Rat) : Prop := -(p2 e) ≤ x ∧ x ≤ p2 e
theorem magQ_zero (e : Int) : magQ e 0 := by
 have := p2_pos e
 exact ⟨by grind, by grind⟩
theorem magQ.up {e g : Int} {x : Rat} (h : magQ e x) (he : e ≤ g) : magQ g x := by
 have := p2_mono he
 exact ⟨by have := h.1; grind, by have := h.2; grind⟩
theorem magQ_neg {e : Int} {x : Rat} (h : magQ e x) : magQ e (-x) := ⟨by have := h.2; grind, by have := h.1; grind⟩
theorem magQ_add {e : Int} {x y : Rat} (h : magQ e x) (g : magQ e y) : magQ (e + 1) (x + y) := by
 obtain ⟨a, b⟩ := h
 obtain ⟨c, d⟩ := g
 refine ⟨?_, ?_⟩
 · rw [p2_succ]; grind
 · rw [p2_succ]; grind
theorem magQ_mul {e g : Int} {x y : Rat} (h : magQ e x) (k : magQ g y) : magQ (e + g) (x * y) := by
 obtain ⟨a, b⟩ := h
 obtain ⟨c, d⟩ := k
 have q1 := mulq_nn (a := p2 e - x) (b := p2 g + y) (by grind) (by grind)
 have q2 := mulq_nn (a := p2 e + x) (b := p2 g - y) (by grind) (by grind)
 have q3 := mulq_nn (a := p2 e - x) (b := p2 g - y) (by grind) (by grind)
 have q4 := mulq_nn (a := p2 e + x) (b := p2 g + y) (by grind) (by grind)
 unfold magQ
 rw [p2_add]
 exact ⟨by grind, by grind⟩
theorem magQ_pow {e : Int} {x : Rat} (h : magQ e x) : ∀ k : Nat, magQ (e * k) (powQ x k)
 | 0 => by
  show magQ (e * ((0 : Nat) : Int)) 1
  rw [Int.natCast_zero, Int.mul_zero]
  unfold magQ
  rw [p2_zero]
  exact ⟨by decide, Rat.le_refl⟩
 | k + 1 => by
  show magQ _ (powQ x k * x)
  rw [show e * ((k + 1 : Nat) : Int) = e * k + e from by rw [Int.natCast_add, Int.mul_add]; omega]
  exact magQ_mul (magQ_pow h k) h
theorem lu_mag {L U : Nat} {x : Rat} (h : luQ L U x) : magQ U x := by
 obtain ⟨z, rfl, hz⟩ := h
 have e : p2 (U : Int) = qM (2 ^ (L + U)) (-(L : Int)) := by
  rw [p2_qM, show (U : Int) = -(L : Int) + ((L + U : Nat) : Int) from by omega, ← qM_pow, Int.one_mul]
 have hz2 : (z.natAbs : Int) ≤ 2 ^ (L + U) := by
  have : ((2 ^ (L + U) : Nat) : Int) = 2 ^ (L + U) := by simp
  rw [← this]; exact_mod_cast hz
 unfold magQ
 rw [e, ← qM_neg, qM_le, qM_le]
 omega
theorem fits_p2n (p : Nat) (e : Int) : fitsQ p (-(p2 e)) := ⟨-1, e, by rw [p2_qM, qM_neg], Nat.one_le_two_pow⟩
theorem mag_round {e : Int} {v : Vl} {p : Nat} (hp : 1 ≤ p) (h : magQ e (qV v)) (up : Bool) : magQ e (qV (roundV v p up)) := by
 have dn : ∀ w : Vl, magQ e (qV w) → magQ e (qV (roundV w p false)) := fun w hw => ⟨round_most hp (fits_p2n p e) hw.1, Rat.le_trans (roundV_le w p) hw.2⟩
 cases up with
 | false => exact dn v h
 | true =>
  rw [round_turn]
  refine magQ_neg (dn _ ?_)
  rw [qV_turn]; exact magQ_neg h
def ampI (e : Int) (a : Ivl) : Prop := magQ e (qN a.lo) ∧ magQ e (qN a.hi)
theorem ampI.up {e g : Int} {a : Ivl} (h : ampI e a) (he : e ≤ g) : ampI g a := ⟨h.1.up he, h.2.up he⟩
theorem ampI_mem {e : Int} {a : Ivl} (h : ampI e a) {X : Rat} (hX : memI X a) : magQ e X := ⟨Rat.le_trans h.1.1 hX.1, Rat.le_trans hX.2 h.2.2⟩
theorem luI_mag {L U : Nat} {a : Ivl} (h : luI L U a) : ampI U a := ⟨lu_mag h.2.1, lu_mag h.2.2⟩
theorem opI_mag {k : Nat} {a b : Ivl} {p : Int} {g : Int} (h : (opI k a b p).2 = 0) (hx : ∀ X U, memI X a → memI U b → magQ g (exQ k X U)) : ampI g (opI k a b p).1 := by
 have r := opI_need h
 obtain ⟨e1, e2⟩ := opI_ends h
 have pp := precF_pos r.2.2
 obtain ⟨X, U, x1, x2, x3⟩ := lo_at k r.1 r.2.1
 obtain ⟨Y, V, y1, y2, y3⟩ := hi_at k r.1 r.2.1
 refine ⟨?_, ?_⟩
 · rw [e1]; exact mag_round pp (by rw [x3]; exact hx X U x1 x2) _
 · rw [e2]; exact mag_round pp (by rw [y3]; exact hx Y V y1 y2) _
theorem opI_mag2 {a b : Ivl} {p : Int} {e g : Int} (h : (opI 2 a b p).2 = 0) (ha : ampI e a) (hb : ampI g b) : ampI (e + g) (opI 2 a b p).1 :=
 opI_mag h fun X U hX hU => by rw [exQ2]; exact magQ_mul (ampI_mem ha hX) (ampI_mem hb hU)
theorem opI_mag0 {a b : Ivl} {p : Int} {e : Int} (h : (opI 0 a b p).2 = 0) (ha : ampI e a) (hb : ampI e b) : ampI (e + 1) (opI 0 a b p).1 :=
 opI_mag h fun X U hX hU => by rw [exQ0]; exact magQ_add (ampI_mem ha hX) (ampI_mem hb hU)
theorem powI_mag {a : Ivl} {k p : Int} {e : Int} (h : (powI a k p).2 = 0) (ha : ampI e a) : ampI (e * k.toNat) (powI a k p).1 := by
 have r := powI_need h
 obtain ⟨e1, e2⟩ := powI_ends h
 have pp := precF_pos r.2.2.2
 obtain ⟨X, x1, x3⟩ := powLo_at r.1 k.toNat
 obtain ⟨Y, y1, y3⟩ := powHi_at r.1 k.toNat
 refine ⟨?_, ?_⟩
 · rw [e1]; exact mag_round pp (by rw [x3]; exact magQ_pow (ampI_mem ha x1) _) _
 · rw [e2]; exact mag_round pp (by rw [y3]; exact magQ_pow (ampI_mem ha y1) _) _
theorem overF_mag {m : Mn} {b : List Ivl} {p : Int} {c e : Int} (hc : magQ c (qN m.c)) (hk : rightK m.ks = true) : ∀ i, i ≤ m.ks.length → (∀ j, j < i → ampI e (b.getD j default)) → (overF m b p i).2 = 0 → ampI (c + e * sumK m.ks i) (overF m b p i).1
 | 0, _, _, _ => by
  have : sumK m.ks 0 = 0 := rfl
  rw [this, Int.natCast_zero, Int.mul_zero, Int.add_zero]
  exact ⟨hc, hc⟩
 | i + 1, hi, hb, h => by
  have ih := overF_mag (e := e) hc hk i (by omega) (fun j hj => hb j (by omega)) (overF_prev h)
  have hs := rightK_pre hk (i + 1) hi
  have hs0 := rightK_pre hk i (by omega)
  have hat := rightK_at hk i (by omega)
  have hst := sum_take m.ks i (by omega)
  have hsum : sumK m.ks (i + 1) = sumK m.ks i + (m.ks.getD i 0).toNat := by unfold sumK; omega
  rcases overF_step h with ⟨d, q⟩ | ⟨d, d2, q⟩
  · rw [q, hsum, d]; exact ih
  · rw [q] at h ⊢
    have := opI_mag2 h ih (powI_mag d2 (hb i (by omega)))
    rw [hsum, Int.natCast_add, Int.mul_add, ← Int.add_assoc]
    exact this
theorem rangeF_mag {q : List Mn} {b : List Ivl} {p : Int} {g : Int} : ∀ i, (∀ j, j < i → (overF (q.getD j default) b p b.length).2 = 0 → ampI g (overF (q.getD j default) b p b.length).1) → (rangeF q b p i).2 = 0 → ampI (g + i) (rangeF q b p i).1
 | 0, _, _ => by
  have e : qN (default : Ivl).lo = 0 := qM_zero 0
  have e2 : qN (default : Ivl).hi = 0 := qM_zero 0
  exact ⟨by show magQ _ (qN (default : Ivl).lo); rw [e]; exact magQ_zero _, by show magQ _ (qN (default : Ivl).hi); rw [e2]; exact magQ_zero _⟩
 | i + 1, hj, h => by
  obtain ⟨c1, c2, e⟩ := rangeF_prev h
  have ih := rangeF_mag i (fun j hjl => hj j (by omega)) c1
  rw [e] at h ⊢
  have := opI_mag0 h ih ((hj i (by omega) c2).up (by omega))
  rw [show g + ((i + 1 : Nat) : Int) = g + i + 1 from by omega]
  exact this
theorem blowI_ends {a : Ivl} {p : Int} (h : (blowI a p).2 = 0) : ∃ s : Rat, qN a.hi - qN a.lo ≤ s * 4 ∧ 0 ≤ s ∧
  (∃ v : Vl, canV v ∧ qV v = qN a.lo - s ∧ qN (blowI a p).1.lo = qV (roundV v p.toNat false)) ∧ (∃ v : Vl, canV v ∧ qV v = qN a.hi + s ∧ qN (blowI a p).1.hi = qV (roundV v p.toNat true)) ∧ ∃ w : Vl, canV w ∧ qV w = qN a.hi - qN a.lo ∧ s * 4 = qV (roundV w p.toNat true) := by
 obtain ⟨w0, s0, l0, h0, e⟩ := blowI_get h
 have hw := wideI_val w0
 obtain ⟨wn, pp⟩ := wideI_need w0
 have hs := (scaleN_val (x := (wideI a p).1) (k := 2) s0).2
 have hr := reckN_need l0
 have hr2 := reckN_need h0
 rw [show p2 ((2 : Nat) : Int) = 4 from p2_two] at hs
 rw [show -((2 : Nat) : Int) = -2 from rfl] at hs
 have hge := roundV_ge (lessV (ofN a.hi) (ofN a.lo)) p.toNat
 rw [← hw, qV_less, qV_ofN, qV_ofN] at hge
 have hle := qI_le wn
 rw [qV_ofN, qV_ofN] at hle
 have ca := canI wn
 refine ⟨qN (scaleN (wideI a p).1 (-2)).1, by rw [hs]; exact hge, by grind, ⟨exV 1 (ofN a.lo) (ofN (scaleN (wideI a p).1 (-2)).1), canV_ex 1 ca.1 (canV_ofN hr.2.1), by rw [qV_ex, exQ1, qV_ofN, qV_ofN], ?_⟩,
  ⟨exV 0 (ofN a.hi) (ofN (scaleN (wideI a p).1 (-2)).1), canV_ex 0 ca.2 (canV_ofN hr.2.1), by rw [qV_ex, exQ0, qV_ofN, qV_ofN], ?_⟩, lessV (ofN a.hi) (ofN a.lo), canV_less ca.2 ca.1, by rw [qV_less, qV_ofN, qV_ofN], by rw [hs, hw]⟩
 · rw [e]; exact reckN_val l0
 · rw [e]; exact reckN_val h0
theorem blowI_right {a : Ivl} {p : Int} (h : (blowI a p).2 = 0) : rightI (blowI a p).1 = true ∧ subI a (blowI a p).1 := by
 obtain ⟨s, h1, h2, ⟨v, _, h3, h4⟩, ⟨u, _, h5, h6⟩, _⟩ := blowI_ends h
 obtain ⟨w0, s0, l0, h0, e⟩ := blowI_get h
 have wn := (wideI_need w0).1
 have q1 := roundV_le v p.toNat
 have q2 := roundV_ge u p.toNat
 have hle := qI_le wn
 rw [qV_ofN, qV_ofN] at hle
 have hs : subI a (blowI a p).1 := ⟨by rw [h4]; grind, by rw [h6]; grind⟩
 refine ⟨rightI_mk ?_ ?_ (cmpN_le.2 ?_), hs⟩
 · rw [e]; exact reckN_right _ _ _ _ _
 · rw [e]; exact reckN_right _ _ _ _ _
 · have := hs.1
   have := hs.2
   grind
theorem blowI_mag {a : Ivl} {p : Int} {e : Int} (h : (blowI a p).2 = 0) (ha : ampI e a) : ampI (e + 1) (blowI a p).1 := by
 have pp := precF_pos (wideI_need (blowI_get h).1).2
 obtain ⟨s, h1, h2, ⟨v, _, h3, h4⟩, ⟨u, _, h5, h6⟩, w, _, h7, h8⟩ := blowI_ends h
 have m1 : magQ (e + 1) (s * 4) := by
  rw [h8]
  refine mag_round pp ?_ _
  rw [h7, Rat.sub_eq_add_neg]
  exact magQ_add ha.2 (magQ_neg ha.1)
 have m2 : magQ e s := by
  have := m1.2
  have := m1.1
  have e2 := p2_succ e
  have := p2_pos e
  exact ⟨by grind, by grind⟩
 refine ⟨?_, ?_⟩
 · rw [h4]
   refine mag_round pp ?_ _
   rw [h3, Rat.sub_eq_add_neg]; exact magQ_add ha.1 (magQ_neg m2)
 · rw [h6]
   refine mag_round pp ?_ _
   rw [h5]; exact magQ_add ha.2 m2
theorem reckN_lu {k L U : Nat} {x y : Nm} {p : Int} (hk : k < 2) (hx : rightN x = true) (hy : rightN y = true) (h1 : luQ L U (qN x)) (h2 : luQ L U (qN y)) (hp : precF p = true) (up : Bool) (hb : L + U + 3 ≤ 4096) : (reckN k x y p up).2 = 0 ∧ luQ L (U + 2) (qN (reckN k x y p up).1) := by
 have hc : canV (exV k (ofN x) (ofN y)) := canV_ex k (canV_ofN hx) (canV_ofN hy)
 have hq : qV (exV k (ofN x) (ofN y)) = exQ k (qN x) (qN y) := by rw [qV_ex]; rfl
 have hl : luQ L (U + 1) (qV (exV k (ofN x) (ofN y))) := by
  rw [hq]
  unfold exQ
  split
  · exact luQ_add h1 h2
  · rw [if_pos (by omega)]; exact luQ_sub h1 h2
 have hr := luV_round hc hl p.toNat (precF_pos hp) up
 have hf : (reckN k x y p up).2 = 0 := by
  unfold reckN
  rw [if_pos ⟨hx, hy, hp⟩]
  exact luV_fits (canV_round hc _ _) hr (by omega)
 exact ⟨hf, by rw [reckN_val hf]; exact hr⟩
theorem blowI_lu {L U : Nat} {a : Ivl} {p : Int} (ha : luI L U a) (hp : precF p = true) (hb : L + U + 8 ≤ 4096) : (blowI a p).2 = 0 ∧ luI (L + 2) (U + 4) (blowI a p).1 := by
 have ca := canI ha.1
 have rr := rightI_right ha.1
 have hl : luQ L (U + 1) (qV (lessV (ofN a.hi) (ofN a.lo))) := by rw [qV_less, qV_ofN, qV_ofN]; exact luQ_sub ha.2.2 ha.2.1
 have cl := canV_less ca.2 ca.1
 have hr := luV_round cl hl p.toNat (precF_pos hp) true
 have w0 : (wideI a p).2 = 0 := by
  unfold wideI
  rw [if_pos ⟨ha.1, hp⟩]
  exact luV_fits (canV_round cl _ _) hr (by omega)
 rw [← wideI_val w0] at hr
 obtain ⟨s0, s1⟩ := scaleN_lu (k := 2) (wideI_right a p) hr (by omega) (by omega)
 rw [show -((2 : Nat) : Int) = -2 from rfl] at s0 s1
 have sr := scaleN_right (wideI a p).1 (-2)
 obtain ⟨l0, l1⟩ := reckN_lu (k := 1) (by omega) rr.1 sr (ha.2.1.mono (L' := L + 2) (U' := U + 2) (by omega) (by omega)) s1 hp false (by omega)
 obtain ⟨h0, h1⟩ := reckN_lu (k := 0) (by omega) rr.2.1 sr (ha.2.2.mono (L' := L + 2) (U' := U + 2) (by omega) (by omega)) s1 hp true (by omega)
 have hb0 := blowI_mk w0 s0 l0 h0
 refine ⟨hb0, (blowI_right hb0).1, ?_, ?_⟩
 · rw [(blowI_get hb0).2.2.2.2]; exact l1
 · rw [(blowI_get hb0).2.2.2.2]; exact h1
end Go.Pv
end

section
/- For a short time a box is found. No program in it. -/
namespace Go.Pv
def okPolyT (n M : Nat) (D : Int) (p : List Mn) : Prop := rightP p n = true ∧ p.length ≤ M ∧ ∀ m ∈ p, okMn n 6 (8 + M) D m
def okFieldT (n M : Nat) (D : Int) (f : List (List Mn)) : Prop := f.length = n ∧ ∀ p ∈ f, okPolyT n M D p
theorem okFieldT.ok {n M : Nat} {D : Int} {f : List (List Mn)} (h : okFieldT n M D f) : okField n M D f := ⟨h.1, fun p hp => ⟨(h.2 p hp).1, (h.2 p hp).2.1, fun m hm => by
 obtain ⟨a1, a2, a3, a4, a5, a6⟩ := (h.2 p hp).2.2 m hm
 exact ⟨a1, a2, a3, a4, a5, a6.mono (by omega) (by omega)⟩⟩⟩
theorem okFieldT.at {n M : Nat} {D : Int} {f : List (List Mn)} (h : okFieldT n M D f) {i j : Nat} (hi : i < f.length) (hj : j < (f.getD i []).length) : okMn n 6 (8 + M) D ((f.getD i []).getD j default) := by
 have e : f.getD i [] = f[i] := by simp [List.getD_eq_getElem?_getD, hi]
 rw [e] at hj ⊢
 exact getD_mem' (h.2 _ (List.getElem_mem hi)).2.2 hj
theorem sumK_le {ks : List Int} {D : Int} (hr : rightK ks = true) (h : ks.sum ≤ D) {i : Nat} (hi : i ≤ ks.length) : (sumK ks i : Int) ≤ D := by
 have h0 := rightK_pre hr i hi
 have h1 : (ks.take i).sum ≤ ks.sum := by
  have hk := ((rightK_iff ks).1 hr).1
  have : ∀ (l : List Int) (n : Nat), (∀ j, j < l.length → 0 ≤ l.getD j 0) → (l.take n).sum ≤ l.sum := by
   intro l
   induction l with
   | nil => intro n _; simp
   | cons x l ih =>
    intro n hp
    have hx : 0 ≤ x := hp 0 (by simp)
    have hp' : ∀ j, j < l.length → 0 ≤ l.getD j 0 := fun j hj => by have := hp (j + 1) (by simpa using hj); simpa using this
    cases n with
    | zero =>
     have := ih 0 hp'
     simp at this ⊢; omega
    | succ n =>
     have := ih n hp'
     simp; omega
  exact this ks i hk
 unfold sumK; omega
theorem rangeT_mag {n : Nat} {f : List (List Mn)} {a : List Ivl} {p : Int} {e : Int} (he : 0 ≤ e) (hf : okFieldT n 3 3 f) (hl : a.length = n) {i : Nat} (hi : i < n) (ha : ∀ j, j < n → ampI e (a.getD j default)) (h0 : (rangeF (f.getD i []) a p (f.getD i []).length).2 = 0) :
  ampI (14 + e * 3) (rangeF (f.getD i []) a p (f.getD i []).length).1 := by
 have hfl := hf.1
 have hlen : (f.getD i []).length ≤ 3 := by
  have e : f.getD i [] = f[i]'(by omega) := by simp [List.getD_eq_getElem?_getD, (by omega : i < f.length)]
  rw [e]; exact (hf.2 _ (List.getElem_mem _)).2.1
 refine (rangeF_mag (g := 11 + e * 3) _ (fun j hj c => ?_) h0).up (by omega)
 obtain ⟨a1, a2, a3, a4, a5, a6⟩ := hf.at (by omega : i < f.length) hj
 have hs := sumK_le a2 a3 (i := a.length) (by omega)
 have hm := overF_mag (c := 11) (e := e) (p := p) ((lu_mag a6).up (by omega)) a2 a.length (by omega) (fun j hj => ha j (by omega)) c
 refine hm.up ?_
 have : e * (sumK ((f.getD i []).getD j default).ks a.length : Int) ≤ e * 3 := Int.mul_le_mul_of_nonneg_left hs he
 omega
theorem hull_lu {L U : Nat} {a b : Ivl} (ha : luI L U a) (hb : luI L U b) : luI L U ⟨leastN a.lo b.lo, greatN a.hi b.hi⟩ ∧ subI a ⟨leastN a.lo b.lo, greatN a.hi b.hi⟩ ∧ subI b ⟨leastN a.lo b.lo, greatN a.hi b.hi⟩ := by
 have hr : rightI (⟨leastN a.lo b.lo, greatN a.hi b.hi⟩ : Ivl) = true := by
  have := hullI_right ha.1 hb.1
  rw [hullI_ok ha.1 hb.1] at this; exact this
 obtain ⟨q1, q2, q3⟩ := least_q a.lo b.lo
 obtain ⟨g1, g2, g3⟩ := great_q a.hi b.hi
 refine ⟨⟨hr, ?_, ?_⟩, ⟨q2, g2⟩, ⟨q3, g3⟩⟩
 · rcases q1 with q1 | q1
   · show luQ L U (qN (leastN a.lo b.lo)); rw [q1]; exact ha.2.1
   · show luQ L U (qN (leastN a.lo b.lo)); rw [q1]; exact hb.2.1
 · rcases g1 with g1 | g1
   · show luQ L U (qN (greatN a.hi b.hi)); rw [g1]; exact ha.2.2
   · show luQ L U (qN (greatN a.hi b.hi)); rw [g1]; exact hb.2.2
theorem hull_mag {e : Int} {a b : Ivl} (ha : ampI e a) (hb : ampI e b) : ampI e ⟨leastN a.lo b.lo, greatN a.hi b.hi⟩ := by
 obtain ⟨q1, q2, q3⟩ := least_q a.lo b.lo
 obtain ⟨g1, g2, g3⟩ := great_q a.hi b.hi
 refine ⟨?_, ?_⟩
 · rcases q1 with q1 | q1
   · show magQ e (qN (leastN a.lo b.lo)); rw [q1]; exact ha.1
   · show magQ e (qN (leastN a.lo b.lo)); rw [q1]; exact hb.1
 · rcases g1 with g1 | g1
   · show magQ e (qN (greatN a.hi b.hi)); rw [g1]; exact ha.2
   · show magQ e (qN (greatN a.hi b.hi)); rw [g1]; exact hb.2
def hFind : Nm := ⟨false, -60, [1]⟩
theorem hFind_q : qN hFind = p2 (-60) := by rw [p2_qM]; rfl
theorem hFind_right : rightN hFind = true := by decide
theorem hFind_pos : 0 < qN hFind := by rw [hFind_q]; exact p2_pos _
theorem hFind_lu : luI 60 0 ⟨default, hFind⟩ := ⟨time_right hFind_right hFind_pos, by show luQ 60 0 (qN default); rw [qN_dflt]; exact luQ_zero _ _, by show luQ 60 0 (qN hFind); rw [hFind_q]; exact ⟨1, p2_qM _, by decide⟩⟩
theorem hFind_mag : ampI (-60) ⟨default, hFind⟩ := ⟨by show magQ _ (qN default); rw [qN_dflt]; exact magQ_zero _, by show magQ _ (qN hFind); rw [hFind_q]; have := p2_pos (-60); exact ⟨by grind, Rat.le_refl⟩⟩
theorem next_find {n : Nat} {f : List (List Mn)} {x a : List Ivl} {p : Int} {L U : Nat} {e : Int} (hf : okFieldT n 3 3 f) (hn1 : 1 ≤ n) (hn4 : n ≤ 4) (hx : x.length = n) (hxl : ∀ j, j < n → luI 6 9 (x.getD j default)) (ha : a.length = n) (hal : ∀ j, j < n → luI L U (a.getD j default)) (hL : 6 ≤ L) (hU : 9 ≤ U)
  (hp : precF p = true) (hbd : 400 + 8 * L + 8 * U ≤ 4096) (he : 0 ≤ e) (he2 : 14 + e * 3 ≤ 52) (ham : ∀ j, j < n → ampI e (a.getD j default)) :
  NextOK f x a hFind p ∧ ∀ j, j < n → luI (72 + L * 8) (50 + U * 8) ((nextP f x a hFind p).1.getD j default) ∧ ampI (-8) (opI 2 ⟨default, hFind⟩ (rangeF (f.getD j []) a p (f.getD j []).length).1 p).1 := by
 have hfl := hf.1
 obtain ⟨r1, r2, r3⟩ := rangeFd_small (L := L) (U := U) hf.ok (by omega) ha hn1 hn4 (fun j hj => hal j (by omega)) hp (by omega)
 have ht : ∀ j, j < n → _ := fun j hj => opI_lu2 hFind_lu (r3 j hj).2.2 hp (by omega)
 have hs : ∀ j, j < n → _ := fun j hj => opI_lu (k := 0) (by omega) ((hxl j hj).mono (L' := 60 + (12 + L * 8)) (U' := 0 + (26 + 3 + U * 8 + 2 * 3) + 1) (by omega) (by omega)) (ht j hj).2 hp (by omega)
 have hrx : rightB x = true := rightB_mk (fun j hj => (hxl j (by omega)).1) (by omega) (by omega)
 have hra : rightB a = true := rightB_mk (fun j hj => (hal j (by omega)).1) (by omega) (by omega)
 have N : NextOK f x a hFind p := nextP_mk (hf.ok.right hn1 hn4) hrx hra (by omega) (by omega) hFind_right hFind_pos hp r1 (fun j hj => (ht j (by omega)).1) (fun j hj => (hs j (by omega)).1)
 refine ⟨N, fun j hj => ?_⟩
 have A := N.at (j := j) (by omega)
 refine ⟨by rw [A.val]; exact (hs j hj).2.mono (by omega) (by omega), ?_⟩
 have m := rangeT_mag he hf ha hj ham (r3 j hj).2.1
 exact (opI_mag2 (ht j hj).1 hFind_mag m).up (by omega)
theorem finds {n : Nat} {f : List (List Mn)} {x : List Ivl} {p : Int} (hf : okFieldT n 3 3 f) (hn1 : 1 ≤ n) (hn4 : n ≤ 4) (hx : x.length = n) (hxl : ∀ j, j < n → luI 6 9 (x.getD j default)) (hw : ∀ j, j < n → qN (x.getD j default).lo + p2 (-6) ≤ qN (x.getD j default).hi) (hp : precF p = true) :
  (boxP f x hFind p).2 = true := by
 have pp := precF_pos hp
 obtain ⟨N0, H0⟩ := next_find (e := 9) hf hn1 hn4 hx hxl hx hxl (by omega) (by omega) hp (by omega) (by omega) (by omega) (fun j hj => luI_mag (hxl j hj))
 have hfl := hf.1
 have hb0l : (nextP f x x hFind p).1.length = n := by rw [N0.len, hfl]
 have b0m : ∀ j, j < n → ampI 10 ((nextP f x x hFind p).1.getD j default) := fun j hj => by
  have A := N0.at (j := j) (by omega)
  rw [A.val]
  exact opI_mag0 (e := 9) A.s0 (luI_mag (hxl j hj)) ((H0 j hj).2.up (by omega))
 obtain ⟨u1, u2, u3⟩ := hullB_all N0.rx N0.rightB (by omega)
 have b0lu : ∀ j, j < n → luI 120 122 ((nextP f x x hFind p).1.getD j default) := fun j hj => (H0 j hj).1
 have hB := N0.rightB
 generalize hb0 : (nextP f x x hFind p).1 = b0 at *
 have hd : ∀ j, j < n → luI 120 122 ((hullB x b0).1.getD j default) ∧ subI (x.getD j default) ((hullB x b0).1.getD j default) ∧ ampI 10 ((hullB x b0).1.getD j default) := fun j hj => by
  rw [u3 j (by omega)]
  obtain ⟨h1, h2, _⟩ := hull_lu ((hxl j hj).mono (L' := 120) (U' := 122) (by omega) (by omega)) (b0lu j hj)
  exact ⟨h1, h2, hull_mag ((luI_mag (hxl j hj)).up (by omega)) (b0m j hj)⟩
 have rd : rightB (hullB x b0).1 = true := rightB_mk (fun j hj => (hd j (by omega)).1.1) (by omega) (by omega)
 have hbl : ∀ j, j < n → _ := fun j hj => blowI_lu (p := p) (hd j hj).1 hp (by omega)
 have w0 : (blowB (hullB x b0).1 p).2 = 0 := blowB_all ⟨rd, hp⟩ fun j hj => (hbl j (by omega)).1
 obtain ⟨_, v1, v2, v3⟩ := blowB_get w0
 have hwid : widerP x b0 p = blowB (hullB x b0).1 p := by unfold widerP; rw [if_pos u1]
 generalize hd0 : (hullB x b0).1 = d at *
 have ha1 : ∀ j, j < n → (blowB d p).1.getD j default = (blowI (d.getD j default) p).1 := fun j hj => v3 j (by omega)
 have a1l : (blowB d p).1.length = n := by omega
 have a1lu : ∀ j, j < n → luI 122 126 ((blowB d p).1.getD j default) := fun j hj => by rw [ha1 j hj]; exact (hbl j hj).2
 have a1m : ∀ j, j < n → ampI 11 ((blowB d p).1.getD j default) := fun j hj => by rw [ha1 j hj]; exact blowI_mag (hbl j hj).1 (hd j hj).2.2
 obtain ⟨N1, H1⟩ := next_find (e := 11) hf hn1 hn4 hx hxl a1l a1lu (by omega) (by omega) hp (by omega) (by omega) (by omega) a1m
 have hin : inB (nextP f x (blowB d p).1 hFind p).1 (blowB d p).1 = true := by
  refine inB_sub.2 ⟨N1.rightB, N1.ra, by rw [N1.len, a1l, hfl], fun j hj => ?_⟩
  have hj : j < n := by rw [N1.len] at hj; omega
  have A := N1.at (j := j) (by omega)
  obtain ⟨e1, e2⟩ := opI_ends A.s0
  have r := opI_need A.s0
  obtain ⟨s, s1, s2, ⟨v, _, v1, v2⟩, ⟨u, _, u1, u2⟩, _⟩ := blowI_ends (hbl j hj).1
  have hm := (H1 j hj).2
  have hsub := (hd j hj).2.1
  have hww := hw j hj
  have q64 : p2 (-6) = p2 (-8) * 4 := by
   have := p2_add (-8) 2
   rw [p2_two] at this; exact this
  rw [A.val, ha1 j hj]
  refine ⟨?_, ?_⟩
  · rw [v2, e1]
    refine roundV_mono pp ?_
    rw [v1, loV0, qV_plus, qV_ofN, qV_ofN]
    have := hm.1.1
    have := hsub.1
    have := hsub.2
    grind
  · rw [u2, e2]
    refine roundV_mono_up pp ?_
    rw [u1, hiV0, qV_plus, qV_ofN, qV_ofN]
    have := hm.2.2
    have := hsub.1
    have := hsub.2
    grind
 unfold boxP
 rw [triesL_succ, if_pos (nextP_iff.2 N0), hb0, hwid, if_pos w0, triesL_succ, if_pos (nextP_iff.2 N1)]
 simp only [Bool.false_eq_true, if_false, if_true, List.nil_append, List.cons_append]
 rw [boxL_cons, if_pos hin]
end Go.Pv
end

section
/- Multiples of powers of two, values of few bits, rounding by what it is. No program in it. -/
namespace Go.Pv
def mulQ (L : Nat) (x : Rat) : Prop := ∃ z : Int, x = qM z (-(L : Int))
theorem luQ.mul {L U : Nat} {x : Rat} (h : luQ L U x) : mulQ L x := by
 obtain ⟨z, h1, _⟩ := h
 exact ⟨z, h1⟩
theorem mulQ.lu {L : Nat} {x : Rat} (h : mulQ L x) : ∃ U, luQ L U x := by
 obtain ⟨z, h1⟩ := h
 exact ⟨z.natAbs, z, h1, Nat.le_trans (Nat.le_of_lt Nat.lt_two_pow_self) (Nat.pow_le_pow_right (by decide) (by omega))⟩
theorem mulQ_zero (L : Nat) : mulQ L 0 := ⟨0, (qM_zero _).symm⟩
theorem mulQ.down {L L' : Nat} {x : Rat} (h : mulQ L x) (hl : L ≤ L') : mulQ L' x := by
 obtain ⟨U, h⟩ := h.lu
 exact (h.down hl).mul
theorem mulQ_neg {L : Nat} {x : Rat} (h : mulQ L x) : mulQ L (-x) := by
 obtain ⟨z, rfl⟩ := h
 exact ⟨-z, (qM_neg _ _).symm⟩
theorem mulQ_add {L : Nat} {x y : Rat} (h : mulQ L x) (k : mulQ L y) : mulQ L (x + y) := by
 obtain ⟨z, rfl⟩ := h
 obtain ⟨w, rfl⟩ := k
 exact ⟨z + w, (qM_add _ _ _).symm⟩
theorem mulQ_sub {L : Nat} {x y : Rat} (h : mulQ L x) (k : mulQ L y) : mulQ L (x - y) := by
 rw [Rat.sub_eq_add_neg]; exact mulQ_add h (mulQ_neg k)
theorem mulQ_mul {L L' : Nat} {x y : Rat} (h : mulQ L x) (k : mulQ L' y) : mulQ (L + L') (x * y) := by
 obtain ⟨z, rfl⟩ := h
 obtain ⟨w, rfl⟩ := k
 exact ⟨z * w, by rw [show -((L + L' : Nat) : Int) = -(L : Int) + -(L' : Int) from by omega, qM_mul]⟩
theorem mulQ_pow {L : Nat} {x : Rat} (h : mulQ L x) : ∀ k : Nat, mulQ (L * k) (powQ x k)
 | 0 => ⟨1, by show (1 : Rat) = _; rw [Nat.mul_zero, ← p2_qM]; exact p2_zero.symm⟩
 | k + 1 => by
  show mulQ _ (powQ x k * x)
  rw [Nat.mul_succ]; exact mulQ_mul (mulQ_pow h k) h
theorem mulQ_quarter {L : Nat} {x : Rat} (h : mulQ L (x * 4)) : mulQ (L + 2) x := by
 obtain ⟨z, hz⟩ := h
 refine ⟨z, ?_⟩
 have e : qM z (-((L + 2 : Nat) : Int)) * 4 = qM z (-(L : Int)) := by
  unfold qM
  rw [Rat.mul_assoc, ← p2_two, ← p2_add]
  congr 2
  omega
 rw [← e] at hz
 grind
theorem mulQ_pos {L : Nat} {x : Rat} (h : mulQ L x) (h0 : 0 < x) : p2 (-(L : Int)) ≤ x := by
 obtain ⟨z, rfl⟩ := h
 rw [p2_qM, qM_le]
 rw [← qM_zero (-(L : Int)), qM_lt] at h0
 omega
theorem mulQ_round {L : Nat} {v : Vl} (hc : canV v) (h : mulQ L (qV v)) {p : Nat} (hp : 1 ≤ p) (up : Bool) : mulQ L (qV (roundV v p up)) := by
 obtain ⟨U, h⟩ := h.lu
 exact (luV_round hc h p hp up).mul
theorem p2_le {a b : Int} (h : p2 a ≤ p2 b) : a ≤ b := by
 apply Int.not_lt.1
 intro hlt
 have h1 := p2_mono (show b + 1 ≤ a by omega)
 rw [p2_succ] at h1
 have := p2_pos b
 grind
theorem fits_neg {p : Nat} {x : Rat} (h : fitsQ p x) : fitsQ p (-x) := by
 obtain ⟨m, e, rfl, hm⟩ := h
 exact ⟨-m, e, (qM_neg _ _).symm, by rw [Int.natAbs_neg]; exact hm⟩
theorem fits_scale {p : Nat} {x : Rat} (h : fitsQ p x) (k : Int) : fitsQ p (x * p2 k) := by
 obtain ⟨m, e, rfl, hm⟩ := h
 exact ⟨m, e + k, by unfold qM; rw [Rat.mul_assoc, ← p2_add], hm⟩
theorem fits_zero (p : Nat) : fitsQ p 0 := ⟨0, 0, (qM_zero 0).symm, Nat.zero_le _⟩
theorem qM_mag {p : Nat} {z e : Int} (h : z.natAbs ≤ 2 ^ p) : magQ (p + e) (qM z e) := by
 have hz : (z.natAbs : Int) ≤ 2 ^ p := by
  have : ((2 ^ p : Nat) : Int) = 2 ^ p := by simp
  rw [← this]; exact_mod_cast h
 have q : p2 ((p : Int) + e) = qM (2 ^ p) e := by
  rw [p2_qM, Int.add_comm, ← qM_pow, Int.one_mul]
 unfold magQ
 rw [q, ← qM_neg, qM_le, qM_le]
 omega
theorem fits_mul {p m : Nat} {x : Rat} (h : fitsQ p x) (hm : p2 (-(m : Int)) ≤ x ∨ x ≤ -(p2 (-(m : Int)))) : mulQ (m + p) x := by
 obtain ⟨z, e, rfl, hz⟩ := h
 have hg := qM_mag (e := e) hz
 have he : p2 (-(m : Int)) ≤ p2 ((p : Int) + e) := by
  rcases hm with hm | hm
  · exact Rat.le_trans hm hg.2
  · have := hg.1; grind
 have := p2_le he
 refine ⟨z * 2 ^ (e + m + p).toNat, ?_⟩
 rw [qM_pow]; congr 1; omega
structure RndDn (p : Nat) (v r : Rat) : Prop where
 le : r ≤ v
 fits : fitsQ p r
 most : ∀ y, fitsQ p y → y ≤ v → y ≤ r
 mul : ∀ L, mulQ L v → mulQ L r
theorem RndDn.ex {p : Nat} {v r : Rat} (h : RndDn p v r) (hv : fitsQ p v) : r = v := Rat.le_antisymm h.le (h.most v hv Rat.le_refl)
theorem RndDn.mono {p : Nat} {v r w q : Rat} (h : RndDn p v r) (k : RndDn p w q) (hle : v ≤ w) : r ≤ q := k.most r h.fits (Rat.le_trans h.le hle)
theorem rnd_dn {v : Vl} (hc : canV v) {p : Nat} (hp : 1 ≤ p) : RndDn p (qV v) (qV (roundV v p false)) := ⟨roundV_le v p, fits_dn v p, fun y hy hle => round_most hp hy hle, fun L hL => mulQ_round hc hL hp _⟩
theorem rnd_up {v : Vl} (hc : canV v) {p : Nat} (hp : 1 ≤ p) : RndDn p (-(qV v)) (-(qV (roundV v p true))) := by
 rw [round_turn, Rat.neg_neg, ← qV_turn]
 exact rnd_dn (canV_turn hc) hp
theorem RndDn.scale {p : Nat} {v r w q : Rat} {k : Int} (h : RndDn p v r) (g : RndDn p w q) (e : v * p2 k = w) : r * p2 k = q := by
 have hk := p2_pos k
 have hk2 := p2_pos (-k)
 have inv : ∀ t : Rat, t * p2 k * p2 (-k) = t := fun t => by rw [Rat.mul_assoc, ← p2_add, Int.add_right_neg, p2_zero, Rat.mul_one]
 have inv2 : ∀ t : Rat, t * p2 (-k) * p2 k = t := fun t => by rw [Rat.mul_assoc, ← p2_add, Int.add_left_neg, p2_zero, Rat.mul_one]
 have le_mul : ∀ {a b : Rat} (j : Int), a ≤ b → a * p2 j ≤ b * p2 j := fun {a b} j hab => by
  have := mulq_nn (a := b - a) (b := p2 j) (by grind) (by have := p2_pos j; grind)
  grind
 have h1 : r * p2 k ≤ q := g.most _ (fits_scale h.fits k) (by rw [← e]; exact le_mul k h.le)
 have h2 : q * p2 (-k) ≤ r := h.most _ (fits_scale g.fits (-k)) (by rw [← inv v, e]; exact le_mul (-k) g.le)
 have h3 := le_mul k h2
 rw [inv2] at h3
 exact Rat.le_antisymm h1 h3
def mulI (L : Nat) (a : Ivl) : Prop := mulQ L (qN a.lo) ∧ mulQ L (qN a.hi)
theorem mulI.down {L L' : Nat} {a : Ivl} (h : mulI L a) (hl : L ≤ L') : mulI L' a := ⟨h.1.down hl, h.2.down hl⟩
theorem opI_mul2 {a b : Ivl} {p : Int} {L M : Nat} (h : (opI 2 a b p).2 = 0) (ha : mulI L a) (hb : mulI M b) : mulI (L + M) (opI 2 a b p).1 := by
 have r := opI_need h
 obtain ⟨e1, e2⟩ := opI_ends h
 have pp := precF_pos r.2.2
 have ca := canI r.1
 have cb := canI r.2.1
 refine ⟨?_, ?_⟩
 · rw [e1]
   refine mulQ_round (canV_lo 2 ca.1 ca.2 cb.1 cb.2) ?_ pp _
   show mulQ _ (qV (leastV (ofN a.lo) (ofN a.hi) (ofN b.lo) (ofN b.hi)))
   rcases leastV_one (ofN a.lo) (ofN a.hi) (ofN b.lo) (ofN b.hi) with q | q | q | q
   · rw [q, qV_by]; exact mulQ_mul ha.1 hb.1
   · rw [q, qV_by]; exact mulQ_mul ha.1 hb.2
   · rw [q, qV_by]; exact mulQ_mul ha.2 hb.1
   · rw [q, qV_by]; exact mulQ_mul ha.2 hb.2
 · rw [e2]
   refine mulQ_round (canV_hi 2 ca.1 ca.2 cb.1 cb.2) ?_ pp _
   show mulQ _ (qV (greatV (ofN a.lo) (ofN a.hi) (ofN b.lo) (ofN b.hi)))
   rcases greatV_one (ofN a.lo) (ofN a.hi) (ofN b.lo) (ofN b.hi) with q | q | q | q
   · rw [q]; exact mulQ_mul ha.1 hb.1
   · rw [q]; exact mulQ_mul ha.1 hb.2
   · rw [q]; exact mulQ_mul ha.2 hb.1
   · rw [q]; exact mulQ_mul ha.2 hb.2
theorem opI_mul0 {a b : Ivl} {p : Int} {L : Nat} (h : (opI 0 a b p).2 = 0) (ha : mulI L a) (hb : mulI L b) : mulI L (opI 0 a b p).1 := by
 have r := opI_need h
 obtain ⟨e1, e2⟩ := opI_ends h
 have pp := precF_pos r.2.2
 have ca := canI r.1
 have cb := canI r.2.1
 refine ⟨?_, ?_⟩
 · rw [e1]
   refine mulQ_round (canV_lo 0 ca.1 ca.2 cb.1 cb.2) ?_ pp _
   rw [loV0, qV_plus]; exact mulQ_add ha.1 hb.1
 · rw [e2]
   refine mulQ_round (canV_hi 0 ca.1 ca.2 cb.1 cb.2) ?_ pp _
   rw [hiV0, qV_plus]; exact mulQ_add ha.2 hb.2
theorem powI_mul {a : Ivl} {k p : Int} {L : Nat} (h : (powI a k p).2 = 0) (ha : mulI L a) : mulI (L * k.toNat) (powI a k p).1 := by
 have r := powI_need h
 obtain ⟨e1, e2⟩ := powI_ends h
 have pp := precF_pos r.2.2.2
 have h1 := mulQ_pow ha.1 k.toNat
 have h2 := mulQ_pow ha.2 k.toNat
 refine ⟨?_, ?_⟩
 · rw [e1]
   refine mulQ_round (canV_powLo r.1 _) ?_ pp _
   unfold powLo
   split
   · rw [show qV ⟨false, 0, 0⟩ = 0 from qV_m0 rfl]; exact mulQ_zero _
   · obtain ⟨Y, hY, e, _, _⟩ := pow_min a k.toNat
     rw [e]
     rcases hY with rfl | rfl
     · exact h1
     · exact h2
 · rw [e2]
   refine mulQ_round (canV_powHi r.1 _) ?_ pp _
   obtain ⟨Y, hY, e, _, _⟩ := pow_max a k.toNat
   rw [e]
   rcases hY with rfl | rfl
   · exact h1
   · exact h2
theorem overF_mul {m : Mn} {b : List Ivl} {p : Int} {c L : Nat} (hc : mulQ c (qN m.c)) (hk : rightK m.ks = true) : ∀ i, i ≤ m.ks.length → (∀ j, j < i → mulI L (b.getD j default)) → (overF m b p i).2 = 0 → mulI (c + L * sumK m.ks i) (overF m b p i).1
 | 0, _, _, _ => by
  have : sumK m.ks 0 = 0 := rfl
  rw [this]
  exact ⟨hc, hc⟩
 | i + 1, hi, hb, h => by
  have ih := overF_mul hc hk i (by omega) (fun j hj => hb j (by omega)) (overF_prev h)
  have hs := rightK_pre hk (i + 1) hi
  have hs0 := rightK_pre hk i (by omega)
  have hat := rightK_at hk i (by omega)
  have hst := sum_take m.ks i (by omega)
  have hsum : sumK m.ks (i + 1) = sumK m.ks i + (m.ks.getD i 0).toNat := by unfold sumK; omega
  rcases overF_step h with ⟨d, q⟩ | ⟨d, d2, q⟩
  · rw [q, hsum, d]; exact ih
  · rw [q] at h ⊢
    have := opI_mul2 h ih (powI_mul d2 (hb i (by omega)))
    rw [hsum, Nat.mul_add, ← Nat.add_assoc]
    exact this
theorem rangeF_mul {q : List Mn} {b : List Ivl} {p : Int} {g : Nat} : ∀ i, (∀ j, j < i → (overF (q.getD j default) b p b.length).2 = 0 → mulI g (overF (q.getD j default) b p b.length).1) → (rangeF q b p i).2 = 0 → mulI g (rangeF q b p i).1
 | 0, _, _ => by
  have e : qN (default : Ivl).lo = 0 := qM_zero 0
  have e2 : qN (default : Ivl).hi = 0 := qM_zero 0
  exact ⟨by show mulQ _ (qN (default : Ivl).lo); rw [e]; exact mulQ_zero _, by show mulQ _ (qN (default : Ivl).hi); rw [e2]; exact mulQ_zero _⟩
 | i + 1, hj, h => by
  obtain ⟨c1, c2, e⟩ := rangeF_prev h
  have ih := rangeF_mul i (fun j hjl => hj j (by omega)) c1
  rw [e] at h ⊢
  exact opI_mul0 h ih (hj i (by omega) c2)
theorem range3_mul {n : Nat} {f : List (List Mn)} {a : List Ivl} {p : Int} {L : Nat} (hf : okField n 3 3 f) (hl : a.length = n) {i : Nat} (hi : i < n) (ha : ∀ j, j < n → mulI L (a.getD j default)) (h0 : (rangeF (f.getD i []) a p (f.getD i []).length).2 = 0) :
  mulI (12 + L * 3) (rangeF (f.getD i []) a p (f.getD i []).length).1 := by
 have hfl := hf.1
 refine rangeF_mul _ (fun j hj c => ?_) h0
 obtain ⟨a1, a2, a3, a4, a5, a6⟩ := (hf.at (by omega : i < f.length)).at hj
 have hs := sumK_le a2 a3 (i := a.length) (by omega)
 have hm := overF_mul (L := L) (p := p) a6.mul a2 a.length (by omega) (fun j hj => ha j (by omega)) c
 refine hm.down ?_
 have : L * sumK ((f.getD i []).getD j default).ks a.length ≤ L * 3 := Nat.mul_le_mul_left _ (by omega)
 omega
theorem bits_fit {v : Vl} (hc : canV v) {p : Nat} (h : fitsQ p (qV v)) : bitlen v.m ≤ p + 1 := by
 obtain ⟨z, e, h1, hz⟩ := h
 rcases hc with hm | rfl
 rotate_left
 · show bitlen 0 ≤ _; rw [bitlen_zero]; omega
 rw [bitlen_le_iff]
 have hlt : 2 ^ p < 2 ^ (p + 1) := Nat.pow_lt_pow_right (by decide) (by omega)
 have hn := mant_nat v
 unfold qV at h1
 by_cases he : v.e ≤ e
 · have : qM z e = qM (z * 2 ^ (e - v.e).toNat) v.e := by rw [qM_pow]; congr 1; omega
   rw [this, qM_eq] at h1
   by_cases h0 : (e - v.e).toNat = 0
   · rw [h0, Int.pow_zero, Int.mul_one] at h1
     rw [h1] at hn; omega
   · exfalso
     obtain ⟨d, hd⟩ : ∃ d, (e - v.e).toNat = d + 1 := ⟨(e - v.e).toNat - 1, by omega⟩
     rw [hd, Int.pow_succ, ← Int.mul_assoc] at h1
     rw [h1, Int.natAbs_mul, show (2 : Int).natAbs = 2 from rfl] at hn
     omega
 · have : qM (mantV v) v.e = qM (mantV v * 2 ^ (v.e - e).toNat) e := by rw [qM_pow]; congr 1; omega
   rw [this, qM_eq] at h1
   have h2 : z.natAbs = v.m * 2 ^ (v.e - e).toNat := by rw [← h1, Int.natAbs_mul, Int.natAbs_pow, hn]; rfl
   have h3 : v.m * 1 ≤ v.m * 2 ^ (v.e - e).toNat := Nat.mul_le_mul_left _ (Nat.one_le_two_pow)
   omega
theorem low_mul {v : Vl} (hc : canV v) {L : Nat} (h : mulQ L (qV v)) : v.m = 0 ∨ -(L : Int) ≤ v.e := by
 obtain ⟨U, h⟩ := h.lu
 rcases luV_bits hc h with h | h
 · exact .inl h
 · exact .inr h.1
theorem high_mag {v : Vl} {E : Int} (h : magQ E (qV v)) : v.m = 0 ∨ v.e ≤ E := by
 by_cases h0 : v.m = 0
 · exact .inl h0
 refine .inr (p2_le ?_)
 have hn := mant_nat v
 by_cases hs : 0 < mantV v
 · refine Rat.le_trans ?_ h.2
   unfold qV
   rw [p2_qM, qM_le]; omega
 · have := h.1
   have h2 : qV v ≤ -(p2 v.e) := by
    unfold qV
    rw [p2_qM, ← qM_neg, qM_le]; omega
   grind
theorem numV_okP {v : Vl} (hc : canV v) {p : Nat} (hp : p ≤ 256) (hf : fitsQ p (qV v)) {L : Nat} (hL : L ≤ 65536) (hm : mulQ L (qV v)) (hh : v.m = 0 ∨ v.e ≤ 65536) : (numV v).2 = 0 := by
 have hb := bits_fit hc hf
 rcases low_mul hc hm with h0 | h0
 · unfold numV; rw [if_pos h0]
 rcases hh with h1 | h1
 · unfold numV; rw [if_pos h1]
 exact numV_fits (n := 4096) (k := 65536) ⟨by omega, by omega, by omega⟩ (by omega) (by omega)
theorem numV_high {v : Vl} (h : (numV v).2 = 0) : v.m = 0 ∨ v.e ≤ 65536 := by
 unfold numV at h
 split at h
 · rename_i h0; exact .inl h0
 · split at h
   · exact absurd h (by decide)
   · rename_i h1; exact .inr (by omega)
theorem e_scale {v w : Vl} (hv : canV v) (hw : canV w) {k : Nat} (h : qV v * p2 k = qV w) : v.m = 0 ∨ v.e ≤ w.e := by
 rcases hv with hm | rfl
 rotate_left
 · exact .inl rfl
 refine .inr ?_
 have e : (⟨v.neg, v.m, v.e + k⟩ : Vl) = w := by
  refine canV_inj (.inl hm) hw ?_
  rw [← h]
  unfold qV qM
  show ((mantV ⟨v.neg, v.m, v.e + k⟩ : Int) : Rat) * p2 (v.e + k) = ((mantV v : Int) : Rat) * p2 v.e * p2 k
  rw [Rat.mul_assoc, ← p2_add]; rfl
 rw [← e]
 show v.e ≤ v.e + k
 omega
end Go.Pv
end

section
/- A range that is nought stays nought, while the same components are points. No program in it. -/
namespace Go.Pv
def ptI (x : Rat) (a : Ivl) : Prop := qN a.lo = x ∧ qN a.hi = x
theorem ptI_mem {x X : Rat} {a : Ivl} (h : ptI x a) (hX : memI X a) : X = x := Rat.le_antisymm (by rw [← h.2]; exact hX.2) (by rw [← h.1]; exact hX.1)
def simI (a b : Ivl) : Prop := (∃ x, ptI x a ∧ ptI x b) ∨ (qN a.lo < qN a.hi ∧ qN b.lo < qN b.hi)
theorem opI_pt {k : Nat} {a b : Ivl} {p : Int} {x : Rat} (h : (opI k a b p).2 = 0) (hx : ptI x (opI k a b p).1) : (∀ X U, memI X a → memI U b → exQ k X U = x) ∧ fitsQ p.toNat x := by
 refine ⟨fun X U hX hU => ptI_mem hx (opI_mem k h hX hU), ?_⟩
 rw [← hx.1, (opI_ends h).1]; exact fits_dn _ _
theorem opI_pt' {k : Nat} {a b : Ivl} {p : Int} {x : Rat} (h : (opI k a b p).2 = 0) (hx : ∀ X U, memI X a → memI U b → exQ k X U = x) (hf : fitsQ p.toNat x) : ptI x (opI k a b p).1 := by
 have r := opI_need h
 obtain ⟨e1, e2⟩ := opI_ends h
 have pp := precF_pos r.2.2
 have ca := canI r.1
 have cb := canI r.2.1
 obtain ⟨X, U, x1, x2, x3⟩ := lo_at k r.1 r.2.1
 obtain ⟨Y, V, y1, y2, y3⟩ := hi_at k r.1 r.2.1
 have hl : qV (loV k (ofN a.lo) (ofN a.hi) (ofN b.lo) (ofN b.hi)) = x := by rw [x3]; exact hx _ _ x1 x2
 have hh : qV (hiV k (ofN a.lo) (ofN a.hi) (ofN b.lo) (ofN b.hi)) = x := by rw [y3]; exact hx _ _ y1 y2
 refine ⟨?_, ?_⟩
 · rw [e1, (rnd_dn (canV_lo k ca.1 ca.2 cb.1 cb.2) pp).ex (by rw [hl]; exact hf), hl]
 · have := (rnd_up (canV_hi k ca.1 ca.2 cb.1 cb.2) pp).ex (by rw [hh]; exact fits_neg hf)
   rw [e2]
   rw [hh] at this
   grind
theorem powI_pt {a : Ivl} {k p : Int} {x : Rat} (h : (powI a k p).2 = 0) (hx : ptI x (powI a k p).1) : (∀ X, memI X a → powQ X k.toNat = x) ∧ fitsQ p.toNat x := by
 refine ⟨fun X hX => ptI_mem hx (powI_mem h hX), ?_⟩
 rw [← hx.1, (powI_ends h).1]; exact fits_dn _ _
theorem powI_pt' {a : Ivl} {k p : Int} {x : Rat} (h : (powI a k p).2 = 0) (hx : ∀ X, memI X a → powQ X k.toNat = x) (hf : fitsQ p.toNat x) : ptI x (powI a k p).1 := by
 have r := powI_need h
 obtain ⟨e1, e2⟩ := powI_ends h
 have pp := precF_pos r.2.2.2
 obtain ⟨X, x1, x3⟩ := powLo_at r.1 k.toNat
 obtain ⟨Y, y1, y3⟩ := powHi_at r.1 k.toNat
 have hl : qV (powLo a k.toNat) = x := by rw [x3]; exact hx _ x1
 have hh : qV (powHi a k.toNat) = x := by rw [y3]; exact hx _ y1
 refine ⟨?_, ?_⟩
 · rw [e1, (rnd_dn (canV_powLo r.1 _) pp).ex (by rw [hl]; exact hf), hl]
 · have := (rnd_up (canV_powHi r.1 k.toNat) pp).ex (by rw [hh]; exact fits_neg hf)
   rw [e2]
   rw [hh] at this
   grind
theorem mulq_zero {a b : Rat} (h : a * b = 0) : a = 0 ∨ b = 0 := by
 by_cases ha : a = 0
 · exact .inl ha
 · refine .inr ?_
   have := congrArg (fun t => a⁻¹ * t) h
   simp only [← Rat.mul_assoc, Rat.inv_mul_cancel _ ha, Rat.one_mul, Rat.mul_zero] at this
   exact this
theorem powQ_zero_arg {u : Rat} : ∀ k : Nat, powQ u k = 0 → u = 0
 | 0, h => absurd (show (1 : Rat) = 0 from h) (by decide)
 | k + 1, h => by
  rcases mulq_zero (show powQ u k * u = 0 from h) with h | h
  · exact powQ_zero_arg k h
  · exact h
theorem powQ_strict {v u : Rat} (h0 : 0 ≤ v) (h : v < u) : ∀ k : Nat, 1 ≤ k → powQ v k < powQ u k
 | 0, hk => by omega
 | k + 1, _ => by
  obtain ⟨a1, a2⟩ := powQ_nn h0 (Rat.le_of_lt h) k
  show powQ v k * v < powQ u k * u
  have hu : 0 < u := by grind
  have hne : powQ u k ≠ 0 := fun e => by
   have := powQ_zero_arg k e
   grind
  have hp : 0 < powQ u k := by grind
  have p1 := mulq_nn (a := powQ u k - powQ v k) (b := v) (by grind) h0
  have p2 := Rat.mul_pos hp (show 0 < u - v by grind)
  grind
theorem pow_wide {a : Ivl} {k : Nat} {y : Rat} (hk : 1 ≤ k) (hle : qN a.lo ≤ qN a.hi) (h : ∀ X, memI X a → powQ X k = y) : qN a.lo = qN a.hi := by
 by_cases he : qN a.lo = qN a.hi
 · exact he
 exfalso
 have hlt : qN a.lo < qN a.hi := Rat.lt_of_le_of_ne hle he
 by_cases hp : 0 < qN a.hi
 · by_cases hl : 0 ≤ qN a.lo
   · have := powQ_strict hl hlt k hk
     rw [h _ ⟨Rat.le_refl, hle⟩, h _ ⟨hle, Rat.le_refl⟩] at this
     grind
   · have := powQ_strict (v := 0) (u := qN a.hi) Rat.le_refl hp k hk
     rw [h 0 ⟨by grind, by grind⟩, h _ ⟨hle, Rat.le_refl⟩] at this
     grind
 · have := powQ_strict (v := -(qN a.hi)) (u := -(qN a.lo)) (by grind) (by grind) k hk
   rw [powQ_neg, powQ_neg, h _ ⟨Rat.le_refl, hle⟩, h _ ⟨hle, Rat.le_refl⟩] at this
   grind
theorem overF_sim {m : Mn} {b c : List Ivl} {p : Int} : ∀ i, (∀ j, j < i → simI (b.getD j default) (c.getD j default)) → (overF m b p i).2 = 0 → (overF m c p i).2 = 0 → ∀ x, ptI x (overF m b p i).1 → ptI x (overF m c p i).1
 | 0, _, _, _, x, hx => hx
 | i + 1, hs, h, h', x, hx => by
  have ih := overF_sim (m := m) (p := p) i (fun j hj => hs j (by omega)) (overF_prev h) (overF_prev h')
  have hsi := hs i (by omega)
  rcases overF_step h with ⟨d, e⟩ | ⟨d, d2, e⟩ <;> rcases overF_step h' with ⟨d', e'⟩ | ⟨d', d2', e'⟩
  · rw [e] at hx; rw [e']; exact ih x hx
  · exact absurd d d'
  · exact absurd d' d
  · rw [e] at h hx
    rw [e'] at h' ⊢
    have r := opI_need h
    have hk := (powI_need d2).2.1
    have hk1 : 1 ≤ (m.ks.getD i 0).toNat := by omega
    have hb := (powI_need d2).1
    have hbl := qI_le hb
    rw [qV_ofN, qV_ofN] at hbl
    generalize (overF m b p i).1 = X at *
    generalize (overF m c p i).1 = X' at *
    have d2k := d2
    obtain ⟨hall, hfit⟩ := opI_pt h hx
    have hXl := qI_le r.1
    have hYl := qI_le r.2.1
    rw [qV_ofN, qV_ofN] at hXl hYl
    have two : ∀ U, memI U (powI (b.getD i default) (m.ks.getD i 0) p).1 → qN X.lo * U = x ∧ qN X.hi * U = x := fun U hU => by
     have h1 := hall _ U ⟨Rat.le_refl, hXl⟩ hU
     have h2 := hall _ U ⟨hXl, Rat.le_refl⟩ hU
     rw [exQ2] at h1 h2
     exact ⟨h1, h2⟩
    -- the argument is a point, and the other one is the same
    have same : ∀ y, ptI y (powI (b.getD i default) (m.ks.getD i 0) p).1 → ptI y (powI (c.getD i default) (m.ks.getD i 0) p).1 := fun y hy => by
     obtain ⟨q1, q2⟩ := powI_pt d2 hy
     have hpt := pow_wide hk1 hbl q1
     rcases hsi with ⟨z, z1, z2⟩ | ⟨z1, _⟩
     · refine powI_pt' d2' (fun U hU => ?_) q2
       rw [ptI_mem z2 hU, ← z1.1]
       exact q1 _ ⟨Rat.le_refl, hbl⟩
     · rw [hpt] at z1
       exact absurd z1 (by grind)
    by_cases hX : qN X.lo = qN X.hi
    · have hx0 : ptI (qN X.lo) X := ⟨rfl, hX.symm⟩
      have hx0' := ih _ hx0
      by_cases h0 : qN X.lo = 0
      · refine opI_pt' h' (fun U V hU hV => ?_) hfit
        rw [exQ2, ptI_mem hx0' hU, h0]
        have := (two _ ⟨Rat.le_refl, hYl⟩).1
        rw [h0] at this
        rw [← this]; grind
      · have hy : ptI (qN (powI (b.getD i default) (m.ks.getD i 0) p).1.lo) (powI (b.getD i default) (m.ks.getD i 0) p).1 := by
         refine ⟨rfl, ?_⟩
         have h1 := (two _ ⟨Rat.le_refl, hYl⟩).1
         have h2 := (two _ ⟨hYl, Rat.le_refl⟩).1
         have h3 : qN X.lo * (qN (powI (b.getD i default) (m.ks.getD i 0) p).1.hi - qN (powI (b.getD i default) (m.ks.getD i 0) p).1.lo) = 0 := by grind
         rcases mulq_zero h3 with h3 | h3
         · exact absurd h3 h0
         · grind
        have hy' := same _ hy
        refine opI_pt' h' (fun U V hU hV => ?_) hfit
        rw [exQ2, ptI_mem hx0' hU, ptI_mem hy' hV]
        exact (two _ ⟨Rat.le_refl, hYl⟩).1
    · have hz : ∀ U, memI U (powI (b.getD i default) (m.ks.getD i 0) p).1 → U = 0 := fun U hU => by
       obtain ⟨h1, h2⟩ := two U hU
       have h3 : (qN X.hi - qN X.lo) * U = 0 := by grind
       rcases mulq_zero h3 with h3 | h3
       · exact absurd (show qN X.lo = qN X.hi by grind) hX
       · exact h3
      have hy : ptI 0 (powI (b.getD i default) (m.ks.getD i 0) p).1 := ⟨hz _ ⟨Rat.le_refl, hYl⟩, hz _ ⟨hYl, Rat.le_refl⟩⟩
      have hy' := same _ hy
      have hx0 : x = 0 := by
       have := (two _ ⟨Rat.le_refl, hYl⟩).1
       rw [hy.1] at this
       rw [← this]; grind
      refine opI_pt' h' (fun U V hU hV => ?_) hfit
      rw [exQ2, ptI_mem hy' hV, hx0]; grind
theorem rangeF_sim {q : List Mn} {b c : List Ivl} {p : Int} (hl : c.length = b.length) (hs : ∀ j, j < b.length → simI (b.getD j default) (c.getD j default)) : ∀ i, (rangeF q b p i).2 = 0 → (rangeF q c p i).2 = 0 → ∀ x, ptI x (rangeF q b p i).1 → ptI x (rangeF q c p i).1
 | 0, _, _, x, hx => hx
 | i + 1, h, h', x, hx => by
  obtain ⟨c1, c2, e⟩ := rangeF_prev h
  obtain ⟨c1', c2', e'⟩ := rangeF_prev h'
  have ih := rangeF_sim hl hs i c1 c1'
  rw [hl] at c2' e'
  have ho := overF_sim (m := q.getD i default) (p := p) b.length hs c2 c2'
  rw [e] at h hx
  rw [e'] at h' ⊢
  have r := opI_need h
  generalize (rangeF q b p i).1 = X at *
  generalize (rangeF q c p i).1 = X' at *
  generalize (overF (q.getD i default) b p b.length).1 = Y at *
  generalize (overF (q.getD i default) c p b.length).1 = Y' at *
  obtain ⟨hall, hfit⟩ := opI_pt h hx
  have hXl := qI_le r.1
  have hYl := qI_le r.2.1
  rw [qV_ofN, qV_ofN] at hXl hYl
  have s1 := hall _ _ ⟨Rat.le_refl, hXl⟩ ⟨Rat.le_refl, hYl⟩
  have s2 := hall _ _ ⟨hXl, Rat.le_refl⟩ ⟨Rat.le_refl, hYl⟩
  have s3 := hall _ _ ⟨Rat.le_refl, hXl⟩ ⟨hYl, Rat.le_refl⟩
  rw [exQ0] at s1 s2 s3
  have h1 := ih (qN X.lo) ⟨rfl, by grind⟩
  have h2 := ho (qN Y.lo) ⟨rfl, by grind⟩
  refine opI_pt' h' (fun U V hU hV => ?_) hfit
  rw [exQ0, ptI_mem h1 hU, ptI_mem h2 hV]; exact s1
end Go.Pv
end

section
/- The boxes that are tried: how fine their ends get. No program in it. -/
namespace Go.Pv
def wideAt (a : List Ivl) (j : Nat) : Bool := decide (qN (a.getD j default).lo < qN (a.getD j default).hi)
theorem wideAt_t {a : List Ivl} {j : Nat} : wideAt a j = true ↔ qN (a.getD j default).lo < qN (a.getD j default).hi := by unfold wideAt; exact decide_eq_true_iff
def cntW (a : List Ivl) : Nat → Nat
 | 0 => 0
 | n + 1 => cntW a n + if wideAt a n = true then 1 else 0
theorem cntW_le (a : List Ivl) : ∀ n, cntW a n ≤ n
 | 0 => Nat.le_refl _
 | n + 1 => by
  have := cntW_le a n
  rw [cntW]; split <;> omega
theorem cntW_or {a b : List Ivl} : ∀ n, (∀ j, j < n → wideAt a j = true → wideAt b j = true) → cntW a n ≤ cntW b n ∧ ((∀ j, j < n → wideAt b j = wideAt a j) ∨ cntW a n + 1 ≤ cntW b n)
 | 0, _ => ⟨Nat.le_refl _, .inl fun j hj => absurd hj (by omega)⟩
 | n + 1, h => by
  obtain ⟨i1, i2⟩ := cntW_or n fun j hj => h j (by omega)
  have hn := h n (by omega)
  rw [cntW, cntW]
  cases ha : wideAt a n with
  | true =>
   rw [hn ha, if_pos rfl]
   refine ⟨by omega, ?_⟩
   rcases i2 with i2 | i2
   · refine .inl fun j hj => ?_
     by_cases e : j = n
     · rw [e, ha]; exact hn ha
     · exact i2 j (by omega)
   · exact .inr (by omega)
  | false =>
   rw [if_neg (by simp)]
   cases hb : wideAt b n with
   | true => rw [if_pos rfl]; exact ⟨by omega, .inr (by omega)⟩
   | false =>
    rw [if_neg (by simp)]
    refine ⟨by omega, ?_⟩
    rcases i2 with i2 | i2
    · refine .inl fun j hj => ?_
      by_cases e : j = n
      · rw [e, ha]; exact hb
      · exact i2 j (by omega)
    · exact .inr (by omega)
structure CS (p : Nat) (xl xh al ah Hl Hh bl bh dl dh s rl rh : Rat) : Prop where
 b1 : RndDn p (xl + Hl) bl
 b2 : RndDn p (-(xh + Hh)) (-bh)
 d1 : dl = al ∨ dl = bl
 d2 : dl ≤ al
 d3 : dl ≤ bl
 e1 : dh = ah ∨ dh = bh
 e2 : ah ≤ dh
 e3 : bh ≤ dh
 w : RndDn p (-(dh - dl)) (-(s * 4))
 r1 : RndDn p (dl - s) rl
 r2 : RndDn p (-(dh + s)) (-rh)
theorem CS.turn {p : Nat} {xl xh al ah Hl Hh bl bh dl dh s rl rh : Rat} (c : CS p xl xh al ah Hl Hh bl bh dl dh s rl rh) : CS p (-xh) (-xl) (-ah) (-al) (-Hh) (-Hl) (-bh) (-bl) (-dh) (-dl) s (-rh) (-rl) := by
 refine ⟨?_, ?_, ?_, ?_, ?_, ?_, ?_, ?_, ?_, ?_, ?_⟩
 · rw [show -xh + -Hh = -(xh + Hh) by grind]; exact c.b2
 · rw [show -(-xl + -Hl) = xl + Hl by grind, Rat.neg_neg]; exact c.b1
 · rcases c.e1 with h | h
   · exact .inl (by rw [h])
   · exact .inr (by rw [h])
 · have := c.e2; grind
 · have := c.e3; grind
 · rcases c.d1 with h | h
   · exact .inl (by rw [h])
   · exact .inr (by rw [h])
 · have := c.d2; grind
 · have := c.d3; grind
 · rw [show -(-dl - -dh) = -(dh - dl) by grind]; exact c.w
 · rw [show -dh - s = -(dh + s) by grind]; exact c.r2
 · rw [show -(-dl + s) = dl - s by grind, Rat.neg_neg]; exact c.r1
theorem CS.s_ge {p : Nat} {xl xh al ah Hl Hh bl bh dl dh s rl rh : Rat} (c : CS p xl xh al ah Hl Hh bl bh dl dh s rl rh) : dh - dl ≤ s * 4 := by
 have := c.w.le; grind
theorem CS.rl_le {p : Nat} {xl xh al ah Hl Hh bl bh dl dh s rl rh : Rat} (c : CS p xl xh al ah Hl Hh bl bh dl dh s rl rh) (h : al ≤ ah) : rl ≤ dl := by
 have := c.s_ge
 have := c.d2
 have := c.e2
 have := c.r1.le
 grind
theorem CS.wide_lo {p : Nat} {xl xh al ah Hl Hh bl bh dl dh s rl rh : Rat} (c : CS p xl xh al ah Hl Hh bl bh dl dh s rl rh) {m : Nat} (hx : xl ≤ xh) (ha : al ≤ xl) (hb : xh ≤ ah) (hH : Hl ≤ 0) (hm : 16 ≤ m) (hxl : mulQ 12 xl) (hwid : p2 (-(m : Int)) ≤ ah - al) (hal : mulQ (m + p + 2) al) : mulQ (m + p + 2) rl := by
 have hs := c.s_ge
 have d2 := c.d2
 have e2 := c.e2
 have hr := c.r1.le
 have q2 : p2 (-(m : Int)) = p2 (-((m + 2 : Nat) : Int)) * 4 := by
  rw [← p2_two, ← p2_add]; congr 1; omega
 have hpos := p2_pos (-((m + 2 : Nat) : Int))
 by_cases h1 : p2 (-((m + 2 : Nat) : Int)) ≤ rl
 · exact (fits_mul c.r1.fits (.inl h1)).down (by omega)
 by_cases h2 : rl ≤ -(p2 (-((m + 2 : Nat) : Int)))
 · exact (fits_mul c.r1.fits (.inr h2)).down (by omega)
 -- near nought: so the hull's lower end is above it, and not near it
 have hsm : p2 (-((m + 2 : Nat) : Int)) ≤ s := by grind
 have hd0 : 0 < dl := by
  by_cases hz : dl - s ≤ -(p2 (-((m + 2 : Nat) : Int)))
  · exfalso; exact h2 (Rat.le_trans hr hz)
  · grind
 have hxl0 : 0 < xl := by grind
 have hx12 := mulQ_pos hxl hxl0
 have hge : -(p2 (-((m + 2 : Nat) : Int))) < dl - s := by
  apply Rat.not_le.1
  intro hz
  exact h2 (Rat.le_trans hr hz)
 have hbig : xl - p2 (-(m : Int)) ≤ dl * 5 := by grind
 have hm13 : p2 (-(m : Int)) ≤ p2 (-(13 : Int)) := p2_mono (by omega)
 have h13 : p2 (-(12 : Int)) = p2 (-(13 : Int)) * 2 := by
  have := p2_succ (-13); exact this
 have h16 : p2 (-(13 : Int)) = p2 (-(16 : Int)) * 8 := by
  rw [← p2_three, ← p2_add]; rfl
 have h12 : p2 (-((12 : Nat) : Int)) = p2 (-(12 : Int)) := rfl
 have hp16 := p2_pos (-(16 : Int))
 have hdl16 : p2 (-((16 : Nat) : Int)) ≤ dl := by
  show p2 (-(16 : Int)) ≤ dl
  grind
 have hdm : mulQ (m + p + 2) dl := by
  rcases c.d1 with e | e
  · rw [e]; exact hal
  · have hf : fitsQ p dl := by rw [e]; exact c.b1.fits
    exact (fits_mul hf (.inl hdl16)).down (by omega)
 have hsf : fitsQ p (s * 4) := by
  have := fits_neg c.w.fits
  rw [Rat.neg_neg] at this; exact this
 have hs4 : mulQ (m + p) (s * 4) := fits_mul hsf (.inl (by grind))
 exact c.r1.mul _ (mulQ_sub hdm (mulQ_quarter hs4))
theorem CS.crude_lo {p : Nat} {xl xh al ah Hl Hh bl bh dl dh s rl rh : Rat} (c : CS p xl xh al ah Hl Hh bl bh dl dh s rl rh) {K : Nat} (h1 : mulQ K xl) (h2 : mulQ K xh) (h3 : mulQ K al) (h4 : mulQ K ah) (h5 : mulQ K Hl) (h6 : mulQ K Hh) : mulQ (K + 2) rl := by
 have hb1 := c.b1.mul K (mulQ_add h1 h5)
 have hb2 : mulQ K bh := by
  have := mulQ_neg (c.b2.mul K (mulQ_neg (mulQ_add h2 h6)))
  rw [Rat.neg_neg] at this; exact this
 have hd : mulQ K dl := by rcases c.d1 with e | e <;> rw [e] <;> assumption
 have hd2 : mulQ K dh := by rcases c.e1 with e | e <;> rw [e] <;> assumption
 have hs : mulQ K (s * 4) := by
  have := mulQ_neg (c.w.mul K (mulQ_neg (mulQ_sub hd2 hd)))
  rw [Rat.neg_neg] at this; exact this
 exact c.r1.mul _ (mulQ_sub (hd.down (by omega)) (mulQ_quarter hs))
theorem CS.point {p : Nat} {x bl bh dl dh s rl rh : Rat} (c : CS p x x x x 0 0 bl bh dl dh s rl rh) (hf : fitsQ p x) : rl = x ∧ rh = x := by
 have hb1 : bl = x := by
  have := c.b1.ex (by rw [Rat.add_zero]; exact hf)
  rw [Rat.add_zero] at this; exact this
 have hb2 : bh = x := by
  have := c.b2.ex (by rw [Rat.add_zero]; exact fits_neg hf)
  rw [Rat.add_zero] at this; grind
 have hd : dl = x := by rcases c.d1 with e | e <;> rw [e] <;> assumption
 have hd2 : dh = x := by rcases c.e1 with e | e <;> rw [e] <;> assumption
 have hs : s = 0 := by
  have h0 : -(dh - dl) = 0 := by rw [hd, hd2]; grind
  have := c.w.ex (by rw [h0]; exact fits_zero p)
  rw [h0] at this; grind
 refine ⟨?_, ?_⟩
 · have h0 : dl - s = x := by rw [hd, hs]; grind
   have := c.r1.ex (by rw [h0]; exact hf)
   rw [this, h0]
 · have h0 : -(dh + s) = -x := by rw [hd2, hs]; grind
   have := c.r2.ex (by rw [h0]; exact fits_neg hf)
   rw [h0] at this; grind
def hI (f : List (List Mn)) (a : List Ivl) (h : Nm) (p : Int) (j : Nat) : Ivl := (opI 2 ⟨default, h⟩ (rangeF (f.getD j []) a p (f.getD j []).length).1 p).1
theorem hI_sign {f : List (List Mn)} {x a : List Ivl} {h : Nm} {p : Int} {j : Nat} (A : NextAt f x a h p j) (hh : 0 < qN h) : qN (hI f a h p j).lo ≤ 0 ∧ 0 ≤ qN (hI f a h p j).hi := by
 have r := opI_need A.t0
 have hl := qI_le r.2.1
 rw [qV_ofN, qV_ofN] at hl
 have hm := opI_mem 2 A.t0 (X := 0) (U := qN (rangeF (f.getD j []) a p (f.getD j []).length).1.lo) ⟨by show qN default ≤ 0; rw [qN_dflt]; exact Rat.le_refl, by show 0 ≤ qN h; grind⟩ ⟨Rat.le_refl, hl⟩
 rw [exQ2, Rat.zero_mul] at hm
 exact hm
theorem step_comp {f : List (List Mn)} {x a : List Ivl} {h : Nm} {p : Int} (N : NextOK f x a h p) (hw : (widerP a (nextP f x a h p).1 p).2 = 0) {j : Nat} (hj : j < f.length) :
  ∃ bl bh dl dh s, CS p.toNat (qN (x.getD j default).lo) (qN (x.getD j default).hi) (qN (a.getD j default).lo) (qN (a.getD j default).hi) (qN (hI f a h p j).lo) (qN (hI f a h p j).hi) bl bh dl dh s
   (qN ((widerP a (nextP f x a h p).1 p).1.getD j default).lo) (qN ((widerP a (nextP f x a h p).1 p).1.getD j default).hi) := by
 have A := N.at hj
 have pp := precF_pos N.pp
 have r := opI_need A.s0
 have ca := canI r.1
 have cb := canI r.2.1
 obtain ⟨e1, e2⟩ := opI_ends A.s0
 obtain ⟨u1, u2, u3⟩ := hullB_all N.ra N.rightB (by rw [N.len, N.la])
 have hwd : widerP a (nextP f x a h p).1 p = blowB (hullB a (nextP f x a h p).1).1 p := by unfold widerP; rw [if_pos u1]
 rw [hwd] at hw ⊢
 obtain ⟨_, v1, v2, v3⟩ := blowB_get hw
 have hja : j < a.length := by rw [N.la]; exact hj
 have hjd : j < (hullB a (nextP f x a h p).1).1.length := by rw [u2]; exact hja
 have hbl := v2 j hjd
 rw [v3 j hjd]
 obtain ⟨s, s1, s2, ⟨v, cv, w1, w2⟩, ⟨u, cu, w3, w4⟩, w, cw, w5, w6⟩ := blowI_ends hbl
 rw [u3 j hja] at w1 w3 w5
 obtain ⟨q1, q2, q3⟩ := least_q (a.getD j default).lo ((nextP f x a h p).1.getD j default).lo
 obtain ⟨g1, g2, g3⟩ := great_q (a.getD j default).hi ((nextP f x a h p).1.getD j default).hi
 refine ⟨qN ((nextP f x a h p).1.getD j default).lo, qN ((nextP f x a h p).1.getD j default).hi, qN (leastN (a.getD j default).lo ((nextP f x a h p).1.getD j default).lo), qN (greatN (a.getD j default).hi ((nextP f x a h p).1.getD j default).hi), s, ?_, ?_, q1, q2, q3, g1, g2, g3, ?_, ?_, ?_⟩
 · have := rnd_dn (canV_lo 0 ca.1 ca.2 cb.1 cb.2) pp
   rw [← e1, loV0, qV_plus, qV_ofN, qV_ofN, ← A.val] at this
   exact this
 · have := rnd_up (canV_hi 0 ca.1 ca.2 cb.1 cb.2) pp
   rw [← e2, hiV0, qV_plus, qV_ofN, qV_ofN, ← A.val] at this
   exact this
 · have := rnd_up cw pp
   rw [← w6, w5] at this
   exact this
 · have := rnd_dn cv pp
   rw [← w2, w1] at this
   exact this
 · have := rnd_up cu pp
   rw [← w4, w3] at this
   exact this
end Go.Pv
end

section
/- All boxes that are tried are fine enough. No program in it. -/
namespace Go.Pv
def fineK : Nat → Nat
 | 0 => 12
 | k + 1 => 3 * fineK k + 40
theorem fineK_le {k : Nat} (h : k ≤ 4) : 12 ≤ fineK k ∧ fineK k ≤ 2572 := by
 match k, h with
 | 0, _ => decide
 | 1, _ => decide
 | 2, _ => decide
 | 3, _ => decide
 | 4, _ => decide
structure Seek (f : List (List Mn)) (x : List Ivl) (h : Nm) (p : Int) (n : Nat) : Prop where
 hf : okField n 3 3 f
 n1 : 1 ≤ n
 n4 : n ≤ 4
 hx : x.length = n
 xr : ∀ j, j < n → rightI (x.getD j default) = true
 xm : ∀ j, j < n → mulI 12 (x.getD j default)
 xf : ∀ j, j < n → fitsQ p.toNat (qN (x.getD j default).lo)
 hh : 0 < qN h
 hr : rightN h = true
 hm : mulQ 26 (qN h)
 pp : precF p = true
def conB (x a : List Ivl) (n : Nat) : Prop := ∀ j, j < n → qN (a.getD j default).lo ≤ qN (x.getD j default).lo ∧ qN (x.getD j default).hi ≤ qN (a.getD j default).hi
def invA (a : List Ivl) (n k : Nat) : Prop := k ≤ 4 ∧ k ≤ cntW a n ∧ ∀ j, j < n → mulI (fineK k) (a.getD j default)
def invB (f : List (List Mn)) (x a : List Ivl) (h : Nm) (p : Int) (n : Nat) : Prop :=
 (∃ a0, NextOK f x a0 h p ∧ conB x a0 n ∧ (∀ j, j < n → wideAt a j = wideAt a0 j) ∧ ∀ j, j < n → wideAt a0 j = false → ptI 0 (rangeF (f.getD j []) a0 p (f.getD j []).length).1) ∧
 (∀ j, j < n → mulI (2572 + p.toNat + 2) (a.getD j default)) ∧ ∀ j, j < n → wideAt a j = true → p2 (-((2572 : Nat) : Int)) ≤ qN (a.getD j default).hi - qN (a.getD j default).lo
theorem mulI_h {h : Nm} {L : Nat} (hm : mulQ L (qN h)) : mulI L ⟨default, h⟩ := ⟨by show mulQ L (qN default); rw [qN_dflt]; exact mulQ_zero _, hm⟩
theorem notwide {a : List Ivl} {j : Nat} (h : wideAt a j = false) : qN (a.getD j default).hi ≤ qN (a.getD j default).lo := by
 apply Rat.not_lt.1
 intro hlt
 rw [wideAt_t.2 hlt] at h; cases h
theorem con_step {f : List (List Mn)} {x a : List Ivl} {h : Nm} {p : Int} {n : Nat} (S : Seek f x h p n) (N : NextOK f x a h p) (hw : (widerP a (nextP f x a h p).1 p).2 = 0) (hc : conB x a n) :
  conB x (widerP a (nextP f x a h p).1 p).1 n ∧ ∀ j, j < n → qN ((widerP a (nextP f x a h p).1 p).1.getD j default).lo ≤ qN (a.getD j default).lo ∧ qN (a.getD j default).hi ≤ qN ((widerP a (nextP f x a h p).1 p).1.getD j default).hi := by
 have key : ∀ j, j < n → qN ((widerP a (nextP f x a h p).1 p).1.getD j default).lo ≤ qN (a.getD j default).lo ∧ qN (a.getD j default).hi ≤ qN ((widerP a (nextP f x a h p).1 p).1.getD j default).hi := fun j hj => by
  have hjf : j < f.length := by rw [S.hf.1]; exact hj
  obtain ⟨bl, bh, dl, dh, s, c⟩ := step_comp N hw hjf
  have hle := qI_le (rightB_at N.ra (by rw [N.la]; exact hjf))
  rw [qV_ofN, qV_ofN] at hle
  have h1 := c.rl_le hle
  have h2 := c.turn.rl_le (by grind)
  have := c.d2
  have := c.e2
  exact ⟨by grind, by grind⟩
 exact ⟨fun j hj => ⟨Rat.le_trans (key j hj).1 (hc j hj).1, Rat.le_trans (hc j hj).2 (key j hj).2⟩, key⟩
theorem wide_step {f : List (List Mn)} {x a : List Ivl} {h : Nm} {p : Int} {n : Nat} (S : Seek f x h p n) (N : NextOK f x a h p) (hw : (widerP a (nextP f x a h p).1 p).2 = 0) (hc : conB x a n) {j : Nat} (hj : j < n)
  (hwid : p2 (-((2572 : Nat) : Int)) ≤ qN (a.getD j default).hi - qN (a.getD j default).lo) (hm : mulI (2572 + p.toNat + 2) (a.getD j default)) : mulI (2572 + p.toNat + 2) ((widerP a (nextP f x a h p).1 p).1.getD j default) := by
 have hjf : j < f.length := by rw [S.hf.1]; exact hj
 obtain ⟨bl, bh, dl, dh, s, c⟩ := step_comp N hw hjf
 obtain ⟨s1, s2⟩ := hI_sign (N.at hjf) N.ph
 obtain ⟨c1, c2⟩ := hc j hj
 have hle := qI_le (S.xr j hj)
 rw [qV_ofN, qV_ofN] at hle
 refine ⟨c.wide_lo hle c1 c2 s1 (by omega) (S.xm j hj).1 hwid hm.1, ?_⟩
 have := c.turn.wide_lo (m := 2572) (by grind) (by grind) (by grind) (by grind) (by omega) (mulQ_neg (S.xm j hj).2) (by grind) (mulQ_neg hm.2)
 have := mulQ_neg this
 rw [Rat.neg_neg] at this; exact this
theorem sim_of {x a b : List Ivl} {n : Nat} (hx : ∀ j, j < n → qN (x.getD j default).lo ≤ qN (x.getD j default).hi) (ha : conB x a n) (hb : conB x b n) (hw : ∀ j, j < n → wideAt b j = wideAt a j) : ∀ j, j < n → simI (a.getD j default) (b.getD j default) := fun j hj => by
 have h1 := hw j hj
 have hxj := hx j hj
 obtain ⟨a1, a2⟩ := ha j hj
 obtain ⟨b1, b2⟩ := hb j hj
 cases h2 : wideAt a j with
 | true =>
  rw [h2] at h1
  exact .inr ⟨wideAt_t.1 h2, wideAt_t.1 h1⟩
 | false =>
  rw [h2] at h1
  have q1 := notwide h2
  have q2 := notwide h1
  exact .inl ⟨qN (x.getD j default).lo, ⟨by grind, by grind⟩, by grind, by grind⟩
theorem inv_step {f : List (List Mn)} {x a : List Ivl} {h : Nm} {p : Int} {n : Nat} (S : Seek f x h p n) (N : NextOK f x a h p) (hw : (widerP a (nextP f x a h p).1 p).2 = 0) (hc : conB x a n) (hi : (∃ k, invA a n k) ∨ invB f x a h p n) :
  (∃ k, invA (widerP a (nextP f x a h p).1 p).1 n k) ∨ invB f x (widerP a (nextP f x a h p).1 p).1 h p n := by
 obtain ⟨hc', hgrow⟩ := con_step S N hw hc
 have hxl : ∀ j, j < n → qN (x.getD j default).lo ≤ qN (x.getD j default).hi := fun j hj => by
  have := qI_le (S.xr j hj)
  rw [qV_ofN, qV_ofN] at this; exact this
 have hfl := S.hf.1
 have hal : a.length = n := by rw [N.la, hfl]
 have keepw : ∀ j, j < n → wideAt a j = true → wideAt (widerP a (nextP f x a h p).1 p).1 j = true := fun j hj hwj => by
  have := hgrow j hj
  have := wideAt_t.1 hwj
  exact wideAt_t.2 (by grind)
 have hwide : ∀ j, j < n → p2 (-((2572 : Nat) : Int)) ≤ qN (a.getD j default).hi - qN (a.getD j default).lo → mulI (2572 + p.toNat + 2) (a.getD j default) → mulI (2572 + p.toNat + 2) ((widerP a (nextP f x a h p).1 p).1.getD j default) := fun j hj => wide_step S N hw hc hj
 rcases hi with ⟨k, k4, kc, km⟩ | ⟨⟨a0, N0, hc0, hs0, hz0⟩, hm, hd⟩
 · obtain ⟨f1, f2⟩ := fineK_le k4
   rcases (cntW_or n keepw).2 with hsame | hmore
   · refine .inr ⟨⟨a, N, hc, hsame, fun j hj hnw => ?_⟩, fun j hj => ?_, fun j hj hwj => ?_⟩
     · -- no width came: nothing came
       have hjf : j < f.length := by omega
       have A := N.at hjf
       obtain ⟨bl, bh, dl, dh, s, c⟩ := step_comp N hw hjf
       obtain ⟨s1, s2⟩ := hI_sign A N.ph
       have hnw' := hsame j hj
       rw [hnw] at hnw'
       have q1 := notwide hnw
       have q2 := notwide hnw'
       obtain ⟨c1, c2⟩ := hc j hj
       have hle : qN (a.getD j default).lo ≤ qN (a.getD j default).hi := by
        have := qI_le (rightB_at N.ra (by omega : j < a.length))
        rw [qV_ofN, qV_ofN] at this; exact this
       have r1 := c.rl_le hle
       have r2 := c.turn.rl_le (by grind)
       have d3 := c.d3
       have e3 := c.e3
       have t1 := c.b1.le
       have t2 := c.b2.le
       have hx' := hxl j hj
       have hz1 : qN (hI f a h p j).lo = 0 := by grind
       have hz2 : qN (hI f a h p j).hi = 0 := by grind
       have rr := opI_need A.t0
       have hBl := qI_le rr.2.1
       rw [qV_ofN, qV_ofN] at hBl
       have all0 : ∀ U, memI U (rangeF (f.getD j []) a p (f.getD j []).length).1 → U = 0 := fun U hU => by
        have := opI_mem 2 A.t0 (X := qN h) (U := U) ⟨by show qN default ≤ _; rw [qN_dflt]; have := N.ph; grind, Rat.le_refl⟩ hU
        have h0 := ptI_mem (a := hI f a h p j) ⟨hz1, hz2⟩ this
        rw [exQ2] at h0
        rcases mulq_zero h0 with h0 | h0
        · have := N.ph; grind
        · exact h0
       exact ⟨all0 _ ⟨Rat.le_refl, hBl⟩, all0 _ ⟨hBl, Rat.le_refl⟩⟩
     · cases hwj : wideAt a j with
       | true =>
        have hlt := wideAt_t.1 hwj
        have hp := mulQ_pos (mulQ_sub (km j hj).2 (km j hj).1) (by grind)
        exact hwide j hj (Rat.le_trans (p2_mono (by omega)) hp) ((km j hj).down (by omega))
       | false =>
        have h2 := hsame j hj
        rw [hwj] at h2
        have q2 := notwide h2
        obtain ⟨c1, c2⟩ := hc' j hj
        have hx' := hxl j hj
        have e1 : qN ((widerP a (nextP f x a h p).1 p).1.getD j default).lo = qN (x.getD j default).lo := by grind
        have e2 : qN ((widerP a (nextP f x a h p).1 p).1.getD j default).hi = qN (x.getD j default).hi := by grind
        exact ⟨by rw [e1]; exact (S.xm j hj).1.down (by omega), by rw [e2]; exact (S.xm j hj).2.down (by omega)⟩
     · have hwa := hsame j hj
       rw [hwj] at hwa
       have hlt := wideAt_t.1 hwa.symm
       have hp := mulQ_pos (mulQ_sub (km j hj).2 (km j hj).1) (by grind)
       have := hgrow j hj
       have hq : p2 (-((2572 : Nat) : Int)) ≤ p2 (-((fineK k : Nat) : Int)) := p2_mono (by omega)
       grind
   · have hn4 := S.n4
     have hle := cntW_le (widerP a (nextP f x a h p).1 p).1 n
     refine .inl ⟨k + 1, by omega, by omega, fun j hj => ?_⟩
     have hjf : j < f.length := by omega
     have A := N.at hjf
     obtain ⟨bl, bh, dl, dh, s, c⟩ := step_comp N hw hjf
     have hB := range3_mul S.hf hal hj km A.r0
     have hH : mulI (26 + (12 + fineK k * 3)) (hI f a h p j) := opI_mul2 A.t0 (mulI_h S.hm) hB
     have hx1 := (S.xm j hj).down (L' := 26 + (12 + fineK k * 3)) (by omega)
     have ha1 := (km j hj).down (L' := 26 + (12 + fineK k * 3)) (by omega)
     have hk : fineK (k + 1) = 26 + (12 + fineK k * 3) + 2 := by show 3 * fineK k + 40 = _; omega
     rw [hk]
     refine ⟨c.crude_lo hx1.1 hx1.2 ha1.1 ha1.2 hH.1 hH.2, ?_⟩
     have := mulQ_neg (c.turn.crude_lo (mulQ_neg hx1.2) (mulQ_neg hx1.1) (mulQ_neg ha1.2) (mulQ_neg ha1.1) (mulQ_neg hH.2) (mulQ_neg hH.1))
     rw [Rat.neg_neg] at this; exact this
 · have ha0l : a0.length = n := by rw [N0.la, hfl]
   have hpt : ∀ j, j < n → wideAt a j = false → qN ((widerP a (nextP f x a h p).1 p).1.getD j default).lo = qN (x.getD j default).lo ∧ qN ((widerP a (nextP f x a h p).1 p).1.getD j default).hi = qN (x.getD j default).lo := fun j hj hnw => by
    have hjf : j < f.length := by omega
    have A := N.at hjf
    have hB := rangeF_sim (q := f.getD j []) (p := p) (by omega : a.length = a0.length) (fun i hi => sim_of hxl hc0 hc hs0 i (by omega)) _ (N0.at hjf).r0 A.r0 0 (hz0 j hj (by rw [← hs0 j hj]; exact hnw))
    have hH : ptI 0 (hI f a h p j) := opI_pt' A.t0 (fun X U _ hU => by rw [exQ2, ptI_mem hB hU, Rat.mul_zero]) (fits_zero _)
    obtain ⟨bl, bh, dl, dh, s, c⟩ := step_comp N hw hjf
    rw [hH.1, hH.2] at c
    have q1 := notwide hnw
    obtain ⟨c1, c2⟩ := hc j hj
    have hx' := hxl j hj
    have e1 : qN (a.getD j default).lo = qN (x.getD j default).lo := by grind
    have e2 : qN (a.getD j default).hi = qN (x.getD j default).lo := by grind
    have e3 : qN (x.getD j default).hi = qN (x.getD j default).lo := by grind
    rw [e1, e2, e3] at c
    exact c.point (S.xf j hj)
   have hsame : ∀ j, j < n → wideAt (widerP a (nextP f x a h p).1 p).1 j = wideAt a j := fun j hj => by
    cases hwj : wideAt a j with
    | true => exact keepw j hj hwj
    | false =>
     obtain ⟨e1, e2⟩ := hpt j hj hwj
     unfold wideAt
     rw [e1, e2]
     exact decide_eq_false (by grind)
   refine .inr ⟨⟨a0, N0, hc0, fun j hj => by rw [hsame j hj]; exact hs0 j hj, hz0⟩, fun j hj => ?_, fun j hj hwj => ?_⟩
   · cases hwj : wideAt a j with
     | true => exact hwide j hj (hd j hj hwj) (hm j hj)
     | false =>
      obtain ⟨e1, e2⟩ := hpt j hj hwj
      exact ⟨by rw [e1]; exact (S.xm j hj).1.down (by omega), by rw [e2]; exact (S.xm j hj).1.down (by omega)⟩
   · rw [hsame j hj] at hwj
     have := hd j hj hwj
     have := hgrow j hj
     grind
theorem tries_fine {f : List (List Mn)} {x : List Ivl} {h : Nm} {p : Int} {n : Nat} (S : Seek f x h p n) : ∀ (m : Nat) (yl : Bool) (a : List Ivl), conB x a n → ((∃ k, invA a n k) ∨ invB f x a h p n) → ∀ e ∈ triesL f x h p m yl a,
  (∀ j, j < n → mulI 2830 (e.1.getD j default)) ∧ conB x e.1 n ∧ NextOK f x e.1 h p ∧ e.2 = (nextP f x e.1 h p).1
 | 0, _, _, _, _, e, he => by cases he
 | m + 1, yl, a, hc, hi, e, he => by
  rw [triesL_succ] at he
  split at he
  · rename_i h0
    have N := nextP_iff.1 h0
    rcases List.mem_append.1 he with he | he
    · split at he
      · have e1 : e = (a, (nextP f x a h p).1) := by simpa using he
        rw [e1]
        refine ⟨fun j hj => ?_, hc, N, rfl⟩
        have hp : p.toNat ≤ 256 := by
         have := S.pp
         unfold precF at this
         simp only [Bool.and_eq_true, decide_eq_true_eq] at this
         omega
        rcases hi with ⟨k, k4, _, km⟩ | ⟨_, hm, _⟩
        · have := fineK_le k4
          exact (km j hj).down (by omega)
        · exact (hm j hj).down (by omega)
      · cases he
    · split at he
      · rename_i hw
        exact tries_fine S m true _ (con_step S N hw hc).1 (inv_step S N hw hc hi) e he
      · cases he
  · cases he
theorem boxL_found {f : List (List Mn)} {x : List Ivl} {h : Nm} {p : Int} : ∀ l : List (List Ivl × List Ivl), (boxL f x h p l).2 = true → ∃ e ∈ l, inB e.2 e.1 = true ∧ (boxL f x h p l).1 = if sureP f x e.2 h p = true then e.2 else e.1
 | [], h => by cases h
 | e :: l, hb => by
  rw [boxL_cons] at hb ⊢
  split at hb
  · rename_i hin
    rw [if_pos hin]
    exact ⟨e, by simp, hin, rfl⟩
  · rename_i hin
    rw [if_neg hin]
    obtain ⟨e', h1, h2, h3⟩ := boxL_found l hb
    exact ⟨e', by simp [h1], h2, h3⟩
theorem box_found {f : List (List Mn)} {x : List Ivl} {h : Nm} {p : Int} {n : Nat} (S : Seek f x h p n) (hb : (boxP f x h p).2 = true) :
  NextOK f x (boxP f x h p).1 h p ∧ inB (nextP f x (boxP f x h p).1 h p).1 (boxP f x h p).1 = true ∧ conB x (boxP f x h p).1 n ∧ ∀ j, j < n → mulI 8528 ((boxP f x h p).1.getD j default) := by
 obtain ⟨e, he, hin, hv⟩ := boxL_found _ hb
 obtain ⟨m1, c1, N, e2⟩ := tries_fine S 9 false x (fun j hj => ⟨Rat.le_refl, Rat.le_refl⟩) (.inl ⟨0, by omega, by omega, fun j hj => S.xm j hj⟩) e he
 unfold boxP
 rw [hv]
 split
 · rename_i hs
   have hs' := hs
   unfold sureP at hs'
   simp only [Bool.and_eq_true, decide_eq_true_eq] at hs'
   refine ⟨nextP_iff.1 hs'.1, hs'.2, fun j hj => ?_, fun j hj => ?_⟩
   · have A := N.at (j := j) (by rw [S.hf.1]; exact hj)
     obtain ⟨s1, s2⟩ := hI_sign A N.ph
     have m := opI_mem 0 A.s0 (X := qN (x.getD j default).lo) (U := 0) ⟨Rat.le_refl, by have := qI_le (S.xr j hj); rw [qV_ofN, qV_ofN] at this; exact this⟩ ⟨s1, s2⟩
     have m2 := opI_mem 0 A.s0 (X := qN (x.getD j default).hi) (U := 0) ⟨by have := qI_le (S.xr j hj); rw [qV_ofN, qV_ofN] at this; exact this, Rat.le_refl⟩ ⟨s1, s2⟩
     rw [exQ0, Rat.add_zero] at m m2
     rw [e2, A.val]
     exact ⟨m.1, m2.2⟩
   · have hjf : j < f.length := by rw [S.hf.1]; exact hj
     have A := N.at hjf
     have hB := range3_mul S.hf (by rw [N.la, S.hf.1]) hj m1 A.r0
     have hH := opI_mul2 A.t0 (mulI_h S.hm) hB
     rw [e2, A.val]
     exact opI_mul0 A.s0 ((S.xm j hj).down (by omega)) (hH.down (by omega))
 · refine ⟨N, by rw [← e2]; exact hin, c1, fun j hj => (m1 j hj).down (by omega)⟩
end Go.Pv
end

section
/- A box that is found serves for shorter times and for parts of the beginnings. No program in it. -/
namespace Go.Pv
theorem opI_ok_get {k : Nat} {a b : Ivl} {p : Int} (h : (opI k a b p).2 = 0) : (numV (roundV (loV k (ofN a.lo) (ofN a.hi) (ofN b.lo) (ofN b.hi)) p.toNat false)).2 = 0 ∧ (numV (roundV (hiV k (ofN a.lo) (ofN a.hi) (ofN b.lo) (ofN b.hi)) p.toNat true)).2 = 0 := by
 have r := opI_need h
 unfold opI at h
 rw [if_pos r] at h
 unfold endsV at h
 split at h
 · assumption
 · exact absurd h (by decide)
theorem opI_ok_mk {k : Nat} {a b : Ivl} {p : Int} (r : rightI a = true ∧ rightI b = true ∧ precF p = true) (h1 : (numV (roundV (loV k (ofN a.lo) (ofN a.hi) (ofN b.lo) (ofN b.hi)) p.toNat false)).2 = 0) (h2 : (numV (roundV (hiV k (ofN a.lo) (ofN a.hi) (ofN b.lo) (ofN b.hi)) p.toNat true)).2 = 0) : (opI k a b p).2 = 0 := by
 unfold opI
 rw [if_pos r]
 unfold endsV
 rw [if_pos ⟨h1, h2⟩]
theorem time_lo {h : Nm} {B : Ivl} (hh : 0 < qN h) (hB : rightI B = true) : qV (loV 2 (ofN default) (ofN h) (ofN B.lo) (ofN B.hi)) = if qN B.lo < 0 then qN h * qN B.lo else 0 := by
 have hl := qI_le hB
 have hd : qV (ofN default) = 0 := by rw [qV_ofN]; exact qN_dflt
 have h0 : qV (ofN default) ≤ qV (ofN h) := by rw [hd, qV_ofN]; grind
 have q1 := leastV_le h0 hl (X := 0) (U := qN B.lo) (by rw [hd]; exact Rat.le_refl) (by rw [qV_ofN]; grind) (by rw [qV_ofN]; exact Rat.le_refl) hl
 have q2 := leastV_le h0 hl (X := qN h) (U := qN B.lo) (by rw [hd]; grind) (by rw [qV_ofN]; exact Rat.le_refl) (by rw [qV_ofN]; exact Rat.le_refl) hl
 rw [Rat.zero_mul] at q1
 show qV (leastV (ofN default) (ofN h) (ofN B.lo) (ofN B.hi)) = _
 have hl' : qN B.lo ≤ qN B.hi := by rw [qV_ofN, qV_ofN] at hl; exact hl
 have hm : ∀ u v : Rat, u ≤ v → qN h * u ≤ qN h * v := fun u v huv => by
  have := mulq_nn (a := qN h) (b := v - u) (by grind) (by grind)
  grind
 have m1 := hm _ _ hl'
 have z : ∀ u : Rat, 0 * u = 0 := fun u => Rat.zero_mul u
 rcases leastV_one (ofN default) (ofN h) (ofN B.lo) (ofN B.hi) with e | e | e | e
 all_goals rw [e, qV_by] at q1 q2 ⊢
 all_goals simp only [hd, qV_ofN, z] at q1 q2 ⊢
 all_goals split
 all_goals rename_i hc
 · have := Rat.mul_pos hh (show 0 < -(qN B.lo) by grind); grind
 · rfl
 · have := Rat.mul_pos hh (show 0 < -(qN B.lo) by grind); grind
 · rfl
 · rfl
 · have := mulq_nn (a := qN h) (b := qN B.lo) (by grind) (by grind); grind
 · grind
 · have := mulq_nn (a := qN h) (b := qN B.lo) (by grind) (by grind); grind
theorem time_hi {h : Nm} {B : Ivl} (hh : 0 < qN h) (hB : rightI B = true) : qV (hiV 2 (ofN default) (ofN h) (ofN B.lo) (ofN B.hi)) = if 0 < qN B.hi then qN h * qN B.hi else 0 := by
 have hl := qI_le hB
 have hd : qV (ofN default) = 0 := by rw [qV_ofN]; exact qN_dflt
 have h0 : qV (ofN default) ≤ qV (ofN h) := by rw [hd, qV_ofN]; grind
 have q1 := greatV_ge h0 hl (X := 0) (U := qN B.hi) (by rw [hd]; exact Rat.le_refl) (by rw [qV_ofN]; grind) hl (by rw [qV_ofN]; exact Rat.le_refl)
 have q2 := greatV_ge h0 hl (X := qN h) (U := qN B.hi) (by rw [hd]; grind) (by rw [qV_ofN]; exact Rat.le_refl) hl (by rw [qV_ofN]; exact Rat.le_refl)
 rw [Rat.zero_mul] at q1
 show qV (greatV (ofN default) (ofN h) (ofN B.lo) (ofN B.hi)) = _
 have hl' : qN B.lo ≤ qN B.hi := by rw [qV_ofN, qV_ofN] at hl; exact hl
 have hm : ∀ u v : Rat, u ≤ v → qN h * u ≤ qN h * v := fun u v huv => by
  have := mulq_nn (a := qN h) (b := v - u) (by grind) (by grind)
  grind
 have m1 := hm _ _ hl'
 have z : ∀ u : Rat, 0 * u = 0 := fun u => Rat.zero_mul u
 rcases greatV_one (ofN default) (ofN h) (ofN B.lo) (ofN B.hi) with e | e | e | e
 all_goals rw [e] at q1 q2 ⊢
 all_goals simp only [hd, qV_ofN, z] at q1 q2 ⊢
 all_goals split
 all_goals rename_i hc
 · have := Rat.mul_pos hh hc; grind
 · rfl
 · have := Rat.mul_pos hh hc; grind
 · rfl
 · grind
 · have := mulq_nn (a := qN h) (b := -(qN B.hi)) (by grind) (by grind); grind
 · rfl
 · have := mulq_nn (a := qN h) (b := -(qN B.hi)) (by grind) (by grind); grind
theorem high_of {v w : Vl} (hv : canV v) (hw : canV w) {k : Nat} (h : qV v * p2 k = qV w) (ho : (numV w).2 = 0) : v.m = 0 ∨ v.e ≤ 65536 := by
 rcases e_scale hv hw h with h1 | h1
 · exact .inl h1
 rcases numV_high ho with h2 | h2
 · left
   have hz : qV w = 0 := qV_m0 h2
   rw [hz] at h
   have hv0 : qV v = 0 := by
    rcases mulq_zero h with h | h
    · exact h
    · exact absurd h (p2_ne _)
   rcases hv with hm | rfl
   · have hn := mant_nat v
     have : mantV v = 0 := by
      unfold qV at hv0
      rw [← qM_zero v.e] at hv0
      exact qM_eq.1 hv0
     rw [this] at hn
     exact hn.symm
   · rfl
 · exact .inr (by omega)
theorem fits_gap {p : Nat} {N : Int} {u w : Rat} (hu : fitsQ p u) (hw : fitsQ p w) (hne : u ≠ w) (hb : w ≤ -(p2 (N + 1))) : p2 (N - p) ≤ u - w ∨ p2 (N - p) ≤ w - u := by
 obtain ⟨z, e, rfl, hz⟩ := hw
 have hg := qM_mag (e := e) hz
 have he : N + 1 ≤ (p : Int) + e := p2_le (by have := hg.1; grind)
 have hN := p2_succ N
 have hNp : p2 (N - p) ≤ p2 N := p2_mono (by omega)
 have hpos := p2_pos N
 by_cases h1 : -(p2 N) < u
 · exact .inl (by grind)
 · obtain ⟨z2, e2, rfl, hz2⟩ := hu
   have hg2 := qM_mag (e := e2) hz2
   have he2 : N ≤ (p : Int) + e2 := p2_le (by have := hg2.1; grind)
   have a1 := qM_at z e (N - p) (by omega)
   have a2 := qM_at z2 e2 (N - p) (by omega)
   rw [a1, a2] at hne ⊢
   generalize z * 2 ^ (e - (N - p)).toNat = A at *
   generalize z2 * 2 ^ (e2 - (N - p)).toNat = B at *
   have hAB : B ≠ A := fun q => hne (by rw [q])
   have s1 : qM B (N - p) - qM A (N - p) = qM (B - A) (N - p) := by rw [Rat.sub_eq_add_neg, ← qM_neg, ← qM_add]; congr 1
   have s2 : qM A (N - p) - qM B (N - p) = qM (A - B) (N - p) := by rw [Rat.sub_eq_add_neg, ← qM_neg, ← qM_add]; congr 1
   rw [s1, s2, p2_qM, qM_le, qM_le]
   omega
theorem big_lo {p k : Nat} {S x y r t : Rat} (hp : p ≤ 256) (hk : k ≤ 3) (hS : fitsQ p S) (hb : S < -(p2 60001)) (hx : magQ 18 x) (hy : magQ 18 y) (hr : RndDn p (y + S) r) (ht : RndDn p (x + S * p2 k) t) (hs : 0 ≤ y ∨ (x < 0 ∧ y < 0)) : r = S ∨ r * p2 k = t := by
 have g1 : p2 18 < p2 (60000 - (p : Int)) := by
  have := p2_mono (show (19 : Int) ≤ 60000 - p by omega)
  have h19 : p2 19 = p2 18 * 2 := p2_succ 18
  have := p2_pos 18
  grind
 have one_le : (1 : Rat) ≤ p2 k := by
  have := p2_mono (show (0 : Int) ≤ k by omega)
  rw [p2_zero] at this; exact this
 have k8 : p2 k ≤ 8 := by
  have := p2_mono (show (k : Int) ≤ 3 by omega)
  rw [p2_three] at this; exact this
 rcases hs with hs | ⟨hx0, hy0⟩
 · left
   have h1 : S ≤ r := hr.most S hS (by grind)
   apply Classical.byContradiction
   intro hne
   rcases fits_gap (N := 60000) hr.fits hS hne (by show S ≤ -(p2 (60000 + 1)); have : (60000 + 1 : Int) = 60001 := rfl; rw [this]; grind) with h2 | h2
   · have := hr.le
     have := hy.2
     grind
   · have := p2_pos (60000 - (p : Int)); grind
 · right
   have hT : fitsQ p (S * p2 k) := fits_scale hS k
   have hTb : S * p2 k ≤ -(p2 (60000 + 1)) := by
    have : (60000 + 1 : Int) = 60001 := rfl
    rw [this]
    have := mulq_nn (a := -S) (b := p2 k - 1) (by have := p2_pos 60001; grind) (by grind)
    grind
   have hTS : t < S * p2 k := by have := ht.le; grind
   have hrS : r < S := by have := hr.le; grind
   have g2 : p2 (60000 - p) ≤ S * p2 k - t := by
    rcases fits_gap (N := 60000) ht.fits hT (by grind) hTb with h2 | h2
    · have := p2_pos (60000 - (p : Int)); grind
    · exact h2
   have g3 : p2 (60000 - p) ≤ S - r := by
    rcases fits_gap (N := 60000) hr.fits hS (by grind) (by have : (60000 + 1 : Int) = 60001 := rfl; rw [this]; grind) with h2 | h2
    · have := p2_pos (60000 - (p : Int)); grind
    · exact h2
   -- r 2^k is below x + T, t 2^-k is below y + S
   have h1 : r * p2 k ≤ t := by
    refine ht.most _ (fits_scale hr.fits k) ?_
    have := mulq_nn (a := S - r) (b := p2 k - 1) (by grind) (by grind)
    have := hx.1
    grind
   have inv : t * p2 (-(k : Int)) * p2 k = t := by rw [Rat.mul_assoc, ← p2_add, Int.add_left_neg, p2_zero, Rat.mul_one]
   have inv2 : S * p2 k * p2 (-(k : Int)) = S := by rw [Rat.mul_assoc, ← p2_add, Int.add_right_neg, p2_zero, Rat.mul_one]
   have hkn := p2_pos (-(k : Int))
   have h8 : p2 (-(3 : Int)) ≤ p2 (-(k : Int)) := p2_mono (by omega)
   have g4 : p2 (60000 - p) * p2 (-(3 : Int)) ≤ (S * p2 k - t) * p2 (-(k : Int)) := by
    have a1 := mulq_nn (a := S * p2 k - t - p2 (60000 - p)) (b := p2 (-(k : Int))) (by grind) (by grind)
    have a2 := mulq_nn (a := p2 (60000 - p)) (b := p2 (-(k : Int)) - p2 (-(3 : Int))) (by have := p2_pos (60000 - (p : Int)); grind) (by grind)
    grind
   have g5 : p2 18 ≤ p2 (60000 - p) * p2 (-(3 : Int)) := by rw [← p2_add]; exact p2_mono (by omega)
   have h2 : t * p2 (-(k : Int)) ≤ r := by
    refine hr.most _ (fits_scale ht.fits _) ?_
    have := hy.1
    have e : (S * p2 k - t) * p2 (-(k : Int)) = S - t * p2 (-(k : Int)) := by
     rw [Rat.sub_eq_add_neg, Rat.add_mul, inv2]; grind
    rw [e] at g4
    grind
   have h3 : t ≤ r * p2 k := by
    have := mulq_nn (a := r - t * p2 (-(k : Int))) (b := p2 k) (by grind) (by grind)
    have e : (r - t * p2 (-(k : Int))) * p2 k = r * p2 k - t := by
     rw [Rat.sub_eq_add_neg, Rat.add_mul]
     have := inv
     grind
    rw [e] at this
    grind
   exact Rat.le_antisymm h1 h3
theorem sum_high {p k : Nat} {x y S T : Vl} (hp1 : 1 ≤ p) (hp : p ≤ 256) (hk : k ≤ 3) (cx : canV x) (cy : canV y) (cS : canV S) (cT : canV T) (hS : fitsQ p (qV S)) (hS0 : qV S ≤ 0) (hST : qV S * p2 k = qV T) (hx : magQ 18 (qV x)) (hy : magQ 18 (qV y)) (oT : (numV T).2 = 0) (hs : 0 ≤ qV y ∨ (qV x < 0 ∧ qV y < 0))
  (v w : Vl) (cv : canV v) (cw : canV w) (hv : RndDn p (qV y + qV S) (qV v)) (hw : RndDn p (qV x + qV T) (qV w)) (ow : (numV w).2 = 0) : v.m = 0 ∨ v.e ≤ 65536 := by
 by_cases hb : qV S < -(p2 60001)
 · rw [← hST] at hw
   rcases big_lo hp hk hS hb hx hy hv hw hs with e | e
   · refine high_of cv cT (k := k) ?_ oT
     rw [e]; exact hST
   · exact high_of cv cw e ow
 · have hm : magQ 60002 (qV y + qV S) := by
    refine magQ_add (e := 60001) (hy.up (by omega)) ⟨by grind, ?_⟩
    have := p2_pos 60001
    grind
   have hv2 : magQ 60002 (qV v) := ⟨hv.most _ (fits_p2n p 60002) hm.1, Rat.le_trans hv.le hm.2⟩
   rcases high_mag hv2 with h | h
   · exact .inl h
   · exact .inr (by omega)
end Go.Pv
end

section
/- A box that is found is sure for shorter times and for parts of the beginnings. No program in it. -/
namespace Go.Pv
theorem numV_turn {v : Vl} (h : (numV v).2 = 0) : (numV (turnV v)).2 = 0 := by
 unfold numV at h ⊢
 rw [turnV_m, turnV_e]
 split
 · rfl
 · rename_i h0
   rw [if_neg h0] at h
   split at h
   · exact absurd h (by decide)
   · rename_i h1
     rw [if_neg h1]
theorem p_le {p : Int} (h : precF p = true) : p.toNat ≤ 256 := by
 unfold precF at h
 simp only [Bool.and_eq_true, decide_eq_true_eq] at h
 omega
theorem time_less {h g : Nm} {B : Ivl} {p : Int} {k M : Nat} (h0 : 0 < qN g) (hr : rightN g = true) (hg : qN g * p2 k = qN h) (hm : mulQ 29 (qN g)) (hB : mulI M B) (hM : 29 + M ≤ 65536) (hT : (opI 2 ⟨default, h⟩ B p).2 = 0) :
  (opI 2 ⟨default, g⟩ B p).2 = 0 ∧ qN (opI 2 ⟨default, g⟩ B p).1.lo * p2 k = qN (opI 2 ⟨default, h⟩ B p).1.lo ∧ qN (opI 2 ⟨default, g⟩ B p).1.hi * p2 k = qN (opI 2 ⟨default, h⟩ B p).1.hi := by
 have r := opI_need hT
 have pp := precF_pos r.2.2
 have hp := p_le r.2.2
 have hk := p2_pos (k : Int)
 have hh : 0 < qN h := by rw [← hg]; exact Rat.mul_pos h0 hk
 have rg := time_right hr h0
 have ca := canI r.1
 have cb := canI r.2.1
 have cg := canI rg
 obtain ⟨o1, o2⟩ := opI_ok_get hT
 have l1 := time_lo h0 r.2.1
 have l2 := time_lo hh r.2.1
 have u1 := time_hi h0 r.2.1
 have u2 := time_hi hh r.2.1
 have cl1 := canV_lo 2 cg.1 cg.2 cb.1 cb.2
 have cl2 := canV_lo 2 ca.1 ca.2 cb.1 cb.2
 have cu1 := canV_hi 2 cg.1 cg.2 cb.1 cb.2
 have cu2 := canV_hi 2 ca.1 ca.2 cb.1 cb.2
 have el : qV (loV 2 (ofN default) (ofN g) (ofN B.lo) (ofN B.hi)) * p2 k = qV (loV 2 (ofN default) (ofN h) (ofN B.lo) (ofN B.hi)) := by
  rw [l1, l2]
  split
  · rw [← hg]; grind
  · rw [Rat.zero_mul]
 have eu : -(qV (hiV 2 (ofN default) (ofN g) (ofN B.lo) (ofN B.hi))) * p2 k = -(qV (hiV 2 (ofN default) (ofN h) (ofN B.lo) (ofN B.hi))) := by
  rw [u1, u2]
  split
  · rw [← hg]; grind
  · grind
 have sl := (rnd_dn cl1 pp).scale (rnd_dn cl2 pp) el
 have su := (rnd_up cu1 pp).scale (rnd_up cu2 pp) eu
 have su' : qV (roundV (hiV 2 (ofN default) (ofN g) (ofN B.lo) (ofN B.hi)) p.toNat true) * p2 k = qV (roundV (hiV 2 (ofN default) (ofN h) (ofN B.lo) (ofN B.hi)) p.toNat true) := by grind
 have ml : mulQ (29 + M) (qV (loV 2 (ofN default) (ofN g) (ofN B.lo) (ofN B.hi))) := by
  rw [l1]
  split
  · exact mulQ_mul hm hB.1
  · exact mulQ_zero _
 have mu : mulQ (29 + M) (qV (hiV 2 (ofN default) (ofN g) (ofN B.lo) (ofN B.hi))) := by
  rw [u1]
  split
  · exact mulQ_mul hm hB.2
  · exact mulQ_zero _
 have ok : (opI 2 ⟨default, g⟩ B p).2 = 0 := opI_ok_mk ⟨rg, r.2.1, r.2.2⟩
  (numV_okP (canV_round cl1 _ _) hp (fits_dn _ _) hM (mulQ_round cl1 ml pp _) (high_of (canV_round cl1 _ _) (canV_round cl2 _ _) sl o1))
  (numV_okP (canV_round cu1 _ _) hp (by have := fits_neg (rnd_up cu1 pp).fits; rw [Rat.neg_neg] at this; exact this) hM (mulQ_round cu1 mu pp _) (high_of (canV_round cu1 _ _) (canV_round cu2 _ _) su' o2))
 obtain ⟨e1, e2⟩ := opI_ends ok
 obtain ⟨e3, e4⟩ := opI_ends hT
 exact ⟨ok, by rw [e1, e3]; exact sl, by rw [e2, e4]; exact su'⟩
theorem sum_less {x y S T : Ivl} {p : Int} {k L : Nat} (hk : k ≤ 3) (h : (opI 0 x T p).2 = 0) (ry : rightI y = true) (rS : rightI S = true) (fS : fitsQ p.toNat (qN S.lo) ∧ fitsQ p.toNat (qN S.hi)) (s0 : qN S.lo ≤ 0 ∧ 0 ≤ qN S.hi) (eS : qN S.lo * p2 k = qN T.lo ∧ qN S.hi * p2 k = qN T.hi)
  (hs : subI y x) (hx : ampI 18 x) (my : mulI L y) (mS : mulI L S) (hL : L ≤ 65536) : (opI 0 y S p).2 = 0 := by
 have r := opI_need h
 have pp := precF_pos r.2.2
 have hp := p_le r.2.2
 have cx := canI r.1
 have cT := canI r.2.1
 have cy := canI ry
 have cS := canI rS
 have rT := rightI_right r.2.1
 obtain ⟨o1, o2⟩ := opI_ok_get h
 have hyl := qI_le ry
 rw [qV_ofN, qV_ofN] at hyl
 have mag1 : magQ 18 (qN y.lo) := ampI_mem hx ⟨hs.1, Rat.le_trans hyl hs.2⟩
 have mag2 : magQ 18 (qN y.hi) := ampI_mem hx ⟨Rat.le_trans hs.1 hyl, hs.2⟩
 have cl1 := canV_lo 0 cy.1 cy.2 cS.1 cS.2
 have cl2 := canV_lo 0 cx.1 cx.2 cT.1 cT.2
 have cu1 := canV_hi 0 cy.1 cy.2 cS.1 cS.2
 have cu2 := canV_hi 0 cx.1 cx.2 cT.1 cT.2
 have oT1 : (numV (ofN T.lo)).2 = 0 := by rw [numV_ofN rT.1]
 have oT2 : (numV (ofN T.hi)).2 = 0 := by rw [numV_ofN rT.2.1]
 have d1 := rnd_dn cl1 pp
 have d2 := rnd_dn cl2 pp
 have g1 := rnd_up cu1 pp
 have g2 := rnd_up cu2 pp
 rw [loV0, qV_plus] at d1 d2
 rw [hiV0, qV_plus] at g1 g2
 refine opI_ok_mk ⟨ry, rS, r.2.2⟩ ?_ ?_
 · refine numV_okP (canV_round cl1 _ _) hp (fits_dn _ _) hL (mulQ_round cl1 ?_ pp _) ?_
   · rw [loV0, qV_plus]; exact mulQ_add my.1 mS.1
   · refine sum_high (x := ofN x.lo) (y := ofN y.lo) (S := ofN S.lo) (T := ofN T.lo) pp hp hk cx.1 cy.1 cS.1 cT.1 fS.1 s0.1 eS.1 hx.1 mag1 oT1 ?_ _ _ (canV_round cl1 _ _) (canV_round cl2 _ _) d1 d2 o1
     show 0 ≤ qN y.lo ∨ (qN x.lo < 0 ∧ qN y.lo < 0)
     have := hs.1
     by_cases hz : 0 ≤ qN y.lo
     · exact .inl hz
     · exact .inr ⟨by grind, by grind⟩
 · refine numV_okP (canV_round cu1 _ _) hp (by have := fits_neg (rnd_up cu1 pp).fits; rw [Rat.neg_neg] at this; exact this) hL (mulQ_round cu1 ?_ pp _) ?_
   · rw [hiV0, qV_plus]; exact mulQ_add my.2 mS.2
   · have t := sum_high (x := turnV (ofN x.hi)) (y := turnV (ofN y.hi)) (S := turnV (ofN S.hi)) (T := turnV (ofN T.hi)) pp hp hk (canV_turn cx.2) (canV_turn cy.2) (canV_turn cS.2) (canV_turn cT.2)
      (by rw [qV_turn]; exact fits_neg fS.2) (by rw [qV_turn, qV_ofN]; have := s0.2; grind) (by rw [qV_turn, qV_turn, qV_ofN, qV_ofN, ← eS.2]; grind) (by rw [qV_turn]; exact magQ_neg hx.2) (by rw [qV_turn]; exact magQ_neg mag2) (numV_turn oT2)
      (by
       rw [qV_turn, qV_turn, qV_ofN, qV_ofN]
       have := hs.2
       by_cases hz : 0 ≤ -(qN y.hi)
       · exact .inl hz
       · exact .inr ⟨by grind, by grind⟩)
      (turnV (roundV (hiV 0 (ofN y.lo) (ofN y.hi) (ofN S.lo) (ofN S.hi)) p.toNat true)) (turnV (roundV (hiV 0 (ofN x.lo) (ofN x.hi) (ofN T.lo) (ofN T.hi)) p.toNat true)) (canV_turn (canV_round cu1 _ _)) (canV_turn (canV_round cu2 _ _))
      (by
       rw [qV_turn, qV_turn, qV_turn]
       have e : -(qV (ofN y.hi)) + -(qV (ofN S.hi)) = -(qV (ofN y.hi) + qV (ofN S.hi)) := by grind
       rw [e]; exact g1)
      (by
       rw [qV_turn, qV_turn, qV_turn]
       have e : -(qV (ofN x.hi)) + -(qV (ofN T.hi)) = -(qV (ofN x.hi) + qV (ofN T.hi)) := by grind
       rw [e]; exact g2) (numV_turn o2)
     rw [turnV_m, turnV_e] at t
     exact t
theorem sure_more {f : List (List Mn)} {x o y : List Ivl} {h g : Nm} {p : Int} {n k : Nat} (S : Seek f x h p n) (N : NextOK f x o h p) (hin : inB (nextP f x o h p).1 o = true) (hm : ∀ j, j < n → mulI 8528 (o.getD j default)) (hk : k ≤ 3) (hr : rightN g = true) (hg : qN g * p2 k = qN h) (hmg : mulQ 29 (qN g))
  (ry : rightB y = true) (ly : y.length = n) (hy : ∀ j, j < n → subI (y.getD j default) (x.getD j default)) (my : ∀ j, j < n → mulI 62 (y.getD j default)) (hx : ∀ j, j < n → ampI 18 (x.getD j default)) : sureP f y o g p = true := by
 have hfl := S.hf.1
 have hg0 : 0 < qN g := pos_scale hg N.ph
 have hol : o.length = n := by rw [N.la, hfl]
 have hle : qN g ≤ qN h := by
  have := p2_mono (show (0 : Int) ≤ k by omega)
  rw [p2_zero] at this
  have := mulq_nn (a := qN g) (b := p2 k - 1) (by grind) (by grind)
  grind
 have hB : ∀ j, j < n → mulI 25596 (rangeF (f.getD j []) o p (f.getD j []).length).1 := fun j hj => range3_mul S.hf hol hj hm (N.at (by omega : j < f.length)).r0
 have ht : ∀ j, j < n → _ := fun j hj => time_less (k := k) hg0 hr hg hmg (hB j hj) (by omega) (N.at (by omega : j < f.length)).t0
 have hsum : ∀ j, j < n → (opI 0 (y.getD j default) (opI 2 ⟨default, g⟩ (rangeF (f.getD j []) o p (f.getD j []).length).1 p).1 p).2 = 0 := fun j hj => by
  have A := N.at (by omega : j < f.length)
  obtain ⟨t1, t2, t3⟩ := ht j hj
  obtain ⟨e1, e2⟩ := opI_ends t1
  have r := opI_need t1
  have pp := precF_pos r.2.2
  have ca := canI r.1
  have cb := canI r.2.1
  obtain ⟨s1, s2⟩ := hI_sign A N.ph
  unfold hI at s1 s2
  have hkp := p2_pos (k : Int)
  refine sum_less (k := k) (L := 29 + 25596) hk A.s0 (rightB_at ry (by omega)) (opI_right _ _ _ _) ⟨by rw [e1]; exact fits_dn _ _, ?_⟩ ⟨?_, ?_⟩ ⟨t2, t3⟩ (hy j hj) (hx j hj) ((my j hj).down (by omega)) (opI_mul2 t1 (mulI_h hmg) (hB j hj)) (by omega)
  · rw [e2]
    have := fits_neg (rnd_up (canV_hi 2 ca.1 ca.2 cb.1 cb.2) pp).fits
    rw [Rat.neg_neg] at this; exact this
  · apply Rat.not_lt.1
    intro hlt
    have := Rat.mul_pos hlt hkp
    grind
  · apply Rat.not_lt.1
    intro hlt
    have := Rat.mul_pos (show 0 < -(qN (opI 2 ⟨default, g⟩ (rangeF (f.getD j []) o p (f.getD j []).length).1 p).1.hi) by grind) hkp
    grind
 have N' : NextOK f y o g p := nextP_mk N.rf ry N.ra (by omega) N.la hr hg0 N.pp N.e1 (fun j hj => (ht j (by omega)).1) (fun j hj => hsum j (by omega))
 obtain ⟨_, _, _, i4⟩ := inB_sub.1 hin
 unfold sureP
 rw [decide_eq_true (nextP_iff.2 N'), Bool.true_and]
 refine inB_sub.2 ⟨N'.rightB, N.ra, by rw [N'.len, N.la], fun j hj => ?_⟩
 have hj : j < n := by rw [N'.len] at hj; omega
 have A := N.at (by omega : j < f.length)
 have A' := N'.at (by omega : j < f.length)
 refine subI_trans ?_ (i4 j (by rw [N.len]; omega))
 rw [A.val, A'.val]
 exact opI_sub A'.s0 A.s0 (hy j hj) (opI_sub A'.t0 A.t0 ⟨by show qN default ≤ qN default; exact Rat.le_refl, hle⟩ (subI_refl _))
end Go.Pv
end
