/- Parts of the walk: M34. -/
import Derived.Test.YtcfgdppnoephnaaGreatDoorZY
import Derived.Test.YtcfgdppnoephnaaGreatDoorZL
set_option linter.unusedVariables false
set_option linter.unusedSimpArgs false
section
/- Small intervals: nothing that is reckoned of them fails. No program in it. -/
set_option linter.unusedVariables false
set_option linter.unusedSimpArgs false
namespace Go.Pv
def smN (x : Nm) : Prop := rightN x = true ∧ bdV 6 12 (ofN x)
def smI (a : Ivl) : Prop := rightI a = true ∧ bdV 6 12 (ofN a.lo) ∧ bdV 6 12 (ofN a.hi)
theorem bdV_zero {n k : Nat} : bdV n k (ofN default) := by
  refine ⟨?_, ?_, ?_⟩
  · show bitlen 0 ≤ n; rw [bitlen_zero]; omega
  · show -(k : Int) ≤ 0; omega
  · show (0 : Int) ≤ k; omega
theorem smN_make {neg : Bool} {w : List UInt64} {e : Int} (hw : bitlen (valW w) ≤ 6) (h1 : -6 ≤ e) (h2 : e ≤ 6) : smN (makeN neg w e).1 := by
  refine ⟨rightN_makeN _ _ _, ?_⟩
  unfold makeN
  split
  · exact bdV_zero
  · split
    · exact bdV_zero
    · have hb := bdV_odd (neg := neg) (m := valW w) (e := e) (n := 6) (k := 6) hw (by omega) (by omega)
      have hf := numV_fits hb (by omega) (by omega)
      have hc : canV (oddV neg (valW w) e) := by
        rename_i h0 _
        exact canV_odd _ _ _
      rw [(numV_val hc hf).1]
      exact hb
theorem smI_point {x : Nm} (h : smN x) : smI ⟨x, x⟩ := ⟨point_right h.1, h.2, h.2⟩
theorem smI_betw {x y : Nm} (hx : smN x) (hy : smN y) : smI (betw x y) := by
  refine ⟨betw_right hx.1 hy.1, ?_⟩
  unfold betw
  split
  · exact ⟨hy.2, hx.2⟩
  · exact ⟨hx.2, hy.2⟩
theorem bdV_lo {k : Nat} {x y u v : Vl} (hx : bdV 6 12 x) (hy : bdV 6 12 y) (hu : bdV 6 12 u) (hv : bdV 6 12 v) : bdV 100 100 (loV k x y u v) := by
  unfold loV
  split
  · exact (bdV_plus hx hu).mono (by omega) (by omega)
  · split
    · exact (bdV_less hx hv).mono (by omega) (by omega)
    · exact (bdV_least hx hy hu hv).mono (by omega) (by omega)
theorem bdV_hi {k : Nat} {x y u v : Vl} (hx : bdV 6 12 x) (hy : bdV 6 12 y) (hu : bdV 6 12 u) (hv : bdV 6 12 v) : bdV 100 100 (hiV k x y u v) := by
  unfold hiV
  split
  · exact (bdV_plus hy hv).mono (by omega) (by omega)
  · split
    · exact (bdV_less hy hu).mono (by omega) (by omega)
    · exact (bdV_great hx hy hu hv).mono (by omega) (by omega)
theorem opI_sm (k : Nat) {a b : Ivl} {p : Int} (ha : smI a) (hb : smI b) (hp : precF p = true) : (opI k a b p).2 = 0 := by
  unfold opI
  rw [if_pos ⟨ha.1, hb.1, hp⟩]
  unfold endsV
  rw [if_pos ⟨numV_fits (bdV_round (bdV_lo ha.2.1 ha.2.2 hb.2.1 hb.2.2) _ _) (by omega) (by omega), numV_fits (bdV_round (bdV_hi ha.2.1 ha.2.2 hb.2.1 hb.2.2) _ _) (by omega) (by omega)⟩]
theorem strN_ok {k : Nat} {x y : Nm} {n m : Nat} (hx : rightN x = true) (hy : rightN y = true) (h1 : bdV n m (ofN x)) (h2 : bdV n m (ofN y)) (hn : 2 * n + 2 * m + 1 ≤ 4096) (hm : n + 3 * m + 1 ≤ 65536) :
    (strN k x y).2 = 0 ∧ rightN (strN k x y).1 = true ∧ qN (strN k x y).1 = exQ k (qN x) (qN y) := by
  have hc := canV_ex k (canV_ofN hx) (canV_ofN hy)
  have hb : bdV (2 * n + 2 * m + 1) (n + 3 * m + 1) (exV k (ofN x) (ofN y)) := by
    unfold exV
    split
    · exact (bdV_plus h1 h2).mono (by omega) (by omega)
    · split
      · exact (bdV_less h1 h2).mono (by omega) (by omega)
      · exact (bdV_by h1 h2).mono (by omega) (by omega)
  have hf := numV_fits hb hn hm
  unfold strN
  rw [if_pos ⟨hx, hy⟩]
  refine ⟨hf, rightN_numV (canV_ok hc), ?_⟩
  rw [(numV_val hc hf).2, qV_ex]; rfl
theorem reckN_ok {k : Nat} {x y : Nm} {p : Int} {up : Bool} {n m : Nat} (hx : rightN x = true) (hy : rightN y = true) (hp : precF p = true) (h1 : bdV n m (ofN x)) (h2 : bdV n m (ofN y)) (hn : 2 * n + 2 * m + 2 ≤ 4096) (hm : 5 * n + 7 * m + 4 ≤ 65536) :
    (reckN k x y p up).2 = 0 ∧ rightN (reckN k x y p up).1 = true ∧ (up = false → qN (reckN k x y p up).1 ≤ exQ k (qN x) (qN y)) ∧ (up = true → exQ k (qN x) (qN y) ≤ qN (reckN k x y p up).1) := by
  have hc := canV_ex k (canV_ofN hx) (canV_ofN hy)
  have hb : bdV (2 * n + 2 * m + 1) (n + 3 * m + 1) (exV k (ofN x) (ofN y)) := by
    unfold exV
    split
    · exact (bdV_plus h1 h2).mono (by omega) (by omega)
    · split
      · exact (bdV_less h1 h2).mono (by omega) (by omega)
      · exact (bdV_by h1 h2).mono (by omega) (by omega)
  have hf := numV_fits (bdV_round hb p.toNat up) (by omega) (by omega)
  have hcr := canV_round hc p.toNat up
  unfold reckN
  rw [if_pos ⟨hx, hy, hp⟩]
  refine ⟨hf, rightN_numV (canV_ok hcr), fun hu => ?_, fun hu => ?_⟩
  · subst hu
    rw [(numV_val hcr hf).2]
    have := roundV_le (exV k (ofN x) (ofN y)) p.toNat
    rw [qV_ex] at this; exact this
  · subst hu
    rw [(numV_val hcr hf).2]
    have := roundV_ge (exV k (ofN x) (ofN y)) p.toNat
    rw [qV_ex] at this; exact this
/-- The width of a small interval: it fits, it is at least 0. -/
theorem wideI_sm {a : Ivl} {p : Int} (ha : smI a) (hp : precF p = true) : (wideI a p).2 = 0 ∧ 0 ≤ qN (wideI a p).1 ∧ bdV 40 120 (ofN (wideI a p).1) := by
  have hc := canI ha.1
  have hb := bdV_round (bdV_less ha.2.2 ha.2.1) p.toNat true
  have hf := numV_fits hb (by omega) (by omega)
  have hcr := canV_round (canV_less hc.2 hc.1) p.toNat true
  unfold wideI
  rw [if_pos ⟨ha.1, hp⟩]
  have hv := numV_val hcr hf
  refine ⟨hf, ?_, ?_⟩
  · rw [hv.2]
    have h1 := roundV_ge (lessV (ofN a.hi) (ofN a.lo)) p.toNat
    rw [qV_less] at h1
    have h2 := qI_le ha.1
    have h3 : 0 ≤ qV (ofN a.hi) - qV (ofN a.lo) := by grind
    exact Rat.le_trans h3 h1
  · rw [hv.1]; exact hb.mono (by omega) (by omega)
theorem p2_two : p2 2 = 4 := by
  have := p2_int 2
  rw [← show ((2 : Nat) : Int) = 2 from rfl, ← this]; rfl
theorem scaleN_sm {x : Nm} (hx : rightN x = true) (h0 : 0 ≤ qN x) (hb : bdV 40 120 (ofN x)) : (scaleN x (-2)).2 = 0 ∧ 0 ≤ qN (scaleN x (-2)).1 ∧ bdV 40 122 (ofN (scaleN x (-2)).1) := by
  unfold scaleN
  rw [if_pos hx]
  split
  · exact ⟨rfl, h0, hb.mono (by omega) (by omega)⟩
  · rename_i hw
    rw [if_neg (by omega)]
    have hb2 : bdV 40 122 ⟨x.neg, valW x.w, x.exp + -2⟩ := ⟨hb.1, by have := hb.2.1; show -(122 : Int) ≤ x.exp + -2; have e : (ofN x).e = x.exp := rfl; omega, by have := hb.2.2; show x.exp + -2 ≤ (122 : Int); have e : (ofN x).e = x.exp := rfl; omega⟩
    have hf := numV_fits hb2 (by omega) (by omega)
    have hc : canV ⟨x.neg, valW x.w, x.exp + -2⟩ := by
      rcases canV_ofN hx with h | h
      · exact .inl h
      · exact absurd ((zero_of_right hx).1 (show valW x.w = 0 from by have := congrArg Vl.m h; exact this)) hw
    have hv := numV_val hc hf
    refine ⟨hf, ?_, by rw [hv.1]; exact hb2⟩
    rw [hv.2]
    refine (signV_ge _).1 ?_
    have h1 := (signV_ge (ofN x)).2 h0
    exact h1
theorem blowI_sm {a : Ivl} {p : Int} (ha : smI a) (hp : precF p = true) : (blowI a p).2 = 0 ∧ inI a (blowI a p).1 = true := by
  obtain ⟨w1, w2, w3⟩ := wideI_sm ha hp
  obtain ⟨s1, s2, s3⟩ := scaleN_sm (wideI_right a p) w2 w3
  have hsr := scaleN_right (wideI a p).1 (-2)
  obtain ⟨a1, a2, _⟩ := rightI_right ha.1
  obtain ⟨l1, l2, l3, _⟩ := reckN_ok (k := 1) (up := false) a1 hsr hp (ha.2.1.mono (by omega) (by omega)) s3 (by omega) (by omega)
  obtain ⟨h1, h2, _, h3⟩ := reckN_ok (k := 0) (up := true) a2 hsr hp (ha.2.2.mono (by omega) (by omega)) s3 (by omega) (by omega)
  unfold blowI
  rw [if_neg (by rw [w1]; decide), if_neg (by rw [s1]; decide), if_neg (by rw [l1, h1]; decide)]
  refine ⟨rfl, ?_⟩
  generalize (scaleN (wideI a p).1 (-2)).1 = s at *
  have l4 := l3 rfl
  have h4 := h3 rfl
  rw [exQ1] at l4
  rw [exQ0] at h4
  have c1 : qN (reckN 1 a.lo s p false).1 ≤ qN a.lo := by grind
  have c2 : qN a.hi ≤ qN (reckN 0 a.hi s p true).1 := by grind
  have c3 : qN a.lo ≤ qN a.hi := qI_le ha.1
  have hr : rightI ⟨(reckN 1 a.lo s p false).1, (reckN 0 a.hi s p true).1⟩ = true := rightI_mk l2 h2 (cmpN_le.2 (Rat.le_trans c1 (Rat.le_trans c3 c2)))
  unfold inI
  rw [ha.1, hr]
  simp only [Bool.true_and, Bool.and_eq_true, decide_eq_true_eq]
  exact ⟨cmpN_ge.2 c1, cmpN_ge.2 c2⟩
theorem has_op (k : Nat) {a b : Ivl} {p : Int} {x y : Nm} (h : (opI k a b p).2 = 0) (hx : memI (qN x) a) (hy : memI (qN y) b) {z : Nm} (hz : rightN z = true) (hq : qN z = exQ k (qN x) (qN y)) : hasI (opI k a b p).1 z = true :=
  hasI_mem (opI_right k a b p) hz (by rw [hq]; exact opI_mem k h hx hy)
end Go.Pv
end
