/- Parts of the walk: M59. -/
import Derived.Test.YthllcnigcnoghaaGreatDoorZBA
import Derived.Test.YthllcnigcnoghaaGreatDoorZBM
import Derived.Test.YthllcnigcnoghaaGreatDoorZL
set_option linter.unusedVariables false
set_option linter.unusedSimpArgs false
section
/- Numbers by powers of two; times. No program in it. -/
namespace Go.Pv
theorem scaleN_val {x : Nm} {k : Nat} (h : (scaleN x (-(k : Int))).2 = 0) : rightN x = true ∧ qN (scaleN x (-(k : Int))).1 * p2 k = qN x := by
  unfold scaleN at h ⊢
  split at h
  · rename_i hr
    rw [if_pos hr]
    refine ⟨hr, ?_⟩
    split at h
    · rename_i hw
      rw [if_pos hw]
      have h0 : qN x = 0 := qN_nil (by rw [hw]; rfl)
      show qN x * p2 k = qN x
      rw [h0, Rat.zero_mul]
    · rename_i hw
      rw [if_neg hw]
      split at h
      · exact absurd h (by decide)
      · rename_i hk
        rw [if_neg hk]
        have hc : canV (⟨x.neg, valW x.w, x.exp + -(k : Int)⟩ : Vl) := by
          rcases canV_ofN hr with h1 | h1
          · exact .inl h1
          · exact absurd ((zero_of_right hr).1 (show valW x.w = 0 from congrArg Vl.m h1)) hw
        rw [(numV_val hc h).2]
        unfold qV qN qM
        show ((mantV ⟨x.neg, valW x.w, x.exp + -(k : Int)⟩ : Int) : Rat) * p2 (x.exp + -(k : Int)) * p2 k = ((mant x : Int) : Rat) * p2 x.exp
        rw [Rat.mul_assoc, ← p2_add]
        congr 2
        omega
  · exact absurd h (by decide)
theorem scaleN_lu {x : Nm} {L U k : Nat} (hx : rightN x = true) (h : luQ L U (qN x)) (hk : k ≤ 1000) (hb : L + U + k + 1 ≤ 4096) : (scaleN x (-(k : Int))).2 = 0 ∧ luQ (L + k) U (qN (scaleN x (-(k : Int))).1) := by
  have key : ∀ y : Rat, y * p2 k = qN x → luQ (L + k) U y := fun y hy => by
    obtain ⟨z, h1, h2⟩ := h
    refine ⟨z, ?_, Nat.le_trans h2 (Nat.pow_le_pow_right (by decide) (by omega))⟩
    have hne := p2_ne k
    have e : qM z (-((L + k : Nat) : Int)) * p2 k = qM z (-(L : Int)) := by
      unfold qM
      rw [Rat.mul_assoc, ← p2_add]
      congr 2
      omega
    rw [h1, ← e] at hy
    have := congrArg (fun t => t * (p2 k)⁻¹) hy
    simp only [Rat.mul_assoc, Rat.mul_inv_cancel _ hne, Rat.mul_one] at this
    exact this
  have h0 : (scaleN x (-(k : Int))).2 = 0 := by
    unfold scaleN
    rw [if_pos hx]
    split
    · rfl
    · rename_i hw
      rw [if_neg (by omega)]
      have hc : canV (⟨x.neg, valW x.w, x.exp + -(k : Int)⟩ : Vl) := by
        rcases canV_ofN hx with h1 | h1
        · exact .inl h1
        · exact absurd ((zero_of_right hx).1 (show valW x.w = 0 from congrArg Vl.m h1)) hw
      refine luV_fits hc (key _ ?_) (by omega)
      unfold qV qN qM
      show ((mantV ⟨x.neg, valW x.w, x.exp + -(k : Int)⟩ : Int) : Rat) * p2 (x.exp + -(k : Int)) * p2 k = ((mant x : Int) : Rat) * p2 x.exp
      rw [Rat.mul_assoc, ← p2_add]
      congr 2
      omega
  exact ⟨h0, key _ (scaleN_val h0).2⟩
theorem tq_lu {q : Nat} (h0 : 0 < q) (h : q ≤ 64) : luQ 3 6 (qN (tq q)) ∧ 0 < qN (tq q) := by
  have e : qN (tq q) = qM (q : Int) (-3) := by rw [← qV_ofN, (numV_tq q (by omega)).2, qV_mk]
  refine ⟨⟨(q : Int), e, ?_⟩, ?_⟩
  · simp only [Int.natAbs_natCast]; omega
  · rw [e, ← qM_zero (-3)]; exact qM_lt.2 (by omega)
end Go.Pv
end
