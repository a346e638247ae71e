/- Parts of the walk: M41, N45. -/
import Derived.Test.YtcfgdppnoephnaaGreatDoorZBA
import Derived.Test.YtcfgdppnoephnaaGreatDoorZAO
import Derived.Test.YtcfgdppnoephnaaGreatDoorZAV
import Derived.Test.YtcfgdppnoephnaaGreatDoorZBB
set_option linter.unusedVariables false
set_option linter.unusedSimpArgs false
section
/- By the matrix of ones; what the norm bounds. No program in it. -/
set_option linter.unusedVariables false
set_option linter.unusedSimpArgs false
namespace Go.Pv
theorem qN_one : qN oneN = 1 := by
  have : qN oneN = qM 1 0 := rfl
  rw [this]; unfold qM; rw [p2_zero, Rat.intCast_one, Rat.mul_one]
theorem qN_dflt : qN (default : Nm) = 0 := qM_zero 0
theorem smI_one : smI ⟨oneN, oneN⟩ := by
  have hb : bdV 6 12 (ofN oneN) := by
    refine ⟨bitlen_le_iff.2 (by decide), ?_, ?_⟩
    · show -((12 : Nat) : Int) ≤ 0; omega
    · show (0 : Int) ≤ ((12 : Nat) : Int); omega
  exact ⟨by decide, hb, hb⟩
theorem smI_dflt : smI default := ⟨by decide, bdV_zero, bdV_zero⟩
theorem idM_at {n i j : Nat} (h1 : 1 ≤ n) (h4 : n ≤ 4) (hi : i < n) (hj : j < n) : (idM (n : Int)).length = n ∧ ((idM (n : Int)).getD i []).length = n ∧ atM (idM (n : Int)) i j = if i = j then ⟨oneN, oneN⟩ else default := by
  have e : idM (n : Int) = (List.range n).map fun i => (List.range n).map fun j => if i = j then ⟨oneN, oneN⟩ else default := by
    rw [idM, if_pos (by omega)]; rfl
  rw [e]
  have e2 : ((List.range n).map fun i => (List.range n).map fun j => if i = j then (⟨oneN, oneN⟩ : Ivl) else default).getD i [] = (List.range n).map fun j => if i = j then (⟨oneN, oneN⟩ : Ivl) else default := by
    simp [List.getD_eq_getElem?_getD, hi]
  refine ⟨by simp, by rw [e2]; simp, ?_⟩
  unfold atM
  rw [e2]
  simp [List.getD_eq_getElem?_getD, hj]
theorem smM_id {n : Nat} (h1 : 1 ≤ n) (h4 : n ≤ 4) : smM (idM (n : Int)) ∧ (idM (n : Int)).length = n := by
  have hl := (idM_at h1 h4 (i := 0) (j := 0) (by omega) (by omega)).1
  refine ⟨⟨by omega, by omega, fun i hi => ?_⟩, hl⟩
  rw [hl] at hi ⊢
  refine ⟨(idM_at h1 h4 hi hi).2.1, fun j hj => ?_⟩
  rw [(idM_at h1 h4 hi hj).2.2]
  split
  · exact smI_one
  · exact smI_dflt
def deltaQ (i k : Nat) : Rat := if i = k then 1 else 0
theorem mem_delta {n i k : Nat} (h1 : 1 ≤ n) (h4 : n ≤ 4) (hi : i < n) (hk : k < n) : memI (deltaQ i k) (atM (idM (n : Int)) i k) := by
  rw [(idM_at h1 h4 hi hk).2.2]
  unfold deltaQ
  split
  · exact ⟨by show qN oneN ≤ 1; rw [qN_one]; exact Rat.le_refl, by show 1 ≤ qN oneN; rw [qN_one]; exact Rat.le_refl⟩
  · exact mem_default
theorem dotQ_zero {X Y : Nat → Rat} : ∀ n, (∀ k, k < n → X k * Y k = 0) → dotQ X Y n = 0
  | 0, _ => rfl
  | n + 1, h => by rw [dotQ, dotQ_zero n fun k hk => h k (by omega), h n (by omega)]; exact Rat.add_zero 0
theorem dotQ_delta {Y : Nat → Rat} {i : Nat} : ∀ n, i < n → dotQ (deltaQ i) Y n = Y i
  | 0, h => by omega
  | n + 1, h => by
    rw [dotQ]
    by_cases e : i = n
    · subst e
      rw [dotQ_zero i fun k hk => by unfold deltaQ; rw [if_neg (by omega), Rat.zero_mul]]
      unfold deltaQ
      rw [if_pos rfl, Rat.zero_add, Rat.one_mul]
    · rw [dotQ_delta n (by omega)]
      unfold deltaQ
      rw [if_neg e, Rat.zero_mul, Rat.add_zero]
theorem dotQ_comm (X Y : Nat → Rat) : ∀ n, dotQ X Y n = dotQ Y X n
  | 0 => rfl
  | n + 1 => by rw [dotQ, dotQ, dotQ_comm X Y n, Rat.mul_comm]
theorem in_of_mem {a b : Ivl} (ha : rightI a = true) (hb : rightI b = true) (h1 : memI (qN a.lo) b) (h2 : memI (qN a.hi) b) : inI a b = true := inI_mk ha hb h1.1 h2.2
theorem mem_lo {a : Ivl} (h : rightI a = true) : memI (qN a.lo) a := ⟨Rat.le_refl, by have := qI_le h; rwa [qV_ofN, qV_ofN] at this⟩
theorem mem_hi {a : Ivl} (h : rightI a = true) : memI (qN a.hi) a := ⟨by have := qI_le h; rwa [qV_ofN, qV_ofN] at this, Rat.le_refl⟩
/-- A matrix by that of ones, from either side, has the matrix. -/
theorem mulM_ids {a : Mx} {p : Int} (ha : smM a) (hp : precF p = true) :
    ∃ S T, mulM (idM (a.length : Int)) a p = (S, 0) ∧ mulM a (idM (a.length : Int)) p = (T, 0) ∧ rightM S = true ∧ rightM T = true ∧ inM a S = true ∧ inM a T = true := by
  obtain ⟨si, hil⟩ := smM_id ha.1 ha.2.1
  obtain ⟨S, hS, hSl, hSi⟩ := mulM_sm si ha (by omega) hp
  obtain ⟨T, hT, hTl, hTi⟩ := mulM_sm ha si (by omega) hp
  rw [hil] at hSl hSi
  have h4 := ha.2.1
  have h1 := ha.1
  have ra := ha.right
  have rS : rightM S = true := rightM_iff.2 ⟨fun i hi => by
    rw [hSl] at hi
    have hr := hSi i hi
    refine ⟨by rw [hr.1, hSl], rightB_mk (fun j hj => ?_) (by rw [hr.1]; omega) (by rw [hr.1]; omega)⟩
    rw [hr.1] at hj
    have := (hr.2 j hj).2
    unfold atM at this
    rw [this]; exact dotF_right _ _ _ _, by omega, by omega⟩
  have rT : rightM T = true := rightM_iff.2 ⟨fun i hi => by
    rw [hTl] at hi
    have hr := hTi i hi
    refine ⟨by rw [hr.1, hTl], rightB_mk (fun j hj => ?_) (by rw [hr.1]; omega) (by rw [hr.1]; omega)⟩
    rw [hr.1] at hj
    have := (hr.2 j hj).2
    unfold atM at this
    rw [this]; exact dotF_right _ _ _ _, by omega, by omega⟩
  refine ⟨S, T, hS, hT, rS, rT, inM_mk ra rS (by omega) fun i j hi hj => ?_, inM_mk ra rT (by omega) fun i j hi hj => ?_⟩
  · obtain ⟨e1, e2⟩ := (hSi i hi).2 j hj
    have raij := rightM_at ra hi hj
    rw [e2]
    have key : ∀ (Y : Nat → Rat), (∀ k, k < a.length → memI (Y k) (atM a k j)) → memI (Y i) (dotF (atM (idM (a.length : Int)) i) (fun k => atM a k j) p a.length).1 := fun Y hY => by
      have := dotF_mem (X := deltaQ i) (Y := Y) a.length e1 fun k hk => ⟨mem_delta h1 h4 hi hk, hY k hk⟩
      rwa [dotQ_delta _ hi] at this
    exact in_of_mem raij (dotF_right _ _ _ _) (key (fun k => qN (atM a k j).lo) fun k hk => mem_lo (rightM_at ra hk hj)) (key (fun k => qN (atM a k j).hi) fun k hk => mem_hi (rightM_at ra hk hj))
  · obtain ⟨e1, e2⟩ := (hTi i hi).2 j hj
    have raij := rightM_at ra hi hj
    rw [e2]
    have key : ∀ (Y : Nat → Rat), (∀ k, k < a.length → memI (Y k) (atM a i k)) → memI (Y j) (dotF (atM a i) (fun k => atM (idM (a.length : Int)) k j) p a.length).1 := fun Y hY => by
      have := dotF_mem (X := Y) (Y := deltaQ j) a.length e1 fun k hk => ⟨hY k hk, by
        have := mem_delta h1 h4 hk hj
        have e : deltaQ j k = deltaQ k j := by unfold deltaQ; by_cases h : j = k <;> simp [h, eq_comm]
        rw [e]; exact this⟩
      rwa [dotQ_comm, dotQ_delta _ hj] at this
    exact in_of_mem raij (dotF_right _ _ _ _) (key (fun k => qN (atM a i k).lo) fun k hk => mem_lo (rightM_at ra hi hk)) (key (fun k => qN (atM a i k).hi) fun k hk => mem_hi (rightM_at ra hi hk))
/-- Between -A and A. -/
def inQ1 (A x : Rat) : Prop := -A ≤ x ∧ x ≤ A
theorem inQ1_mul {A B x y : Rat} (hx : inQ1 A x) (hy : inQ1 B y) : inQ1 (A * B) (x * y) := by
  obtain ⟨x1, x2⟩ := hx
  obtain ⟨y1, y2⟩ := hy
  have a1 := mulq_nn (a := A - x) (b := B + y) (by grind) (by grind)
  have a2 := mulq_nn (a := A + x) (b := B - y) (by grind) (by grind)
  have a3 := mulq_nn (a := A - x) (b := B - y) (by grind) (by grind)
  have a4 := mulq_nn (a := A + x) (b := B + y) (by grind) (by grind)
  exact ⟨by grind, by grind⟩
def sumQ (A : Nat → Rat) : Nat → Rat
  | 0 => 0
  | n + 1 => sumQ A n + A n
theorem dotQ_bound {X Y A : Nat → Rat} {B : Rat} : ∀ n, (∀ k, k < n → inQ1 (A k) (X k) ∧ inQ1 B (Y k)) → inQ1 (sumQ A n * B) (dotQ X Y n)
  | 0, _ => by
    show inQ1 (0 * B) 0
    rw [Rat.zero_mul]; exact ⟨by grind, by grind⟩
  | n + 1, h => by
    obtain ⟨a1, a2⟩ := dotQ_bound n fun k hk => h k (by omega)
    obtain ⟨b1, b2⟩ := inQ1_mul (h n (by omega)).1 (h n (by omega)).2
    show inQ1 ((sumQ A n + A n) * B) (dotQ X Y n + X n * Y n)
    exact ⟨by grind, by grind⟩
theorem qN_mag (x : Nm) : qN x ≤ qN (magN x) ∧ - qN x ≤ qN (magN x) ∧ 0 ≤ qN (magN x) := by
  have e : mant (magN x) = (valW x.w : Int) := by unfold mant magN; simp
  have e2 : qN (magN x) = qM (valW x.w : Int) x.exp := by unfold qN; rw [e]; rfl
  rw [e2]
  have h0 : (0 : Rat) = qM 0 x.exp := (qM_zero _).symm
  refine ⟨?_, ?_, ?_⟩
  · unfold qN mant
    rw [qM_le]; split <;> omega
  · unfold qN mant
    rw [← qM_neg, qM_le]; split <;> omega
  · rw [h0, qM_le]; omega
theorem magI_in {a : Ivl} {X : Rat} (ha : rightI a = true) (h : memI X a) : inQ1 (qN (magI a)) X ∧ 0 ≤ qN (magI a) := by
  unfold magI
  rw [if_pos ha]
  obtain ⟨g1, g2, _⟩ := qgreat (magN a.lo) (magN a.hi)
  obtain ⟨l1, l2, l3⟩ := qN_mag a.lo
  obtain ⟨u1, u2, u3⟩ := qN_mag a.hi
  obtain ⟨m1, m2⟩ := h
  exact ⟨⟨by grind, by grind⟩, by grind⟩
theorem magI_lu {L U : Nat} {a : Ivl} (h : luI L U a) : luQ L U (qN (magI a)) := by
  unfold magI
  rw [if_pos h.1]
  have key : ∀ x, luQ L U (qN x) → luQ L U (qN (magN x)) := fun x hx => by
    have e : qN (magN x) = qN x ∨ qN (magN x) = - qN x := by
      unfold qN mant magN
      cases hn : x.neg with
      | true => right; simp [qM_neg]
      | false => left; simp
    rcases e with e | e
    · rw [e]; exact hx
    · rw [e]; exact luQ_neg hx
  unfold greatN
  split
  · exact key _ h.2.2
  · exact key _ h.2.1
theorem reck_lu {L U : Nat} {x y : Nm} {p : Int} (hx : rightN x = true) (hy : rightN y = true) (h1 : luQ L U (qN x)) (h2 : luQ L U (qN y)) (hp : precF p = true) (hb : L + U + 3 ≤ 4096) :
    (reckN 0 x y p true).2 = 0 ∧ luQ L (U + 2) (qN (reckN 0 x y p true).1) ∧ qN x + qN y ≤ qN (reckN 0 x y p true).1 := by
  have hc : canV (exV 0 (ofN x) (ofN y)) := canV_ex 0 (canV_ofN hx) (canV_ofN hy)
  have hq : qV (exV 0 (ofN x) (ofN y)) = qN x + qN y := by rw [qV_ex, exQ0]; rfl
  have hl : luQ L (U + 1) (qV (exV 0 (ofN x) (ofN y))) := by rw [hq]; exact luQ_add h1 h2
  have hr := luV_round hc hl p.toNat (precF_pos hp) true
  have hcr := canV_round hc p.toNat true
  have hf := luV_fits hcr hr (by omega)
  unfold reckN
  rw [if_pos ⟨hx, hy, hp⟩]
  refine ⟨hf, by rw [(numV_val hcr hf).2]; exact hr, ?_⟩
  rw [(numV_val hcr hf).2, ← hq]
  exact roundV_ge _ _
theorem sumF_sm {r : Nat → Ivl} {p : Int} {L U : Nat} (hp : precF p = true) : ∀ j, (∀ k, k ≤ j → luI L U (r k)) → L + U + 2 * j + 3 ≤ 4096 →
    (sumF r p j).2 = 0 ∧ luQ L (U + 2 * j) (qN (sumF r p j).1) ∧ sumQ (fun k => qN (magI (r k))) (j + 1) ≤ qN (sumF r p j).1
  | 0, h, _ => ⟨rfl, magI_lu (h 0 (by omega)), by
    show 0 + qN (magI (r 0)) ≤ qN (magI (r 0))
    rw [Rat.zero_add]; exact Rat.le_refl⟩
  | j + 1, h, hb => by
    obtain ⟨h1, h2, h3⟩ := sumF_sm hp j (fun k hk => h k (by omega)) (by omega)
    rw [sumF_next h1]
    obtain ⟨c1, c2, c3⟩ := reck_lu (sumF_right r p j) (magI_right (r (j + 1))) h2 ((magI_lu (h (j + 1) (by omega))).up (by omega)) hp (by omega)
    refine ⟨c1, c2.up (by omega), ?_⟩
    show sumQ (fun k => qN (magI (r k))) (j + 1) + qN (magI (r (j + 1))) ≤ _
    grind
theorem normF_sm {m : Mx} {p : Int} (hm : smM m) (hp : precF p = true) : ∀ i, i ≤ m.length → (normF m p i).2 = 0 ∧ 0 ≤ qN (normF m p i).1 ∧ luQ 12 30 (qN (normF m p i).1) ∧ ∀ k, k < i → sumQ (fun j => qN (magI (atM m k j))) m.length ≤ qN (normF m p i).1
  | 0, _ => ⟨rfl, by show 0 ≤ qN (default : Nm); rw [qN_dflt]; exact Rat.le_refl, by show luQ 12 30 (qN (default : Nm)); rw [qN_dflt]; exact luQ_zero _ _, fun k hk => by omega⟩
  | i + 1, hi => by
    obtain ⟨h1, h2, h3, h4⟩ := normF_sm hm hp i (by omega)
    have hl := hm.2.1
    have hl1 := hm.1
    obtain ⟨s1, s2, s3⟩ := sumF_sm (r := atM m i) (p := p) (L := 12) (U := 18) hp (m.length - 1) (fun k hk => smI_lu ((hm.2.2 i (by omega)).2 k (by omega))) (by omega)
    rw [show m.length - 1 + 1 = m.length from by omega] at s3
    have hsr := sumF_right (atM m i) p (m.length - 1)
    have hnr := normF_right m p i
    rw [normF_next h1 s1, cmpR_right hsr hnr]
    split
    · rename_i hc
      have hc := cmpN_gt.1 hc
      refine ⟨rfl, by show 0 ≤ qN (sumF (atM m i) p (m.length - 1)).1; grind, s2.up (by omega), fun k hk => ?_⟩
      show _ ≤ qN (sumF (atM m i) p (m.length - 1)).1
      by_cases e : k = i
      · subst e; exact s3
      · have := h4 k (by omega); grind
    · rename_i hc
      have hc := cmpN_le.1 (Int.not_lt.1 hc)
      refine ⟨rfl, h2, h3, fun k hk => ?_⟩
      show _ ≤ qN (normF m p i).1
      by_cases e : k = i
      · subst e; grind
      · exact h4 k (by omega)
/-- The greatest of magnitudes, as the law finds it. -/
def mostV (z : Nat → Nm) : Nat → Vl
  | 0 => ⟨false, 0, 0⟩
  | i + 1 => if orderV (ofN (absN (z i))) (mostV z i) > 0 then ofN (absN (z i)) else mostV z i
theorem orderV_gt (a b : Vl) : orderV a b > 0 ↔ qV b < qV a := by
  have := orderV_le a b
  rw [← Rat.not_le, ← this]; omega
theorem mostV_sm {z : Nat → Nm} {L U : Nat} : ∀ i, (∀ k, k < i → rightN (z k) = true ∧ luQ L U (qN (z k))) → canV (mostV z i) ∧ luQ L U (qV (mostV z i)) ∧ 0 ≤ qV (mostV z i) ∧ ∀ k, k < i → inQ1 (qV (mostV z i)) (qN (z k))
  | 0, _ => ⟨.inr rfl, by rw [show qV (mostV z 0) = 0 from qV_m0 rfl]; exact luQ_zero _ _, by rw [show qV (mostV z 0) = 0 from qV_m0 rfl]; exact Rat.le_refl, fun k hk => by omega⟩
  | i + 1, h => by
    obtain ⟨c1, c2, c3, c4⟩ := mostV_sm i fun k hk => h k (by omega)
    obtain ⟨r1, r2⟩ := h i (by omega)
    have ea : absN (z i) = magN (z i) := if_pos r1
    obtain ⟨m1, m2, m3⟩ := qN_mag (z i)
    have hq : qV (ofN (absN (z i))) = qN (magN (z i)) := by rw [qV_ofN, ea]
    have hlu : luQ L U (qN (magN (z i))) := by
      have e : qN (magN (z i)) = qN (z i) ∨ qN (magN (z i)) = - qN (z i) := by
        unfold qN mant magN
        cases hn : (z i).neg with
        | true => right; simp [qM_neg]
        | false => left; simp
      rcases e with e | e
      · rw [e]; exact r2
      · rw [e]; exact luQ_neg r2
    unfold mostV
    split
    · rename_i hg
      have hg := (orderV_gt _ _).1 hg
      rw [hq] at hg
      refine ⟨canV_ofN (absN_right _), by rw [hq]; exact hlu, by rw [hq]; exact m3, fun k hk => ?_⟩
      rw [hq]
      by_cases e : k = i
      · subst e; exact ⟨by grind, m1⟩
      · obtain ⟨a1, a2⟩ := c4 k (by omega); exact ⟨by grind, by grind⟩
    · rename_i hg
      have hg : ¬ qV (mostV z i) < qV (ofN (absN (z i))) := fun e => hg ((orderV_gt _ _).2 e)
      rw [hq] at hg
      refine ⟨c1, c2, c3, fun k hk => ?_⟩
      by_cases e : k = i
      · subst e; exact ⟨by grind, by grind⟩
      · exact c4 k (by omega)
def absV (v : Vl) : Vl := if signV v < 0 then turnV v else v
theorem absV_le {v w : Vl} (h : inQ1 (qV w) (qV v)) : ¬ orderV (absV v) w > 0 := by
  intro hg
  have hg := (orderV_gt _ _).1 hg
  obtain ⟨a1, a2⟩ := h
  unfold absV at hg
  split at hg
  · rw [qV_turn] at hg; grind
  · grind
end Go.Pv
end

section
/- The law MatIds. -/
set_option linter.unusedVariables false
set_option linter.unusedSimpArgs false
set_option maxRecDepth 100000
namespace Go.Pv
open Go.Proofs
theorem right_wN {x : Nm} (h : rightN x = true) : wN x := by have := (rightN_sm h).1; unfold wN; omega
theorem sgn_own {x : Nm} (h : rightN x = true) (h0 : 0 ≤ qN x) : 0 ≤ sgnN (ownN x) := by
  rw [ownN, if_pos h, sgnN_eq]
  have h1 : qM 0 x.exp ≤ qM (mant x) x.exp := by rw [qM_zero]; exact h0
  have h2 := qM_le.1 h1
  unfold sgn
  split
  · omega
  · split <;> omega
set_option maxHeartbeats 8000000 in
theorem matIds_c (l : List UInt64) : PCalls Tryz.prog 8 [.sl .no (encW l)] [] (fun r st' => r = .sc (.bool true)) := by
  refine pcalls_enter none Tryz.func8 rfl fun E => pwp_of_vc ?_
  simp -dsimp only [go_sem]
  refine (known7_c _).mono ?_
  rintro r st ⟨rfl, rfl⟩
  simp -dsimp only [go_sem]
  refine (deckOf_c l _).mono ?_
  rintro r st ⟨rfl, rfl⟩
  simp -dsimp only [go_sem]
  refine (dim_c l 0 0 [dk l 0] rfl (by omega)).mono ?_
  rintro r st ⟨n, hn1, hn2, rfl, rfl⟩
  have hnn : 3 * n * n ≤ 3 * 4 * 4 := Nat.mul_le_mul (Nat.mul_le_mul_left 3 hn2) hn2
  simp -dsimp only [go_sem]
  refine (deckMat_c l 1 0 n [dk l 1] rfl (by omega) (by omega)).mono ?_
  rintro r st ⟨a, j1, hla, ha0, hj1, hj2, rfl, rfl⟩
  simp -dsimp only [go_sem]
  refine (smallBoxS_c l j1 0 n [dk l j1] rfl (by omega) (by omega)).mono ?_
  rintro r st ⟨v, j4, hlv, hv0, hj7, hj8, rfl, rfl⟩
  simp -dsimp only [go_sem]
  refine (prec_c l j4 0 [dk l j4] rfl (by omega)).mono ?_
  rintro r st ⟨p, j5, hp1, hp2, hj9, hj10, rfl, rfl⟩
  have sa : smM a := ⟨by omega, by omega, by rw [hla]; exact ha0⟩
  have sv : smB v := ⟨by omega, by omega, hv0⟩
  have ra := sa.right
  have wa := rightM_wM ra
  have hp := precF_nat' hp1 hp2
  have hll : a.length * a.length ≤ 4 * 4 := Nat.mul_le_mul (by omega) (by omega)
  have hid := smM_id (n := n) (by omega) hn2
  have wi := rightM_wM hid.1.right
  obtain ⟨S, T, hS, hT, rS, rT, iS, iT⟩ := mulM_ids sa hp
  rw [hla] at hS hT
  obtain ⟨n1, n2, n3, n4⟩ := normF_sm sa hp a.length (Nat.le_refl _)
  have rN := normF_right a p a.length
  have hN : normM a p = ((normF a p a.length).1, 0) := by
    rw [normM, if_pos ⟨ra, hp⟩]; exact Prod.ext rfl n1
  generalize (normF a p a.length).1 = nm at *
  simp -dsimp only [go_sem]
  refine (matId_c n _).mono ?_
  rintro r st ⟨rfl, rfl⟩
  simp -dsimp only [go_sem]
  refine (matMul_c _ a p _ wi wa).mono ?_
  rintro r st ⟨rfl, rfl⟩
  rw [hS]
  simp -dsimp only [go_sem]
  refine (matId_c n _).mono ?_
  rintro r st ⟨rfl, rfl⟩
  simp -dsimp only [go_sem]
  refine (matMul_c a _ p _ wa wi).mono ?_
  rintro r st ⟨rfl, rfl⟩
  rw [hT]
  simp -dsimp only [go_sem]
  refine (matNorm_c a p _ wa).mono ?_
  rintro r st ⟨rfl, rfl⟩
  rw [hN]
  have z0 : ((0 : Int) != 0) = false := rfl
  simp -dsimp only [go_sem, z0]
  refine (matIn_c a S _ wa (rightM_wM rS)).mono ?_
  rintro r st ⟨rfl, rfl⟩
  rw [iS]
  simp -dsimp only [go_sem, z0]
  refine (matIn_c a T _ wa (rightM_wM rT)).mono ?_
  rintro r st ⟨rfl, rfl⟩
  rw [iT]
  simp -dsimp only [go_sem, z0]
  refine (deckInMat_c l j5 0 a [dk l j5] rfl (by omega) ra).mono ?_
  rintro r st ⟨x, hx, rfl, rfl⟩
  simp -dsimp only [go_sem]
  refine (inBoxD_c l (j5 + a.length * a.length) 0 v [dk l (j5 + a.length * a.length)] rfl (by omega) (by omega) (rightB_all sv.right)).mono ?_
  rintro r st ⟨z, hz1, hz2, rfl, rfl⟩
  have px : ∀ i k, i < n → k < n → rightN ((x.getD i []).getD k default) = true ∧ memI (qN ((x.getD i []).getD k default)) (atM a i k) ∧ luQ 62 105 (qN ((x.getD i []).getD k default)) := fun i k hi hk => by
    obtain ⟨q, hq, e⟩ := (hx.2 i (by omega)).2 k (by omega)
    rw [e]; exact pt_lu ((ha0 i hi).2 k hk) hq
  have pz : ∀ k, k < n → rightN (z.getD k default) = true ∧ memI (qN (z.getD k default)) (v.getD k default) ∧ luQ 62 105 (qN (z.getD k default)) := fun k hk => by
    obtain ⟨q, hq, e⟩ := hz2 k (by omega)
    rw [e]; exact pt_lu (hv0 k (by omega)) hq
  have ds : ∀ i, i < n → Dots (fun k => (x.getD i []).getD k default) (fun k => z.getD k default) n := fun i hi => ⟨hn2, fun k hk => ⟨(px i k hi hk).1, (pz k hk).1⟩, fun k hk => ⟨(px i k hi hk).2.2, (pz k hk).2.2⟩⟩
  have hxl := hx.1
  have ms : ∀ i, i ≤ n → _ := fun i hi => mostV_sm (z := fun k => z.getD k default) (L := 62) (U := 105) i (fun k hk => ⟨(pz k (by omega)).1, (pz k (by omega)).2.2⟩)
  have mb : ∀ i, i ≤ n → bdV 168 168 (mostV (fun k => z.getD k default) i) := fun i hi => luV_bd (ms i hi).1 (ms i hi).2.1
  have ab : ∀ i, i < n → bdV 168 168 (ofN (absN (z.getD i default))) := fun i hi => by
    have r1 := absN_right (z.getD i default)
    have m1 : luQ 62 105 (qN (absN (z.getD i default))) := by
      rw [show absN (z.getD i default) = magN (z.getD i default) from if_pos (pz i hi).1]
      have := magI_lu (L := 62) (U := 105) (a := ⟨z.getD i default, z.getD i default⟩) ⟨rightI_mk (pz i hi).1 (pz i hi).1 (cmpN_le.2 Rat.le_refl), (pz i hi).2.2, (pz i hi).2.2⟩
      rw [magI, if_pos (rightI_mk (pz i hi).1 (pz i hi).1 (cmpN_le.2 Rat.le_refl))] at this
      unfold greatN at this
      split at this <;> exact this
    exact luV_bd (canV_ofN r1) (by rw [qV_ofN]; exact m1)
  have nb : bdV 43 43 (ofN nm) := luV_bd (canV_ofN rN) (by rw [qV_ofN]; exact n3)
  have wb := bdV_by (mb n (Nat.le_refl n)) nb
  have fin : ∀ i, i < n → ¬ orderV (absV (dotV (fun k => (x.getD i []).getD k default) (fun k => z.getD k default) n)) (byV (mostV (fun k => z.getD k default) n) (ofN nm)) > 0 := fun i hi => by
    refine absV_le ?_
    rw [qV_by, qV_ofN, qV_dot]
    obtain ⟨c1, c2, c3, c4⟩ := ms n (Nat.le_refl n)
    have d := dotQ_bound (X := fun k => qN ((x.getD i []).getD k default)) (Y := fun k => qN (z.getD k default)) (A := fun j => qN (magI (atM a i j))) (B := qV (mostV (fun k => z.getD k default) n)) n fun k hk => ⟨(magI_in (rightM_at ra (by omega) (by omega)) (px i k hi hk).2.1).1, c4 k hk⟩
    have s := n4 i (by omega)
    rw [hla] at s
    obtain ⟨d1, d2⟩ := d
    have m := mulq_nn (a := qN nm - sumQ (fun j => qN (magI (atM a i j))) n) (b := qV (mostV (fun k => z.getD k default) n)) (by grind) c3
    exact ⟨by grind, by grind⟩
  have sg := sgn_own rN n2
  simp -dsimp only [go_sem]
  refine pwp_plainBox 1 ?_
  simp -dsimp only [go_sem]
  generalize [dk l (j5 + a.length * a.length + v.length)] = st
  generalize hZ : (fun k => z.getD k default) = Z at *
  have gZ : ∀ k, Z k = z.getD k default := fun k => by rw [← hZ]
  refine pwp_loop_mask [false, false, false, false, true, false, false, false, false, false, false, false, true, false, true, true, true, true] 2 0
    (fun c s => ∃ i, c = n - i ∧ i ≤ n ∧ s = ⟨[.junk, .junk, .junk, .junk, .sc (.int .i64 n), .junk, .junk, .junk, .junk, .junk, .junk, .junk, .lp 0 0, .junk, .sl .no (encQ x), .sl .no (encNs z), .lp 1 0, .sc (.int .i64 (i : Nat))] ++ List.replicate 126 .junk, [encN nm, encV (mostV Z i)], [], st⟩) n ?_ ?_
  · simp -dsimp only [go_sem]
    exact ⟨0, by omega, by omega, by simp only [mostV, digitsOf_zero, encD_nil]; rfl⟩
  · rintro c s ⟨i, rfl, hi, rfl⟩
    simp -dsimp only [go_sem]
    refine ck (fun h1 => ?_) (fun h1 => ?_)
    · have hlt : i < n := by have := of_decide_eq_true h1; omega
      have f2 := encNs_get z i (by omega)
      have f3 := succW i (by omega)
      have hzr := (pz i hlt).1
      have abi := ab i hlt
      have mbi := mb i hi
      simp -dsimp only [go_sem, f2]
      refine ⟨by omega, ?_⟩
      refine (abs_c (z.getD i default) _ (right_wN hzr)).mono ?_
      rintro r st ⟨rfl, rfl⟩
      simp -dsimp only [go_sem]
      refine (of_c _ _ (by have := (rightN_sm (absN_right (z.getD i default))).1; omega)).mono ?_
      rintro r st ⟨rfl, rfl⟩
      simp -dsimp only [go_sem]
      refine (order_c _ _ _ (smV_bd abi (by omega) (by omega)) (smV_bd mbi (by omega) (by omega))).mono ?_
      rintro r st ⟨rfl, rfl⟩
      simp -dsimp only [go_sem]
      have hs : mostV Z (i + 1) = if orderV (ofN (absN (z.getD i default))) (mostV Z i) > 0 then ofN (absN (z.getD i default)) else mostV Z i := by rw [mostV, gZ]
      refine ck (fun h2 => ?_) (fun h2 => ?_)
      · rw [if_pos (of_decide_eq_true h2)] at hs
        simp -dsimp only [go_sem, f3]
        exact ⟨n - (i + 1), by omega, i + 1, rfl, by omega, by rw [hs]⟩
      · rw [if_neg (of_decide_eq_false h2)] at hs
        simp -dsimp only [go_sem, f3]
        exact ⟨n - (i + 1), by omega, i + 1, rfl, by omega, by rw [hs]⟩
    · have hge : i = n := by have := of_decide_eq_false h1; omega
      subst hge
      have mbn := mb i (Nat.le_refl i)
      simp -dsimp only [go_sem]
      refine pwp_of_vc ?_
      simp -dsimp only [go_sem]
      refine pwp_draw mixed 144 (.step 0 [] (.step 1 [] (.step 2 [0] (.step 3 [] (.step 4 [] (.done)))))) (by decide +kernel) (by simp) ?_
      simp -dsimp only [go_sem]
      refine (of_c nm _ (by have := (rightN_sm rN).1; omega)).mono ?_
      rintro r st ⟨rfl, rfl⟩
      simp -dsimp only [go_sem]
      refine (by_c _ _ _ (smV_bd mbn (by omega) (by omega)) (smV_bd nb (by omega) (by omega))).mono ?_
      rintro r st ⟨rfl, rfl⟩
      simp -dsimp only [go_sem]
      generalize byV (mostV Z i) (ofN nm) = U at *
      have wbs := smV_bd wb (by omega) (by omega)
      refine pwp_loop_mask [false, false, false, false, true, false, false, false, false, false, false, false, true, false, true, true, true, false, false, true] 2 0
        (fun c s => ∃ j, c = i - j ∧ j ≤ i ∧ s = ⟨[.junk, .junk, .junk, .junk, .sc (.int .i64 i), .junk, .junk, .junk, .junk, .junk, .junk, .junk, .lp 0 0, .junk, .sl .no (encQ x), .sl .no (encNs z), .lp 1 0, .junk, .junk, .sc (.int .i64 (j : Nat))] ++ List.replicate 124 .junk, [encN nm, encV U], [], st⟩) i ?_ ?_
      · simp -dsimp only [go_sem]
        exact ⟨0, by omega, by omega, rfl⟩
      · rintro c s ⟨j, rfl, hj, rfl⟩
        simp -dsimp only [go_sem]
        refine ck (fun h3 => ?_) (fun h3 => ?_)
        · have hlt : j < i := by have := of_decide_eq_true h3; omega
          have ex := encQ_get x j (by omega)
          have g3 := succW j (by omega)
          have hxr := (hx.2 j (by omega)).1
          have dd := ds j hlt
          have ff := fin j hlt
          simp -dsimp only [go_sem]
          refine pwp_plainBox 2 ?_
          simp -dsimp only [go_sem]
          generalize hX : (fun k => (x.getD j []).getD k default) = X at *
          have gX : ∀ k, X k = (x.getD j []).getD k default := fun k => by rw [← hX]
          refine pwp_loop_mask [false, false, false, false, true, false, false, false, false, false, false, false, true, false, true, true, true, false, false, true, true, true] 3 0
            (fun c s => ∃ k, c = i - k ∧ k ≤ i ∧ s = ⟨[.junk, .junk, .junk, .junk, .sc (.int .i64 i), .junk, .junk, .junk, .junk, .junk, .junk, .junk, .lp 0 0, .junk, .sl .no (encQ x), .sl .no (encNs z), .lp 1 0, .junk, .junk, .sc (.int .i64 (j : Nat)), .lp 2 0, .sc (.int .i64 (k : Nat))] ++ List.replicate 122 .junk, [encN nm, encV U, encV (dotV X Z k)], [], st⟩) i ?_ ?_
          · simp -dsimp only [go_sem]
            exact ⟨0, by omega, by omega, by simp only [dotV, digitsOf_zero, encD_nil]; rfl⟩
          · rintro c s ⟨k, rfl, hk, rfl⟩
            simp -dsimp only [go_sem]
            refine ck (fun h2 => ?_) (fun h2 => ?_)
            · have hlt2 : k < i := by have := of_decide_eq_true h2; omega
              have f1 := encNs_get (x.getD j []) k (by omega)
              have f2 := encNs_get z k (by omega)
              have f3 := succW k (by omega)
              rw [← gX] at f1
              rw [← gZ] at f2
              have rr := dd.rx k hlt2
              simp -dsimp only [go_sem]
              refine pwp_draw mixed 144 (.step 0 [] (.step 1 [] (.step 2 [] (.step 3 [] (.step 4 [] (.step 5 [] (.step 6 [] (.step 7 [] (.step 9 [] (.step 10 [] (.step 11 [] (.step 12 [] (.step 8 [0, 12] (.step 13 [0, 4] (.step 14 [0, 4] (.step 15 [4] (.step 16 [] (.done)))))))))))))))))) (by decide +kernel) (by simp) ?_
              simp -dsimp only [go_sem, ex, f1, f2]
              refine ⟨by omega, by omega, by omega, ?_⟩
              refine (of_c (X k) _ (by have := (rightN_sm rr.1).1; omega)).mono ?_
              rintro r st ⟨rfl, rfl⟩
              simp -dsimp only [go_sem]
              refine (of_c (Z k) _ (by have := (rightN_sm rr.2).1; omega)).mono ?_
              rintro r st ⟨rfl, rfl⟩
              simp -dsimp only [go_sem]
              refine (by_c _ _ _ (smV_ofN (rightN_sm rr.1)) (smV_ofN (rightN_sm rr.2))).mono ?_
              rintro r st ⟨rfl, rfl⟩
              simp -dsimp only [go_sem]
              refine (plus_c _ _ _ (dd.sm hk) (by_sm rr.1 rr.2)).mono ?_
              rintro r st ⟨rfl, rfl⟩
              simp -dsimp only [go_sem, f3]
              exact ⟨i - (k + 1), by omega, k + 1, rfl, by omega, rfl⟩
            · have hge : k = i := by have := of_decide_eq_false h2; omega
              subst hge
              have db := dd.bd (Nat.le_refl k)
              generalize dotV X Z k = D at *
              simp -dsimp only [go_sem]
              refine pwp_of_vc ?_
              simp -dsimp only [go_sem]
              refine (signV_c D _).mono ?_
              rintro r st ⟨rfl, rfl⟩
              simp -dsimp only [go_sem]
              refine ck (fun h4 => ?_) (fun h4 => ?_)
              · rw [absV, if_pos (of_decide_eq_true h4)] at ff
                have f5 := decide_eq_false ff
                simp -dsimp only [go_sem]
                refine (turned_c D _).mono ?_
                rintro r st ⟨rfl, rfl⟩
                simp -dsimp only [go_sem]
                refine (order_c _ _ _ (smV_bd (bdV_turn db) (by omega) (by omega)) wbs).mono ?_
                rintro r st ⟨rfl, rfl⟩
                simp -dsimp only [go_sem, f5]
                refine pwp_of_vc ?_
                simp -dsimp only [go_sem, g3]
                exact ⟨k - (j + 1), by omega, j + 1, rfl, by omega, rfl⟩
              · rw [absV, if_neg (of_decide_eq_false h4)] at ff
                have f5 := decide_eq_false ff
                simp -dsimp only [go_sem]
                refine (order_c _ _ _ (smV_bd db (by omega) (by omega)) wbs).mono ?_
                rintro r st ⟨rfl, rfl⟩
                simp -dsimp only [go_sem, f5]
                refine pwp_of_vc ?_
                simp -dsimp only [go_sem, g3]
                exact ⟨k - (j + 1), by omega, j + 1, rfl, by omega, rfl⟩
        · simp -dsimp only [go_sem]
          refine pwp_of_vc ?_
          simp -dsimp only [go_sem]
          refine (numSign_c nm _ (by have := (rightN_sm rN).1; omega)).mono ?_
          rintro r st ⟨rfl, rfl⟩
          have s5 := decide_eq_true sg
          simp -dsimp only [go_sem, s5]
          try rfl
end Go.Pv
end
