/- Parts of the walk: M16, H8. -/
import Derived.Test.YtclholhblbelbaaZN
import Derived.Test.YtclholhblbelbaaZJ
import Derived.Test.YtclholhblbelbaaZL
set_option linter.unusedVariables false
set_option linter.unusedSimpArgs false
section
/- Groups cover their pieces. No program in it. -/
set_option linter.unusedVariables false
set_option linter.unusedSimpArgs false
namespace Go.Pv
theorem inI_iff {a b : Ivl} : inI a b = true ↔ rightI a = true ∧ rightI b = true ∧ 0 ≤ cmpN a.lo b.lo ∧ 0 ≤ cmpN b.hi a.hi := by
  unfold inI
  simp only [Bool.and_eq_true, decide_eq_true_eq]
  constructor
  · rintro ⟨⟨⟨h1, h2⟩, h3⟩, h4⟩; exact ⟨h1, h2, h3, h4⟩
  · rintro ⟨h1, h2, h3, h4⟩; exact ⟨⟨⟨h1, h2⟩, h3⟩, h4⟩
theorem inI_trans {a b c : Ivl} (h1 : inI a b = true) (h2 : inI b c = true) : inI a c = true := by
  rw [inI_iff] at h1 h2 ⊢
  refine ⟨h1.1, h2.2.1, ?_, ?_⟩
  · have := cmpN_trans (a := c.lo) (b := b.lo) (c := a.lo) (by have := cmpN_swap b.lo c.lo; omega) (by have := cmpN_swap a.lo b.lo; omega)
    have := cmpN_swap a.lo c.lo; omega
  · have := cmpN_trans (a := a.hi) (b := b.hi) (c := c.hi) (by have := cmpN_swap b.hi a.hi; omega) (by have := cmpN_swap c.hi b.hi; omega)
    have := cmpN_swap c.hi a.hi; omega
theorem inI_hull1 {a b : Ivl} (ha : rightI a = true) (hb : rightI b = true) : inI a (hullI a b).1 = true := by
  rw [inI_iff]
  refine ⟨ha, hullI_right ha hb, ?_⟩
  rw [hullI_ok ha hb]
  have h1 := leastN_le1 a.lo b.lo
  have h2 := greatN_ge1 a.hi b.hi
  have h3 := cmpN_swap (leastN a.lo b.lo) a.lo
  have h4 := cmpN_swap a.hi (greatN a.hi b.hi)
  exact ⟨by simp only; omega, by simp only; omega⟩
theorem inI_hull2 {a b : Ivl} (ha : rightI a = true) (hb : rightI b = true) : inI b (hullI a b).1 = true := by
  rw [inI_iff]
  refine ⟨hb, hullI_right ha hb, ?_⟩
  rw [hullI_ok ha hb]
  have h1 := leastN_le2 a.lo b.lo
  have h2 := greatN_ge2 a.hi b.hi
  have h3 := cmpN_swap (leastN a.lo b.lo) b.lo
  have h4 := cmpN_swap b.hi (greatN a.hi b.hi)
  exact ⟨by simp only; omega, by simp only; omega⟩
theorem inI_least {a b c : Ivl} (h1 : inI a c = true) (h2 : inI b c = true) : inI (hullI a b).1 c = true := by
  rw [inI_iff] at h1 h2 ⊢
  refine ⟨hullI_right h1.1 h2.1, h1.2.1, ?_⟩
  rw [hullI_ok h1.1 h2.1]
  exact ⟨leastN_of (P := fun x => 0 ≤ cmpN x c.lo) h1.2.2.1 h2.2.2.1, greatN_of (P := fun x => 0 ≤ cmpN c.hi x) h1.2.2.2 h2.2.2.2⟩
theorem allF_iff {α : Type} [Inhabited α] {f : α → α → Bool} {a b : List α} : allF f a b = true ↔ a.length = b.length ∧ ∀ i, i < a.length → f (a.getD i default) (b.getD i default) = true := by
  unfold allF
  simp only [Bool.and_eq_true, decide_eq_true_eq, List.all_eq_true, List.mem_range]
theorem inB_iff {a b : List Ivl} : inB a b = true ↔ rightB a = true ∧ rightB b = true ∧ a.length = b.length ∧ ∀ i, i < a.length → inI (a.getD i default) (b.getD i default) = true := by
  unfold inB
  simp only [Bool.and_eq_true, allF_iff]
  constructor
  · rintro ⟨⟨h1, h2⟩, h3, h4⟩; exact ⟨h1, h2, h3, h4⟩
  · rintro ⟨h1, h2, h3, h4⟩; exact ⟨⟨h1, h2⟩, h3, h4⟩
theorem inI_self {a : Ivl} (h : rightI a = true) : inI a a = true := by
  rw [inI_iff, cmpN_self, cmpN_self]; exact ⟨h, h, Int.le_refl _, Int.le_refl _⟩
theorem inB_self {a : List Ivl} (h : rightB a = true) : inB a a = true := inB_iff.2 ⟨h, h, rfl, fun i hi => inI_self (rightB_all h i hi)⟩
theorem inB_trans {a b c : List Ivl} (h1 : inB a b = true) (h2 : inB b c = true) : inB a c = true := by
  rw [inB_iff] at h1 h2 ⊢
  exact ⟨h1.1, h2.2.1, h1.2.2.1.trans h2.2.2.1, fun i hi => inI_trans (h1.2.2.2 i hi) (h2.2.2.2 i (by have := h1.2.2.1; omega))⟩
theorem hullB_get {a b : List Ivl} (ha : rightB a = true) (hb : rightB b = true) (hl : a.length = b.length) (i : Nat) (hi : i < a.length) : (hullB a b).1.getD i default = (hullI (a.getD i default) (b.getD i default)).1 := by
  rw [hullB_ok ha hb hl, getD_range_map' _ _ _ _ hi]
theorem inB_hull1 {a b : List Ivl} (ha : rightB a = true) (hb : rightB b = true) (hl : a.length = b.length) : inB a (hullB a b).1 = true := by
  obtain ⟨h1, h2⟩ := hullB_right ha hb hl
  refine inB_iff.2 ⟨ha, h1, h2.symm, fun i hi => ?_⟩
  rw [hullB_get ha hb hl i hi]
  exact inI_hull1 (rightB_all ha i hi) (rightB_all hb i (by omega))
theorem inB_hull2 {a b : List Ivl} (ha : rightB a = true) (hb : rightB b = true) (hl : a.length = b.length) : inB b (hullB a b).1 = true := by
  obtain ⟨h1, h2⟩ := hullB_right ha hb hl
  refine inB_iff.2 ⟨hb, h1, by omega, fun i hi => ?_⟩
  rw [hullB_get ha hb hl i (by omega)]
  exact inI_hull2 (rightB_all ha i (by omega)) (rightB_all hb i hi)
theorem inB_least {a b c : List Ivl} (h1 : inB a c = true) (h2 : inB b c = true) : inB (hullB a b).1 c = true := by
  rw [inB_iff] at h1 h2
  have hl : a.length = b.length := h1.2.2.1.trans h2.2.2.1.symm
  obtain ⟨k1, k2⟩ := hullB_right h1.1 h2.1 hl
  refine inB_iff.2 ⟨k1, h1.2.1, k2.trans h1.2.2.1, fun i hi => ?_⟩
  rw [hullB_get h1.1 h2.1 hl i (by omega)]
  exact inI_least (h1.2.2.2 i (by omega)) (h2.2.2.2 i (by omega))
/-! ### Of one piece that stands for some -/
theorem fold_in {b : List Sg} (hr : rowF b = true) : ∀ i, i < b.length → ∀ j, j ≤ i → inB (b.getD j default).box (foldS (b.getD 0 default) ((b.drop 1).take i)).box = true
  | 0, h, j, hj => by
    have : j = 0 := by omega
    subst this
    exact inB_self (rightS_parts (rowAt_right (rowF_true.1 hr 0 h))).2.2.2.2.2.2.2
  | i + 1, h, j, hj => by
    obtain ⟨h1, h2⟩ := fold_box hr i (by omega)
    rw [foldS_take _ _ i (by simp; omega), getD_drop', Nat.add_comm 1 i]
    have h3 := (rightS_parts (rowAt_right (rowF_true.1 hr (i + 1) h))).2.2.2.2.2.2.2
    have h4 := row_len b.length (fun j hj => rowF_true.1 hr j hj) (i + 1) h
    show inB _ (hullB _ _).1 = true
    by_cases hji : j = i + 1
    · subst hji
      exact inB_hull2 h1 h3 (by rw [h2, h4])
    · exact inB_trans (fold_in hr i (by omega) j (by omega)) (inB_hull1 h1 h3 (by rw [h2, h4]))
theorem fold_least {b : List Sg} {X : List Ivl} : ∀ i, i < b.length → (∀ j, j ≤ i → inB (b.getD j default).box X = true) → inB (foldS (b.getD 0 default) ((b.drop 1).take i)).box X = true
  | 0, h, hX => hX 0 (Nat.le_refl _)
  | i + 1, h, hX => by
    rw [foldS_take _ _ i (by simp; omega), getD_drop', Nat.add_comm 1 i]
    show inB (hullB _ _).1 X = true
    exact inB_least (fold_least i (by omega) fun j hj => hX j (by omega)) (hX (i + 1) (Nat.le_refl _))
theorem oneOf_in {b : List Sg} {g : Nat} (hr : rowF b = true) (hg : 1 ≤ g ∧ g ≤ b.length) (j : Nat) (hj : j < g) : inB (b.getD j default).box (oneOf b g).box = true := by
  have e : (b.take g).drop 1 = (b.drop 1).take (g - 1) := List.drop_take ..
  unfold oneOf
  rw [e]
  exact fold_in hr (g - 1) (by omega) j (by omega)
theorem oneOf_least {b : List Sg} {g : Nat} {X : List Ivl} (hg : 1 ≤ g ∧ g ≤ b.length) (h : ∀ j, j < g → inB (b.getD j default).box X = true) : inB (oneOf b g).box X = true := by
  have e : (b.take g).drop 1 = (b.drop 1).take (g - 1) := List.drop_take ..
  unfold oneOf
  rw [e]
  exact fold_least (g - 1) (by omega) fun j hj => h j (by omega)
theorem t0_le {b : List Sg} (hr : rowF b = true) (j : Nat) (h : j < b.length) : cmpN (b.getD 0 default).t0 (b.getD j default).t0 ≤ 0 := by
  by_cases h0 : j = 0
  · subst h0; rw [cmpN_self]; exact Int.le_refl _
  · have h1 := first_lt hr (j - 1) (by omega)
    have h3 := rightS_parts (rowAt_right (rowF_true.1 hr j h))
    have h4 := rightS_parts (rowAt_right (rowF_true.1 hr (j - 1) (by omega)))
    have h5 := (behindS_parts (rowAt_behind (rowF_true.1 hr j h) h0)).2.1
    rw [cmpR_ok h4.2.2.2.2.1 h3.2.2.2.1] at h5
    exact cmpN_trans (b := (b.getD (j - 1) default).t1) (by omega) (by omega)
theorem t1_le {b : List Sg} (hr : rowF b = true) (j k : Nat) (hj : j ≤ k) (h : k < b.length) : cmpN (b.getD j default).t1 (b.getD k default).t1 ≤ 0 := by
  by_cases h0 : j = k
  · subst h0; rw [cmpN_self]; exact Int.le_refl _
  · have h1 := first_lt (rowF_drop hr (j + 1)) (k - (j + 1)) (by simp; omega)
    rw [getD_drop', getD_drop', show j + 1 + (k - (j + 1)) = k from by omega, Nat.add_zero] at h1
    have h3 := rightS_parts (rowAt_right (rowF_true.1 hr (j + 1) (by omega)))
    have h4 := rightS_parts (rowAt_right (rowF_true.1 hr j (by omega)))
    have h5 := (behindS_parts (rowAt_behind (rowF_true.1 hr (j + 1) (by omega)) (by omega))).2.1
    rw [show j + 1 - 1 = j from by omega, cmpR_ok h4.2.2.2.2.1 h3.2.2.2.1] at h5
    exact cmpN_trans (b := (b.getD (j + 1) default).t0) (by omega) (by omega)
/-- What is said by s is said by x, too. -/
def withinF (s x : Sg) : Bool := decide (x.fr ≤ s.fr) && (decide (s.to ≤ x.to) && (decide (cmpR x.t0 s.t0 ≤ 0) && (decide (cmpR s.t1 x.t1 ≤ 0) && inB s.box x.box)))
theorem withinF_mk {s x : Sg} (h1 : x.fr ≤ s.fr) (h2 : s.to ≤ x.to) (h3 : cmpR x.t0 s.t0 ≤ 0) (h4 : cmpR s.t1 x.t1 ≤ 0) (h5 : inB s.box x.box = true) : withinF s x = true := by
  unfold withinF
  rw [decide_eq_true h1, decide_eq_true h2, decide_eq_true h3, decide_eq_true h4, h5]; rfl
def CovH (m a : List Sg) : Prop := ∀ j, j < a.length → ∃ c, c < m.length ∧ withinF (a.getD j default) (m.getD c default) = true ∧ (a.getD j default).fr ≤ (m.getD c default).to ∧ ∀ i, i < c → (m.getD i default).to < (a.getD j default).fr
theorem groups_cover (size z : Int) : ∀ (n : Nat) (a : List Sg), a.length = n → rowF a = true → CovH (groupsL size z a) a := by
  intro n
  induction n using Nat.strongRecOn with
  | _ n ih =>
    intro a ha hr j hj
    have hg : 1 ≤ grp a size z ∧ grp a size z ≤ a.length := ⟨grp_pos a size z, grp_le a size z (by omega)⟩
    rw [groupsL_cons' size z a (by omega)]
    obtain ⟨g, hge⟩ : ∃ g, g = grp a size z := ⟨_, rfl⟩
    rw [← hge] at hg ⊢
    obtain ⟨e1, e2, e3, e4⟩ := oneOf_parts hg
    have p0 := rightS_parts (rowAt_right (rowF_true.1 hr 0 (by omega)))
    have pj := rightS_parts (rowAt_right (rowF_true.1 hr j hj))
    have pg := rightS_parts (rowAt_right (rowF_true.1 hr (g - 1) (by omega)))
    have mono : ∀ i k, i ≤ k → k < a.length → (a.getD i default).to ≤ (a.getD k default).to := fun i k h1 h2 => by
      by_cases h : i = k
      · rw [h]; exact Int.le_refl _
      · have := row_to_lt' hr (i := i) (j := k) (by omega) h2; omega
    by_cases hjg : j < g
    · refine ⟨0, by simp, ?_, ?_, fun i hi => by omega⟩
      · rw [List.getD_cons_zero]
        refine withinF_mk ?_ (by rw [e3]; exact mono _ _ (by omega) (by omega)) ?_ ?_ (oneOf_in hr hg j hjg)
        · rw [e1]
          by_cases h0 : j = 0
          · rw [h0]; exact Int.le_refl _
          · have s1 := row_step hr (j - 1) (by omega)
            rw [show j - 1 + 1 = j from by omega] at s1
            have := mono 0 (j - 1) (by omega) (by omega); omega
        · rw [e2, cmpR_ok p0.2.2.2.1 pj.2.2.2.1]; exact t0_le hr j hj
        · rw [e4, cmpR_ok pj.2.2.2.2.1 pg.2.2.2.2.1]; exact t1_le hr j (g - 1) (by omega) (by omega)
      · rw [List.getD_cons_zero, e3]
        have := mono j (g - 1) (by omega) (by omega); omega
    · obtain ⟨c, c1, c2, c3, c4⟩ := ih (a.drop g).length (by simp; omega) _ rfl (rowF_drop hr g) (j - g) (by simp; omega)
      rw [getD_drop', show g + (j - g) = j from by omega] at c2 c3 c4
      refine ⟨c + 1, by simpa using c1, by rw [List.getD_cons_succ]; exact c2, by rw [List.getD_cons_succ]; exact c3, fun i hi => ?_⟩
      cases i with
      | zero =>
        rw [List.getD_cons_zero, e3]
        have s1 := row_step hr (j - 1) (by omega)
        rw [show j - 1 + 1 = j from by omega] at s1
        have := mono (g - 1) (j - 1) (by omega) (by omega); omega
      | succ i => rw [List.getD_cons_succ]; exact c4 i (by omega)
def lastS (l : List Sg) : Sg := l.getD (l.length - 1) default
theorem groups_last (size z : Int) : ∀ (n : Nat) (a : List Sg), a.length = n → (lastS (groupsL size z a)).to = (lastS a).to ∧ (lastS (groupsL size z a)).t1 = (lastS a).t1 := by
  intro n
  induction n using Nat.strongRecOn with
  | _ n ih =>
    intro a ha
    by_cases h0 : a.length = 0
    · have : a = [] := List.length_eq_zero_iff.1 h0
      subst this
      rw [groupsL_nil]; exact ⟨rfl, rfl⟩
    · have hg : 1 ≤ grp a size z ∧ grp a size z ≤ a.length := ⟨grp_pos a size z, grp_le a size z (by omega)⟩
      rw [groupsL_cons' size z a (by omega)]
      obtain ⟨g, hge⟩ : ∃ g, g = grp a size z := ⟨_, rfl⟩
      rw [← hge] at hg ⊢
      obtain ⟨e1, e2, e3, e4⟩ := oneOf_parts hg
      by_cases hga : g = a.length
      · have : a.drop g = [] := by rw [hga]; simp
        rw [this, groupsL_nil]
        unfold lastS
        simp only [List.length_singleton, Nat.sub_self, List.getD_cons_zero]
        rw [e3, e4, hga]; exact ⟨rfl, rfl⟩
      · have hR : 0 < (groupsL size z (a.drop g)).length := by rw [groupsL_cons' size z _ (by simp; omega)]; simp
        have i1 := ih (a.drop g).length (by simp; omega) _ rfl
        have l1 : lastS (oneOf a g :: groupsL size z (a.drop g)) = lastS (groupsL size z (a.drop g)) := by
          unfold lastS
          obtain ⟨k, hk⟩ : ∃ k, (groupsL size z (a.drop g)).length = k + 1 := ⟨(groupsL size z (a.drop g)).length - 1, by omega⟩
          rw [List.length_cons, hk]; rfl
        have l2 : lastS (a.drop g) = lastS a := by
          unfold lastS
          rw [getD_drop', List.length_drop]
          congr 1; omega
        rw [l1, ← l2]; exact i1
theorem groups_in {size z : Int} : ∀ (n : Nat) (a : List Sg) (X : List Ivl), a.length = n → (∀ j, j < a.length → inB (a.getD j default).box X = true) → ∀ i, i < (groupsL size z a).length → inB ((groupsL size z a).getD i default).box X = true := by
  intro n
  induction n using Nat.strongRecOn with
  | _ n ih =>
    intro a X ha hX i hi
    by_cases h0 : a.length = 0
    · have : a = [] := List.length_eq_zero_iff.1 h0
      subst this
      rw [groupsL_nil] at hi; simp at hi
    · have hg : 1 ≤ grp a size z ∧ grp a size z ≤ a.length := ⟨grp_pos a size z, grp_le a size z (by omega)⟩
      rw [groupsL_cons' size z a (by omega)] at hi ⊢
      cases i with
      | zero => rw [List.getD_cons_zero]; exact oneOf_least hg fun j hj => hX j (by omega)
      | succ i =>
        rw [List.getD_cons_succ]
        refine ih (a.drop (grp a size z)).length (by simp; omega) _ X rfl (fun j hj => ?_) i (by simpa using hi)
        rw [getD_drop']; exact hX _ (by simp at hj; omega)
end Go.Pv
end

section
/- The tube's last, Steps, Until, within, Covers. -/
set_option linter.unusedVariables false
set_option linter.unusedSimpArgs false
set_option maxRecDepth 100000
namespace Go.Pv
open Go.Proofs
theorem wS_last {l : List Sg} (hw : wSs l) : wS (lastS l) := by
  unfold lastS
  by_cases h : l.length = 0
  · have : l = [] := List.length_eq_zero_iff.1 h
    subst this; exact wS_default
  · exact hw.2 _ (by omega)
theorem last_c (l : List Sg) (st : Store) (hw : wSs l) (ht : tubeF l = true) : PCalls Try.prog 98 [.sl .no (encSs l)] st (fun r st' => r = .tup [.agg (encS (lastS l)), .sc (.bool (decide (l.length ≠ 0)))] ∧ st' = st) := by
  refine pcalls_enter none Try.func98 rfl fun E => pwp_of_vc ?_
  have hl := hw.1
  simp -dsimp only [go_sem]
  refine gkF (fun h1 => ?_) (fun h1 => ?_)
  · have hn := nbeq_f (b := 0) h1
    have e1 : IntKind.i64.wrap ((l.length : Int) - 1) = ((l.length - 1 : Nat) : Int) := by rw [wrap_i64 _ (by omega) (by omega)]; omega
    have e2 := encSs_get l (l.length - 1) (by omega)
    simp -dsimp only [go_sem, h1]
    refine (tubeRight_c l st hw).mono ?_
    rintro r st ⟨rfl, rfl⟩
    simp -dsimp only [go_sem, h1, ht, e1, e2]
    exact ⟨⟨by omega, by omega⟩, by rw [decide_eq_true hn]; rfl⟩
  · have hn := nbeq_t (b := 0) h1
    have : l = [] := List.length_eq_zero_iff.1 hn
    simp -dsimp only [go_sem, h1]
    subst this; rfl
theorem steps_c (l : List Sg) (st : Store) (hw : wSs l) (ht : tubeF l = true) : PCalls Try.prog 53 [.sl .no (encSs l)] st (fun r st' => r = .sc (.int .i64 (lastS l).to) ∧ st' = st) := by
  refine pcalls_enter none Try.func53 rfl fun E => pwp_of_vc ?_
  simp -dsimp only [go_sem]
  refine (last_c l st hw ht).mono ?_
  rintro r st ⟨rfl, rfl⟩
  simp -dsimp only [go_sem]
theorem until_c (l : List Sg) (st : Store) (hw : wSs l) (ht : tubeF l = true) : PCalls Try.prog 54 [.sl .no (encSs l)] st (fun r st' => r = .agg (encN (lastS l).t1) ∧ st' = st) := by
  refine pcalls_enter none Try.func54 rfl fun E => pwp_of_vc ?_
  simp -dsimp only [go_sem]
  refine (last_c l st hw ht).mono ?_
  rintro r st ⟨rfl, rfl⟩
  simp -dsimp only [go_sem]
  refine (ivOf_c (lastS l).t1 st (wS_last hw).2.1).mono ?_
  rintro r st ⟨rfl, rfl⟩
  simp -dsimp only [go_sem]
theorem within_c (b a : Sg) (st : Store) (hb : wS b) (ha : wS a) : PCalls Try.prog 96 [.agg (encS b), .agg (encS a)] st (fun r st' => r = .sc (.bool (withinF b a)) ∧ st' = st) := by
  refine pcalls_enter none Try.func96 rfl fun E => pwp_of_vc ?_
  obtain ⟨b1, b2, b3⟩ := hb
  obtain ⟨a1, a2, a3⟩ := ha
  have c1 := b1; have c2 := b2; have c3 := a1; have c4 := a2
  unfold wN at c1 c2 c3 c4
  unfold withinF
  simp -dsimp only [go_sem]
  refine gkT (fun h1 => ?_) (fun h1 => ?_)
  · simp -dsimp only [go_sem, h1]
    refine gkT (fun h2 => ?_) (fun h2 => ?_)
    · simp -dsimp only [go_sem, h1, h2]
      refine (numCmp_c a.t0 b.t0 st (by omega) (by omega)).mono ?_
      rintro r st ⟨rfl, rfl⟩
      simp -dsimp only [go_sem, h1, h2]
      refine gkT (fun h3 => ?_) (fun h3 => ?_)
      · simp -dsimp only [go_sem, h1, h2, h3]
        refine (numCmp_c b.t1 a.t1 st (by omega) (by omega)).mono ?_
        rintro r st ⟨rfl, rfl⟩
        simp -dsimp only [go_sem, h1, h2, h3]
        refine gkT (fun h4 => ?_) (fun h4 => ?_)
        · simp -dsimp only [go_sem, h1, h2, h3, h4]
          refine (boxIn_c b.box a.box st b3 a3).mono ?_
          rintro r st ⟨rfl, rfl⟩
          simp -dsimp only [go_sem, h1, h2, h3, h4]
        · simp -dsimp only [go_sem, h1, h2, h3, h4]
          rfl
      · simp -dsimp only [go_sem, h1, h2, h3]
        rfl
    · simp -dsimp only [go_sem, h1, h2]
      rfl
  · simp -dsimp only [go_sem, h1]
    rfl
theorem row_fr_le {l : List Sg} (hr : rowF l = true) {i j : Nat} (h : i ≤ j) (hj : j < l.length) : (l.getD i default).fr ≤ (l.getD j default).fr := by
  by_cases h0 : i = j
  · rw [h0]; exact Int.le_refl _
  · have s1 := row_step hr (j - 1) (by omega)
    rw [show j - 1 + 1 = j from by omega] at s1
    have p1 := row_parts hr i (by omega)
    by_cases h1 : i = j - 1
    · rw [← h1] at s1; omega
    · have := row_to_lt' hr (i := i) (j := j - 1) (by omega) (by omega); omega
theorem covers_c (m a : List Sg) (st : Store) (hwm : wSs m) (hwa : wSs a) (htm : tubeF m = true) (hta : tubeF a = true) (hl : (lastS m).to = (lastS a).to ∧ (lastS m).t1 = (lastS a).t1) (hc : CovH m a) :
    PCalls Try.prog 51 [.sl .no (encSs m), .sl .no (encSs a)] st (fun r st' => r = .sc (.bool true) ∧ st' = st) := by
  refine pcalls_enter none Try.func51 rfl fun E => pwp_of_vc ?_
  have hlm := hwm.1
  have hla := hwa.1
  have q1 := (wS_last hwm).2.1
  have q2 := (wS_last hwa).2.1
  unfold wN at q1 q2
  have t1 : ((lastS m).to != (lastS a).to) = false := by rw [hl.1]; simp
  have t2 : (cmpR (lastS m).t1 (lastS a).t1 != 0) = false := by rw [hl.2]; unfold cmpR; rw [cmpN_self]; split <;> rfl
  simp -dsimp only [go_sem]
  refine (tubeRight_c m st hwm).mono ?_
  rintro r st ⟨rfl, rfl⟩
  simp -dsimp only [go_sem, htm]
  refine (tubeRight_c a st hwa).mono ?_
  rintro r st ⟨rfl, rfl⟩
  simp -dsimp only [go_sem, htm, hta]
  refine (steps_c m st hwm htm).mono ?_
  rintro r st ⟨rfl, rfl⟩
  simp -dsimp only [go_sem, htm, hta]
  refine (steps_c a st hwa hta).mono ?_
  rintro r st ⟨rfl, rfl⟩
  simp -dsimp only [go_sem, htm, hta, t1]
  refine (until_c m st hwm htm).mono ?_
  rintro r st ⟨rfl, rfl⟩
  simp -dsimp only [go_sem, htm, hta, t1]
  refine (until_c a st hwa hta).mono ?_
  rintro r st ⟨rfl, rfl⟩
  simp -dsimp only [go_sem, htm, hta, t1]
  refine (numCmp_c _ _ st (by omega) (by omega)).mono ?_
  rintro r st ⟨rfl, rfl⟩
  simp -dsimp only [go_sem, htm, hta, t1, t2]
  have hra := tubeF_row hta
  refine pwp_loop_mask [true, false, false, false, false, true, false, false, false, false, false, false, false, false, false, false, false, false, false, false, false, false, false, false, false, false, false, false, false, false, false, true, true, true] 0 0
    (fun n s => ∃ i j, n = a.length - j ∧ j ≤ a.length ∧ (∀ i', i' < i → ∀ j', j ≤ j' → j' < a.length → (m.getD i' default).to < (a.getD j' default).fr) ∧
    s = ⟨[.sl .no (encSs m), .junk, .junk, .junk, .junk, .sc (.int .i64 (i : Nat)), .junk] ++ (List.replicate 24 .junk ++ ([.sl .no (encSs a), .sc (.int .i64 a.length), .sc (.int .i64 (j : Nat))] ++ List.replicate 33 .junk)), [], [], st⟩) a.length ?_ ?_
  · simp -dsimp only [go_sem]
    exact ⟨0, 0, by omega, by omega, fun i hi => by omega, rfl⟩
  · rintro n s ⟨i, j, rfl, hj, hK, rfl⟩
    simp -dsimp only [go_sem]
    refine ck (fun h1 => ?_) (fun h1 => ?_)
    · have hlt : j < a.length := by have := of_decide_eq_true h1; omega
      obtain ⟨c, c1, c2, c3, c4⟩ := hc j hlt
      have hic : i ≤ c := Nat.le_of_not_lt fun h => by have := hK c h j (Nat.le_refl _) hlt; omega
      have e1 := encSs_get a j hlt
      have hws := hwa.2 j hlt
      have x1 : IntKind.i64.wrap ((j : Int) + 1) = ((j + 1 : Nat) : Int) := by rw [show ((j : Int) + 1) = ((j + 1 : Nat) : Int) from rfl, wrapn_i64 _ (by omega)]
      simp -dsimp only [go_sem, e1]
      refine ⟨⟨by omega, hlt⟩, ?_⟩
      refine pwp_loop_mask [true, false, false, false, false, true, false, true, false, false, false, false, false, false, false, false, false, false, false, false, false, false, false, false, false, false, false, false, false, false, false, true, true, true] 1 0
        (fun n s => ∃ i, n = c - i ∧ i ≤ c ∧
        s = ⟨[.sl .no (encSs m), .junk, .junk, .junk, .junk, .sc (.int .i64 (i : Nat)), .junk, .lp 0 0] ++ (List.replicate 23 .junk ++ ([.sl .no (encSs a), .sc (.int .i64 a.length), .sc (.int .i64 (j : Nat))] ++ List.replicate 33 .junk)), [encS (a.getD j default)], [], st⟩) (c - i) ?_ ?_
      · simp -dsimp only [go_sem]
        exact ⟨i, rfl, hic, rfl⟩
      · rintro n s ⟨i, rfl, hi, rfl⟩
        have e3 := encSs_get m i (by omega)
        have x2 : IntKind.i64.wrap ((i : Int) + 1) = ((i + 1 : Nat) : Int) := by rw [show ((i : Int) + 1) = ((i + 1 : Nat) : Int) from rfl, wrapn_i64 _ (by omega)]
        have t3 : decide ((i : Int) < (m.length : Int)) = true := decide_eq_true (by omega)
        simp -dsimp only [go_sem]
        refine pwp_draw mixed 67 (.step 0 [] (.step 1 [] (.step 2 [] (.step 3 [] (.step 4 [] (.step 5 [] (.step 6 [] (.step 7 [] (.step 8 [] (.step 9 [] (.step 10 [] (.step 11 [] (.step 12 [] (.step 13 [] (.done))))))))))))))) (by decide +kernel) (by simp) ?_
        by_cases hic2 : i < c
        · have t4 : decide ((m.getD i default).to < (a.getD j default).fr) = true := decide_eq_true (c4 i hic2)
          simp -dsimp only [go_sem, t3, t4, e3, x2]
          exact ⟨⟨by omega, by omega⟩, c - (i + 1), by omega, i + 1, rfl, by omega, rfl⟩
        · have hec : i = c := by omega
          have t4 : decide ((m.getD i default).to < (a.getD j default).fr) = false := decide_eq_false (by rw [hec]; omega)
          simp -dsimp only [go_sem, t3, t4, e3]
          refine ⟨⟨by omega, by omega⟩, pwp_of_vc ?_⟩
          simp -dsimp only [go_sem]
          refine pwp_draw mixed 67 (.step 0 [] (.step 1 [] (.step 2 [] (.step 3 [] (.step 4 [] (.step 5 [] (.step 6 [] (.step 7 [] (.step 8 [] (.step 9 [] (.step 10 [] (.step 11 [] (.step 12 [] (.done)))))))))))))) (by decide +kernel) (by simp) ?_
          have t5 : ((i : Int) == (m.length : Int)) = false := by simp; omega
          rw [← hec] at c2
          have hwx := hwm.2 i (by omega)
          simp -dsimp only [go_sem, t5, e3]
          refine ⟨⟨by omega, by omega⟩, ?_⟩
          refine (within_c _ _ _ hws hwx).mono ?_
          rintro r st ⟨rfl, rfl⟩
          simp -dsimp only [go_sem, c2, x1]
          refine pwp_of_vc ?_
          simp -dsimp only [go_sem, x1]
          refine ⟨a.length - (j + 1), by omega, i, j + 1, rfl, by omega, fun i' h1 j' h2 h3 => ?_, by simp⟩
          have h4 := c4 i' (by omega)
          have h5 := row_fr_le hra (i := j) (j := j') (by omega) h3
          omega
    · have hge : j = a.length := by have := of_decide_eq_false h1; omega
      simp -dsimp only [go_sem]
      refine pwp_of_vc ?_
      simp -dsimp only [go_sem]
end Go.Pv
end
