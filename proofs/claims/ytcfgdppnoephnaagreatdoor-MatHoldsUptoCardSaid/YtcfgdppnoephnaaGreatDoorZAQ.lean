/- Parts of the walk: PvAl, M37, N31, N32, N33. -/
import Derived.Test.YtcfgdppnoephnaaGreatDoorZAN
import Derived.Test.YtcfgdppnoephnaaGreatDoorZAL
import Derived.Test.YtcfgdppnoephnaaGreatDoorZAH
set_option linter.unusedVariables false
set_option linter.unusedSimpArgs false
section
/- A loop whose rounds are stepped through by hand. -/
set_option linter.unusedVariables false
set_option linter.unusedSimpArgs false
namespace Go.Pv
@[go_sem] theorem eblk0_normal {Q : Exit → PFS → Prop} {s : PFS} {id : Nat} : eblk id Q .normal s = Q .normal s := (rfl)
@[go_sem] theorem eblk0_ret {Q : Exit → PFS → Prop} {s : PFS} {id : Nat} : eblk id Q .ret s = Q .ret s := (rfl)
@[go_sem] theorem eblk0_exit {Q : Exit → PFS → Prop} {s : PFS} {id : Nat} : eblk id Q (.exit id) s = Q .normal s := by simp [eblk]
@[go_sem] theorem eblk0_exit_ne {Q : Exit → PFS → Prop} {s : PFS} {id id' : Nat} (h : id' ≠ id) : eblk id Q (.exit id') s = Q (.exit id') s := by simp [eblk, h]
@[go_sem] theorem escope0_normal {Q : Exit → PFS → Prop} {s : PFS} : escope Q .normal s = Q .normal s := (rfl)
@[go_sem] theorem escope0_ret {Q : Exit → PFS → Prop} {s : PFS} : escope Q .ret s = Q .ret s := (rfl)
@[go_sem] theorem escope0_exit {Q : Exit → PFS → Prop} {s : PFS} {id : Nat} : escope Q (.exit id) s = Q (.exit id) s := (rfl)
/-- A loop whose rounds are stepped through by hand. -/
theorem pwp_loop_maskP {P : Program} {E : Ent} {c : Code} {Q : Exit → PFS → Prop} {s : PFS} (bs : List Bool) (nL nT : Nat) (I : Nat → PFS → Prop) (n : Nat) (h0 : s.maskOK bs nL nT ∧ I n (s.mask bs nL nT))
    (round : ∀ n s, I n s → PWP P E c (ethen (fun s' => s'.maskOK bs nL nT ∧ ∃ m, m < n ∧ I m (s'.mask bs nL nT)) Q) s) : PWP P E (.loop c) Q s := by
  refine pwp_loop (fun n s => s.maskOK bs nL nT ∧ I n (s.mask bs nL nT)) n h0 fun n s ⟨hm, hI⟩ => ?_
  refine pwp_weak (weak_mask hm) (pwp_mono (round n _ hI) ?_)
  intro e s hq
  cases e with
  | normal => obtain ⟨hm', m, hlt, hI'⟩ := hq; exact ⟨m, hlt, hm', hI'⟩
  | _ => exact hq
end Go.Pv
end

section
/- Matrices: what the functions on them answer. No program in it. -/
set_option linter.unusedVariables false
set_option linter.unusedSimpArgs false
namespace Go.Pv
/-- Something for each number from i on, k of them, up to the first error. -/
def tabF {β : Type} (G : Nat → β × Int) : Nat → Nat → List β → List β × Int
  | _, 0, acc => (acc, 0)
  | i, k + 1, acc => if (G i).2 ≠ 0 then ([], (G i).2) else tabF G (i + 1) k (acc ++ [(G i).1])
/-- What comes of it where nothing fails. -/
theorem tabF_ok {β : Type} [Inhabited β] {G : Nat → β × Int} : ∀ (k i : Nat) (acc : List β), (tabF G i k acc).2 = 0 →
    (tabF G i k acc).1.length = acc.length + k ∧ (∀ j, j < k → (G (i + j)).2 = 0) ∧ ∀ j, j < acc.length + k → (tabF G i k acc).1.getD j default = if j < acc.length then acc.getD j default else (G (i + (j - acc.length))).1
  | 0, i, acc, _ => by
    refine ⟨rfl, fun j h => by omega, fun j h => ?_⟩
    rw [if_pos (by omega)]; rfl
  | k + 1, i, acc, h => by
    simp only [tabF] at h ⊢
    by_cases h0 : (G i).2 ≠ 0
    · rw [if_pos h0] at h; exact absurd h h0
    · rw [if_neg h0] at h ⊢
      obtain ⟨a1, a2, a3⟩ := tabF_ok k (i + 1) (acc ++ [(G i).1]) h
      refine ⟨by rw [a1]; simp; omega, fun j hj => ?_, fun j hj => ?_⟩
      · cases j with
        | zero => exact Classical.not_not.1 h0
        | succ j => have := a2 j (by omega); rw [show i + (j + 1) = i + 1 + j from by omega]; exact this
      · rw [a3 j (by simp; omega)]
        simp only [List.length_append, List.length_cons, List.length_nil]
        by_cases c1 : j < acc.length
        · rw [if_pos (by omega), if_pos c1, List.getD_eq_getElem?_getD, List.getElem?_append_left c1, ← List.getD_eq_getElem?_getD]
        · rw [if_neg c1]
          by_cases c2 : j = acc.length
          · subst c2
            rw [if_pos (by omega), Nat.sub_self, Nat.add_zero]
            simp [List.getD_eq_getElem?_getD]
          · rw [if_neg (by omega)]
            rw [show i + 1 + (j - (acc.length + (0 + 1))) = i + (j - acc.length) from by omega]
theorem tabF_all {β : Type} [Inhabited β] {G : Nat → β × Int} : ∀ (k i : Nat) (acc : List β), (∀ j, i ≤ j → j < i + k → (G j).2 = 0) → (tabF G i k acc).2 = 0
  | 0, i, acc, _ => rfl
  | k + 1, i, acc, h => by
    simp only [tabF]
    rw [if_neg (by rw [h i (by omega) (by omega)]; decide)]
    exact tabF_all k _ _ fun j h1 h2 => h j (by omega) (by omega)
theorem tabF_get {β : Type} [Inhabited β] {G : Nat → β × Int} {k : Nat} (h : (tabF G 0 k []).2 = 0) : (tabF G 0 k []).1.length = k ∧ (∀ j, j < k → (G j).2 = 0) ∧ ∀ j, j < k → (tabF G 0 k []).1.getD j default = (G j).1 := by
  obtain ⟨a1, a2, a3⟩ := tabF_ok k 0 [] h
  refine ⟨by simpa using a1, fun j hj => by simpa using a2 j hj, fun j hj => ?_⟩
  have := a3 j (by simpa using hj)
  simpa using this
/-- It answers nothing or all. -/
theorem tabF_len {β : Type} {G : Nat → β × Int} : ∀ (k i : Nat) (acc : List β), (tabF G i k acc).1.length ≤ acc.length + k
  | 0, i, acc => by simp [tabF]
  | k + 1, i, acc => by
    simp only [tabF]
    split
    · simp
    · have := tabF_len (G := G) k (i + 1) (acc ++ [(G i).1]); simp at this; omega
/-- All that is answered has what each has. -/
theorem tabF_mem {β : Type} (p : β → Prop) {G : Nat → β × Int} : ∀ (k i : Nat) (acc : List β), (∀ j, i ≤ j → j < i + k → p (G j).1) → (∀ x ∈ acc, p x) → ∀ x ∈ (tabF G i k acc).1, p x
  | 0, i, acc, _, h => h
  | k + 1, i, acc, hg, h => by
    simp only [tabF]
    split
    · intro x hx; cases hx
    · refine tabF_mem p k _ _ (fun j h1 h2 => hg j (by omega) (by omega)) fun x hx => ?_
      rcases List.mem_append.1 hx with hx | hx
      · exact h x hx
      · rw [List.mem_singleton.1 hx]; exact hg i (by omega) (by omega)

theorem tabF_step {β : Type} (G : Nat → β × Int) {i n : Nat} (h : i < n) (acc : List β) : tabF G i (n - i) acc = if (G i).2 ≠ 0 then ([], (G i).2) else tabF G (i + 1) (n - (i + 1)) (acc ++ [(G i).1]) := by
  rw [show n - i = (n - (i + 1)) + 1 from by omega, tabF]
theorem tabF_end {β : Type} (G : Nat → β × Int) (n : Nat) (acc : List β) : tabF G n (n - n) acc = (acc, 0) := by rw [Nat.sub_self]; rfl

abbrev Mx := List (List Ivl)
def wM (m : Mx) : Prop := m.length ≤ 100000000000 ∧ ∀ i, i < m.length → wB (m.getD i [])
def rightM (m : Mx) : Bool := (m.all fun r => decide (r.length = m.length) && rightB r) && decide (1 ≤ m.length) && decide (m.length ≤ 4)
theorem rightM_len {m : Mx} (h : rightM m = true) : 1 ≤ m.length ∧ m.length ≤ 4 := by
  unfold rightM at h
  simp only [Bool.and_eq_true, decide_eq_true_eq] at h
  exact ⟨h.1.2, h.2⟩
theorem rightM_row {m : Mx} (h : rightM m = true) {i : Nat} (hi : i < m.length) : (m.getD i []).length = m.length ∧ rightB (m.getD i []) = true := by
  unfold rightM at h
  simp only [Bool.and_eq_true, decide_eq_true_eq, List.all_eq_true] at h
  have hm : m.getD i [] ∈ m := by simp [List.getD_eq_getElem?_getD, List.getElem?_eq_getElem hi]
  have := h.1.1 _ hm
  simpa using this
theorem rightM_iff {m : Mx} : rightM m = true ↔ (∀ i, i < m.length → (m.getD i []).length = m.length ∧ rightB (m.getD i []) = true) ∧ 1 ≤ m.length ∧ m.length ≤ 4 := by
  constructor
  · intro h; exact ⟨fun i hi => rightM_row h hi, rightM_len h⟩
  · rintro ⟨h1, h2, h3⟩
    unfold rightM
    simp only [Bool.and_eq_true, decide_eq_true_eq, List.all_eq_true]
    refine ⟨⟨fun r hr => ?_, h2⟩, h3⟩
    obtain ⟨i, hi, rfl⟩ := List.getElem_of_mem hr
    have := h1 i hi
    rw [List.getD_eq_getElem?_getD, List.getElem?_eq_getElem hi] at this
    simpa using this
theorem rightB_at {b : List Ivl} (h : rightB b = true) {i : Nat} (hi : i < b.length) : rightI (b.getD i default) = true := by
  unfold rightB at h
  simp only [Bool.and_eq_true, List.all_eq_true] at h
  exact h.1.1 _ (by simp [List.getD_eq_getElem?_getD, List.getElem?_eq_getElem hi])
def atM (m : Mx) (i j : Nat) : Ivl := (m.getD i []).getD j default
theorem rightM_at {m : Mx} (h : rightM m = true) {i j : Nat} (hi : i < m.length) (hj : j < m.length) : rightI (atM m i j) = true := by
  obtain ⟨h1, h2⟩ := rightM_row h hi
  exact rightB_at h2 (by rw [h1]; exact hj)
/-- A matrix whose places are told. -/
def fillM (G : Nat → Nat → Ivl × Int) (n : Nat) : Mx × Int := tabF (fun i => tabF (fun j => G i j) 0 n []) 0 n []
def opM (k : Nat) (a b : Mx) (p : Int) : Mx × Int := if rightM a = true ∧ rightM b = true ∧ a.length = b.length ∧ precF p = true then fillM (fun i j => opI k (atM a i j) (atM b i j) p) a.length else ([], 1)
def timesM (x : Ivl) (m : Mx) (p : Int) : Mx × Int := if rightM m = true ∧ rightI x = true ∧ precF p = true then fillM (fun i j => opI 2 x (atM m i j) p) m.length else ([], 1)
/-- Products, added from the first on. -/
def dotF (x y : Nat → Ivl) (p : Int) : Nat → Ivl × Int
  | 0 => (default, 0)
  | k + 1 =>
    if (dotF x y p k).2 ≠ 0 then (default, (dotF x y p k).2) else
    if (opI 2 (x k) (y k) p).2 ≠ 0 then (default, (opI 2 (x k) (y k) p).2) else
    if k = 0 then opI 2 (x k) (y k) p else
    if (opI 0 (dotF x y p k).1 (opI 2 (x k) (y k) p).1 p).2 ≠ 0 then (default, (opI 0 (dotF x y p k).1 (opI 2 (x k) (y k) p).1 p).2) else
    opI 0 (dotF x y p k).1 (opI 2 (x k) (y k) p).1 p
def mulM (a b : Mx) (p : Int) : Mx × Int := if rightM a = true ∧ rightM b = true ∧ a.length = b.length ∧ precF p = true then fillM (fun i j => dotF (atM a i) (fun k => atM b k j) p a.length) a.length else ([], 1)
def vecM (m : Mx) (b : List Ivl) (p : Int) : List Ivl × Int := if rightM m = true ∧ rightB b = true ∧ m.length = b.length ∧ precF p = true then tabF (fun i => dotF (atM m i) (fun k => b.getD k default) p b.length) 0 m.length [] else ([], 1)
def midM (m : Mx) (p : Int) : List (List Nm) × Int := if rightM m = true ∧ precF p = true then tabF (fun i => midB (m.getD i []) p) 0 m.length [] else ([], 1)
def magN (x : Nm) : Nm := ⟨false, x.exp, x.w⟩
def magI (a : Ivl) : Nm := if rightI a = true then greatN (magN a.lo) (magN a.hi) else default
/-- The sum of a row's magnitudes, of the first j + 1. -/
def sumF (r : Nat → Ivl) (p : Int) : Nat → Nm × Int
  | 0 => (magI (r 0), 0)
  | j + 1 => if (sumF r p j).2 ≠ 0 then (default, (sumF r p j).2) else reckN 0 (sumF r p j).1 (magI (r (j + 1))) p true
/-- The greatest of the first i rows' sums. -/
def normF (m : Mx) (p : Int) : Nat → Nm × Int
  | 0 => (default, 0)
  | i + 1 => if (normF m p i).2 ≠ 0 then (default, (normF m p i).2) else
    if (sumF (atM m i) p (m.length - 1)).2 ≠ 0 then (default, (sumF (atM m i) p (m.length - 1)).2) else
    if cmpR (sumF (atM m i) p (m.length - 1)).1 (normF m p i).1 > 0 then ((sumF (atM m i) p (m.length - 1)).1, 0) else ((normF m p i).1, 0)
theorem sumF_stop {r : Nat → Ivl} {p : Int} {j : Nat} (h : (sumF r p j).2 ≠ 0) : ∀ d, (sumF r p (j + d)).2 = (sumF r p j).2
  | 0 => rfl
  | d + 1 => by
    have ih := sumF_stop h d
    rw [show j + (d + 1) = (j + d) + 1 from by omega, sumF, if_pos (by rw [ih]; exact h)]; exact ih
theorem sumF_next {r : Nat → Ivl} {p : Int} {j : Nat} (h : (sumF r p j).2 = 0) : sumF r p (j + 1) = reckN 0 (sumF r p j).1 (magI (r (j + 1))) p true := by
  rw [sumF, if_neg (by rw [h]; decide)]
theorem normF_stop {m : Mx} {p e : Int} {i : Nat} (he : e ≠ 0) (h : normF m p i = (default, e)) : ∀ d, normF m p (i + d) = (default, e)
  | 0 => h
  | d + 1 => by
    have ih := normF_stop he h d
    rw [show i + (d + 1) = (i + d) + 1 from by omega, normF, ih, if_pos he]
theorem normF_bad {m : Mx} {p e : Int} {i j : Nat} (he : e ≠ 0) (hi : i < m.length) (hj : j ≤ m.length - 1) (h : (normF m p i).2 = 0) (hs : (sumF (atM m i) p j).2 = e) : normF m p m.length = (default, e) := by
  have h1 := sumF_stop (r := atM m i) (p := p) (j := j) (by rw [hs]; exact he) (m.length - 1 - j)
  rw [show j + (m.length - 1 - j) = m.length - 1 from by omega, hs] at h1
  have h2 : normF m p (i + 1) = (default, e) := by rw [normF, if_neg (by rw [h]; decide), if_pos (by rw [h1]; exact he), h1]
  have := normF_stop he h2 (m.length - (i + 1))
  rwa [show i + 1 + (m.length - (i + 1)) = m.length from by omega] at this
theorem normF_next {m : Mx} {p : Int} {i : Nat} (h : (normF m p i).2 = 0) (hs : (sumF (atM m i) p (m.length - 1)).2 = 0) :
    normF m p (i + 1) = if cmpR (sumF (atM m i) p (m.length - 1)).1 (normF m p i).1 > 0 then ((sumF (atM m i) p (m.length - 1)).1, 0) else ((normF m p i).1, 0) := by
  rw [normF, if_neg (by rw [h]; decide), if_neg (by rw [hs]; decide)]
theorem magN_right {x : Nm} (h : rightN x = true) : rightN (magN x) = true := by
  unfold rightN magN at *
  simp only at h ⊢
  split
  · rename_i hw; rw [if_pos hw] at h; simp at h; simp [h]
  · rename_i hw; rw [if_neg hw] at h; exact h
theorem rightN_dflt : rightN default = true := by decide
theorem magI_right (a : Ivl) : rightN (magI a) = true := by
  unfold magI
  split
  · rename_i h
    have := rightI_right h
    exact greatN_of (P := fun x => rightN x = true) (magN_right this.1) (magN_right this.2.1)
  · exact rightN_dflt
theorem sumF_right (r : Nat → Ivl) (p : Int) : ∀ j, rightN (sumF r p j).1 = true
  | 0 => magI_right _
  | j + 1 => by
    unfold sumF
    split
    · exact rightN_dflt
    · exact reckN_right _ _ _ _ _
theorem normF_right (m : Mx) (p : Int) : ∀ i, rightN (normF m p i).1 = true
  | 0 => rightN_dflt
  | i + 1 => by
    unfold normF
    split
    · exact rightN_dflt
    · split
      · exact rightN_dflt
      · split
        · exact sumF_right _ _ _
        · exact normF_right m p i
def normM (m : Mx) (p : Int) : Nm × Int := if rightM m = true ∧ precF p = true then normF m p m.length else (default, 1)
def oneN : Nm := ⟨false, 0, [1]⟩
def idM (n : Int) : Mx := if 1 ≤ n ∧ n ≤ 4 then (List.range n.toNat).map fun i => (List.range n.toNat).map fun j => if i = j then ⟨oneN, oneN⟩ else default else []
def ofM (q : List (List Nm)) : Mx := q.map ofB
def inM (a b : Mx) : Bool := rightM a && rightM b && allF inB a b
end Go.Pv
end

section
/- The program's matrices: Right, Same, In, valid, Of. -/
set_option linter.unusedVariables false
set_option linter.unusedSimpArgs false
set_option maxRecDepth 100000
namespace Go.Pv
open Go.Proofs
theorem matRight_c (m : Mx) (st : Store) (hm : wM m) : PCalls Tryz.prog 39 [.sl .no (encM m)] st (fun r st' => r = .sc (.bool (rightM m)) ∧ st' = st) := by
  have hl := hm.1
  refine pcalls_enter none Tryz.func39 rfl fun E => pwp_of_vc ?_
  simp -dsimp only [go_sem]
  refine pwp_loop_mask [true, false, false, false, false, true, true, true] 0 0
    (fun n s => ∃ i, n = m.length - i ∧ i ≤ m.length ∧ (∀ j, j < i → (m.getD j []).length = m.length ∧ rightB (m.getD j []) = true) ∧ s = ⟨[.sl .no (encM m), .junk, .junk, .junk, .junk, .sl .no (encM m), .sc (.int .i64 m.length), .sc (.int .i64 (i : Nat))] ++ List.replicate 22 .junk, [], [], st⟩) m.length ?_ ?_
  · simp -dsimp only [go_sem]
    exact ⟨0, by omega, by omega, fun j hj => by omega, rfl⟩
  · rintro n s ⟨i, rfl, hi, hr, rfl⟩
    simp -dsimp only [go_sem]
    refine ck (fun h' => ?_) (fun h' => ?_)
    · have hlt : i < m.length := by have := of_decide_eq_true h'; omega
      have e1 := encM_get m i hlt
      have e3 := succW i (by omega)
      simp -dsimp only [go_sem, e1]
      refine ⟨by omega, ?_⟩
      refine gkF (fun h2 => ?_) (fun h2 => ?_)
      · have hn := nbne_f h2
        simp -dsimp only [go_sem, h2, e1]
        refine (boxRight_c _ _ (hm.2 i hlt)).mono ?_
        rintro r st ⟨rfl, rfl⟩
        simp -dsimp only [go_sem, h2]
        refine ck (fun h3 => ?_) (fun h3 => ?_)
        · have hf : rightB (m.getD i []) = false := by simpa using h3
          simp -dsimp only [go_sem]
          have : rightM m = false := Bool.eq_false_iff.2 fun e => by
            have := ((rightM_iff.1 e).1 i hlt).2
            rw [hf] at this; cases this
          rw [this]
        · have ht : rightB (m.getD i []) = true := by simpa using h3
          simp -dsimp only [go_sem, e3]
          refine ⟨m.length - (i + 1), by omega, i + 1, rfl, by omega, fun j hj => ?_, rfl⟩
          by_cases e : j = i
          · subst e; exact ⟨hn, ht⟩
          · exact hr j (by omega)
      · have hn := nbne_t h2
        simp -dsimp only [go_sem, h2]
        have : rightM m = false := Bool.eq_false_iff.2 fun e => hn ((rightM_iff.1 e).1 i hlt).1
        rw [this]
    · have hge : i = m.length := by have := of_decide_eq_false h'; omega
      simp -dsimp only [go_sem]
      refine pwp_of_vc ?_
      simp -dsimp only [go_sem]
      refine gkT (fun h => ?_) (fun h => ?_)
      · have h1 : 1 ≤ m.length := by have := of_decide_eq_true h; omega
        simp -dsimp only [go_sem, h]
        have : rightM m = decide ((m.length : Int) ≤ 4) := by
          rw [Bool.eq_iff_iff, rightM_iff, decide_eq_true_iff]
          exact ⟨fun hh => by omega, fun hh => ⟨fun j hj => hr j (by omega), h1, by omega⟩⟩
        rw [this]
      · have h1 : ¬ 1 ≤ m.length := by have := of_decide_eq_false h; omega
        simp -dsimp only [go_sem, h]
        have : rightM m = false := Bool.eq_false_iff.2 fun e => h1 (rightM_iff.1 e).2.1
        rw [this]
theorem matRows_c (g : FuncId) (f : List Ivl → List Ivl → Bool) (a b : Mx) (st : Store) (hc : callable Tryz.prog g = true) (ha : a.length ≤ 100000000000) (hb : b.length ≤ 100000000000)
    (h : ∀ i, i < a.length → i < b.length → PCalls Tryz.prog g [.sl .no (encIs (a.getD i default)), .sl .no (encIs (b.getD i default))] st (fun r st' => r = .sc (.bool (f (a.getD i default) (b.getD i default))) ∧ st' = st)) :
    PCalls Tryz.prog 123 [.sl .no (encM a), .sl .no (encM b), .fn (.func g) [] []] st (fun r st' => r = .sc (.bool (allF f a b)) ∧ st' = st) := by
  refine pcalls_enter none Tryz.func123 rfl fun E => pwp_of_vc ?_
  simp -dsimp only [go_sem]
  refine ck (fun h0 => ?_) (fun h0 => ?_)
  · have hne := nbne_t h0
    simp -dsimp only [go_sem]
    have : allF f a b = false := by unfold allF; rw [decide_eq_false hne]; rfl
    rw [this]
  · have hl := nbne_f h0
    rw [allF_take f a b hl]
    simp -dsimp only [go_sem]
    refine pwp_loop_mask [true, true, true, false, false, false, false, false, false, false, false, false, false, false, true, true] 0 0 (fun n s => ∃ i, n = a.length - i ∧ i ≤ a.length ∧ (∀ j, j < i → f (a.getD j default) (b.getD j default) = true) ∧ s = ⟨[.sl .no (encM a), .sl .no (encM b), .fn (.func g) [] [], .junk, .junk, .junk, .junk, .junk, .junk, .junk, .junk, .junk, .junk, .junk, .sc (.int .i64 a.length), .sc (.int .i64 i)] ++ List.replicate 14 .junk, [], [], st⟩) a.length ?_ ?_
    · simp -dsimp only [go_sem]
      exact ⟨0, by omega, by omega, fun j hj => by omega, rfl⟩
    · rintro n s ⟨i, rfl, hi, hr, rfl⟩
      simp -dsimp only [go_sem]
      refine ck (fun h' => ?_) (fun h' => ?_)
      · have hlt : i < a.length := by have := of_decide_eq_true h'; omega
        have e1 := encM_get a i hlt
        have e2 := encM_get b i (by omega)
        have e3 := succW i (by omega)
        simp -dsimp only [go_sem]
        refine pwp_draw mixed 30 (.step 0 [] (.step 1 [] (.step 2 [] (.step 3 [] (.step 4 [] (.step 5 [] (.step 6 [] (.step 7 [] (.step 8 [] (.step 9 [] (.step 10 [] (.done)))))))))))) (by decide +kernel) (by simp) ?_
        simp -dsimp only [go_sem, e1, e2, hc]
        refine ⟨by omega, by omega, ?_⟩
        refine (h i hlt (by omega)).mono ?_
        rintro r st ⟨rfl, rfl⟩
        simp -dsimp only [go_sem]
        refine ck (fun h2 => ?_) (fun h2 => ?_)
        · have hf : f (a.getD i default) (b.getD i default) = false := by simpa using h2
          simp -dsimp only [go_sem]
          have : ((List.range a.length).all fun i => f (a.getD i default) (b.getD i default)) = false := by
            rw [List.all_eq_false]; exact ⟨i, by simpa using hlt, fun e => by rw [hf] at e; cases e⟩
          first | rw [this] | rw [← List.range_eq_range', this]
        · have ht : f (a.getD i default) (b.getD i default) = true := by simpa using h2
          simp -dsimp only [go_sem, e3]
          refine ⟨a.length - (i + 1), by omega, i + 1, rfl, by omega, fun j hj => ?_, rfl⟩
          by_cases e : j = i
          · subst e; exact ht
          · exact hr j (by omega)
      · have hge : i = a.length := by have := of_decide_eq_false h'; omega
        simp -dsimp only [go_sem]
        refine pwp_of_vc ?_
        simp -dsimp only [go_sem]
        have : ((List.range a.length).all fun i => f (a.getD i default) (b.getD i default)) = true := by
          rw [List.all_eq_true]; intro j hj; exact hr j (by rw [hge]; simpa using hj)
        first | rw [this] | rw [← List.range_eq_range', this]
theorem matSame_c (a b : Mx) (st : Store) (ha : wM a) (hb : wM b) : PCalls Tryz.prog 41 [.sl .no (encM a), .sl .no (encM b)] st (fun r st' => r = .sc (.bool (decide (a = b))) ∧ st' = st) := by
  refine pcalls_enter none Tryz.func41 rfl fun E => pwp_of_vc ?_
  simp -dsimp only [go_sem]
  refine (matRows_c _ (fun x y => decide (x = y)) a b st rfl ha.1 hb.1 fun i h1 h2 => boxSame_c _ _ st (ha.2 i h1) (hb.2 i h2)).mono ?_
  rintro r st ⟨rfl, rfl⟩
  simp -dsimp only [go_sem, allF_eq]
theorem matIn_c (a b : Mx) (st : Store) (ha : wM a) (hb : wM b) : PCalls Tryz.prog 43 [.sl .no (encM a), .sl .no (encM b)] st (fun r st' => r = .sc (.bool (inM a b)) ∧ st' = st) := by
  refine pcalls_enter none Tryz.func43 rfl fun E => pwp_of_vc ?_
  unfold inM
  simp -dsimp only [go_sem]
  refine (matRight_c a st ha).mono ?_
  rintro r st ⟨rfl, rfl⟩
  cases h : rightM a with
  | false => simp -dsimp only [go_sem]; try rfl
  | true =>
    simp -dsimp only [go_sem]
    refine (matRight_c b st hb).mono ?_
    rintro r st ⟨rfl, rfl⟩
    cases h' : rightM b with
    | false => simp -dsimp only [go_sem]; try rfl
    | true =>
      simp -dsimp only [go_sem]
      refine (matRows_c _ inB a b st rfl ha.1 hb.1 fun i h1 h2 => boxIn_c _ _ st (ha.2 i h1) (hb.2 i h2)).mono ?_
      rintro r st ⟨rfl, rfl⟩
      simp -dsimp only [go_sem]
      try rfl
def validM (a b : Mx) (p : Int) : Bool := rightM a && rightM b && decide (a.length = b.length) && precF p
theorem validM_iff {a b : Mx} {p : Int} : validM a b p = true ↔ rightM a = true ∧ rightM b = true ∧ a.length = b.length ∧ precF p = true := by
  unfold validM; simp only [Bool.and_eq_true, decide_eq_true_eq]
  exact ⟨fun h => ⟨h.1.1.1, h.1.1.2, h.1.2, h.2⟩, fun h => ⟨⟨⟨h.1, h.2.1⟩, h.2.2.1⟩, h.2.2.2⟩⟩
theorem matValid_c (a b : Mx) (p : Int) (st : Store) (ha : wM a) (hb : wM b) : PCalls Tryz.prog 136 [.sl .no (encM a), .sl .no (encM b), .sc (.int .i64 p)] st (fun r st' => r = .sc (.bool (validM a b p)) ∧ st' = st) := by
  refine pcalls_enter none Tryz.func136 rfl fun E => pwp_of_vc ?_
  unfold validM
  simp -dsimp only [go_sem]
  refine (matRight_c a st ha).mono ?_
  rintro r st ⟨rfl, rfl⟩
  cases h : rightM a with
  | false => simp -dsimp only [go_sem]; try rfl
  | true =>
    simp -dsimp only [go_sem]
    refine (matRight_c b st hb).mono ?_
    rintro r st ⟨rfl, rfl⟩
    cases h' : rightM b with
    | false => simp -dsimp only [go_sem]; try rfl
    | true =>
      by_cases hn : a.length = b.length
      · have f1 : ((a.length : Int) == (b.length : Int)) = true := by rw [hn]; simp
        rw [decide_eq_true hn]
        simp -dsimp only [go_sem, f1]
        refine (rndValid_c p _).mono ?_
        rintro r st ⟨rfl, rfl⟩
        simp -dsimp only [go_sem]
        try rfl
      · have f1 : ((a.length : Int) == (b.length : Int)) = false := by rw [beq_eq_false_iff_ne]; omega
        rw [decide_eq_false hn]
        simp -dsimp only [go_sem, f1]
        try rfl
theorem ofM_take (q : List (List Nm)) (i : Nat) (h : i < q.length) : ofM (q.take (i + 1)) = ofM (q.take i) ++ [ofB (q.getD i [])] := by
  unfold ofM
  rw [take_snoc q i [] h, List.map_append]; rfl
def wQ (q : List (List Nm)) : Prop := q.length ≤ 100000000000 ∧ ∀ i, i < q.length → wNs (q.getD i [])
theorem matOf_c (q : List (List Nm)) (st : Store) (hq : wQ q) : PCalls Tryz.prog 51 [.sl .no (encQ q)] st (fun r st' => r = .sl (.fresh 1) (encM (ofM q)) ∧ st' = st) := by
  obtain ⟨hl, hw⟩ := hq
  refine pcalls_enter none Tryz.func51 rfl fun E => pwp_of_vc ?_
  simp -dsimp only [go_sem]
  refine pwp_claim 3 1 ?_
  simp -dsimp only [go_sem]
  refine pwp_loop_mask [false, false, false, true, false, false, true, true, true] 0 1
    (fun n s => ∃ i, n = q.length - i ∧ i ≤ q.length ∧ s = ⟨[.junk, .junk, .junk, .sl (.own 0) (encM (ofM (q.take i))), .junk, .junk, .sl .no (encQ q), .sc (.int .i64 q.length), .sc (.int .i64 (i : Nat))] ++ List.replicate 10 .junk, [], [((ofM (q.take i)).length, 1)], st⟩) q.length ?_ ?_
  · simp -dsimp only [go_sem]
    exact ⟨0, by omega, by omega, rfl⟩
  · rintro n s ⟨i, rfl, hi, rfl⟩
    simp -dsimp only [go_sem]
    refine ck (fun h' => ?_) (fun h' => ?_)
    · have hlt : i < q.length := by have := of_decide_eq_true h'; omega
      have e1 := encQ_get q i hlt
      have e3 := succW i (by omega)
      have ll : (ofM (q.take i)).length = i := by simp [ofM]; omega
      simp -dsimp only [go_sem, e1]
      refine ⟨by omega, ?_⟩
      refine (boxOf_c _ _ (hw i hlt)).plain.mono ?_
      rintro r st ⟨rfl, rfl⟩
      simp -dsimp only [go_sem, e3]
      refine ⟨⟨by omega, by omega⟩, q.length - (i + 1), by omega, i + 1, rfl, by omega, ?_⟩
      rw [ofM_take q i hlt]
      simp
    · have hge : i = q.length := by have := of_decide_eq_false h'; omega
      simp -dsimp only [go_sem]
      refine pwp_of_vc ?_
      simp -dsimp only [go_sem]
      rw [hge, List.take_length]
end Go.Pv
end

section
/- The program's matrices: what is filled, sums of products; Id, Add, Sub, Times, Mul, Vec. -/
set_option linter.unusedVariables false
set_option linter.unusedSimpArgs false
set_option maxRecDepth 100000
namespace Go.Pv
open Go.Proofs
theorem matFilled_c (g : FuncId) (caps : List PV) (G : Nat → Nat → Ivl × Int) (n : Nat) (st : Store) (hc : callable Tryz.prog g = true) (hn : n ≤ 100000) (h1 : caps.all PV.closed2 = true) (h1' : caps.all PV.closed1 = true) (h2 : caps.map PV.forget2 = caps) (h2' : caps.map PV.forget1 = caps) (hlim : ∀ k, caps.all (PV.lim1 0 k) = true)
    (h : ∀ i j, i < n → j < n → PCalls Tryz.prog g ([.sc (.int .i64 i), .sc (.int .i64 j)] ++ caps) st (fun r st' => r = .tup [.agg (encI (G i j).1), .sc (.int .i64 (G i j).2)] ∧ st' = st)) :
    PCalls Tryz.prog 125 [.sc (.int .i64 n), .fn (.func g) [] caps] st (fun r st' => r = .tup [.sl .no (encM (fillM G n).1), .sc (.int .i64 (fillM G n).2)] ∧ st' = st) := by
  refine pcalls_enter none Tryz.func125 rfl fun E => pwp_of_vc ?_
  simp -dsimp only [go_sem]
  refine pwp_claim 6 1 ?_
  simp -dsimp only [go_sem]
  refine pwp_loop_mask [true, true, false, false, false, false, true, false, false, false, false, false, true, true] 0 1
    (fun k s => ∃ (i : Nat) (o : Mx), k = n - i ∧ i ≤ n ∧ o.length = i ∧ fillM G n = tabF (fun i => tabF (fun j => G i j) 0 n []) i (n - i) o ∧
      s = ⟨[.sc (.int .i64 n), .fn (.func g) [] caps, .junk, .junk, .junk, .junk, .sl (.own 0) (encM o), .junk, .junk, .junk, .junk, .junk, .sc (.int .i64 n), .sc (.int .i64 (i : Nat))] ++ List.replicate 27 .junk, [], [(o.length, 1)], st⟩) n ?_ ?_
  · simp -dsimp only [go_sem, hlim]
    exact ⟨0, [], by omega, by omega, rfl, rfl, rfl⟩
  · rintro k s ⟨i, o, rfl, hi, ho, hr, rfl⟩
    simp -dsimp only [go_sem]
    refine ck (fun h' => ?_) (fun h' => ?_)
    · have hlt : i < n := by have := of_decide_eq_true h'; omega
      have e3 := succW i (by omega)
      have e4 := tabF_step (fun i => tabF (fun j => G i j) 0 n []) hlt o
      simp -dsimp only [go_sem]
      refine pwp_claim 8 6 ?_
      simp -dsimp only [go_sem]
      refine pwp_loop_mask [true, true, false, false, false, false, true, true, true, false, false, false, true, true, false, false, true, true] 0 2
        (fun k s => ∃ (j : Nat) (r : List Ivl), k = n - j ∧ j ≤ n ∧ r.length = j ∧ tabF (fun j => G i j) 0 n [] = tabF (fun j => G i j) j (n - j) r ∧
          s = ⟨[.sc (.int .i64 n), .fn (.func g) [] caps, .junk, .junk, .junk, .junk, .sl (.own 0) (encM o), .sc (.int .i64 (i : Nat)), .sl (.own 1) (encIs r), .junk, .junk, .junk, .sc (.int .i64 n), .sc (.int .i64 (i : Nat)), .junk, .junk, .sc (.int .i64 n), .sc (.int .i64 (j : Nat))] ++ List.replicate 23 .junk, [], [(o.length, 1), (r.length, 6)], st⟩) n ?_ ?_
      · simp -dsimp only [go_sem, hlim]
        exact ⟨0, [], by omega, by omega, rfl, rfl, rfl⟩
      · rintro k s ⟨j, r, rfl, hj, hrl, hrr, rfl⟩
        simp -dsimp only [go_sem]
        refine ck (fun h'' => ?_) (fun h'' => ?_)
        · have hlt2 : j < n := by have := of_decide_eq_true h''; omega
          have f3 := succW j (by omega)
          have f4 := tabF_step (fun j => G i j) hlt2 r
          simp -dsimp only [go_sem, hc, h1, h2]
          refine (h i j hlt hlt2).mono ?_
          rintro rr st ⟨rfl, rfl⟩
          simp -dsimp only [go_sem]
          refine ck (fun h5 => ?_) (fun h5 => ?_)
          · have hne := zbne_t h5
            simp -dsimp only [go_sem]
            have q1 : tabF (fun j => G i j) 0 n [] = ([], (G i j).2) := by rw [hrr, f4, if_pos hne]
            rw [hr, e4, if_pos (by rw [q1]; exact hne), q1]
            rfl
          · have he := zbne_f h5
            simp -dsimp only [go_sem, f3, hlim]
            refine ⟨⟨by omega, by omega⟩, n - (j + 1), by omega, j + 1, r ++ [(G i j).1], rfl, by omega, by simp [hrl], ?_, ?_⟩
            · rw [hrr, f4, if_neg (fun hh => hh he)]
            · simp [encIs, encI]
        · have hge : j = n := by have := of_decide_eq_false h''; omega
          have q1 : tabF (fun j => G i j) 0 n [] = (r, 0) := by rw [hrr, hge]; exact tabF_end _ n r
          simp -dsimp only [go_sem]
          refine pwp_of_vc ?_
          simp -dsimp only [go_sem]
          refine ⟨⟨by omega, by omega⟩, pwp_of_vc ?_⟩
          simp -dsimp only [go_sem, e3, hlim]
          refine ⟨n - (i + 1), by omega, i + 1, o ++ [r], rfl, by omega, by simp [ho], ?_, ?_⟩
          · rw [hr, e4, q1, if_neg (by simp)]
          · simp
    · have hge : i = n := by have := of_decide_eq_false h'; omega
      simp -dsimp only [go_sem]
      refine pwp_of_vc ?_
      simp -dsimp only [go_sem]
      rw [hr, hge, tabF_end]
theorem matAdd1_c (i j : Nat) (a b : Mx) (p : Int) (st : Store) (ha : wM a) (hb : wM b) (ai : i < a.length) (aj : j < (a.getD i []).length) (bi : i < b.length) (bj : j < (b.getD i []).length) :
    PCalls Tryz.prog 206 ([.sc (.int .i64 i), .sc (.int .i64 j)] ++ [.ep [.sl .no (encM a)] 0, .ep [.sl .no (encM b)] 0, .ep [.sc (.int .i64 p)] 0]) st (fun r st' => r = .tup [.agg (encI (opI 0 (atM a i j) (atM b i j) p).1), .sc (.int .i64 (opI 0 (atM a i j) (atM b i j) p).2)] ∧ st' = st) := by
  have e1 := encM_get a i ai
  have e2 := encM_get b i bi
  have e3 := encIs_get (a.getD i []) j aj
  have e4 := encIs_get (b.getD i []) j bj
  refine pcalls_enter none Tryz.func206 rfl fun E => pwp_of_vc ?_
  simp -dsimp only [go_sem]
  refine pwp_draw mixed 27 (.step 0 [] (.step 1 [] (.step 2 [] (.step 3 [] (.step 4 [] (.step 5 [] (.step 6 [] (.step 7 [] (.step 8 [] (.step 9 [] (.step 10 [] (.step 11 [] (.step 12 [] (.step 13 [] (.step 14 [] (.step 15 [0, 7] (.step 16 [] (.step 17 [] (.step 18 [] (.step 19 [] (.done))))))))))))))))))))) (by decide +kernel) (by simp) ?_
  simp -dsimp only [go_sem, e1, e2, e3, e4]
  refine ⟨by omega, by omega, by omega, by omega, ?_⟩
  refine (ivAdd_c _ _ p _ ((ha.2 i ai).2 j aj) ((hb.2 i bi).2 j bj)).mono ?_
  rintro r st ⟨rfl, rfl⟩
  simp -dsimp only [go_sem]
  try rfl
theorem matAdd_c (a b : Mx) (p : Int) (st : Store) (ha : wM a) (hb : wM b) : PCalls Tryz.prog 116 [.sl .no (encM a), .sl .no (encM b), .sc (.int .i64 p)] st (fun r st' => r = .tup [.sl .no (encM (opM 0 a b p).1), .sc (.int .i64 (opM 0 a b p).2)] ∧ st' = st) := by
  refine pcalls_enter none Tryz.func116 rfl fun E => pwp_seq (pwp_of_vc ?_)
  simp -dsimp only [go_sem]
  refine pwp_freeze 0 ?_ ?_
  · simp -dsimp only [go_sem]
  simp -dsimp only [go_sem]
  refine pwp_freeze 1 ?_ ?_
  · simp -dsimp only [go_sem]
  simp -dsimp only [go_sem]
  refine pwp_freeze 2 ?_ ?_
  · simp -dsimp only [go_sem]
  refine pwp_of_vc ?_
  simp -dsimp only [go_sem]
  refine (matValid_c a b p _ ha hb).mono ?_
  rintro r st ⟨rfl, rfl⟩
  cases hv : validM a b p with
  | false =>
    simp -dsimp only [go_sem]
    rw [opM, if_neg (fun hh => by rw [validM_iff.2 hh] at hv; cases hv)]; rfl
  | true =>
    obtain ⟨v1, v2, v3, v4⟩ := validM_iff.1 hv
    have hl := rightM_len v1
    simp -dsimp only [go_sem]
    refine (matFilled_c _ [.ep [.sl .no (encM a)] 0, .ep [.sl .no (encM b)] 0, .ep [.sc (.int .i64 p)] 0] (fun i j => opI 0 (atM a i j) (atM b i j) p) a.length st rfl (by omega) rfl rfl rfl rfl (fun _ => rfl) fun i j hi hj =>
      matAdd1_c i j a b p st ha hb hi (by rw [(rightM_row v1 hi).1]; exact hj) (by omega) (by rw [(rightM_row v2 (by omega)).1]; omega)).mono ?_
    rintro r st ⟨rfl, rfl⟩
    simp -dsimp only [go_sem]
    rw [opM, if_pos ⟨v1, v2, v3, v4⟩]
theorem matSub1_c (i j : Nat) (a b : Mx) (p : Int) (st : Store) (ha : wM a) (hb : wM b) (ai : i < a.length) (aj : j < (a.getD i []).length) (bi : i < b.length) (bj : j < (b.getD i []).length) :
    PCalls Tryz.prog 207 ([.sc (.int .i64 i), .sc (.int .i64 j)] ++ [.ep [.sl .no (encM a)] 0, .ep [.sl .no (encM b)] 0, .ep [.sc (.int .i64 p)] 0]) st (fun r st' => r = .tup [.agg (encI (opI 1 (atM a i j) (atM b i j) p).1), .sc (.int .i64 (opI 1 (atM a i j) (atM b i j) p).2)] ∧ st' = st) := by
  have e1 := encM_get a i ai
  have e2 := encM_get b i bi
  have e3 := encIs_get (a.getD i []) j aj
  have e4 := encIs_get (b.getD i []) j bj
  refine pcalls_enter none Tryz.func207 rfl fun E => pwp_of_vc ?_
  simp -dsimp only [go_sem]
  refine pwp_draw mixed 27 (.step 0 [] (.step 1 [] (.step 2 [] (.step 3 [] (.step 4 [] (.step 5 [] (.step 6 [] (.step 7 [] (.step 8 [] (.step 9 [] (.step 10 [] (.step 11 [] (.step 12 [] (.step 13 [] (.step 14 [] (.step 15 [0, 7] (.step 16 [] (.step 17 [] (.step 18 [] (.step 19 [] (.done))))))))))))))))))))) (by decide +kernel) (by simp) ?_
  simp -dsimp only [go_sem, e1, e2, e3, e4]
  refine ⟨by omega, by omega, by omega, by omega, ?_⟩
  refine (ivSub_c _ _ p _ ((ha.2 i ai).2 j aj) ((hb.2 i bi).2 j bj)).mono ?_
  rintro r st ⟨rfl, rfl⟩
  simp -dsimp only [go_sem]
  try rfl
theorem matSub_c (a b : Mx) (p : Int) (st : Store) (ha : wM a) (hb : wM b) : PCalls Tryz.prog 117 [.sl .no (encM a), .sl .no (encM b), .sc (.int .i64 p)] st (fun r st' => r = .tup [.sl .no (encM (opM 1 a b p).1), .sc (.int .i64 (opM 1 a b p).2)] ∧ st' = st) := by
  refine pcalls_enter none Tryz.func117 rfl fun E => pwp_seq (pwp_of_vc ?_)
  simp -dsimp only [go_sem]
  refine pwp_freeze 0 ?_ ?_
  · simp -dsimp only [go_sem]
  simp -dsimp only [go_sem]
  refine pwp_freeze 1 ?_ ?_
  · simp -dsimp only [go_sem]
  simp -dsimp only [go_sem]
  refine pwp_freeze 2 ?_ ?_
  · simp -dsimp only [go_sem]
  refine pwp_of_vc ?_
  simp -dsimp only [go_sem]
  refine (matValid_c a b p _ ha hb).mono ?_
  rintro r st ⟨rfl, rfl⟩
  cases hv : validM a b p with
  | false =>
    simp -dsimp only [go_sem]
    rw [opM, if_neg (fun hh => by rw [validM_iff.2 hh] at hv; cases hv)]; rfl
  | true =>
    obtain ⟨v1, v2, v3, v4⟩ := validM_iff.1 hv
    have hl := rightM_len v1
    simp -dsimp only [go_sem]
    refine (matFilled_c _ [.ep [.sl .no (encM a)] 0, .ep [.sl .no (encM b)] 0, .ep [.sc (.int .i64 p)] 0] (fun i j => opI 1 (atM a i j) (atM b i j) p) a.length st rfl (by omega) rfl rfl rfl rfl (fun _ => rfl) fun i j hi hj =>
      matSub1_c i j a b p st ha hb hi (by rw [(rightM_row v1 hi).1]; exact hj) (by omega) (by rw [(rightM_row v2 (by omega)).1]; omega)).mono ?_
    rintro r st ⟨rfl, rfl⟩
    simp -dsimp only [go_sem]
    rw [opM, if_pos ⟨v1, v2, v3, v4⟩]
theorem matTimes1_c (i j : Nat) (x : Ivl) (a : Mx) (p : Int) (st : Store) (hx : wI x) (ha : wM a) (ai : i < a.length) (aj : j < (a.getD i []).length) :
    PCalls Tryz.prog 208 ([.sc (.int .i64 i), .sc (.int .i64 j)] ++ [.ep (encI x) 0, .ep [.sl .no (encM a)] 0, .ep [.sc (.int .i64 p)] 0]) st (fun r st' => r = .tup [.agg (encI (opI 2 x (atM a i j) p).1), .sc (.int .i64 (opI 2 x (atM a i j) p).2)] ∧ st' = st) := by
  have e1 := encM_get a i ai
  have e3 := encIs_get (a.getD i []) j aj
  refine pcalls_enter none Tryz.func208 rfl fun E => pwp_of_vc ?_
  simp -dsimp only [go_sem]
  refine pwp_draw mixed 21 (.step 0 [] (.step 1 [] (.step 2 [] (.step 3 [] (.step 4 [] (.step 5 [] (.step 6 [] (.step 7 [] (.step 8 [] (.step 9 [1] (.step 10 [] (.step 11 [] (.step 12 [] (.step 13 [] (.done))))))))))))))) (by decide +kernel) (by simp) ?_
  simp -dsimp only [go_sem, e1, e3]
  refine ⟨by omega, by omega, ?_⟩
  refine (ivMul_c _ _ p _ hx ((ha.2 i ai).2 j aj)).mono ?_
  rintro r st ⟨rfl, rfl⟩
  simp -dsimp only [go_sem]
  try rfl
theorem matTimes_c (x : Ivl) (a : Mx) (p : Int) (st : Store) (hx : wI x) (ha : wM a) : PCalls Tryz.prog 118 [.agg (encI x), .sl .no (encM a), .sc (.int .i64 p)] st (fun r st' => r = .tup [.sl .no (encM (timesM x a p).1), .sc (.int .i64 (timesM x a p).2)] ∧ st' = st) := by
  refine pcalls_enter none Tryz.func118 rfl fun E => pwp_seq (pwp_of_vc ?_)
  simp -dsimp only [go_sem]
  refine pwp_freeze 0 ?_ ?_
  · simp -dsimp only [go_sem]
  simp -dsimp only [go_sem]
  refine pwp_freeze 1 ?_ ?_
  · simp -dsimp only [go_sem]
  simp -dsimp only [go_sem]
  refine pwp_freeze 2 ?_ ?_
  · simp -dsimp only [go_sem]
  refine pwp_of_vc ?_
  simp -dsimp only [go_sem]
  refine (ivRight_c x _ hx).mono ?_
  rintro r st ⟨rfl, rfl⟩
  cases r1 : rightI x with
  | false =>
    simp -dsimp only [go_sem]
    rw [timesM, if_neg (by simp [r1])]; rfl
  | true =>
    simp -dsimp only [go_sem]
    refine (matValid_c a a p _ ha ha).mono ?_
    rintro r st ⟨rfl, rfl⟩
    cases hv : validM a a p with
    | false =>
      simp -dsimp only [go_sem]
      rw [timesM, if_neg (fun hh => by rw [validM_iff.2 ⟨hh.1, hh.1, rfl, hh.2.2⟩] at hv; cases hv)]; rfl
    | true =>
      obtain ⟨v1, v2, v3, v4⟩ := validM_iff.1 hv
      have hl := rightM_len v1
      simp -dsimp only [go_sem]
      refine (matFilled_c _ [.ep (encI x) 0, .ep [.sl .no (encM a)] 0, .ep [.sc (.int .i64 p)] 0] (fun i j => opI 2 x (atM a i j) p) a.length st rfl (by omega) rfl rfl rfl rfl (fun _ => rfl) fun i j hi hj =>
        matTimes1_c i j x a p st hx ha hi (by rw [(rightM_row v1 hi).1]; exact hj)).mono ?_
      rintro r st ⟨rfl, rfl⟩
      simp -dsimp only [go_sem]
      rw [timesM, if_pos ⟨v1, r1, v4⟩]
theorem matSummed_c (g : FuncId) (caps : List PV) (x y : Nat → Ivl) (n : Nat) (p : Int) (st : Store) (hc : callable Tryz.prog g = true) (hn : n ≤ 100000) (h1 : caps.all PV.closed2 = true) (h1' : caps.all PV.closed1 = true) (h2 : caps.map PV.forget2 = caps) (h2' : caps.map PV.forget1 = caps) (hlim : ∀ k, caps.all (PV.lim1 k 0) = true)
    (hw : ∀ k, k < n → wI (x k) ∧ wI (y k)) (hd : ∀ k, wI (dotF x y p k).1)
    (h : ∀ k, k < n → PCalls Tryz.prog g ([.sc (.int .i64 k)] ++ caps) st (fun r st' => r = .tup [.agg (encI (x k)), .agg (encI (y k))] ∧ st' = st)) :
    PCalls Tryz.prog 138 [.sc (.int .i64 n), .sc (.int .i64 p), .fn (.func g) [] caps] st (fun r st' => r = .tup [.agg (encI (dotF x y p n).1), .sc (.int .i64 (dotF x y p n).2)] ∧ st' = st) := by
  refine pcalls_enter none Tryz.func138 rfl fun E => pwp_of_vc ?_
  simp -dsimp only [go_sem]
  refine pwp_plainBox 1 ?_
  simp -dsimp only [go_sem]
  refine pwp_loop_mask [false, true, true, false, false, false, true, false, true, false, false, false, false, false, true, true] 2 0
    (fun m s => ∃ k, m = n - k ∧ k ≤ n ∧ (dotF x y p k).2 = 0 ∧ s = ⟨[.junk, .sc (.int .i64 p), .fn (.func g) [] caps, .junk, .junk, .junk, .lp 0 0, .junk, .lp 1 0, .junk, .junk, .junk, .junk, .junk, .sc (.int .i64 n), .sc (.int .i64 (k : Nat))] ++ List.replicate 35 .junk,
      [[.sc (.bool false), .sc (.int .i64 0), .sl .full [], .sc (.bool false), .sc (.int .i64 0), .sl .full []], encI (dotF x y p k).1], [], st⟩) n ?_ ?_
  · simp -dsimp only [go_sem, hlim]
    exact ⟨0, by omega, by omega, rfl, rfl⟩
  · rintro m s ⟨k, rfl, hk, hz, rfl⟩
    simp -dsimp only [go_sem]
    refine ck (fun h' => ?_) (fun h' => ?_)
    · have hlt : k < n := by have := of_decide_eq_true h'; omega
      have e3 := succW k (by omega)
      have hdk := hd k
      have hstep : dotF x y p (k + 1) = if (opI 2 (x k) (y k) p).2 ≠ 0 then (default, (opI 2 (x k) (y k) p).2) else
          if k = 0 then opI 2 (x k) (y k) p else
          if (opI 0 (dotF x y p k).1 (opI 2 (x k) (y k) p).1 p).2 ≠ 0 then (default, (opI 0 (dotF x y p k).1 (opI 2 (x k) (y k) p).1 p).2) else
          opI 0 (dotF x y p k).1 (opI 2 (x k) (y k) p).1 p := by
        rw [dotF, if_neg (by rw [hz]; decide)]
      have hend : ∀ e, e ≠ 0 → dotF x y p (k + 1) = (default, e) → dotF x y p n = (default, e) := fun e he h0 => by
        have key : ∀ d, dotF x y p (k + 1 + d) = (default, e) := by
          intro d
          induction d with
          | zero => exact h0
          | succ d ih => rw [show k + 1 + (d + 1) = (k + 1 + d) + 1 from by omega, dotF, ih, if_pos he]
        have := key (n - (k + 1))
        rwa [show k + 1 + (n - (k + 1)) = n from by omega] at this
      simp -dsimp only [go_sem, hc, h1, h2]
      refine (h k hlt).mono ?_
      rintro r st ⟨rfl, rfl⟩
      simp -dsimp only [go_sem]
      refine (ivMul_c _ _ p _ (hw k hlt).1 (hw k hlt).2).mono ?_
      rintro r st ⟨rfl, rfl⟩
      have hmw : wI (opI 2 (x k) (y k) p).1 := wI_right (opI_right _ _ _ _)
      by_cases hm : (opI 2 (x k) (y k) p).2 = 0
      · rw [if_neg (fun hh => hh hm)] at hstep
        rw [hm]
        have z1 : ((0 : Int) == 0) = true := rfl
        have z2 : ((0 : Int) != 0) = false := rfl
        by_cases h0 : k = 0
        · rw [if_pos h0] at hstep
          have g1 : decide ((k : Int) > 0) = false := decide_eq_false (by omega)
          simp -dsimp only [go_sem, z1, z2, g1, e3, hlim]
          refine ⟨n - (k + 1), by omega, k + 1, rfl, by omega, by rw [hstep]; exact hm, ?_⟩
          rw [hstep]
        · rw [if_neg h0] at hstep
          have g1 : decide ((k : Int) > 0) = true := decide_eq_true (by omega)
          simp -dsimp only [go_sem, z1, z2, g1]
          refine (ivAdd_c _ _ p _ hdk hmw).mono ?_
          rintro r st ⟨rfl, rfl⟩
          by_cases ha : (opI 0 (dotF x y p k).1 (opI 2 (x k) (y k) p).1 p).2 = 0
          · rw [if_neg (fun hh => hh ha)] at hstep
            rw [ha]
            simp -dsimp only [go_sem, z2, e3, hlim]
            refine ⟨n - (k + 1), by omega, k + 1, rfl, by omega, by rw [hstep]; exact ha, ?_⟩
            rw [hstep]
          · rw [if_pos ha] at hstep
            have hq := hend _ ha hstep
            have g2 : ((opI 0 (dotF x y p k).1 (opI 2 (x k) (y k) p).1 p).2 != 0) = true := by simpa using ha
            rw [hq]
            simp -dsimp only [go_sem, g2]
            rfl
      · rw [if_pos hm] at hstep
        have hq := hend _ hm hstep
        have g1 : ((opI 2 (x k) (y k) p).2 == 0) = false := by simpa using hm
        have g2 : ((opI 2 (x k) (y k) p).2 != 0) = true := by simpa using hm
        rw [hq]
        simp -dsimp only [go_sem, g1, g2]
        rfl
    · have hge : k = n := by have := of_decide_eq_false h'; omega
      subst hge
      simp -dsimp only [go_sem]
      refine pwp_of_vc ?_
      simp -dsimp only [go_sem]
      rw [hz]
end Go.Pv
end

section
/- The program's matrices: Mul, Vec, Mid, Norm, Id. -/
set_option linter.unusedVariables false
set_option linter.unusedSimpArgs false
set_option maxRecDepth 100000
namespace Go.Pv
open Go.Proofs
theorem rightI_default : rightI default = true := by decide
theorem dotF_right (x y : Nat → Ivl) (p : Int) : ∀ k, rightI (dotF x y p k).1 = true
  | 0 => rightI_default
  | k + 1 => by
    unfold dotF
    split
    · exact rightI_default
    · split
      · exact rightI_default
      · split
        · exact opI_right _ _ _ _
        · split
          · exact rightI_default
          · exact opI_right _ _ _ _
theorem matMul11_c (i j k : Nat) (a b : Mx) (st : Store) (ai : i < a.length) (aj : k < (a.getD i []).length) (bi : k < b.length) (bj : j < (b.getD k []).length) :
    PCalls Tryz.prog 139 ([.sc (.int .i64 k)] ++ [.ep [.sl .no (encM a)] 0, .ep [.sc (.int .i64 i)] 0, .ep [.sl .no (encM b)] 0, .ep [.sc (.int .i64 j)] 0]) st (fun r st' => r = .tup [.agg (encI (atM a i k)), .agg (encI (atM b k j))] ∧ st' = st) := by
  have e1 := encM_get a i ai
  have e2 := encM_get b k bi
  have e3 := encIs_get (a.getD i []) k aj
  have e4 := encIs_get (b.getD k []) j bj
  refine pcalls_enter none Tryz.func139 rfl fun E => pwp_of_vc ?_
  simp -dsimp only [go_sem]
  refine pwp_draw mixed 22 (.step 0 [] (.step 1 [] (.step 2 [] (.step 3 [] (.step 4 [] (.step 5 [] (.step 6 [] (.step 7 [] (.step 8 [] (.step 9 [] (.step 10 [] (.step 11 [] (.step 12 [] (.step 13 [] (.step 14 [7, 10, 11, 13] (.step 15 [] (.done))))))))))))))))) (by decide +kernel) (by simp) ?_
  simp -dsimp only [go_sem, e1, e2, e3, e4]
  exact ⟨by omega, by omega, by omega, by omega, rfl⟩
theorem matMul1_c (i j : Nat) (a b : Mx) (p : Int) (st : Store) (ha : wM a) (hb : wM b) (v1 : rightM a = true) (v2 : rightM b = true) (v3 : a.length = b.length) (hi : i < a.length) (hj : j < a.length) :
    PCalls Tryz.prog 137 ([.sc (.int .i64 i), .sc (.int .i64 j)] ++ [.ep [.sl .no (encM a)] 0, .ep [.sc (.int .i64 p)] 0, .ep [.sl .no (encM b)] 0]) st
      (fun r st' => r = .tup [.agg (encI (dotF (atM a i) (fun k => atM b k j) p a.length).1), .sc (.int .i64 (dotF (atM a i) (fun k => atM b k j) p a.length).2)] ∧ st' = st) := by
  have hl := rightM_len v1
  refine pcalls_enter none Tryz.func137 rfl fun E => pwp_seq (pwp_of_vc ?_)
  simp -dsimp only [go_sem]
  refine pwp_freeze 0 ?_ ?_
  · simp -dsimp only [go_sem]
  simp -dsimp only [go_sem]
  refine pwp_freeze 1 ?_ ?_
  · simp -dsimp only [go_sem]
  refine pwp_of_vc ?_
  simp -dsimp only [go_sem]
  refine (matSummed_c _ [.ep [.sl .no (encM a)] 0, .ep [.sc (.int .i64 i)] 0, .ep [.sl .no (encM b)] 0, .ep [.sc (.int .i64 j)] 0] (atM a i) (fun k => atM b k j) a.length p st rfl (by omega) rfl rfl rfl rfl (fun _ => rfl)
    (fun k hk => ⟨(ha.2 i hi).2 k (by rw [(rightM_row v1 hi).1]; exact hk), (hb.2 k (by omega)).2 j (by rw [(rightM_row v2 (by omega)).1]; omega)⟩) (fun k => wI_right (dotF_right _ _ _ _))
    fun k hk => matMul11_c i j k a b st hi (by rw [(rightM_row v1 hi).1]; exact hk) (by omega) (by rw [(rightM_row v2 (by omega)).1]; omega)).mono ?_
  rintro r st ⟨rfl, rfl⟩
  simp -dsimp only [go_sem]
theorem matMul_c (a b : Mx) (p : Int) (st : Store) (ha : wM a) (hb : wM b) : PCalls Tryz.prog 52 [.sl .no (encM a), .sl .no (encM b), .sc (.int .i64 p)] st (fun r st' => r = .tup [.sl .no (encM (mulM a b p).1), .sc (.int .i64 (mulM a b p).2)] ∧ st' = st) := by
  refine pcalls_enter none Tryz.func52 rfl fun E => pwp_seq (pwp_of_vc ?_)
  simp -dsimp only [go_sem]
  refine pwp_freeze 0 ?_ ?_
  · simp -dsimp only [go_sem]
  simp -dsimp only [go_sem]
  refine pwp_freeze 1 ?_ ?_
  · simp -dsimp only [go_sem]
  simp -dsimp only [go_sem]
  refine pwp_freeze 2 ?_ ?_
  · simp -dsimp only [go_sem]
  refine pwp_of_vc ?_
  simp -dsimp only [go_sem]
  refine (matValid_c a b p _ ha hb).mono ?_
  rintro r st ⟨rfl, rfl⟩
  cases hv : validM a b p with
  | false =>
    simp -dsimp only [go_sem]
    rw [mulM, if_neg (fun hh => by rw [validM_iff.2 hh] at hv; cases hv)]; rfl
  | true =>
    obtain ⟨v1, v2, v3, v4⟩ := validM_iff.1 hv
    have hl := rightM_len v1
    simp -dsimp only [go_sem]
    refine (matFilled_c _ [.ep [.sl .no (encM a)] 0, .ep [.sc (.int .i64 p)] 0, .ep [.sl .no (encM b)] 0] (fun i j => dotF (atM a i) (fun k => atM b k j) p a.length) a.length st rfl (by omega) rfl rfl rfl rfl (fun _ => rfl) fun i j hi hj =>
      matMul1_c i j a b p st ha hb v1 v2 v3 hi hj).mono ?_
    rintro r st ⟨rfl, rfl⟩
    simp -dsimp only [go_sem]
    rw [mulM, if_pos ⟨v1, v2, v3, v4⟩]
theorem matVec1_c (k : Nat) (r b : List Ivl) (st : Store) (ai : k < r.length) (bi : k < b.length) :
    PCalls Tryz.prog 140 ([.sc (.int .i64 k)] ++ [.ep [.sl .no (encIs r)] 0, .ep [.sl .no (encIs b)] 0]) st (fun q st' => q = .tup [.agg (encI (r.getD k default)), .agg (encI (b.getD k default))] ∧ st' = st) := by
  have e1 := encIs_get r k ai
  have e2 := encIs_get b k bi
  refine pcalls_enter none Tryz.func140 rfl fun E => pwp_of_vc ?_
  simp -dsimp only [go_sem]
  refine pwp_draw mixed 14 (.step 0 [] (.step 1 [] (.step 2 [] (.step 3 [] (.step 4 [] (.step 5 [] (.step 6 [] (.step 7 [] (.step 8 [4, 7] (.step 9 [] (.done))))))))))) (by decide +kernel) (by simp) ?_
  simp -dsimp only [go_sem, e1, e2]
  exact ⟨by omega, by omega⟩
theorem matMid_c (m : Mx) (p : Int) (st : Store) (hm : wM m) : PCalls Tryz.prog 120 [.sl .no (encM m), .sc (.int .i64 p)] st (fun r st' => r = .tup [.sl .no (encQ (midM m p).1), .sc (.int .i64 (midM m p).2)] ∧ st' = st) := by
  refine pcalls_enter none Tryz.func120 rfl fun E => pwp_of_vc ?_
  simp -dsimp only [go_sem]
  refine (matValid_c m m p _ hm hm).mono ?_
  rintro r st ⟨rfl, rfl⟩
  cases hv : validM m m p with
  | false =>
    simp -dsimp only [go_sem]
    rw [midM, if_neg (fun hh => by rw [validM_iff.2 ⟨hh.1, hh.1, rfl, hh.2⟩] at hv; cases hv)]; rfl
  | true =>
    obtain ⟨v1, v2, v3, v4⟩ := validM_iff.1 hv
    have hl := rightM_len v1
    have hM : midM m p = tabF (fun i => midB (m.getD i []) p) 0 m.length [] := if_pos ⟨v1, v4⟩
    rw [hM]
    simp -dsimp only [go_sem]
    refine pwp_claim 6 1 ?_
    simp -dsimp only [go_sem]
    refine pwp_loop_mask [false, true, false, false, false, false, true, false, false, false, false, false, false, false, false, false, true, true, true] 0 1
      (fun k s => ∃ (i : Nat) (o : List (List Nm)), k = m.length - i ∧ i ≤ m.length ∧ o.length = i ∧ tabF (fun i => midB (m.getD i []) p) 0 m.length [] = tabF (fun i => midB (m.getD i []) p) i (m.length - i) o ∧
        s = ⟨[.junk, .sc (.int .i64 p), .junk, .junk, .junk, .junk, .sl (.own 0) (encQ o), .junk, .junk, .junk, .junk, .junk, .junk, .junk, .junk, .junk, .sl .no (encM m), .sc (.int .i64 m.length), .sc (.int .i64 (i : Nat))] ++ List.replicate 18 .junk, [], [(o.length, 1)], st⟩) m.length ?_ ?_
    · simp -dsimp only [go_sem]
      exact ⟨0, [], by omega, by omega, rfl, rfl, rfl⟩
    · rintro k s ⟨i, o, rfl, hi, ho, hr, rfl⟩
      simp -dsimp only [go_sem]
      refine ck (fun h' => ?_) (fun h' => ?_)
      · have hlt : i < m.length := by have := of_decide_eq_true h'; omega
        have e1 := encM_get m i hlt
        have e3 := succW i (by omega)
        have e4 := tabF_step (fun i => midB (m.getD i []) p) hlt o
        simp -dsimp only [go_sem, e1]
        refine ⟨by omega, ?_⟩
        refine (boxMid_c _ p _ (hm.2 i hlt)).mono ?_
        rintro r st ⟨rfl, rfl⟩
        simp -dsimp only [go_sem]
        refine ck (fun h2 => ?_) (fun h2 => ?_)
        · have hne := zbne_t h2
          simp -dsimp only [go_sem]
          rw [hr, e4, if_pos hne]; rfl
        · have he := zbne_f h2
          simp -dsimp only [go_sem, e3]
          refine ⟨⟨by omega, by omega⟩, m.length - (i + 1), by omega, i + 1, o ++ [(midB (m.getD i []) p).1], rfl, by omega, by simp [ho], ?_, ?_⟩
          · rw [hr, e4, if_neg (fun hh => hh he)]
          · simp
      · have hge : i = m.length := by have := of_decide_eq_false h'; omega
        simp -dsimp only [go_sem]
        refine pwp_of_vc ?_
        simp -dsimp only [go_sem]
        rw [hr, hge, tabF_end]
theorem matVec_c (m : Mx) (b : List Ivl) (p : Int) (st : Store) (hm : wM m) (hb : wB b) : PCalls Tryz.prog 53 [.sl .no (encM m), .sl .no (encIs b), .sc (.int .i64 p)] st (fun r st' => r = .tup [.sl .no (encIs (vecM m b p).1), .sc (.int .i64 (vecM m b p).2)] ∧ st' = st) := by
  refine pcalls_enter none Tryz.func53 rfl fun E => pwp_seq (pwp_of_vc ?_)
  simp -dsimp only [go_sem]
  refine pwp_freeze 0 ?_ ?_
  · simp -dsimp only [go_sem]
  refine pwp_of_vc ?_
  simp -dsimp only [go_sem]
  refine (matValid_c m m p _ hm hm).mono ?_
  rintro r st ⟨rfl, rfl⟩
  cases hv : validM m m p with
  | false =>
    simp -dsimp only [go_sem]
    rw [vecM, if_neg (fun hh => by rw [validM_iff.2 ⟨hh.1, hh.1, rfl, hh.2.2.2⟩] at hv; cases hv)]; rfl
  | true =>
    obtain ⟨v1, v2, v3, v4⟩ := validM_iff.1 hv
    have hl := rightM_len v1
    simp -dsimp only [go_sem]
    refine (boxRight_c b _ hb).mono ?_
    rintro r st ⟨rfl, rfl⟩
    cases r1 : rightB b with
    | false =>
      simp -dsimp only [go_sem]
      rw [vecM, if_neg (fun hh => by simp [r1] at hh)]; rfl
    | true =>
      by_cases hn : m.length = b.length
      · have f1 : ((b.length : Int) != (m.length : Int)) = false := by rw [hn]; simp
        have hM : vecM m b p = tabF (fun i => dotF (atM m i) (fun k => b.getD k default) p b.length) 0 m.length [] := if_pos ⟨v1, r1, hn, v4⟩
        rw [hM]
        simp -dsimp only [go_sem, f1]
        refine pwp_claim 8 6 ?_
        simp -dsimp only [go_sem]
        refine pwp_loop_maskP [false, false, true, false, true, false, false, false, true, false, false, false, false, false, false, false, false, false, false, false, false, false, false, false, false, false, false, false, false, false, true, true, true] 1 1
          (fun k s => ∃ (i : Nat) (o : List Ivl), k = m.length - i ∧ i ≤ m.length ∧ o.length = i ∧ tabF (fun i => dotF (atM m i) (fun k => b.getD k default) p b.length) 0 m.length [] = tabF (fun i => dotF (atM m i) (fun k => b.getD k default) p b.length) i (m.length - i) o ∧
            s = ⟨[.junk, .junk, .sc (.int .i64 p), .junk, .ep [.sl .no (encIs b)] 0, .junk, .junk, .junk, .sl (.own 0) (encIs o), .junk, .junk, .junk, .junk, .junk, .junk, .junk, .junk, .junk, .junk, .junk, .junk, .junk, .junk, .junk, .junk, .junk, .junk, .junk, .junk, .junk, .sl .no (encM m), .sc (.int .i64 m.length), .sc (.int .i64 (i : Nat))] ++ List.replicate 20 .junk, [[]], [(o.length, 6)], st⟩) m.length ?_ ?_
        · simp -dsimp only [go_sem]
          exact ⟨0, [], by omega, by omega, rfl, rfl, rfl⟩
        · rintro k s ⟨i, o, rfl, hi, ho, hr, rfl⟩
          refine pwp_seq (pwp_of_vc ?_)
          simp -dsimp only [go_sem]
          refine pwp_seq (pwp_of_vc ?_)
          simp -dsimp only [go_sem]
          refine ck (fun h' => ?_) (fun h' => ?_)
          · have hlt : i < m.length := by have := of_decide_eq_true h'; omega
            have e1 := encM_get m i hlt
            have e3 := succW i (by omega)
            have e4 := tabF_step (fun i => dotF (atM m i) (fun k => b.getD k default) p b.length) hlt o
            obtain ⟨q1, q2⟩ := rightM_row v1 hlt
            simp -dsimp only [go_sem]
            refine pwp_seq (pwp_block (pwp_seq (pwp_of_vc ?_)))
            simp -dsimp only [go_sem, e1]
            refine ⟨by omega, ?_⟩
            refine pwp_freeze 1 ?_ ?_
            · simp -dsimp only [go_sem]
            simp -dsimp only [go_sem]
            refine pwp_of_vc ?_
            simp -dsimp only [go_sem]
            refine (matSummed_c _ [.ep [.sl .no (encIs (m.getD i []))] 0, .ep [.sl .no (encIs b)] 0] (atM m i) (fun k => b.getD k default) b.length p st rfl (by omega) rfl rfl rfl rfl (fun _ => rfl)
              (fun k hk => ⟨(hm.2 i hlt).2 k (by omega), hb.2 k hk⟩) (fun k => wI_right (dotF_right _ _ _ _))
              fun k hk => matVec1_c k (m.getD i []) b st (by omega) hk).mono ?_
            rintro r st ⟨rfl, rfl⟩
            simp -dsimp only [go_sem]
            refine ck (fun h2 => ?_) (fun h2 => ?_)
            · have hne := zbne_t h2
              simp -dsimp only [go_sem]
              rw [hr, e4, if_pos hne]; rfl
            · have he := zbne_f h2
              simp -dsimp only [go_sem]
              refine ⟨⟨by omega, by omega⟩, pwp_of_vc ?_⟩
              simp -dsimp only [go_sem, e3]
              refine ⟨m.length - (i + 1), by omega, i + 1, o ++ [(dotF (atM m i) (fun k => b.getD k default) p b.length).1], rfl, by omega, by simp [ho], ?_, ?_⟩
              · rw [hr, e4, if_neg (fun hh => hh he)]
              · simp [encIs, encI]
          · have hge : i = m.length := by have := of_decide_eq_false h'; omega
            simp -dsimp only [go_sem]
            refine pwp_of_vc ?_
            simp -dsimp only [go_sem]
            rw [hr, hge, tabF_end]
      · have f1 : ((b.length : Int) != (m.length : Int)) = true := by rw [bne_iff_ne]; omega
        simp -dsimp only [go_sem, f1]
        rw [vecM, if_neg (fun hh => hn hh.2.2.1)]; rfl
end Go.Pv
end
