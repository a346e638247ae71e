/- Parts of the walk: N55, N56, N57, M46, N58, N59. -/
import Derived.Test.YtelmlebahoeikaaGreatDoorZBE
import Derived.Test.YtelmlebahoeikaaGreatDoorZBG
import Derived.Test.YtelmlebahoeikaaGreatDoorZAH
set_option linter.unusedVariables false
set_option linter.unusedSimpArgs false
section
/- The document's gather, for terms in falling order. -/
set_option linter.unusedVariables false
set_option linter.unusedSimpArgs false
set_option maxRecDepth 100000
namespace Go.Pv
open Go.Proofs
theorem drop_consT (a : List Tm) (i : Nat) (h : i < a.length) : a.drop i = a.getD i default :: a.drop (i + 1) := by
  rw [List.drop_eq_getElem_cons h]
  simp [List.getD_eq_getElem?_getD, h]
theorem take_snocT (a : List Tm) (i : Nat) (h : i < a.length) : a.take (i + 1) = a.take i ++ [a.getD i default] := by
  rw [List.take_add_one, List.getElem?_eq_getElem h]
  simp [List.getD_eq_getElem?_getD, h]
end Go.Pv
end

section
/- The document's Diff. -/
set_option linter.unusedVariables false
set_option linter.unusedSimpArgs false
set_option maxRecDepth 100000
namespace Go.Pv
open Go.Proofs
end Go.Pv
end

section
/- The document's Jac. -/
set_option linter.unusedVariables false
set_option linter.unusedSimpArgs false
set_option maxRecDepth 100000
namespace Go.Pv
open Go.Proofs
end Go.Pv
end

section
/- What the machine holds of derivatives and values. No program in it. -/
set_option linter.unusedVariables false
set_option linter.unusedSimpArgs false
namespace Go.Pv
theorem wP_mem {p : List Mn} : wP p ↔ p.length ≤ 100000000000 ∧ ∀ m ∈ p, wMn m := by
  unfold wP
  constructor
  · rintro ⟨h1, h2⟩
    refine ⟨h1, fun m hm => ?_⟩
    obtain ⟨i, hi, e⟩ := List.mem_iff_getElem.1 hm
    have := h2 i hi
    rwa [show p.getD i default = m by simp [List.getD_eq_getElem?_getD, hi, e]] at this
  · rintro ⟨h1, h2⟩
    refine ⟨h1, fun i hi => ?_⟩
    rw [show p.getD i default = p[i] by simp [List.getD_eq_getElem?_getD, hi]]
    exact h2 _ (List.getElem_mem hi)
theorem wF_mem {f : List (List Mn)} : wF f ↔ f.length ≤ 100000000000 ∧ ∀ p ∈ f, wP p := by
  unfold wF
  constructor
  · rintro ⟨h1, h2⟩
    refine ⟨h1, fun m hm => ?_⟩
    obtain ⟨i, hi, e⟩ := List.mem_iff_getElem.1 hm
    have := h2 i hi
    rwa [show f.getD i [] = m by simp [List.getD_eq_getElem?_getD, hi, e]] at this
  · rintro ⟨h1, h2⟩
    refine ⟨h1, fun i hi => ?_⟩
    rw [show f.getD i [] = f[i] by simp [List.getD_eq_getElem?_getD, hi]]
    exact h2 _ (List.getElem_mem hi)
theorem strN_wN (k : Nat) (a b : Nm) : wN (strN k a b).1 := by
  unfold strN
  split
  · rename_i h
    exact sm_wN (rightN_sm (rightN_numV (canV_ok (canV_ex k (canV_ofN h.1) (canV_ofN h.2)))))
  · exact sm_wN (rightN_sm (show rightN default = true by decide))
theorem decK_wK {ks : List Int} {i : Nat} (hr : rightK ks = true) (hl : ks.length ≤ 100000000000) (hi : i < ks.length) : wK (decK ks i) := by
  refine ⟨by rw [decK_length]; omega, fun z hz => ?_⟩
  rw [decK_length] at hz
  have h1 := rightK_at hr z hz
  unfold decK
  by_cases c : z = i
  · subst c
    rw [show (ks.set z (ks.getD z 0 - 1)).getD z 0 = ks.getD z 0 - 1 by simp [List.getD_eq_getElem?_getD, hz]]
    omega
  · rw [show (ks.set i (ks.getD i 0 - 1)).getD z 0 = ks.getD z 0 by simp [List.getD_eq_getElem?_getD, List.getElem?_set_ne (Ne.symm c)]]
    omega
theorem diffL_wP {i : Nat} : ∀ (p acc : List Mn), (∀ m ∈ p, wK (decK m.ks i)) → (∀ m ∈ acc, wMn m) → (diffL i p acc).1.length ≤ acc.length + p.length ∧ ∀ m ∈ (diffL i p acc).1, wMn m
  | [], acc, _, h => ⟨by simp [diffL], h⟩
  | m :: r, acc, hp, h => by
    rw [diffL]
    split
    · obtain ⟨a1, a2⟩ := diffL_wP (i := i) r acc (fun m hm => hp m (by simp [hm])) h
      exact ⟨by simp only [List.length_cons]; omega, a2⟩
    · split
      · exact ⟨by simp, fun m hm => by cases hm⟩
      · obtain ⟨a1, a2⟩ := diffL_wP (i := i) r (acc ++ [⟨(strN 2 m.c (intN (m.ks.getD i 0).toNat)).1, decK m.ks i⟩]) (fun m hm => hp m (by simp [hm])) (fun q hq => by
          rcases List.mem_append.1 hq with hq | hq
          · exact h q hq
          · simp at hq; subst hq
            exact ⟨strN_wN _ _ _, hp m (by simp)⟩)
        exact ⟨by simp only [List.length_append, List.length_cons, List.length_nil] at a1; simp only [List.length_cons]; omega, a2⟩
theorem diffP_wP (p : List Mn) (i n : Int) : wP (diffP p i n).1 := by
  rw [wP_mem]
  unfold diffP
  split
  · rename_i h
    obtain ⟨h1, h2, h3⟩ := h
    have h4 := ((rightP_iff _ _).1 h1).1
    obtain ⟨a1, a2⟩ := diffL_wP (i := i.toNat) p [] (fun m hm => by
      obtain ⟨q, hq, e⟩ := List.mem_iff_getElem.1 hm
      obtain ⟨k1, k2, k3⟩ := rightP_mono h1 hq
      rw [show p.getD q default = m by simp [List.getD_eq_getElem?_getD, hq, e]] at k1 k2
      exact decK_wK k2 (by omega) (by omega)) (fun m hm => by cases hm)
    exact ⟨by have := a1; rw [List.length_nil] at this; omega, a2⟩
  · exact ⟨by simp, fun m hm => by cases hm⟩
theorem jacF_wF (f : List (List Mn)) (hf : f.length ≤ 100000000000) : (jacF f).1.length ≤ 100000000000 ∧ ∀ g ∈ (jacF f).1, wF g := by
  unfold jacF
  split
  · refine ⟨?_, ?_⟩
    · have := tabF_len (G := fun i => tabF (fun j => jacG f i j) 0 f.length []) f.length 0 []
      simp only [List.length_nil] at this; omega
    · refine tabF_mem wF f.length 0 [] (fun i _ _ => ?_) (fun x hx => by cases hx)
      rw [wF_mem]
      refine ⟨?_, tabF_mem wP f.length 0 [] (fun j _ _ => diffP_wP _ _ _) (fun x hx => by cases hx)⟩
      have := tabF_len (G := fun j => jacG f i j) f.length 0 []
      simp only [List.length_nil] at this; omega
  · exact ⟨by simp, fun g hg => by cases hg⟩
theorem atP_right (p : List Mn) (x : List Nm) : rightN (atP p x).1 = true := by
  unfold atP
  split
  · rename_i h
    exact rightN_numV (canV_ok (canV_val ((all_getD x rightN).1 h.2) _ fun j hj => (rightP_mono h.1 hj).2.2))
  · decide
end Go.Pv
end

section
/- Layer 11: light, told. -/
set_option linter.unusedVariables false
set_option linter.unusedSimpArgs false
set_option maxRecDepth 100000
namespace Go.Pv
open Go.Proofs
theorem atFd_wNs (f : List (List Mn)) (x : List Nm) (hf : f.length ≤ 100000000000) : wNs (atFd f x).1 := by
  have key : (atFd f x).1.length ≤ 100000000000 ∧ ∀ y ∈ (atFd f x).1, wN y := by
    unfold atFd
    split
    · refine ⟨?_, tabF_mem wN f.length 0 [] (fun i _ _ => sm_wN (rightN_sm (atP_right _ _))) (fun x hx => by cases hx)⟩
      have := tabF_len (G := fun i => atP (f.getD i []) x) f.length 0 []
      rw [List.length_nil] at this; omega
    · exact ⟨by simp, fun y hy => by cases hy⟩
  refine ⟨key.1, fun i hi => ?_⟩
  rw [show (atFd f x).1.getD i default = (atFd f x).1[i] by simp [List.getD_eq_getElem?_getD, hi]]
  exact key.2 _ (List.getElem_mem hi)
theorem rangeP_wI (q : List Mn) (b : List Ivl) (p : Int) : wI (rangeP q b p).1 := by
  unfold rangeP
  split
  · exact rangeF_wI _ _ _ _
  · exact wI_dflt
theorem rangeFd_wB (f : List (List Mn)) (b : List Ivl) (p : Int) (hf : f.length ≤ 100000000000) : wB (rangeFd f b p).1 := by
  have key : (rangeFd f b p).1.length ≤ 100000000000 ∧ ∀ y ∈ (rangeFd f b p).1, wI y := by
    unfold rangeFd
    split
    · refine ⟨?_, tabF_mem wI f.length 0 [] (fun i _ _ => rangeP_wI _ _ _) (fun x hx => by cases hx)⟩
      have := tabF_len (G := fun i => rangeP (f.getD i []) b p) f.length 0 []
      rw [List.length_nil] at this; omega
    · exact ⟨by simp, fun y hy => by cases hy⟩
  refine ⟨key.1, fun i hi => ?_⟩
  rw [show (rangeFd f b p).1.getD i default = (rangeFd f b p).1[i] by simp [List.getD_eq_getElem?_getD, hi]]
  exact key.2 _ (List.getElem_mem hi)
end Go.Pv
end

section
/- Layer 11: light. -/
set_option linter.unusedVariables false
set_option linter.unusedSimpArgs false
set_option maxRecDepth 100000
namespace Go.Pv
open Go.Proofs
end Go.Pv
end
