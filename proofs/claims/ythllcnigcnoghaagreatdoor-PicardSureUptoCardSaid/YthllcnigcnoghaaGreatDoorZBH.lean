/- Parts of the walk: N55, N56, N57, M46, N58, N59. -/
import Derived.Test.YthllcnigcnoghaaGreatDoorZBE
import Derived.Test.YthllcnigcnoghaaGreatDoorZBG
import Derived.Test.YthllcnigcnoghaaGreatDoorZAH
set_option linter.unusedVariables false
set_option linter.unusedSimpArgs false
section
/- The document's gather, for terms in falling order. -/
set_option maxRecDepth 100000
namespace Go.Pv
open Go.Proofs
theorem drop_consT (a : List Tm) (i : Nat) (h : i < a.length) : a.drop i = a.getD i default :: a.drop (i + 1) := by
 rw [List.drop_eq_getElem_cons h]
 simp [List.getD_eq_getElem?_getD, h]
theorem take_snocT (a : List Tm) (i : Nat) (h : i < a.length) : a.take (i + 1) = a.take i ++ [a.getD i default] := by
 rw [List.take_add_one, List.getElem?_eq_getElem h]
 simp [List.getD_eq_getElem?_getD, h]
end Go.Pv
end

section
/- The document's Diff. -/
set_option maxRecDepth 100000
namespace Go.Pv
open Go.Proofs
end Go.Pv
end

section
/- The document's Jac. -/
set_option maxRecDepth 100000
namespace Go.Pv
open Go.Proofs
end Go.Pv
end

section
/- What the machine holds of derivatives and values. No program in it. -/
namespace Go.Pv
end Go.Pv
end

section
/- Layer 11: light, told. -/
set_option maxRecDepth 100000
namespace Go.Pv
open Go.Proofs
theorem rangeP_wI (q : List Mn) (b : List Ivl) (p : Int) : wI (rangeP q b p).1 := by
 unfold rangeP
 split
 · exact rangeF_wI _ _ _ _
 · exact wI_dflt
theorem rangeFd_wB (f : List (List Mn)) (b : List Ivl) (p : Int) (hf : f.length ≤ 100000000000) : wB (rangeFd f b p).1 := by
 have key : (rangeFd f b p).1.length ≤ 100000000000 ∧ ∀ y ∈ (rangeFd f b p).1, wI y := by
  unfold rangeFd
  split
  · refine ⟨?_, tabF_mem wI f.length 0 [] (fun i _ _ => rangeP_wI _ _ _) (fun x hx => by cases hx)⟩
    have := tabF_len (G := fun i => rangeP (f.getD i []) b p) f.length 0 []
    rw [List.length_nil] at this; omega
  · exact ⟨by simp, fun y hy => by cases hy⟩
 refine ⟨key.1, fun i hi => ?_⟩
 rw [show (rangeFd f b p).1.getD i default = (rangeFd f b p).1[i] by simp [List.getD_eq_getElem?_getD, hi]]
 exact key.2 _ (List.getElem_mem hi)
end Go.Pv
end

section
/- Layer 11: light. -/
set_option maxRecDepth 100000
namespace Go.Pv
open Go.Proofs
end Go.Pv
end
