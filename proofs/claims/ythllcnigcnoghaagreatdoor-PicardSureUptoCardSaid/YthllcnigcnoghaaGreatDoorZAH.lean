/- Parts of the walk: N21, N22, N24, N25. -/
import Derived.Test.YthllcnigcnoghaaGreatDoorZAF
set_option linter.unusedVariables false
set_option linter.unusedSimpArgs false
section
/- The document's boxes: MeetBox, widest, WideBox, Blow; Nums. -/
set_option maxRecDepth 100000
namespace Go.Pv
open Go.Proofs
def mostF (o : List Nm) : Nm := if o.length = 0 then default else o.getD (amax o o.length) default
end Go.Pv
end

section
/- The document's Blow; Nums. -/
set_option maxRecDepth 100000
namespace Go.Pv
open Go.Proofs
end Go.Pv
end

section
/- The law's parts and reckons. -/
set_option maxRecDepth 100000
namespace Go.Pv
open Go.Proofs
theorem eachF_all {α β : Type} (F : Nat → α → β × Int) (P : β → Prop) (hp : ∀ i x, x ∈ ([] : List α) ∨ P (F i x).1) : ∀ (l : List α) (i : Nat) (acc : List β), (∀ y, y ∈ acc → P y) → (∀ y, y ∈ (eachF F i l acc).1 → P y) ∧ (eachF F i l acc).1.length ≤ acc.length + l.length
 | [], i, acc, h => ⟨h, by simp [eachF]⟩
 | x :: l, i, acc, h => by
  unfold eachF
  split
  · exact ⟨fun y hy => by simp at hy, by simp⟩
  · obtain ⟨h1, h2⟩ := eachF_all F P hp l (i + 1) (acc ++ [(F i x).1]) (fun y hy => by
     rcases List.mem_append.1 hy with h3 | h3
     · exact h y h3
     · rw [List.mem_singleton.1 h3]; rcases hp i x with h4 | h4
       · simp at h4
       · exact h4)
    exact ⟨h1, by simp at h2 ⊢; omega⟩
theorem eachF_wB (F : Nat → Ivl → Ivl × Int) (hF : ∀ i x, wI (F i x).1) (l : List Ivl) (hl : l.length ≤ 100000000000) : wB (eachF F 0 l []).1 := by
 obtain ⟨h1, h2⟩ := eachF_all F wI (fun i x => .inr (hF i x)) l 0 [] (fun y hy => by simp at hy)
 exact ⟨by simp at h2; omega, fun i hi => h1 _ (mem_getD _ i default hi)⟩
theorem wI_op (k : Nat) (a b : Ivl) (p : Int) : wI (opI k a b p).1 := wI_right (opI_right k a b p)
theorem blowI_wI (a : Ivl) (p : Int) : wI (blowI a p).1 := by
 unfold blowI
 split
 · exact wI_default
 · split
   · exact wI_default
   · split
     · exact wI_default
     · exact ⟨sm_wN (rightN_sm (reckN_right _ _ _ _ _)), sm_wN (rightN_sm (reckN_right _ _ _ _ _))⟩
theorem wB_op (k : Nat) (a b : List Ivl) (p : Int) (ha : wB a) : wB (opB k a b p).1 := by
 unfold opB
 split
 · exact eachF_wB _ (fun i x => wI_op _ _ _ _) a ha.1
 · exact wB_nil
theorem wB_times (x : Ivl) (b : List Ivl) (p : Int) (hb : wB b) : wB (timesB x b p).1 := by
 unfold timesB
 split
 · exact eachF_wB _ (fun i x => wI_op _ _ _ _) b hb.1
 · exact wB_nil
theorem wB_blow (b : List Ivl) (p : Int) (hb : wB b) : wB (blowB b p).1 := by
 unfold blowB
 split
 · exact eachF_wB _ (fun i x => blowI_wI _ _) b hb.1
 · exact wB_nil
end Go.Pv
end

section
/- The law's known and light. -/
set_option maxRecDepth 100000
namespace Go.Pv
open Go.Proofs
def k1 : Nm := ⟨false, 0, [1]⟩
def k2 : Nm := ⟨false, 1, [1]⟩
def k4 : Nm := ⟨false, 2, [1]⟩
def kB : List Ivl := [⟨default, k1⟩, ⟨default, k4⟩]
def kX : List Ivl := [⟨default, k1⟩, ⟨default, k2⟩]
def kY : List Ivl := [⟨default, k1⟩, ⟨k2, k4⟩]
def kSm : List Ivl := [⟨default, k2⟩, ⟨k2, ⟨false, 1, [3]⟩⟩]
def kM : List Nm := [⟨false, -1, [1]⟩, k2]
def kZ : List Ivl := [⟨⟨true, -2, [1]⟩, ⟨false, -2, [5]⟩⟩, ⟨⟨true, 0, [1]⟩, ⟨false, 0, [5]⟩⟩]
theorem succW (i : Nat) (h : i < 100000000000000) : IntKind.i64.wrap ((i : Int) + 1) = ((i + 1 : Nat) : Int) := by rw [wrap_i64 _ (by omega) (by omega)]; omega
def encIss (l : List (List Ivl)) : List PV := l.map fun c => .sl .no (encIs c)
end Go.Pv
end
