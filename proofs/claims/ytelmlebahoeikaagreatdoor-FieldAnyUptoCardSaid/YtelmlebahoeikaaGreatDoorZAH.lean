/- Parts of the walk: N21, N22, N24, N25. -/
import Derived.Test.YtelmlebahoeikaaGreatDoorZAG
set_option linter.unusedVariables false
set_option linter.unusedSimpArgs false
section
/- The document's boxes: MeetBox, widest, WideBox, Blow; Nums. -/
set_option linter.unusedVariables false
set_option linter.unusedSimpArgs false
set_option maxRecDepth 100000
namespace Go.Pv
open Go.Proofs
def mostF (o : List Nm) : Nm := if o.length = 0 then default else o.getD (amax o o.length) default
end Go.Pv
end

section
/- The document's Blow; Nums. -/
set_option linter.unusedVariables false
set_option linter.unusedSimpArgs false
set_option maxRecDepth 100000
namespace Go.Pv
open Go.Proofs
theorem helpNums_c (a b : List Nm) (st : Store) (ha : wNs a) (hb : wNs b) : PCalls Tryz.prog 70 [.sl .no (encNs a), .sl .no (encNs b)] st (fun r st' => r = .sc (.bool (decide (a = b))) ∧ st' = st) := by
  have hal := ha.1
  refine pcalls_enter none Tryz.func70 rfl fun E => pwp_of_vc ?_
  simp -dsimp only [go_sem]
  refine ck (fun h0 => ?_) (fun h0 => ?_)
  · have hne := nbne_t h0
    simp -dsimp only [go_sem]
    rw [decide_eq_false (fun e => hne (by rw [e]))]
  · have hl := nbne_f h0
    simp -dsimp only [go_sem]
    refine pwp_loop_mask [true, true, false, false, false, true] 0 0 (fun n s => ∃ i, n = a.length - i ∧ i ≤ a.length ∧ (∀ j, j < i → a.getD j default = b.getD j default) ∧ s = ⟨[.sl .no (encNs a), .sl .no (encNs b), .junk, .junk, .junk, .sc (.int .i64 (i : Nat))] ++ List.replicate 21 .junk, [], [], st⟩) a.length ?_ ?_
    · simp -dsimp only [go_sem]
      exact ⟨0, by omega, by omega, fun j hj => by omega, rfl⟩
    · rintro n s ⟨i, rfl, hi, hr, rfl⟩
      simp -dsimp only [go_sem]
      refine ck (fun h' => ?_) (fun h' => ?_)
      · have hlt : i < a.length := by have := of_decide_eq_true h'; omega
        have e1 := encNs_get a i hlt
        have e2 := encNs_get b i (by omega)
        have e3 : IntKind.i64.wrap ((i : Int) + 1) = ((i + 1 : Nat) : Int) := by rw [wrap_i64 _ (by omega) (by omega)]; omega
        have w1 := ha.2 i hlt
        have w2 := hb.2 i (by omega)
        unfold wN at w1 w2
        simp -dsimp only [go_sem]
        refine pwp_draw mixed 27 (.step 0 [] (.step 1 [] (.step 2 [] (.step 3 [] (.step 4 [] (.step 5 [] (.step 6 [] (.step 7 [] (.step 8 [] (.step 9 [] (.done))))))))))) (by decide +kernel) (by simp) ?_
        simp -dsimp only [go_sem, e1, e2]
        refine ⟨⟨by omega, by omega⟩, ⟨by omega, by omega⟩, ?_⟩
        refine (refSame_c _ _ _ (by omega) (by omega)).mono ?_
        rintro r st ⟨rfl, rfl⟩
        simp -dsimp only [go_sem]
        refine ck (fun h2 => ?_) (fun h2 => ?_)
        · have hf : ¬ a.getD i default = b.getD i default := by simpa using h2
          simp -dsimp only [go_sem]
          rw [decide_eq_false (fun e => hf (by rw [e]))]
        · have ht : a.getD i default = b.getD i default := by simpa using h2
          simp -dsimp only [go_sem, e3]
          refine ⟨a.length - (i + 1), by omega, i + 1, rfl, by omega, fun j hj => ?_, rfl⟩
          by_cases e : j = i
          · subst e; exact ht
          · exact hr j (by omega)
      · have hge : i = a.length := by have := of_decide_eq_false h'; omega
        simp -dsimp only [go_sem]
        refine pwp_of_vc ?_
        simp -dsimp only [go_sem]
        rw [decide_eq_true (eq_of_getD default hl fun j hj => hr j (by omega))]
end Go.Pv
end

section
/- The law's parts and reckons. -/
set_option linter.unusedVariables false
set_option linter.unusedSimpArgs false
set_option maxRecDepth 100000
namespace Go.Pv
open Go.Proofs
end Go.Pv
end

section
/- The law's known and light. -/
set_option linter.unusedVariables false
set_option linter.unusedSimpArgs false
set_option maxRecDepth 100000
namespace Go.Pv
open Go.Proofs
def k1 : Nm := ⟨false, 0, [1]⟩
def k2 : Nm := ⟨false, 1, [1]⟩
def k4 : Nm := ⟨false, 2, [1]⟩
def kB : List Ivl := [⟨default, k1⟩, ⟨default, k4⟩]
def kX : List Ivl := [⟨default, k1⟩, ⟨default, k2⟩]
def kY : List Ivl := [⟨default, k1⟩, ⟨k2, k4⟩]
def kSm : List Ivl := [⟨default, k2⟩, ⟨k2, ⟨false, 1, [3]⟩⟩]
def kM : List Nm := [⟨false, -1, [1]⟩, k2]
def kZ : List Ivl := [⟨⟨true, -2, [1]⟩, ⟨false, -2, [5]⟩⟩, ⟨⟨true, 0, [1]⟩, ⟨false, 0, [5]⟩⟩]
theorem OL_app {P : Program} {ops l m : List Oper} {x : Oper} {K : PFS → Prop} {s : PFS} : OL P ops (List.append (x :: l) m) K s = OL P ops (x :: List.append l m) K s := rfl
theorem OL_app0 {P : Program} {ops m : List Oper} {K : PFS → Prop} {s : PFS} : OL P ops (List.append [] m) K s = OL P ops m K s := rfl
theorem succW (i : Nat) (h : i < 100000000000000) : IntKind.i64.wrap ((i : Int) + 1) = ((i + 1 : Nat) : Int) := by rw [wrap_i64 _ (by omega) (by omega)]; omega
def encIss (l : List (List Ivl)) : List PV := l.map fun c => .sl .no (encIs c)
end Go.Pv
end
