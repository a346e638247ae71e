/- Parts of the walk: N36, N37. -/
import Derived.Test.YtcfgdppnoephnaaGreatDoorZAR
import Derived.Test.YtcfgdppnoephnaaGreatDoorZAG
import Derived.Test.YtcfgdppnoephnaaGreatDoorZAH
import Derived.Test.YtcfgdppnoephnaaGreatDoorZAQ
set_option linter.unusedVariables false
set_option linter.unusedSimpArgs false
section
/- The document's matrices: RightMat, SameMat, InMat, PointMat; rows held against one another. -/
set_option linter.unusedVariables false
set_option linter.unusedSimpArgs false
set_option maxRecDepth 100000
namespace Go.Pv
open Go.Proofs
theorem helpWords_c (a b : List UInt64) (st : Store) (ha : a.length ≤ 100000000000) (hb : b.length ≤ 100000000000) : PCalls Tryz.prog 121 [.sl .no (encW a), .sl .no (encW b)] st (fun r st' => r = .sc (.bool (decide (a = b))) ∧ st' = st) := by
  refine pcalls_enter none Tryz.func121 rfl fun E => pwp_of_vc ?_
  simp -dsimp only [go_sem]
  refine ck (fun h0 => ?_) (fun h0 => ?_)
  · have hne := nbne_t h0
    simp -dsimp only [go_sem]
    rw [decide_eq_false (fun e => hne (by rw [e]))]
  · have hl := nbne_f h0
    simp -dsimp only [go_sem]
    refine pwp_loop_mask [true, true, false, false, false, true] 0 0 (fun n s => ∃ i, n = a.length - i ∧ i ≤ a.length ∧ (∀ j, j < i → a.getD j 0 = b.getD j 0) ∧ s = ⟨[.sl .no (encW a), .sl .no (encW b), .junk, .junk, .junk, .sc (.int .i64 (i : Nat))] ++ List.replicate 20 .junk, [], [], st⟩) a.length ?_ ?_
    · simp -dsimp only [go_sem]
      exact ⟨0, by omega, by omega, fun j hj => by omega, rfl⟩
    · rintro n s ⟨i, rfl, hi, hr, rfl⟩
      simp -dsimp only [go_sem]
      refine ck (fun h' => ?_) (fun h' => ?_)
      · have hlt : i < a.length := by have := of_decide_eq_true h'; omega
        have e1 := encW_get a i hlt
        have e2 := encW_get b i (by omega)
        have e3 := succW i (by omega)
        simp -dsimp only [go_sem]
        refine pwp_draw mixed 26 (.step 0 [] (.step 1 [] (.step 2 [] (.step 3 [] (.step 4 [] (.step 5 [] (.step 6 [] (.step 7 [] (.step 8 [] (.done)))))))))) (by decide +kernel) (by simp) ?_
        simp -dsimp only [go_sem, e1, e2]
        refine ⟨by omega, by omega, ?_⟩
        refine ck (fun h2 => ?_) (fun h2 => ?_)
        · have hf : a.getD i 0 ≠ b.getD i 0 := by intro e; rw [e] at h2; simp at h2
          simp -dsimp only [go_sem]
          rw [decide_eq_false (fun e => hf (by rw [e]))]
        · have ht : a.getD i 0 = b.getD i 0 := by
            have := nbne_f h2
            exact UInt64.toNat_inj.1 this
          simp -dsimp only [go_sem, e3]
          refine ⟨a.length - (i + 1), by omega, i + 1, rfl, by omega, fun j hj => ?_, rfl⟩
          by_cases e : j = i
          · subst e; exact ht
          · exact hr j (by omega)
      · have hge : i = a.length := by have := of_decide_eq_false h'; omega
        simp -dsimp only [go_sem]
        refine pwp_of_vc ?_
        simp -dsimp only [go_sem]
        rw [decide_eq_true (eq_of_getD 0 hl fun j hj => hr j (by omega))]
end Go.Pv
end

section
/- The document's matrices: OpMat, TimesMat, MidMat, column, Dot, Vec. -/
set_option linter.unusedVariables false
set_option linter.unusedSimpArgs false
set_option maxRecDepth 100000
namespace Go.Pv
open Go.Proofs
def colM (m : Mx) (j : Nat) : List Ivl := (List.range m.length).map fun i => atM m i j
end Go.Pv
end
