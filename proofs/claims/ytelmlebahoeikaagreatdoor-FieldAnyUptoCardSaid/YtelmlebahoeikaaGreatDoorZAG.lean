/- Parts of the walk: N19, N20. -/
import Derived.Test.YtelmlebahoeikaaGreatDoorZAF
import Derived.Test.YtelmlebahoeikaaGreatDoorZI
import Derived.Test.YtelmlebahoeikaaGreatDoorZM
set_option linter.unusedVariables false
set_option linter.unusedSimpArgs false
section
/- The document's bad, Reckon, Scale, Has, In. -/
set_option linter.unusedVariables false
set_option linter.unusedSimpArgs false
set_option maxRecDepth 100000
namespace Go.Pv
open Go.Proofs
theorem refHas_c (a : Ivl) (x : Nm) (st : Store) (ha : wI a) (hx : wN x) : PCalls Tryz.prog 234 [.agg (encI a), .agg (encN x)] st (fun r st' => r = .sc (.bool (hasI a x)) ∧ st' = st) := by
  refine pcalls_enter none Tryz.func234 rfl fun E => pwp_of_vc ?_
  unfold hasI
  simp -dsimp only [go_sem]
  refine (refRightIv_c a _ ha).mono ?_
  rintro r st ⟨rfl, rfl⟩
  cases r1 : rightI a with
  | false => simp -dsimp only [go_sem]; try rfl
  | true =>
    simp -dsimp only [go_sem]
    refine (refRight_c x _ (by unfold wN at hx; omega)).mono ?_
    rintro r st ⟨rfl, rfl⟩
    cases r2 : rightN x with
    | false => simp -dsimp only [go_sem]; try rfl
    | true =>
      have a1 := (rightI_right r1).1
      have a2 := (rightI_right r1).2.1
      have e1 : cmpR a.lo x = cmpN a.lo x := if_pos ⟨a1, r2⟩
      have e2 : cmpR x a.hi = cmpN x a.hi := if_pos ⟨r2, a2⟩
      simp -dsimp only [go_sem]
      refine (cmpNum_c a.lo x _ (sm_wN1 a1) (sm_wN1 r2)).mono ?_
      rintro r st ⟨rfl, rfl⟩
      rw [e1]
      cases c1 : decide (cmpN a.lo x ≤ 0) with
      | false => simp -dsimp only [go_sem, c1]; try rfl
      | true =>
        simp -dsimp only [go_sem, c1]
        refine (cmpNum_c x a.hi _ (sm_wN1 r2) (sm_wN1 a2)).mono ?_
        rintro r st ⟨rfl, rfl⟩
        rw [e2]
        simp -dsimp only [go_sem, c1]
        try rfl
end Go.Pv
end

section
/- The document's boxes: Points, HasPoint, InBox, MeetBox, OpBox, Times, MidBox. -/
set_option linter.unusedVariables false
set_option linter.unusedSimpArgs false
set_option maxRecDepth 100000
namespace Go.Pv
open Go.Proofs
end Go.Pv
end
