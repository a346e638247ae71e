/- The walk of CodeReads. -/
import Derived.Test.YtclholhblbelbaaZS
import Derived.Test.YtclholhblbelbaaZU
set_option linter.unusedVariables false
set_option linter.unusedSimpArgs false
set_option maxRecDepth 100000
namespace Go.Pv
open Go.Proofs
theorem codeReads_c (b plan : List UInt8) (hb : b.length ≤ 2000000) (hp : plan.length ≤ 2000000) :
    PCalls Try.prog 7 [.sl .no (encB b), .sl .no (encB plan)] [] (fun r st' => r = .sc (.bool true)) := by
  refine pcalls_enter none Try.func7 rfl fun E => pwp_of_vc ?_
  simp -dsimp only [go_sem]
  refine (known22_c [] (by simp)).mono ?_
  rintro r st' ⟨rfl, ob, rfl⟩
  simp -dsimp only [go_sem]
  refine gkF (fun h1 => ?_) (fun h1 => ?_)
  · simp -dsimp only [go_sem, h1]
    refine ck (fun h2 => ?_) (fun h2 => ?_)
    · simp -dsimp only [go_sem]
    · simp -dsimp only [go_sem]
      refine (reads_c b plan _ (by omega) (by omega)).mono ?_
      rintro r st' ⟨rfl, x, y, rfl⟩
      simp -dsimp only [go_sem]
  · simp -dsimp only [go_sem, h1]
end Go.Pv
