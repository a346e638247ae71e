/- For any numbers of bulk at most 1048576 the law StepStraight returns true, and its argument reads as before. -/
import Derived.Test.YtfoiagbimnghjaaGreatDoorZIJ
set_option linter.unusedVariables false
set_option maxRecDepth 100000
namespace Go.Proofs.YtfoiagbimnghjaaGreatDoor
open Go.Pv Go.ChangeShapes Go.WideShapes Go.ChangeAt Go.RowKit
theorem x0w :false=Rows.stepStraightUptoRow.goesBy Tryz.pinned.checked.prog:=by kernel_rfl
theorem stepStraight_holds :Rows.StepStraightUptoCardSaid:=
 Claim7.holds_tied_plain_at .later [] _ _ _ _ x0p (fun _ h=>by cases h) (by kernel_rfl) (fun _ h=>by cases h) stepStraightUpto_row_tie rfl ⟨rfl,rfl⟩ (by kernel_rfl) rfl x0s x0w
end Go.Proofs.YtfoiagbimnghjaaGreatDoor
