/- Parts of the walk: T2. -/
import Derived.Test.YtagacielooaapaaGreatDoorZAJ
import Derived.Test.YtagacielooaapaaGreatDoorCards
set_option linter.unusedVariables false
set_option linter.unusedSimpArgs false
section
/-What holds of the whole program of this seat,for all its laws. -/
set_option maxRecDepth 100000
namespace Go.Proofs.YtagacielooaapaaGreatDoor
open Go.Pv Go.ChangeShapes Go.WideShapes Go.ChangeAt Go.RowKit
theorem J0c {a b:Bool} (ha:a=true) (hb:b=true):(a&&b)=true:=by rw [ha,hb];rfl
theorem J2y :laidOutB Tryz.pinned.checked.prog=true:=by kernel_rfl
theorem q1o :mapsRowed Tryz.pinned.checked.prog=true:=by kernel_rfl
theorem v2x :(Tryz.pinned.checked.prog.stops== [])=true:=by kernel_rfl
theorem v2z :(Tryz.pinned.checked.prog.stopKnobs== [])=true:=by kernel_rfl
theorem q1n :(Rows.picardStairsUptoRow.plainKeys==Tryz.pinned.checked.prog.plainKeys)=true:=by kernel_rfl
theorem w2a :Tryz.pinned.checked.prog.stopsHeard=true:=by kernel_rfl
theorem w2b :Tryz.pinned.checked.prog.mayEnter=true:=by kernel_rfl
theorem v2y :(Rows.picardStairsUptoRow.lifted==Tryz.pinned.checked.prog.liftsFinal)=true:=by kernel_rfl
end Go.Proofs.YtagacielooaapaaGreatDoor
end
