/- Parts of the walk: T2. -/
import Derived.Test.YtagacielooaapaaGreatDoorZAJ
import Derived.Test.YtagacielooaapaaGreatDoorCards
set_option linter.unusedVariables false
set_option linter.unusedSimpArgs false
section
/-What holds of the whole program of this seat,for all its laws. -/
set_option maxRecDepth 100000
namespace Go.Proofs.YtagacielooaapaaGreatDoor
open Go.Pv Go.ChangeShapes Go.WideShapes Go.ChangeAt Go.RowKit
theorem X0z {a b:Bool} (ha:a=true) (hb:b=true):(a&&b)=true:=by rw [ha,hb];rfl
theorem X2z :laidOutB Tryz.pinned.checked.prog=true:=by kernel_rfl
theorem H1s :mapsRowed Tryz.pinned.checked.prog=true:=by kernel_rfl
theorem k2k :(Tryz.pinned.checked.prog.stops== [])=true:=by kernel_rfl
theorem k2m :(Tryz.pinned.checked.prog.stopKnobs== [])=true:=by kernel_rfl
theorem H1r :(Rows.picardStairsUptoRow.plainKeys==Tryz.pinned.checked.prog.plainKeys)=true:=by kernel_rfl
theorem k2n :Tryz.pinned.checked.prog.stopsHeard=true:=by kernel_rfl
theorem k2o :Tryz.pinned.checked.prog.mayEnter=true:=by kernel_rfl
theorem k2l :(Rows.picardStairsUptoRow.lifted==Tryz.pinned.checked.prog.liftsFinal)=true:=by kernel_rfl
end Go.Proofs.YtagacielooaapaaGreatDoor
end
