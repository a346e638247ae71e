/- Parts of the walk: T2. -/
import Derived.Test.YtagacielooaapaaGreatDoorZAJ
import Derived.Test.YtagacielooaapaaGreatDoorCards
set_option linter.unusedVariables false
set_option linter.unusedSimpArgs false
section
/-What holds of the whole program of this seat,for all its laws. -/
set_option maxRecDepth 100000
namespace Go.Proofs.YtagacielooaapaaGreatDoor
open Go.Pv Go.ChangeShapes Go.WideShapes Go.ChangeAt Go.RowKit
theorem J0c {a b:Bool} (ha:a=true) (hb:b=true):(a&&b)=true:=by rw [ha,hb];rfl
theorem K2z :laidOutB Tryz.pinned.checked.prog=true:=by kernel_rfl
theorem x1i :mapsRowed Tryz.pinned.checked.prog=true:=by kernel_rfl
theorem w2o :(Tryz.pinned.checked.prog.stops== [])=true:=by kernel_rfl
theorem w2q :(Tryz.pinned.checked.prog.stopKnobs== [])=true:=by kernel_rfl
theorem x1h :(Rows.picardStairsUptoRow.plainKeys==Tryz.pinned.checked.prog.plainKeys)=true:=by kernel_rfl
theorem w2r :Tryz.pinned.checked.prog.stopsHeard=true:=by kernel_rfl
theorem w2s :Tryz.pinned.checked.prog.mayEnter=true:=by kernel_rfl
theorem w2p :(Rows.picardStairsUptoRow.lifted==Tryz.pinned.checked.prog.liftsFinal)=true:=by kernel_rfl
end Go.Proofs.YtagacielooaapaaGreatDoor
end
