/- Walk. -/
import Derived.Test.YtfoiagbimnghjaaGreatDoorZAJ
import Derived.Test.YtfoiagbimnghjaaGreatDoorCards
set_option linter.all false
section
set_option maxRecDepth 100000
namespace Go.Proofs.YtfoiagbimnghjaaGreatDoor
open Go.Pv Go.ChangeShapes Go.WideShapes Go.ChangeAt Go.RowKit
theorem ZV {a b:Bool}(ha:a=true)(hb:b=true):(a&&b)=true:=by rw[ha,hb];rfl
theorem Y1v :laidOutB Tryz.pinned.checked.prog=true:=by kernel_rfl
theorem Y1t :mapsRowed Tryz.pinned.checked.prog=true:=by kernel_rfl
theorem Y1r :(Tryz.pinned.checked.prog.stops== [])=true:=by kernel_rfl
theorem Y1w :(Tryz.pinned.checked.prog.stopKnobs== [])=true:=by kernel_rfl
theorem Y1s :(Rows.stepWrongUptoRow.plainKeys==Tryz.pinned.checked.prog.plainKeys)=true:=by kernel_rfl
theorem Y1x :Tryz.pinned.checked.prog.stopsHeard=true:=by kernel_rfl
theorem Y1y :Tryz.pinned.checked.prog.mayEnter=true:=by kernel_rfl
theorem Y1u :(Rows.stepWrongUptoRow.lifted==Tryz.pinned.checked.prog.liftsFinal)=true:=by kernel_rfl
end Go.Proofs.YtfoiagbimnghjaaGreatDoor
end
