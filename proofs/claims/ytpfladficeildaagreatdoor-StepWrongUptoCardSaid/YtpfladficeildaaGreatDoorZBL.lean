/- Walk. -/
import Derived.Test.YtpfladficeildaaGreatDoorZAJ
import Derived.Test.YtpfladficeildaaGreatDoorCards
set_option linter.all false
set_option maxHeartbeats 160000000
section
set_option maxRecDepth 100000
namespace Go.Proofs.YtpfladficeildaaGreatDoor
open Go.Pv Go.ChangeShapes Go.WideShapes Go.ChangeAt Go.RowKit
theorem ZW {a b:Bool}(ha:a=true)(hb:b=true):(a&&b)=true:=by rw[ha,hb];rfl
theorem U1z :laidOutB Tryz.pinned.checked.prog=true:=by kernel_rfl
theorem U1x :mapsRowed Tryz.pinned.checked.prog=true:=by kernel_rfl
theorem U1v :(Tryz.pinned.checked.prog.stops== [])=true:=by kernel_rfl
theorem G1a :(Tryz.pinned.checked.prog.stopKnobs== [])=true:=by kernel_rfl
theorem U1w :(Rows.stepWrongUptoRow.plainKeys==Tryz.pinned.checked.prog.plainKeys)=true:=by kernel_rfl
theorem G1b :Tryz.pinned.checked.prog.stopsHeard=true:=by kernel_rfl
theorem G1c :Tryz.pinned.checked.prog.mayEnter=true:=by kernel_rfl
theorem U1y :(Rows.stepWrongUptoRow.lifted==Tryz.pinned.checked.prog.liftsFinal)=true:=by kernel_rfl
end Go.Proofs.YtpfladficeildaaGreatDoor
end
