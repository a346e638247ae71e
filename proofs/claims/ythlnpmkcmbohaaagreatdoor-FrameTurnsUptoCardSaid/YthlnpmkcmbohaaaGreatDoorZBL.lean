/- Parts of the walk: T2. -/
import Derived.Test.YthlnpmkcmbohaaaGreatDoorZAJ
import Derived.Test.YthlnpmkcmbohaaaGreatDoorCards
set_option linter.unusedVariables false
set_option linter.unusedSimpArgs false
section
set_option maxRecDepth 100000
namespace Go.Proofs.YthlnpmkcmbohaaaGreatDoor
open Go.Pv Go.ChangeShapes Go.WideShapes Go.ChangeAt Go.RowKit
theorem Qz {a b:Bool}(ha:a=true)(hb:b=true):(a&&b)=true:=by rw[ha,hb];rfl
theorem He :laidOutB Tryz.pinned.checked.prog=true:=by kernel_rfl
theorem W4 :mapsRowed Tryz.pinned.checked.prog=true:=by kernel_rfl
theorem j6 :(Tryz.pinned.checked.prog.stops== [])=true:=by kernel_rfl
theorem j8 :(Tryz.pinned.checked.prog.stopKnobs== [])=true:=by kernel_rfl
theorem W3 :(Rows.frameTurnsUptoRow.plainKeys==Tryz.pinned.checked.prog.plainKeys)=true:=by kernel_rfl
theorem j9 :Tryz.pinned.checked.prog.stopsHeard=true:=by kernel_rfl
theorem jA :Tryz.pinned.checked.prog.mayEnter=true:=by kernel_rfl
theorem j7 :(Rows.frameTurnsUptoRow.lifted==Tryz.pinned.checked.prog.liftsFinal)=true:=by kernel_rfl
end Go.Proofs.YthlnpmkcmbohaaaGreatDoor
end
