/- Parts of the walk: T2. -/
import Derived.Test.YtofoadghajnglaaGreatDoorZAJ
import Derived.Test.YtofoadghajnglaaGreatDoorCards
set_option linter.unusedVariables false
set_option linter.unusedSimpArgs false
section
/-What holds of the whole program of this seat,for all its laws. -/
set_option maxRecDepth 100000
namespace Go.Proofs.YtofoadghajnglaaGreatDoor
open Go.Pv Go.ChangeShapes Go.WideShapes Go.ChangeAt Go.RowKit
theorem X0t {a b:Bool} (ha:a=true) (hb:b=true):(a&&b)=true:=by rw [ha,hb];rfl
theorem w1v :laidOutB Tryz.pinned.checked.prog=true:=by kernel_rfl
theorem U1j :mapsRowed Tryz.pinned.checked.prog=true:=by kernel_rfl
theorem q2y :(Tryz.pinned.checked.prog.stops== [])=true:=by kernel_rfl
theorem z2a :(Tryz.pinned.checked.prog.stopKnobs== [])=true:=by kernel_rfl
theorem U1i :(Rows.invAnyUptoRow.plainKeys==Tryz.pinned.checked.prog.plainKeys)=true:=by kernel_rfl
theorem z2b :Tryz.pinned.checked.prog.stopsHeard=true:=by kernel_rfl
theorem z2c :Tryz.pinned.checked.prog.mayEnter=true:=by kernel_rfl
theorem q2z :(Rows.invAnyUptoRow.lifted==Tryz.pinned.checked.prog.liftsFinal)=true:=by kernel_rfl
end Go.Proofs.YtofoadghajnglaaGreatDoor
end
