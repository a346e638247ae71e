/- Parts of the walk: T2. -/
import Derived.Test.YtofoadghajnglaaGreatDoorZAJ
import Derived.Test.YtofoadghajnglaaGreatDoorCards
set_option linter.unusedVariables false
set_option linter.unusedSimpArgs false
section
/-What holds of the whole program of this seat,for all its laws. -/
set_option maxRecDepth 100000
namespace Go.Proofs.YtofoadghajnglaaGreatDoor
open Go.Pv Go.ChangeShapes Go.WideShapes Go.ChangeAt Go.RowKit
theorem Z0e {a b:Bool} (ha:a=true) (hb:b=true):(a&&b)=true:=by rw [ha,hb];rfl
theorem W1e :laidOutB Tryz.pinned.checked.prog=true:=by kernel_rfl
theorem Q1c :mapsRowed Tryz.pinned.checked.prog=true:=by kernel_rfl
theorem Q2g :(Tryz.pinned.checked.prog.stops== [])=true:=by kernel_rfl
theorem Q2i :(Tryz.pinned.checked.prog.stopKnobs== [])=true:=by kernel_rfl
theorem Q1b :(Rows.invAnyUptoRow.plainKeys==Tryz.pinned.checked.prog.plainKeys)=true:=by kernel_rfl
theorem Q2j :Tryz.pinned.checked.prog.stopsHeard=true:=by kernel_rfl
theorem Q2k :Tryz.pinned.checked.prog.mayEnter=true:=by kernel_rfl
theorem Q2h :(Rows.invAnyUptoRow.lifted==Tryz.pinned.checked.prog.liftsFinal)=true:=by kernel_rfl
end Go.Proofs.YtofoadghajnglaaGreatDoor
end
