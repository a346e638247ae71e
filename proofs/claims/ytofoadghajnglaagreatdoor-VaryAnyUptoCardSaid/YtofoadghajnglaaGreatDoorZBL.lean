/- Parts of the walk: T2. -/
import Derived.Test.YtofoadghajnglaaGreatDoorZAJ
import Derived.Test.YtofoadghajnglaaGreatDoorCards
set_option linter.unusedVariables false
set_option linter.unusedSimpArgs false
section
set_option maxRecDepth 100000
namespace Go.Proofs.YtofoadghajnglaaGreatDoor
open Go.Pv Go.ChangeShapes Go.WideShapes Go.ChangeAt Go.RowKit
theorem J0l {a b:Bool} (ha:a=true) (hb:b=true):(a&&b)=true:=by rw [ha,hb];rfl
theorem X2c :laidOutB Tryz.pinned.checked.prog=true:=by kernel_rfl
theorem H1x :mapsRowed Tryz.pinned.checked.prog=true:=by kernel_rfl
theorem k2k :(Tryz.pinned.checked.prog.stops== [])=true:=by kernel_rfl
theorem k2m :(Tryz.pinned.checked.prog.stopKnobs== [])=true:=by kernel_rfl
theorem H1w :(Rows.invAnyUptoRow.plainKeys==Tryz.pinned.checked.prog.plainKeys)=true:=by kernel_rfl
theorem k2n :Tryz.pinned.checked.prog.stopsHeard=true:=by kernel_rfl
theorem k2o :Tryz.pinned.checked.prog.mayEnter=true:=by kernel_rfl
theorem k2l :(Rows.invAnyUptoRow.lifted==Tryz.pinned.checked.prog.liftsFinal)=true:=by kernel_rfl
end Go.Proofs.YtofoadghajnglaaGreatDoor
end
