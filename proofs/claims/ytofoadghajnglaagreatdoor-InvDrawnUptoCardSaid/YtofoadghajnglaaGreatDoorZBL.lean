/- Parts of the walk: T2. -/
import Derived.Test.YtofoadghajnglaaGreatDoorZAJ
import Derived.Test.YtofoadghajnglaaGreatDoorCards
set_option linter.unusedVariables false
set_option linter.unusedSimpArgs false
section
/-What holds of the whole program of this seat,for all its laws. -/
set_option maxRecDepth 100000
namespace Go.Proofs.YtofoadghajnglaaGreatDoor
open Go.Pv Go.ChangeShapes Go.WideShapes Go.ChangeAt Go.RowKit
theorem J0c {a b:Bool} (ha:a=true) (hb:b=true):(a&&b)=true:=by rw [ha,hb];rfl
theorem Q2i :laidOutB Tryz.pinned.checked.prog=true:=by kernel_rfl
theorem H1d :mapsRowed Tryz.pinned.checked.prog=true:=by kernel_rfl
theorem q2q :(Tryz.pinned.checked.prog.stops== [])=true:=by kernel_rfl
theorem q2s :(Tryz.pinned.checked.prog.stopKnobs== [])=true:=by kernel_rfl
theorem H1c :(Rows.invAnyUptoRow.plainKeys==Tryz.pinned.checked.prog.plainKeys)=true:=by kernel_rfl
theorem q2t :Tryz.pinned.checked.prog.stopsHeard=true:=by kernel_rfl
theorem q2u :Tryz.pinned.checked.prog.mayEnter=true:=by kernel_rfl
theorem q2r :(Rows.invAnyUptoRow.lifted==Tryz.pinned.checked.prog.liftsFinal)=true:=by kernel_rfl
end Go.Proofs.YtofoadghajnglaaGreatDoor
end
