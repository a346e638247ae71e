/- Parts of the walk: T2. -/
import Derived.Test.YtldalepagmhnmaaGreatDoorZAJ
import Derived.Test.YtldalepagmhnmaaGreatDoorCards
set_option linter.unusedVariables false
set_option linter.unusedSimpArgs false
section
set_option maxRecDepth 100000
namespace Go.Proofs.YtldalepagmhnmaaGreatDoor
open Go.Pv Go.ChangeShapes Go.WideShapes Go.ChangeAt Go.RowKit
theorem J0r {a b:Bool}(ha:a=true)(hb:b=true):(a&&b)=true:=by rw[ha,hb];rfl
theorem J2g :laidOutB Tryz.pinned.checked.prog=true:=by kernel_rfl
theorem q1z :mapsRowed Tryz.pinned.checked.prog=true:=by kernel_rfl
theorem v2y :(Tryz.pinned.checked.prog.stops== [])=true:=by kernel_rfl
theorem w2a :(Tryz.pinned.checked.prog.stopKnobs== [])=true:=by kernel_rfl
theorem q1y :(Rows.varyDrawnUptoRow.plainKeys==Tryz.pinned.checked.prog.plainKeys)=true:=by kernel_rfl
theorem w2b :Tryz.pinned.checked.prog.stopsHeard=true:=by kernel_rfl
theorem w2c :Tryz.pinned.checked.prog.mayEnter=true:=by kernel_rfl
theorem v2z :(Rows.varyDrawnUptoRow.lifted==Tryz.pinned.checked.prog.liftsFinal)=true:=by kernel_rfl
end Go.Proofs.YtldalepagmhnmaaGreatDoor
end
