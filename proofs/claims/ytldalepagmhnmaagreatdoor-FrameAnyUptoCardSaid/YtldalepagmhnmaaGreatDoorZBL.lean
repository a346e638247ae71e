/- Parts of the walk: T2. -/
import Derived.Test.YtldalepagmhnmaaGreatDoorZAJ
import Derived.Test.YtldalepagmhnmaaGreatDoorCards
set_option linter.unusedVariables false
set_option linter.unusedSimpArgs false
section
set_option maxRecDepth 100000
namespace Go.Proofs.YtldalepagmhnmaaGreatDoor
open Go.Pv Go.ChangeShapes Go.WideShapes Go.ChangeAt Go.RowKit
theorem J0o {a b:Bool}(ha:a=true)(hb:b=true):(a&&b)=true:=by rw[ha,hb];rfl
theorem W2c :laidOutB Tryz.pinned.checked.prog=true:=by kernel_rfl
theorem j1r :mapsRowed Tryz.pinned.checked.prog=true:=by kernel_rfl
theorem Q3n :(Tryz.pinned.checked.prog.stops== [])=true:=by kernel_rfl
theorem Q3p :(Tryz.pinned.checked.prog.stopKnobs== [])=true:=by kernel_rfl
theorem j1q :(Rows.varyDrawnUptoRow.plainKeys==Tryz.pinned.checked.prog.plainKeys)=true:=by kernel_rfl
theorem Q3q :Tryz.pinned.checked.prog.stopsHeard=true:=by kernel_rfl
theorem Q3r :Tryz.pinned.checked.prog.mayEnter=true:=by kernel_rfl
theorem Q3o :(Rows.varyDrawnUptoRow.lifted==Tryz.pinned.checked.prog.liftsFinal)=true:=by kernel_rfl
end Go.Proofs.YtldalepagmhnmaaGreatDoor
end
