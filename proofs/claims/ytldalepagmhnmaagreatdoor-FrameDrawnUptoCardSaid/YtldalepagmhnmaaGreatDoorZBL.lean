/- Parts of the walk: T2. -/
import Derived.Test.YtldalepagmhnmaaGreatDoorZAJ
import Derived.Test.YtldalepagmhnmaaGreatDoorCards
set_option linter.unusedVariables false
set_option linter.unusedSimpArgs false
section
set_option maxRecDepth 100000
namespace Go.Proofs.YtldalepagmhnmaaGreatDoor
open Go.Pv Go.ChangeShapes Go.WideShapes Go.ChangeAt Go.RowKit
theorem J0u {a b:Bool}(ha:a=true)(hb:b=true):(a&&b)=true:=by rw[ha,hb];rfl
theorem Y2m :laidOutB Tryz.pinned.checked.prog=true:=by kernel_rfl
theorem k1q :mapsRowed Tryz.pinned.checked.prog=true:=by kernel_rfl
theorem X3t :(Tryz.pinned.checked.prog.stops== [])=true:=by kernel_rfl
theorem X3v :(Tryz.pinned.checked.prog.stopKnobs== [])=true:=by kernel_rfl
theorem k1p :(Rows.varyDrawnUptoRow.plainKeys==Tryz.pinned.checked.prog.plainKeys)=true:=by kernel_rfl
theorem X3w :Tryz.pinned.checked.prog.stopsHeard=true:=by kernel_rfl
theorem X3x :Tryz.pinned.checked.prog.mayEnter=true:=by kernel_rfl
theorem X3u :(Rows.varyDrawnUptoRow.lifted==Tryz.pinned.checked.prog.liftsFinal)=true:=by kernel_rfl
end Go.Proofs.YtldalepagmhnmaaGreatDoor
end
