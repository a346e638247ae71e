/- Parts of the walk: T1. -/
import Derived.Test.YtldalepagmhnmaaGreatDoorZAB
import Derived.Test.YtldalepagmhnmaaGreatDoorRows
import Derived.Lib.LaidTab
import Derived.Deep.DeepHandedRow
set_option linter.unusedVariables false
set_option linter.unusedSimpArgs false
section
set_option maxRecDepth 100000
namespace Go.Pv
open Go Go.Proofs Go.ChangeShapes Go.WideShapes Go.ChangeAt Go.RowKit Go.Proofs.YtldalepagmhnmaaGreatDoor
def X4x (v:Value):Int:=
 match v with
 | .int .u8 n=>n
 | _=>0
def debZ :List Int:=deb.map X4x
theorem K3u :debZ.length=64:=by decide+kernel
theorem K3v :((List.range 64).all fun j=>match deb.getD j undef with | .int .u8 n=>n==debZ.getD j 0 | _=>false)=true:=by decide+kernel
theorem w3x (j:Nat)(h:j<64):deb.getD j undef= .int .u8 (debZ.getD j 0):=by have h1:=List.all_eq_true.1 K3v j (by simpa using h);generalize deb.getD j undef=v at h1⊢;split at h1;rename_i n;have e:n=debZ.getD j 0:=(by simpa using h1);rw[e];cases h1
theorem gTab :Tryz.prog.globalNamed "math/bits.deBruijn64tab" =some 0:=by kernel_rfl
theorem J3o :(Tryz.prog.globals[0]?).map (·.type)=some 273:=by kernel_rfl
theorem gUnd :Tryz.prog.underlying 273=some (.array 64 5):=by kernel_rfl
theorem K4d :Tryz.prog.underlying 5=some (.int .u8):=by kernel_rfl
theorem v3x :Tryz.prog.cellsOf 273=64:=by kernel_rfl
theorem q3r :Tryz.prog.cellsOf 5=1:=by kernel_rfl
theorem x2m :(Rows.laid_math_bits_deBruijn64tab:DataW Unit)=Lib.tabData .u8 debZ:=by rfl
theorem w2z {W:World}(h:laidMetH Tryz.prog [("math/bits.deBruijn64tab",Rows.laid_math_bits_deBruijn64tab)] W):TabOK W (allG W):=by
 have h2:laidMet Tryz.prog [("math/bits.deBruijn64tab",Lib.tabData .u8 debZ)] W:=by rw[<-x2m];exact h
 have hT:Lib.TabIs Tryz.prog W "math/bits.deBruijn64tab" .u8 debZ:=Lib.tabIs_of_head (rest:= []) gTab J3o gUnd K4d q3r v3x h2;have hc: ∀j,j<64->W.cell? ⟨0,j,none⟩=some (deb.getD j undef):=fun j hj=>by rw[w3x j hj];exact hT.cell gTab j (by rw[K3u];exact hj)
 intro t ht;have e:t=(0,deb):=by have:theTab= [(0,deb)]:=rfl;rw[this] at ht;exact List.mem_singleton.1 ht
 subst e;refine⟨?_,fun j hj=>hc j (by rw[Y1b] at hj;exact hj)⟩;show deb.length<=_;rw[Y1b];exact z1p (hc 63 oG)
noncomputable def H1n (os:Os):World:=
 { World.holding Tryz.prog os ⟨#[],#[],[]⟩ with heap:=(World.holding Tryz.prog os ⟨#[],#[],[]⟩).heap.modify 0 fun
  | .cells _ t frozen=> .cells deb.toArray t frozen
  | o=>o }
end Go.Pv
end
