/- Parts of the walk: T1. -/
import Derived.Test.YthlnpmkcmbohaaaGreatDoorZAB
import Derived.Test.YthlnpmkcmbohaaaGreatDoorRows
import Derived.Lib.LaidTab
import Derived.Deep.DeepHandedRow
set_option linter.unusedVariables false
set_option linter.unusedSimpArgs false
section
set_option maxRecDepth 100000
namespace Go.Pv
open Go Go.Proofs Go.ChangeShapes Go.WideShapes Go.ChangeAt Go.RowKit Go.Proofs.YthlnpmkcmbohaaaGreatDoor
def K2c (v:Value):Int:=
 match v with
 | .int .u8 n=>n
 | _=>0
def debZ :List Int:=deb.map K2c
theorem V1b :debZ.length=64:=by decide+kernel
theorem V1c :((List.range 64).all fun j=>match deb.getD j undef with | .int .u8 n=>n==debZ.getD j 0 | _=>false)=true:=by decide+kernel
theorem y1p (j:Nat)(h:j<64):deb.getD j undef= .int .u8 (debZ.getD j 0):=by have h1:=List.all_eq_true.1 V1c j (by simpa using h);generalize deb.getD j undef=v at h1⊢;split at h1;rename_i n;have e:n=debZ.getD j 0:=(by simpa using h1);rw[e];cases h1
theorem U2u :Tryz.prog.globalNamed "math/bits.deBruijn64tab" =some 0:=by kernel_rfl
theorem J1y :(Tryz.prog.globals[0]?).map (·.type)=some 191:=by kernel_rfl
theorem H2c :Tryz.prog.underlying 191=some (.array 64 5):=by kernel_rfl
theorem V2n :Tryz.prog.underlying 5=some (.int .u8):=by kernel_rfl
theorem w1o :Tryz.prog.cellsOf 191=64:=by kernel_rfl
theorem z1b :Tryz.prog.cellsOf 5=1:=by kernel_rfl
theorem x0g :(Rows.laid_math_bits_deBruijn64tab:DataW Unit)=Lib.tabData .u8 debZ:=by rfl
theorem xQ {W:World}(h:laidMetH Tryz.prog [("math/bits.deBruijn64tab",Rows.laid_math_bits_deBruijn64tab)] W):TabOK W (zy W):=by
 have h2:laidMet Tryz.prog [("math/bits.deBruijn64tab",Lib.tabData .u8 debZ)] W:=by rw[<-x0g];exact h
 have hT:Lib.TabIs Tryz.prog W "math/bits.deBruijn64tab" .u8 debZ:=Lib.tabIs_of_head (rest:= []) U2u J1y H2c V2n z1b w1o h2;have hc: ∀j,j<64->W.cell? ⟨0,j,none⟩=some (deb.getD j undef):=fun j hj=>by rw[y1p j hj];exact hT.cell U2u j (by rw[V1b];exact hj)
 intro t ht;have e:t=(0,deb):=by have:theTab= [(0,deb)]:=rfl;rw[this] at ht;exact C0.1 ht
 subst e;refine⟨?_,fun j hj=>hc j (by rw[qO] at hj;exact hj)⟩;show deb.length<=_;rw[qO];exact jU (hc 63 oG)
noncomputable def Kj (os:Os):World:=
 { World.holding Tryz.prog os ⟨#[],#[],[]⟩ with heap:=(World.holding Tryz.prog os ⟨#[],#[],[]⟩).heap.modify 0 fun
  | .cells _ t frozen=> .cells deb.toArray t frozen
  | o=>o }
end Go.Pv
end
