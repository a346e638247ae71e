/- Walk. -/
import Derived.Test.YtfoiagbimnghjaaGreatDoorZAB
import Derived.Test.YtfoiagbimnghjaaGreatDoorRows
import Derived.Lib.LaidTab
import Derived.Deep.DeepHandedRow
set_option linter.all false
section
set_option maxRecDepth 100000
namespace Go.Pv
open Go Go.Proofs Go.ChangeShapes Go.WideShapes Go.ChangeAt Go.RowKit Go.Proofs.YtfoiagbimnghjaaGreatDoor
def H0x (v:Value):Int:=
 match v with
 | .int .u8 n=>n
 | _=>0
def debZ :List Int:=deb.map H0x
theorem k1j :debZ.length=64:=by decide+kernel
theorem k1k :((List.range 64).all fun j=>match deb.getD j undef with | .int .u8 n=>n==debZ.getD j 0 | _=>false)=true:=by decide+kernel
theorem k1h (j:Nat)(h:j<64):deb.getD j undef= .int .u8 (debZ.getD j 0):=by have h1:=List.all_eq_true.1 k1k j (by simpa using h);generalize deb.getD j undef=v at h1⊢;split at h1;rename_i n;have e:n=debZ.getD j 0:=(by simpa using h1);rw[e];cases h1
theorem X0r :Tryz.prog.globalNamed "math/bits.deBruijn64tab" =some 0:=by kernel_rfl
theorem H1k :(Tryz.prog.globals[0]?).map (·.type)=some 280:=by kernel_rfl
theorem H1j :Tryz.prog.underlying 280=some (.array 64 5):=by kernel_rfl
theorem H1i :Tryz.prog.underlying 5=some (.int .u8):=by kernel_rfl
theorem H1m :Tryz.prog.cellsOf 280=64:=by kernel_rfl
theorem H1l :Tryz.prog.cellsOf 5=1:=by kernel_rfl
theorem Y1k :(Rows.laid_math_bits_deBruijn64tab:DataW Unit)=Lib.tabData .u8 debZ:=by rfl
theorem z0k {W:Lw}(h:laidMetH Tryz.prog [("math/bits.deBruijn64tab",Rows.laid_math_bits_deBruijn64tab)] W):TabOK W (Jk W):=by
 have h2:laidMet Tryz.prog [("math/bits.deBruijn64tab",Lib.tabData .u8 debZ)] W:=by rw[<-Y1k];exact h
 have hT:Lib.TabIs Tryz.prog W "math/bits.deBruijn64tab" .u8 debZ:=Lib.tabIs_of_head (rest:= []) X0r H1k H1j H1i H1l H1m h2;have hc: ∀j,j<64->W.cell? ⟨0,j,none⟩=some (deb.getD j undef):=fun j hj=>by rw[k1h j hj];exact hT.cell X0r j (by rw[k1j];exact hj)
 intro t ht;have e:t=(0,deb):=by have:theTab= [(0,deb)]:=rfl;rw[this] at ht;exact C0.1 ht
 subst e;refine⟨?_,fun j hj=>hc j (by rw[IN] at hj;exact hj)⟩;show deb.length<=_;rw[IN];exact yo (hc 63 oG)
noncomputable def j6 (os:Os):World:=
 { World.holding Tryz.prog os ⟨#[],#[],[]⟩ with heap:=(World.holding Tryz.prog os ⟨#[],#[],[]⟩).heap.modify 0 fun
  | .cells _ t frozen=> .cells deb.toArray t frozen
  | o=>o }
end Go.Pv
end
