/- Walk. -/
import Derived.Test.YtpfladficeildaaGreatDoorZAB
import Derived.Test.YtpfladficeildaaGreatDoorRows
import Derived.Lib.LaidTab
import Derived.Deep.DeepHandedRow
set_option linter.all false
set_option maxHeartbeats 160000000
section
set_option maxRecDepth 100000
namespace Go.Pv
open Go Go.Proofs Go.ChangeShapes Go.WideShapes Go.ChangeAt Go.RowKit Go.Proofs.YtpfladficeildaaGreatDoor
def q0h (v:Value):Int:=
 match v with
 | .int .u8 n=>n
 | _=>0
def debZ :List Int:=deb.map q0h
theorem k1o :debZ.length=64:=by decide+kernel
theorem k1p :((List.range 64).all fun j=>match deb.getD j undef with | .int .u8 n=>n==debZ.getD j 0 | _=>false)=true:=by decide+kernel
theorem k1m (j:Nat)(h:j<64):deb.getD j undef= .int .u8 (debZ.getD j 0):=by have h1:=List.all_eq_true.1 k1p j (by simpa using h);generalize deb.getD j undef=v at h1⊢;split at h1;rename_i n;have e:n=debZ.getD j 0:=(by simpa using h1);rw[e];cases h1
theorem K0c :Tryz.prog.globalNamed "math/bits.deBruijn64tab" =some 0:=by kernel_rfl
theorem q1k :(Tryz.prog.globals[0]?).map (·.type)=some 251:=by kernel_rfl
theorem q1j :Tryz.prog.underlying 251=some (.array 64 5):=by kernel_rfl
theorem q1i :Tryz.prog.underlying 5=some (.int .u8):=by kernel_rfl
theorem q1m :Tryz.prog.cellsOf 251=64:=by kernel_rfl
theorem q1l :Tryz.prog.cellsOf 5=1:=by kernel_rfl
theorem U1o :(Rows.laid_math_bits_deBruijn64tab:DataW Unit)=Lib.tabData .u8 debZ:=by rfl
theorem z0x {W:Lw}(h:laidMetH Tryz.prog [("math/bits.deBruijn64tab",Rows.laid_math_bits_deBruijn64tab)] W):TabOK W (XH W):=by
 have h2:laidMet Tryz.prog [("math/bits.deBruijn64tab",Lib.tabData .u8 debZ)] W:=by rw[<-U1o];exact h
 have hT:Lib.TabIs Tryz.prog W "math/bits.deBruijn64tab" .u8 debZ:=Lib.tabIs_of_head (rest:= []) K0c q1k q1j q1i q1l q1m h2;have hc: ∀j,j<64->W.cell? ⟨0,j,none⟩=some (deb.getD j undef):=fun j hj=>by rw[k1m j hj];exact hT.cell K0c j (by rw[k1o];exact hj)
 intro t ht;have e:t=(0,deb):=by have:theTab= [(0,deb)]:=rfl;rw[this] at ht;exact C0.1 ht
 subst e;refine⟨?_,fun j hj=>hc j (by rw[IT] at hj;exact hj)⟩;show deb.length<=_;rw[IT];exact yu (hc 63 oG)
noncomputable def j5 (os:Os):World:=
 { World.holding Tryz.prog os ⟨#[],#[],[]⟩ with heap:=(World.holding Tryz.prog os ⟨#[],#[],[]⟩).heap.modify 0 fun
  | .cells _ t frozen=> .cells deb.toArray t frozen
  | o=>o }
end Go.Pv
end
