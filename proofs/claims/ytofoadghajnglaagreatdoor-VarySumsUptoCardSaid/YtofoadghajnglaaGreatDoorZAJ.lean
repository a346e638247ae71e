/- Parts of the walk: T1. -/
import Derived.Test.YtofoadghajnglaaGreatDoorZL
import Derived.Test.YtofoadghajnglaaGreatDoorZAB
import Derived.Test.YtofoadghajnglaaGreatDoorRows
import Derived.Lib.LaidTab
import Derived.Deep.DeepHandedRow
set_option linter.unusedVariables false
set_option linter.unusedSimpArgs false
section
/-What the row's list gives:the table of bits.TrailingZeros64 stands. A world for the witness. -/
set_option maxRecDepth 100000
namespace Go.Pv
open Go Go.Proofs Go.ChangeShapes Go.WideShapes Go.ChangeAt Go.RowKit Go.Proofs.YtofoadghajnglaaGreatDoor
def k3h (v:Value):Int:=
 match v with
 | .int .u8 n=>n
 | _=>0
def debZ :List Int:=deb.map k3h
theorem x2g :debZ.length=64:=by decide+kernel
theorem x2h :((List.range 64).all fun j=>match deb.getD j undef with | .int .u8 n=>n==debZ.getD j 0 | _=>false)=true:=by decide+kernel
theorem U3w (j:Nat) (h:j<64):deb.getD j undef= .int .u8 (debZ.getD j 0):=by
 have h1:=List.all_eq_true.1 x2h j (by simpa using h)
 generalize deb.getD j undef=v at h1⊢
 split at h1
 · rename_i n
   have e:n=debZ.getD j 0:=by simpa using h1
   rw [e]
 · cases h1
theorem gTab :Tryz.prog.globalNamed "math/bits.deBruijn64tab" =some 0:=by kernel_rfl
theorem z2l :(Tryz.prog.globals[0]?).map (·.type)=some 231:=by kernel_rfl
theorem gUnd :Tryz.prog.underlying 231=some (.array 64 5):=by kernel_rfl
theorem v3w :Tryz.prog.underlying 5=some (.int .u8):=by kernel_rfl
theorem Y3a :Tryz.prog.cellsOf 231=64:=by kernel_rfl
theorem Q3k :Tryz.prog.cellsOf 5=1:=by kernel_rfl
theorem K2h :(Rows.laid_math_bits_deBruijn64tab:DataW Unit)=Lib.tabData .u8 debZ:=by rfl
theorem U2o {W:World} (h:laidMetH Tryz.prog [("math/bits.deBruijn64tab",Rows.laid_math_bits_deBruijn64tab)] W):TabOK W (allG W):=by
 have h2:laidMet Tryz.prog [("math/bits.deBruijn64tab",Lib.tabData .u8 debZ)] W:=by rw [←K2h];exact h
 have hT:Lib.TabIs Tryz.prog W "math/bits.deBruijn64tab" .u8 debZ:=Lib.tabIs_of_head (rest:= []) gTab z2l gUnd v3w Q3k Y3a h2
 have hc: ∀j,j<64→W.cell? ⟨0,j,none⟩=some (deb.getD j undef):=fun j hj=>by
  rw [U3w j hj];exact hT.cell gTab j (by rw [x2g];exact hj)
 intro t ht
 have e:t=(0,deb):=by
  have:theTab= [(0,deb)]:=rfl
  rw [this] at ht
  exact List.mem_singleton.1 ht
 subst e
 refine⟨?_,fun j hj=>hc j (by rw [Z1p] at hj;exact hj)⟩
 show deb.length≤_
 rw [Z1p]
 exact V1z (hc 63 (by omega))
noncomputable def K1t (os:Os):World:=
 { World.holding Tryz.prog os ⟨#[],#[],[]⟩ with heap:=(World.holding Tryz.prog os ⟨#[],#[],[]⟩).heap.modify 0 fun
  | .cells _ t frozen=> .cells deb.toArray t frozen
  | o=>o }
end Go.Pv
end
