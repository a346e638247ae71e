/- Parts of the walk: M65, M66. -/
import Derived.Test.YtagacielooaapaaGreatDoorZCB
import Derived.Test.YtagacielooaapaaGreatDoorZCC
import Derived.Test.YtagacielooaapaaGreatDoorZBM
import Derived.Test.YtagacielooaapaaGreatDoorZBV
import Derived.Test.YtagacielooaapaaGreatDoorZBN
set_option linter.unusedVariables false
set_option linter.unusedSimpArgs false
section
/-Coefficients of a solution:of parts of the boxes they are parts,and of small boxes nothing fails. No program in it. -/
namespace Go.Pv
def subL (k:Nat) (a b:List Ivl):Prop:= ∀j,j≤k→subI (a.getD j default) (b.getD j default)
def grI (a u s r k:Nat) (l:List Ivl):Prop:=k<l.length∧ ∀j,j≤k→luI (a*j+s) (u*j+r) (l.getD j default)
theorem grI.low {a u s r k j:Nat} {l:List Ivl} (h:grI a u s r k l) (hj:j≤k):grI a u s r j l:=⟨by have:=h.1;omega,fun i hi=>h.2 i (by omega)⟩
def subX (k:Nat) (xs ys:List (List Ivl)):Prop:=xs.length=ys.length∧ ∀i,i<xs.length→subL k (xs.getD i []) (ys.getD i [])
end Go.Pv
end
