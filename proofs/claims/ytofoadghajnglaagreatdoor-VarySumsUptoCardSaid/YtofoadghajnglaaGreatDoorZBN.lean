/- Parts of the walk: N61, N62, N64, N65. -/
import Derived.Test.YtofoadghajnglaaGreatDoorZBG
import Derived.Test.YtofoadghajnglaaGreatDoorZBE
import Derived.Test.YtofoadghajnglaaGreatDoorZBI
import Derived.Test.YtofoadghajnglaaGreatDoorZAM
import Derived.Test.YtofoadghajnglaaGreatDoorZAR
set_option linter.unusedVariables false
set_option linter.unusedSimpArgs false
section
/-The document's Make;the deck's powers,monomials,polynomials,fields. -/
set_option maxRecDepth 100000
namespace Go.Pv
open Go.Proofs
theorem U1l {α:Type} [Inhabited α] {l:List α} {P:α→Prop} (h: ∀x∈l,P x) {i:Nat} (hi:i<l.length):P (l.getD i default):=by
 rw [show l.getD i default=l[i] by simp [List.getD_eq_getElem?_getD,hi]]
 exact h _ (List.getElem_mem hi)
def okPoly (n M:Nat) (D:Int) (p:List Mn):Prop:=J0d p n=true∧p.length≤M∧ ∀m∈p,okMn n 12 (18+M) D m
def okField (n M:Nat) (D:Int) (f:List (List Mn)):Prop:=f.length=n∧ ∀p∈f,okPoly n M D p
end Go.Pv
end
section
/-Layer 11:FieldDrawn,FieldHolds. -/
set_option maxRecDepth 100000
namespace Go.Pv
open Go.Proofs
theorem okPoly.at {n M:Nat} {D:Int} {p:List Mn} (h:okPoly n M D p) {j:Nat} (hj:j<p.length):okMn n 12 (18+M) D (p.getD j default):=U1l h.2.2 hj
theorem okField.at {n M:Nat} {D:Int} {f:List (List Mn)} (h:okField n M D f) {i:Nat} (hi:i<f.length):okPoly n M D (f.getD i []):=by
 rw [show f.getD i []=f[i] by simp [List.getD_eq_getElem?_getD,hi]]
 exact h.2 _ (List.getElem_mem hi)
end Go.Pv
end
