/- Parts of the walk: N61, N62, N64, N65. -/
import Derived.Test.YtofoadghajnglaaGreatDoorZBH
import Derived.Test.YtofoadghajnglaaGreatDoorZBE
import Derived.Test.YtofoadghajnglaaGreatDoorZBI
import Derived.Test.YtofoadghajnglaaGreatDoorZM
import Derived.Test.YtofoadghajnglaaGreatDoorZY
import Derived.Test.YtofoadghajnglaaGreatDoorZK
import Derived.Test.YtofoadghajnglaaGreatDoorZAR
set_option linter.unusedVariables false
set_option linter.unusedSimpArgs false
section
set_option maxRecDepth 100000
namespace Go.Pv
open Go.Proofs
theorem H1z {α:Type} [Inhabited α] {l:List α} {P:α->Prop} (h: ∀x∈l,P x) {i:Nat} (hi:i<l.length):P (l.getD i default):=by rw [show l.getD i default=l[i] by simp [List.getD_eq_getElem?_getD,hi]];exact h _ (List.getElem_mem hi)
def okPoly (n M:Nat) (D:Int) (p:List Mn):Prop:=X0b p n=true/\p.length<=M/\ ∀m∈p,okMn n 12 (18+M) D m
def okField (n M:Nat) (D:Int) (f:List (List Mn)):Prop:=f.length=n/\ ∀p∈f,okPoly n M D p
theorem okPoly.at {n M:Nat} {D:Int} {p:List Mn} (h:okPoly n M D p) {j:Nat} (hj:j<p.length):okMn n 12 (18+M) D (p.getD j default):=H1z h.2.2 hj
theorem okField.at {n M:Nat} {D:Int} {f:List (List Mn)} (h:okField n M D f) {i:Nat} (hi:i<f.length):okPoly n M D (f.getD i []):=by rw [show f.getD i []=f[i] by simp [List.getD_eq_getElem?_getD,hi]];exact h.2 _ (List.getElem_mem hi)
end Go.Pv
end
