/- Parts of the walk: H1, H2, H3, H10. -/
import Derived.Test.YtofoadghajnglaaGreatDoorQH
import Derived.Test.YtofoadghajnglaaGreatDoorQK
set_option linter.unusedVariables false
set_option linter.unusedSimpArgs false
section
/-The deck:Of,Next,N,Yes. -/
set_option maxRecDepth 100000
namespace Go.Pv
open Go.Proofs
def nx (l:List UInt64) (i n:Nat):Nat:=(l.getD i 0).toNat % n
end Go.Pv
end
section
/-Numbers,intervals and boxes out of the deck. -/
set_option maxRecDepth 100000
namespace Go.Pv
open Go.Proofs
def absN (x:Nm):Nm:=if Q0i x=true then⟨false,x.exp,x.w⟩ else default
theorem Q1j (x:Nm):Q0i (absN x)=true:=by
 unfold absN
 split
 · rename_i h
   unfold Q0i at h⊢
   simp only at h⊢
   split
   · rename_i hw;rw [if_pos hw] at h;simp at h;simp [h]
   · rename_i hw;rw [if_neg hw] at h;exact h
 · exact K0s
end Go.Pv
end
