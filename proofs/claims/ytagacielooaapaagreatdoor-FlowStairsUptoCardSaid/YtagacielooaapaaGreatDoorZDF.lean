/- Parts of the walk: M72. -/
import Derived.Test.YtagacielooaapaaGreatDoorZDB
import Derived.Test.YtagacielooaapaaGreatDoorZBN
set_option linter.unusedVariables false
set_option linter.unusedSimpArgs false
section
/-Drawn fields:what their derivatives need. No program in it. -/
namespace Go.Pv
theorem Q3x {ks:List Int} (h:J0v ks=true): ∀i,i≤ks.length→(sumE ks i:Int)=(ks.take i).sum
 | 0,_=>by simp [sumE]
 | i+1,hi=>by
  have ih:=Q3x h i (by omega)
  have hk:=K0l h i (by omega)
  have e:(ks.take (i+1)).sum=(ks.take i).sum+ks.getD i 0:=by
   rw [List.take_succ_eq_append_getElem (by omega),List.sum_append]
   simp [List.getD_eq_getElem?_getD,(show i<ks.length by omega)]
  rw [e,←ih,sumE]
  omega
theorem okField.der {n M:Nat} {D:Nat} {f:List (List Mn)} (h:okField n M D f): ∀i,i<f.length→ ∀j,j<(f.getD i []).length→Q0i ((f.getD i []).getD j default).c=true∧luQ 12 (18+M) (qN ((f.getD i []).getD j default).c)∧J0v ((f.getD i []).getD j default).ks=true∧((f.getD i []).getD j default).ks.length=f.length∧sumE ((f.getD i []).getD j default).ks f.length≤D:=fun i hi j hj=>by
 obtain⟨a1,a2,a3,a4,a5,a6⟩:=(h.at hi).at hj
 have hfl:=h.1
 refine⟨a4,a6,a2,by omega,?_⟩
 have h1:=Q3x a2 f.length (by omega)
 rw [List.take_of_length_le (by omega)] at h1
 omega
theorem w2r (k:Nat):(0:Rat)<(fctN k:Rat):=by
 have:=v1b k
 exact_mod_cast this
theorem X2j (X:Nat→Nat→Rat) (i:Nat):j0d X i 0=X i 0:=by
 unfold j0d
 show X i 0/((1:Nat):Rat)=X i 0
 grind
end Go.Pv
end
