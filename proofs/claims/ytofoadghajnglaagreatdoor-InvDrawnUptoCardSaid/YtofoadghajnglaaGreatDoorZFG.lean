/- Parts of the walk: M89. -/
import Derived.Test.YtofoadghajnglaaGreatDoorZFF
import Derived.Test.YtofoadghajnglaaGreatDoorZAR
set_option linter.unusedVariables false
set_option linter.unusedSimpArgs false
section
/-Of small matrices:what is answered,by the matrix,does not fail and has the matrix of ones. No program in it. -/
namespace Go.Pv
def bdR (n S:Nat) (l:List Nm):Prop:= ∀j,j<n→luQ S S (qN (l.getD j default))
def bdQ (n S:Nat) (a:List (List Nm)):Prop:= ∀i,i<n→bdR n S (a.getD i [])
theorem bdR.mono {n S T:Nat} {l:List Nm} (h:bdR n S l) (hl:S≤T):bdR n T l:=fun j hj=>(h j hj).mono hl hl
theorem bdQ.mono {n S T:Nat} {a:List (List Nm)} (h:bdQ n S a) (hl:S≤T):bdQ n T a:=fun i hi=>(h i hi).mono hl
theorem z0f {a:List (List Nm)} {i:Nat} {r:List Nm} (hi:i<a.length) (k:Nat):(a.set i r).getD k []=if k=i then r else a.getD k []:=by
 rw [J0k]
 by_cases e:k=i
 · subst e;rw [if_pos ⟨rfl,hi⟩,if_pos rfl]
 · rw [if_neg fun h=>e h.1.symm,if_neg e]
def bdI (n S k i:Nat) (a:List (List Nm)):Prop:=bdR n (2*S+260) (a.getD k [])∧ ∀j,j<n→j≠k→if j<i then bdR n (3*S+270) (a.getD j []) else bdR n S (a.getD j [])
theorem bdI.next {n S k i:Nat} {a:List (List Nm)} (h:bdI n S k i a) (hk:k<n) (hn:a.length=n) (hi:i<n) (hne:i≠k) {r:List Nm} (hr:bdR n (3*S+270) r):bdI n S k (i+1) (a.set i r):=by
 refine⟨?_,fun j hj hjk=> ?_⟩
 · rw [z0f (by omega),if_neg (fun e=>hne e.symm)];exact h.1
 · rw [z0f (by omega)]
   have:=h.2 j hj hjk
   by_cases e:j=i
   · rw [if_pos (by omega),if_pos e];exact hr
   · rw [if_neg e]
     by_cases e2:j<i
     · rw [if_pos (by omega)];rwa [if_pos e2] at this
     · rw [if_neg (by omega)];rwa [if_neg e2] at this
end Go.Pv
end
