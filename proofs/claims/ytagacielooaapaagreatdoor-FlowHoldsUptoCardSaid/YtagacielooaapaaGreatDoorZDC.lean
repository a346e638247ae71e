/- Parts of the walk: N109. -/
import Derived.Test.YtagacielooaapaaGreatDoorZBN
import Derived.Test.YtagacielooaapaaGreatDoorZBV
import Derived.Test.YtagacielooaapaaGreatDoorZCG
set_option linter.unusedVariables false
set_option linter.unusedSimpArgs false
section
/-Coefficients of drawn fields from small boxes. -/
set_option maxRecDepth 100000
namespace Go.Pv
open Go.Proofs
theorem k1a {f:List (List Mn)} {x:List Ivl} {p:Int} {n k:Nat} (hf:okField n 3 3 f) (hn1:1≤n) (hn4:n≤4) (hl:x.length=n) (hx: ∀j,j<n→luI 62 105 (x.getD j default)) (hp:Z0j p=true) (hk:k≤5):
 z0n f x k p=Z0r f x p k∧(z0n f x k p).2=0∧(z0n f x k p).1.length=n∧ ∀i,i<n→((z0n f x k p).1.getD i []).length=k+1∧(∀y∈(z0n f x k p).1.getD i [],wI y)∧ ∀j,j≤k→Q0j (((z0n f x k p).1.getD i []).getD j default)=true:=by
 have hfl:=hf.1
 have rx:rightB x=true:=K0w (fun j hj=>(hx j (by omega)).1) (by omega) (by omega)
 have rf:=hf.right hn1 hn4
 have e:z0n f x k p=Z0r f x p k:=by
  unfold z0n
  rw [if_pos ⟨rf,rx,by omega,by omega,by omega,hp⟩,Int.toNat_natCast]
 have wx: ∀a∈x,wI a:=fun a ha=>by
  obtain⟨i,hi,rfl⟩:=List.mem_iff_getElem.1 ha
  have:=(hx i (by omega)).1
  rw [show x.getD i default=x[i] by simp [List.getD_eq_getElem?_getD,hi]] at this
  exact k0p this
 obtain⟨s0,s1⟩:=y1r hf (by omega) hn1 hn4 hl hx hp k hk
 obtain⟨a1,a2⟩:=v0j (f:=f) (p:=p) (by omega) wx k s0
 rw [e]
 exact⟨rfl,s0,by omega,fun i hi=>⟨(a2 i (by omega)).1,(a2 i (by omega)).2,fun j hj=>((s1 i hi).2 j hj).1⟩⟩
end Go.Pv
end
