/- Parts of the walk: M93. -/
import Derived.Test.YtofoadghajnglaaGreatDoorZBX
import Derived.Test.YtofoadghajnglaaGreatDoorZFF
set_option linter.unusedVariables false
set_option linter.unusedSimpArgs false
section
/-Matrices of exact values;minors. No program in it. -/
namespace Go.Pv
def RU (n:Nat) (f:Nat→Nat→Rat) (u:List (List Vl)):Prop:=u.length=n∧ ∀i,i<n→(u.getD i []).length=n∧ ∀j,j<n→RV (f i j) ((u.getD i []).getD j default)
def luF (n L U:Nat) (f:Nat→Nat→Rat):Prop:= ∀i j,i<n→j<n→luQ L U (f i j)
def but (n r:Nat):List Nat:=(List.range n).filter fun i=>i !=r
theorem Z2b (i r:Nat):but (i+1) r=but i r++if i=r then [] else [i]:=by
 unfold but
 rw [List.range_succ,List.filter_append]
 congr 1
 by_cases e:i=r
 · rw [if_pos e,e];simp
 · rw [if_neg e];simp [e]
def rowB (u:List (List Vl)) (i:Nat) (js:List Nat):List Vl:=js.map fun j=>(u.getD i []).getD j default
def minU (u:List (List Vl)) (n:Nat) (is:List Nat) (c:Nat):List (List Vl):=is.map fun i=>rowB u i (but n c)
theorem Z2c : ∀n,n≤4→ ∀r,r<n→but n r=(List.range (n-1)).map (J0m r):=by decide+kernel
theorem x0z {n r k:Nat} (h:k<n-1):J0m r k<n:=by unfold J0m;split<;>omega
theorem RU.minor {n:Nat} (h4:n≤4) {f:Nat→Nat→Rat} {u:List (List Vl)} (h:RU n f u) {r c:Nat} (hr:r<n) (hc:c<n):RU (n-1) (fun i k=>f (J0m r i) (J0m c k)) (minU u n (but n r) c):=by
 unfold minU rowB
 rw [Z2c n h4 r hr,Z2c n h4 c hc]
 refine⟨by simp,fun i hi=> ?_⟩
 have e:(((List.range (n-1)).map (J0m r)).map fun i=>((List.range (n-1)).map (J0m c)).map fun j=>(u.getD i []).getD j default).getD i []=((List.range (n-1)).map (J0m c)).map fun j=>(u.getD (J0m r i) []).getD j default:=by
  rw [List.getD_eq_getElem?_getD,List.getElem?_map,List.getElem?_map,List.getElem?_range hi];rfl
 rw [e]
 refine⟨by simp,fun j hj=> ?_⟩
 have e2:(((List.range (n-1)).map (J0m c)).map fun j=>(u.getD (J0m r i) []).getD j default).getD j default=(u.getD (J0m r i) []).getD (J0m c j) default:=by
  rw [List.getD_eq_getElem?_getD,List.getElem?_map,List.getElem?_map,List.getElem?_range hj];rfl
 rw [e2]
 exact(h.2 _ (x0z hi)).2 _ (x0z hj)
theorem luF.minor {n L U:Nat} {f:Nat→Nat→Rat} (h:luF n L U f) (r c:Nat):luF (n-1) L U (fun i k=>f (J0m r i) (J0m c k)):=fun i j hi hj=>h _ _ (x0z hi) (x0z hj)
theorem y2x {L U j:Nat} {x:Rat} (h:luQ L U x):luQ L U (sgnQ j x):=by
 unfold sgnQ
 split
 · exact w0x h
 · exact h
theorem k1k {n L U L' U':Nat} {f:Nat→Nat→Rat} {D:Nat→Rat} (hf:luF n L U f) (h0:0<n) (hD: ∀j,j<n→luQ L' U' (D j)): ∀m,m≤n→luQ (L+L') (U+U'+m) (detS f D m)
 | 0,_=>U0t _ _
 | m+1,hm=>by
  rw [detS]
  exact H0u (k1k hf h0 hD m (by omega)) ((y2x (q0v (hf 0 m h0 (by omega)) (hD m (by omega)))).up (show U+U'≤U+U'+m by omega))
theorem Q2d {L U:Nat} : ∀(n:Nat),n≤4→ ∀f,luF n L U f→luQ (n*L) (n*(U+4)) (detQ n f)
 | 0,_,f,_=>by
  rw [detQ]
  have:=k1l (z:=1) (n:=0) (by decide) (0*L)
  rw [show qM 1 0=1 by unfold qM;rw [w0p,Rat.mul_one];rfl] at this
  exact this.up (by omega)
 | n+1,h4,f,hf=>by
  rw [detQ]
  have hD: ∀j,j<n+1→luQ (n*L) (n*(U+4)) (detQ n fun i k=>f (i+1) (J0m j k)):=fun j hj=>Q2d n (by omega) _ fun i k hi hk=>hf _ _ (by omega) (x0z (n:=n+1) hk)
  refine(k1k hf (by omega) hD (n+1) (Nat.le_refl _)).mono (by rw [Nat.succ_mul];omega) (by rw [Nat.succ_mul];omega)
def H0e (q:List (List Nm)):List (List Vl):=q.map fun r=>r.map ofN
theorem RV.turn {x:Rat} {v:Vl} (h:RV x v):RV (-x) (J0r v):=⟨z0k h.1,by rw [V0x,h.2]⟩
theorem q3j {n L U:Nat} (h4:n≤4) {f:Nat→Nat→Rat} (h:luF n L U f) (i j:Nat):luQ (4*L) (4*(U+4)) (cofQ n f i j):=by
 unfold cofQ
 refine y2x ((Q2d (n-1) (by omega) _ (h.minor j i)).mono (Nat.mul_le_mul_right _ (by omega)) (Nat.mul_le_mul_right _ (by omega)))
end Go.Pv
end
