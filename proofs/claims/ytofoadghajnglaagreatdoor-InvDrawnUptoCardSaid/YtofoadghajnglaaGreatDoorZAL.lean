/- Parts of the walk: M34, M35, M36. -/
import Derived.Test.YtofoadghajnglaaGreatDoorZY
import Derived.Test.YtofoadghajnglaaGreatDoorZK
set_option linter.unusedVariables false
set_option linter.unusedSimpArgs false
section
/-Small intervals:nothing that is reckoned of them fails. No program in it. -/
namespace Go.Pv
def smN (x:Nm):Prop:=Q0j x=true∧bdV 6 12 (ofN x)
def smI (a:Ivl):Prop:=Q0w a=true∧bdV 6 12 (ofN a.lo)∧bdV 6 12 (ofN a.hi)
theorem w1f {n k:Nat} :bdV n k (ofN default):=by
 refine⟨?_,?_,?_⟩
 · show Q0h 0≤n;rw [X0g];omega
 · show -(k:Int)≤0;omega
 · show(0:Int)≤k;omega
theorem U2s {neg:Bool} {w:List UInt64} {e:Int} (hw:Q0h (valW w)≤6) (h1: -6≤e) (h2:e≤6):smN (q0j neg w e).1:=by
 refine⟨K0a _ _ _,?_⟩
 unfold q0j
 split
 · exact w1f
 · split
   · exact w1f
   · have hb:=Y1y (neg:=neg) (m:=valW w) (e:=e) (n:=6) (k:=6) hw (by omega) (by omega)
     have hf:=J2w hb (by omega) (by omega)
     have hc:canV (oddV neg (valW w) e):=by
      rename_i h0 _
      exact v0y _ _ _
     rw [(H0q hc hf).1]
     exact hb
end Go.Pv
end
section
/-The halves of a small box. No program in it. -/
namespace Go.Pv
theorem z2i {α:Type} (l:List α) (i j:Nat) (x d:α) (hj:j<l.length):(l.set i x).getD j d=if i=j then x else l.getD j d:=by
 simp only [List.getD_eq_getElem?_getD,List.getElem?_set]
 split
 · rename_i h;subst h;simp [hj]
 · rfl
end Go.Pv
end
