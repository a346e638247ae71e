/- Parts of the walk: M34. -/
import Derived.Test.YtofoadghajnglaaGreatDoorZY
import Derived.Test.YtofoadghajnglaaGreatDoorZL
set_option linter.unusedVariables false
set_option linter.unusedSimpArgs false
section
/-Small intervals:nothing that is reckoned of them fails. No program in it. -/
namespace Go.Pv
def smN (x:Nm):Prop:=Q0r x=true∧bdV 6 12 (ofN x)
def smI (a:Ivl):Prop:=Q0m a=true∧bdV 6 12 (ofN a.lo)∧bdV 6 12 (ofN a.hi)
theorem k1c {n k:Nat} :bdV n k (ofN default):=by
 refine⟨?_,?_,?_⟩
 · show Q0g 0≤n;rw [J0c];omega
 · show -(k:Int)≤0;omega
 · show(0:Int)≤k;omega
theorem U2r {neg:Bool} {w:List UInt64} {e:Int} (hw:Q0g (valW w)≤6) (h1: -6≤e) (h2:e≤6):smN (Q1u neg w e).1:=by
 refine⟨Y1i _ _ _,?_⟩
 unfold Q1u
 split
 · exact k1c
 · split
   · exact k1c
   · have hb:=z1w (neg:=neg) (m:=valW w) (e:=e) (n:=6) (k:=6) hw (by omega) (by omega)
     have hf:=J2d hb (by omega) (by omega)
     have hc:canV (oddV neg (valW w) e):=by
      rename_i h0 _
      exact k0t _ _ _
     rw [(z0h hc hf).1]
     exact hb
theorem Z2a {x:Nm} (h:smN x):smI ⟨x,x⟩:=⟨x0m h.1,h.2,h.2⟩
theorem U2s {x y:Nm} (hx:smN x) (hy:smN y):smI (betw x y):=by
 refine⟨y1x hx.1 hy.1,?_⟩
 unfold betw
 split
 · exact⟨hy.2,hx.2⟩
 · exact⟨hx.2,hy.2⟩
end Go.Pv
end
