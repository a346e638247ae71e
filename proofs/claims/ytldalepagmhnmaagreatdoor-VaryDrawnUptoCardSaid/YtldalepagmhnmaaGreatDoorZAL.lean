/- Parts of the walk: M34, M35, M36. -/
import Derived.Test.YtldalepagmhnmaaGreatDoorZY
set_option linter.unusedVariables false
set_option linter.unusedSimpArgs false
section
namespace Go.Pv
def smN (x:Nm):Prop:=Q0r x=true/\bdV 6 12 (ofN x)
def smI (a:Ivl):Prop:=Q0m a=true/\bdV 6 12 (ofN a.lo)/\bdV 6 12 (ofN a.hi)
theorem Q2l {n k:Nat} :bdV n k (ofN default):=by refine⟨?_,?_,?_⟩;show Q0g 0<=n;rw[X0n];omega;show -(k:Int)<=0;omega;show(0:Int)<=k;omega
theorem x2p {neg:Bool}{w:List UInt64}{e:Int}(hw:Q0g (valW w)<=6)(h1: -6<=e)(h2:e<=6):smN (J1u neg w e).1:=by
 refine⟨q1b _ _ _,?_⟩;unfold J1u;split;exact Q2l;split;exact Q2l;have hb:=V1b (neg:=neg) (m:=valW w) (e:=e) (n:=6) (k:=6) hw (by omega) (by omega);have hf:=q1v hb (by omega) (by omega);have hc:canV (oddV neg (valW w) e):=by rename_i h0 _;exact y0e _ _ _
 rw[(q0w hc hf).1];exact hb
theorem V2o {x:Nm}(h:smN x):smI ⟨x,x⟩:=⟨q0t h.1,h.2,h.2⟩
theorem x2q {x y:Nm}(hx:smN x)(hy:smN y):smI (betw x y):=by refine⟨K2h hx.1 hy.1,?_⟩;unfold betw;split;exact⟨hy.2,hx.2⟩;exact⟨hx.2,hy.2⟩
theorem w2l {α:Type}(l:List α)(i j:Nat)(x d:α)(hj:j<l.length):(l.set i x).getD j d=if i=j then x else l.getD j d:=by simp only[q_a,List.getElem?_set];split;rename_i h;subst h;simp[hj];rfl
end Go.Pv
end
