/- Parts of the walk: M34, M35. -/
import Derived.Test.YtagacielooaapaaGreatDoorZY
import Derived.Test.YtagacielooaapaaGreatDoorZL
set_option linter.unusedVariables false
set_option linter.unusedSimpArgs false
section
/-Small intervals:nothing that is reckoned of them fails. No program in it. -/
namespace Go.Pv
def smN (x:Nm):Prop:=Q0i x=true∧bdV 6 12 (ofN x)
def smI (a:Ivl):Prop:=Q0j a=true∧bdV 6 12 (ofN a.lo)∧bdV 6 12 (ofN a.hi)
theorem Z2e {n k:Nat} :bdV n k (ofN default):=by
 refine⟨?_,?_,?_⟩
 · show Q0g 0≤n;rw [X0i];omega
 · show -(k:Int)≤0;omega
 · show(0:Int)≤k;omega
theorem x2x {neg:Bool} {w:List UInt64} {e:Int} (hw:Q0g (valW w)≤6) (h1: -6≤e) (h2:e≤6):smN (J1e neg w e).1:=by
 refine⟨H1c _ _ _,?_⟩
 unfold J1e
 split
 · exact Z2e
 · split
   · exact Z2e
   · have hb:=v1x (neg:=neg) (m:=valW w) (e:=e) (n:=6) (k:=6) hw (by omega) (by omega)
     have hf:=q1e hb (by omega) (by omega)
     have hc:canV (oddV neg (valW w) e):=by
      rename_i h0 _
      exact Y0x _ _ _
     rw [(J0g hc hf).1]
     exact hb
theorem W2e {x:Nm} (h:smN x):smI ⟨x,x⟩:=⟨q0g h.1,h.2,h.2⟩
theorem x2y {x y:Nm} (hx:smN x) (hy:smN y):smI (betw x y):=by
 refine⟨K2y hx.1 hy.1,?_⟩
 unfold betw
 split
 · exact⟨hy.2,hx.2⟩
 · exact⟨hx.2,hy.2⟩
theorem Z3o :p2 2=4:=by
 have:=y1j 2
 rw [←show((2:Nat):Int)=2 from rfl,←this];rfl
end Go.Pv
end
section
/-The halves of a small box. No program in it. -/
namespace Go.Pv
theorem Q2l {α:Type} (l:List α) (i j:Nat) (x d:α) (hj:j<l.length):(l.set i x).getD j d=if i=j then x else l.getD j d:=by
 simp only [List.getD_eq_getElem?_getD,List.getElem?_set]
 split
 · rename_i h;subst h;simp [hj]
 · rfl
structure Cut (b:List Ivl) (i:Nat) (m:Nm):Prop where
 right:rightB b=true
 lt:i<b.length
 num:Q0i m=true
 lo:qN (b.getD i default).lo≤qN m
 hi:qN m≤qN (b.getD i default).hi
def loB (b:List Ivl) (i:Nat) (m:Nm):List Ivl:=b.set i ⟨(b.getD i default).lo,m⟩
def hiB (b:List Ivl) (i:Nat) (m:Nm):List Ivl:=b.set i ⟨m,(b.getD i default).hi⟩
theorem Cut.loI {b i m} (h:Cut b i m):Q0j ⟨(b.getD i default).lo,m⟩=true:=W0a (Q0x (w0u h.right i h.lt)).1 h.num (cmpN_le.2 h.lo)
theorem Cut.hiI {b i m} (h:Cut b i m):Q0j ⟨m,(b.getD i default).hi⟩=true:=W0a h.num (Q0x (w0u h.right i h.lt)).2.1 (cmpN_le.2 h.hi)
theorem X2y {b:List Ivl} {i:Nat} {x:Ivl} (h:rightB b=true) (hx:Q0j x=true):rightB (b.set i x)=true:=by
 have hl:=w0t h
 refine V0a (fun j hj=> ?_) (by rw [List.length_set];omega) (by rw [List.length_set];omega)
 rw [List.length_set] at hj
 rw [Q2l _ _ _ _ _ hj]
 split
 · exact hx
 · exact w0u h j hj
theorem Q2k {b:List Ivl} {q:List Nm} {i:Nat} {x:Ivl} (h:hasB b q=true) (hx:Q0j x=true) (hi:hasI x (q.getD i default)=true):hasB (b.set i x) q=true:=by
 unfold hasB at h⊢
 simp only [Bool.and_eq_true,decide_eq_true_eq,List.all_eq_true] at h⊢
 refine⟨⟨X2y h.1.1 hx,by rw [List.length_set];exact h.1.2⟩,fun j hj=> ?_⟩
 have hj':j<b.length:=by simpa using hj
 rw [Q2l _ _ _ _ _ hj']
 split
 · rename_i e;subst e;exact hi
 · exact h.2 j (by simpa using hj')
theorem Cut.has {b i m q} (h:Cut b i m) (hq:hasB b q=true):(hasB (loB b i m) q||hasB (hiB b i m) q)=true:=by
 have hqi:hasI (b.getD i default) (q.getD i default)=true:=by
  unfold hasB at hq
  simp only [Bool.and_eq_true,List.all_eq_true] at hq
  exact hq.2 i (by simpa using h.lt)
 obtain⟨_,hr,h1,h2⟩:=v2i hqi
 rw [Bool.or_eq_true]
 by_cases hm:qN (q.getD i default)≤qN m
 · exact .inl (Q2k hq h.loI (Q2j h.loI hr ⟨h1,hm⟩))
 · exact .inr (Q2k hq h.hiI (Q2j h.hiI hr ⟨by grind,h2⟩))
end Go.Pv
end
