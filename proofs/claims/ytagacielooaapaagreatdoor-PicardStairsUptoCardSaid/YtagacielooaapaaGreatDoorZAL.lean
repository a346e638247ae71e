/- Parts of the walk: M34, M35. -/
import Derived.Test.YtagacielooaapaaGreatDoorZY
import Derived.Test.YtagacielooaapaaGreatDoorZL
set_option linter.unusedVariables false
set_option linter.unusedSimpArgs false
section
/-Small intervals:nothing that is reckoned of them fails. No program in it. -/
namespace Go.Pv
def smN (x:Nm):Prop:=Q0g x=true∧bdV 6 12 (ofN x)
def smI (a:Ivl):Prop:=Q0h a=true∧bdV 6 12 (ofN a.lo)∧bdV 6 12 (ofN a.hi)
theorem X2k {n k:Nat} :bdV n k (ofN default):=by
 refine⟨?_,?_,?_⟩
 · show Q0i 0≤n;rw [J0b];omega
 · show -(k:Int)≤0;omega
 · show(0:Int)≤k;omega
theorem j2j {neg:Bool} {w:List UInt64} {e:Int} (hw:Q0i (valW w)≤6) (h1: -6≤e) (h2:e≤6):smN (Q1o neg w e).1:=by
 refine⟨q1u _ _ _,?_⟩
 unfold Q1o
 split
 · exact X2k
 · split
   · exact X2k
   · have hb:=y1h (neg:=neg) (m:=valW w) (e:=e) (n:=6) (k:=6) hw (by omega) (by omega)
     have hf:=z1y hb (by omega) (by omega)
     have hc:canV (oddV neg (valW w) e):=by
      rename_i h0 _
      exact Y0y _ _ _
     rw [(J0u hc hf).1]
     exact hb
theorem Y2c {x:Nm} (h:smN x):smI ⟨x,x⟩:=⟨J1o h.1,h.2,h.2⟩
theorem j2k {x y:Nm} (hx:smN x) (hy:smN y):smI (betw x y):=by
 refine⟨V2y hx.1 hy.1,?_⟩
 unfold betw
 split
 · exact⟨hy.2,hx.2⟩
 · exact⟨hx.2,hy.2⟩
theorem Q2t :p2 2=4:=by
 have:=Q2v 2
 rw [←show((2:Nat):Int)=2 from rfl,←this];rfl
end Go.Pv
end
section
/-The halves of a small box. No program in it. -/
namespace Go.Pv
theorem X1j {α:Type} (l:List α) (i j:Nat) (x d:α) (hj:j<l.length):(l.set i x).getD j d=if i=j then x else l.getD j d:=by
 simp only [List.getD_eq_getElem?_getD,List.getElem?_set]
 split
 · rename_i h;subst h;simp [hj]
 · rfl
structure Cut (b:List Ivl) (i:Nat) (m:Nm):Prop where
 right:rightB b=true
 lt:i<b.length
 num:Q0g m=true
 lo:qN (b.getD i default).lo≤qN m
 hi:qN m≤qN (b.getD i default).hi
def loB (b:List Ivl) (i:Nat) (m:Nm):List Ivl:=b.set i ⟨(b.getD i default).lo,m⟩
def hiB (b:List Ivl) (i:Nat) (m:Nm):List Ivl:=b.set i ⟨m,(b.getD i default).hi⟩
theorem Cut.loI {b i m} (h:Cut b i m):Q0h ⟨(b.getD i default).lo,m⟩=true:=V0y (Q0n (U0c h.right i h.lt)).1 h.num (cmpN_le.2 h.lo)
theorem Cut.hiI {b i m} (h:Cut b i m):Q0h ⟨m,(b.getD i default).hi⟩=true:=V0y h.num (Q0n (U0c h.right i h.lt)).2.1 (cmpN_le.2 h.hi)
theorem y0z {b:List Ivl} {i:Nat} {x:Ivl} (h:rightB b=true) (hx:Q0h x=true):rightB (b.set i x)=true:=by
 have hl:=U0b h
 refine W0a (fun j hj=> ?_) (by rw [List.length_set];omega) (by rw [List.length_set];omega)
 rw [List.length_set] at hj
 rw [X1j _ _ _ _ _ hj]
 split
 · exact hx
 · exact U0c h j hj
theorem G1v (a b:Nm):Z0c a b=a∨Z0c a b=b:=by unfold Z0c;split<;>simp
theorem G1z (a b:Nm):Z0d a b=a∨Z0d a b=b:=by unfold Z0d;split<;>simp
theorem x1g {a b:Nm} (ha:Q0g a=true) (hb:Q0g b=true) (h:qN a≤qN b):Z0c a b=a:=by
 obtain⟨h1,h2,h3⟩:=Q2e a b
 rcases G1v a b with e | e
 · exact e
 · rw [e] at h1⊢
   exact q1v hb ha (Rat.le_antisymm h1 h)
theorem x1m {a b:Nm} (ha:Q0g a=true) (hb:Q0g b=true) (h:qN a≤qN b):Z0d a b=b:=by
 obtain⟨h1,h2,h3⟩:=Q2f a b
 rcases G1z a b with e | e
 · rw [e] at h2⊢
   exact q1v ha hb (Rat.le_antisymm h h2)
 · exact e
theorem Cut.hull {b i m} (h:Cut b i m):Y0g (loB b i m) (hiB b i m)=(b,0):=by
 have hl0:(loB b i m).length=(hiB b i m).length:=by unfold loB hiB;simp
 rw [Z2p (show rightB (loB b i m)=true from y0z h.right h.loI) (show rightB (hiB b i m)=true from y0z h.right h.hiI) hl0]
 congr 1
 refine List.ext_getElem (by simp [loB]) fun j h1 h2=> ?_
 have hj:j<b.length:=h2
 have ri:=U0c h.right j hj
 obtain⟨r1,r2,_⟩:=Q0n ri
 have e:b[j]=b.getD j default:=by simp [List.getD_eq_getElem?_getD,hj]
 rw [List.getElem_map,List.getElem_range,e]
 unfold loB hiB
 rw [X1j _ _ _ _ _ hj,X1j _ _ _ _ _ hj]
 by_cases hij:i=j
 · subst hij
   rw [if_pos rfl,if_pos rfl]
   unfold q0t
   rw [if_pos ⟨h.loI,h.hiI⟩]
   show(⟨Z0c (b.getD i default).lo m,Z0d m (b.getD i default).hi⟩:Ivl)=_
   rw [x1g r1 h.num h.lo,x1m h.num r2 h.hi]
 · rw [if_neg hij,if_neg hij]
   unfold q0t
   rw [if_pos ⟨ri,ri⟩]
   show(⟨Z0c (b.getD j default).lo (b.getD j default).lo,Z0d (b.getD j default).hi (b.getD j default).hi⟩:Ivl)=_
   rw [x1g r1 r1 Rat.le_refl,x1m r2 r2 Rat.le_refl]
theorem Z2r {b:List Ivl} {q:List Nm} {i:Nat} {x:Ivl} (h:hasB b q=true) (hx:Q0h x=true) (hi:hasI x (q.getD i default)=true):hasB (b.set i x) q=true:=by
 unfold hasB at h⊢
 simp only [Bool.and_eq_true,decide_eq_true_eq,List.all_eq_true] at h⊢
 refine⟨⟨y0z h.1.1 hx,by rw [List.length_set];exact h.1.2⟩,fun j hj=> ?_⟩
 have hj':j<b.length:=by simpa using hj
 rw [X1j _ _ _ _ _ hj']
 split
 · rename_i e;subst e;exact hi
 · exact h.2 j (by simpa using hj')
theorem Cut.has {b i m q} (h:Cut b i m) (hq:hasB b q=true):(hasB (loB b i m) q||hasB (hiB b i m) q)=true:=by
 have hqi:hasI (b.getD i default) (q.getD i default)=true:=by
  unfold hasB at hq
  simp only [Bool.and_eq_true,List.all_eq_true] at hq
  exact hq.2 i (by simpa using h.lt)
 obtain⟨_,hr,h1,h2⟩:=v2x hqi
 rw [Bool.or_eq_true]
 by_cases hm:qN (q.getD i default)≤qN m
 · exact .inl (Z2r hq h.loI (Z2q h.loI hr ⟨h1,hm⟩))
 · exact .inr (Z2r hq h.hiI (Z2q h.hiI hr ⟨by grind,h2⟩))
end Go.Pv
end
