/- Parts of the walk: N61, N62, N64. -/
import Derived.Test.YtofoadghajnglaaGreatDoorZBE
import Derived.Test.YtofoadghajnglaaGreatDoorZBD
import Derived.Test.YtofoadghajnglaaGreatDoorZAQ
import Derived.Test.YtofoadghajnglaaGreatDoorZAF
import Derived.Test.YtofoadghajnglaaGreatDoorZBI
import Derived.Test.YtofoadghajnglaaGreatDoorZAM
import Derived.Test.YtofoadghajnglaaGreatDoorZAR
set_option linter.unusedVariables false
set_option linter.unusedSimpArgs false
section
/-The document's Make;the deck's powers,monomials,polynomials,fields. -/
set_option maxRecDepth 100000
namespace Go.Pv
open Go.Proofs
def okKs (n:Nat) (D:Int) (ks:List Int):Prop:=ks.length=n∧(∀j,j<n→0≤ks.getD j 0)∧ks.sum≤D
theorem okKs.right {n:Nat} {D:Int} {ks:List Int} (h:okKs n D ks) (hD:D≤8):q0f ks=true:=(x0a ks).2 ⟨fun j hj=>h.2.1 j (by rw [←h.1];exact hj),by have:=h.2.2;omega⟩
theorem z1a {α:Type} [Inhabited α] {l:List α} {P:α→Prop} (h: ∀x∈l,P x) {i:Nat} (hi:i<l.length):P (l.getD i default):=by
 rw [show l.getD i default=l[i] by simp [List.getD_eq_getElem?_getD,hi]]
 exact h _ (List.getElem_mem hi)
def okPoly (n M:Nat) (D:Int) (p:List Mn):Prop:=H1c p n=true∧p.length≤M∧ ∀m∈p,okMn n 12 (18+M) D m
def okField (n M:Nat) (D:Int) (f:List (List Mn)):Prop:=f.length=n∧ ∀p∈f,okPoly n M D p
theorem okField.right {n M:Nat} {D:Int} {f:List (List Mn)} (h:okField n M D f) (hn:1≤n) (hn4:n≤4):x0r f=true:=(X2k f).2 ⟨by rw [h.1];exact⟨hn,hn4⟩,fun i hi=>by
 rw [show f.getD i []=f[i] by simp [List.getD_eq_getElem?_getD,hi],h.1]
 exact(h.2 _ (List.getElem_mem hi)).1⟩
end Go.Pv
end
section
/-Layer 11:FieldDrawn,FieldHolds. -/
set_option maxRecDepth 100000
namespace Go.Pv
open Go.Proofs
theorem okPoly.at {n M:Nat} {D:Int} {p:List Mn} (h:okPoly n M D p) {j:Nat} (hj:j<p.length):okMn n 12 (18+M) D (p.getD j default):=z1a h.2.2 hj
theorem okField.at {n M:Nat} {D:Int} {f:List (List Mn)} (h:okField n M D f) {i:Nat} (hi:i<f.length):okPoly n M D (f.getD i []):=by
 rw [show f.getD i []=f[i] by simp [List.getD_eq_getElem?_getD,hi]]
 exact h.2 _ (List.getElem_mem hi)
theorem H1o {n M:Nat} {D:Int} {q:List Mn} {b:List Ivl} {p:Int} {L U:Nat} (hq:okPoly n M D q) (hM:M≤24) (hl:b.length=n) (hn1:1≤n) (hn4:n≤4) (hb: ∀j,j<b.length→luI L U (b.getD j default)) (hp:Z0a p=true) (hbd:154+8*L+8*U≤4096):
 k0k q b p=J0a q b p q.length∧(J0a q b p q.length).2=0∧luI (12+L*8) (26+M+U*8+2*q.length) (J0a q b p q.length).1:=by
 have hlu:=H1p (q:=q) (b:=b) (p:=p) (Lc:=12) (Uc:=18+M) (L:=L) (U:=U) hp (fun j hj=>by
  obtain⟨a1,a2,a3,a4,a5,a6⟩:=hq.at hj
  exact⟨a4,a6,a2,by omega⟩) (by omega) hb (by have:=hq.2.1;omega) (by omega) q.length (Nat.le_refl _)
 refine⟨?_,hlu.1,hlu.2.mono (by omega) (by omega)⟩
 unfold k0k
 have hr:=hq.1
 rw [←hl] at hr
 rw [if_pos ⟨hr,List.all_eq_true.2 fun x hx=>by
  obtain⟨j,hj,e⟩:=List.mem_iff_getElem.1 hx
  have:=(hb j hj).1
  rw [show b.getD j default=b[j] by simp [List.getD_eq_getElem?_getD,hj],e] at this
  exact this,hp⟩]
theorem Y1q {n M:Nat} {D:Int} {f:List (List Mn)} {b:List Ivl} {p:Int} {L U:Nat} (hf:okField n M D f) (hM:M≤24) (hl:b.length=n) (hn1:1≤n) (hn4:n≤4) (hb: ∀j,j<b.length→luI L U (b.getD j default)) (hp:Z0a p=true) (hbd:154+8*L+8*U≤4096):
 (J0n f b p).2=0∧(J0n f b p).1.length=n∧ ∀i,i<n→(J0n f b p).1.getD i default=(J0a (f.getD i []) b p (f.getD i []).length).1∧(J0a (f.getD i []) b p (f.getD i []).length).2=0∧luI (12+L*8) (26+M+U*8+2*M) (J0a (f.getD i []) b p (f.getD i []).length).1:=by
 have hfl:=hf.1
 have key: ∀i,i<n→_:=fun i hi=>H1o (hf.at (i:=i) (by omega)) hM hl hn1 hn4 hb hp hbd
 have h0:(tabF (fun i=>k0k (f.getD i []) b p) 0 f.length []).2=0:=U0o _ _ _ fun j _ hj=>by
  show(k0k (f.getD j []) b p).2=0
  rw [(key j (by omega)).1];exact(key j (by omega)).2.1
 obtain⟨g1,g2,g3⟩:=U0n h0
 unfold J0n
 rw [if_pos ⟨hf.right hn1 hn4,by omega⟩]
 refine⟨h0,by omega,fun i hi=> ?_⟩
 obtain⟨k1,k2,k3⟩:=key i hi
 refine⟨?_,k2,k3.mono (by omega) (by have:=(hf.at (i:=i) (by omega)).2.1;omega)⟩
 rw [g3 i (by omega)]
 show(k0k (f.getD i []) b p).1=_
 rw [k1]
end Go.Pv
end
