/- Parts of the walk: M77. -/
import Derived.Test.YthichlfphjbadaaGreatZEA
import Derived.Test.YthichlfphjbadaaGreatZY
import Derived.Test.YthichlfphjbadaaGreatZAR
set_option linter.unusedVariables false
set_option linter.unusedSimpArgs false
section
/-A frame of a box:of a small box nothing fails,and it is right. No program in it. -/
namespace Go.Pv
theorem X3v {L U:Nat} {x y:Rat} (h:luQ L U x) (e:y*2=x):luQ (L+1) U y:=by
 obtain⟨z,hz,hb⟩:=h
 refine⟨z,Q3e ?_,by rw [show L+1+U=L+U+1 from by omega,Nat.pow_succ];omega⟩
 rw [e,hz,←V2r z (-(L:Int))]
 congr 2
 omega
theorem k1d {L U:Nat} {a:Ivl} {p:Int} (ha:luI L U a) (hp:Z0q p=true) (hb:L+U+6≤4096):(midI a p).2=0∧luQ (L+1) (U+2) (qN (midI a p).1):=by
 have c:=canI ha.1
 have cc:=Z0a (v0y (K0r c.1 c.2)) p.toNat false
 have hl:luQ (L+1) (U+2) (qV (midV a p.toNat)):=by
  unfold midV
  refine W0a (v0y (K0r c.1 c.2)) (X3v (x:=qV (J0p (ofN a.lo) (ofN a.hi))) ?_ (V2q _)) p.toNat (V0c hp) false
  rw [K0z]
  exact H0v ha.2.1 ha.2.2
 have hf:=U0f cc hl (by omega)
 unfold midI
 rw [if_pos ⟨ha.1,hp⟩]
 split
 · exact⟨rfl,ha.2.1.mono (by omega) (by omega)⟩
 · have h2:=(J0f cc hf).2
   refine⟨hf,?_⟩
   show luQ _ _ (qN (numV (Z0h _ _ _)).1)
   rw [h2]
   exact hl
def z2u (n:Nat):List (List Nm):=(List.range n).map fun i=>(List.replicate n default).set i oneN
def W0b (b:List Ivl) (p:Int):Fm×Int:=
 if (midB b p).2≠0 then(default,(midB b p).2)
 else if (opB 1 b (ofB (midB b p).1) p).2≠0 then(default,(opB 1 b (ofB (midB b p).1) p).2)
 else(⟨(midB b p).1,z2u b.length,(opB 1 b (ofB (midB b p).1) p).1⟩,0)
theorem j1x :Q0f oneN=true:=by decide
theorem Y1a :Q0f default=true:=by decide
theorem j1w (n:Nat):(z2u n).all (fun x=>Z0k x n)=true:=by
 rw [List.all_eq_true]
 intro x hx
 obtain⟨i,hi,rfl⟩:=List.mem_map.1 hx
 unfold Z0k
 rw [Bool.and_eq_true,List.all_eq_true]
 refine⟨fun y hy=> ?_,by simp⟩
 rcases List.mem_or_eq_of_mem_set hy with h | h
 · rw [(List.mem_replicate.1 h).2];exact Y1a
 · rw [h];exact j1x
theorem J1g {α:Type} [Inhabited α] {l:List α} {x:α} (h:x∈l): ∃i,i<l.length∧l.getD i default=x:=by
 obtain⟨i,hi,rfl⟩:=List.mem_iff_getElem.1 h
 exact⟨i,hi,by simp [List.getD_eq_getElem?_getD,hi]⟩
theorem q2z :qN default=0:=by
 show qM 0 0=0
 exact J0m _
theorem z1k {L U:Nat} {b:List Ivl} {p:Int} (h1:1≤b.length) (h4:b.length≤4) (hb: ∀i,i<b.length→luI L U (b.getD i default)) (hp:Z0q p=true) (hLU:L+U+20≤4096):
 (W0b b p).2=0∧X0i (W0b b p).1=true∧(W0b b p).1.m.length=b.length:=by
 have hr:rightB b=true:=K0a (fun i hi=>(hb i hi).1) h1 h4
 have hm:midB b p=((List.range b.length).map (fun j=>(midI (b.getD j default) p).1),0):=by
  unfold midB
  rw [if_pos ⟨hr,hp⟩,Q1u _ b 0 [] (fun j hj=>(k1d (hb j hj) hp (by omega)).1)]
  simp
 have hg: ∀j,j<b.length→(ofB (midB b p).1).getD j default=⟨(midI (b.getD j default) p).1,(midI (b.getD j default) p).1⟩:=fun j hj=>by
  rw [hm];simp [ofB,List.getD_eq_getElem?_getD,hj]
 have hlen:(ofB (midB b p).1).length=b.length:=by rw [hm];simp [ofB]
 have hpt: ∀j,j<b.length→luI (L+1) (U+2) ⟨(midI (b.getD j default) p).1,(midI (b.getD j default) p).1⟩:=fun j hj=>by
  have m:=k1d (hb j hj) hp (by omega)
  exact⟨X1l (x0i _ _),m.2,m.2⟩
 have hrp:rightB (ofB (midB b p).1)=true:=K0a (fun i hi=>by rw [hg i (by omega)];exact(hpt i (by omega)).1) (by omega) (by omega)
 have ho: ∀j,j<b.length→(opI 1 (b.getD j default) ((ofB (midB b p).1).getD j default) p).2=0:=fun j hj=>by
  rw [hg j hj]
  exact(W2m (by omega) ((hb j hj).mono (by omega) (by omega)) (hpt j hj) hp (by omega)).1
 have hop:opB 1 b (ofB (midB b p).1) p=((List.range b.length).map (fun j=>(opI 1 (b.getD j default) ((ofB (midB b p).1).getD j default) p).1),0):=by
  unfold opB
  rw [if_pos ⟨hr,hrp,by omega,hp⟩,Q1u _ b 0 [] (fun j hj=>by rw [Nat.zero_add];exact ho j hj)]
  simp
 have hml:(midB b p).1.length=b.length:=by rw [hm];simp
 unfold W0b
 rw [if_neg (by rw [hm];simp),if_neg (by rw [hop];simp)]
 refine⟨rfl,?_,hml⟩
 unfold X0i
 simp only [Bool.and_eq_true,decide_eq_true_eq]
 refine⟨⟨⟨⟨⟨⟨by omega,by omega⟩,?_⟩,by rw [hml];simp [z2u]⟩,by rw [hml,hop];simp⟩,by rw [hml];exact j1w _⟩,?_⟩
 · unfold Z0k
   rw [Bool.and_eq_true,List.all_eq_true]
   refine⟨fun x hx=> ?_,by simp⟩
   rw [hm] at hx
   obtain⟨j,_,rfl⟩:=List.mem_map.1 hx
   exact x0i _ _
 · rw [List.all_eq_true]
   intro x hx
   rw [hop] at hx
   obtain⟨j,hj,rfl⟩:=List.mem_map.1 hx
   have hj':j<b.length:=List.mem_range.1 hj
   have mb:=k1c (k1d (hb j hj') hp (by omega)).1
   refine U1x (X1q _ _ _ _) Y1a ?_
   have:=Z3s 1 (ho j hj') (X:=qN (midI (b.getD j default) p).1) (U:=qN (midI (b.getD j default) p).1) ⟨mb.2.2.1,mb.2.2.2⟩ (by rw [hg j hj'];exact⟨Rat.le_refl,Rat.le_refl⟩)
   rw [q2z]
   have e:exQ 1 (qN (midI (b.getD j default) p).1) (qN (midI (b.getD j default) p).1)=0:=by unfold exQ;simp;grind
   rwa [e] at this
end Go.Pv
end
