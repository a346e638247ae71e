/- Parts of the walk: PvAl, M37, N31, N32, N33. -/
import Derived.Test.YthichlfphjbadaaGreatZAN
import Derived.Test.YthichlfphjbadaaGreatZY
import Derived.Test.YthichlfphjbadaaGreatZAF
set_option linter.unusedVariables false
set_option linter.unusedSimpArgs false
section
/-A loop whose rounds are stepped through by hand. -/
namespace Go.Pv
@[go_sem] theorem w2z {Q:Exit→PFS→Prop} {s:PFS} {id:Nat} :eblk id Q .normal s=Q .normal s:=(rfl)
@[go_sem] theorem q3r {Q:Exit→PFS→Prop} {s:PFS} {id:Nat} :eblk id Q .ret s=Q .ret s:=(rfl)
@[go_sem] theorem W3u {Q:Exit→PFS→Prop} {s:PFS} {id:Nat} :eblk id Q (.exit id) s=Q .normal s:=by simp [eblk]
@[go_sem] theorem j2z {Q:Exit→PFS→Prop} {s:PFS} {id id':Nat} (h:id'≠id):eblk id Q (.exit id') s=Q (.exit id') s:=by simp [eblk,h]
@[go_sem] theorem H2n {Q:Exit→PFS→Prop} {s:PFS} :W1v Q .normal s=Q .normal s:=(rfl)
@[go_sem] theorem J3g {Q:Exit→PFS→Prop} {s:PFS} :W1v Q .ret s=Q .ret s:=(rfl)
@[go_sem] theorem w2t {Q:Exit→PFS→Prop} {s:PFS} {id:Nat} :W1v Q (.exit id) s=Q (.exit id) s:=(rfl)
theorem G0p {P:Program} {E:Ent} {c:Code} {Q:Exit→PFS→Prop} {s:PFS} (bs:List Bool) (nL nT:Nat) (I:Nat→PFS→Prop) (n:Nat) (h0:s.maskOK bs nL nT∧I n (s.mask bs nL nT))
 (round: ∀n s,I n s→PWP P E c (z0h (fun s'=>s'.maskOK bs nL nT∧ ∃m,m<n∧I m (s'.mask bs nL nT)) Q) s):PWP P E (.loop c) Q s:=by
 refine w1e (fun n s=>s.maskOK bs nL nT∧I n (s.mask bs nL nT)) n h0 fun n s ⟨hm,hI⟩=> ?_
 refine J0v (Z1b hm) (Q1n (round n _ hI) ?_)
 intro e s hq
 cases e with
 | normal=>obtain⟨hm',m,hlt,hI'⟩:=hq;exact⟨m,hlt,hm',hI'⟩
 | _=>exact hq
end Go.Pv
end
section
/-Matrices:what the functions on them answer. No program in it. -/
namespace Go.Pv
def tabF {β:Type} (G:Nat→β×Int):Nat→Nat→List β→List β×Int
 | _,0,acc=>(acc,0)
 | i,k+1,acc=>if (G i).2≠0 then([],(G i).2) else tabF G (i+1) k (acc++ [(G i).1])
theorem z1w {α β:Type} [Inhabited α] (F:Nat→α→β×Int): ∀(l:List α) (i:Nat) (acc:List β),W0k F i l acc=tabF (fun j=>F j (l.getD (j-i) default)) i l.length acc
 | [],i,acc=>rfl
 | x::l,i,acc=>by
  have e: ∀j,i+1≤j→j<i+1+l.length→F j (l.getD (j-(i+1)) default)=F j ((x::l).getD (j-i) default):=fun j h1 _=>by
   rw [show j-i=(j-(i+1))+1 from by omega];rfl
  have key: ∀(k i':Nat) (acc:List β),i+1≤i'→i'+k≤i+1+l.length→tabF (fun j=>F j (l.getD (j-(i+1)) default)) i' k acc=tabF (fun j=>F j ((x::l).getD (j-i) default)) i' k acc:=by
   intro k
   induction k with
   | zero=>intro i' acc _ _;rfl
   | succ k ih=>
    intro i' acc h1 h2
    simp only [tabF,e i' h1 (by omega)]
    split
    · rfl
    · exact ih _ _ (by omega) (by omega)
  have e0:F i ((x::l).getD (i-i) default)=F i x:=by rw [Nat.sub_self];rfl
  rw [W0k,List.length_cons,tabF,e0,z1w F l (i+1),key _ _ _ (by omega) (by omega)]
theorem K0d {α β:Type} [Inhabited α] (F:Nat→α→β×Int) (l:List α):W0k F 0 l []=tabF (fun j=>F j (l.getD j default)) 0 l.length []:=by
 rw [z1w];simp only [Nat.sub_zero]
theorem K2g {β:Type} [Inhabited β] {G:Nat→β×Int} : ∀(k i:Nat) (acc:List β),(tabF G i k acc).2=0→
 (tabF G i k acc).1.length=acc.length+k∧(∀j,j<k→(G (i+j)).2=0)∧ ∀j,j<acc.length+k→(tabF G i k acc).1.getD j default=if j<acc.length then acc.getD j default else(G (i+(j-acc.length))).1
 | 0,i,acc,_=>by
  refine⟨rfl,fun j h=>by omega,fun j h=> ?_⟩
  rw [if_pos (by omega)];rfl
 | k+1,i,acc,h=>by
  simp only [tabF] at h⊢
  by_cases h0:(G i).2≠0
  · rw [if_pos h0] at h;exact absurd h h0
  · rw [if_neg h0] at h⊢
    obtain⟨a1,a2,a3⟩:=K2g k (i+1) (acc++ [(G i).1]) h
    refine⟨by rw [a1];simp;omega,fun j hj=> ?_,fun j hj=> ?_⟩
    · cases j with
      | zero=>exact Classical.not_not.1 h0
      | succ j=>have:=a2 j (by omega);rw [show i+(j+1)=i+1+j from by omega];exact this
    · rw [a3 j (by simp;omega)]
      simp only [List.length_append,List.length_cons,List.length_nil]
      by_cases c1:j<acc.length
      · rw [if_pos (by omega),if_pos c1,List.getD_eq_getElem?_getD,List.getElem?_append_left c1,←List.getD_eq_getElem?_getD]
      · rw [if_neg c1]
        by_cases c2:j=acc.length
        · subst c2
          rw [if_pos (by omega),Nat.sub_self,Nat.add_zero]
          simp [List.getD_eq_getElem?_getD]
        · rw [if_neg (by omega)]
          rw [show i+1+(j-(acc.length+(0+1)))=i+(j-acc.length) from by omega]
theorem z0w {β:Type} [Inhabited β] {G:Nat→β×Int} : ∀(k i:Nat) (acc:List β),(∀j,i≤j→j<i+k→(G j).2=0)→(tabF G i k acc).2=0
 | 0,i,acc,_=>rfl
 | k+1,i,acc,h=>by
  simp only [tabF]
  rw [if_neg (by rw [h i (by omega) (by omega)];decide)]
  exact z0w k _ _ fun j h1 h2=>h j (by omega) (by omega)
theorem z0v {β:Type} [Inhabited β] {G:Nat→β×Int} {k:Nat} (h:(tabF G 0 k []).2=0):(tabF G 0 k []).1.length=k∧(∀j,j<k→(G j).2=0)∧ ∀j,j<k→(tabF G 0 k []).1.getD j default=(G j).1:=by
 obtain⟨a1,a2,a3⟩:=K2g k 0 [] h
 refine⟨by simpa using a1,fun j hj=>by simpa using a2 j hj,fun j hj=> ?_⟩
 have:=a3 j (by simpa using hj)
 simpa using this
abbrev Mx :=List (List Ivl)
def wM (m:Mx):Prop:=m.length≤100000000000∧ ∀i,i<m.length→wB (m.getD i [])
def V0w (m:Mx):Bool:=(m.all fun r=>decide (r.length=m.length)&&rightB r)&&decide (1≤m.length)&&decide (m.length≤4)
theorem Z2h {m:Mx} (h:V0w m=true):1≤m.length∧m.length≤4:=by
 unfold V0w at h
 simp only [Bool.and_eq_true,decide_eq_true_eq] at h
 exact⟨h.1.2,h.2⟩
theorem Z2g {m:Mx} (h:V0w m=true) {i:Nat} (hi:i<m.length):(m.getD i []).length=m.length∧rightB (m.getD i [])=true:=by
 unfold V0w at h
 simp only [Bool.and_eq_true,decide_eq_true_eq,List.all_eq_true] at h
 have hm:m.getD i []∈m:=by simp [List.getD_eq_getElem?_getD,List.getElem?_eq_getElem hi]
 have:=h.1.1 _ hm
 simpa using this
theorem rightM_iff {m:Mx} :V0w m=true↔(∀i,i<m.length→(m.getD i []).length=m.length∧rightB (m.getD i [])=true)∧1≤m.length∧m.length≤4:=by
 constructor
 · intro h;exact⟨fun i hi=>Z2g h hi,Z2h h⟩
 · rintro⟨h1,h2,h3⟩
   unfold V0w
   simp only [Bool.and_eq_true,decide_eq_true_eq,List.all_eq_true]
   refine⟨⟨fun r hr=> ?_,h2⟩,h3⟩
   obtain⟨i,hi,rfl⟩:=List.getElem_of_mem hr
   have:=h1 i hi
   rw [List.getD_eq_getElem?_getD,List.getElem?_eq_getElem hi] at this
   simpa using this
theorem G0z {b:List Ivl} (h:rightB b=true) {i:Nat} (hi:i<b.length):Q0l (b.getD i default)=true:=by
 unfold rightB at h
 simp only [Bool.and_eq_true,List.all_eq_true] at h
 exact h.1.1 _ (by simp [List.getD_eq_getElem?_getD,List.getElem?_eq_getElem hi])
def atM (m:Mx) (i j:Nat):Ivl:=(m.getD i []).getD j default
def J3d (G:Nat→Nat→Ivl×Int) (n:Nat):Mx×Int:=tabF (fun i=>tabF (fun j=>G i j) 0 n []) 0 n []
def opM (k:Nat) (a b:Mx) (p:Int):Mx×Int:=if V0w a=true∧V0w b=true∧a.length=b.length∧Z0q p=true then J3d (fun i j=>opI k (atM a i j) (atM b i j) p) a.length else([],1)
def Y3k (x:Ivl) (m:Mx) (p:Int):Mx×Int:=if V0w m=true∧Q0l x=true∧Z0q p=true then J3d (fun i j=>opI 2 x (atM m i j) p) m.length else([],1)
def dotF (x y:Nat→Ivl) (p:Int):Nat→Ivl×Int
 | 0=>(default,0)
 | k+1=>
  if (dotF x y p k).2≠0 then(default,(dotF x y p k).2) else
  if (opI 2 (x k) (y k) p).2≠0 then(default,(opI 2 (x k) (y k) p).2) else
  if k=0 then opI 2 (x k) (y k) p else
  if (opI 0 (dotF x y p k).1 (opI 2 (x k) (y k) p).1 p).2≠0 then(default,(opI 0 (dotF x y p k).1 (opI 2 (x k) (y k) p).1 p).2) else
  opI 0 (dotF x y p k).1 (opI 2 (x k) (y k) p).1 p
def mulM (a b:Mx) (p:Int):Mx×Int:=if V0w a=true∧V0w b=true∧a.length=b.length∧Z0q p=true then J3d (fun i j=>dotF (atM a i) (fun k=>atM b k j) p a.length) a.length else([],1)
def vecM (m:Mx) (b:List Ivl) (p:Int):List Ivl×Int:=if V0w m=true∧rightB b=true∧m.length=b.length∧Z0q p=true then tabF (fun i=>dotF (atM m i) (fun k=>b.getD k default) p b.length) 0 m.length [] else([],1)
def midM (m:Mx) (p:Int):List (List Nm)×Int:=if V0w m=true∧Z0q p=true then tabF (fun i=>midB (m.getD i []) p) 0 m.length [] else([],1)
def magN (x:Nm):Nm:=⟨false,x.exp,x.w⟩
def magI (a:Ivl):Nm:=if Q0l a=true then X0d (magN a.lo) (magN a.hi) else default
def sumF (r:Nat→Ivl) (p:Int):Nat→Nm×Int
 | 0=>(magI (r 0),0)
 | j+1=>if (sumF r p j).2≠0 then(default,(sumF r p j).2) else U0b 0 (sumF r p j).1 (magI (r (j+1))) p true
def W2r (m:Mx) (p:Int):Nat→Nm×Int
 | 0=>(default,0)
 | i+1=>if (W2r m p i).2≠0 then(default,(W2r m p i).2) else
  if (sumF (atM m i) p (m.length-1)).2≠0 then(default,(sumF (atM m i) p (m.length-1)).2) else
  if cmpR (sumF (atM m i) p (m.length-1)).1 (W2r m p i).1>0 then((sumF (atM m i) p (m.length-1)).1,0) else((W2r m p i).1,0)
theorem j1f :Q0f default=true:=by decide
def y3u (m:Mx) (p:Int):Nm×Int:=if V0w m=true∧Z0q p=true then W2r m p m.length else(default,1)
def oneN :Nm:=⟨false,0,[1]⟩
def idM (n:Int):Mx:=if 1≤n∧n≤4 then(List.range n.toNat).map fun i=>(List.range n.toNat).map fun j=>if i=j then⟨oneN,oneN⟩ else default else []
def ofM (q:List (List Nm)):Mx:=q.map ofB
def inM (a b:Mx):Bool:=V0w a&&V0w b&&allF inB a b
end Go.Pv
end
section
/-The program's matrices:Right,Same,In,valid,Of. -/
set_option maxRecDepth 100000
namespace Go.Pv
open Go.Proofs
def K4g (a b:Mx) (p:Int):Bool:=V0w a&&V0w b&&decide (a.length=b.length)&&Z0q p
def wQ (q:List (List Nm)):Prop:=q.length≤100000000000∧ ∀i,i<q.length→wNs (q.getD i [])
end Go.Pv
end
