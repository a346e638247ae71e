/- Parts of the walk: PvAl, M37, N31, N32, N33. -/
import Derived.Test.YtofoadghajnglaaGreatDoorZAN
import Derived.Test.YtofoadghajnglaaGreatDoorZAL
import Derived.Test.YtofoadghajnglaaGreatDoorZAH
set_option linter.unusedVariables false
set_option linter.unusedSimpArgs false
section
/-A loop whose rounds are stepped through by hand. -/
namespace Go.Pv
@[go_sem] theorem v2a {Q:Exit→PFS→Prop} {s:PFS} {id:Nat} :eblk id Q .normal s=Q .normal s:=(rfl)
@[go_sem] theorem Y3p {Q:Exit→PFS→Prop} {s:PFS} {id:Nat} :eblk id Q .ret s=Q .ret s:=(rfl)
@[go_sem] theorem J3p {Q:Exit→PFS→Prop} {s:PFS} {id:Nat} :eblk id Q (.exit id) s=Q .normal s:=by simp [eblk]
@[go_sem] theorem z2y {Q:Exit→PFS→Prop} {s:PFS} {id id':Nat} (h:id'≠id):eblk id Q (.exit id') s=Q (.exit id') s:=by simp [eblk,h]
@[go_sem] theorem U2b {Q:Exit→PFS→Prop} {s:PFS} :V1p Q .normal s=Q .normal s:=(rfl)
@[go_sem] theorem Q3y {Q:Exit→PFS→Prop} {s:PFS} :V1p Q .ret s=Q .ret s:=(rfl)
@[go_sem] theorem k2w {Q:Exit→PFS→Prop} {s:PFS} {id:Nat} :V1p Q (.exit id) s=Q (.exit id) s:=(rfl)
theorem X0h {P:Program} {E:Ent} {c:Code} {Q:Exit→PFS→Prop} {s:PFS} (bs:List Bool) (nL nT:Nat) (I:Nat→PFS→Prop) (n:Nat) (h0:s.maskOK bs nL nT∧I n (s.mask bs nL nT))
 (round: ∀n s,I n s→PWP P E c (z0l (fun s'=>s'.maskOK bs nL nT∧ ∃m,m<n∧I m (s'.mask bs nL nT)) Q) s):PWP P E (.loop c) Q s:=by
 refine k1y (fun n s=>s.maskOK bs nL nT∧I n (s.mask bs nL nT)) n h0 fun n s ⟨hm,hI⟩=> ?_
 refine V0d (Q1s hm) (Q1j (round n _ hI) ?_)
 intro e s hq
 cases e with
 | normal=>obtain⟨hm',m,hlt,hI'⟩:=hq;exact⟨m,hlt,hm',hI'⟩
 | _=>exact hq
end Go.Pv
end
section
/-Matrices:what the functions on them answer. No program in it. -/
namespace Go.Pv
def tabF {β:Type} (G:Nat→β×Int):Nat→Nat→List β→List β×Int
 | _,0,acc=>(acc,0)
 | i,k+1,acc=>if (G i).2≠0 then([],(G i).2) else tabF G (i+1) k (acc++ [(G i).1])
theorem H1z {α β:Type} [Inhabited α] (F:Nat→α→β×Int): ∀(l:List α) (i:Nat) (acc:List β),Q1b F i l acc=tabF (fun j=>F j (l.getD (j-i) default)) i l.length acc
 | [],i,acc=>rfl
 | x::l,i,acc=>by
  have e: ∀j,i+1≤j→j<i+1+l.length→F j (l.getD (j-(i+1)) default)=F j ((x::l).getD (j-i) default):=fun j h1 _=>by
   rw [show j-i=(j-(i+1))+1 from by omega];rfl
  have key: ∀(k i':Nat) (acc:List β),i+1≤i'→i'+k≤i+1+l.length→tabF (fun j=>F j (l.getD (j-(i+1)) default)) i' k acc=tabF (fun j=>F j ((x::l).getD (j-i) default)) i' k acc:=by
   intro k
   induction k with
   | zero=>intro i' acc _ _;rfl
   | succ k ih=>
    intro i' acc h1 h2
    simp only [tabF,e i' h1 (by omega)]
    split
    · rfl
    · exact ih _ _ (by omega) (by omega)
  have e0:F i ((x::l).getD (i-i) default)=F i x:=by rw [Nat.sub_self];rfl
  rw [Q1b,List.length_cons,tabF,e0,H1z F l (i+1),key _ _ _ (by omega) (by omega)]
theorem H0f {α β:Type} [Inhabited α] (F:Nat→α→β×Int) (l:List α):Q1b F 0 l []=tabF (fun j=>F j (l.getD j default)) 0 l.length []:=by
 rw [H1z];simp only [Nat.sub_zero]
theorem K1n {β:Type} {G G':Nat→β×Int} : ∀(k i:Nat) (acc:List β),(∀j,i≤j→j<i+k→G j=G' j)→tabF G i k acc=tabF G' i k acc
 | 0,_,_,_=>rfl
 | k+1,i,acc,h=>by
  simp only [tabF,h i (by omega) (by omega)]
  split
  · rfl
  · exact K1n k _ _ fun j h1 h2=>h j (by omega) (by omega)
theorem Z2x {β:Type} [Inhabited β] {G:Nat→β×Int} : ∀(k i:Nat) (acc:List β),(tabF G i k acc).2=0→
 (tabF G i k acc).1.length=acc.length+k∧(∀j,j<k→(G (i+j)).2=0)∧ ∀j,j<acc.length+k→(tabF G i k acc).1.getD j default=if j<acc.length then acc.getD j default else(G (i+(j-acc.length))).1
 | 0,i,acc,_=>by
  refine⟨rfl,fun j h=>by omega,fun j h=> ?_⟩
  rw [if_pos (by omega)];rfl
 | k+1,i,acc,h=>by
  simp only [tabF] at h⊢
  by_cases h0:(G i).2≠0
  · rw [if_pos h0] at h;exact absurd h h0
  · rw [if_neg h0] at h⊢
    obtain⟨a1,a2,a3⟩:=Z2x k (i+1) (acc++ [(G i).1]) h
    refine⟨by rw [a1];simp;omega,fun j hj=> ?_,fun j hj=> ?_⟩
    · cases j with
      | zero=>exact Classical.not_not.1 h0
      | succ j=>have:=a2 j (by omega);rw [show i+(j+1)=i+1+j from by omega];exact this
    · rw [a3 j (by simp;omega)]
      simp only [List.length_append,List.length_cons,List.length_nil]
      by_cases c1:j<acc.length
      · rw [if_pos (by omega),if_pos c1,List.getD_eq_getElem?_getD,List.getElem?_append_left c1,←List.getD_eq_getElem?_getD]
      · rw [if_neg c1]
        by_cases c2:j=acc.length
        · subst c2
          rw [if_pos (by omega),Nat.sub_self,Nat.add_zero]
          simp [List.getD_eq_getElem?_getD]
        · rw [if_neg (by omega)]
          rw [show i+1+(j-(acc.length+(0+1)))=i+(j-acc.length) from by omega]
theorem W1g {β:Type} [Inhabited β] {G:Nat→β×Int} : ∀(k i:Nat) (acc:List β),(∀j,i≤j→j<i+k→(G j).2=0)→(tabF G i k acc).2=0
 | 0,i,acc,_=>rfl
 | k+1,i,acc,h=>by
  simp only [tabF]
  rw [if_neg (by rw [h i (by omega) (by omega)];decide)]
  exact W1g k _ _ fun j h1 h2=>h j (by omega) (by omega)
theorem k0d {β:Type} [Inhabited β] {G:Nat→β×Int} {k:Nat} (h:(tabF G 0 k []).2=0):(tabF G 0 k []).1.length=k∧(∀j,j<k→(G j).2=0)∧ ∀j,j<k→(tabF G 0 k []).1.getD j default=(G j).1:=by
 obtain⟨a1,a2,a3⟩:=Z2x k 0 [] h
 refine⟨by simpa using a1,fun j hj=>by simpa using a2 j hj,fun j hj=> ?_⟩
 have:=a3 j (by simpa using hj)
 simpa using this
theorem W1f {β:Type} {G:Nat→β×Int} : ∀(k i:Nat) (acc:List β),(tabF G i k acc).1.length≤acc.length+k
 | 0,i,acc=>by simp [tabF]
 | k+1,i,acc=>by
  simp only [tabF]
  split
  · simp
  · have:=W1f (G:=G) k (i+1) (acc++ [(G i).1]);simp at this;omega
theorem W1e {β:Type} (p:β→Prop) {G:Nat→β×Int} : ∀(k i:Nat) (acc:List β),(∀j,i≤j→j<i+k→p (G j).1)→(∀x∈acc,p x)→ ∀x∈(tabF G i k acc).1,p x
 | 0,i,acc,_,h=>h
 | k+1,i,acc,hg,h=>by
  simp only [tabF]
  split
  · intro x hx;cases hx
  · refine W1e p k _ _ (fun j h1 h2=>hg j (by omega) (by omega)) fun x hx=> ?_
    rcases List.mem_append.1 hx with hx | hx
    · exact h x hx
    · rw [List.mem_singleton.1 hx];exact hg i (by omega) (by omega)
theorem Y0y {β:Type} (G:Nat→β×Int) {i n:Nat} (h:i<n) (acc:List β):tabF G i (n-i) acc=if (G i).2≠0 then([],(G i).2) else tabF G (i+1) (n-(i+1)) (acc++ [(G i).1]):=by
 rw [show n-i=(n-(i+1))+1 from by omega,tabF]
theorem H0j {β:Type} (G:Nat→β×Int) (n:Nat) (acc:List β):tabF G n (n-n) acc=(acc,0):=by rw [Nat.sub_self];rfl
abbrev Mx :=List (List Ivl)
def wM (m:Mx):Prop:=m.length≤100000000000∧ ∀i,i<m.length→wB (m.getD i [])
def rightM (m:Mx):Bool:=(m.all fun r=>decide (r.length=m.length)&&rightB r)&&decide (1≤m.length)&&decide (m.length≤4)
theorem J0t {m:Mx} (h:rightM m=true):1≤m.length∧m.length≤4:=by
 unfold rightM at h
 simp only [Bool.and_eq_true,decide_eq_true_eq] at h
 exact⟨h.1.2,h.2⟩
theorem X0e {m:Mx} (h:rightM m=true) {i:Nat} (hi:i<m.length):(m.getD i []).length=m.length∧rightB (m.getD i [])=true:=by
 unfold rightM at h
 simp only [Bool.and_eq_true,decide_eq_true_eq,List.all_eq_true] at h
 have hm:m.getD i []∈m:=by simp [List.getD_eq_getElem?_getD,List.getElem?_eq_getElem hi]
 have:=h.1.1 _ hm
 simpa using this
theorem rightM_iff {m:Mx} :rightM m=true↔(∀i,i<m.length→(m.getD i []).length=m.length∧rightB (m.getD i [])=true)∧1≤m.length∧m.length≤4:=by
 constructor
 · intro h;exact⟨fun i hi=>X0e h hi,J0t h⟩
 · rintro⟨h1,h2,h3⟩
   unfold rightM
   simp only [Bool.and_eq_true,decide_eq_true_eq,List.all_eq_true]
   refine⟨⟨fun r hr=> ?_,h2⟩,h3⟩
   obtain⟨i,hi,rfl⟩:=List.getElem_of_mem hr
   have:=h1 i hi
   rw [List.getD_eq_getElem?_getD,List.getElem?_eq_getElem hi] at this
   simpa using this
theorem X2w {b:List Ivl} (h:rightB b=true) {i:Nat} (hi:i<b.length):Q0w (b.getD i default)=true:=by
 unfold rightB at h
 simp only [Bool.and_eq_true,List.all_eq_true] at h
 exact h.1.1 _ (by simp [List.getD_eq_getElem?_getD,List.getElem?_eq_getElem hi])
def atM (m:Mx) (i j:Nat):Ivl:=(m.getD i []).getD j default
theorem k0o {m:Mx} (h:rightM m=true) {i j:Nat} (hi:i<m.length) (hj:j<m.length):Q0w (atM m i j)=true:=by
 obtain⟨h1,h2⟩:=X0e h hi
 exact X2w h2 (by rw [h1];exact hj)
def Y0g (G:Nat→Nat→Ivl×Int) (n:Nat):Mx×Int:=tabF (fun i=>tabF (fun j=>G i j) 0 n []) 0 n []
def opM (k:Nat) (a b:Mx) (p:Int):Mx×Int:=if rightM a=true∧rightM b=true∧a.length=b.length∧Z0p p=true then Y0g (fun i j=>opI k (atM a i j) (atM b i j) p) a.length else([],1)
def dotF (x y:Nat→Ivl) (p:Int):Nat→Ivl×Int
 | 0=>(default,0)
 | k+1=>
  if (dotF x y p k).2≠0 then(default,(dotF x y p k).2) else
  if (opI 2 (x k) (y k) p).2≠0 then(default,(opI 2 (x k) (y k) p).2) else
  if k=0 then opI 2 (x k) (y k) p else
  if (opI 0 (dotF x y p k).1 (opI 2 (x k) (y k) p).1 p).2≠0 then(default,(opI 0 (dotF x y p k).1 (opI 2 (x k) (y k) p).1 p).2) else
  opI 0 (dotF x y p k).1 (opI 2 (x k) (y k) p).1 p
theorem V1v {x x' y y':Nat→Ivl} {p:Int} : ∀n,(∀k,k<n→x k=x' k∧y k=y' k)→dotF x y p n=dotF x' y' p n
 | 0,_=>rfl
 | n+1,h=>by
  obtain⟨h1,h2⟩:=h n (by omega)
  simp only [dotF,V1v n (fun k hk=>h k (by omega)),h1,h2]
def mulM (a b:Mx) (p:Int):Mx×Int:=if rightM a=true∧rightM b=true∧a.length=b.length∧Z0p p=true then Y0g (fun i j=>dotF (atM a i) (fun k=>atM b k j) p a.length) a.length else([],1)
def magN (x:Nm):Nm:=⟨false,x.exp,x.w⟩
def magI (a:Ivl):Nm:=if Q0w a=true then X0u (magN a.lo) (magN a.hi) else default
def sumF (r:Nat→Ivl) (p:Int):Nat→Nm×Int
 | 0=>(magI (r 0),0)
 | j+1=>if (sumF r p j).2≠0 then(default,(sumF r p j).2) else Q0t 0 (sumF r p j).1 (magI (r (j+1))) p true
def V0e (m:Mx) (p:Int):Nat→Nm×Int
 | 0=>(default,0)
 | i+1=>if (V0e m p i).2≠0 then(default,(V0e m p i).2) else
  if (sumF (atM m i) p (m.length-1)).2≠0 then(default,(sumF (atM m i) p (m.length-1)).2) else
  if cmpR (sumF (atM m i) p (m.length-1)).1 (V0e m p i).1>0 then((sumF (atM m i) p (m.length-1)).1,0) else((V0e m p i).1,0)
theorem U1t {r:Nat→Ivl} {p:Int} {j:Nat} (h:(sumF r p j).2≠0): ∀d,(sumF r p (j+d)).2=(sumF r p j).2
 | 0=>rfl
 | d+1=>by
  have ih:=U1t h d
  rw [show j+(d+1)=(j+d)+1 from by omega,sumF,if_pos (by rw [ih];exact h)];exact ih
theorem Q1y {r:Nat→Ivl} {p:Int} {j:Nat} (h:(sumF r p j).2=0):sumF r p (j+1)=Q0t 0 (sumF r p j).1 (magI (r (j+1))) p true:=by
 rw [sumF,if_neg (by rw [h];decide)]
theorem K1x {m:Mx} {p e:Int} {i:Nat} (he:e≠0) (h:V0e m p i=(default,e)): ∀d,V0e m p (i+d)=(default,e)
 | 0=>h
 | d+1=>by
  have ih:=K1x he h d
  rw [show i+(d+1)=(i+d)+1 from by omega,V0e,ih,if_pos he]
theorem G1x {m:Mx} {p e:Int} {i j:Nat} (he:e≠0) (hi:i<m.length) (hj:j≤m.length-1) (h:(V0e m p i).2=0) (hs:(sumF (atM m i) p j).2=e):V0e m p m.length=(default,e):=by
 have h1:=U1t (r:=atM m i) (p:=p) (j:=j) (by rw [hs];exact he) (m.length-1-j)
 rw [show j+(m.length-1-j)=m.length-1 from by omega,hs] at h1
 have h2:V0e m p (i+1)=(default,e):=by rw [V0e,if_neg (by rw [h];decide),if_pos (by rw [h1];exact he),h1]
 have:=K1x he h2 (m.length-(i+1))
 rwa [show i+1+(m.length-(i+1))=m.length from by omega] at this
theorem w0v {m:Mx} {p:Int} {i:Nat} (h:(V0e m p i).2=0) (hs:(sumF (atM m i) p (m.length-1)).2=0):
 V0e m p (i+1)=if cmpR (sumF (atM m i) p (m.length-1)).1 (V0e m p i).1>0 then((sumF (atM m i) p (m.length-1)).1,0) else((V0e m p i).1,0):=by
 rw [V0e,if_neg (by rw [h];decide),if_neg (by rw [hs];decide)]
theorem x0c {x:Nm} (h:Q0j x=true):Q0j (magN x)=true:=by
 unfold Q0j magN at*
 simp only at h⊢
 split
 · rename_i hw;rw [if_pos hw] at h;simp at h;simp [h]
 · rename_i hw;rw [if_neg hw] at h;exact h
theorem K0v :Q0j default=true:=by decide
theorem y0a (a:Ivl):Q0j (magI a)=true:=by
 unfold magI
 split
 · rename_i h
   have:=Q0x h
   exact X1v (P:=fun x=>Q0j x=true) (x0c this.1) (x0c this.2.1)
 · exact K0v
theorem Y0o (r:Nat→Ivl) (p:Int): ∀j,Q0j (sumF r p j).1=true
 | 0=>y0a _
 | j+1=>by
  unfold sumF
  split
  · exact K0v
  · exact Z0k _ _ _ _ _
theorem U0d (m:Mx) (p:Int): ∀i,Q0j (V0e m p i).1=true
 | 0=>K0v
 | i+1=>by
  unfold V0e
  split
  · exact K0v
  · split
    · exact K0v
    · split
      · exact Y0o _ _ _
      · exact U0d m p i
def Z0y (m:Mx) (p:Int):Nm×Int:=if rightM m=true∧Z0p p=true then V0e m p m.length else(default,1)
def oneN :Nm:=⟨false,0,[1]⟩
def idM (n:Int):Mx:=if 1≤n∧n≤4 then(List.range n.toNat).map fun i=>(List.range n.toNat).map fun j=>if i=j then⟨oneN,oneN⟩ else default else []
def ofM (q:List (List Nm)):Mx:=q.map ofB
end Go.Pv
end
section
/-The program's matrices:Right,Same,In,valid,Of. -/
set_option maxRecDepth 100000
namespace Go.Pv
open Go.Proofs
theorem V1a (m:Mx) (st:Q0f) (hm:wM m):PCalls Tryz.prog 84 [.sl .no (encM m)] st (fun r st'=>r= .sc (.bool (rightM m))∧st'=st):=by
 have hl:=hm.1
 refine Q0b none Tryz.func84 rfl fun E=>Q0a ?_
 simp -dsimp only [go_sem]
 refine Q0e [true,false,false,false,false,true,true,true] 0 0
  (fun n s=> ∃i,n=m.length-i∧i≤m.length∧(∀j,j<i→(m.getD j []).length=m.length∧rightB (m.getD j [])=true)∧s=⟨[.sl .no (encM m),.junk,.junk,.junk,.junk,.sl .no (encM m),.sc (.int .i64 m.length),.sc (.int .i64 (i:Nat))]++List.replicate 22 .junk,[],[],st⟩) m.length ?_ ?_
 · simp -dsimp only [go_sem]
   exact⟨0,by omega,by omega,fun j hj=>by omega,rfl⟩
 · rintro n s ⟨i,rfl,hi,hr,rfl⟩
   simp -dsimp only [go_sem]
   refine ck (fun h'=> ?_) (fun h'=> ?_)
   · have hlt:i<m.length:=by have:=of_decide_eq_true h';omega
     have e1:=K0p m i hlt
     have e3:=X0y i (by omega)
     simp -dsimp only [go_sem,e1]
     refine⟨by omega,?_⟩
     refine gkF (fun h2=> ?_) (fun h2=> ?_)
     · have hn:=q0d h2
       simp -dsimp only [go_sem,h2,e1]
       refine(Z2e _ _ (hm.2 i hlt)).mono ?_
       rintro r st ⟨rfl,rfl⟩
       simp -dsimp only [go_sem,h2]
       refine ck (fun h3=> ?_) (fun h3=> ?_)
       · have hf:rightB (m.getD i [])=false:=by simpa using h3
         simp -dsimp only [go_sem]
         have:rightM m=false:=Bool.eq_false_iff.2 fun e=>by
          have:=((rightM_iff.1 e).1 i hlt).2
          rw [hf] at this;cases this
         rw [this]
       · have ht:rightB (m.getD i [])=true:=by simpa using h3
         simp -dsimp only [go_sem,e3]
         refine⟨m.length-(i+1),by omega,i+1,rfl,by omega,fun j hj=> ?_,rfl⟩
         by_cases e:j=i
         · subst e;exact⟨hn,ht⟩
         · exact hr j (by omega)
     · have hn:=z0a h2
       simp -dsimp only [go_sem,h2]
       have:rightM m=false:=Bool.eq_false_iff.2 fun e=>hn ((rightM_iff.1 e).1 i hlt).1
       rw [this]
   · have hge:i=m.length:=by have:=of_decide_eq_false h';omega
     simp -dsimp only [go_sem]
     refine Q0a ?_
     simp -dsimp only [go_sem]
     refine gkT (fun h=> ?_) (fun h=> ?_)
     · have h1:1≤m.length:=by have:=of_decide_eq_true h;omega
       simp -dsimp only [go_sem,h]
       have:rightM m=decide ((m.length:Int)≤4):=by
        rw [Bool.eq_iff_iff,rightM_iff,decide_eq_true_iff]
        exact⟨fun hh=>by omega,fun hh=>⟨fun j hj=>hr j (by omega),h1,by omega⟩⟩
       rw [this]
     · have h1: ¬1≤m.length:=by have:=of_decide_eq_false h;omega
       simp -dsimp only [go_sem,h]
       have:rightM m=false:=Bool.eq_false_iff.2 fun e=>h1 (rightM_iff.1 e).2.1
       rw [this]
def Q1u (a b:Mx) (p:Int):Bool:=rightM a&&rightM b&&decide (a.length=b.length)&&Z0p p
theorem validM_iff {a b:Mx} {p:Int} :Q1u a b p=true↔rightM a=true∧rightM b=true∧a.length=b.length∧Z0p p=true:=by
 unfold Q1u;simp only [Bool.and_eq_true,decide_eq_true_eq]
 exact⟨fun h=>⟨h.1.1.1,h.1.1.2,h.1.2,h.2⟩,fun h=>⟨⟨⟨h.1,h.2.1⟩,h.2.2.1⟩,h.2.2.2⟩⟩
theorem w0x (a b:Mx) (p:Int) (st:Q0f) (ha:wM a) (hb:wM b):PCalls Tryz.prog 78 [.sl .no (encM a),.sl .no (encM b),.sc (.int .i64 p)] st (fun r st'=>r= .sc (.bool (Q1u a b p))∧st'=st):=by
 refine Q0b none Tryz.func78 rfl fun E=>Q0a ?_
 unfold Q1u
 simp -dsimp only [go_sem]
 refine(V1a a st ha).mono ?_
 rintro r st ⟨rfl,rfl⟩
 cases h:rightM a with
 | false=>simp -dsimp only [go_sem];try rfl
 | true=>
  simp -dsimp only [go_sem]
  refine(V1a b st hb).mono ?_
  rintro r st ⟨rfl,rfl⟩
  cases h':rightM b with
  | false=>simp -dsimp only [go_sem];try rfl
  | true=>
   by_cases hn:a.length=b.length
   · have f1:((a.length:Int)==(b.length:Int))=true:=by rw [hn];simp
     rw [decide_eq_true hn]
     simp -dsimp only [go_sem,f1]
     refine(Y0p p _).mono ?_
     rintro r st ⟨rfl,rfl⟩
     simp -dsimp only [go_sem]
     try rfl
   · have f1:((a.length:Int)==(b.length:Int))=false:=by rw [beq_eq_false_iff_ne];omega
     rw [decide_eq_false hn]
     simp -dsimp only [go_sem,f1]
     try rfl
theorem v1e (q:List (List Nm)) (i:Nat) (h:i<q.length):ofM (q.take (i+1))=ofM (q.take i)++ [ofB (q.getD i [])]:=by
 unfold ofM
 rw [q0q q i [] h,List.map_append];rfl
def wQ (q:List (List Nm)):Prop:=q.length≤100000000000∧ ∀i,i<q.length→wNs (q.getD i [])
theorem y2s (q:List (List Nm)) (st:Q0f) (hq:wQ q):PCalls Tryz.prog 31 [.sl .no (encQ q)] st (fun r st'=>r= .sl (.fresh 1) (encM (ofM q))∧st'=st):=by
 obtain⟨hl,hw⟩:=hq
 refine Q0b none Tryz.func31 rfl fun E=>Q0a ?_
 simp -dsimp only [go_sem]
 refine X0c 3 1 ?_
 simp -dsimp only [go_sem]
 refine Q0e [false,false,false,true,false,false,true,true,true] 0 1
  (fun n s=> ∃i,n=q.length-i∧i≤q.length∧s=⟨[.junk,.junk,.junk,.sl (.own 0) (encM (ofM (q.take i))),.junk,.junk,.sl .no (encQ q),.sc (.int .i64 q.length),.sc (.int .i64 (i:Nat))]++List.replicate 10 .junk,[],[((ofM (q.take i)).length,1)],st⟩) q.length ?_ ?_
 · simp -dsimp only [go_sem]
   exact⟨0,by omega,by omega,rfl⟩
 · rintro n s ⟨i,rfl,hi,rfl⟩
   simp -dsimp only [go_sem]
   refine ck (fun h'=> ?_) (fun h'=> ?_)
   · have hlt:i<q.length:=by have:=of_decide_eq_true h';omega
     have e1:=V0f q i hlt
     have e3:=X0y i (by omega)
     have ll:(ofM (q.take i)).length=i:=by simp [ofM];omega
     simp -dsimp only [go_sem,e1]
     refine⟨by omega,?_⟩
     refine(X3d _ _ (hw i hlt)).plain.mono ?_
     rintro r st ⟨rfl,rfl⟩
     simp -dsimp only [go_sem,e3]
     refine⟨⟨by omega,by omega⟩,q.length-(i+1),by omega,i+1,rfl,by omega,?_⟩
     rw [v1e q i hlt]
     simp
   · have hge:i=q.length:=by have:=of_decide_eq_false h';omega
     simp -dsimp only [go_sem]
     refine Q0a ?_
     simp -dsimp only [go_sem]
     rw [hge,List.take_length]
end Go.Pv
end
section
/-The program's matrices:what is filled,sums of products;Id,Add,Sub,Times,Mul,Vec. -/
set_option maxRecDepth 100000
namespace Go.Pv
open Go.Proofs
theorem j0g (g:FuncId) (caps:List PV) (G:Nat→Nat→Ivl×Int) (n:Nat) (st:Q0f) (hc:Q0d Tryz.prog g=true) (hn:n≤100000) (h1:caps.all PV.closed2=true) (h1':caps.all PV.closed1=true) (h2:caps.map PV.forget2=caps) (h2':caps.map PV.forget1=caps) (hlim: ∀k,caps.all (PV.lim1 0 k)=true)
 (h: ∀i j,i<n→j<n→PCalls Tryz.prog g ([.sc (.int .i64 i),.sc (.int .i64 j)]++caps) st (fun r st'=>r= .tup [.agg (encI (G i j).1),.sc (.int .i64 (G i j).2)]∧st'=st)):
 PCalls Tryz.prog 79 [.sc (.int .i64 n),.fn (.func g) [] caps] st (fun r st'=>r= .tup [.sl .no (encM (Y0g G n).1),.sc (.int .i64 (Y0g G n).2)]∧st'=st):=by
 refine Q0b none Tryz.func79 rfl fun E=>Q0a ?_
 simp -dsimp only [go_sem]
 refine X0c 6 1 ?_
 simp -dsimp only [go_sem]
 refine Q0e [true,true,false,false,false,false,true,false,false,false,false,false,true,true] 0 1
  (fun k s=> ∃(i:Nat) (o:Mx),k=n-i∧i≤n∧o.length=i∧Y0g G n=tabF (fun i=>tabF (fun j=>G i j) 0 n []) i (n-i) o∧
   s=⟨[.sc (.int .i64 n),.fn (.func g) [] caps,.junk,.junk,.junk,.junk,.sl (.own 0) (encM o),.junk,.junk,.junk,.junk,.junk,.sc (.int .i64 n),.sc (.int .i64 (i:Nat))]++List.replicate 27 .junk,[],[(o.length,1)],st⟩) n ?_ ?_
 · simp -dsimp only [go_sem,hlim]
   exact⟨0,[],by omega,by omega,rfl,rfl,rfl⟩
 · rintro k s ⟨i,o,rfl,hi,ho,hr,rfl⟩
   simp -dsimp only [go_sem]
   refine ck (fun h'=> ?_) (fun h'=> ?_)
   · have hlt:i<n:=by have:=of_decide_eq_true h';omega
     have e3:=X0y i (by omega)
     have e4:=Y0y (fun i=>tabF (fun j=>G i j) 0 n []) hlt o
     simp -dsimp only [go_sem]
     refine X0c 8 6 ?_
     simp -dsimp only [go_sem]
     refine Q0e [true,true,false,false,false,false,true,true,true,false,false,false,true,true,false,false,true,true] 0 2
      (fun k s=> ∃(j:Nat) (r:List Ivl),k=n-j∧j≤n∧r.length=j∧tabF (fun j=>G i j) 0 n []=tabF (fun j=>G i j) j (n-j) r∧
       s=⟨[.sc (.int .i64 n),.fn (.func g) [] caps,.junk,.junk,.junk,.junk,.sl (.own 0) (encM o),.sc (.int .i64 (i:Nat)),.sl (.own 1) (Z0d r),.junk,.junk,.junk,.sc (.int .i64 n),.sc (.int .i64 (i:Nat)),.junk,.junk,.sc (.int .i64 n),.sc (.int .i64 (j:Nat))]++List.replicate 23 .junk,[],[(o.length,1),(r.length,6)],st⟩) n ?_ ?_
     · simp -dsimp only [go_sem,hlim]
       exact⟨0,[],by omega,by omega,rfl,rfl,rfl⟩
     · rintro k s ⟨j,r,rfl,hj,hrl,hrr,rfl⟩
       simp -dsimp only [go_sem]
       refine ck (fun h''=> ?_) (fun h''=> ?_)
       · have hlt2:j<n:=by have:=of_decide_eq_true h'';omega
         have f3:=X0y j (by omega)
         have f4:=Y0y (fun j=>G i j) hlt2 r
         simp -dsimp only [go_sem,hc,h1,h2]
         refine(h i j hlt hlt2).mono ?_
         rintro rr st ⟨rfl,rfl⟩
         simp -dsimp only [go_sem]
         refine ck (fun h5=> ?_) (fun h5=> ?_)
         · have hne:=q0k h5
           simp -dsimp only [go_sem]
           have q1:tabF (fun j=>G i j) 0 n []=([],(G i j).2):=by rw [hrr,f4,if_pos hne]
           rw [hr,e4,if_pos (by rw [q1];exact hne),q1]
           rfl
         · have he:=x0m h5
           simp -dsimp only [go_sem,f3,hlim]
           refine⟨⟨by omega,by omega⟩,n-(j+1),by omega,j+1,r++ [(G i j).1],rfl,by omega,by simp [hrl],?_,?_⟩
           · rw [hrr,f4,if_neg (fun hh=>hh he)]
           · simp [Z0d,encI]
       · have hge:j=n:=by have:=of_decide_eq_false h'';omega
         have q1:tabF (fun j=>G i j) 0 n []=(r,0):=by rw [hrr,hge];exact H0j _ n r
         simp -dsimp only [go_sem]
         refine Q0a ?_
         simp -dsimp only [go_sem]
         refine⟨⟨by omega,by omega⟩,Q0a ?_⟩
         simp -dsimp only [go_sem,e3,hlim]
         refine⟨n-(i+1),by omega,i+1,o++ [r],rfl,by omega,by simp [ho],?_,?_⟩
         · rw [hr,e4,q1,if_neg (by simp)]
         · simp
   · have hge:i=n:=by have:=of_decide_eq_false h';omega
     simp -dsimp only [go_sem]
     refine Q0a ?_
     simp -dsimp only [go_sem]
     rw [hr,hge,H0j]
theorem K2j (i j:Nat) (a b:Mx) (p:Int) (st:Q0f) (ha:wM a) (hb:wM b) (ai:i<a.length) (aj:j<(a.getD i []).length) (bi:i<b.length) (bj:j<(b.getD i []).length):
 PCalls Tryz.prog 197 ([.sc (.int .i64 i),.sc (.int .i64 j)]++ [.ep [.sl .no (encM a)] 0,.ep [.sl .no (encM b)] 0,.ep [.sc (.int .i64 p)] 0]) st (fun r st'=>r= .tup [.agg (encI (opI 1 (atM a i j) (atM b i j) p).1),.sc (.int .i64 (opI 1 (atM a i j) (atM b i j) p).2)]∧st'=st):=by
 have e1:=K0p a i ai
 have e2:=K0p b i bi
 have e3:=X0d (a.getD i []) j aj
 have e4:=X0d (b.getD i []) j bj
 refine Q0b none Tryz.func197 rfl fun E=>Q0a ?_
 simp -dsimp only [go_sem]
 refine Q0k Z0f 27 (.step 0 [] (.step 1 [] (.step 2 [] (.step 3 [] (.step 4 [] (.step 5 [] (.step 6 [] (.step 7 [] (.step 8 [] (.step 9 [] (.step 10 [] (.step 11 [] (.step 12 [] (.step 13 [] (.step 14 [] (.step 15 [0,7] (.step 16 [] (.step 17 [] (.step 18 [] (.step 19 [] (.done))))))))))))))))))))) (by decide+kernel) (by simp) ?_
 simp -dsimp only [go_sem,e1,e2,e3,e4]
 refine⟨by omega,by omega,by omega,by omega,?_⟩
 refine(Q3c _ _ p _ ((ha.2 i ai).2 j aj) ((hb.2 i bi).2 j bj)).mono ?_
 rintro r st ⟨rfl,rfl⟩
 simp -dsimp only [go_sem]
 try rfl
theorem H2z (a b:Mx) (p:Int) (st:Q0f) (ha:wM a) (hb:wM b):PCalls Tryz.prog 133 [.sl .no (encM a),.sl .no (encM b),.sc (.int .i64 p)] st (fun r st'=>r= .tup [.sl .no (encM (opM 1 a b p).1),.sc (.int .i64 (opM 1 a b p).2)]∧st'=st):=by
 refine Q0b none Tryz.func133 rfl fun E=>Q0l (Q0a ?_)
 simp -dsimp only [go_sem]
 refine Z0u 0 ?_ ?_
 · simp -dsimp only [go_sem]
 simp -dsimp only [go_sem]
 refine Z0u 1 ?_ ?_
 · simp -dsimp only [go_sem]
 simp -dsimp only [go_sem]
 refine Z0u 2 ?_ ?_
 · simp -dsimp only [go_sem]
 refine Q0a ?_
 simp -dsimp only [go_sem]
 refine(w0x a b p _ ha hb).mono ?_
 rintro r st ⟨rfl,rfl⟩
 cases hv:Q1u a b p with
 | false=>
  simp -dsimp only [go_sem]
  rw [opM,if_neg (fun hh=>by rw [validM_iff.2 hh] at hv;cases hv)];rfl
 | true=>
  obtain⟨v1,v2,v3,v4⟩:=validM_iff.1 hv
  have hl:=J0t v1
  simp -dsimp only [go_sem]
  refine(j0g _ [.ep [.sl .no (encM a)] 0,.ep [.sl .no (encM b)] 0,.ep [.sc (.int .i64 p)] 0] (fun i j=>opI 1 (atM a i j) (atM b i j) p) a.length st rfl (by omega) rfl rfl rfl rfl (fun _=>rfl) fun i j hi hj=>
   K2j i j a b p st ha hb hi (by rw [(X0e v1 hi).1];exact hj) (by omega) (by rw [(X0e v2 (by omega)).1];omega)).mono ?_
  rintro r st ⟨rfl,rfl⟩
  simp -dsimp only [go_sem]
  rw [opM,if_pos ⟨v1,v2,v3,v4⟩]
theorem x1o (g:FuncId) (caps:List PV) (x y:Nat→Ivl) (n:Nat) (p:Int) (st:Q0f) (hc:Q0d Tryz.prog g=true) (hn:n≤100000) (h1:caps.all PV.closed2=true) (h1':caps.all PV.closed1=true) (h2:caps.map PV.forget2=caps) (h2':caps.map PV.forget1=caps) (hlim: ∀k,caps.all (PV.lim1 k 0)=true)
 (hw: ∀k,k<n→wI (x k)∧wI (y k)) (hd: ∀k,wI (dotF x y p k).1)
 (h: ∀k,k<n→PCalls Tryz.prog g ([.sc (.int .i64 k)]++caps) st (fun r st'=>r= .tup [.agg (encI (x k)),.agg (encI (y k))]∧st'=st)):
 PCalls Tryz.prog 81 [.sc (.int .i64 n),.sc (.int .i64 p),.fn (.func g) [] caps] st (fun r st'=>r= .tup [.agg (encI (dotF x y p n).1),.sc (.int .i64 (dotF x y p n).2)]∧st'=st):=by
 refine Q0b none Tryz.func81 rfl fun E=>Q0a ?_
 simp -dsimp only [go_sem]
 refine U0w 1 ?_
 simp -dsimp only [go_sem]
 refine Q0e [false,true,true,false,false,false,true,false,true,false,false,false,false,false,true,true] 2 0
  (fun m s=> ∃k,m=n-k∧k≤n∧(dotF x y p k).2=0∧s=⟨[.junk,.sc (.int .i64 p),.fn (.func g) [] caps,.junk,.junk,.junk,.lp 0 0,.junk,.lp 1 0,.junk,.junk,.junk,.junk,.junk,.sc (.int .i64 n),.sc (.int .i64 (k:Nat))]++List.replicate 35 .junk,
   [[.sc (.bool false),.sc (.int .i64 0),.sl .full [],.sc (.bool false),.sc (.int .i64 0),.sl .full []],encI (dotF x y p k).1],[],st⟩) n ?_ ?_
 · simp -dsimp only [go_sem,hlim]
   exact⟨0,by omega,by omega,rfl,rfl⟩
 · rintro m s ⟨k,rfl,hk,hz,rfl⟩
   simp -dsimp only [go_sem]
   refine ck (fun h'=> ?_) (fun h'=> ?_)
   · have hlt:k<n:=by have:=of_decide_eq_true h';omega
     have e3:=X0y k (by omega)
     have hdk:=hd k
     have hstep:dotF x y p (k+1)=if (opI 2 (x k) (y k) p).2≠0 then(default,(opI 2 (x k) (y k) p).2) else
      if k=0 then opI 2 (x k) (y k) p else
      if (opI 0 (dotF x y p k).1 (opI 2 (x k) (y k) p).1 p).2≠0 then(default,(opI 0 (dotF x y p k).1 (opI 2 (x k) (y k) p).1 p).2) else
      opI 0 (dotF x y p k).1 (opI 2 (x k) (y k) p).1 p:=by
      rw [dotF,if_neg (by rw [hz];decide)]
     have hend: ∀e,e≠0→dotF x y p (k+1)=(default,e)→dotF x y p n=(default,e):=fun e he h0=>by
      have key: ∀d,dotF x y p (k+1+d)=(default,e):=by
       intro d
       induction d with
       | zero=>exact h0
       | succ d ih=>rw [show k+1+(d+1)=(k+1+d)+1 from by omega,dotF,ih,if_pos he]
      have:=key (n-(k+1))
      rwa [show k+1+(n-(k+1))=n from by omega] at this
     simp -dsimp only [go_sem,hc,h1,h2]
     refine(h k hlt).mono ?_
     rintro r st ⟨rfl,rfl⟩
     simp -dsimp only [go_sem]
     refine(Q3d _ _ p _ (hw k hlt).1 (hw k hlt).2).mono ?_
     rintro r st ⟨rfl,rfl⟩
     have hmw:wI (opI 2 (x k) (y k) p).1:=z0t (G0y _ _ _ _)
     by_cases hm:(opI 2 (x k) (y k) p).2=0
     · rw [if_neg (fun hh=>hh hm)] at hstep
       rw [hm]
       have z1:((0:Int)==0)=true:=rfl
       have z2:((0:Int) !=0)=false:=rfl
       by_cases h0:k=0
       · rw [if_pos h0] at hstep
         have g1:decide ((k:Int)>0)=false:=decide_eq_false (by omega)
         simp -dsimp only [go_sem,z1,z2,g1,e3,hlim]
         refine⟨n-(k+1),by omega,k+1,rfl,by omega,by rw [hstep];exact hm,?_⟩
         rw [hstep]
       · rw [if_neg h0] at hstep
         have g1:decide ((k:Int)>0)=true:=decide_eq_true (by omega)
         simp -dsimp only [go_sem,z1,z2,g1]
         refine(Q3f _ _ p _ hdk hmw).mono ?_
         rintro r st ⟨rfl,rfl⟩
         by_cases ha:(opI 0 (dotF x y p k).1 (opI 2 (x k) (y k) p).1 p).2=0
         · rw [if_neg (fun hh=>hh ha)] at hstep
           rw [ha]
           simp -dsimp only [go_sem,z2,e3,hlim]
           refine⟨n-(k+1),by omega,k+1,rfl,by omega,by rw [hstep];exact ha,?_⟩
           rw [hstep]
         · rw [if_pos ha] at hstep
           have hq:=hend _ ha hstep
           have g2:((opI 0 (dotF x y p k).1 (opI 2 (x k) (y k) p).1 p).2 !=0)=true:=by simpa using ha
           rw [hq]
           simp -dsimp only [go_sem,g2]
           rfl
     · rw [if_pos hm] at hstep
       have hq:=hend _ hm hstep
       have g1:((opI 2 (x k) (y k) p).2==0)=false:=by simpa using hm
       have g2:((opI 2 (x k) (y k) p).2 !=0)=true:=by simpa using hm
       rw [hq]
       simp -dsimp only [go_sem,g1,g2]
       rfl
   · have hge:k=n:=by have:=of_decide_eq_false h';omega
     subst hge
     simp -dsimp only [go_sem]
     refine Q0a ?_
     simp -dsimp only [go_sem]
     rw [hz]
end Go.Pv
end
section
/-The program's matrices:Mul,Vec,Mid,Norm,Id. -/
set_option maxRecDepth 100000
namespace Go.Pv
open Go.Proofs
theorem W0q :Q0w default=true:=by decide
theorem y0k (x y:Nat→Ivl) (p:Int): ∀k,Q0w (dotF x y p k).1=true
 | 0=>W0q
 | k+1=>by
  unfold dotF
  split
  · exact W0q
  · split
    · exact W0q
    · split
      · exact G0y _ _ _ _
      · split
        · exact W0q
        · exact G0y _ _ _ _
theorem Q2d (i j k:Nat) (a b:Mx) (st:Q0f) (ai:i<a.length) (aj:k<(a.getD i []).length) (bi:k<b.length) (bj:j<(b.getD k []).length):
 PCalls Tryz.prog 82 ([.sc (.int .i64 k)]++ [.ep [.sl .no (encM a)] 0,.ep [.sc (.int .i64 i)] 0,.ep [.sl .no (encM b)] 0,.ep [.sc (.int .i64 j)] 0]) st (fun r st'=>r= .tup [.agg (encI (atM a i k)),.agg (encI (atM b k j))]∧st'=st):=by
 have e1:=K0p a i ai
 have e2:=K0p b k bi
 have e3:=X0d (a.getD i []) k aj
 have e4:=X0d (b.getD k []) j bj
 refine Q0b none Tryz.func82 rfl fun E=>Q0a ?_
 simp -dsimp only [go_sem]
 refine Q0k Z0f 22 (.step 0 [] (.step 1 [] (.step 2 [] (.step 3 [] (.step 4 [] (.step 5 [] (.step 6 [] (.step 7 [] (.step 8 [] (.step 9 [] (.step 10 [] (.step 11 [] (.step 12 [] (.step 13 [] (.step 14 [7,10,11,13] (.step 15 [] (.done))))))))))))))))) (by decide+kernel) (by simp) ?_
 simp -dsimp only [go_sem,e1,e2,e3,e4]
 exact⟨by omega,by omega,by omega,by omega,rfl⟩
theorem K2k (i j:Nat) (a b:Mx) (p:Int) (st:Q0f) (ha:wM a) (hb:wM b) (v1:rightM a=true) (v2:rightM b=true) (v3:a.length=b.length) (hi:i<a.length) (hj:j<a.length):
 PCalls Tryz.prog 80 ([.sc (.int .i64 i),.sc (.int .i64 j)]++ [.ep [.sl .no (encM a)] 0,.ep [.sc (.int .i64 p)] 0,.ep [.sl .no (encM b)] 0]) st
  (fun r st'=>r= .tup [.agg (encI (dotF (atM a i) (fun k=>atM b k j) p a.length).1),.sc (.int .i64 (dotF (atM a i) (fun k=>atM b k j) p a.length).2)]∧st'=st):=by
 have hl:=J0t v1
 refine Q0b none Tryz.func80 rfl fun E=>Q0l (Q0a ?_)
 simp -dsimp only [go_sem]
 refine Z0u 0 ?_ ?_
 · simp -dsimp only [go_sem]
 simp -dsimp only [go_sem]
 refine Z0u 1 ?_ ?_
 · simp -dsimp only [go_sem]
 refine Q0a ?_
 simp -dsimp only [go_sem]
 refine(x1o _ [.ep [.sl .no (encM a)] 0,.ep [.sc (.int .i64 i)] 0,.ep [.sl .no (encM b)] 0,.ep [.sc (.int .i64 j)] 0] (atM a i) (fun k=>atM b k j) a.length p st rfl (by omega) rfl rfl rfl rfl (fun _=>rfl)
  (fun k hk=>⟨(ha.2 i hi).2 k (by rw [(X0e v1 hi).1];exact hk),(hb.2 k (by omega)).2 j (by rw [(X0e v2 (by omega)).1];omega)⟩) (fun k=>z0t (y0k _ _ _ _))
  fun k hk=>Q2d i j k a b st hi (by rw [(X0e v1 hi).1];exact hk) (by omega) (by rw [(X0e v2 (by omega)).1];omega)).mono ?_
 rintro r st ⟨rfl,rfl⟩
 simp -dsimp only [go_sem]
theorem q2c (a b:Mx) (p:Int) (st:Q0f) (ha:wM a) (hb:wM b):PCalls Tryz.prog 30 [.sl .no (encM a),.sl .no (encM b),.sc (.int .i64 p)] st (fun r st'=>r= .tup [.sl .no (encM (mulM a b p).1),.sc (.int .i64 (mulM a b p).2)]∧st'=st):=by
 refine Q0b none Tryz.func30 rfl fun E=>Q0l (Q0a ?_)
 simp -dsimp only [go_sem]
 refine Z0u 0 ?_ ?_
 · simp -dsimp only [go_sem]
 simp -dsimp only [go_sem]
 refine Z0u 1 ?_ ?_
 · simp -dsimp only [go_sem]
 simp -dsimp only [go_sem]
 refine Z0u 2 ?_ ?_
 · simp -dsimp only [go_sem]
 refine Q0a ?_
 simp -dsimp only [go_sem]
 refine(w0x a b p _ ha hb).mono ?_
 rintro r st ⟨rfl,rfl⟩
 cases hv:Q1u a b p with
 | false=>
  simp -dsimp only [go_sem]
  rw [mulM,if_neg (fun hh=>by rw [validM_iff.2 hh] at hv;cases hv)];rfl
 | true=>
  obtain⟨v1,v2,v3,v4⟩:=validM_iff.1 hv
  have hl:=J0t v1
  simp -dsimp only [go_sem]
  refine(j0g _ [.ep [.sl .no (encM a)] 0,.ep [.sc (.int .i64 p)] 0,.ep [.sl .no (encM b)] 0] (fun i j=>dotF (atM a i) (fun k=>atM b k j) p a.length) a.length st rfl (by omega) rfl rfl rfl rfl (fun _=>rfl) fun i j hi hj=>
   K2k i j a b p st ha hb v1 v2 v3 hi hj).mono ?_
  rintro r st ⟨rfl,rfl⟩
  simp -dsimp only [go_sem]
  rw [mulM,if_pos ⟨v1,v2,v3,v4⟩]
end Go.Pv
end
