/- Parts of the walk: PvAy, PvAz. -/
import Derived.Test.YtagacielooaapaaGreatDoorZCA
import Derived.Test.YtagacielooaapaaGreatDoorZAN
import Derived.Test.YtagacielooaapaaGreatDoorZE
import Derived.Test.YtagacielooaapaaGreatDoorZBI
set_option linter.unusedVariables false
set_option linter.unusedSimpArgs false
section
/-Lists of exact values,and lists of such lists. -/
namespace Go.Pv
open Go.Proofs
def Z0l (l:List Vl):List PV:=l.map fun c=>(.agg (encV c))
@[go_sem] theorem G0i (l:List Vl):(Z0l l).length=l.length:=by simp [Z0l]
@[go_sem] theorem z3y :Z0l []= []:=(rfl)
@[go_sem] theorem y3k (l:List Vl):(Z0l l).all (fun x=>x.cells.length==3)=true:=by simp [Z0l,PV.cells,encV]
@[go_sem] theorem y3l (l:List Vl):(Z0l l).all (fun x=>(x.cells.length==3)&&x.cells.all PV.cellOK)=true:=by simp [Z0l,PV.cells,PV.cellOK,Value.oneCell',encV]
@[go_sem] theorem U3f (l:List Vl) (n:Nat):(Z0l l).take n=Z0l (l.take n):=by simp [Z0l]
@[go_sem] theorem U3g (l:List Vl) (n:Nat):(Z0l l).drop n=Z0l (l.drop n):=by simp [Z0l]
@[go_sem] theorem x3a (l m:List Vl):Z0l l++Z0l m=Z0l (l++m):=by simp [Z0l]
@[go_sem] theorem y0e (l:List Vl) (c:Vl):Z0l l++ [.agg (encV c)]=Z0l (l++ [c]):=by simp [Z0l]
theorem U0p (l:List Vl) (n:Nat) (h:n<l.length):(Z0l l).getD n .junk= .agg (encV (l.getD n default)):=by
 simp [Z0l,List.getD_eq_getElem?_getD,h]
@[go_sem] theorem z3z (l:List Vl) (i:Nat) (cs:List PV):(Z0l l).map (PV.frz i cs)=Z0l l:=by
 simp only [Z0l,List.map_map]
 exact List.map_congr_left fun a _=>rfl
def Z0e (l:List (List Vl)):List PV:=l.map fun c=>(.sl .no (Z0l c))
@[go_sem] theorem X0q (l:List (List Vl)):(Z0e l).length=l.length:=by simp [Z0e]
@[go_sem] theorem x3b :Z0e []= []:=(rfl)
@[go_sem] theorem y3m (l:List (List Vl)):(Z0e l).all (fun x=>x.cells.length==1)=true:=by simp [Z0e,PV.cells]
@[go_sem] theorem y3n (l:List (List Vl)):(Z0e l).all (fun x=>(x.cells.length==1)&&x.cells.all PV.cellOK)=true:=by simp [Z0e,PV.cells,PV.cellOK,Value.oneCell']
@[go_sem] theorem U3h (l:List (List Vl)) (n:Nat):(Z0e l).take n=Z0e (l.take n):=by simp [Z0e]
@[go_sem] theorem U3j (l:List (List Vl)) (n:Nat):(Z0e l).drop n=Z0e (l.drop n):=by simp [Z0e]
@[go_sem] theorem x3e (l m:List (List Vl)):Z0e l++Z0e m=Z0e (l++m):=by simp [Z0e]
@[go_sem] theorem U3i (l:List (List Vl)) (c:(List Vl)):Z0e l++ [.sl .no (Z0l c)]=Z0e (l++ [c]):=by simp [Z0e]
theorem J1o (l:List (List Vl)) (n:Nat) (h:n<l.length):(Z0e l).getD n .junk= .sl .no (Z0l (l.getD n [])):=by
 simp [Z0e,List.getD_eq_getElem?_getD,h]
@[go_sem] theorem x3d (l:List (List Vl)) (i:Nat) (cs:List PV):(Z0e l).map (PV.frz i cs)=Z0e l:=by
 simp only [Z0e,List.map_map]
 exact List.map_congr_left fun a _=>rfl
@[go_sem] theorem x3c (l:List (List Vl)) (a b:Nat):(Z0e l).all (PV.lim a b)=true:=by
 simp [Z0e,PV.lim,PV.lim1]
@[go_sem] theorem y3o (l:List (List Vl)):fzOK (Z0e l)=true:=by
 simp [Z0e,fzOK,PV.closed2,PV.closed1]
@[go_sem] theorem y0y (l:List (List Vl)):(Z0e l).map PV.forget2=Z0e l:=by
 simp only [Z0e,List.map_map]
 exact List.map_congr_left fun a _=>rfl
@[go_sem] theorem q1p (l:List (List Vl)):(Z0e l).all PV.closed2=true:=by
 simp [Z0e,PV.closed2,PV.closed1]
theorem J1n (l:List Vl): ∀i,i<(Z0l l).length→((Z0l l).getD i .junk).cells.length=3:=fun i hi=>by
 rw [G0i] at hi
 rw [U0p l i hi];rfl
@[go_sem] theorem q1f (l:List Vl):(flat (Z0l l)).length=l.length*3:=by rw [J0w (J1n l),G0i]
theorem G2h (l:List Vl) (i:Nat) (x:Vl) (h:i<l.length):over (flat (Z0l l)) (i*3) (encV x)=flat (Z0l (l.set i x)):=by
 have:=q1e (J1n l) (i:=i) (o:=0) (c:=encV x) (by rw [G0i];exact h) (by simp [encV])
 rw [Nat.add_zero] at this
 rw [this,U0p l i h]
 congr 1
 simp [Z0l,List.map_set,over,encV,PV.cells]
theorem v0a {l:List Vl} {p:PV} (h:p∈flat (Z0l l)): ∃x:Vl,p∈encV x:=by
 obtain⟨y,hy,hp⟩:=Y1k h
 obtain⟨x,_,rfl⟩:=List.mem_map.1 hy
 exact⟨x,hp⟩
@[go_sem] theorem Q3n (l:List Vl):(flat (Z0l l)).map PV.forget2=flat (Z0l l):=H0b fun p hp=>by
 obtain⟨x,hx⟩:=v0a hp
 simp [encV] at hx
 rcases hx with rfl | rfl | rfl<;>rfl
@[go_sem] theorem Y3z (l:List Vl) (i sz:Nat) (cs:List PV):(flat (Z0l l)).map (PV.frzN i sz cs)=flat (Z0l l):=H0b fun p hp=>by
 obtain⟨x,hx⟩:=v0a hp
 simp [encV] at hx
 rcases hx with rfl | rfl | rfl<;>rfl
@[go_sem] theorem w3y (l:List Vl):fzOK (flat (Z0l l))=true:=by
 unfold fzOK
 rw [List.all_eq_true]
 intro p hp
 obtain⟨x,hx⟩:=v0a hp
 simp [encV] at hx
 rcases hx with rfl | rfl | rfl<;>rfl
@[go_sem] theorem z3k (l:List Vl) (a b:Nat):(flat (Z0l l)).all (PV.lim a b)=true:=by
 rw [List.all_eq_true]
 intro p hp
 obtain⟨x,hx⟩:=v0a hp
 simp [encV] at hx
 rcases hx with rfl | rfl | rfl<;>rfl
theorem W3q (l:List Vl):V0s 3 l.length (flat (Z0l l))=Z0l l:=by
 have:=q0l (sz:=3) (ys:=Z0l l) [] (fun y hy=>by
  obtain⟨x,_,rfl⟩:=List.mem_map.1 hy
  exact⟨rfl,rfl⟩)
 rw [G0i,List.append_nil] at this;exact this
theorem w2g (l:List Vl) (n:Nat) (h:n=l.length):V0s 3 n (flat (Z0l l))=Z0l l:=by subst h;exact W3q l
theorem H3o (n:Nat):repC n (encV default)=flat (Z0l (List.replicate n default)):=by
 simp [repC,flat,Z0l,PV.cells]
end Go.Pv
end
section
/-Exact values,lists and rows of them:plain,lent,in a frame's own slice. -/
namespace Go.Pv
theorem H3a (t:Tag) (l:List UInt32):Tame (.sl t (encD l)):= .sl fun e he=>by
 simp only [encD,List.mem_map] at he
 obtain⟨x,_,rfl⟩:=he
 exact .sc _
theorem G3x (x:Vl): ∀c∈encV x,Tame c:=fun c hc=>by
 simp only [encV,List.mem_cons,List.not_mem_nil,or_false] at hc
 rcases hc with rfl | rfl | rfl
 · exact .sc _
 · exact H3a _ _
 · exact .sc _
theorem X3h (t:Tag) (l:List Vl):Tame (.sl t (Z0l l)):= .sl fun e he=>by
 simp only [Z0l,List.mem_map] at he
 obtain⟨x,_,rfl⟩:=he
 exact .agg (G3x x)
theorem X3i (t:Tag) (l:List (List Vl)):Tame (.sl t (Z0e l)):= .sl fun e he=>by
 simp only [Z0e,List.mem_map] at he
 obtain⟨x,_,rfl⟩:=he
 exact X3h _ x
theorem Z3t (l:List UInt32):Wordy (.sl .no (encD l)):= .sl _ fun j hj=>by
 have hj':j<l.length:=by simpa [encD] using hj
 exact⟨_,⟨_,.inr rfl⟩,by simp only [encD,List.getD_eq_getElem?_getD,List.getElem?_map,List.getElem?_eq_getElem hj'];rfl⟩
theorem Z3s (x:Vl):Wordy (.agg (encV x)):= .agg _ fun c hc=>by
 simp only [encV,List.mem_cons,List.not_mem_nil,or_false] at hc
 rcases hc with rfl | rfl | rfl
 · exact .sc _
 · exact Z3t _
 · exact .sc _
theorem Y0z (l:List (List Vl)):(Z0e l).all PV.quiet=true:=by
 rw [List.all_eq_true]
 intro p hp
 simp only [Z0e,List.mem_map] at hp
 obtain⟨x,_,rfl⟩:=hp
 rfl
theorem J1p (rows:List (List Vl)) (R:List PV) (j:Nat) (h:j<rows.length):(Z0e rows++R).getD j .junk= .sl .no (Z0l (rows.getD j [])):=by
 rw [Q0n _ _ _ _ (by rw [X0q];exact h),J1o _ _ h]
theorem j2a {l:List PV} {i:Nat} (x:PV) (h:i<l.length):over l i [x]=l.set i x:=by
 unfold over
 rw [List.set_eq_take_append_cons_drop,if_pos h]
 simp
theorem G2v (rows:List (List Vl)) (R:List PV) (i:Nat) (hi:i<rows.length) (t:Tag) (r:List Vl):over (Z0e rows++R) i [.sl t (Z0l r)]=(Z0e rows).set i (.sl t (Z0l r))++R:=by
 rw [j2a _ (by rw [List.length_append,X0q];omega),List.set_append_left _ _ (by rw [X0q];exact hi)]
theorem G2w (rows:List (List Vl)) (R:List PV) (i:Nat) (t:Tag) (r:List Vl):((Z0e rows).set i (.sl t (Z0l r))++R).map PV.forget2=Z0e (rows.set i r)++R.map PV.forget2:=by
 rw [List.map_append,List.map_set,y0y]
 congr 1
 unfold Z0e
 rw [List.map_set]
 rfl
theorem q1q {rows:List (List Vl)} {R:List PV} {i k:Nat} {r:List Vl} (hR:R.all PV.quiet=true):((Z0e rows).set i (.sl (.own k) (Z0l r))++R).all PV.closed2=true:=by
 rw [List.all_append,Bool.and_eq_true,List.all_eq_true,List.all_eq_true]
 refine⟨fun p hp=> ?_,fun p hp=>(y0t (List.all_eq_true.1 hR p hp)).1⟩
 rcases List.mem_or_eq_of_mem_set hp with h | rfl
 · exact List.all_eq_true.1 (q1p rows) p h
 · rfl
theorem z2s {O:List (List Vl)} {R ys:List PV} {cap n by_:Nat} {id:TypeId} (hn:n=O.length) (hc:n≤cap) (hR:R.length=cap-n) (hq:R.all PV.quiet=true) (hl:n≤1000) (hby:by_≤1000):
 W1o (Z0e O++R) n cap [.sl .no ys] ⟨id,1,by_,false,true,false⟩:=by
 have h1:=X0q O
 refine⟨rfl,by show 0<1;decide,by show _=cap*1;rw [List.length_append,h1,hR];omega,by show n+1≤_;omega,?_,?_,by rw [List.all_append,Y0z,hq];rfl,rfl⟩
 · show(n+1)*by_≤_
   have:(n+1)*by_≤1001*1000:=Nat.mul_le_mul (by omega) hby
   omega
 · rfl
theorem q3r (q:List Mn) (rows:List (List Vl)) (k:Int) (cap:Nat) (R:List PV):
 LendOK [Z0e rows++R] [rows.length] ([]++ [.sl .no (Z0y q),.mr 0 rows.length cap,.sc (.int .i64 k)]++ [])∧
 ([]++ [PV.sl .no (Z0y q),.mr 0 rows.length cap,.sc (.int .i64 k)]++ []).map (PV.lend2 [Z0e rows++R])=
  [.sl .no (Z0y q),.sl .no (Z0e rows),.sc (.int .i64 k)]:=by
 have hcl: ∀o,o<rows.length→((Z0e rows++R).getD o .junk).closed1=true:=fun o ho=>by
  rw [J1p _ _ _ ho];rfl
 have hmap:((Z0e rows++R).take rows.length).map PV.forget1=Z0e rows:=by
  rw [List.take_append_of_le_length (by rw [X0q];omega),List.take_of_length_le (by rw [X0q];omega)]
  unfold Z0e
  rw [List.map_map]
  exact List.map_congr_left fun a _=>rfl
 have heq:([]++ [PV.sl .no (Z0y q),.mr 0 rows.length cap,.sc (.int .i64 k)]++ []).map (PV.lend2 [Z0e rows++R])=
  [.sl .no (Z0y q),.sl .no (Z0e rows),.sc (.int .i64 k)]:=by
  show [PV.sl .no (Z0y q),.sl .no (((Z0e rows++R).take rows.length).map PV.forget1),.sc (.int .i64 k)]=_
  rw [hmap]
 refine⟨⟨fun j o ho=> ?_,fun a ha=> ?_,fun a ha=> ?_⟩,heq⟩
 · match j,ho with
   | 0,ho=>
    have ho:o<rows.length:=ho
    refine⟨?_,?_⟩
    · show o<(Z0e rows++R).length
      rw [List.length_append,X0q];omega
    · show((Z0e rows++R).getD o .junk).notU=true
      rw [J1p _ _ _ ho];rfl
   | j+1,ho=>exact absurd ho (Nat.not_lt_zero _)
 · simp only [List.nil_append,List.cons_append,List.append_nil,List.mem_cons,List.not_mem_nil,or_false] at ha
   rcases ha with rfl | rfl | rfl
   · exact rfl
   · exact⟨Nat.le_refl _,hcl⟩
   · exact rfl
 · have hm:=List.mem_map_of_mem (f:=PV.lend2 [Z0e rows++R]) ha
   rw [heq] at hm
   generalize a.lend2 _=z at hm
   simp only [List.mem_cons,List.not_mem_nil,or_false] at hm
   rcases hm with rfl | rfl | rfl
   · exact((K2p _ q).low 0).1
   · exact((X3i _ rows).low 0).1
   · exact v0e _ _
end Go.Pv
end
