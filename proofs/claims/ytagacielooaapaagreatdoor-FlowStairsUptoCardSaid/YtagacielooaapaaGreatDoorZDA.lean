/- Parts of the walk: PvAy, PvAz. -/
import Derived.Test.YtagacielooaapaaGreatDoorZCA
import Derived.Test.YtagacielooaapaaGreatDoorZAN
import Derived.Test.YtagacielooaapaaGreatDoorZE
import Derived.Test.YtagacielooaapaaGreatDoorZBI
set_option linter.unusedVariables false
set_option linter.unusedSimpArgs false
section
/-Lists of exact values,and lists of such lists. -/
namespace Go.Pv
open Go.Proofs
def Z0l (l:List Vl):List PV:=l.map fun c=>(.agg (encV c))
@[go_sem] theorem G0n (l:List Vl):(Z0l l).length=l.length:=by simp [Z0l]
@[go_sem] theorem j3t :Z0l []= []:=(rfl)
@[go_sem] theorem Z4k (l:List Vl):(Z0l l).all (fun x=>x.cells.length==3)=true:=by simp [Z0l,PV.cells,encV]
@[go_sem] theorem Z4l (l:List Vl):(Z0l l).all (fun x=>(x.cells.length==3)&&x.cells.all PV.cellOK)=true:=by simp [Z0l,PV.cells,PV.cellOK,Value.oneCell',encV]
@[go_sem] theorem G3x (l:List Vl) (n:Nat):(Z0l l).take n=Z0l (l.take n):=by simp [Z0l]
@[go_sem] theorem G3y (l:List Vl) (n:Nat):(Z0l l).drop n=Z0l (l.drop n):=by simp [Z0l]
@[go_sem] theorem j3v (l m:List Vl):Z0l l++Z0l m=Z0l (l++m):=by simp [Z0l]
@[go_sem] theorem y0p (l:List Vl) (c:Vl):Z0l l++ [.agg (encV c)]=Z0l (l++ [c]):=by simp [Z0l]
theorem U0u (l:List Vl) (n:Nat) (h:n<l.length):(Z0l l).getD n .junk= .agg (encV (l.getD n default)):=by
 simp [Z0l,List.getD_eq_getElem?_getD,h]
@[go_sem] theorem j3u (l:List Vl) (i:Nat) (cs:List PV):(Z0l l).map (PV.frz i cs)=Z0l l:=by
 simp only [Z0l,List.map_map]
 exact List.map_congr_left fun a _=>rfl
def Z0f (l:List (List Vl)):List PV:=l.map fun c=>(.sl .no (Z0l c))
@[go_sem] theorem X0s (l:List (List Vl)):(Z0f l).length=l.length:=by simp [Z0f]
@[go_sem] theorem j3w :Z0f []= []:=(rfl)
@[go_sem] theorem Z4m (l:List (List Vl)):(Z0f l).all (fun x=>x.cells.length==1)=true:=by simp [Z0f,PV.cells]
@[go_sem] theorem Z4n (l:List (List Vl)):(Z0f l).all (fun x=>(x.cells.length==1)&&x.cells.all PV.cellOK)=true:=by simp [Z0f,PV.cells,PV.cellOK,Value.oneCell']
@[go_sem] theorem G3z (l:List (List Vl)) (n:Nat):(Z0f l).take n=Z0f (l.take n):=by simp [Z0f]
@[go_sem] theorem H3b (l:List (List Vl)) (n:Nat):(Z0f l).drop n=Z0f (l.drop n):=by simp [Z0f]
@[go_sem] theorem j3z (l m:List (List Vl)):Z0f l++Z0f m=Z0f (l++m):=by simp [Z0f]
@[go_sem] theorem H3a (l:List (List Vl)) (c:(List Vl)):Z0f l++ [.sl .no (Z0l c)]=Z0f (l++ [c]):=by simp [Z0f]
theorem J1y (l:List (List Vl)) (n:Nat) (h:n<l.length):(Z0f l).getD n .junk= .sl .no (Z0l (l.getD n [])):=by
 simp [Z0f,List.getD_eq_getElem?_getD,h]
@[go_sem] theorem j3y (l:List (List Vl)) (i:Nat) (cs:List PV):(Z0f l).map (PV.frz i cs)=Z0f l:=by
 simp only [Z0f,List.map_map]
 exact List.map_congr_left fun a _=>rfl
@[go_sem] theorem j3x (l:List (List Vl)) (a b:Nat):(Z0f l).all (PV.lim a b)=true:=by
 simp [Z0f,PV.lim,PV.lim1]
@[go_sem] theorem Z4o (l:List (List Vl)):fzOK (Z0f l)=true:=by
 simp [Z0f,fzOK,PV.closed2,PV.closed1]
@[go_sem] theorem Q1i (l:List (List Vl)):(Z0f l).map PV.forget2=Z0f l:=by
 simp only [Z0f,List.map_map]
 exact List.map_congr_left fun a _=>rfl
@[go_sem] theorem z1q (l:List (List Vl)):(Z0f l).all PV.closed2=true:=by
 simp [Z0f,PV.closed2,PV.closed1]
theorem J1x (l:List Vl): ∀i,i<(Z0l l).length→((Z0l l).getD i .junk).cells.length=3:=fun i hi=>by
 rw [G0n] at hi
 rw [U0u l i hi];rfl
@[go_sem] theorem z1e (l:List Vl):(flat (Z0l l)).length=l.length*3:=by rw [J0x (J1x l),G0n]
theorem H2n (l:List Vl) (i:Nat) (x:Vl) (h:i<l.length):over (flat (Z0l l)) (i*3) (encV x)=flat (Z0l (l.set i x)):=by
 have:=z1d (J1x l) (i:=i) (o:=0) (c:=encV x) (by rw [G0n];exact h) (by simp [encV])
 rw [Nat.add_zero] at this
 rw [this,U0u l i h]
 congr 1
 simp [Z0l,List.map_set,over,encV,PV.cells]
theorem v0m {l:List Vl} {p:PV} (h:p∈flat (Z0l l)): ∃x:Vl,p∈encV x:=by
 obtain⟨y,hy,hp⟩:=U1d h
 obtain⟨x,_,rfl⟩:=List.mem_map.1 hy
 exact⟨x,hp⟩
@[go_sem] theorem X3a (l:List Vl):(flat (Z0l l)).map PV.forget2=flat (Z0l l):=H0j fun p hp=>by
 obtain⟨x,hx⟩:=v0m hp
 simp [encV] at hx
 rcases hx with rfl | rfl | rfl<;>rfl
@[go_sem] theorem G3r (l:List Vl) (i sz:Nat) (cs:List PV):(flat (Z0l l)).map (PV.frzN i sz cs)=flat (Z0l l):=H0j fun p hp=>by
 obtain⟨x,hx⟩:=v0m hp
 simp [encV] at hx
 rcases hx with rfl | rfl | rfl<;>rfl
@[go_sem] theorem Q4z (l:List Vl):fzOK (flat (Z0l l))=true:=by
 unfold fzOK
 rw [List.all_eq_true]
 intro p hp
 obtain⟨x,hx⟩:=v0m hp
 simp [encV] at hx
 rcases hx with rfl | rfl | rfl<;>rfl
@[go_sem] theorem j3f (l:List Vl) (a b:Nat):(flat (Z0l l)).all (PV.lim a b)=true:=by
 rw [List.all_eq_true]
 intro p hp
 obtain⟨x,hx⟩:=v0m hp
 simp [encV] at hx
 rcases hx with rfl | rfl | rfl<;>rfl
theorem U3i (l:List Vl):V0t 3 l.length (flat (Z0l l))=Z0l l:=by
 have:=q0s (sz:=3) (ys:=Z0l l) [] (fun y hy=>by
  obtain⟨x,_,rfl⟩:=List.mem_map.1 hy
  exact⟨rfl,rfl⟩)
 rw [G0n,List.append_nil] at this;exact this
theorem y2t (l:List Vl) (n:Nat) (h:n=l.length):V0t 3 n (flat (Z0l l))=Z0l l:=by subst h;exact U3i l
theorem z3i (n:Nat):repC n (encV default)=flat (Z0l (List.replicate n default)):=by
 simp [repC,flat,Z0l,PV.cells]
end Go.Pv
end
section
/-Exact values,lists and rows of them:plain,lent,in a frame's own slice. -/
namespace Go.Pv
theorem q3u (t:Tag) (l:List UInt32):Tame (.sl t (encD l)):= .sl fun e he=>by
 simp only [encD,List.mem_map] at he
 obtain⟨x,_,rfl⟩:=he
 exact .sc _
theorem q3r (x:Vl): ∀c∈encV x,Tame c:=fun c hc=>by
 simp only [encV,List.mem_cons,List.not_mem_nil,or_false] at hc
 rcases hc with rfl | rfl | rfl
 · exact .sc _
 · exact q3u _ _
 · exact .sc _
theorem J3v (t:Tag) (l:List Vl):Tame (.sl t (Z0l l)):= .sl fun e he=>by
 simp only [Z0l,List.mem_map] at he
 obtain⟨x,_,rfl⟩:=he
 exact .agg (q3r x)
theorem J3w (t:Tag) (l:List (List Vl)):Tame (.sl t (Z0f l)):= .sl fun e he=>by
 simp only [Z0f,List.mem_map] at he
 obtain⟨x,_,rfl⟩:=he
 exact J3v _ x
theorem J3h (l:List UInt32):Wordy (.sl .no (encD l)):= .sl _ fun j hj=>by
 have hj':j<l.length:=by simpa [encD] using hj
 exact⟨_,⟨_,.inr rfl⟩,by simp only [encD,List.getD_eq_getElem?_getD,List.getElem?_map,List.getElem?_eq_getElem hj'];rfl⟩
theorem J3g (x:Vl):Wordy (.agg (encV x)):= .agg _ fun c hc=>by
 simp only [encV,List.mem_cons,List.not_mem_nil,or_false] at hc
 rcases hc with rfl | rfl | rfl
 · exact .sc _
 · exact J3h _
 · exact .sc _
theorem U0e (l:List (List Vl)):(Z0f l).all PV.quiet=true:=by
 rw [List.all_eq_true]
 intro p hp
 simp only [Z0f,List.mem_map] at hp
 obtain⟨x,_,rfl⟩:=hp
 rfl
theorem J1z (rows:List (List Vl)) (R:List PV) (j:Nat) (h:j<rows.length):(Z0f rows++R).getD j .junk= .sl .no (Z0l (rows.getD j [])):=by
 rw [Q0p _ _ _ _ (by rw [X0s];exact h),J1y _ _ h]
theorem k2m {l:List PV} {i:Nat} (x:PV) (h:i<l.length):over l i [x]=l.set i x:=by
 unfold over
 rw [List.set_eq_take_append_cons_drop,if_pos h]
 simp
theorem q2a (rows:List (List Vl)) (R:List PV) (i:Nat) (hi:i<rows.length) (t:Tag) (r:List Vl):over (Z0f rows++R) i [.sl t (Z0l r)]=(Z0f rows).set i (.sl t (Z0l r))++R:=by
 rw [k2m _ (by rw [List.length_append,X0s];omega),List.set_append_left _ _ (by rw [X0s];exact hi)]
theorem q2b (rows:List (List Vl)) (R:List PV) (i:Nat) (t:Tag) (r:List Vl):((Z0f rows).set i (.sl t (Z0l r))++R).map PV.forget2=Z0f (rows.set i r)++R.map PV.forget2:=by
 rw [List.map_append,List.map_set,Q1i]
 congr 1
 unfold Z0f
 rw [List.map_set]
 rfl
theorem z1r {rows:List (List Vl)} {R:List PV} {i k:Nat} {r:List Vl} (hR:R.all PV.quiet=true):((Z0f rows).set i (.sl (.own k) (Z0l r))++R).all PV.closed2=true:=by
 rw [List.all_append,Bool.and_eq_true,List.all_eq_true,List.all_eq_true]
 refine⟨fun p hp=> ?_,fun p hp=>(Q1e (List.all_eq_true.1 hR p hp)).1⟩
 rcases List.mem_or_eq_of_mem_set hp with h | rfl
 · exact List.all_eq_true.1 (z1q rows) p h
 · rfl
theorem j2g {O:List (List Vl)} {R ys:List PV} {cap n by_:Nat} {id:TypeId} (hn:n=O.length) (hc:n≤cap) (hR:R.length=cap-n) (hq:R.all PV.quiet=true) (hl:n≤1000) (hby:by_≤1000):
 Y1a (Z0f O++R) n cap [.sl .no ys] ⟨id,1,by_,false,true,false⟩:=by
 have h1:=X0s O
 refine⟨rfl,by show 0<1;decide,by show _=cap*1;rw [List.length_append,h1,hR];omega,by show n+1≤_;omega,?_,?_,by rw [List.all_append,U0e,hq];rfl,rfl⟩
 · show(n+1)*by_≤_
   have:(n+1)*by_≤1001*1000:=Nat.mul_le_mul (by omega) hby
   omega
 · rfl
theorem x3k (q:List Mn) (rows:List (List Vl)) (k:Int) (cap:Nat) (R:List PV):
 LendOK [Z0f rows++R] [rows.length] ([]++ [.sl .no (X0c q),.mr 0 rows.length cap,.sc (.int .i64 k)]++ [])∧
 ([]++ [PV.sl .no (X0c q),.mr 0 rows.length cap,.sc (.int .i64 k)]++ []).map (PV.lend2 [Z0f rows++R])=
  [.sl .no (X0c q),.sl .no (Z0f rows),.sc (.int .i64 k)]:=by
 have hcl: ∀o,o<rows.length→((Z0f rows++R).getD o .junk).closed1=true:=fun o ho=>by
  rw [J1z _ _ _ ho];rfl
 have hmap:((Z0f rows++R).take rows.length).map PV.forget1=Z0f rows:=by
  rw [List.take_append_of_le_length (by rw [X0s];omega),List.take_of_length_le (by rw [X0s];omega)]
  unfold Z0f
  rw [List.map_map]
  exact List.map_congr_left fun a _=>rfl
 have heq:([]++ [PV.sl .no (X0c q),.mr 0 rows.length cap,.sc (.int .i64 k)]++ []).map (PV.lend2 [Z0f rows++R])=
  [.sl .no (X0c q),.sl .no (Z0f rows),.sc (.int .i64 k)]:=by
  show [PV.sl .no (X0c q),.sl .no (((Z0f rows++R).take rows.length).map PV.forget1),.sc (.int .i64 k)]=_
  rw [hmap]
 refine⟨⟨fun j o ho=> ?_,fun a ha=> ?_,fun a ha=> ?_⟩,heq⟩
 · match j,ho with
   | 0,ho=>
    have ho:o<rows.length:=ho
    refine⟨?_,?_⟩
    · show o<(Z0f rows++R).length
      rw [List.length_append,X0s];omega
    · show((Z0f rows++R).getD o .junk).notU=true
      rw [J1z _ _ _ ho];rfl
   | j+1,ho=>exact absurd ho (Nat.not_lt_zero _)
 · simp only [List.nil_append,List.cons_append,List.append_nil,List.mem_cons,List.not_mem_nil,or_false] at ha
   rcases ha with rfl | rfl | rfl
   · exact rfl
   · exact⟨Nat.le_refl _,hcl⟩
   · exact rfl
 · have hm:=List.mem_map_of_mem (f:=PV.lend2 [Z0f rows++R]) ha
   rw [heq] at hm
   generalize a.lend2 _=z at hm
   simp only [List.mem_cons,List.not_mem_nil,or_false] at hm
   rcases hm with rfl | rfl | rfl
   · exact((V2u _ q).low 0).1
   · exact((J3w _ rows).low 0).1
   · exact v0q _ _
end Go.Pv
end
