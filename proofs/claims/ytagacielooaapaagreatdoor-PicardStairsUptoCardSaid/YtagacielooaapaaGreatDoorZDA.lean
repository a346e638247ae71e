/- Parts of the walk: PvAy, PvAz. -/
import Derived.Test.YtagacielooaapaaGreatDoorZCA
import Derived.Test.YtagacielooaapaaGreatDoorZAN
import Derived.Test.YtagacielooaapaaGreatDoorZE
import Derived.Test.YtagacielooaapaaGreatDoorZBI
set_option linter.unusedVariables false
set_option linter.unusedSimpArgs false
section
/-Lists of exact values,and lists of such lists. -/
namespace Go.Pv
open Go.Proofs
def Z0o (l:List Vl):List PV:=l.map fun c=>(.agg (encV c))
@[go_sem] theorem G0v (l:List Vl):(Z0o l).length=l.length:=by simp [Z0o]
@[go_sem] theorem k3z :Z0o []= []:=(rfl)
@[go_sem] theorem X4h (l:List Vl):(Z0o l).all (fun x=>x.cells.length==3)=true:=by simp [Z0o,PV.cells,encV]
@[go_sem] theorem X4i (l:List Vl):(Z0o l).all (fun x=>(x.cells.length==3)&&x.cells.all PV.cellOK)=true:=by simp [Z0o,PV.cells,PV.cellOK,Value.oneCell',encV]
@[go_sem] theorem H3v (l:List Vl) (n:Nat):(Z0o l).take n=Z0o (l.take n):=by simp [Z0o]
@[go_sem] theorem H3w (l:List Vl) (n:Nat):(Z0o l).drop n=Z0o (l.drop n):=by simp [Z0o]
@[go_sem] theorem v3b (l m:List Vl):Z0o l++Z0o m=Z0o (l++m):=by simp [Z0o]
@[go_sem] theorem Q1t (l:List Vl) (c:Vl):Z0o l++ [.agg (encV c)]=Z0o (l++ [c]):=by simp [Z0o]
theorem G0c (l:List Vl) (n:Nat) (h:n<l.length):(Z0o l).getD n .junk= .agg (encV (l.getD n default)):=by
 simp [Z0o,List.getD_eq_getElem?_getD,h]
@[go_sem] theorem v3a (l:List Vl) (i:Nat) (cs:List PV):(Z0o l).map (PV.frz i cs)=Z0o l:=by
 simp only [Z0o,List.map_map]
 exact List.map_congr_left fun a _=>rfl
def Z0g (l:List (List Vl)):List PV:=l.map fun c=>(.sl .no (Z0o c))
@[go_sem] theorem X0r (l:List (List Vl)):(Z0g l).length=l.length:=by simp [Z0g]
@[go_sem] theorem v3c :Z0g []= []:=(rfl)
@[go_sem] theorem X4j (l:List (List Vl)):(Z0g l).all (fun x=>x.cells.length==1)=true:=by simp [Z0g,PV.cells]
@[go_sem] theorem X4k (l:List (List Vl)):(Z0g l).all (fun x=>(x.cells.length==1)&&x.cells.all PV.cellOK)=true:=by simp [Z0g,PV.cells,PV.cellOK,Value.oneCell']
@[go_sem] theorem H3x (l:List (List Vl)) (n:Nat):(Z0g l).take n=Z0g (l.take n):=by simp [Z0g]
@[go_sem] theorem H3z (l:List (List Vl)) (n:Nat):(Z0g l).drop n=Z0g (l.drop n):=by simp [Z0g]
@[go_sem] theorem v3f (l m:List (List Vl)):Z0g l++Z0g m=Z0g (l++m):=by simp [Z0g]
@[go_sem] theorem H3y (l:List (List Vl)) (c:(List Vl)):Z0g l++ [.sl .no (Z0o c)]=Z0g (l++ [c]):=by simp [Z0g]
theorem K1v (l:List (List Vl)) (n:Nat) (h:n<l.length):(Z0g l).getD n .junk= .sl .no (Z0o (l.getD n [])):=by
 simp [Z0g,List.getD_eq_getElem?_getD,h]
@[go_sem] theorem v3e (l:List (List Vl)) (i:Nat) (cs:List PV):(Z0g l).map (PV.frz i cs)=Z0g l:=by
 simp only [Z0g,List.map_map]
 exact List.map_congr_left fun a _=>rfl
@[go_sem] theorem v3d (l:List (List Vl)) (a b:Nat):(Z0g l).all (PV.lim a b)=true:=by
 simp [Z0g,PV.lim,PV.lim1]
@[go_sem] theorem X4l (l:List (List Vl)):fzOK (Z0g l)=true:=by
 simp [Z0g,fzOK,PV.closed2,PV.closed1]
@[go_sem] theorem Z1m (l:List (List Vl)):(Z0g l).map PV.forget2=Z0g l:=by
 simp only [Z0g,List.map_map]
 exact List.map_congr_left fun a _=>rfl
@[go_sem] theorem j1e (l:List (List Vl)):(Z0g l).all PV.closed2=true:=by
 simp [Z0g,PV.closed2,PV.closed1]
theorem K1u (l:List Vl): ∀i,i<(Z0o l).length→((Z0o l).getD i .junk).cells.length=3:=fun i hi=>by
 rw [G0v] at hi
 rw [G0c l i hi];rfl
@[go_sem] theorem x1s (l:List Vl):(flat (Z0o l)).length=l.length*3:=by rw [J0w (K1u l),G0v]
theorem H2w (l:List Vl) (i:Nat) (x:Vl) (h:i<l.length):over (flat (Z0o l)) (i*3) (encV x)=flat (Z0o (l.set i x)):=by
 have:=H2v (K1u l) (i:=i) (o:=0) (c:=encV x) (by rw [G0v];exact h) (by simp [encV])
 rw [Nat.add_zero] at this
 rw [this,G0c l i h]
 congr 1
 simp [Z0o,List.map_set,over,encV,PV.cells]
theorem w0s {l:List Vl} {p:PV} (h:p∈flat (Z0o l)): ∃x:Vl,p∈encV x:=by
 obtain⟨y,hy,hp⟩:=G1p h
 obtain⟨x,_,rfl⟩:=List.mem_map.1 hy
 exact⟨x,hp⟩
@[go_sem] theorem X3v (l:List Vl):(flat (Z0o l)).map PV.forget2=flat (Z0o l):=H0w fun p hp=>by
 obtain⟨x,hx⟩:=w0s hp
 simp [encV] at hx
 rcases hx with rfl | rfl | rfl<;>rfl
@[go_sem] theorem H3p (l:List Vl) (i sz:Nat) (cs:List PV):(flat (Z0o l)).map (PV.frzN i sz cs)=flat (Z0o l):=H0w fun p hp=>by
 obtain⟨x,hx⟩:=w0s hp
 simp [encV] at hx
 rcases hx with rfl | rfl | rfl<;>rfl
@[go_sem] theorem Z4w (l:List Vl):fzOK (flat (Z0o l))=true:=by
 unfold fzOK
 rw [List.all_eq_true]
 intro p hp
 obtain⟨x,hx⟩:=w0s hp
 simp [encV] at hx
 rcases hx with rfl | rfl | rfl<;>rfl
@[go_sem] theorem k3l (l:List Vl) (a b:Nat):(flat (Z0o l)).all (PV.lim a b)=true:=by
 rw [List.all_eq_true]
 intro p hp
 obtain⟨x,hx⟩:=w0s hp
 simp [encV] at hx
 rcases hx with rfl | rfl | rfl<;>rfl
theorem G3g (l:List Vl):W0j 3 l.length (flat (Z0o l))=Z0o l:=by
 have:=v0b (sz:=3) (ys:=Z0o l) [] (fun y hy=>by
  obtain⟨x,_,rfl⟩:=List.mem_map.1 hy
  exact⟨rfl,rfl⟩)
 rw [G0v,List.append_nil] at this;exact this
theorem Q3q (l:List Vl) (n:Nat) (h:n=l.length):W0j 3 n (flat (Z0o l))=Z0o l:=by subst h;exact G3g l
theorem x3j (n:Nat):repC n (encV default)=flat (Z0o (List.replicate n default)):=by
 simp [repC,flat,Z0o,PV.cells]
end Go.Pv
end
section
/-Exact values,lists and rows of them:plain,lent,in a frame's own slice. -/
namespace Go.Pv
theorem z3u (t:Tag) (l:List UInt32):Tame (.sl t (encD l)):= .sl fun e he=>by
 simp only [encD,List.mem_map] at he
 obtain⟨x,_,rfl⟩:=he
 exact .sc _
theorem z3s (x:Vl): ∀c∈encV x,Tame c:=fun c hc=>by
 simp only [encV,List.mem_cons,List.not_mem_nil,or_false] at hc
 rcases hc with rfl | rfl | rfl
 · exact .sc _
 · exact z3u _ _
 · exact .sc _
theorem K3s (t:Tag) (l:List Vl):Tame (.sl t (Z0o l)):= .sl fun e he=>by
 simp only [Z0o,List.mem_map] at he
 obtain⟨x,_,rfl⟩:=he
 exact .agg (z3s x)
theorem K3t (t:Tag) (l:List (List Vl)):Tame (.sl t (Z0g l)):= .sl fun e he=>by
 simp only [Z0g,List.mem_map] at he
 obtain⟨x,_,rfl⟩:=he
 exact K3s _ x
theorem K3c (l:List UInt32):Wordy (.sl .no (encD l)):= .sl _ fun j hj=>by
 have hj':j<l.length:=by simpa [encD] using hj
 exact⟨_,⟨_,.inr rfl⟩,by simp only [encD,List.getD_eq_getElem?_getD,List.getElem?_map,List.getElem?_eq_getElem hj'];rfl⟩
theorem K3b (x:Vl):Wordy (.agg (encV x)):= .agg _ fun c hc=>by
 simp only [encV,List.mem_cons,List.not_mem_nil,or_false] at hc
 rcases hc with rfl | rfl | rfl
 · exact .sc _
 · exact K3c _
 · exact .sc _
theorem U0g (l:List (List Vl)):(Z0g l).all PV.quiet=true:=by
 rw [List.all_eq_true]
 intro p hp
 simp only [Z0g,List.mem_map] at hp
 obtain⟨x,_,rfl⟩:=hp
 rfl
theorem K1w (rows:List (List Vl)) (R:List PV) (j:Nat) (h:j<rows.length):(Z0g rows++R).getD j .junk= .sl .no (Z0o (rows.getD j [])):=by
 rw [Q0s _ _ _ _ (by rw [X0r];exact h),K1v _ _ h]
theorem v2a {l:List PV} {i:Nat} (x:PV) (h:i<l.length):over l i [x]=l.set i x:=by
 unfold over
 rw [List.set_eq_take_append_cons_drop,if_pos h]
 simp
theorem q2i (rows:List (List Vl)) (R:List PV) (i:Nat) (hi:i<rows.length) (t:Tag) (r:List Vl):over (Z0g rows++R) i [.sl t (Z0o r)]=(Z0g rows).set i (.sl t (Z0o r))++R:=by
 rw [v2a _ (by rw [List.length_append,X0r];omega),List.set_append_left _ _ (by rw [X0r];exact hi)]
theorem q2j (rows:List (List Vl)) (R:List PV) (i:Nat) (t:Tag) (r:List Vl):((Z0g rows).set i (.sl t (Z0o r))++R).map PV.forget2=Z0g (rows.set i r)++R.map PV.forget2:=by
 rw [List.map_append,List.map_set,Z1m]
 congr 1
 unfold Z0g
 rw [List.map_set]
 rfl
theorem j1f {rows:List (List Vl)} {R:List PV} {i k:Nat} {r:List Vl} (hR:R.all PV.quiet=true):((Z0g rows).set i (.sl (.own k) (Z0o r))++R).all PV.closed2=true:=by
 rw [List.all_append,Bool.and_eq_true,List.all_eq_true,List.all_eq_true]
 refine⟨fun p hp=> ?_,fun p hp=>(Z1e (List.all_eq_true.1 hR p hp)).1⟩
 rcases List.mem_or_eq_of_mem_set hp with h | rfl
 · exact List.all_eq_true.1 (j1e rows) p h
 · rfl
theorem j2r {O:List (List Vl)} {R ys:List PV} {cap n by_:Nat} {id:TypeId} (hn:n=O.length) (hc:n≤cap) (hR:R.length=cap-n) (hq:R.all PV.quiet=true) (hl:n≤1000) (hby:by_≤1000):
 k1f (Z0g O++R) n cap [.sl .no ys] ⟨id,1,by_,false,true,false⟩:=by
 have h1:=X0r O
 refine⟨rfl,by show 0<1;decide,by show _=cap*1;rw [List.length_append,h1,hR];omega,by show n+1≤_;omega,?_,?_,by rw [List.all_append,U0g,hq];rfl,rfl⟩
 · show(n+1)*by_≤_
   have:(n+1)*by_≤1001*1000:=Nat.mul_le_mul (by omega) hby
   omega
 · rfl
theorem j3o (q:List Mn) (rows:List (List Vl)) (k:Int) (cap:Nat) (R:List PV):
 LendOK [Z0g rows++R] [rows.length] ([]++ [.sl .no (X0c q),.mr 0 rows.length cap,.sc (.int .i64 k)]++ [])∧
 ([]++ [PV.sl .no (X0c q),.mr 0 rows.length cap,.sc (.int .i64 k)]++ []).map (PV.lend2 [Z0g rows++R])=
  [.sl .no (X0c q),.sl .no (Z0g rows),.sc (.int .i64 k)]:=by
 have hcl: ∀o,o<rows.length→((Z0g rows++R).getD o .junk).closed1=true:=fun o ho=>by
  rw [K1w _ _ _ ho];rfl
 have hmap:((Z0g rows++R).take rows.length).map PV.forget1=Z0g rows:=by
  rw [List.take_append_of_le_length (by rw [X0r];omega),List.take_of_length_le (by rw [X0r];omega)]
  unfold Z0g
  rw [List.map_map]
  exact List.map_congr_left fun a _=>rfl
 have heq:([]++ [PV.sl .no (X0c q),.mr 0 rows.length cap,.sc (.int .i64 k)]++ []).map (PV.lend2 [Z0g rows++R])=
  [.sl .no (X0c q),.sl .no (Z0g rows),.sc (.int .i64 k)]:=by
  show [PV.sl .no (X0c q),.sl .no (((Z0g rows++R).take rows.length).map PV.forget1),.sc (.int .i64 k)]=_
  rw [hmap]
 refine⟨⟨fun j o ho=> ?_,fun a ha=> ?_,fun a ha=> ?_⟩,heq⟩
 · match j,ho with
   | 0,ho=>
    have ho:o<rows.length:=ho
    refine⟨?_,?_⟩
    · show o<(Z0g rows++R).length
      rw [List.length_append,X0r];omega
    · show((Z0g rows++R).getD o .junk).notU=true
      rw [K1w _ _ _ ho];rfl
   | j+1,ho=>exact absurd ho (Nat.not_lt_zero _)
 · simp only [List.nil_append,List.cons_append,List.append_nil,List.mem_cons,List.not_mem_nil,or_false] at ha
   rcases ha with rfl | rfl | rfl
   · exact rfl
   · exact⟨Nat.le_refl _,hcl⟩
   · exact rfl
 · have hm:=List.mem_map_of_mem (f:=PV.lend2 [Z0g rows++R]) ha
   rw [heq] at hm
   generalize a.lend2 _=z at hm
   simp only [List.mem_cons,List.not_mem_nil,or_false] at hm
   rcases hm with rfl | rfl | rfl
   · exact((K3u _ q).low 0).1
   · exact((K3t _ rows).low 0).1
   · exact Y1c _ _
end Go.Pv
end
