/- Parts of the walk: PvX, PvY, M3, M4, M5, M6, M7, M8, M9. -/
import Derived.Test.YtofoadghajnglaaGreatDoorQD
set_option linter.unusedVariables false
set_option linter.unusedSimpArgs false
section
/-Lists of elements of the program's types,as pure values;numbers,intervals,pieces. -/
namespace Go.Pv
open Go.Proofs
attribute [go_sem] Int.reduceBNe Int.reduceBEq
theorem X0b :Tryz.prog.follows .mixedOrders=true:=by kernel_rfl
def encW (l:List UInt64):List PV:=l.map fun c=>(.sc (.int .u64 c.toNat))
@[go_sem] theorem Z0d (l:List UInt64):(encW l).length=l.length:=by simp [encW]
@[go_sem] theorem W2j :encW []= []:=(rfl)
@[go_sem] theorem q3j (l:List UInt64):(encW l).all (fun x=>x.cells.length==1)=true:=by simp [encW,PV.cells]
@[go_sem] theorem q3k (l:List UInt64):(encW l).all (fun x=>(x.cells.length==1)&&x.cells.all PV.cellOK)=true:=by simp [encW,PV.cells,PV.cellOK,Value.oneCell']
@[go_sem] theorem Q3s (l:List UInt64) (n:Nat):(encW l).take n=encW (l.take n):=by simp [encW]
@[go_sem] theorem Q3u (l:List UInt64) (n:Nat):(encW l).drop n=encW (l.drop n):=by simp [encW]
@[go_sem] theorem V3v (l m:List UInt64):encW l++encW m=encW (l++m):=by simp [encW]
@[go_sem] theorem Q3t (l:List UInt64) (c:UInt64):encW l++ [.sc (.int .u64 c.toNat)]=encW (l++ [c]):=by simp [encW]
theorem Q0y (l:List UInt64) (n:Nat) (h:n<l.length):(encW l).getD n .junk= .sc (.int .u64 (l.getD n 0).toNat):=by
 simp [encW,List.getD_eq_getElem?_getD,h]
@[go_sem] theorem V3u (l:List UInt64) (i:Nat) (cs:List PV):(encW l).map (PV.frz i cs)=encW l:=by
 simp only [encW,List.map_map]
 exact List.map_congr_left fun a _=>rfl
theorem J0i (l:List UInt64) (n:Nat) (c:UInt64) (h:n<l.length):over (encW l) n [.sc (.int .u64 c.toNat)]=encW (l.set n c):=by
 unfold over encW
 rw [List.set_eq_take_append_cons_drop,if_pos h]
 simp
@[go_sem] theorem V3t (l:List UInt64) (a b:Nat):(encW l).all (PV.lim a b)=true:=by
 simp [encW,PV.lim,PV.lim1]
@[go_sem] theorem q3l (l:List UInt64):fzOK (encW l)=true:=by
 simp [encW,fzOK,PV.closed2,PV.closed1]
@[go_sem] theorem x2s (l:List UInt64):(encW l).map PV.forget2=encW l:=by
 simp only [encW,List.map_map]
 exact List.map_congr_left fun a _=>rfl
@[go_sem] theorem x2t (l:List UInt64):(encW l).all PV.closed2=true:=by
 simp [encW,PV.closed2,PV.closed1]
@[go_sem] theorem V3s (n:Nat):List.replicate n (PV.sc (.int .u64 0))=encW (List.replicate n 0):=by simp [encW]
def encD (l:List UInt32):List PV:=l.map fun c=>(.sc (.int .u32 c.toNat))
@[go_sem] theorem x2w (l:List UInt32):(encD l).length=l.length:=by simp [encD]
@[go_sem] theorem W3p :encD []= []:=(rfl)
@[go_sem] theorem q3t (l:List UInt32):(encD l).all (fun x=>x.cells.length==1)=true:=by simp [encD,PV.cells]
@[go_sem] theorem q3u (l:List UInt32):(encD l).all (fun x=>(x.cells.length==1)&&x.cells.all PV.cellOK)=true:=by simp [encD,PV.cells,PV.cellOK,Value.oneCell']
@[go_sem] theorem Z3w (l:List UInt32) (n:Nat):(encD l).take n=encD (l.take n):=by simp [encD]
@[go_sem] theorem Z3y (l:List UInt32) (n:Nat):(encD l).drop n=encD (l.drop n):=by simp [encD]
@[go_sem] theorem W3s (l m:List UInt32):encD l++encD m=encD (l++m):=by simp [encD]
@[go_sem] theorem Z3x (l:List UInt32) (c:UInt32):encD l++ [.sc (.int .u32 c.toNat)]=encD (l++ [c]):=by simp [encD]
@[go_sem] theorem W3r (l:List UInt32) (i:Nat) (cs:List PV):(encD l).map (PV.frz i cs)=encD l:=by
 simp only [encD,List.map_map]
 exact List.map_congr_left fun a _=>rfl
@[go_sem] theorem W3q (l:List UInt32) (a b:Nat):(encD l).all (PV.lim a b)=true:=by
 simp [encD,PV.lim,PV.lim1]
@[go_sem] theorem q3v (l:List UInt32):fzOK (encD l)=true:=by
 simp [encD,fzOK,PV.closed2,PV.closed1]
@[go_sem] theorem x2x (l:List UInt32):(encD l).map PV.forget2=encD l:=by
 simp only [encD,List.map_map]
 exact List.map_congr_left fun a _=>rfl
@[go_sem] theorem x2y (l:List UInt32):(encD l).all PV.closed2=true:=by
 simp [encD,PV.closed2,PV.closed1]
@[go_sem] theorem W3o (n:Nat):List.replicate n (PV.sc (.int .u32 0))=encD (List.replicate n 0):=by simp [encD]
def encZ (l:List Int):List PV:=l.map fun c=>(.sc (.int .i64 c))
@[go_sem] theorem x2p (l:List Int):(encZ l).length=l.length:=by simp [encZ]
@[go_sem] theorem V3o :encZ []= []:=(rfl)
@[go_sem] theorem q3g (l:List Int):(encZ l).all (fun x=>x.cells.length==1)=true:=by simp [encZ,PV.cells]
@[go_sem] theorem q3h (l:List Int):(encZ l).all (fun x=>(x.cells.length==1)&&x.cells.all PV.cellOK)=true:=by simp [encZ,PV.cells,PV.cellOK,Value.oneCell']
@[go_sem] theorem Q3p (l:List Int) (n:Nat):(encZ l).take n=encZ (l.take n):=by simp [encZ]
@[go_sem] theorem Q3r (l:List Int) (n:Nat):(encZ l).drop n=encZ (l.drop n):=by simp [encZ]
@[go_sem] theorem V3r (l m:List Int):encZ l++encZ m=encZ (l++m):=by simp [encZ]
@[go_sem] theorem Q3q (l:List Int) (c:Int):encZ l++ [.sc (.int .i64 c)]=encZ (l++ [c]):=by simp [encZ]
@[go_sem] theorem V3q (l:List Int) (i:Nat) (cs:List PV):(encZ l).map (PV.frz i cs)=encZ l:=by
 simp only [encZ,List.map_map]
 exact List.map_congr_left fun a _=>rfl
@[go_sem] theorem V3p (l:List Int) (a b:Nat):(encZ l).all (PV.lim a b)=true:=by
 simp [encZ,PV.lim,PV.lim1]
@[go_sem] theorem q3i (l:List Int):fzOK (encZ l)=true:=by
 simp [encZ,fzOK,PV.closed2,PV.closed1]
@[go_sem] theorem x2q (l:List Int):(encZ l).map PV.forget2=encZ l:=by
 simp only [encZ,List.map_map]
 exact List.map_congr_left fun a _=>rfl
@[go_sem] theorem x2r (l:List Int):(encZ l).all PV.closed2=true:=by
 simp [encZ,PV.closed2,PV.closed1]
@[go_sem] theorem Z3z (l:List UInt8) (n:Nat):(encB l).take n=encB (l.take n):=by simp [encB]
@[go_sem] theorem X3a (l:List UInt8) (n:Nat):(encB l).drop n=encB (l.drop n):=by simp [encB]
attribute [go_sem] W2m Q2d
structure Nm where
 neg:Bool
 exp:Int
 w:List UInt64
 deriving DecidableEq
instance : Inhabited Nm:=⟨⟨false,0,[]⟩⟩
def encN (x:Nm):List PV:= [.sc (.bool x.neg),.sc (.int .i64 x.exp),.sl .no (encW x.w)]
attribute [go_sem] encN
structure Ivl where
 lo:Nm
 hi:Nm
 deriving DecidableEq
instance : Inhabited Ivl:=⟨⟨default,default⟩⟩
def encI (x:Ivl):List PV:= [.sc (.bool x.lo.neg),.sc (.int .i64 x.lo.exp),.sl .no (encW x.lo.w),.sc (.bool x.hi.neg),.sc (.int .i64 x.hi.exp),.sl .no (encW x.hi.w)]
attribute [go_sem] encI
def Z0f (l:List Nm):List PV:=l.map fun c=>(.agg (encN c))
@[go_sem] theorem X0p (l:List Nm):(Z0f l).length=l.length:=by simp [Z0f]
@[go_sem] theorem Z3h :Z0f []= []:=(rfl)
@[go_sem] theorem W3e (l:List Nm):(Z0f l).all (fun x=>x.cells.length==3)=true:=by simp [Z0f,PV.cells,encN]
@[go_sem] theorem W3f (l:List Nm):(Z0f l).all (fun x=>(x.cells.length==3)&&x.cells.all PV.cellOK)=true:=by simp [Z0f,PV.cells,PV.cellOK,Value.oneCell',encN]
@[go_sem] theorem v2i (l:List Nm) (n:Nat):(Z0f l).take n=Z0f (l.take n):=by simp [Z0f]
@[go_sem] theorem v2k (l:List Nm) (n:Nat):(Z0f l).drop n=Z0f (l.drop n):=by simp [Z0f]
@[go_sem] theorem Z3j (l m:List Nm):Z0f l++Z0f m=Z0f (l++m):=by simp [Z0f]
@[go_sem] theorem v2j (l:List Nm) (c:Nm):Z0f l++ [.agg (encN c)]=Z0f (l++ [c]):=by simp [Z0f]
theorem V0a (l:List Nm) (n:Nat) (h:n<l.length):(Z0f l).getD n .junk= .agg (encN (l.getD n default)):=by
 simp [Z0f,List.getD_eq_getElem?_getD,h]
@[go_sem] theorem Z3i (l:List Nm) (i:Nat) (cs:List PV):(Z0f l).map (PV.frz i cs)=Z0f l:=by
 simp only [Z0f,List.map_map]
 exact List.map_congr_left fun a _=>rfl
def Z0e (l:List Ivl):List PV:=l.map fun c=>(.agg (encI c))
@[go_sem] theorem V0b (l:List Ivl):(Z0e l).length=l.length:=by simp [Z0e]
@[go_sem] theorem Z3q :Z0e []= []:=(rfl)
@[go_sem] theorem W3k (l:List Ivl):(Z0e l).all (fun x=>x.cells.length==6)=true:=by simp [Z0e,PV.cells,encI]
@[go_sem] theorem W3l (l:List Ivl):(Z0e l).all (fun x=>(x.cells.length==6)&&x.cells.all PV.cellOK)=true:=by simp [Z0e,PV.cells,PV.cellOK,Value.oneCell',encI]
@[go_sem] theorem v2o (l:List Ivl) (n:Nat):(Z0e l).take n=Z0e (l.take n):=by simp [Z0e]
@[go_sem] theorem v2q (l:List Ivl) (n:Nat):(Z0e l).drop n=Z0e (l.drop n):=by simp [Z0e]
@[go_sem] theorem Z3s (l m:List Ivl):Z0e l++Z0e m=Z0e (l++m):=by simp [Z0e]
@[go_sem] theorem v2p (l:List Ivl) (c:Ivl):Z0e l++ [.agg (encI c)]=Z0e (l++ [c]):=by simp [Z0e]
theorem J0j (l:List Ivl) (n:Nat) (h:n<l.length):(Z0e l).getD n .junk= .agg (encI (l.getD n default)):=by
 simp [Z0e,List.getD_eq_getElem?_getD,h]
@[go_sem] theorem Z3r (l:List Ivl) (i:Nat) (cs:List PV):(Z0e l).map (PV.frz i cs)=Z0e l:=by
 simp only [Z0e,List.map_map]
 exact List.map_congr_left fun a _=>rfl
structure Sg where
 fr:Int
 to:Int
 t0:Nm
 t1:Nm
 box:List Ivl
 deriving DecidableEq
instance : Inhabited Sg:=⟨⟨0,0,default,default,[]⟩⟩
def encS (x:Sg):List PV:= [.sc (.int .i64 x.fr),.sc (.int .i64 x.to),.sc (.bool x.t0.neg),.sc (.int .i64 x.t0.exp),.sl .no (encW x.t0.w),.sc (.bool x.t1.neg),.sc (.int .i64 x.t1.exp),.sl .no (encW x.t1.w),.sl .no (Z0e x.box)]
attribute [go_sem] encS
def V0w (l:List Sg):List PV:=l.map fun c=>(.agg (encS c))
@[go_sem] theorem G2k (l:List Sg):(V0w l).length=l.length:=by simp [V0w]
@[go_sem] theorem Q3y :V0w []= []:=(rfl)
@[go_sem] theorem V3y (l:List Sg):(V0w l).all (fun x=>x.cells.length==9)=true:=by simp [V0w,PV.cells,encS]
@[go_sem] theorem V3z (l:List Sg):(V0w l).all (fun x=>(x.cells.length==9)&&x.cells.all PV.cellOK)=true:=by simp [V0w,PV.cells,PV.cellOK,Value.oneCell',encS]
@[go_sem] theorem v2c (l:List Sg) (n:Nat):(V0w l).take n=V0w (l.take n):=by simp [V0w]
@[go_sem] theorem v2e (l:List Sg) (n:Nat):(V0w l).drop n=V0w (l.drop n):=by simp [V0w]
@[go_sem] theorem Z3a (l m:List Sg):V0w l++V0w m=V0w (l++m):=by simp [V0w]
@[go_sem] theorem v2d (l:List Sg) (c:Sg):V0w l++ [.agg (encS c)]=V0w (l++ [c]):=by simp [V0w]
@[go_sem] theorem Q3z (l:List Sg) (i:Nat) (cs:List PV):(V0w l).map (PV.frz i cs)=V0w l:=by
 simp only [V0w,List.map_map]
 exact List.map_congr_left fun a _=>rfl
end Go.Pv
end
section
/-More ways to know less:a slice without room becomes one that may be appended to;tags forgotten. -/
namespace Go.Pv
def PFS.claim (t sz:Nat) (s:PFS):PFS:=
 match s.pa.getD t .junk with
 | .sl .full []=>⟨s.pa.set t (.sl (.own s.T.length) []),s.L,s.T++ [(0,sz)],s.st⟩
 | _=>s
theorem q1l {E:Ent} {s:PFS} (t sz:Nat):Weak E s (s.claim t sz):=by
 intro a w g F h
 unfold PFS.claim
 split
 · rename_i he
   obtain⟨es,hes⟩: ∃es:List PV,es= []:=⟨_,rfl⟩
   rw [←hes] at he⊢
   have hv:=h.len_eq t
   rw [he] at hv
   have hbase: ∀v,RepF w g F s.T v (.sl .full es)→Rep w g v (.sl .full es):=fun v hv=>by cases hv with | base _ _ h=>exact h
   have hv:=hbase _ hv
   have hri: ∀v,Rep w g v (.sl .full es)→Right w g none sz v es:=fun v hv=>by
    cases hv with
    | nil t ad ht=>exact⟨.inr ⟨_,rfl⟩,rfl⟩
    | sl t es b off sz cap cf ht hf hcap hsz hvis hc hr=>exact⟨.inr ⟨_,by rw [hf rfl]⟩,by rw [hes];rfl⟩
   rw [show(0:Nat)=es.length from by rw [hes];rfl]
   obtain⟨F',m1,m2,m3,m4,m5⟩:=h.mint es.length sz none (fun b hb=>by cases hb)
   have hlast:(s.T++ [(es.length,sz)]).getD s.T.length (0,0)=(es.length,sz):=by simp [List.getD_eq_getElem?_getD]
   have hown:RepF w g F' (s.T++ [(es.length,sz)]) (a.tmps.getD t undef) (.sl (.own s.T.length) es):=by
    refine .own _ _ _ hv.toNo (by simp) (by rw [hlast];exact Nat.le_refl _) fun _=> ?_
    rw [hlast,m2]
    exact hri _ hv
   refine⟨g,F',m1.ext,m1.store,m1.frame,m1.defers,by rw [List.length_set];exact m1.len,fun j hj=> ?_⟩
   simp only [List.length_set] at hj
   by_cases e:t=j
   · subst e
     rw [Q0r _ _ _ _ hj]
     exact hown
   · rw [Q0j _ _ _ _ _ e]
     exact m1.tmps j hj
 · exact⟨g,F,h⟩
theorem Y0y {P:Program} {E:Ent} {c:Code} {Q:Exit→PFS→Prop} {s:PFS} (t sz:Nat) (h:PWP P E c Q (s.claim t sz)):PWP P E c Q s:=K0u (q1l t sz) h
def clm (p:PV) (t sz:Nat) (pa:List PV) (L:Q0c) (T:List (Nat×Nat)) (st:Q0c):PFS:=
 match p with
 | .sl .full []=>⟨pa.set t (.sl (.own T.length) []),L,T++ [(0,sz)],st⟩
 | _=>⟨pa,L,T,st⟩
@[go_sem] theorem W3w {t sz:Nat} {pa:List PV} {L st:Q0c} {T:List (Nat×Nat)} :(PFS.mk pa L T st).claim t sz=clm (pa.getD t .junk) t sz pa L T st:=by
 unfold PFS.claim clm
 rfl
@[go_sem] theorem W3v {t sz:Nat} {pa:List PV} {L st:Q0c} {T:List (Nat×Nat)} :clm (.sl .full []) t sz pa L T st=⟨pa.set t (.sl (.own T.length) []),L,T++ [(0,sz)],st⟩:=(rfl)
def noL :List Bool→List PV→List PV
 | b::bs,p::ps=>(if b&&p.closed2 then p.forget2 else p)::noL bs ps
 | [],ps=>ps
 | _,[]=> []
theorem z0r : ∀(bs:List Bool) (ps:List PV),(noL bs ps).length=ps.length
 | [],[]=>rfl
 | [],p::ps=>rfl
 | b::bs,[]=>rfl
 | b::bs,p::ps=>by simp [noL,z0r bs ps]
theorem H1h : ∀(bs:List Bool) (ps:List PV) (j:Nat),(noL bs ps).getD j .junk=ps.getD j .junk∨((ps.getD j .junk).closed2=true∧(noL bs ps).getD j .junk=(ps.getD j .junk).forget2)
 | [],ps,j=> .inl rfl
 | b::bs,[],j=> .inl rfl
 | b::bs,p::ps,j=>by
  cases j with
  | zero=>
   simp only [noL,List.getD_cons_zero]
   by_cases h:(b&&p.closed2)=true
   · rw [if_pos h];simp at h;exact .inr ⟨h.2,rfl⟩
   · rw [if_neg h];exact .inl rfl
  | succ j=>simpa [noL] using H1h bs ps j
def PFS.plain (bs:List Bool) (s:PFS):PFS:=⟨noL bs s.pa,s.L,s.T,s.st⟩
theorem q1k {E:Ent} {s:PFS} (bs:List Bool):Weak E s (s.plain bs):=by
 intro a w g F h
 refine⟨g,F,h.ext,h.store,h.frame,h.defers,by simp only [PFS.plain,z0r];exact h.len,fun j hj=> ?_⟩
 simp only [PFS.plain,z0r] at hj⊢
 rcases H1h bs s.pa j with e | ⟨e1,e2⟩
 · rw [e];exact h.tmps j hj
 · rw [e2];exact .base _ _ ((h.tmps j hj).forget2 e1)
theorem J1s {P:Program} {E:Ent} {c:Code} {Q:Exit→PFS→Prop} {s:PFS} (bs:List Bool) (h:PWP P E c Q (s.plain bs)):PWP P E c Q s:=K0u (q1k bs) h
@[go_sem] theorem J3v {bs:List Bool} {pa:List PV} {L st:Q0c} {T:List (Nat×Nat)} :(PFS.mk pa L T st).plain bs=⟨noL bs pa,L,T,st⟩:=(rfl)
@[go_sem] theorem G3j {ps:List PV} :noL [] ps=ps:=(rfl)
@[go_sem] theorem j3z {bs ps:List PV} {b:List Bool} {p:PV} :noL (false::b) (p::ps)=p::noL b ps:=(rfl)
@[go_sem] theorem j3a {ps es:List PV} {b:List Bool} :noL (true::b) (.sl .no es::ps)= .sl .no es::noL b ps:=(rfl)
@[go_sem] theorem J3x {ps es:List PV} {b:List Bool} :noL (true::b) (.sl .full es::ps)= .sl .no es::noL b ps:=(rfl)
@[go_sem] theorem G3i {k:Nat} {ps es:List PV} {b:List Bool} :noL (true::b) (.sl (.own k) es::ps)= .sl .no es::noL b ps:=(rfl)
@[go_sem] theorem G3k {ps cs:List PV} {b:List Bool} :noL (true::b) (.agg cs::ps)=(if cs.all PV.closed1=true then .agg (cs.map PV.forget1) else .agg cs)::noL b ps:=by
 simp only [noL,PV.closed2,PV.forget2,Bool.true_and]
def PFS.plainBox (i:Nat) (s:PFS):PFS:=if (s.L.getD i []).all PV.closed2=true∧i<s.L.length then⟨s.pa,s.L.set i ((s.L.getD i []).map PV.forget2),s.T,s.st⟩ else s
theorem Q1n {E:Ent} {s:PFS} (i:Nat):Weak E s (s.plainBox i):=by
 intro a w g F h
 unfold PFS.plainBox
 split
 · rename_i hc
   have hne: ∀k,(s.L.set i ((s.L.getD i []).map PV.forget2)).getD k []≠ []→s.L.getD k []≠ []:=fun k hk=>by
    by_cases e:i=k
    · subst e
      rw [Q0r _ _ _ _ hc.2] at hk
      intro e2;rw [e2] at hk;exact hk rfl
    · rwa [Q0j _ _ _ _ _ e] at hk
   refine⟨g,F,h.ext,h.store,⟨by simpa using h.frame.nl,fun k hk=>h.frame.lo k (hne k hk),fun k hk=>h.frame.apart k (hne k hk),fun k j hk hj=>h.frame.inj k j (hne k hk) (hne j hj),fun k hk=> ?_,h.frame.tlo,fun k b h1 h2=>⟨(h.frame.tapart k b h1 h2).1,fun j hj=>(h.frame.tapart k b h1 h2).2 j (hne j hj)⟩,h.frame.tinj⟩,h.defers,h.len,h.tmps⟩
   have hh:=h.frame.holds k (hne k hk)
   by_cases e:i=k
   · subst e
     rw [Q0r _ _ _ _ hc.2]
     intro j hj
     have hj':j<(s.L.getD i []).length:=by simpa using hj
     obtain⟨q1,c,q2,q3⟩:=hh j hj'
     refine⟨q1,c,q2,?_⟩
     rw [Z0z _ _ _ _ .junk hj']
     exact .base _ _ (q3.forget2 (List.all_eq_true.1 hc.1 _ (Q0m _ _ _ hj')))
   · rw [Q0j _ _ _ _ _ e];exact hh
 · exact⟨g,F,h⟩
theorem x0o {P:Program} {E:Ent} {c:Code} {Q:Exit→PFS→Prop} {s:PFS} (i:Nat) (h:PWP P E c Q (s.plainBox i)):PWP P E c Q s:=K0u (Q1n i) h
@[go_sem] theorem q2k {i:Nat} {pa:List PV} {L st:Q0c} {T:List (Nat×Nat)} :(PFS.mk pa L T st).plainBox i=if (L.getD i []).all PV.closed2=true∧i<L.length then⟨pa,L.set i ((L.getD i []).map PV.forget2),T,st⟩ else⟨pa,L,T,st⟩:=(rfl)
theorem PCalls.plain {P:Program} {f:FuncId} {args es:List PV} {st:Q0c} {sz:Nat} (h:PCalls P f args st (fun r st'=>r= .sl (.fresh sz) es∧st'=st)):PCalls P f args st (fun r st'=>r= .sl .no es∧st'=st):=
 fun w g vs hs hr=>(h w g vs hs hr).mono fun _ _ ⟨v,g',r,st',he,hx,ho,hv,q⟩=>by
  obtain⟨rfl,rfl⟩:=q
  exact⟨v,g',.sl .no es,_,he,hx,ho,hv.1,rfl,rfl⟩
end Go.Pv
end
section
/-The machine's arithmetic on natural numbers. No program in it. -/
namespace Go.Pv
theorem Z0k (n:Nat):IntKind.u64.wrap (n:Int)=((n % 18446744073709551616:Nat):Int):=by
 simp [IntKind.wrap,IntKind.bits,IntKind.signed]
theorem Q0s (n:Nat) (h:n<9223372036854775808):IntKind.i64.wrap (n:Int)=(n:Int):=Q0u _ (by omega) (by omega)
theorem U1p (a b:Nat) (ha:a<18446744073709551616) (hb:b<18446744073709551616):bOr .u64 (a:Int) (b:Int)=((a|||b:Nat):Int):=by
 unfold bOr
 have e:(BitVec.ofInt IntKind.u64.bits (a:Int)|||BitVec.ofInt IntKind.u64.bits (b:Int)).toNat=a|||b:=by
  have e1:BitVec.ofInt IntKind.u64.bits (a:Int)=BitVec.ofNat 64 a:=by simp [IntKind.bits]
  have e2:BitVec.ofInt IntKind.u64.bits (b:Int)=BitVec.ofNat 64 b:=by simp [IntKind.bits]
  rw [e1,e2]
  show(BitVec.ofNat 64 a|||BitVec.ofNat 64 b).toNat=a|||b
  rw [BitVec.toNat_or,BitVec.toNat_ofNat,BitVec.toNat_ofNat,Nat.mod_eq_of_lt (by omega:a<2^64),Nat.mod_eq_of_lt (by omega:b<2^64)]
 rw [e]
 exact Q1k _ (Nat.or_lt_two_pow (n:=64) ha hb)
theorem q1f (a b:Nat) (ha:a<18446744073709551616) (hb:b<18446744073709551616):bAnd .u64 (a:Int) (b:Int)=((a&&&b:Nat):Int):=by
 unfold bAnd
 have e:(BitVec.ofInt IntKind.u64.bits (a:Int)&&&BitVec.ofInt IntKind.u64.bits (b:Int)).toNat=a&&&b:=by
  have e1:BitVec.ofInt IntKind.u64.bits (a:Int)=BitVec.ofNat 64 a:=by simp [IntKind.bits]
  have e2:BitVec.ofInt IntKind.u64.bits (b:Int)=BitVec.ofNat 64 b:=by simp [IntKind.bits]
  rw [e1,e2]
  show(BitVec.ofNat 64 a&&&BitVec.ofNat 64 b).toNat=a&&&b
  rw [BitVec.toNat_and,BitVec.toNat_ofNat,BitVec.toNat_ofNat,Nat.mod_eq_of_lt (by omega:a<2^64),Nat.mod_eq_of_lt (by omega:b<2^64)]
 rw [e]
 exact Q1k _ (Nat.lt_of_le_of_lt Nat.and_le_left ha)
theorem Y2h (k:IntKind) (v c:Nat) (h:c≤k.bits):bShl k (v:Int) (c:Int)=k.wrap ((v*2^c:Nat):Int):=by
 unfold bShl
 rw [Int.toNat_natCast,Nat.min_eq_left h]
 congr 1
theorem z0e (v c:Nat) (h:c≤64):bShl .u64 (v:Int) (c:Int)=((v*2^c % 18446744073709551616:Nat):Int):=by
 rw [Y2h .u64 v c h,Z0k]
theorem Y0p (v c:Nat) (h:c≤64):bShr .u64 (v:Int) (c:Int)=((v/2^c:Nat):Int):=j0n .u64 v c h
theorem v1n (x y c:Nat) (hx:x<2^c) (hy:y % 2^c=0):x|||y=x+y:=by
 have e:y=2^c*(y/2^c):=by have:=Nat.div_add_mod y (2^c);omega
 rw [Nat.or_comm,e,←Nat.two_pow_add_eq_or_of_lt hx,Nat.add_comm]
theorem v0b (w c:Nat) (h:c≤64):w*2^c % 18446744073709551616 % 2^c=0:=by
 have e:(18446744073709551616:Nat)=2^c*2^(64-c):=by rw [←Nat.pow_add,show c+(64-c)=64 from by omega]
 rw [e,Nat.mod_mul_right_mod,Nat.mul_mod_left]
theorem X1y (w c:Nat) (hw:w<18446744073709551616) (h:c≤64):w*2^c=w*2^c % 18446744073709551616+18446744073709551616*(w/2^(64-c)):=by
 have e:(18446744073709551616:Nat)=2^(64-c)*2^c:=by rw [←Nat.pow_add,show 64-c+c=64 from by omega]
 have d:w*2^c/18446744073709551616=w/2^(64-c):=by
  rw [e,Nat.mul_div_mul_right _ _ (Nat.pow_pos (by decide))]
 rw [←d]
 exact(Nat.mod_add_div _ _).symm
theorem U2c (w c:Nat) (hw:w<18446744073709551616) (h:c≤64):w/2^(64-c)<2^c:=by
 rw [Nat.div_lt_iff_lt_mul (Nat.pow_pos (by decide)),←Nat.pow_add,show c+(64-c)=64 from by omega]
 exact hw
theorem H0o (n m:Nat):(n:Int).tdiv (m:Int)=((n/m:Nat):Int):=(Int.ofNat_tdiv n m).symm
theorem Q1u (n m:Nat):(n:Int).tmod (m:Int)=((n % m:Nat):Int):=(Int.ofNat_tmod n m).symm
theorem z0q (k:Nat):18446744073709551616^k=2^(64*k):=by rw [show(18446744073709551616:Nat)=2^64 from rfl,←Nat.pow_mul]
theorem Z0n (n:Nat) (h:n<18446744073709551616):(UInt64.ofNat n).toNat=n:=by rw [UInt64.toNat_ofNat'];omega
end Go.Pv
end
section
/-Dyadic numbers:order by value. No program in it. -/
namespace Go.Pv
theorem V1x {m n:Nat} (h:Q0g m<Q0g n):m<n:=by
 apply Nat.lt_of_not_le;intro hle
 have:Q0g n≤Q0g m:=bitlen_le_iff.2 (Nat.lt_of_le_of_lt hle (Z0p m))
 omega
def Z0x (l:List UInt64):Nat:=Q0g (valW l)
theorem Z2i (l:List UInt64):Z0x (cutW l)=Z0x l:=by simp only [Z0x,X0i]
theorem V1m (l:List UInt64):cutW l= []↔valW l=0:=by rw [←Q0o,wordsOf_nil]
theorem Z2h (l:List UInt64) (h:cutW l≠ []):Z0x l=64*((cutW l).length-1)+Q0g ((cutW l).getD ((cutW l).length-1) 0).toNat:=by
 have hl:=Q2o l h
 rw [←Z2i]
 generalize cutW l=c at*
 have hp:0<c.length:=List.length_pos_iff.2 h
 have e:valW c=valW (c.take (c.length-1))+18446744073709551616^(c.length-1)*(c.getD (c.length-1) 0).toNat:=by
  rw [←Z0m c (c.length-1) (by omega),show c.length-1+1=c.length from by omega,List.take_length]
 have hb:=Z0r (c.take (c.length-1))
 rw [List.length_take,Nat.min_eq_left (by omega)] at hb
 rw [Z0x,e]
 rw [z0q] at hb⊢
 exact j1b _ _ _ hb (fun h0=>hl ((Q1o _).2 h0))
theorem V0k (l:List UInt64):Z0x l≤64*l.length:=by
 rw [Z0x,bitlen_le_iff,←z0q];exact Z0r l
def mant (x:Nm):Int:=if x.neg then -(valW x.w:Int) else(valW x.w:Int)
def cmpE (m:Int) (e:Int) (n:Int) (f:Int):Int:=cmpI (m*2^(e-min e f).toNat) (n*2^(f-min e f).toNat)
def cmpN (a b:Nm):Int:=cmpE (mant a) a.exp (mant b) b.exp
def sgn (m:Int):Int:=if m=0 then 0 else if m<0 then -1 else 1
theorem two_pow_pos (n:Nat):(0:Int)<2^n:=Int.pow_pos (by decide)
theorem z0j (m:Int) (n:Nat):sgn (m*2^n)=sgn m:=by
 have h:=two_pow_pos n
 unfold sgn
 by_cases h0:m=0
 · simp [h0]
 · have h1:m*2^n≠0:=Int.mul_ne_zero h0 (by omega)
   rw [if_neg h0,if_neg h1]
   by_cases hl:m<0
   · rw [if_pos hl,if_pos (Int.mul_neg_of_neg_of_pos hl h)]
   · rw [if_neg hl,if_neg]
     have:0<m*2^n:=Int.mul_pos (by omega) h
     omega
theorem U1i {m n:Int} (h:sgn m≠sgn n):cmpI m n=cmpI (sgn m) (sgn n):=by
 unfold sgn at*
 unfold cmpI
 repeat' split at h
 all_goals repeat' split
 all_goals first | omega | rfl | (exfalso;omega)
theorem U1k {m e n f:Int} (h:sgn m≠sgn n):cmpE m e n f=cmpI (sgn m) (sgn n):=by
 unfold cmpE
 rw [U1i (by rw [z0j,z0j];exact h),z0j,z0j]
theorem Q2w {e f:Int} :cmpE 0 e 0 f=0:=by unfold cmpE;simp [U1j]
theorem W2v {m e n f:Int} :cmpE (-m) e (-n) f= -cmpE m e n f:=by
 unfold cmpE;rw [Int.neg_mul,Int.neg_mul,V1q]
theorem Q2x {m e n f:Int} :cmpE n f m e= -cmpE m e n f:=by
 unfold cmpE;rw [Int.min_comm f e,V1p]
theorem Z1y (m n:Nat) (e f:Int):cmpE m e n f=cmpW (m*2^(e-min e f).toNat) (n*2^(f-min e f).toNat):=by
 unfold cmpE cmpW
 rw [Int.natCast_mul,Int.natCast_mul,Int.natCast_pow,Int.natCast_pow];rfl
theorem Q2y {m n:Nat} {e f:Int} (hm:m≠0) (hn:n≠0) (h:(Q0g m:Int)+e≠(Q0g n:Int)+f):cmpE m e n f=cmpI ((Q0g m:Int)+e) ((Q0g n:Int)+f):=by
 rw [Z1y,cmpW]
 have h1:=W0o m (e-min e f).toNat hm
 have h2:=W0o n (f-min e f).toNat hn
 by_cases hl:(Q0g m:Int)+e<(Q0g n:Int)+f
 · rw [x0e hl,x0e]
   exact Int.ofNat_lt.2 (V1x (by rw [h1,h2];omega))
 · have hlt:n*2^(f-min e f).toNat<m*2^(e-min e f).toNat:=V1x (by rw [h1,h2];omega)
   have hlt':=Int.ofNat_lt.2 hlt
   rw [x0f (a:=(Q0g m:Int)+e) (by omega),x0f hlt']
theorem j2m {m n:Nat} {e f:Int} (h:f<e):cmpE m e n f=cmpW (m*2^(e-f).toNat) n:=by
 rw [Z1y,Int.min_eq_right (by omega)];simp
theorem j2l {m n:Nat} {e f:Int} (h:e≤f):cmpE m e n f=cmpW m (n*2^(f-e).toNat):=by
 rw [Z1y,Int.min_eq_left h];simp
def sm (x:Nm):Prop:=x.w.length≤1000000∧ -1000000000≤x.exp∧x.exp≤1000000000
theorem mant_zero {x:Nm} :mant x=0↔valW x.w=0:=by
 unfold mant;split<;>omega
def sgnN (x:Nm):Int:=if valW x.w=0 then 0 else if x.neg then -1 else 1
theorem z0k (x:Nm):sgnN x=sgn (mant x):=by
 unfold sgnN sgn mant
 by_cases h:valW x.w=0
 · rw [if_pos h];simp [h]
 · cases hn:x.neg
   · simp [h]
   · simp [h]
theorem j2k (a b:Nm):cmpN a b=if sgnN a≠sgnN b∨sgnN a=0 then cmpI (sgnN a) (sgnN b) else sgnN a*cmpE (valW a.w) a.exp (valW b.w) b.exp:=by
 by_cases h:sgnN a≠sgnN b
 · rw [if_pos (.inl h),cmpN,z0k,z0k]
   rw [z0k,z0k] at h
   exact U1k h
 · have h':sgnN a=sgnN b:=Decidable.not_not.1 h
   by_cases h0:sgnN a=0
   · rw [if_pos (.inr h0),h0,←h',h0]
     have z: ∀x,sgnN x=0→mant x=0:=fun x hx=>by
      unfold sgnN at hx
      by_cases hv:valW x.w=0
      · exact mant_zero.2 hv
      · rw [if_neg hv] at hx;split at hx<;>cases hx
     rw [cmpN,z a h0,z b (h'▸h0),Q2w];rfl
   · rw [if_neg (by simp [h',h0];rw [←h'];exact h0)]
     unfold sgnN at h' h0
     unfold sgnN cmpN mant
     by_cases ha:valW a.w=0
     · rw [if_pos ha] at h0;exact absurd rfl h0
     · by_cases hb:valW b.w=0
       · rw [if_pos hb] at h';exact absurd h' h0
       · rw [if_neg ha,if_neg hb] at h'
         cases hna:a.neg<;>cases hnb:b.neg<;>simp [hna,hnb,ha,hb,W2v] at h'⊢
end Go.Pv
end
section
/-Digits of 32 bits:shifts,noughts at the end. No program in it. -/
namespace Go.Pv
theorem y1l {α:Type} (l:List α) (i:Nat) (d:α) (h:l.length≤i):l.getD i d=d:=by
 rw [List.getD_eq_getElem?_getD,List.getElem?_eq_none h];rfl
theorem Z1m (x B j:Nat):x % B^(j+1)=x % B^j+B^j*(x/B^j % B):=by
 rw [Nat.pow_succ,Nat.mod_mul]
def tz (m:Nat):Nat:=if h:m=0∨m % 2=1 then 0 else tz (m/2)+1
termination_by m
decreasing_by omega
theorem H2l :tz 0=0:=by rw [tz];simp
theorem U1z {m:Nat} (h:m % 2=1):tz m=0:=by rw [tz,dif_pos (.inr h)]
theorem W1h {m:Nat} (h0:m≠0) (h:m % 2=0):tz m=tz (m/2)+1:=by rw [tz,dif_neg (by omega)]
theorem G1a (z q:Nat) (hq:q % 2=1):tz (2^z*q)=z:=by
 induction z with
 | zero=>simp [U1z hq]
 | succ z ih=>
  have hp:0<2^z:=Nat.pow_pos (by decide)
  have e:2^(z+1)*q=2*(2^z*q):=by rw [Nat.pow_succ];simp only [Nat.mul_assoc,Nat.mul_left_comm,Nat.mul_comm]
  have h0:2^z*q≠0:=Nat.mul_ne_zero (by omega) (by omega)
  rw [e,W1h (by omega) (by omega),Nat.mul_div_cancel_left _ (by decide),ih]
theorem z0h (m:Nat) (h:m≠0): ∃q,q % 2=1∧m=2^tz m*q:=by
 induction m using Nat.strongRecOn with
 | _ m ih=>
  by_cases ho:m % 2=1
  · exact⟨m,ho,by rw [U1z ho];simp⟩
  · obtain⟨q,h1,h2⟩:=ih (m/2) (by omega) (by omega)
    refine⟨q,h1,?_⟩
    rw [W1h h (by omega),Nat.pow_succ]
    have:m=2*(m/2):=by omega
    conv=>lhs;rw [this,h2]
    simp only [Nat.mul_assoc,Nat.mul_left_comm,Nat.mul_comm]
theorem W0s (m:Nat) (h:m≠0):m/2^tz m % 2=1:=by
 obtain⟨q,h1,h2⟩:=z0h m h
 have:m/2^tz m=q:=by
  conv=>lhs;lhs;rw [h2]
  exact Nat.mul_div_cancel_left _ (Nat.pow_pos (by decide))
 rw [this,h1]
theorem Y2x (m:Nat):m % 2^tz m=0:=by
 by_cases h:m=0
 · subst h;simp
 · obtain⟨q,_,h2⟩:=z0h m h
   conv=>lhs;lhs;rw [h2]
   exact Nat.mul_mod_right _ _
theorem q1o (m:Nat):m/2^tz m*2^tz m=m:=Nat.div_mul_cancel (Nat.dvd_of_mod_eq_zero (Y2x m))
theorem x0j (m:Nat) (h:m≠0):tz m<Q0g m:=by
 apply Nat.lt_of_not_le;intro hle
 have h1:m<2^tz m:=bitlen_le_iff.1 hle
 have:=Y2x m
 rw [Nat.mod_eq_of_lt h1] at this
 exact h this
end Go.Pv
end
section
/-The document's values:sums,order. No program in it. -/
namespace Go.Pv
structure Vl where
 neg:Bool
 m:Nat
 e:Int
 deriving DecidableEq
instance : Inhabited Vl:=⟨⟨false,0,0⟩⟩
def encV (v:Vl):List PV:= [.sc (.bool v.neg),.sl .no (encD (H1x v.m)),.sc (.int .i64 v.e)]
attribute [go_sem] encV
theorem G0v (m:Nat):(Q0k m).length≤(Q0g m+63)/64:=by
 apply Z0h
 rw [z0q]
 exact Nat.lt_of_lt_of_le (Z0p m) (Nat.pow_le_pow_right (by decide) (by omega))
theorem w0e {m n:Nat} (h:m≤n):Q0g m≤Q0g n:=bitlen_le_iff.2 (Nat.lt_of_le_of_lt h (Z0p n))
def J0g (v:Vl):Int:=if v.neg then -(v.m:Int) else(v.m:Int)
def oddV (neg:Bool) (m:Nat) (e:Int):Vl:=if m=0 then⟨false,0,0⟩ else⟨neg,m/2^tz m,e+tz m⟩
def mkV (s:Int) (e:Int):Vl:=oddV (decide (s<0)) s.natAbs e
def K0a (v:Vl):Vl:=if v.m=0 then v else { v with neg:= !v.neg }
def k0r (a b:Vl):Vl:=if a.m=0 then b else if b.m=0 then a else
 mkV (J0g a*2^(a.e-min a.e b.e).toNat+J0g b*2^(b.e-min a.e b.e).toNat) (min a.e b.e)
def G0j (v:Vl):Int:=if v.m=0 then 0 else if v.neg then -1 else 1
def G0m (a b:Vl):Vl:=k0r a (K0a b)
def G0r (a b:Vl):Int:=G0j (G0m a b)
theorem U0y (v:Vl):G0j v=sgn (J0g v):=by
 unfold G0j sgn J0g
 by_cases h:v.m=0
 · rw [if_pos h];simp [h]
 · cases hn:v.neg
   · simp [h]
   · simp [h]
theorem k1i (s e:Int):G0j (mkV s e)=sgn s:=by
 unfold mkV oddV G0j sgn
 by_cases h:s=0
 · subst h;simp
 · have h1:s.natAbs≠0:=by omega
   rw [if_neg h1]
   have h2:s.natAbs/2^tz s.natAbs≠0:=by
    have:=W0s s.natAbs h1;omega
   simp only
   rw [if_neg h2,if_neg h]
   by_cases hl:s<0
   · simp [hl]
   · simp [hl]
theorem z0u (v:Vl):J0g (K0a v)= -J0g v:=by
 unfold K0a
 by_cases h:v.m=0
 · rw [if_pos h];simp [J0g,h]
 · rw [if_neg h]
   unfold J0g
   cases v.neg<;>simp
theorem Q1q (v:Vl):(K0a v).m=v.m:=by unfold K0a;split<;>rfl
theorem Q1r (v:Vl):(K0a v).e=v.e:=by unfold K0a;split<;>rfl
theorem z0t {v:Vl} (h:v.m=0):J0g v=0:=by unfold J0g;simp [h]
theorem W2u (a b:Int):cmpI a b=sgn (a-b):=by
 unfold cmpI sgn
 by_cases h1:a<b
 · rw [if_pos h1,if_neg (by omega),if_pos (by omega)]
 · by_cases h2:a>b
   · rw [if_neg h1,if_pos h2,if_neg (by omega),if_neg (by omega)]
   · rw [if_neg h1,if_neg h2,if_pos (by omega)]
theorem v1l (a b:Vl):G0r a b=cmpE (J0g a) a.e (J0g b) b.e:=by
 unfold G0r G0m k0r cmpE
 rw [W2u,Q1q,Q1r]
 by_cases ha:a.m=0
 · rw [if_pos ha,U0y,z0u,z0t ha,Int.zero_mul,Int.zero_sub,←Int.neg_mul,z0j]
 · rw [if_neg ha]
   by_cases hb:b.m=0
   · rw [if_pos hb,U0y,z0t hb,Int.zero_mul,Int.sub_zero,z0j]
   · rw [if_neg hb,k1i,z0u,Int.neg_mul];rfl
def ofN (x:Nm):Vl:=⟨x.neg,valW x.w,x.exp⟩
theorem y0d (a b:Nm):G0r (ofN a) (ofN b)=cmpN a b:=by rw [v1l];rfl
end Go.Pv
end
section
/-Intervals,boxes:what the functions on them answer. No program in it. -/
namespace Go.Pv
def Q0i (x:Nm):Bool:=if x.w= [] then !x.neg&&x.exp==0 else decide ((cutW x.w).length=x.w.length)&&decide (x.w.length≤64)&&decide ((x.w.getD 0 0).toNat % 2=1)&&decide (-65536≤x.exp)&&decide (x.exp≤65536)
def cmpR (a b:Nm):Int:=if Q0i a=true∧Q0i b=true then cmpN a b else 0
def ownN (x:Nm):Nm:=if Q0i x=true then x else⟨false,0,[]⟩
theorem Z0q {x:Nm} (h:Q0i x=true):sm x:=by
 unfold Q0i at h
 split at h
 · rename_i hw
   simp at h
   simp [sm,hw,h]
 · simp at h
   obtain⟨⟨⟨⟨_,h1⟩,_⟩,h2⟩,h3⟩:=h
   exact⟨by omega,by omega,by omega⟩
theorem z0m {x:Nm} (h:Q0i x=true):cutW x.w=x.w:=by
 unfold Q0i at h
 split at h
 · rename_i hw;rw [hw];rfl
 · simp at h
   have e:=h.1.1.1.1
   have h2:x.w.getD (x.w.length-1) 0≠0:=(V1n x.w (by assumption)).1 e
   rw [Q2p x.w x.w.length (Nat.le_refl _) (fun j h1 h2=>by omega) (.inr h2)]
   simp
def wN (x:Nm):Prop:=x.w.length≤100000000000
def wI (x:Ivl):Prop:=wN x.lo∧wN x.hi
def Q0v (x:Ivl):Bool:=Q0i x.lo&&Q0i x.hi&&decide (cmpN x.lo x.hi≤0)
def X0m (a b:Nm):Nm:=if cmpN b a<0 then b else a
def X0j (a b:Nm):Nm:=if cmpN b a>0 then b else a
def inI (a b:Ivl):Bool:=Q0v a&&Q0v b&&decide (0≤cmpN a.lo b.lo)&&decide (0≤cmpN b.hi a.hi)
def rightB (l:List Ivl):Bool:=l.all Q0v&&decide (1≤l.length)&&decide (l.length≤4)
def x1t {α β:Type} (F:Nat→α→β×Int):Nat→List α→List β→List β×Int
 | _,[],acc=>(acc,0)
 | i,x::l,acc=>if (F i x).2≠0 then([],(F i x).2) else x1t F (i+1) l (acc++ [(F i x).1])
theorem Z0a {x:Ivl} (h:Q0v x=true):Q0i x.lo=true∧Q0i x.hi=true∧cmpN x.lo x.hi≤0:=by
 unfold Q0v at h
 simp at h
 exact⟨h.1.1,h.1.2,h.2⟩
theorem j0w {x:Nm} (h:sm x):wN x:=by have:=h.1;unfold wN;omega
theorem w1z {P:Nm→Prop} {a b:Nm} (ha:P a) (hb:P b):P (X0m a b):=by unfold X0m;split<;>assumption
theorem v0m {P:Nm→Prop} {a b:Nm} (ha:P a) (hb:P b):P (X0j a b):=by unfold X0j;split<;>assumption
def allF {α:Type} [Inhabited α] (f:α→α→Bool) (a b:List α):Bool:=decide (a.length=b.length)&&(List.range a.length).all fun i=>f (a.getD i default) (b.getD i default)
def inB (a b:List Ivl):Bool:=rightB a&&rightB b&&allF inI a b
end Go.Pv
end
section
/-Pieces,tubes,what is merged. No program in it. -/
namespace Go.Pv
theorem V1o (a b:Nm):cmpN b a= -cmpN a b:=Q2x
theorem U0o (a:Nm):cmpN a a=0:=by unfold cmpN cmpE;exact U1j rfl
theorem x1c (a b:Nm):cmpN (X0m a b) a≤0:=by
 unfold X0m;split
 · omega
 · rw [U0o];decide
theorem x1b (a b:Nm):cmpN (X0m a b) b≤0:=by
 unfold X0m;split
 · rw [U0o];decide
 · have:=V1o b a;omega
theorem x1m (a b:Nm):cmpN a (X0j a b)≤0:=by
 unfold X0j;split
 · have:=V1o b a;omega
 · rw [U0o];decide
theorem x1l (a b:Nm):cmpN b (X0j a b)≤0:=by
 unfold X0j;split
 · rw [U0o];decide
 · omega
theorem k0h {x:Ivl} (h1:Q0i x.lo=true) (h2:Q0i x.hi=true) (h3:cmpN x.lo x.hi≤0):Q0v x=true:=by
 unfold Q0v;rw [h1,h2,decide_eq_true h3];rfl
theorem z1k {l:List Ivl} (h:rightB l=true): ∀i,i<l.length→Q0v (l.getD i default)=true:=by
 unfold rightB at h
 simp only [Bool.and_eq_true,List.all_eq_true] at h
 intro i hi
 refine h.1.1 _ ?_
 rw [List.getD_eq_getElem?_getD,List.getElem?_eq_getElem hi]
 exact List.getElem_mem hi
theorem k0i {l:List Ivl} (h: ∀i,i<l.length→Q0v (l.getD i default)=true) (h1:1≤l.length) (h2:l.length≤4):rightB l=true:=by
 unfold rightB
 rw [decide_eq_true h1,decide_eq_true h2,List.all_eq_true.2];rfl
 intro x hx
 obtain⟨i,hi,rfl⟩:=List.mem_iff_getElem.1 hx
 have:=h i hi
 rwa [List.getD_eq_getElem?_getD,List.getElem?_eq_getElem hi] at this
theorem z0n {l:List Ivl} (h:rightB l=true):1≤l.length∧l.length≤4:=by
 unfold rightB at h;simp at h;omega
def wB (l:List Ivl):Prop:=l.length≤100000000000∧ ∀i,i<l.length→wI (l.getD i default)
def w2t (s:Sg):Bool:=decide (1≤s.fr)&&decide (s.fr≤s.to)&&decide (s.to≤4096)&&Q0i s.t0&&Q0i s.t1&& !s.t0.neg&&decide (cmpR s.t0 s.t1<0)&&rightB s.box
def j2t (a b:Sg):Bool:=decide (b.fr=IntKind.i64.wrap (a.to+1))&&decide (cmpR a.t1 b.t0=0)&&decide (a.box.length=b.box.length)
def rowAt (l:List Sg) (i:Nat):Bool:=w2t (l.getD i default)&&(decide (i=0)||j2t (l.getD (i-1) default) (l.getD i default))
theorem X0h {x:Nm} (h:Q0i x=true):valW x.w=0↔x.w= []:=by
 constructor
 · intro hv
   rw [←z0m h,←Q0o,hv,Z0u]
 · intro hw;rw [hw];rfl
end Go.Pv
end
