/- Parts of the walk: PvX, PvY, M3, M4, M5, M6, M7, M8, M9. -/
import Derived.Test.YthichlfphjbadaaGreatZD
set_option linter.unusedVariables false
set_option linter.unusedSimpArgs false
section
/-Lists of elements of the program's types,as pure values;numbers,intervals,pieces. -/
namespace Go.Pv
open Go.Proofs
attribute [go_sem] Int.reduceBNe Int.reduceBEq
theorem Z0p :Tryz.prog.follows .mixedOrders=true:=by kernel_rfl
def encW (l:List UInt64):List PV:=l.map fun c=>(.sc (.int .u64 c.toNat))
@[go_sem] theorem V3w (l:List UInt64):(encW l).length=l.length:=by simp [encW]
@[go_sem] theorem w2j :encW []= []:=(rfl)
@[go_sem] theorem J4z (l:List UInt64):(encW l).all (fun x=>x.cells.length==1)=true:=by simp [encW,PV.cells]
@[go_sem] theorem K4a (l:List UInt64):(encW l).all (fun x=>(x.cells.length==1)&&x.cells.all PV.cellOK)=true:=by simp [encW,PV.cells,PV.cellOK,Value.oneCell']
@[go_sem] theorem z3s (l:List UInt64) (n:Nat):(encW l).take n=encW (l.take n):=by simp [encW]
@[go_sem] theorem z3t (l:List UInt64) (n:Nat):(encW l).drop n=encW (l.drop n):=by simp [encW]
@[go_sem] theorem w3p (l m:List UInt64):encW l++encW m=encW (l++m):=by simp [encW]
@[go_sem] theorem j1n (l:List UInt64) (c:UInt64):encW l++ [.sc (.int .u64 c.toNat)]=encW (l++ [c]):=by simp [encW]
theorem J0m (l:List UInt64) (n:Nat) (h:n<l.length):(encW l).getD n .junk= .sc (.int .u64 (l.getD n 0).toNat):=by
 simp [encW,List.getD_eq_getElem?_getD,h]
@[go_sem] theorem w3o (l:List UInt64) (i:Nat) (cs:List PV):(encW l).map (PV.frz i cs)=encW l:=by
 simp only [encW,List.map_map]
 exact List.map_congr_left fun a _=>rfl
theorem j1o (l:List UInt64) (n:Nat) (c:UInt64) (h:n<l.length):over (encW l) n [.sc (.int .u64 c.toNat)]=encW (l.set n c):=by
 unfold over encW
 rw [List.set_eq_take_append_cons_drop,if_pos h]
 simp
@[go_sem] theorem w3n (l:List UInt64) (a b:Nat):(encW l).all (PV.lim a b)=true:=by
 simp [encW,PV.lim,PV.lim1]
@[go_sem] theorem K4b (l:List UInt64):fzOK (encW l)=true:=by
 simp [encW,fzOK,PV.closed2,PV.closed1]
@[go_sem] theorem V3x (l:List UInt64):(encW l).map PV.forget2=encW l:=by
 simp only [encW,List.map_map]
 exact List.map_congr_left fun a _=>rfl
@[go_sem] theorem V3y (l:List UInt64):(encW l).all PV.closed2=true:=by
 simp [encW,PV.closed2,PV.closed1]
@[go_sem] theorem w3m (n:Nat):List.replicate n (PV.sc (.int .u64 0))=encW (List.replicate n 0):=by simp [encW]
def encD (l:List UInt32):List PV:=l.map fun c=>(.sc (.int .u32 c.toNat))
@[go_sem] theorem W3a (l:List UInt32):(encD l).length=l.length:=by simp [encD]
@[go_sem] theorem H1u :encD []= []:=(rfl)
@[go_sem] theorem K4h (l:List UInt32):(encD l).all (fun x=>x.cells.length==1)=true:=by simp [encD,PV.cells]
@[go_sem] theorem K4i (l:List UInt32):(encD l).all (fun x=>(x.cells.length==1)&&x.cells.all PV.cellOK)=true:=by simp [encD,PV.cells,PV.cellOK,Value.oneCell']
@[go_sem] theorem x3u (l:List UInt32) (n:Nat):(encD l).take n=encD (l.take n):=by simp [encD]
@[go_sem] theorem x3w (l:List UInt32) (n:Nat):(encD l).drop n=encD (l.drop n):=by simp [encD]
@[go_sem] theorem y3k (l m:List UInt32):encD l++encD m=encD (l++m):=by simp [encD]
@[go_sem] theorem x3v (l:List UInt32) (c:UInt32):encD l++ [.sc (.int .u32 c.toNat)]=encD (l++ [c]):=by simp [encD]
theorem K0k (l:List UInt32) (n:Nat) (h:n<l.length):(encD l).getD n .junk= .sc (.int .u32 (l.getD n 0).toNat):=by
 simp [encD,List.getD_eq_getElem?_getD,h]
@[go_sem] theorem y3j (l:List UInt32) (i:Nat) (cs:List PV):(encD l).map (PV.frz i cs)=encD l:=by
 simp only [encD,List.map_map]
 exact List.map_congr_left fun a _=>rfl
theorem j1q (l:List UInt32) (n:Nat) (c:UInt32) (h:n<l.length):over (encD l) n [.sc (.int .u32 c.toNat)]=encD (l.set n c):=by
 unfold over encD
 rw [List.set_eq_take_append_cons_drop,if_pos h]
 simp
@[go_sem] theorem y3i (l:List UInt32) (a b:Nat):(encD l).all (PV.lim a b)=true:=by
 simp [encD,PV.lim,PV.lim1]
@[go_sem] theorem K4j (l:List UInt32):fzOK (encD l)=true:=by
 simp [encD,fzOK,PV.closed2,PV.closed1]
@[go_sem] theorem W3b (l:List UInt32):(encD l).map PV.forget2=encD l:=by
 simp only [encD,List.map_map]
 exact List.map_congr_left fun a _=>rfl
@[go_sem] theorem W3c (l:List UInt32):(encD l).all PV.closed2=true:=by
 simp [encD,PV.closed2,PV.closed1]
@[go_sem] theorem y3h (n:Nat):List.replicate n (PV.sc (.int .u32 0))=encD (List.replicate n 0):=by simp [encD]
def encZ (l:List Int):List PV:=l.map fun c=>(.sc (.int .i64 c))
@[go_sem] theorem V3s (l:List Int):(encZ l).length=l.length:=by simp [encZ]
@[go_sem] theorem w3j :encZ []= []:=(rfl)
@[go_sem] theorem J4x (l:List Int):(encZ l).all (fun x=>x.cells.length==1)=true:=by simp [encZ,PV.cells]
@[go_sem] theorem J4y (l:List Int):(encZ l).all (fun x=>(x.cells.length==1)&&x.cells.all PV.cellOK)=true:=by simp [encZ,PV.cells,PV.cellOK,Value.oneCell']
@[go_sem] theorem z3p (l:List Int) (n:Nat):(encZ l).take n=encZ (l.take n):=by simp [encZ]
@[go_sem] theorem z3r (l:List Int) (n:Nat):(encZ l).drop n=encZ (l.drop n):=by simp [encZ]
@[go_sem] theorem w3l (l m:List Int):encZ l++encZ m=encZ (l++m):=by simp [encZ]
@[go_sem] theorem z3q (l:List Int) (c:Int):encZ l++ [.sc (.int .i64 c)]=encZ (l++ [c]):=by simp [encZ]
theorem Z1y (l:List Int) (n:Nat) (h:n<l.length):(encZ l).getD n .junk= .sc (.int .i64 (l.getD n 0)):=by
 simp [encZ,List.getD_eq_getElem?_getD,h]
@[go_sem] theorem w3k (l:List Int) (i:Nat) (cs:List PV):(encZ l).map (PV.frz i cs)=encZ l:=by
 simp only [encZ,List.map_map]
 exact List.map_congr_left fun a _=>rfl
@[go_sem] theorem w2i (l:List Int) (a b:Nat):(encZ l).all (PV.lim a b)=true:=by
 simp [encZ,PV.lim,PV.lim1]
@[go_sem] theorem V3t (l:List Int):fzOK (encZ l)=true:=by
 simp [encZ,fzOK,PV.closed2,PV.closed1]
@[go_sem] theorem V3u (l:List Int):(encZ l).map PV.forget2=encZ l:=by
 simp only [encZ,List.map_map]
 exact List.map_congr_left fun a _=>rfl
@[go_sem] theorem V3v (l:List Int):(encZ l).all PV.closed2=true:=by
 simp [encZ,PV.closed2,PV.closed1]
@[go_sem] theorem x3x (l:List UInt8) (n:Nat):(encB l).take n=encB (l.take n):=by simp [encB]
@[go_sem] theorem x3y (l:List UInt8) (n:Nat):(encB l).drop n=encB (l.drop n):=by simp [encB]
attribute [go_sem] w2l V1b
theorem w0u (l:List UInt8) (n:Nat) (h:n<l.length):(encB l).getD n .junk= .sc (.int .u8 (l.getD n 0).toNat):=by
 simp [encB,List.getD_eq_getElem?_getD,h]
structure Nm where
 neg:Bool
 exp:Int
 w:List UInt64
 deriving DecidableEq
instance : Inhabited Nm:=⟨⟨false,0,[]⟩⟩
def encN (x:Nm):List PV:= [.sc (.bool x.neg),.sc (.int .i64 x.exp),.sl .no (encW x.w)]
attribute [go_sem] encN
structure Ivl where
 lo:Nm
 hi:Nm
 deriving DecidableEq
instance : Inhabited Ivl:=⟨⟨default,default⟩⟩
def encI (x:Ivl):List PV:= [.sc (.bool x.lo.neg),.sc (.int .i64 x.lo.exp),.sl .no (encW x.lo.w),.sc (.bool x.hi.neg),.sc (.int .i64 x.hi.exp),.sl .no (encW x.hi.w)]
attribute [go_sem] encI
def Q0z (l:List Nm):List PV:=l.map fun c=>(.agg (encN c))
@[go_sem] theorem G0t (l:List Nm):(Q0z l).length=l.length:=by simp [Q0z]
@[go_sem] theorem x3f :Q0z []= []:=(rfl)
@[go_sem] theorem w3x (l:List Nm):(Q0z l).all (fun x=>x.cells.length==3)=true:=by simp [Q0z,PV.cells,encN]
@[go_sem] theorem w3y (l:List Nm):(Q0z l).all (fun x=>(x.cells.length==3)&&x.cells.all PV.cellOK)=true:=by simp [Q0z,PV.cells,PV.cellOK,Value.oneCell',encN]
@[go_sem] theorem U3q (l:List Nm) (n:Nat):(Q0z l).take n=Q0z (l.take n):=by simp [Q0z]
@[go_sem] theorem U3s (l:List Nm) (n:Nat):(Q0z l).drop n=Q0z (l.drop n):=by simp [Q0z]
@[go_sem] theorem x3h (l m:List Nm):Q0z l++Q0z m=Q0z (l++m):=by simp [Q0z]
@[go_sem] theorem U3r (l:List Nm) (c:Nm):Q0z l++ [.agg (encN c)]=Q0z (l++ [c]):=by simp [Q0z]
theorem K0v (l:List Nm) (n:Nat) (h:n<l.length):(Q0z l).getD n .junk= .agg (encN (l.getD n default)):=by
 simp [Q0z,List.getD_eq_getElem?_getD,h]
@[go_sem] theorem x3g (l:List Nm) (i:Nat) (cs:List PV):(Q0z l).map (PV.frz i cs)=Q0z l:=by
 simp only [Q0z,List.map_map]
 exact List.map_congr_left fun a _=>rfl
def Q0u (l:List Ivl):List PV:=l.map fun c=>(.agg (encI c))
@[go_sem] theorem Z1b (l:List Ivl):(Q0u l).length=l.length:=by simp [Q0u]
@[go_sem] theorem x3o :Q0u []= []:=(rfl)
@[go_sem] theorem y3d (l:List Ivl):(Q0u l).all (fun x=>x.cells.length==6)=true:=by simp [Q0u,PV.cells,encI]
@[go_sem] theorem y3e (l:List Ivl):(Q0u l).all (fun x=>(x.cells.length==6)&&x.cells.all PV.cellOK)=true:=by simp [Q0u,PV.cells,PV.cellOK,Value.oneCell',encI]
@[go_sem] theorem U3w (l:List Ivl) (n:Nat):(Q0u l).take n=Q0u (l.take n):=by simp [Q0u]
@[go_sem] theorem U3y (l:List Ivl) (n:Nat):(Q0u l).drop n=Q0u (l.drop n):=by simp [Q0u]
@[go_sem] theorem x3q (l m:List Ivl):Q0u l++Q0u m=Q0u (l++m):=by simp [Q0u]
@[go_sem] theorem U3x (l:List Ivl) (c:Ivl):Q0u l++ [.agg (encI c)]=Q0u (l++ [c]):=by simp [Q0u]
theorem J0x (l:List Ivl) (n:Nat) (h:n<l.length):(Q0u l).getD n .junk= .agg (encI (l.getD n default)):=by
 simp [Q0u,List.getD_eq_getElem?_getD,h]
@[go_sem] theorem x3p (l:List Ivl) (i:Nat) (cs:List PV):(Q0u l).map (PV.frz i cs)=Q0u l:=by
 simp only [Q0u,List.map_map]
 exact List.map_congr_left fun a _=>rfl
structure Sg where
 fr:Int
 to:Int
 t0:Nm
 t1:Nm
 box:List Ivl
 deriving DecidableEq
instance : Inhabited Sg:=⟨⟨0,0,default,default,[]⟩⟩
def encS (x:Sg):List PV:= [.sc (.int .i64 x.fr),.sc (.int .i64 x.to),.sc (.bool x.t0.neg),.sc (.int .i64 x.t0.exp),.sl .no (encW x.t0.w),.sc (.bool x.t1.neg),.sc (.int .i64 x.t1.exp),.sl .no (encW x.t1.w),.sl .no (Q0u x.box)]
attribute [go_sem] encS
def W0m (l:List Sg):List PV:=l.map fun c=>(.agg (encS c))
@[go_sem] theorem Z3f (l:List Sg):(W0m l).length=l.length:=by simp [W0m]
@[go_sem] theorem z3w :W0m []= []:=(rfl)
@[go_sem] theorem w3r (l:List Sg):(W0m l).all (fun x=>x.cells.length==9)=true:=by simp [W0m,PV.cells,encS]
@[go_sem] theorem w3s (l:List Sg):(W0m l).all (fun x=>(x.cells.length==9)&&x.cells.all PV.cellOK)=true:=by simp [W0m,PV.cells,PV.cellOK,Value.oneCell',encS]
@[go_sem] theorem U3l (l:List Sg) (n:Nat):(W0m l).take n=W0m (l.take n):=by simp [W0m]
@[go_sem] theorem U3n (l:List Sg) (n:Nat):(W0m l).drop n=W0m (l.drop n):=by simp [W0m]
@[go_sem] theorem z3y (l m:List Sg):W0m l++W0m m=W0m (l++m):=by simp [W0m]
@[go_sem] theorem U3m (l:List Sg) (c:Sg):W0m l++ [.agg (encS c)]=W0m (l++ [c]):=by simp [W0m]
theorem j1p (l:List Sg) (n:Nat) (h:n<l.length):(W0m l).getD n .junk= .agg (encS (l.getD n default)):=by
 simp [W0m,List.getD_eq_getElem?_getD,h]
@[go_sem] theorem z3x (l:List Sg) (i:Nat) (cs:List PV):(W0m l).map (PV.frz i cs)=W0m l:=by
 simp only [W0m,List.map_map]
 exact List.map_congr_left fun a _=>rfl
end Go.Pv
end
section
/-More ways to know less:a slice without room becomes one that may be appended to;tags forgotten. -/
namespace Go.Pv
def PFS.claim (t sz:Nat) (s:PFS):PFS:=
 match s.pa.getD t .junk with
 | .sl .full []=>⟨s.pa.set t (.sl (.own s.T.length) []),s.L,s.T++ [(0,sz)],s.st⟩
 | _=>s
theorem X2o {E:Ent} {s:PFS} (t sz:Nat):Weak E s (s.claim t sz):=by
 intro a w g F h
 unfold PFS.claim
 split
 · rename_i he
   obtain⟨es,hes⟩: ∃es:List PV,es= []:=⟨_,rfl⟩
   rw [←hes] at he⊢
   have hv:=h.len_eq t
   rw [he] at hv
   have hbase: ∀v,RepF w g F s.T v (.sl .full es)→Rep w g v (.sl .full es):=fun v hv=>by cases hv with | base _ _ h=>exact h
   have hv:=hbase _ hv
   have hri: ∀v,Rep w g v (.sl .full es)→Right w g none sz v es:=fun v hv=>by
    cases hv with
    | nil t ad ht=>exact⟨.inr ⟨_,rfl⟩,rfl⟩
    | sl t es b off sz cap cf ht hf hcap hsz hvis hc hr=>exact⟨.inr ⟨_,by rw [hf rfl]⟩,by rw [hes];rfl⟩
   rw [show(0:Nat)=es.length from by rw [hes];rfl]
   obtain⟨F',m1,m2,m3,m4,m5⟩:=h.mint es.length sz none (fun b hb=>by cases hb)
   have hlast:(s.T++ [(es.length,sz)]).getD s.T.length (0,0)=(es.length,sz):=by simp [List.getD_eq_getElem?_getD]
   have hown:RepF w g F' (s.T++ [(es.length,sz)]) (a.tmps.getD t undef) (.sl (.own s.T.length) es):=by
    refine .own _ _ _ hv.toNo (by simp) (by rw [hlast];exact Nat.le_refl _) fun _=> ?_
    rw [hlast,m2]
    exact hri _ hv
   refine⟨g,F',m1.ext,m1.store,m1.frame,m1.defers,by rw [List.length_set];exact m1.len,fun j hj=> ?_⟩
   simp only [List.length_set] at hj
   by_cases e:t=j
   · subst e
     rw [Q0p _ _ _ _ hj]
     exact hown
   · rw [Q0j _ _ _ _ _ e]
     exact m1.tmps j hj
 · exact⟨g,F,h⟩
theorem Z0y {P:Program} {E:Ent} {c:Code} {Q:Exit→PFS→Prop} {s:PFS} (t sz:Nat) (h:PWP P E c Q (s.claim t sz)):PWP P E c Q s:=J0e (X2o t sz) h
def clm (p:PV) (t sz:Nat) (pa:List PV) (L:Q0g) (T:List (Nat×Nat)) (st:Q0g):PFS:=
 match p with
 | .sl .full []=>⟨pa.set t (.sl (.own T.length) []),L,T++ [(0,sz)],st⟩
 | _=>⟨pa,L,T,st⟩
@[go_sem] theorem y3o {t sz:Nat} {pa:List PV} {L st:Q0g} {T:List (Nat×Nat)} :(PFS.mk pa L T st).claim t sz=clm (pa.getD t .junk) t sz pa L T st:=by
 unfold PFS.claim clm
 rfl
@[go_sem] theorem y3n {t sz:Nat} {pa:List PV} {L st:Q0g} {T:List (Nat×Nat)} :clm (.sl .full []) t sz pa L T st=⟨pa.set t (.sl (.own T.length) []),L,T++ [(0,sz)],st⟩:=(rfl)
def noL :List Bool→List PV→List PV
 | b::bs,p::ps=>(if b&&p.closed2 then p.forget2 else p)::noL bs ps
 | [],ps=>ps
 | _,[]=> []
theorem Q1d : ∀(bs:List Bool) (ps:List PV),(noL bs ps).length=ps.length
 | [],[]=>rfl
 | [],p::ps=>rfl
 | b::bs,[]=>rfl
 | b::bs,p::ps=>by simp [noL,Q1d bs ps]
theorem Q2x : ∀(bs:List Bool) (ps:List PV) (j:Nat),(noL bs ps).getD j .junk=ps.getD j .junk∨((ps.getD j .junk).closed2=true∧(noL bs ps).getD j .junk=(ps.getD j .junk).forget2)
 | [],ps,j=> .inl rfl
 | b::bs,[],j=> .inl rfl
 | b::bs,p::ps,j=>by
  cases j with
  | zero=>
   simp only [noL,List.getD_cons_zero]
   by_cases h:(b&&p.closed2)=true
   · rw [if_pos h];simp at h;exact .inr ⟨h.2,rfl⟩
   · rw [if_neg h];exact .inl rfl
  | succ j=>simpa [noL] using Q2x bs ps j
def PFS.plain (bs:List Bool) (s:PFS):PFS:=⟨noL bs s.pa,s.L,s.T,s.st⟩
theorem W1o {E:Ent} {s:PFS} (bs:List Bool):Weak E s (s.plain bs):=by
 intro a w g F h
 refine⟨g,F,h.ext,h.store,h.frame,h.defers,by simp only [PFS.plain,Q1d];exact h.len,fun j hj=> ?_⟩
 simp only [PFS.plain,Q1d] at hj⊢
 rcases Q2x bs s.pa j with e | ⟨e1,e2⟩
 · rw [e];exact h.tmps j hj
 · rw [e2];exact .base _ _ ((h.tmps j hj).forget2 e1)
theorem J0u {P:Program} {E:Ent} {c:Code} {Q:Exit→PFS→Prop} {s:PFS} (bs:List Bool) (h:PWP P E c Q (s.plain bs)):PWP P E c Q s:=J0e (W1o bs) h
@[go_sem] theorem k3p {bs:List Bool} {pa:List PV} {L st:Q0g} {T:List (Nat×Nat)} :(PFS.mk pa L T st).plain bs=⟨noL bs pa,L,T,st⟩:=(rfl)
@[go_sem] theorem X4e {ps:List PV} :noL [] ps=ps:=(rfl)
@[go_sem] theorem Y4z {bs ps:List PV} {b:List Bool} {p:PV} :noL (false::b) (p::ps)=p::noL b ps:=(rfl)
@[go_sem] theorem W4t {ps es:List PV} {b:List Bool} :noL (true::b) (.sl .no es::ps)= .sl .no es::noL b ps:=(rfl)
@[go_sem] theorem k3r {ps es:List PV} {b:List Bool} :noL (true::b) (.sl .full es::ps)= .sl .no es::noL b ps:=(rfl)
@[go_sem] theorem X4d {k:Nat} {ps es:List PV} {b:List Bool} :noL (true::b) (.sl (.own k) es::ps)= .sl .no es::noL b ps:=(rfl)
@[go_sem] theorem X4f {ps cs:List PV} {b:List Bool} :noL (true::b) (.agg cs::ps)=(if cs.all PV.closed1=true then .agg (cs.map PV.forget1) else .agg cs)::noL b ps:=by
 simp only [noL,PV.closed2,PV.forget2,Bool.true_and]
def PFS.plainBox (i:Nat) (s:PFS):PFS:=if (s.L.getD i []).all PV.closed2=true∧i<s.L.length then⟨s.pa,s.L.set i ((s.L.getD i []).map PV.forget2),s.T,s.st⟩ else s
theorem U1y {E:Ent} {s:PFS} (i:Nat):Weak E s (s.plainBox i):=by
 intro a w g F h
 unfold PFS.plainBox
 split
 · rename_i hc
   have hne: ∀k,(s.L.set i ((s.L.getD i []).map PV.forget2)).getD k []≠ []→s.L.getD k []≠ []:=fun k hk=>by
    by_cases e:i=k
    · subst e
      rw [Q0p _ _ _ _ hc.2] at hk
      intro e2;rw [e2] at hk;exact hk rfl
    · rwa [Q0j _ _ _ _ _ e] at hk
   refine⟨g,F,h.ext,h.store,⟨by simpa using h.frame.nl,fun k hk=>h.frame.lo k (hne k hk),fun k hk=>h.frame.apart k (hne k hk),fun k j hk hj=>h.frame.inj k j (hne k hk) (hne j hj),fun k hk=> ?_,h.frame.tlo,fun k b h1 h2=>⟨(h.frame.tapart k b h1 h2).1,fun j hj=>(h.frame.tapart k b h1 h2).2 j (hne j hj)⟩,h.frame.tinj⟩,h.defers,h.len,h.tmps⟩
   have hh:=h.frame.holds k (hne k hk)
   by_cases e:i=k
   · subst e
     rw [Q0p _ _ _ _ hc.2]
     intro j hj
     have hj':j<(s.L.getD i []).length:=by simpa using hj
     obtain⟨q1,c,q2,q3⟩:=hh j hj'
     refine⟨q1,c,q2,?_⟩
     rw [J0g _ _ _ _ .junk hj']
     exact .base _ _ (q3.forget2 (List.all_eq_true.1 hc.1 _ (Z0b _ _ _ hj')))
   · rw [Q0j _ _ _ _ _ e];exact hh
 · exact⟨g,F,h⟩
theorem Y0u {P:Program} {E:Ent} {c:Code} {Q:Exit→PFS→Prop} {s:PFS} (i:Nat) (h:PWP P E c Q (s.plainBox i)):PWP P E c Q s:=J0e (U1y i) h
@[go_sem] theorem J3y {i:Nat} {pa:List PV} {L st:Q0g} {T:List (Nat×Nat)} :(PFS.mk pa L T st).plainBox i=if (L.getD i []).all PV.closed2=true∧i<L.length then⟨pa,L.set i ((L.getD i []).map PV.forget2),T,st⟩ else⟨pa,L,T,st⟩:=(rfl)
theorem PCalls.plain {P:Program} {f:FuncId} {args es:List PV} {st:Q0g} {sz:Nat} (h:PCalls P f args st (fun r st'=>r= .sl (.fresh sz) es∧st'=st)):PCalls P f args st (fun r st'=>r= .sl .no es∧st'=st):=
 fun w g vs hs hr=>(h w g vs hs hr).mono fun _ _ ⟨v,g',r,st',he,hx,ho,hv,q⟩=>by
  obtain⟨rfl,rfl⟩:=q
  exact⟨v,g',.sl .no es,_,he,hx,ho,hv.1,rfl,rfl⟩
end Go.Pv
end
section
/-The machine's arithmetic on natural numbers. No program in it. -/
namespace Go.Pv
theorem V2r (n:Nat):IntKind.u64.wrap (n:Int)=((n % 18446744073709551616:Nat):Int):=by
 simp [IntKind.wrap,IntKind.bits,IntKind.signed]
theorem K0d (n:Nat):IntKind.u32.wrap (n:Int)=((n % 4294967296:Nat):Int):=by
 simp [IntKind.wrap,IntKind.bits,IntKind.signed]
theorem Q0i (n:Nat) (h:n<9223372036854775808):IntKind.i64.wrap (n:Int)=(n:Int):=Q0q _ (by omega) (by omega)
theorem x0f (a b:Nat) (ha:a<18446744073709551616) (hb:b<18446744073709551616):bOr .u64 (a:Int) (b:Int)=((a|||b:Nat):Int):=by
 unfold bOr
 have e:(BitVec.ofInt IntKind.u64.bits (a:Int)|||BitVec.ofInt IntKind.u64.bits (b:Int)).toNat=a|||b:=by
  have e1:BitVec.ofInt IntKind.u64.bits (a:Int)=BitVec.ofNat 64 a:=by simp [IntKind.bits]
  have e2:BitVec.ofInt IntKind.u64.bits (b:Int)=BitVec.ofNat 64 b:=by simp [IntKind.bits]
  rw [e1,e2]
  show(BitVec.ofNat 64 a|||BitVec.ofNat 64 b).toNat=a|||b
  rw [BitVec.toNat_or,BitVec.toNat_ofNat,BitVec.toNat_ofNat,Nat.mod_eq_of_lt (by omega:a<2^64),Nat.mod_eq_of_lt (by omega:b<2^64)]
 rw [e]
 exact Z0m _ (Nat.or_lt_two_pow (n:=64) ha hb)
theorem G0w (a b:Nat) (ha:a<18446744073709551616) (hb:b<18446744073709551616):bAnd .u64 (a:Int) (b:Int)=((a&&&b:Nat):Int):=by
 unfold bAnd
 have e:(BitVec.ofInt IntKind.u64.bits (a:Int)&&&BitVec.ofInt IntKind.u64.bits (b:Int)).toNat=a&&&b:=by
  have e1:BitVec.ofInt IntKind.u64.bits (a:Int)=BitVec.ofNat 64 a:=by simp [IntKind.bits]
  have e2:BitVec.ofInt IntKind.u64.bits (b:Int)=BitVec.ofNat 64 b:=by simp [IntKind.bits]
  rw [e1,e2]
  show(BitVec.ofNat 64 a&&&BitVec.ofNat 64 b).toNat=a&&&b
  rw [BitVec.toNat_and,BitVec.toNat_ofNat,BitVec.toNat_ofNat,Nat.mod_eq_of_lt (by omega:a<2^64),Nat.mod_eq_of_lt (by omega:b<2^64)]
 rw [e]
 exact Z0m _ (Nat.lt_of_le_of_lt Nat.and_le_left ha)
theorem Z2y (a b:Nat) (ha:a<18446744073709551616) (hb:b<18446744073709551616):bXor .u64 (a:Int) (b:Int)=((a^^^b:Nat):Int):=by
 unfold bXor
 have e:(BitVec.ofInt IntKind.u64.bits (a:Int)^^^BitVec.ofInt IntKind.u64.bits (b:Int)).toNat=a^^^b:=by
  have e1:BitVec.ofInt IntKind.u64.bits (a:Int)=BitVec.ofNat 64 a:=by simp [IntKind.bits]
  have e2:BitVec.ofInt IntKind.u64.bits (b:Int)=BitVec.ofNat 64 b:=by simp [IntKind.bits]
  rw [e1,e2]
  show(BitVec.ofNat 64 a^^^BitVec.ofNat 64 b).toNat=a^^^b
  rw [BitVec.toNat_xor,BitVec.toNat_ofNat,BitVec.toNat_ofNat,Nat.mod_eq_of_lt (by omega:a<2^64),Nat.mod_eq_of_lt (by omega:b<2^64)]
 rw [e]
 exact Z0m _ (Nat.xor_lt_two_pow (n:=64) ha hb)
theorem W3y (a b:Nat) (ha:a<4294967296) (hb:b<4294967296):bOr .u32 (a:Int) (b:Int)=((a|||b:Nat):Int):=by
 unfold bOr
 have e:(BitVec.ofInt IntKind.u32.bits (a:Int)|||BitVec.ofInt IntKind.u32.bits (b:Int)).toNat=a|||b:=by
  have e1:BitVec.ofInt IntKind.u32.bits (a:Int)=BitVec.ofNat 32 a:=by simp [IntKind.bits]
  have e2:BitVec.ofInt IntKind.u32.bits (b:Int)=BitVec.ofNat 32 b:=by simp [IntKind.bits]
  rw [e1,e2]
  show(BitVec.ofNat 32 a|||BitVec.ofNat 32 b).toNat=a|||b
  rw [BitVec.toNat_or,BitVec.toNat_ofNat,BitVec.toNat_ofNat,Nat.mod_eq_of_lt (by omega:a<2^32),Nat.mod_eq_of_lt (by omega:b<2^32)]
 rw [e,K0d,Nat.mod_eq_of_lt (Nat.or_lt_two_pow (n:=32) ha hb)]
theorem X2b (a b:Nat) (ha:a<4294967296) (hb:b<4294967296):bAnd .u32 (a:Int) (b:Int)=((a&&&b:Nat):Int):=by
 unfold bAnd
 have e:(BitVec.ofInt IntKind.u32.bits (a:Int)&&&BitVec.ofInt IntKind.u32.bits (b:Int)).toNat=a&&&b:=by
  have e1:BitVec.ofInt IntKind.u32.bits (a:Int)=BitVec.ofNat 32 a:=by simp [IntKind.bits]
  have e2:BitVec.ofInt IntKind.u32.bits (b:Int)=BitVec.ofNat 32 b:=by simp [IntKind.bits]
  rw [e1,e2]
  show(BitVec.ofNat 32 a&&&BitVec.ofNat 32 b).toNat=a&&&b
  rw [BitVec.toNat_and,BitVec.toNat_ofNat,BitVec.toNat_ofNat,Nat.mod_eq_of_lt (by omega:a<2^32),Nat.mod_eq_of_lt (by omega:b<2^32)]
 rw [e,K0d,Nat.mod_eq_of_lt (Nat.lt_of_le_of_lt Nat.and_le_left ha)]
theorem X2a (k:IntKind) (v c:Nat) (h:c≤k.bits):bShl k (v:Int) (c:Int)=k.wrap ((v*2^c:Nat):Int):=by
 unfold bShl
 rw [Int.toNat_natCast,Nat.min_eq_left h]
 congr 1
theorem W0r (v c:Nat) (h:c≤64):bShl .u64 (v:Int) (c:Int)=((v*2^c % 18446744073709551616:Nat):Int):=by
 rw [X2a .u64 v c h,V2r]
theorem y2h (v c:Nat) (h:c≤32):bShl .u32 (v:Int) (c:Int)=((v*2^c % 4294967296:Nat):Int):=by
 rw [X2a .u32 v c h,K0d]
theorem Y0k (v c:Nat) (h:c≤64):bShr .u64 (v:Int) (c:Int)=((v/2^c:Nat):Int):=W0q .u64 v c h
theorem Z2z (v c:Nat) (h:c≤32):bShr .u32 (v:Int) (c:Int)=((v/2^c:Nat):Int):=W0q .u32 v c h
theorem w0e (x y c:Nat) (hx:x<2^c) (hy:y % 2^c=0):x|||y=x+y:=by
 have e:y=2^c*(y/2^c):=by have:=Nat.div_add_mod y (2^c);omega
 rw [Nat.or_comm,e,←Nat.two_pow_add_eq_or_of_lt hx,Nat.add_comm]
theorem K1h (w c:Nat) (h:c≤64):w*2^c % 18446744073709551616 % 2^c=0:=by
 have e:(18446744073709551616:Nat)=2^c*2^(64-c):=by rw [←Nat.pow_add,show c+(64-c)=64 from by omega]
 rw [e,Nat.mod_mul_right_mod,Nat.mul_mod_left]
theorem W2y (w c:Nat) (hw:w<18446744073709551616) (h:c≤64):w*2^c=w*2^c % 18446744073709551616+18446744073709551616*(w/2^(64-c)):=by
 have e:(18446744073709551616:Nat)=2^(64-c)*2^c:=by rw [←Nat.pow_add,show 64-c+c=64 from by omega]
 have d:w*2^c/18446744073709551616=w/2^(64-c):=by
  rw [e,Nat.mul_div_mul_right _ _ (Nat.pow_pos (by decide))]
 rw [←d]
 exact(Nat.mod_add_div _ _).symm
theorem H3f (w c:Nat) (hw:w<18446744073709551616) (h:c≤64):w/2^(64-c)<2^c:=by
 rw [Nat.div_lt_iff_lt_mul (Nat.pow_pos (by decide)),←Nat.pow_add,show c+(64-c)=64 from by omega]
 exact hw
theorem Z1m (n m:Nat):(n:Int).tdiv (m:Int)=((n/m:Nat):Int):=(Int.ofNat_tdiv n m).symm
theorem x0k (n m:Nat):(n:Int).tmod (m:Int)=((n % m:Nat):Int):=(Int.ofNat_tmod n m).symm
theorem H1b (k:Nat):18446744073709551616^k=2^(64*k):=by rw [show(18446744073709551616:Nat)=2^64 from rfl,←Nat.pow_mul]
theorem x1j (k:Nat):4294967296^k=2^(32*k):=by rw [show(4294967296:Nat)=2^32 from rfl,←Nat.pow_mul]
theorem W0d (n:Nat) (h:n<18446744073709551616):(UInt64.ofNat n).toNat=n:=by rw [UInt64.toNat_ofNat'];omega
theorem K0n (n:Nat) (h:n<4294967296):(UInt32.ofNat n).toNat=n:=by rw [UInt32.toNat_ofNat'];omega
end Go.Pv
end
section
/-Dyadic numbers:order by value. No program in it. -/
namespace Go.Pv
theorem k1l {m n:Nat} (h:Q0l m<Q0l n):m<n:=by
 apply Nat.lt_of_not_le;intro hle
 have:Q0l n≤Q0l m:=bitlen_le_iff.2 (Nat.lt_of_le_of_lt hle (X0g m))
 omega
def U0p (l:List UInt64):Nat:=Q0l (valW l)
theorem q2v (l:List UInt64):U0p (cutW l)=U0p l:=by simp only [U0p,Z1j]
theorem k1b (l:List UInt64):cutW l= []↔valW l=0:=by rw [←X0l,wordsOf_nil]
theorem q2u (l:List UInt64) (h:cutW l≠ []):U0p l=64*((cutW l).length-1)+Q0l ((cutW l).getD ((cutW l).length-1) 0).toNat:=by
 have hl:=q2a l h
 rw [←q2v]
 generalize cutW l=c at*
 have hp:0<c.length:=List.length_pos_iff.2 h
 have e:valW c=valW (c.take (c.length-1))+18446744073709551616^(c.length-1)*(c.getD (c.length-1) 0).toNat:=by
  rw [←G0y c (c.length-1) (by omega),show c.length-1+1=c.length from by omega,List.take_length]
 have hb:=G1c (c.take (c.length-1))
 rw [List.length_take,Nat.min_eq_left (by omega)] at hb
 rw [U0p,e]
 rw [H1b] at hb⊢
 exact U1w _ _ _ hb (fun h0=>hl ((Z1l _).2 h0))
theorem y0c (l:List UInt64):U0p l≤64*l.length:=by
 rw [U0p,bitlen_le_iff,←H1b];exact G1c l
def mant (x:Nm):Int:=if x.neg then -(valW x.w:Int) else(valW x.w:Int)
def cmpE (m:Int) (e:Int) (n:Int) (f:Int):Int:=cmpI (m*2^(e-min e f).toNat) (n*2^(f-min e f).toNat)
def cmpN (a b:Nm):Int:=cmpE (mant a) a.exp (mant b) b.exp
def sgn (m:Int):Int:=if m=0 then 0 else if m<0 then -1 else 1
theorem two_pow_pos (n:Nat):(0:Int)<2^n:=Int.pow_pos (by decide)
theorem y0j (m:Int) (n:Nat):sgn (m*2^n)=sgn m:=by
 have h:=two_pow_pos n
 unfold sgn
 by_cases h0:m=0
 · simp [h0]
 · have h1:m*2^n≠0:=Int.mul_ne_zero h0 (by omega)
   rw [if_neg h0,if_neg h1]
   by_cases hl:m<0
   · rw [if_pos hl,if_pos (Int.mul_neg_of_neg_of_pos hl h)]
   · rw [if_neg hl,if_neg]
     have:0<m*2^n:=Int.mul_pos (by omega) h
     omega
theorem w1u {m n:Int} (h:sgn m≠sgn n):cmpI m n=cmpI (sgn m) (sgn n):=by
 unfold sgn at*
 unfold cmpI
 repeat' split at h
 all_goals repeat' split
 all_goals first | omega | rfl | (exfalso;omega)
theorem w1v {m e n f:Int} (h:sgn m≠sgn n):cmpE m e n f=cmpI (sgn m) (sgn n):=by
 unfold cmpE
 rw [w1u (by rw [y0j,y0j];exact h),y0j,y0j]
theorem q2h {e f:Int} :cmpE 0 e 0 f=0:=by unfold cmpE;simp [Q1k]
theorem w2r {m e n f:Int} :cmpE (-m) e (-n) f= -cmpE m e n f:=by
 unfold cmpE;rw [Int.neg_mul,Int.neg_mul,k1g]
theorem q2i {m e n f:Int} :cmpE n f m e= -cmpE m e n f:=by
 unfold cmpE;rw [Int.min_comm f e,k1f]
theorem H1x (m n:Nat) (e f:Int):cmpE m e n f=cmpW (m*2^(e-min e f).toNat) (n*2^(f-min e f).toNat):=by
 unfold cmpE cmpW
 rw [Int.natCast_mul,Int.natCast_mul,Int.natCast_pow,Int.natCast_pow];rfl
theorem q2j {m n:Nat} {e f:Int} (hm:m≠0) (hn:n≠0) (h:(Q0l m:Int)+e≠(Q0l n:Int)+f):cmpE m e n f=cmpI ((Q0l m:Int)+e) ((Q0l n:Int)+f):=by
 rw [H1x,cmpW]
 have h1:=Y0j m (e-min e f).toNat hm
 have h2:=Y0j n (f-min e f).toNat hn
 by_cases hl:(Q0l m:Int)+e<(Q0l n:Int)+f
 · rw [U0f hl,U0f]
   exact Int.ofNat_lt.2 (k1l (by rw [h1,h2];omega))
 · have hlt:n*2^(f-min e f).toNat<m*2^(e-min e f).toNat:=k1l (by rw [h1,h2];omega)
   have hlt':=Int.ofNat_lt.2 hlt
   rw [U0g (a:=(Q0l m:Int)+e) (by omega),U0g hlt']
theorem W3s {m n:Nat} {e f:Int} (h:f<e):cmpE m e n f=cmpW (m*2^(e-f).toNat) n:=by
 rw [H1x,Int.min_eq_right (by omega)];simp
theorem W3r {m n:Nat} {e f:Int} (h:e≤f):cmpE m e n f=cmpW m (n*2^(f-e).toNat):=by
 rw [H1x,Int.min_eq_left h];simp
def sm (x:Nm):Prop:=x.w.length≤1000000∧ -1000000000≤x.exp∧x.exp≤1000000000
theorem mant_zero {x:Nm} :mant x=0↔valW x.w=0:=by
 unfold mant;split<;>omega
def sgnN (x:Nm):Int:=if valW x.w=0 then 0 else if x.neg then -1 else 1
theorem y0k (x:Nm):sgnN x=sgn (mant x):=by
 unfold sgnN sgn mant
 by_cases h:valW x.w=0
 · rw [if_pos h];simp [h]
 · cases hn:x.neg
   · simp [h]
   · simp [h]
theorem W3q (a b:Nm):cmpN a b=if sgnN a≠sgnN b∨sgnN a=0 then cmpI (sgnN a) (sgnN b) else sgnN a*cmpE (valW a.w) a.exp (valW b.w) b.exp:=by
 by_cases h:sgnN a≠sgnN b
 · rw [if_pos (.inl h),cmpN,y0k,y0k]
   rw [y0k,y0k] at h
   exact w1v h
 · have h':sgnN a=sgnN b:=Decidable.not_not.1 h
   by_cases h0:sgnN a=0
   · rw [if_pos (.inr h0),h0,←h',h0]
     have z: ∀x,sgnN x=0→mant x=0:=fun x hx=>by
      unfold sgnN at hx
      by_cases hv:valW x.w=0
      · exact mant_zero.2 hv
      · rw [if_neg hv] at hx;split at hx<;>cases hx
     rw [cmpN,z a h0,z b (h'▸h0),q2h];rfl
   · rw [if_neg (by simp [h',h0];rw [←h'];exact h0)]
     unfold sgnN at h' h0
     unfold sgnN cmpN mant
     by_cases ha:valW a.w=0
     · rw [if_pos ha] at h0;exact absurd rfl h0
     · by_cases hb:valW b.w=0
       · rw [if_pos hb] at h';exact absurd h' h0
       · rw [if_neg ha,if_neg hb] at h'
         cases hna:a.neg<;>cases hnb:b.neg<;>simp [hna,hnb,ha,hb,w2r] at h'⊢
end Go.Pv
end
section
/-Digits of 32 bits:shifts,noughts at the end. No program in it. -/
namespace Go.Pv
theorem z0x {α:Type} (l:List α) (i:Nat) (d:α) (h:l.length≤i):l.getD i d=d:=by
 rw [List.getD_eq_getElem?_getD,List.getElem?_eq_none h];rfl
theorem J0r (l:List UInt32) (i:Nat):valD (l.take (i+1))=valD (l.take i)+4294967296^i*(l.getD i 0).toNat:=by
 by_cases h:i<l.length
 · exact Y0f l i h
 · rw [List.take_of_length_le (by omega),List.take_of_length_le (by omega),z0x l i 0 (by omega)]
   show valD l=valD l+4294967296^i*0
   omega
theorem Y0g (l:List UInt32) (i:Nat) (h:i≤l.length):valD l=valD (l.take i)+4294967296^i*valD (l.drop i):=by
 conv=>lhs;rw [←List.take_append_drop i l]
 rw [j0x,List.length_take,Nat.min_eq_left h]
theorem v0e (l:List UInt32) (i:Nat) (h:i<l.length):valD (l.drop i)=(l.getD i 0).toNat+4294967296*valD (l.drop (i+1)):=by
 rw [List.drop_eq_getElem_cons h]
 simp only [valD,nD,List.map_cons,val]
 rw [List.getD_eq_getElem?_getD,List.getElem?_eq_getElem h];rfl
theorem z0b (l:List UInt32) (i:Nat) (h:l.length≤i):valD (l.drop i)=0:=by
 rw [List.drop_of_length_le h];rfl
theorem W1r (l:List UInt32) (i:Nat):valD (l.drop i)=(l.getD i 0).toNat+4294967296*valD (l.drop (i+1)):=by
 by_cases h:i<l.length
 · exact v0e l i h
 · rw [z0b l i (by omega),z0b l (i+1) (by omega),z0x l i 0 (by omega)];rfl
theorem Z1c (l:List UInt32) (i:Nat) (h:i≤l.length):valD l/4294967296^i=valD (l.drop i):=by
 have hb:=y0g (l.take i)
 rw [List.length_take,Nat.min_eq_left h] at hb
 rw [Y0g l i h,Nat.add_mul_div_left _ _ (Nat.pow_pos (by decide)),Nat.div_eq_of_lt hb,Nat.zero_add]
theorem G2n (a o:List UInt32) (k s i:Nat) (hs:s<32) (hi:i<a.length) (ho:o.length=a.length+k+1)
 (hv:valD o=valD (a.take i)*2^(32*k+s)) (hc:(o.getD (i+k) 0).toNat<2^s) (hz: ∀j,i+k<j→o.getD j 0=0):
 let x:=(a.getD i 0).toNat*2^s
 let lo:=UInt32.ofNat ((o.getD (i+k) 0).toNat+x % 4294967296)
 let hi':=UInt32.ofNat (x/4294967296)
 x<18446744073709551616∧bOr .u32 ((o.getD (i+k) 0).toNat:Int) ((x % 4294967296:Nat):Int)=(lo.toNat:Int)∧x/4294967296=hi'.toNat∧
 valD ((o.set (i+k) lo).set (i+k+1) hi')=valD (a.take (i+1))*2^(32*k+s)∧hi'.toNat<2^s:=by
 intro x lo hi'
 have hw:(a.getD i 0).toNat<4294967296:=UInt32.toNat_lt _
 have h32:2^s≤2^32:=Nat.pow_le_pow_right (by decide) (by omega)
 have hx:x<4294967296*2^s:=Nat.mul_lt_mul_of_pos_right hw (Nat.pow_pos (by decide))
 have hx64:x<18446744073709551616:=Nat.lt_of_lt_of_le hx (by have:=Nat.mul_le_mul_left 4294967296 h32;omega)
 have hmod:x % 4294967296 % 2^s=0:=by
  have e:(4294967296:Nat)=2^s*2^(32-s):=by rw [←Nat.pow_add,show s+(32-s)=32 from by omega]
  show(a.getD i 0).toNat*2^s % 4294967296 % 2^s=0
  rw [e,Nat.mod_mul_right_mod,Nat.mul_mod_left]
 have hlt:=Nat.mod_lt x (show 4294967296>0 by decide)
 have hor:=w0e (o.getD (i+k) 0).toNat (x % 4294967296) s hc hmod
 have hsum:(o.getD (i+k) 0).toNat+x % 4294967296<4294967296:=by
  rw [←hor];exact Nat.or_lt_two_pow (n:=32) (UInt32.toNat_lt _) hlt
 have elo:lo.toNat=(o.getD (i+k) 0).toNat+x % 4294967296:=K0n _ hsum
 have hdiv:x/4294967296<2^s:=(Nat.div_lt_iff_lt_mul (by decide)).2 (by omega)
 have ehi:hi'.toNat=x/4294967296:=K0n _ (by omega)
 refine⟨hx64,?_,ehi.symm,?_,by rw [ehi];exact hdiv⟩
 · rw [W3y _ _ (UInt32.toNat_lt _) hlt,hor,elo]
 · have e1:=y1i o (i+k) lo (by omega)
   have e2:=y1i (o.set (i+k) lo) (i+k+1) hi' (by simp;omega)
   rw [G0s,if_neg (by omega),hz (i+k+1) (by omega)] at e2
   rw [Y0f a i hi,Nat.add_mul,←hv]
   have e3:4294967296^i*(a.getD i 0).toNat*2^(32*k+s)=4294967296^(i+k)*x:=by
    rw [Nat.pow_add 4294967296 i k,x1j k,Nat.pow_add];simp only [x,Nat.mul_assoc,Nat.mul_left_comm,Nat.mul_comm]
   rw [e3,←Nat.mod_add_div x 4294967296,Nat.mul_add,←Nat.mul_assoc,show 4294967296^(i+k)*4294967296=4294967296^(i+k+1) from(Nat.pow_succ ..).symm]
   rw [elo,Nat.mul_add] at e1
   rw [ehi] at e2
   have z0:(0:UInt32).toNat=0:=rfl
   rw [z0,Nat.mul_zero] at e2
   omega
theorem K2x (a b r s:Nat) (hs:s<32):(a+4294967296*(b+4294967296*r))/2^s % 4294967296=(a+4294967296*b)/2^s % 4294967296:=by
 have e:4294967296*(b+4294967296*r)=4294967296*b+2^s*(4294967296*(2^(32-s)*r)):=by
  have:(4294967296:Nat)=2^s*2^(32-s):=by rw [←Nat.pow_add,show s+(32-s)=32 from by omega]
  have e2:2^s*(4294967296*(2^(32-s)*r))=4294967296*(2^s*2^(32-s)*r):=by
   simp only [Nat.mul_assoc,Nat.mul_left_comm]
  rw [e2,←this,Nat.mul_add]
 rw [e,←Nat.add_assoc,Nat.add_mul_div_left _ _ (Nat.pow_pos (by decide)),Nat.add_mul_mod_self_left]
theorem H1e (x B j:Nat):x % B^(j+1)=x % B^j+B^j*(x/B^j % B):=by
 rw [Nat.pow_succ,Nat.mod_mul]
def tz (m:Nat):Nat:=if h:m=0∨m % 2=1 then 0 else tz (m/2)+1
termination_by m
decreasing_by omega
theorem W2a :tz 0=0:=by rw [tz];simp
theorem W2b {m:Nat} (h:m % 2=1):tz m=0:=by rw [tz,dif_pos (.inr h)]
theorem W2c {m:Nat} (h0:m≠0) (h:m % 2=0):tz m=tz (m/2)+1:=by rw [tz,dif_neg (by omega)]
theorem y1j (z q:Nat) (hq:q % 2=1):tz (2^z*q)=z:=by
 induction z with
 | zero=>simp [W2b hq]
 | succ z ih=>
  have hp:0<2^z:=Nat.pow_pos (by decide)
  have e:2^(z+1)*q=2*(2^z*q):=by rw [Nat.pow_succ];simp only [Nat.mul_assoc,Nat.mul_left_comm,Nat.mul_comm]
  have h0:2^z*q≠0:=Nat.mul_ne_zero (by omega) (by omega)
  rw [e,W2c (by omega) (by omega),Nat.mul_div_cancel_left _ (by decide),ih]
theorem G1e (m:Nat) (h:m≠0): ∃q,q % 2=1∧m=2^tz m*q:=by
 induction m using Nat.strongRecOn with
 | _ m ih=>
  by_cases ho:m % 2=1
  · exact⟨m,ho,by rw [W2b ho];simp⟩
  · obtain⟨q,h1,h2⟩:=ih (m/2) (by omega) (by omega)
    refine⟨q,h1,?_⟩
    rw [W2c h (by omega),Nat.pow_succ]
    have:m=2*(m/2):=by omega
    conv=>lhs;rw [this,h2]
    simp only [Nat.mul_assoc,Nat.mul_left_comm,Nat.mul_comm]
theorem H0i (m:Nat) (h:m≠0):m/2^tz m % 2=1:=by
 obtain⟨q,h1,h2⟩:=G1e m h
 have:m/2^tz m=q:=by
  conv=>lhs;lhs;rw [h2]
  exact Nat.mul_div_cancel_left _ (Nat.pow_pos (by decide))
 rw [this,h1]
theorem y2x (m:Nat):m % 2^tz m=0:=by
 by_cases h:m=0
 · subst h;simp
 · obtain⟨q,_,h2⟩:=G1e m h
   conv=>lhs;lhs;rw [h2]
   exact Nat.mul_mod_right _ _
theorem W1s (m:Nat):m/2^tz m*2^tz m=m:=Nat.div_mul_cancel (Nat.dvd_of_mod_eq_zero (y2x m))
theorem Q1t (m:Nat) (h:m≠0):tz m<Q0l m:=by
 apply Nat.lt_of_not_le;intro hle
 have h1:m<2^tz m:=bitlen_le_iff.1 hle
 have:=y2x m
 rw [Nat.mod_eq_of_lt h1] at this
 exact h this
end Go.Pv
end
section
/-The document's values:sums,order. No program in it. -/
namespace Go.Pv
structure Vl where
 neg:Bool
 m:Nat
 e:Int
 deriving DecidableEq
instance : Inhabited Vl:=⟨⟨false,0,0⟩⟩
def encV (v:Vl):List PV:= [.sc (.bool v.neg),.sl .no (encD (Q0d v.m)),.sc (.int .i64 v.e)]
attribute [go_sem] encV
theorem X0o (m:Nat):(Q0d m).length≤(Q0l m+31)/32:=by
 apply w0v
 rw [x1j]
 exact Nat.lt_of_lt_of_le (X0g m) (Nat.pow_le_pow_right (by decide) (by omega))
theorem X1f (m:Nat):(X0c m).length≤(Q0l m+63)/64:=by
 apply W0x
 rw [H1b]
 exact Nat.lt_of_lt_of_le (X0g m) (Nat.pow_le_pow_right (by decide) (by omega))
theorem J0a (m k:Nat):Q0l (m*2^k)≤Q0l m+k:=by
 by_cases h:m=0
 · subst h;simp [K0y]
 · rw [Y0j m k h];exact Nat.le_refl _
theorem W0p (m n:Nat):Q0l (m+n)≤max (Q0l m) (Q0l n)+1:=by
 rw [bitlen_le_iff,Nat.pow_succ]
 have h1:m<2^max (Q0l m) (Q0l n):=Nat.lt_of_lt_of_le (X0g m) (Nat.pow_le_pow_right (by decide) (by omega))
 have h2:n<2^max (Q0l m) (Q0l n):=Nat.lt_of_lt_of_le (X0g n) (Nat.pow_le_pow_right (by decide) (by omega))
 omega
theorem K0b {m n:Nat} (h:m≤n):Q0l m≤Q0l n:=bitlen_le_iff.2 (Nat.lt_of_le_of_lt h (X0g n))
theorem z0c (m:Nat):tz m≤Q0l m:=by
 by_cases h:m=0
 · subst h;rw [W2a];exact Nat.zero_le _
 · exact Nat.le_of_lt (Q1t m h)
def Z0w (v:Vl):Int:=if v.neg then -(v.m:Int) else(v.m:Int)
def oddV (neg:Bool) (m:Nat) (e:Int):Vl:=if m=0 then⟨false,0,0⟩ else⟨neg,m/2^tz m,e+tz m⟩
def mkV (s:Int) (e:Int):Vl:=oddV (decide (s<0)) s.natAbs e
def V0m (v:Vl):Vl:=if v.m=0 then v else { v with neg:= !v.neg }
def J0l (a b:Vl):Vl:=if a.m=0 then b else if b.m=0 then a else
 mkV (Z0w a*2^(a.e-min a.e b.e).toNat+Z0w b*2^(b.e-min a.e b.e).toNat) (min a.e b.e)
def W0t (v:Vl):Int:=if v.m=0 then 0 else if v.neg then -1 else 1
def G0a (a b:Vl):Vl:=J0l a (V0m b)
def V0z (a b:Vl):Int:=W0t (G0a a b)
theorem x0r (v:Vl):W0t v=sgn (Z0w v):=by
 unfold W0t sgn Z0w
 by_cases h:v.m=0
 · rw [if_pos h];simp [h]
 · cases hn:v.neg
   · simp [h]
   · simp [h]
theorem W2w (s e:Int):W0t (mkV s e)=sgn s:=by
 unfold mkV oddV W0t sgn
 by_cases h:s=0
 · subst h;simp
 · have h1:s.natAbs≠0:=by omega
   rw [if_neg h1]
   have h2:s.natAbs/2^tz s.natAbs≠0:=by
    have:=H0i s.natAbs h1;omega
   simp only
   rw [if_neg h2,if_neg h]
   by_cases hl:s<0
   · simp [hl]
   · simp [hl]
theorem Q1f (v:Vl):Z0w (V0m v)= -Z0w v:=by
 unfold V0m
 by_cases h:v.m=0
 · rw [if_pos h];simp [Z0w,h]
 · rw [if_neg h]
   unfold Z0w
   cases v.neg<;>simp
theorem X1n (v:Vl):(V0m v).m=v.m:=by unfold V0m;split<;>rfl
theorem X1o (v:Vl):(V0m v).e=v.e:=by unfold V0m;split<;>rfl
theorem Q1e {v:Vl} (h:v.m=0):Z0w v=0:=by unfold Z0w;simp [h]
theorem w2p (a b:Int):cmpI a b=sgn (a-b):=by
 unfold cmpI sgn
 by_cases h1:a<b
 · rw [if_pos h1,if_neg (by omega),if_pos (by omega)]
 · by_cases h2:a>b
   · rw [if_neg h1,if_pos h2,if_neg (by omega),if_neg (by omega)]
   · rw [if_neg h1,if_neg h2,if_pos (by omega)]
theorem U2r (a b:Vl):V0z a b=cmpE (Z0w a) a.e (Z0w b) b.e:=by
 unfold V0z G0a J0l cmpE
 rw [w2p,X1n,X1o]
 by_cases ha:a.m=0
 · rw [if_pos ha,x0r,Q1f,Q1e ha,Int.zero_mul,Int.zero_sub,←Int.neg_mul,y0j]
 · rw [if_neg ha]
   by_cases hb:b.m=0
   · rw [if_pos hb,x0r,Q1e hb,Int.zero_mul,Int.sub_zero,y0j]
   · rw [if_neg hb,W2w,Q1f,Int.neg_mul];rfl
def ofN (x:Nm):Vl:=⟨x.neg,valW x.w,x.exp⟩
theorem Q1c (a b:Nm):V0z (ofN a) (ofN b)=cmpN a b:=by rw [U2r];rfl
end Go.Pv
end
section
/-Intervals,boxes:what the functions on them answer. No program in it. -/
namespace Go.Pv
def Q0f (x:Nm):Bool:=if x.w= [] then !x.neg&&x.exp==0 else decide ((cutW x.w).length=x.w.length)&&decide (x.w.length≤64)&&decide ((x.w.getD 0 0).toNat % 2=1)&&decide (-65536≤x.exp)&&decide (x.exp≤65536)
def cmpR (a b:Nm):Int:=if Q0f a=true∧Q0f b=true then cmpN a b else 0
def ownN (x:Nm):Nm:=if Q0f x=true then x else⟨false,0,[]⟩
theorem J0s {x:Nm} (h:Q0f x=true):sm x:=by
 unfold Q0f at h
 split at h
 · rename_i hw
   simp at h
   simp [sm,hw,h]
 · simp at h
   obtain⟨⟨⟨⟨_,h1⟩,_⟩,h2⟩,h3⟩:=h
   exact⟨by omega,by omega,by omega⟩
theorem y0o {x:Nm} (h:Q0f x=true):cutW x.w=x.w:=by
 unfold Q0f at h
 split at h
 · rename_i hw;rw [hw];rfl
 · simp at h
   have e:=h.1.1.1.1
   have h2:x.w.getD (x.w.length-1) 0≠0:=(V1e x.w (by assumption)).1 e
   rw [w1s x.w x.w.length (Nat.le_refl _) (fun j h1 h2=>by omega) (.inr h2)]
   simp
def wN (x:Nm):Prop:=x.w.length≤100000000000
def wI (x:Ivl):Prop:=wN x.lo∧wN x.hi
def Q0n (x:Ivl):Bool:=Q0f x.lo&&Q0f x.hi&&decide (cmpN x.lo x.hi≤0)
def X0j (a b:Nm):Nm:=if cmpN b a<0 then b else a
def X0h (a b:Nm):Nm:=if cmpN b a>0 then b else a
def W1e (a b:Ivl):Ivl×Int:=if Q0n a=true∧Q0n b=true then(⟨X0j a.lo b.lo,X0h a.hi b.hi⟩,0) else(default,1)
def inI (a b:Ivl):Bool:=Q0n a&&Q0n b&&decide (0≤cmpN a.lo b.lo)&&decide (0≤cmpN b.hi a.hi)
def rightB (l:List Ivl):Bool:=l.all Q0n&&decide (1≤l.length)&&decide (l.length≤4)
def W0u {α β:Type} (F:Nat→α→β×Int):Nat→List α→List β→List β×Int
 | _,[],acc=>(acc,0)
 | i,x::l,acc=>if (F i x).2≠0 then([],(F i x).2) else W0u F (i+1) l (acc++ [(F i x).1])
theorem Z0a {x:Ivl} (h:Q0n x=true):Q0f x.lo=true∧Q0f x.hi=true∧cmpN x.lo x.hi≤0:=by
 unfold Q0n at h
 simp at h
 exact⟨h.1.1,h.1.2,h.2⟩
theorem H3e {x:Nm} (h:sm x):wN x:=by have:=h.1;unfold wN;omega
theorem G2p {P:Nm→Prop} {a b:Nm} (ha:P a) (hb:P b):P (X0j a b):=by unfold X0j;split<;>assumption
theorem H2d {P:Nm→Prop} {a b:Nm} (ha:P a) (hb:P b):P (X0h a b):=by unfold X0h;split<;>assumption
def q0y (a b:List Ivl):List Ivl×Int:=if rightB a=true∧rightB b=true∧a.length=b.length then W0u (fun i x=>W1e x (b.getD i default)) 0 a [] else([],1)
def allF {α:Type} [Inhabited α] (f:α→α→Bool) (a b:List α):Bool:=decide (a.length=b.length)&&(List.range a.length).all fun i=>f (a.getD i default) (b.getD i default)
def inB (a b:List Ivl):Bool:=rightB a&&rightB b&&allF inI a b
end Go.Pv
end
section
/-Pieces,tubes,what is merged. No program in it. -/
namespace Go.Pv
theorem W3t {m e n f k:Int} (h1:k≤e) (h2:k≤f):cmpE m e n f=cmpI (m*2^(e-k).toNat) (n*2^(f-k).toNat):=by
 unfold cmpE
 have e1:(e-k).toNat=(e-min e f).toNat+(min e f-k).toNat:=by omega
 have e2:(f-k).toNat=(f-min e f).toNat+(min e f-k).toNat:=by omega
 rw [e1,e2,Int.pow_add,Int.pow_add,←Int.mul_assoc,←Int.mul_assoc,w2q (two_pow_pos _)]
theorem cmpI_le {a b:Int} :cmpI a b≤0↔a≤b:=by
 constructor
 · intro h;apply Int.not_lt.1;intro hl;have:=U0g hl;omega
 · intro h
   rcases Int.lt_or_eq_of_le h with h | h
   · rw [U0f h];decide
   · rw [Q1k h];decide
def atK (x:Nm) (k:Int):Int:=mant x*2^(x.exp-k).toNat
theorem q2g {a b:Nm} {k:Int} (h1:k≤a.exp) (h2:k≤b.exp):cmpN a b=cmpI (atK a k) (atK b k):=W3t h1 h2
theorem x0b (a b:Nm):cmpN b a= -cmpN a b:=q2i
theorem H0w (a:Nm):cmpN a a=0:=by unfold cmpN cmpE;exact Q1k rfl
theorem U1s {a b c:Nm} (h1:cmpN a b≤0) (h2:cmpN b c≤0):cmpN a c≤0:=by
 let k:=min a.exp (min b.exp c.exp)
 rw [q2g (k:=k) (by omega) (by omega),cmpI_le] at h1 h2⊢
 omega
theorem Y1w (a b:Nm):cmpN (X0j a b) a≤0:=by
 unfold X0j;split
 · omega
 · rw [H0w];decide
theorem K2g (a b:Nm):cmpN (X0j a b) b≤0:=by
 unfold X0j;split
 · rw [H0w];decide
 · have:=x0b b a;omega
theorem U1c (a b:Nm):cmpN a (X0h a b)≤0:=by
 unfold X0h;split
 · have:=x0b b a;omega
 · rw [H0w];decide
theorem K2m (a b:Nm):cmpN b (X0h a b)≤0:=by
 unfold X0h;split
 · rw [H0w];decide
 · omega
theorem V0h {x:Ivl} (h1:Q0f x.lo=true) (h2:Q0f x.hi=true) (h3:cmpN x.lo x.hi≤0):Q0n x=true:=by
 unfold Q0n;rw [h1,h2,decide_eq_true h3];rfl
theorem Z1w {a b:Ivl} (ha:Q0n a=true) (hb:Q0n b=true):W1e a b=(⟨X0j a.lo b.lo,X0h a.hi b.hi⟩,0):=if_pos ⟨ha,hb⟩
theorem w1f {a b:Ivl} (ha:Q0n a=true) (hb:Q0n b=true):Q0n (W1e a b).1=true:=by
 obtain⟨a1,a2,a3⟩:=Z0a ha
 obtain⟨b1,b2,b3⟩:=Z0a hb
 rw [Z1w ha hb]
 exact V0h (G2p (P:=fun x=>Q0f x=true) a1 b1) (H2d (P:=fun x=>Q0f x=true) a2 b2) (U1s (Y1w _ _) (U1s a3 (U1c _ _)))
theorem Z1z {α β:Type} [Inhabited α] (F:Nat→α→β×Int): ∀(l:List α) (i:Nat) (acc:List β),(∀j,j<l.length→(F (i+j) (l.getD j default)).2=0)→
 W0u F i l acc=(acc++(List.range l.length).map (fun j=>(F (i+j) (l.getD j default)).1),0)
 | [],i,acc,_=>by simp [W0u]
 | x::l,i,acc,h=>by
  have h0:=h 0 (by simp)
  simp only [Nat.add_zero,List.getD_cons_zero] at h0
  rw [W0u,if_neg (fun e=>e h0),Z1z F l (i+1) _ (fun j hj=>by have:=h (j+1) (by simp;omega);rw [List.getD_cons_succ,←Nat.add_assoc,Nat.add_right_comm] at this;exact this)]
  rw [List.length_cons,List.range_succ_eq_map,List.map_cons,List.map_map,List.append_assoc]
  simp only [Nat.add_zero,List.getD_cons_zero,List.singleton_append,Prod.mk.injEq,and_true]
  congr 2
  apply List.map_congr_left
  intro j _
  simp only [Function.comp,List.getD_cons_succ]
  rw [show i+1+j=i+j.succ from by omega]
theorem V0t {l:List Ivl} (h:rightB l=true): ∀i,i<l.length→Q0n (l.getD i default)=true:=by
 unfold rightB at h
 simp only [Bool.and_eq_true,List.all_eq_true] at h
 intro i hi
 refine h.1.1 _ ?_
 rw [List.getD_eq_getElem?_getD,List.getElem?_eq_getElem hi]
 exact List.getElem_mem hi
theorem J0t {l:List Ivl} (h: ∀i,i<l.length→Q0n (l.getD i default)=true) (h1:1≤l.length) (h2:l.length≤4):rightB l=true:=by
 unfold rightB
 rw [decide_eq_true h1,decide_eq_true h2,List.all_eq_true.2];rfl
 intro x hx
 obtain⟨i,hi,rfl⟩:=List.mem_iff_getElem.1 hx
 have:=h i hi
 rwa [List.getD_eq_getElem?_getD,List.getElem?_eq_getElem hi] at this
theorem W0z {l:List Ivl} (h:rightB l=true):1≤l.length∧l.length≤4:=by
 unfold rightB at h;simp at h;omega
theorem v2r {a b:List Ivl} (ha:rightB a=true) (hb:rightB b=true) (hl:a.length=b.length):
 q0y a b=((List.range a.length).map (fun j=>(W1e (a.getD j default) (b.getD j default)).1),0):=by
 rw [q0y,if_pos ⟨ha,hb,hl⟩,Z1z _ a 0 [] (fun j hj=>by rw [Nat.zero_add,Z1w (V0t ha j hj) (V0t hb j (by omega))])]
 simp
def wB (l:List Ivl):Prop:=l.length≤100000000000∧ ∀i,i<l.length→wI (l.getD i default)
def wS (s:Sg):Prop:=wN s.t0∧wN s.t1∧wB s.box
def wSs (l:List Sg):Prop:=l.length≤100000000000∧ ∀i,i<l.length→wS (l.getD i default)
def X0d (s:Sg):Bool:=decide (1≤s.fr)&&decide (s.fr≤s.to)&&decide (s.to≤4096)&&Q0f s.t0&&Q0f s.t1&& !s.t0.neg&&decide (cmpR s.t0 s.t1<0)&&rightB s.box
def q2z (a b:Sg):Bool:=decide (b.fr=IntKind.i64.wrap (a.to+1))&&decide (cmpR a.t1 b.t0=0)&&decide (a.box.length=b.box.length)
def J2h (l:List Sg) (i:Nat):Bool:=X0d (l.getD i default)&&(decide (i=0)||q2z (l.getD (i-1) default) (l.getD i default))
def rowF (l:List Sg):Bool:=(List.range l.length).all (J2h l)
def z3k (l:List Sg):Bool:=decide (l.length=0)||(decide ((l.getD 0 default).fr=1)&&decide ((l.getD 0 default).t0.w.length=0))
def Z4j (l:List Sg):Bool:=rowF l&&z3k l
theorem Y0o {s:Sg} (h:X0d s=true):1≤s.fr∧s.fr≤s.to∧s.to≤4096∧Q0f s.t0=true∧Q0f s.t1=true∧s.t0.neg=false∧cmpR s.t0 s.t1<0∧rightB s.box=true:=by
 unfold X0d at h
 simp only [Bool.and_eq_true,decide_eq_true_eq,Bool.not_eq_true'] at h
 obtain⟨⟨⟨⟨⟨⟨⟨h1,h2⟩,h3⟩,h4⟩,h5⟩,h6⟩,h7⟩,h8⟩:=h
 exact⟨h1,h2,h3,h4,h5,h6,h7,h8⟩
theorem X1x {l:List Sg} {i:Nat} (h:J2h l i=true):X0d (l.getD i default)=true:=by
 unfold J2h at h;simp only [Bool.and_eq_true] at h;exact h.1
theorem W0b {x:Nm} (h:Q0f x=true):valW x.w=0↔x.w= []:=by
 constructor
 · intro hv
   rw [←y0o h,←X0l,hv,q0z]
 · intro hw;rw [hw];rfl
theorem y0i {x:Nm} (h:Q0f x=true):(0≤sgnN (ownN x))↔x.neg=false:=by
 rw [ownN,if_pos h]
 unfold sgnN
 by_cases hv:valW x.w=0
 · rw [if_pos hv]
   have hw:=(W0b h).1 hv
   unfold Q0f at h
   rw [if_pos hw] at h
   simp at h
   simp [h.1]
 · rw [if_neg hv]
   cases x.neg<;>simp
theorem x2r {x:Nm} (h:Q0f x=true):sgnN (ownN x)=0↔x.w.length=0:=by
 rw [ownN,if_pos h,List.length_eq_zero_iff,←W0b h]
 unfold sgnN
 by_cases hv:valW x.w=0
 · rw [if_pos hv];simp [hv]
 · rw [if_neg hv]
   cases x.neg<;>simp [hv]
def Z4k (s x:Sg):Sg:=⟨s.fr,x.to,s.t0,x.t1,(q0y s.box x.box).1⟩
def w2a (s:Sg) (l:List Sg):Sg:=l.foldl Z4k s
def U4h (l:List Sg):Sg×Int:=if l.length≠0∧rowF l=true then(w2a (l.getD 0 default) (l.drop 1),0) else(default,1)
def grp (l:List Sg) (size upto:Int):Nat:=
 let to:=IntKind.i64.wrap (IntKind.i64.wrap ((l.getD 0 default).fr+size)-1)
 if (IntKind.i64.wrap ((l.getD 0 default).fr-1)).tmod size≠0∨to>upto then 1 else
  let n:=(l.takeWhile fun s=>decide (s.to<to)).length
  if n=l.length∨(l.getD n default).to≠to then 1 else n+1
theorem V3h (l:List Sg) (size upto:Int):1≤grp l size upto:=by
 unfold grp
 simp only
 split
 · exact Nat.le_refl _
 · split
   · exact Nat.le_refl _
   · omega
def H2a (size upto:Int) (l:List Sg):List Sg:=
 if h:l.length=0 then [] else w2a (l.getD 0 default) ((l.take (grp l size upto)).drop 1)::H2a size upto (l.drop (grp l size upto))
termination_by l.length
decreasing_by
 have:=V3h l size upto
 simp;omega
def X4v (l:List Sg) (size upto:Int):List Sg×Int:=if Z4j l=true∧2≤size∧size≤64 then(H2a size upto l,0) else([],1)
end Go.Pv
end
section
/-Pieces that are merged:parts of rows,folds,groups. No program in it. -/
namespace Go.Pv
theorem K2n {α:Type} (l:List α) (n i:Nat) (d:α) (h:i<n):(l.take n).getD i d=l.getD i d:=by
 simp [List.getD_eq_getElem?_getD,List.getElem?_take,h]
def grp0 (l:List Sg) (size upto:Int):Nat:=
 let to:=IntKind.i64.wrap (IntKind.i64.wrap ((l.getD 0 default).fr+size)-1)
 if (IntKind.i64.wrap ((l.getD 0 default).fr-1)).tmod size≠0∨to>upto then 0 else
  let n:=(l.takeWhile fun s=>decide (s.to<to)).length
  if n=l.length∨(l.getD n default).to≠to then 0 else n+1
end Go.Pv
end
