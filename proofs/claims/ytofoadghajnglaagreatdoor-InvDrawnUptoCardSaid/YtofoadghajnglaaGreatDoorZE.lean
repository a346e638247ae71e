/- Parts of the walk: PvX, PvY, M3, M4, M5, M6, M7, M8, M9. -/
import Derived.Test.YtofoadghajnglaaGreatDoorZD
set_option linter.unusedVariables false
set_option linter.unusedSimpArgs false
section
/-Lists of elements of the program's types,as pure values;numbers,intervals,pieces. -/
namespace Go.Pv
open Go.Proofs
attribute [go_sem] Int.reduceBNe Int.reduceBEq
theorem Z0f :Tryz.prog.follows .mixedOrders=true:=by kernel_rfl
def encW (l:List UInt64):List PV:=l.map fun c=>(.sc (.int .u64 c.toNat))
@[go_sem] theorem Z0m (l:List UInt64):(encW l).length=l.length:=by simp [encW]
@[go_sem] theorem z2w :encW []= []:=(rfl)
@[go_sem] theorem x3l (l:List UInt64):(encW l).all (fun x=>x.cells.length==1)=true:=by simp [encW,PV.cells]
@[go_sem] theorem x3m (l:List UInt64):(encW l).all (fun x=>(x.cells.length==1)&&x.cells.all PV.cellOK)=true:=by simp [encW,PV.cells,PV.cellOK,Value.oneCell']
@[go_sem] theorem W3o (l:List UInt64) (n:Nat):(encW l).take n=encW (l.take n):=by simp [encW]
@[go_sem] theorem W3p (l:List UInt64) (n:Nat):(encW l).drop n=encW (l.drop n):=by simp [encW]
@[go_sem] theorem G3s (l m:List UInt64):encW l++encW m=encW (l++m):=by simp [encW]
@[go_sem] theorem V2u (l:List UInt64) (c:UInt64):encW l++ [.sc (.int .u64 c.toNat)]=encW (l++ [c]):=by simp [encW]
theorem Z0e (l:List UInt64) (n:Nat) (h:n<l.length):(encW l).getD n .junk= .sc (.int .u64 (l.getD n 0).toNat):=by
 simp [encW,List.getD_eq_getElem?_getD,h]
@[go_sem] theorem G3r (l:List UInt64) (i:Nat) (cs:List PV):(encW l).map (PV.frz i cs)=encW l:=by
 simp only [encW,List.map_map]
 exact List.map_congr_left fun a _=>rfl
theorem K0z (l:List UInt64) (n:Nat) (c:UInt64) (h:n<l.length):over (encW l) n [.sc (.int .u64 c.toNat)]=encW (l.set n c):=by
 unfold over encW
 rw [List.set_eq_take_append_cons_drop,if_pos h]
 simp
@[go_sem] theorem G3q (l:List UInt64) (a b:Nat):(encW l).all (PV.lim a b)=true:=by
 simp [encW,PV.lim,PV.lim1]
@[go_sem] theorem x3n (l:List UInt64):fzOK (encW l)=true:=by
 simp [encW,fzOK,PV.closed2,PV.closed1]
@[go_sem] theorem Z3c (l:List UInt64):(encW l).map PV.forget2=encW l:=by
 simp only [encW,List.map_map]
 exact List.map_congr_left fun a _=>rfl
@[go_sem] theorem Z3d (l:List UInt64):(encW l).all PV.closed2=true:=by
 simp [encW,PV.closed2,PV.closed1]
@[go_sem] theorem G3p (n:Nat):List.replicate n (PV.sc (.int .u64 0))=encW (List.replicate n 0):=by simp [encW]
def encD (l:List UInt32):List PV:=l.map fun c=>(.sc (.int .u32 c.toNat))
@[go_sem] theorem Z3f (l:List UInt32):(encD l).length=l.length:=by simp [encD]
@[go_sem] theorem Y1n :encD []= []:=(rfl)
@[go_sem] theorem x3w (l:List UInt32):(encD l).all (fun x=>x.cells.length==1)=true:=by simp [encD,PV.cells]
@[go_sem] theorem x3x (l:List UInt32):(encD l).all (fun x=>(x.cells.length==1)&&x.cells.all PV.cellOK)=true:=by simp [encD,PV.cells,PV.cellOK,Value.oneCell']
@[go_sem] theorem Y3i (l:List UInt32) (n:Nat):(encD l).take n=encD (l.take n):=by simp [encD]
@[go_sem] theorem Y3k (l:List UInt32) (n:Nat):(encD l).drop n=encD (l.drop n):=by simp [encD]
@[go_sem] theorem H3i (l m:List UInt32):encD l++encD m=encD (l++m):=by simp [encD]
@[go_sem] theorem Y3j (l:List UInt32) (c:UInt32):encD l++ [.sc (.int .u32 c.toNat)]=encD (l++ [c]):=by simp [encD]
theorem X0t (l:List UInt32) (n:Nat) (h:n<l.length):(encD l).getD n .junk= .sc (.int .u32 (l.getD n 0).toNat):=by
 simp [encD,List.getD_eq_getElem?_getD,h]
@[go_sem] theorem H3h (l:List UInt32) (i:Nat) (cs:List PV):(encD l).map (PV.frz i cs)=encD l:=by
 simp only [encD,List.map_map]
 exact List.map_congr_left fun a _=>rfl
theorem z0m (l:List UInt32) (n:Nat) (c:UInt32) (h:n<l.length):over (encD l) n [.sc (.int .u32 c.toNat)]=encD (l.set n c):=by
 unfold over encD
 rw [List.set_eq_take_append_cons_drop,if_pos h]
 simp
@[go_sem] theorem H3g (l:List UInt32) (a b:Nat):(encD l).all (PV.lim a b)=true:=by
 simp [encD,PV.lim,PV.lim1]
@[go_sem] theorem x3y (l:List UInt32):fzOK (encD l)=true:=by
 simp [encD,fzOK,PV.closed2,PV.closed1]
@[go_sem] theorem Z3g (l:List UInt32):(encD l).map PV.forget2=encD l:=by
 simp only [encD,List.map_map]
 exact List.map_congr_left fun a _=>rfl
@[go_sem] theorem Z3h (l:List UInt32):(encD l).all PV.closed2=true:=by
 simp [encD,PV.closed2,PV.closed1]
@[go_sem] theorem H3f (n:Nat):List.replicate n (PV.sc (.int .u32 0))=encD (List.replicate n 0):=by simp [encD]
def encZ (l:List Int):List PV:=l.map fun c=>(.sc (.int .i64 c))
@[go_sem] theorem Q3z (l:List Int):(encZ l).length=l.length:=by simp [encZ]
@[go_sem] theorem G3l :encZ []= []:=(rfl)
@[go_sem] theorem x3i (l:List Int):(encZ l).all (fun x=>x.cells.length==1)=true:=by simp [encZ,PV.cells]
@[go_sem] theorem x3j (l:List Int):(encZ l).all (fun x=>(x.cells.length==1)&&x.cells.all PV.cellOK)=true:=by simp [encZ,PV.cells,PV.cellOK,Value.oneCell']
@[go_sem] theorem W3l (l:List Int) (n:Nat):(encZ l).take n=encZ (l.take n):=by simp [encZ]
@[go_sem] theorem W3n (l:List Int) (n:Nat):(encZ l).drop n=encZ (l.drop n):=by simp [encZ]
@[go_sem] theorem G3o (l m:List Int):encZ l++encZ m=encZ (l++m):=by simp [encZ]
@[go_sem] theorem W3m (l:List Int) (c:Int):encZ l++ [.sc (.int .i64 c)]=encZ (l++ [c]):=by simp [encZ]
@[go_sem] theorem G3n (l:List Int) (i:Nat) (cs:List PV):(encZ l).map (PV.frz i cs)=encZ l:=by
 simp only [encZ,List.map_map]
 exact List.map_congr_left fun a _=>rfl
@[go_sem] theorem G3m (l:List Int) (a b:Nat):(encZ l).all (PV.lim a b)=true:=by
 simp [encZ,PV.lim,PV.lim1]
@[go_sem] theorem x3k (l:List Int):fzOK (encZ l)=true:=by
 simp [encZ,fzOK,PV.closed2,PV.closed1]
@[go_sem] theorem Z3a (l:List Int):(encZ l).map PV.forget2=encZ l:=by
 simp only [encZ,List.map_map]
 exact List.map_congr_left fun a _=>rfl
@[go_sem] theorem Z3b (l:List Int):(encZ l).all PV.closed2=true:=by
 simp [encZ,PV.closed2,PV.closed1]
@[go_sem] theorem Y3l (l:List UInt8) (n:Nat):(encB l).take n=encB (l.take n):=by simp [encB]
@[go_sem] theorem Y3m (l:List UInt8) (n:Nat):(encB l).drop n=encB (l.drop n):=by simp [encB]
attribute [go_sem] z2x V2x
structure Nm where
 neg:Bool
 exp:Int
 w:List UInt64
 deriving DecidableEq
instance : Inhabited Nm:=⟨⟨false,0,[]⟩⟩
def encN (x:Nm):List PV:= [.sc (.bool x.neg),.sc (.int .i64 x.exp),.sl .no (encW x.w)]
attribute [go_sem] encN
structure Ivl where
 lo:Nm
 hi:Nm
 deriving DecidableEq
instance : Inhabited Ivl:=⟨⟨default,default⟩⟩
def encI (x:Ivl):List PV:= [.sc (.bool x.lo.neg),.sc (.int .i64 x.lo.exp),.sl .no (encW x.lo.w),.sc (.bool x.hi.neg),.sc (.int .i64 x.hi.exp),.sl .no (encW x.hi.w)]
attribute [go_sem] encI
def Z0b (l:List Nm):List PV:=l.map fun c=>(.agg (encN c))
@[go_sem] theorem X0w (l:List Nm):(Z0b l).length=l.length:=by simp [Z0b]
@[go_sem] theorem W3w :Z0b []= []:=(rfl)
@[go_sem] theorem G3x (l:List Nm):(Z0b l).all (fun x=>x.cells.length==3)=true:=by simp [Z0b,PV.cells,encN]
@[go_sem] theorem G3y (l:List Nm):(Z0b l).all (fun x=>(x.cells.length==3)&&x.cells.all PV.cellOK)=true:=by simp [Z0b,PV.cells,PV.cellOK,Value.oneCell',encN]
@[go_sem] theorem J3g (l:List Nm) (n:Nat):(Z0b l).take n=Z0b (l.take n):=by simp [Z0b]
@[go_sem] theorem J3i (l:List Nm) (n:Nat):(Z0b l).drop n=Z0b (l.drop n):=by simp [Z0b]
@[go_sem] theorem W3y (l m:List Nm):Z0b l++Z0b m=Z0b (l++m):=by simp [Z0b]
@[go_sem] theorem J3h (l:List Nm) (c:Nm):Z0b l++ [.agg (encN c)]=Z0b (l++ [c]):=by simp [Z0b]
theorem J0w (l:List Nm) (n:Nat) (h:n<l.length):(Z0b l).getD n .junk= .agg (encN (l.getD n default)):=by
 simp [Z0b,List.getD_eq_getElem?_getD,h]
@[go_sem] theorem W3x (l:List Nm) (i:Nat) (cs:List PV):(Z0b l).map (PV.frz i cs)=Z0b l:=by
 simp only [Z0b,List.map_map]
 exact List.map_congr_left fun a _=>rfl
def Z0d (l:List Ivl):List PV:=l.map fun c=>(.agg (encI c))
@[go_sem] theorem Y0c (l:List Ivl):(Z0d l).length=l.length:=by simp [Z0d]
@[go_sem] theorem Y3c :Z0d []= []:=(rfl)
@[go_sem] theorem H3b (l:List Ivl):(Z0d l).all (fun x=>x.cells.length==6)=true:=by simp [Z0d,PV.cells,encI]
@[go_sem] theorem H3c (l:List Ivl):(Z0d l).all (fun x=>(x.cells.length==6)&&x.cells.all PV.cellOK)=true:=by simp [Z0d,PV.cells,PV.cellOK,Value.oneCell',encI]
@[go_sem] theorem J3j (l:List Ivl) (n:Nat):(Z0d l).take n=Z0d (l.take n):=by simp [Z0d]
@[go_sem] theorem J3l (l:List Ivl) (n:Nat):(Z0d l).drop n=Z0d (l.drop n):=by simp [Z0d]
@[go_sem] theorem Y3e (l m:List Ivl):Z0d l++Z0d m=Z0d (l++m):=by simp [Z0d]
@[go_sem] theorem J3k (l:List Ivl) (c:Ivl):Z0d l++ [.agg (encI c)]=Z0d (l++ [c]):=by simp [Z0d]
theorem X0d (l:List Ivl) (n:Nat) (h:n<l.length):(Z0d l).getD n .junk= .agg (encI (l.getD n default)):=by
 simp [Z0d,List.getD_eq_getElem?_getD,h]
@[go_sem] theorem Y3d (l:List Ivl) (i:Nat) (cs:List PV):(Z0d l).map (PV.frz i cs)=Z0d l:=by
 simp only [Z0d,List.map_map]
 exact List.map_congr_left fun a _=>rfl
structure Sg where
 fr:Int
 to:Int
 t0:Nm
 t1:Nm
 box:List Ivl
 deriving DecidableEq
instance : Inhabited Sg:=⟨⟨0,0,default,default,[]⟩⟩
def encS (x:Sg):List PV:= [.sc (.int .i64 x.fr),.sc (.int .i64 x.to),.sc (.bool x.t0.neg),.sc (.int .i64 x.t0.exp),.sl .no (encW x.t0.w),.sc (.bool x.t1.neg),.sc (.int .i64 x.t1.exp),.sl .no (encW x.t1.w),.sl .no (Z0d x.box)]
attribute [go_sem] encS
end Go.Pv
end
section
/-More ways to know less:a slice without room becomes one that may be appended to;tags forgotten. -/
namespace Go.Pv
def PFS.claim (t sz:Nat) (s:PFS):PFS:=
 match s.pa.getD t .junk with
 | .sl .full []=>⟨s.pa.set t (.sl (.own s.T.length) []),s.L,s.T++ [(0,sz)],s.st⟩
 | _=>s
theorem w1t {E:Ent} {s:PFS} (t sz:Nat):Weak E s (s.claim t sz):=by
 intro a w g F h
 unfold PFS.claim
 split
 · rename_i he
   obtain⟨es,hes⟩: ∃es:List PV,es= []:=⟨_,rfl⟩
   rw [←hes] at he⊢
   have hv:=h.len_eq t
   rw [he] at hv
   have hbase: ∀v,RepF w g F s.T v (.sl .full es)→Rep w g v (.sl .full es):=fun v hv=>by cases hv with | base _ _ h=>exact h
   have hv:=hbase _ hv
   have hri: ∀v,Rep w g v (.sl .full es)→Right w g none sz v es:=fun v hv=>by
    cases hv with
    | nil t ad ht=>exact⟨.inr ⟨_,rfl⟩,rfl⟩
    | sl t es b off sz cap cf ht hf hcap hsz hvis hc hr=>exact⟨.inr ⟨_,by rw [hf rfl]⟩,by rw [hes];rfl⟩
   rw [show(0:Nat)=es.length from by rw [hes];rfl]
   obtain⟨F',m1,m2,m3,m4,m5⟩:=h.mint es.length sz none (fun b hb=>by cases hb)
   have hlast:(s.T++ [(es.length,sz)]).getD s.T.length (0,0)=(es.length,sz):=by simp [List.getD_eq_getElem?_getD]
   have hown:RepF w g F' (s.T++ [(es.length,sz)]) (a.tmps.getD t undef) (.sl (.own s.T.length) es):=by
    refine .own _ _ _ hv.toNo (by simp) (by rw [hlast];exact Nat.le_refl _) fun _=> ?_
    rw [hlast,m2]
    exact hri _ hv
   refine⟨g,F',m1.ext,m1.store,m1.frame,m1.defers,by rw [List.length_set];exact m1.len,fun j hj=> ?_⟩
   simp only [List.length_set] at hj
   by_cases e:t=j
   · subst e
     rw [Q0p _ _ _ _ hj]
     exact hown
   · rw [Q0g _ _ _ _ _ e]
     exact m1.tmps j hj
 · exact⟨g,F,h⟩
theorem X0c {P:Program} {E:Ent} {c:Code} {Q:Exit→PFS→Prop} {s:PFS} (t sz:Nat) (h:PWP P E c Q (s.claim t sz)):PWP P E c Q s:=V0d (w1t t sz) h
def clm (p:PV) (t sz:Nat) (pa:List PV) (L:Q0f) (T:List (Nat×Nat)) (st:Q0f):PFS:=
 match p with
 | .sl .full []=>⟨pa.set t (.sl (.own T.length) []),L,T++ [(0,sz)],st⟩
 | _=>⟨pa,L,T,st⟩
@[go_sem] theorem H3m {t sz:Nat} {pa:List PV} {L st:Q0f} {T:List (Nat×Nat)} :(PFS.mk pa L T st).claim t sz=clm (pa.getD t .junk) t sz pa L T st:=by
 unfold PFS.claim clm
 rfl
@[go_sem] theorem H3l {t sz:Nat} {pa:List PV} {L st:Q0f} {T:List (Nat×Nat)} :clm (.sl .full []) t sz pa L T st=⟨pa.set t (.sl (.own T.length) []),L,T++ [(0,sz)],st⟩:=(rfl)
def noL :List Bool→List PV→List PV
 | b::bs,p::ps=>(if b&&p.closed2 then p.forget2 else p)::noL bs ps
 | [],ps=>ps
 | _,[]=> []
theorem w0w : ∀(bs:List Bool) (ps:List PV),(noL bs ps).length=ps.length
 | [],[]=>rfl
 | [],p::ps=>rfl
 | b::bs,[]=>rfl
 | b::bs,p::ps=>by simp [noL,w0w bs ps]
theorem v1k : ∀(bs:List Bool) (ps:List PV) (j:Nat),(noL bs ps).getD j .junk=ps.getD j .junk∨((ps.getD j .junk).closed2=true∧(noL bs ps).getD j .junk=(ps.getD j .junk).forget2)
 | [],ps,j=> .inl rfl
 | b::bs,[],j=> .inl rfl
 | b::bs,p::ps,j=>by
  cases j with
  | zero=>
   simp only [noL,List.getD_cons_zero]
   by_cases h:(b&&p.closed2)=true
   · rw [if_pos h];simp at h;exact .inr ⟨h.2,rfl⟩
   · rw [if_neg h];exact .inl rfl
  | succ j=>simpa [noL] using v1k bs ps j
def PFS.plain (bs:List Bool) (s:PFS):PFS:=⟨noL bs s.pa,s.L,s.T,s.st⟩
theorem w1s {E:Ent} {s:PFS} (bs:List Bool):Weak E s (s.plain bs):=by
 intro a w g F h
 refine⟨g,F,h.ext,h.store,h.frame,h.defers,by simp only [PFS.plain,w0w];exact h.len,fun j hj=> ?_⟩
 simp only [PFS.plain,w0w] at hj⊢
 rcases v1k bs s.pa j with e | ⟨e1,e2⟩
 · rw [e];exact h.tmps j hj
 · rw [e2];exact .base _ _ ((h.tmps j hj).forget2 e1)
theorem Z1w {P:Program} {E:Ent} {c:Code} {Q:Exit→PFS→Prop} {s:PFS} (bs:List Bool) (h:PWP P E c Q (s.plain bs)):PWP P E c Q s:=V0d (w1s bs) h
@[go_sem] theorem U3z {bs:List Bool} {pa:List PV} {L st:Q0f} {T:List (Nat×Nat)} :(PFS.mk pa L T st).plain bs=⟨noL bs pa,L,T,st⟩:=(rfl)
@[go_sem] theorem z3o {ps:List PV} :noL [] ps=ps:=(rfl)
@[go_sem] theorem v3i {bs ps:List PV} {b:List Bool} {p:PV} :noL (false::b) (p::ps)=p::noL b ps:=(rfl)
@[go_sem] theorem k3p {ps es:List PV} {b:List Bool} :noL (true::b) (.sl .no es::ps)= .sl .no es::noL b ps:=(rfl)
@[go_sem] theorem G3b {ps es:List PV} {b:List Bool} :noL (true::b) (.sl .full es::ps)= .sl .no es::noL b ps:=(rfl)
@[go_sem] theorem z3n {k:Nat} {ps es:List PV} {b:List Bool} :noL (true::b) (.sl (.own k) es::ps)= .sl .no es::noL b ps:=(rfl)
@[go_sem] theorem z3p {ps cs:List PV} {b:List Bool} :noL (true::b) (.agg cs::ps)=(if cs.all PV.closed1=true then .agg (cs.map PV.forget1) else .agg cs)::noL b ps:=by
 simp only [noL,PV.closed2,PV.forget2,Bool.true_and]
def PFS.plainBox (i:Nat) (s:PFS):PFS:=if (s.L.getD i []).all PV.closed2=true∧i<s.L.length then⟨s.pa,s.L.set i ((s.L.getD i []).map PV.forget2),s.T,s.st⟩ else s
theorem W1a {E:Ent} {s:PFS} (i:Nat):Weak E s (s.plainBox i):=by
 intro a w g F h
 unfold PFS.plainBox
 split
 · rename_i hc
   have hne: ∀k,(s.L.set i ((s.L.getD i []).map PV.forget2)).getD k []≠ []→s.L.getD k []≠ []:=fun k hk=>by
    by_cases e:i=k
    · subst e
      rw [Q0p _ _ _ _ hc.2] at hk
      intro e2;rw [e2] at hk;exact hk rfl
    · rwa [Q0g _ _ _ _ _ e] at hk
   refine⟨g,F,h.ext,h.store,⟨by simpa using h.frame.nl,fun k hk=>h.frame.lo k (hne k hk),fun k hk=>h.frame.apart k (hne k hk),fun k j hk hj=>h.frame.inj k j (hne k hk) (hne j hj),fun k hk=> ?_,h.frame.tlo,fun k b h1 h2=>⟨(h.frame.tapart k b h1 h2).1,fun j hj=>(h.frame.tapart k b h1 h2).2 j (hne j hj)⟩,h.frame.tinj⟩,h.defers,h.len,h.tmps⟩
   have hh:=h.frame.holds k (hne k hk)
   by_cases e:i=k
   · subst e
     rw [Q0p _ _ _ _ hc.2]
     intro j hj
     have hj':j<(s.L.getD i []).length:=by simpa using hj
     obtain⟨q1,c,q2,q3⟩:=hh j hj'
     refine⟨q1,c,q2,?_⟩
     rw [X0s _ _ _ _ .junk hj']
     exact .base _ _ (q3.forget2 (List.all_eq_true.1 hc.1 _ (Q0s _ _ _ hj')))
   · rw [Q0g _ _ _ _ _ e];exact hh
 · exact⟨g,F,h⟩
theorem U0w {P:Program} {E:Ent} {c:Code} {Q:Exit→PFS→Prop} {s:PFS} (i:Nat) (h:PWP P E c Q (s.plainBox i)):PWP P E c Q s:=V0d (W1a i) h
@[go_sem] theorem w2z {i:Nat} {pa:List PV} {L st:Q0f} {T:List (Nat×Nat)} :(PFS.mk pa L T st).plainBox i=if (L.getD i []).all PV.closed2=true∧i<L.length then⟨pa,L.set i ((L.getD i []).map PV.forget2),T,st⟩ else⟨pa,L,T,st⟩:=(rfl)
theorem PCalls.plain {P:Program} {f:FuncId} {args es:List PV} {st:Q0f} {sz:Nat} (h:PCalls P f args st (fun r st'=>r= .sl (.fresh sz) es∧st'=st)):PCalls P f args st (fun r st'=>r= .sl .no es∧st'=st):=
 fun w g vs hs hr=>(h w g vs hs hr).mono fun _ _ ⟨v,g',r,st',he,hx,ho,hv,q⟩=>by
  obtain⟨rfl,rfl⟩:=q
  exact⟨v,g',.sl .no es,_,he,hx,ho,hv.1,rfl,rfl⟩
end Go.Pv
end
section
/-The machine's arithmetic on natural numbers. No program in it. -/
namespace Go.Pv
theorem Z0w (n:Nat):IntKind.u64.wrap (n:Int)=((n % 18446744073709551616:Nat):Int):=by
 simp [IntKind.wrap,IntKind.bits,IntKind.signed]
theorem J0r (n:Nat):IntKind.u32.wrap (n:Int)=((n % 4294967296:Nat):Int):=by
 simp [IntKind.wrap,IntKind.bits,IntKind.signed]
theorem Q0m (n:Nat) (h:n<9223372036854775808):IntKind.i64.wrap (n:Int)=(n:Int):=Q0r _ (by omega) (by omega)
theorem J1u (a b:Nat) (ha:a<18446744073709551616) (hb:b<18446744073709551616):bOr .u64 (a:Int) (b:Int)=((a|||b:Nat):Int):=by
 unfold bOr
 have e:(BitVec.ofInt IntKind.u64.bits (a:Int)|||BitVec.ofInt IntKind.u64.bits (b:Int)).toNat=a|||b:=by
  have e1:BitVec.ofInt IntKind.u64.bits (a:Int)=BitVec.ofNat 64 a:=by simp [IntKind.bits]
  have e2:BitVec.ofInt IntKind.u64.bits (b:Int)=BitVec.ofNat 64 b:=by simp [IntKind.bits]
  rw [e1,e2]
  show(BitVec.ofNat 64 a|||BitVec.ofNat 64 b).toNat=a|||b
  rw [BitVec.toNat_or,BitVec.toNat_ofNat,BitVec.toNat_ofNat,Nat.mod_eq_of_lt (by omega:a<2^64),Nat.mod_eq_of_lt (by omega:b<2^64)]
 rw [e]
 exact J0q _ (Nat.or_lt_two_pow (n:=64) ha hb)
theorem v0z (a b:Nat) (ha:a<18446744073709551616) (hb:b<18446744073709551616):bAnd .u64 (a:Int) (b:Int)=((a&&&b:Nat):Int):=by
 unfold bAnd
 have e:(BitVec.ofInt IntKind.u64.bits (a:Int)&&&BitVec.ofInt IntKind.u64.bits (b:Int)).toNat=a&&&b:=by
  have e1:BitVec.ofInt IntKind.u64.bits (a:Int)=BitVec.ofNat 64 a:=by simp [IntKind.bits]
  have e2:BitVec.ofInt IntKind.u64.bits (b:Int)=BitVec.ofNat 64 b:=by simp [IntKind.bits]
  rw [e1,e2]
  show(BitVec.ofNat 64 a&&&BitVec.ofNat 64 b).toNat=a&&&b
  rw [BitVec.toNat_and,BitVec.toNat_ofNat,BitVec.toNat_ofNat,Nat.mod_eq_of_lt (by omega:a<2^64),Nat.mod_eq_of_lt (by omega:b<2^64)]
 rw [e]
 exact J0q _ (Nat.lt_of_le_of_lt Nat.and_le_left ha)
theorem Y2f (a b:Nat) (ha:a<4294967296) (hb:b<4294967296):bOr .u32 (a:Int) (b:Int)=((a|||b:Nat):Int):=by
 unfold bOr
 have e:(BitVec.ofInt IntKind.u32.bits (a:Int)|||BitVec.ofInt IntKind.u32.bits (b:Int)).toNat=a|||b:=by
  have e1:BitVec.ofInt IntKind.u32.bits (a:Int)=BitVec.ofNat 32 a:=by simp [IntKind.bits]
  have e2:BitVec.ofInt IntKind.u32.bits (b:Int)=BitVec.ofNat 32 b:=by simp [IntKind.bits]
  rw [e1,e2]
  show(BitVec.ofNat 32 a|||BitVec.ofNat 32 b).toNat=a|||b
  rw [BitVec.toNat_or,BitVec.toNat_ofNat,BitVec.toNat_ofNat,Nat.mod_eq_of_lt (by omega:a<2^32),Nat.mod_eq_of_lt (by omega:b<2^32)]
 rw [e,J0r,Nat.mod_eq_of_lt (Nat.or_lt_two_pow (n:=32) ha hb)]
theorem U1b (a b:Nat) (ha:a<4294967296) (hb:b<4294967296):bAnd .u32 (a:Int) (b:Int)=((a&&&b:Nat):Int):=by
 unfold bAnd
 have e:(BitVec.ofInt IntKind.u32.bits (a:Int)&&&BitVec.ofInt IntKind.u32.bits (b:Int)).toNat=a&&&b:=by
  have e1:BitVec.ofInt IntKind.u32.bits (a:Int)=BitVec.ofNat 32 a:=by simp [IntKind.bits]
  have e2:BitVec.ofInt IntKind.u32.bits (b:Int)=BitVec.ofNat 32 b:=by simp [IntKind.bits]
  rw [e1,e2]
  show(BitVec.ofNat 32 a&&&BitVec.ofNat 32 b).toNat=a&&&b
  rw [BitVec.toNat_and,BitVec.toNat_ofNat,BitVec.toNat_ofNat,Nat.mod_eq_of_lt (by omega:a<2^32),Nat.mod_eq_of_lt (by omega:b<2^32)]
 rw [e,J0r,Nat.mod_eq_of_lt (Nat.lt_of_le_of_lt Nat.and_le_left ha)]
theorem w1i (k:IntKind) (v c:Nat) (h:c≤k.bits):bShl k (v:Int) (c:Int)=k.wrap ((v*2^c:Nat):Int):=by
 unfold bShl
 rw [Int.toNat_natCast,Nat.min_eq_left h]
 congr 1
theorem G0h (v c:Nat) (h:c≤64):bShl .u64 (v:Int) (c:Int)=((v*2^c % 18446744073709551616:Nat):Int):=by
 rw [w1i .u64 v c h,Z0w]
theorem w1h (v c:Nat) (h:c≤32):bShl .u32 (v:Int) (c:Int)=((v*2^c % 4294967296:Nat):Int):=by
 rw [w1i .u32 v c h,J0r]
theorem V0p (v c:Nat) (h:c≤64):bShr .u64 (v:Int) (c:Int)=((v/2^c:Nat):Int):=G0g .u64 v c h
theorem U1a (v c:Nat) (h:c≤32):bShr .u32 (v:Int) (c:Int)=((v/2^c:Nat):Int):=G0g .u32 v c h
theorem X1c (x y c:Nat) (hx:x<2^c) (hy:y % 2^c=0):x|||y=x+y:=by
 have e:y=2^c*(y/2^c):=by have:=Nat.div_add_mod y (2^c);omega
 rw [Nat.or_comm,e,←Nat.two_pow_add_eq_or_of_lt hx,Nat.add_comm]
theorem j0f (w c:Nat) (h:c≤64):w*2^c % 18446744073709551616 % 2^c=0:=by
 have e:(18446744073709551616:Nat)=2^c*2^(64-c):=by rw [←Nat.pow_add,show c+(64-c)=64 from by omega]
 rw [e,Nat.mod_mul_right_mod,Nat.mul_mod_left]
theorem U1v (w c:Nat) (hw:w<18446744073709551616) (h:c≤64):w*2^c=w*2^c % 18446744073709551616+18446744073709551616*(w/2^(64-c)):=by
 have e:(18446744073709551616:Nat)=2^(64-c)*2^c:=by rw [←Nat.pow_add,show 64-c+c=64 from by omega]
 have d:w*2^c/18446744073709551616=w/2^(64-c):=by
  rw [e,Nat.mul_div_mul_right _ _ (Nat.pow_pos (by decide))]
 rw [←d]
 exact(Nat.mod_add_div _ _).symm
theorem j2t (w c:Nat) (hw:w<18446744073709551616) (h:c≤64):w/2^(64-c)<2^c:=by
 rw [Nat.div_lt_iff_lt_mul (Nat.pow_pos (by decide)),←Nat.pow_add,show c+(64-c)=64 from by omega]
 exact hw
theorem U0u (n m:Nat):(n:Int).tdiv (m:Int)=((n/m:Nat):Int):=(Int.ofNat_tdiv n m).symm
theorem U0t (n m:Nat):(n:Int).tmod (m:Int)=((n % m:Nat):Int):=(Int.ofNat_tmod n m).symm
theorem k0y (k:Nat):18446744073709551616^k=2^(64*k):=by rw [show(18446744073709551616:Nat)=2^64 from rfl,←Nat.pow_mul]
theorem y0y (k:Nat):4294967296^k=2^(32*k):=by rw [show(4294967296:Nat)=2^32 from rfl,←Nat.pow_mul]
theorem Z0o (n:Nat) (h:n<18446744073709551616):(UInt64.ofNat n).toNat=n:=by rw [UInt64.toNat_ofNat'];omega
theorem X0j (n:Nat) (h:n<4294967296):(UInt32.ofNat n).toNat=n:=by rw [UInt32.toNat_ofNat'];omega
end Go.Pv
end
section
/-Dyadic numbers:order by value. No program in it. -/
namespace Go.Pv
theorem q1t {m n:Nat} (h:Q0h m<Q0h n):m<n:=by
 apply Nat.lt_of_not_le;intro hle
 have:Q0h n≤Q0h m:=bitlen_le_iff.2 (Nat.lt_of_le_of_lt hle (Z0c m))
 omega
def X0l (l:List UInt64):Nat:=Q0h (valW l)
theorem Y2b (l:List UInt64):X0l (cutW l)=X0l l:=by simp only [X0l,J0g]
theorem q1g (l:List UInt64):cutW l= []↔valW l=0:=by rw [←Q0v,wordsOf_nil]
theorem Y2a (l:List UInt64) (h:cutW l≠ []):X0l l=64*((cutW l).length-1)+Q0h ((cutW l).getD ((cutW l).length-1) 0).toNat:=by
 have hl:=W2j l h
 rw [←Y2b]
 generalize cutW l=c at*
 have hp:0<c.length:=List.length_pos_iff.2 h
 have e:valW c=valW (c.take (c.length-1))+18446744073709551616^(c.length-1)*(c.getD (c.length-1) 0).toNat:=by
  rw [←Z0q c (c.length-1) (by omega),show c.length-1+1=c.length from by omega,List.take_length]
 have hb:=X0b (c.take (c.length-1))
 rw [List.length_take,Nat.min_eq_left (by omega)] at hb
 rw [X0l,e]
 rw [k0y] at hb⊢
 exact V1x _ _ _ hb (fun h0=>hl ((Q1d _).2 h0))
theorem V0o (l:List UInt64):X0l l≤64*l.length:=by
 rw [X0l,bitlen_le_iff,←k0y];exact X0b l
def mant (x:Nm):Int:=if x.neg then -(valW x.w:Int) else(valW x.w:Int)
def cmpE (m:Int) (e:Int) (n:Int) (f:Int):Int:=cmpI (m*2^(e-min e f).toNat) (n*2^(f-min e f).toNat)
def cmpN (a b:Nm):Int:=cmpE (mant a) a.exp (mant b) b.exp
def sgn (m:Int):Int:=if m=0 then 0 else if m<0 then -1 else 1
theorem two_pow_pos (n:Nat):(0:Int)<2^n:=Int.pow_pos (by decide)
theorem w0k (m:Int) (n:Nat):sgn (m*2^n)=sgn m:=by
 have h:=two_pow_pos n
 unfold sgn
 by_cases h0:m=0
 · simp [h0]
 · have h1:m*2^n≠0:=Int.mul_ne_zero h0 (by omega)
   rw [if_neg h0,if_neg h1]
   by_cases hl:m<0
   · rw [if_pos hl,if_pos (Int.mul_neg_of_neg_of_pos hl h)]
   · rw [if_neg hl,if_neg]
     have:0<m*2^n:=Int.mul_pos (by omega) h
     omega
theorem j1j {m n:Int} (h:sgn m≠sgn n):cmpI m n=cmpI (sgn m) (sgn n):=by
 unfold sgn at*
 unfold cmpI
 repeat' split at h
 all_goals repeat' split
 all_goals first | omega | rfl | (exfalso;omega)
theorem j1k {m e n f:Int} (h:sgn m≠sgn n):cmpE m e n f=cmpI (sgn m) (sgn n):=by
 unfold cmpE
 rw [j1j (by rw [w0k,w0k];exact h),w0k,w0k]
theorem W2p {e f:Int} :cmpE 0 e 0 f=0:=by unfold cmpE;simp [J1m]
theorem x2k {m e n f:Int} :cmpE (-m) e (-n) f= -cmpE m e n f:=by
 unfold cmpE;rw [Int.neg_mul,Int.neg_mul,q1m]
theorem W2q {m e n f:Int} :cmpE n f m e= -cmpE m e n f:=by
 unfold cmpE;rw [Int.min_comm f e,q1l]
theorem Y1s (m n:Nat) (e f:Int):cmpE m e n f=cmpW (m*2^(e-min e f).toNat) (n*2^(f-min e f).toNat):=by
 unfold cmpE cmpW
 rw [Int.natCast_mul,Int.natCast_mul,Int.natCast_pow,Int.natCast_pow];rfl
theorem W2r {m n:Nat} {e f:Int} (hm:m≠0) (hn:n≠0) (h:(Q0h m:Int)+e≠(Q0h n:Int)+f):cmpE m e n f=cmpI ((Q0h m:Int)+e) ((Q0h n:Int)+f):=by
 rw [Y1s,cmpW]
 have h1:=W0u m (e-min e f).toNat hm
 have h2:=W0u n (f-min e f).toNat hn
 by_cases hl:(Q0h m:Int)+e<(Q0h n:Int)+f
 · rw [U0k hl,U0k]
   exact Int.ofNat_lt.2 (q1t (by rw [h1,h2];omega))
 · have hlt:n*2^(f-min e f).toNat<m*2^(e-min e f).toNat:=q1t (by rw [h1,h2];omega)
   have hlt':=Int.ofNat_lt.2 hlt
   rw [U0l (a:=(Q0h m:Int)+e) (by omega),U0l hlt']
theorem Z3y {m n:Nat} {e f:Int} (h:f<e):cmpE m e n f=cmpW (m*2^(e-f).toNat) n:=by
 rw [Y1s,Int.min_eq_right (by omega)];simp
theorem Z3x {m n:Nat} {e f:Int} (h:e≤f):cmpE m e n f=cmpW m (n*2^(f-e).toNat):=by
 rw [Y1s,Int.min_eq_left h];simp
def sm (x:Nm):Prop:=x.w.length≤1000000∧ -1000000000≤x.exp∧x.exp≤1000000000
theorem mant_zero {x:Nm} :mant x=0↔valW x.w=0:=by
 unfold mant;split<;>omega
def sgnN (x:Nm):Int:=if valW x.w=0 then 0 else if x.neg then -1 else 1
theorem w0l (x:Nm):sgnN x=sgn (mant x):=by
 unfold sgnN sgn mant
 by_cases h:valW x.w=0
 · rw [if_pos h];simp [h]
 · cases hn:x.neg
   · simp [h]
   · simp [h]
theorem Z3w (a b:Nm):cmpN a b=if sgnN a≠sgnN b∨sgnN a=0 then cmpI (sgnN a) (sgnN b) else sgnN a*cmpE (valW a.w) a.exp (valW b.w) b.exp:=by
 by_cases h:sgnN a≠sgnN b
 · rw [if_pos (.inl h),cmpN,w0l,w0l]
   rw [w0l,w0l] at h
   exact j1k h
 · have h':sgnN a=sgnN b:=Decidable.not_not.1 h
   by_cases h0:sgnN a=0
   · rw [if_pos (.inr h0),h0,←h',h0]
     have z: ∀x,sgnN x=0→mant x=0:=fun x hx=>by
      unfold sgnN at hx
      by_cases hv:valW x.w=0
      · exact mant_zero.2 hv
      · rw [if_neg hv] at hx;split at hx<;>cases hx
     rw [cmpN,z a h0,z b (h'▸h0),W2p];rfl
   · rw [if_neg (by simp [h',h0];rw [←h'];exact h0)]
     unfold sgnN at h' h0
     unfold sgnN cmpN mant
     by_cases ha:valW a.w=0
     · rw [if_pos ha] at h0;exact absurd rfl h0
     · by_cases hb:valW b.w=0
       · rw [if_pos hb] at h';exact absurd h' h0
       · rw [if_neg ha,if_neg hb] at h'
         cases hna:a.neg<;>cases hnb:b.neg<;>simp [hna,hnb,ha,hb,x2k] at h'⊢
end Go.Pv
end
section
/-Digits of 32 bits:shifts,noughts at the end. No program in it. -/
namespace Go.Pv
theorem G0m {α:Type} (l:List α) (i:Nat) (d:α) (h:l.length≤i):l.getD i d=d:=by
 rw [List.getD_eq_getElem?_getD,List.getElem?_eq_none h];rfl
theorem J0s (l:List UInt32) (i:Nat):valD (l.take (i+1))=valD (l.take i)+4294967296^i*(l.getD i 0).toNat:=by
 by_cases h:i<l.length
 · exact K0g l i h
 · rw [List.take_of_length_le (by omega),List.take_of_length_le (by omega),G0m l i 0 (by omega)]
   show valD l=valD l+4294967296^i*0
   omega
theorem W0p (l:List UInt32) (i:Nat) (h:i≤l.length):valD l=valD (l.take i)+4294967296^i*valD (l.drop i):=by
 conv=>lhs;rw [←List.take_append_drop i l]
 rw [x0u,List.length_take,Nat.min_eq_left h]
theorem k0a (l:List UInt32) (i:Nat) (h:i<l.length):valD (l.drop i)=(l.getD i 0).toNat+4294967296*valD (l.drop (i+1)):=by
 rw [List.drop_eq_getElem_cons h]
 simp only [valD,nD,List.map_cons,val]
 rw [List.getD_eq_getElem?_getD,List.getElem?_eq_getElem h];rfl
theorem q0n (l:List UInt32) (i:Nat) (h:l.length≤i):valD (l.drop i)=0:=by
 rw [List.drop_of_length_le h];rfl
theorem w0f (l:List UInt32) (i:Nat):valD (l.drop i)=(l.getD i 0).toNat+4294967296*valD (l.drop (i+1)):=by
 by_cases h:i<l.length
 · exact k0a l i h
 · rw [q0n l i (by omega),q0n l (i+1) (by omega),G0m l i 0 (by omega)];rfl
theorem z0o (l:List UInt32) (i:Nat) (h:i≤l.length):valD l/4294967296^i=valD (l.drop i):=by
 have hb:=q0m (l.take i)
 rw [List.length_take,Nat.min_eq_left h] at hb
 rw [W0p l i h,Nat.add_mul_div_left _ _ (Nat.pow_pos (by decide)),Nat.div_eq_of_lt hb,Nat.zero_add]
theorem K2t (a o:List UInt32) (k s i:Nat) (hs:s<32) (hi:i<a.length) (ho:o.length=a.length+k+1)
 (hv:valD o=valD (a.take i)*2^(32*k+s)) (hc:(o.getD (i+k) 0).toNat<2^s) (hz: ∀j,i+k<j→o.getD j 0=0):
 let x:=(a.getD i 0).toNat*2^s
 let lo:=UInt32.ofNat ((o.getD (i+k) 0).toNat+x % 4294967296)
 let hi':=UInt32.ofNat (x/4294967296)
 x<18446744073709551616∧bOr .u32 ((o.getD (i+k) 0).toNat:Int) ((x % 4294967296:Nat):Int)=(lo.toNat:Int)∧x/4294967296=hi'.toNat∧
 valD ((o.set (i+k) lo).set (i+k+1) hi')=valD (a.take (i+1))*2^(32*k+s)∧hi'.toNat<2^s:=by
 intro x lo hi'
 have hw:(a.getD i 0).toNat<4294967296:=UInt32.toNat_lt _
 have h32:2^s≤2^32:=Nat.pow_le_pow_right (by decide) (by omega)
 have hx:x<4294967296*2^s:=Nat.mul_lt_mul_of_pos_right hw (Nat.pow_pos (by decide))
 have hx64:x<18446744073709551616:=Nat.lt_of_lt_of_le hx (by have:=Nat.mul_le_mul_left 4294967296 h32;omega)
 have hmod:x % 4294967296 % 2^s=0:=by
  have e:(4294967296:Nat)=2^s*2^(32-s):=by rw [←Nat.pow_add,show s+(32-s)=32 from by omega]
  show(a.getD i 0).toNat*2^s % 4294967296 % 2^s=0
  rw [e,Nat.mod_mul_right_mod,Nat.mul_mod_left]
 have hlt:=Nat.mod_lt x (show 4294967296>0 by decide)
 have hor:=X1c (o.getD (i+k) 0).toNat (x % 4294967296) s hc hmod
 have hsum:(o.getD (i+k) 0).toNat+x % 4294967296<4294967296:=by
  rw [←hor];exact Nat.or_lt_two_pow (n:=32) (UInt32.toNat_lt _) hlt
 have elo:lo.toNat=(o.getD (i+k) 0).toNat+x % 4294967296:=X0j _ hsum
 have hdiv:x/4294967296<2^s:=(Nat.div_lt_iff_lt_mul (by decide)).2 (by omega)
 have ehi:hi'.toNat=x/4294967296:=X0j _ (by omega)
 refine⟨hx64,?_,ehi.symm,?_,by rw [ehi];exact hdiv⟩
 · rw [Y2f _ _ (UInt32.toNat_lt _) hlt,hor,elo]
 · have e1:=j0z o (i+k) lo (by omega)
   have e2:=j0z (o.set (i+k) lo) (i+k+1) hi' (by simp;omega)
   rw [J0k,if_neg (by omega),hz (i+k+1) (by omega)] at e2
   rw [K0g a i hi,Nat.add_mul,←hv]
   have e3:4294967296^i*(a.getD i 0).toNat*2^(32*k+s)=4294967296^(i+k)*x:=by
    rw [Nat.pow_add 4294967296 i k,y0y k,Nat.pow_add];simp only [x,Nat.mul_assoc,Nat.mul_left_comm,Nat.mul_comm]
   rw [e3,←Nat.mod_add_div x 4294967296,Nat.mul_add,←Nat.mul_assoc,show 4294967296^(i+k)*4294967296=4294967296^(i+k+1) from(Nat.pow_succ ..).symm]
   rw [elo,Nat.mul_add] at e1
   rw [ehi] at e2
   have z0:(0:UInt32).toNat=0:=rfl
   rw [z0,Nat.mul_zero] at e2
   omega
theorem Q2y (a b r s:Nat) (hs:s<32):(a+4294967296*(b+4294967296*r))/2^s % 4294967296=(a+4294967296*b)/2^s % 4294967296:=by
 have e:4294967296*(b+4294967296*r)=4294967296*b+2^s*(4294967296*(2^(32-s)*r)):=by
  have:(4294967296:Nat)=2^s*2^(32-s):=by rw [←Nat.pow_add,show s+(32-s)=32 from by omega]
  have e2:2^s*(4294967296*(2^(32-s)*r))=4294967296*(2^s*2^(32-s)*r):=by
   simp only [Nat.mul_assoc,Nat.mul_left_comm]
  rw [e2,←this,Nat.mul_add]
 rw [e,←Nat.add_assoc,Nat.add_mul_div_left _ _ (Nat.pow_pos (by decide)),Nat.add_mul_mod_self_left]
theorem v0e (x B j:Nat):x % B^(j+1)=x % B^j+B^j*(x/B^j % B):=by
 rw [Nat.pow_succ,Nat.mod_mul]
def tz (m:Nat):Nat:=if h:m=0∨m % 2=1 then 0 else tz (m/2)+1
termination_by m
decreasing_by omega
theorem z1i :tz 0=0:=by rw [tz];simp
theorem k1a {m:Nat} (h:m % 2=1):tz m=0:=by rw [tz,dif_pos (.inr h)]
theorem z1j {m:Nat} (h0:m≠0) (h:m % 2=0):tz m=tz (m/2)+1:=by rw [tz,dif_neg (by omega)]
theorem U1n (z q:Nat) (hq:q % 2=1):tz (2^z*q)=z:=by
 induction z with
 | zero=>simp [k1a hq]
 | succ z ih=>
  have hp:0<2^z:=Nat.pow_pos (by decide)
  have e:2^(z+1)*q=2*(2^z*q):=by rw [Nat.pow_succ];simp only [Nat.mul_assoc,Nat.mul_left_comm,Nat.mul_comm]
  have h0:2^z*q≠0:=Nat.mul_ne_zero (by omega) (by omega)
  rw [e,z1j (by omega) (by omega),Nat.mul_div_cancel_left _ (by decide),ih]
theorem w0g (m:Nat) (h:m≠0): ∃q,q % 2=1∧m=2^tz m*q:=by
 induction m using Nat.strongRecOn with
 | _ m ih=>
  by_cases ho:m % 2=1
  · exact⟨m,ho,by rw [k1a ho];simp⟩
  · obtain⟨q,h1,h2⟩:=ih (m/2) (by omega) (by omega)
    refine⟨q,h1,?_⟩
    rw [z1j h (by omega),Nat.pow_succ]
    have:m=2*(m/2):=by omega
    conv=>lhs;rw [this,h2]
    simp only [Nat.mul_assoc,Nat.mul_left_comm,Nat.mul_comm]
theorem Y0m (m:Nat) (h:m≠0):m/2^tz m % 2=1:=by
 obtain⟨q,h1,h2⟩:=w0g m h
 have:m/2^tz m=q:=by
  conv=>lhs;lhs;rw [h2]
  exact Nat.mul_div_cancel_left _ (Nat.pow_pos (by decide))
 rw [this,h1]
theorem j2n (m:Nat):m % 2^tz m=0:=by
 by_cases h:m=0
 · subst h;simp
 · obtain⟨q,_,h2⟩:=w0g m h
   conv=>lhs;lhs;rw [h2]
   exact Nat.mul_mod_right _ _
theorem w1u (m:Nat):m/2^tz m*2^tz m=m:=Nat.div_mul_cancel (Nat.dvd_of_mod_eq_zero (j2n m))
theorem q0o (m:Nat) (h:m≠0):tz m<Q0h m:=by
 apply Nat.lt_of_not_le;intro hle
 have h1:m<2^tz m:=bitlen_le_iff.1 hle
 have:=j2n m
 rw [Nat.mod_eq_of_lt h1] at this
 exact h this
end Go.Pv
end
section
/-The document's values:sums,order. No program in it. -/
namespace Go.Pv
structure Vl where
 neg:Bool
 m:Nat
 e:Int
 deriving DecidableEq
instance : Inhabited Vl:=⟨⟨false,0,0⟩⟩
def encV (v:Vl):List PV:= [.sc (.bool v.neg),.sl .no (encD (Q0c v.m)),.sc (.int .i64 v.e)]
attribute [go_sem] encV
theorem Z0l (m:Nat):(Q0c m).length≤(Q0h m+31)/32:=by
 apply G0e
 rw [y0y]
 exact Nat.lt_of_lt_of_le (Z0c m) (Nat.pow_le_pow_right (by decide) (by omega))
theorem H0i (m:Nat):(Q0n m).length≤(Q0h m+63)/64:=by
 apply Z0r
 rw [k0y]
 exact Nat.lt_of_lt_of_le (Z0c m) (Nat.pow_le_pow_right (by decide) (by omega))
theorem V0h (m k:Nat):Q0h (m*2^k)≤Q0h m+k:=by
 by_cases h:m=0
 · subst h;simp [X0g]
 · rw [W0u m k h];exact Nat.le_refl _
theorem Y0k (m n:Nat):Q0h (m+n)≤max (Q0h m) (Q0h n)+1:=by
 rw [bitlen_le_iff,Nat.pow_succ]
 have h1:m<2^max (Q0h m) (Q0h n):=Nat.lt_of_lt_of_le (Z0c m) (Nat.pow_le_pow_right (by decide) (by omega))
 have h2:n<2^max (Q0h m) (Q0h n):=Nat.lt_of_lt_of_le (Z0c n) (Nat.pow_le_pow_right (by decide) (by omega))
 omega
theorem X0o {m n:Nat} (h:m≤n):Q0h m≤Q0h n:=bitlen_le_iff.2 (Nat.lt_of_le_of_lt h (Z0c n))
theorem q0p (m:Nat):tz m≤Q0h m:=by
 by_cases h:m=0
 · subst h;rw [z1i];exact Nat.zero_le _
 · exact Nat.le_of_lt (q0o m h)
def J0a (v:Vl):Int:=if v.neg then -(v.m:Int) else(v.m:Int)
def oddV (neg:Bool) (m:Nat) (e:Int):Vl:=if m=0 then⟨false,0,0⟩ else⟨neg,m/2^tz m,e+tz m⟩
def mkV (s:Int) (e:Int):Vl:=oddV (decide (s<0)) s.natAbs e
def K0q (v:Vl):Vl:=if v.m=0 then v else { v with neg:= !v.neg }
def G0w (a b:Vl):Vl:=if a.m=0 then b else if b.m=0 then a else
 mkV (J0a a*2^(a.e-min a.e b.e).toNat+J0a b*2^(b.e-min a.e b.e).toNat) (min a.e b.e)
def K0u (v:Vl):Int:=if v.m=0 then 0 else if v.neg then -1 else 1
def H0a (a b:Vl):Vl:=G0w a (K0q b)
def U0b (a b:Vl):Int:=K0u (H0a a b)
theorem z0z (v:Vl):K0u v=sgn (J0a v):=by
 unfold K0u sgn J0a
 by_cases h:v.m=0
 · rw [if_pos h];simp [h]
 · cases hn:v.neg
   · simp [h]
   · simp [h]
theorem X2i (s e:Int):K0u (mkV s e)=sgn s:=by
 unfold mkV oddV K0u sgn
 by_cases h:s=0
 · subst h;simp
 · have h1:s.natAbs≠0:=by omega
   rw [if_neg h1]
   have h2:s.natAbs/2^tz s.natAbs≠0:=by
    have:=Y0m s.natAbs h1;omega
   simp only
   rw [if_neg h2,if_neg h]
   by_cases hl:s<0
   · simp [hl]
   · simp [hl]
theorem w0z (v:Vl):J0a (K0q v)= -J0a v:=by
 unfold K0q
 by_cases h:v.m=0
 · rw [if_pos h];simp [J0a,h]
 · rw [if_neg h]
   unfold J0a
   cases v.neg<;>simp
theorem w0h (v:Vl):(K0q v).m=v.m:=by unfold K0q;split<;>rfl
theorem w0i (v:Vl):(K0q v).e=v.e:=by unfold K0q;split<;>rfl
theorem w0y {v:Vl} (h:v.m=0):J0a v=0:=by unfold J0a;simp [h]
theorem x2j (a b:Int):cmpI a b=sgn (a-b):=by
 unfold cmpI sgn
 by_cases h1:a<b
 · rw [if_pos h1,if_neg (by omega),if_pos (by omega)]
 · by_cases h2:a>b
   · rw [if_neg h1,if_pos h2,if_neg (by omega),if_neg (by omega)]
   · rw [if_neg h1,if_neg h2,if_pos (by omega)]
theorem J2q (a b:Vl):U0b a b=cmpE (J0a a) a.e (J0a b) b.e:=by
 unfold U0b H0a G0w cmpE
 rw [x2j,w0h,w0i]
 by_cases ha:a.m=0
 · rw [if_pos ha,z0z,w0z,w0y ha,Int.zero_mul,Int.zero_sub,←Int.neg_mul,w0k]
 · rw [if_neg ha]
   by_cases hb:b.m=0
   · rw [if_pos hb,z0z,w0y hb,Int.zero_mul,Int.sub_zero,w0k]
   · rw [if_neg hb,X2i,w0z,Int.neg_mul];rfl
def ofN (x:Nm):Vl:=⟨x.neg,valW x.w,x.exp⟩
theorem w0u (a b:Nm):U0b (ofN a) (ofN b)=cmpN a b:=by rw [J2q];rfl
end Go.Pv
end
section
/-Intervals,boxes:what the functions on them answer. No program in it. -/
namespace Go.Pv
def Q0j (x:Nm):Bool:=if x.w= [] then !x.neg&&x.exp==0 else decide ((cutW x.w).length=x.w.length)&&decide (x.w.length≤64)&&decide ((x.w.getD 0 0).toNat % 2=1)&&decide (-65536≤x.exp)&&decide (x.exp≤65536)
def cmpR (a b:Nm):Int:=if Q0j a=true∧Q0j b=true then cmpN a b else 0
def ownN (x:Nm):Nm:=if Q0j x=true then x else⟨false,0,[]⟩
theorem Z0j {x:Nm} (h:Q0j x=true):sm x:=by
 unfold Q0j at h
 split at h
 · rename_i hw
   simp at h
   simp [sm,hw,h]
 · simp at h
   obtain⟨⟨⟨⟨_,h1⟩,_⟩,h2⟩,h3⟩:=h
   exact⟨by omega,by omega,by omega⟩
theorem w0n {x:Nm} (h:Q0j x=true):cutW x.w=x.w:=by
 unfold Q0j at h
 split at h
 · rename_i hw;rw [hw];rfl
 · simp at h
   have e:=h.1.1.1.1
   have h2:x.w.getD (x.w.length-1) 0≠0:=(J1k x.w (by assumption)).1 e
   rw [j1h x.w x.w.length (Nat.le_refl _) (fun j h1 h2=>by omega) (.inr h2)]
   simp
def wN (x:Nm):Prop:=x.w.length≤100000000000
def wI (x:Ivl):Prop:=wN x.lo∧wN x.hi
def Q0w (x:Ivl):Bool:=Q0j x.lo&&Q0j x.hi&&decide (cmpN x.lo x.hi≤0)
def J0p (a b:Nm):Nm:=if cmpN b a<0 then b else a
def X0u (a b:Nm):Nm:=if cmpN b a>0 then b else a
def inI (a b:Ivl):Bool:=Q0w a&&Q0w b&&decide (0≤cmpN a.lo b.lo)&&decide (0≤cmpN b.hi a.hi)
def rightB (l:List Ivl):Bool:=l.all Q0w&&decide (1≤l.length)&&decide (l.length≤4)
def Q1b {α β:Type} (F:Nat→α→β×Int):Nat→List α→List β→List β×Int
 | _,[],acc=>(acc,0)
 | i,x::l,acc=>if (F i x).2≠0 then([],(F i x).2) else Q1b F (i+1) l (acc++ [(F i x).1])
theorem Q0x {x:Ivl} (h:Q0w x=true):Q0j x.lo=true∧Q0j x.hi=true∧cmpN x.lo x.hi≤0:=by
 unfold Q0w at h
 simp at h
 exact⟨h.1.1,h.1.2,h.2⟩
theorem x0w {x:Nm} (h:sm x):wN x:=by have:=h.1;unfold wN;omega
theorem K2u {P:Nm→Prop} {a b:Nm} (ha:P a) (hb:P b):P (J0p a b):=by unfold J0p;split<;>assumption
theorem X1v {P:Nm→Prop} {a b:Nm} (ha:P a) (hb:P b):P (X0u a b):=by unfold X0u;split<;>assumption
def allF {α:Type} [Inhabited α] (f:α→α→Bool) (a b:List α):Bool:=decide (a.length=b.length)&&(List.range a.length).all fun i=>f (a.getD i default) (b.getD i default)
def inB (a b:List Ivl):Bool:=rightB a&&rightB b&&allF inI a b
end Go.Pv
end
section
/-Pieces,tubes,what is merged. No program in it. -/
namespace Go.Pv
theorem q1k (a b:Nm):cmpN b a= -cmpN a b:=W2q
theorem z0q (a:Nm):cmpN a a=0:=by unfold cmpN cmpE;exact J1m rfl
theorem Q2h (a b:Nm):cmpN (J0p a b) a≤0:=by
 unfold J0p;split
 · omega
 · rw [z0q];decide
theorem Q2g (a b:Nm):cmpN (J0p a b) b≤0:=by
 unfold J0p;split
 · rw [z0q];decide
 · have:=q1k b a;omega
theorem Q2r (a b:Nm):cmpN a (X0u a b)≤0:=by
 unfold X0u;split
 · have:=q1k b a;omega
 · rw [z0q];decide
theorem Q2q (a b:Nm):cmpN b (X0u a b)≤0:=by
 unfold X0u;split
 · rw [z0q];decide
 · omega
theorem Z1m {x:Ivl} (h1:Q0j x.lo=true) (h2:Q0j x.hi=true) (h3:cmpN x.lo x.hi≤0):Q0w x=true:=by
 unfold Q0w;rw [h1,h2,decide_eq_true h3];rfl
theorem y1n {l:List Ivl} (h:rightB l=true): ∀i,i<l.length→Q0w (l.getD i default)=true:=by
 unfold rightB at h
 simp only [Bool.and_eq_true,List.all_eq_true] at h
 intro i hi
 refine h.1.1 _ ?_
 rw [List.getD_eq_getElem?_getD,List.getElem?_eq_getElem hi]
 exact List.getElem_mem hi
theorem Z1n {l:List Ivl} (h: ∀i,i<l.length→Q0w (l.getD i default)=true) (h1:1≤l.length) (h2:l.length≤4):rightB l=true:=by
 unfold rightB
 rw [decide_eq_true h1,decide_eq_true h2,List.all_eq_true.2];rfl
 intro x hx
 obtain⟨i,hi,rfl⟩:=List.mem_iff_getElem.1 hx
 have:=h i hi
 rwa [List.getD_eq_getElem?_getD,List.getElem?_eq_getElem hi] at this
theorem x0b {l:List Ivl} (h:rightB l=true):1≤l.length∧l.length≤4:=by
 unfold rightB at h;simp at h;omega
def wB (l:List Ivl):Prop:=l.length≤100000000000∧ ∀i,i<l.length→wI (l.getD i default)
def K3t (s:Sg):Bool:=decide (1≤s.fr)&&decide (s.fr≤s.to)&&decide (s.to≤4096)&&Q0j s.t0&&Q0j s.t1&& !s.t0.neg&&decide (cmpR s.t0 s.t1<0)&&rightB s.box
def X3f (a b:Sg):Bool:=decide (b.fr=IntKind.i64.wrap (a.to+1))&&decide (cmpR a.t1 b.t0=0)&&decide (a.box.length=b.box.length)
def rowAt (l:List Sg) (i:Nat):Bool:=K3t (l.getD i default)&&(decide (i=0)||X3f (l.getD (i-1) default) (l.getD i default))
theorem X0q {x:Nm} (h:Q0j x=true):valW x.w=0↔x.w= []:=by
 constructor
 · intro hv
   rw [←w0n h,←Q0v,hv,X0i]
 · intro hw;rw [hw];rfl
end Go.Pv
end
