/- Parts of the walk: PvX, PvY, M3, M4, M5, M6, M7, M8, M9. -/
import Derived.Test.YthichlfphjbadaaGreatZD
set_option linter.unusedVariables false
set_option linter.unusedSimpArgs false
section
/-Lists of elements of the program's types,as pure values;numbers,intervals,pieces. -/
namespace Go.Pv
open Go.Proofs
attribute [go_sem] Int.reduceBNe Int.reduceBEq
theorem Z0t :Tryz.prog.follows .mixedOrders=true:=by kernel_rfl
def encW (l:List UInt64):List PV:=l.map fun c=>(.sc (.int .u64 c.toNat))
@[go_sem] theorem J3m (l:List UInt64):(encW l).length=l.length:=by simp [encW]
@[go_sem] theorem j2w :encW []= []:=(rfl)
@[go_sem] theorem Z4q (l:List UInt64):(encW l).all (fun x=>x.cells.length==1)=true:=by simp [encW,PV.cells]
@[go_sem] theorem Z4r (l:List UInt64):(encW l).all (fun x=>(x.cells.length==1)&&x.cells.all PV.cellOK)=true:=by simp [encW,PV.cells,PV.cellOK,Value.oneCell']
@[go_sem] theorem H3i (l:List UInt64) (n:Nat):(encW l).take n=encW (l.take n):=by simp [encW]
@[go_sem] theorem H3j (l:List UInt64) (n:Nat):(encW l).drop n=encW (l.drop n):=by simp [encW]
@[go_sem] theorem k3f (l m:List UInt64):encW l++encW m=encW (l++m):=by simp [encW]
@[go_sem] theorem U2o (l:List UInt64) (c:UInt64):encW l++ [.sc (.int .u64 c.toNat)]=encW (l++ [c]):=by simp [encW]
theorem X0t (l:List UInt64) (n:Nat) (h:n<l.length):(encW l).getD n .junk= .sc (.int .u64 (l.getD n 0).toNat):=by
 simp [encW,List.getD_eq_getElem?_getD,h]
@[go_sem] theorem k3e (l:List UInt64) (i:Nat) (cs:List PV):(encW l).map (PV.frz i cs)=encW l:=by
 simp only [encW,List.map_map]
 exact List.map_congr_left fun a _=>rfl
theorem z1r (l:List UInt64) (n:Nat) (c:UInt64) (h:n<l.length):over (encW l) n [.sc (.int .u64 c.toNat)]=encW (l.set n c):=by
 unfold over encW
 rw [List.set_eq_take_append_cons_drop,if_pos h]
 simp
@[go_sem] theorem k3d (l:List UInt64) (a b:Nat):(encW l).all (PV.lim a b)=true:=by
 simp [encW,PV.lim,PV.lim1]
@[go_sem] theorem Z4s (l:List UInt64):fzOK (encW l)=true:=by
 simp [encW,fzOK,PV.closed2,PV.closed1]
@[go_sem] theorem J3n (l:List UInt64):(encW l).map PV.forget2=encW l:=by
 simp only [encW,List.map_map]
 exact List.map_congr_left fun a _=>rfl
@[go_sem] theorem J3o (l:List UInt64):(encW l).all PV.closed2=true:=by
 simp [encW,PV.closed2,PV.closed1]
@[go_sem] theorem k3c (n:Nat):List.replicate n (PV.sc (.int .u64 0))=encW (List.replicate n 0):=by simp [encW]
def encD (l:List UInt32):List PV:=l.map fun c=>(.sc (.int .u32 c.toNat))
@[go_sem] theorem J3q (l:List UInt32):(encD l).length=l.length:=by simp [encD]
@[go_sem] theorem G1d :encD []= []:=(rfl)
@[go_sem] theorem Z4y (l:List UInt32):(encD l).all (fun x=>x.cells.length==1)=true:=by simp [encD,PV.cells]
@[go_sem] theorem Z4z (l:List UInt32):(encD l).all (fun x=>(x.cells.length==1)&&x.cells.all PV.cellOK)=true:=by simp [encD,PV.cells,PV.cellOK,Value.oneCell']
@[go_sem] theorem q3k (l:List UInt32) (n:Nat):(encD l).take n=encD (l.take n):=by simp [encD]
@[go_sem] theorem q3m (l:List UInt32) (n:Nat):(encD l).drop n=encD (l.drop n):=by simp [encD]
@[go_sem] theorem v3a (l m:List UInt32):encD l++encD m=encD (l++m):=by simp [encD]
@[go_sem] theorem q3l (l:List UInt32) (c:UInt32):encD l++ [.sc (.int .u32 c.toNat)]=encD (l++ [c]):=by simp [encD]
theorem K0g (l:List UInt32) (n:Nat) (h:n<l.length):(encD l).getD n .junk= .sc (.int .u32 (l.getD n 0).toNat):=by
 simp [encD,List.getD_eq_getElem?_getD,h]
@[go_sem] theorem k3z (l:List UInt32) (i:Nat) (cs:List PV):(encD l).map (PV.frz i cs)=encD l:=by
 simp only [encD,List.map_map]
 exact List.map_congr_left fun a _=>rfl
theorem z1s (l:List UInt32) (n:Nat) (c:UInt32) (h:n<l.length):over (encD l) n [.sc (.int .u32 c.toNat)]=encD (l.set n c):=by
 unfold over encD
 rw [List.set_eq_take_append_cons_drop,if_pos h]
 simp
@[go_sem] theorem k3y (l:List UInt32) (a b:Nat):(encD l).all (PV.lim a b)=true:=by
 simp [encD,PV.lim,PV.lim1]
@[go_sem] theorem X4a (l:List UInt32):fzOK (encD l)=true:=by
 simp [encD,fzOK,PV.closed2,PV.closed1]
@[go_sem] theorem J3r (l:List UInt32):(encD l).map PV.forget2=encD l:=by
 simp only [encD,List.map_map]
 exact List.map_congr_left fun a _=>rfl
@[go_sem] theorem J3s (l:List UInt32):(encD l).all PV.closed2=true:=by
 simp [encD,PV.closed2,PV.closed1]
@[go_sem] theorem k3x (n:Nat):List.replicate n (PV.sc (.int .u32 0))=encD (List.replicate n 0):=by simp [encD]
def encZ (l:List Int):List PV:=l.map fun c=>(.sc (.int .i64 c))
@[go_sem] theorem J3i (l:List Int):(encZ l).length=l.length:=by simp [encZ]
@[go_sem] theorem j3z :encZ []= []:=(rfl)
@[go_sem] theorem Z4o (l:List Int):(encZ l).all (fun x=>x.cells.length==1)=true:=by simp [encZ,PV.cells]
@[go_sem] theorem Z4p (l:List Int):(encZ l).all (fun x=>(x.cells.length==1)&&x.cells.all PV.cellOK)=true:=by simp [encZ,PV.cells,PV.cellOK,Value.oneCell']
@[go_sem] theorem H3f (l:List Int) (n:Nat):(encZ l).take n=encZ (l.take n):=by simp [encZ]
@[go_sem] theorem H3h (l:List Int) (n:Nat):(encZ l).drop n=encZ (l.drop n):=by simp [encZ]
@[go_sem] theorem k3b (l m:List Int):encZ l++encZ m=encZ (l++m):=by simp [encZ]
@[go_sem] theorem H3g (l:List Int) (c:Int):encZ l++ [.sc (.int .i64 c)]=encZ (l++ [c]):=by simp [encZ]
theorem Q1t (l:List Int) (n:Nat) (h:n<l.length):(encZ l).getD n .junk= .sc (.int .i64 (l.getD n 0)):=by
 simp [encZ,List.getD_eq_getElem?_getD,h]
@[go_sem] theorem k3a (l:List Int) (i:Nat) (cs:List PV):(encZ l).map (PV.frz i cs)=encZ l:=by
 simp only [encZ,List.map_map]
 exact List.map_congr_left fun a _=>rfl
@[go_sem] theorem j2v (l:List Int) (a b:Nat):(encZ l).all (PV.lim a b)=true:=by
 simp [encZ,PV.lim,PV.lim1]
@[go_sem] theorem J3j (l:List Int):fzOK (encZ l)=true:=by
 simp [encZ,fzOK,PV.closed2,PV.closed1]
@[go_sem] theorem J3k (l:List Int):(encZ l).map PV.forget2=encZ l:=by
 simp only [encZ,List.map_map]
 exact List.map_congr_left fun a _=>rfl
@[go_sem] theorem J3l (l:List Int):(encZ l).all PV.closed2=true:=by
 simp [encZ,PV.closed2,PV.closed1]
@[go_sem] theorem q3n (l:List UInt8) (n:Nat):(encB l).take n=encB (l.take n):=by simp [encB]
@[go_sem] theorem q3o (l:List UInt8) (n:Nat):(encB l).drop n=encB (l.drop n):=by simp [encB]
attribute [go_sem] j2y J1q
theorem y1r (l:List UInt8) (n:Nat) (h:n<l.length):(encB l).getD n .junk= .sc (.int .u8 (l.getD n 0).toNat):=by
 simp [encB,List.getD_eq_getElem?_getD,h]
structure Nm where
 neg:Bool
 exp:Int
 w:List UInt64
 deriving DecidableEq
instance : Inhabited Nm:=⟨⟨false,0,[]⟩⟩
def encN (x:Nm):List PV:= [.sc (.bool x.neg),.sc (.int .i64 x.exp),.sl .no (encW x.w)]
attribute [go_sem] encN
structure Ivl where
 lo:Nm
 hi:Nm
 deriving DecidableEq
instance : Inhabited Ivl:=⟨⟨default,default⟩⟩
def encI (x:Ivl):List PV:= [.sc (.bool x.lo.neg),.sc (.int .i64 x.lo.exp),.sl .no (encW x.lo.w),.sc (.bool x.hi.neg),.sc (.int .i64 x.hi.exp),.sl .no (encW x.hi.w)]
attribute [go_sem] encI
def Q0w (l:List Nm):List PV:=l.map fun c=>(.agg (encN c))
@[go_sem] theorem G0j (l:List Nm):(Q0w l).length=l.length:=by simp [Q0w]
@[go_sem] theorem H3v :Q0w []= []:=(rfl)
@[go_sem] theorem k3n (l:List Nm):(Q0w l).all (fun x=>x.cells.length==3)=true:=by simp [Q0w,PV.cells,encN]
@[go_sem] theorem k3o (l:List Nm):(Q0w l).all (fun x=>(x.cells.length==3)&&x.cells.all PV.cellOK)=true:=by simp [Q0w,PV.cells,PV.cellOK,Value.oneCell',encN]
@[go_sem] theorem W3i (l:List Nm) (n:Nat):(Q0w l).take n=Q0w (l.take n):=by simp [Q0w]
@[go_sem] theorem W3k (l:List Nm) (n:Nat):(Q0w l).drop n=Q0w (l.drop n):=by simp [Q0w]
@[go_sem] theorem H3x (l m:List Nm):Q0w l++Q0w m=Q0w (l++m):=by simp [Q0w]
@[go_sem] theorem W3j (l:List Nm) (c:Nm):Q0w l++ [.agg (encN c)]=Q0w (l++ [c]):=by simp [Q0w]
theorem J0r (l:List Nm) (n:Nat) (h:n<l.length):(Q0w l).getD n .junk= .agg (encN (l.getD n default)):=by
 simp [Q0w,List.getD_eq_getElem?_getD,h]
@[go_sem] theorem H3w (l:List Nm) (i:Nat) (cs:List PV):(Q0w l).map (PV.frz i cs)=Q0w l:=by
 simp only [Q0w,List.map_map]
 exact List.map_congr_left fun a _=>rfl
def Q0t (l:List Ivl):List PV:=l.map fun c=>(.agg (encI c))
@[go_sem] theorem Q1a (l:List Ivl):(Q0t l).length=l.length:=by simp [Q0t]
@[go_sem] theorem q3e :Q0t []= []:=(rfl)
@[go_sem] theorem k3t (l:List Ivl):(Q0t l).all (fun x=>x.cells.length==6)=true:=by simp [Q0t,PV.cells,encI]
@[go_sem] theorem k3u (l:List Ivl):(Q0t l).all (fun x=>(x.cells.length==6)&&x.cells.all PV.cellOK)=true:=by simp [Q0t,PV.cells,PV.cellOK,Value.oneCell',encI]
@[go_sem] theorem W3o (l:List Ivl) (n:Nat):(Q0t l).take n=Q0t (l.take n):=by simp [Q0t]
@[go_sem] theorem W3q (l:List Ivl) (n:Nat):(Q0t l).drop n=Q0t (l.drop n):=by simp [Q0t]
@[go_sem] theorem q3g (l m:List Ivl):Q0t l++Q0t m=Q0t (l++m):=by simp [Q0t]
@[go_sem] theorem W3p (l:List Ivl) (c:Ivl):Q0t l++ [.agg (encI c)]=Q0t (l++ [c]):=by simp [Q0t]
theorem J0e (l:List Ivl) (n:Nat) (h:n<l.length):(Q0t l).getD n .junk= .agg (encI (l.getD n default)):=by
 simp [Q0t,List.getD_eq_getElem?_getD,h]
@[go_sem] theorem q3f (l:List Ivl) (i:Nat) (cs:List PV):(Q0t l).map (PV.frz i cs)=Q0t l:=by
 simp only [Q0t,List.map_map]
 exact List.map_congr_left fun a _=>rfl
structure Sg where
 fr:Int
 to:Int
 t0:Nm
 t1:Nm
 box:List Ivl
 deriving DecidableEq
instance : Inhabited Sg:=⟨⟨0,0,default,default,[]⟩⟩
def encS (x:Sg):List PV:= [.sc (.int .i64 x.fr),.sc (.int .i64 x.to),.sc (.bool x.t0.neg),.sc (.int .i64 x.t0.exp),.sl .no (encW x.t0.w),.sc (.bool x.t1.neg),.sc (.int .i64 x.t1.exp),.sl .no (encW x.t1.w),.sl .no (Q0t x.box)]
attribute [go_sem] encS
def U0w (l:List Sg):List PV:=l.map fun c=>(.agg (encS c))
@[go_sem] theorem w2u (l:List Sg):(U0w l).length=l.length:=by simp [U0w]
@[go_sem] theorem H3m :U0w []= []:=(rfl)
@[go_sem] theorem k3h (l:List Sg):(U0w l).all (fun x=>x.cells.length==9)=true:=by simp [U0w,PV.cells,encS]
@[go_sem] theorem k3i (l:List Sg):(U0w l).all (fun x=>(x.cells.length==9)&&x.cells.all PV.cellOK)=true:=by simp [U0w,PV.cells,PV.cellOK,Value.oneCell',encS]
@[go_sem] theorem W3d (l:List Sg) (n:Nat):(U0w l).take n=U0w (l.take n):=by simp [U0w]
@[go_sem] theorem W3f (l:List Sg) (n:Nat):(U0w l).drop n=U0w (l.drop n):=by simp [U0w]
@[go_sem] theorem H3o (l m:List Sg):U0w l++U0w m=U0w (l++m):=by simp [U0w]
@[go_sem] theorem W3e (l:List Sg) (c:Sg):U0w l++ [.agg (encS c)]=U0w (l++ [c]):=by simp [U0w]
@[go_sem] theorem H3n (l:List Sg) (i:Nat) (cs:List PV):(U0w l).map (PV.frz i cs)=U0w l:=by
 simp only [U0w,List.map_map]
 exact List.map_congr_left fun a _=>rfl
end Go.Pv
end
section
/-More ways to know less:a slice without room becomes one that may be appended to;tags forgotten. -/
namespace Go.Pv
def PFS.claim (t sz:Nat) (s:PFS):PFS:=
 match s.pa.getD t .junk with
 | .sl .full []=>⟨s.pa.set t (.sl (.own s.T.length) []),s.L,s.T++ [(0,sz)],s.st⟩
 | _=>s
theorem Q2o {E:Ent} {s:PFS} (t sz:Nat):Weak E s (s.claim t sz):=by
 intro a w g F h
 unfold PFS.claim
 split
 · rename_i he
   obtain⟨es,hes⟩: ∃es:List PV,es= []:=⟨_,rfl⟩
   rw [←hes] at he⊢
   have hv:=h.len_eq t
   rw [he] at hv
   have hbase: ∀v,RepF w g F s.T v (.sl .full es)→Rep w g v (.sl .full es):=fun v hv=>by cases hv with | base _ _ h=>exact h
   have hv:=hbase _ hv
   have hri: ∀v,Rep w g v (.sl .full es)→Right w g none sz v es:=fun v hv=>by
    cases hv with
    | nil t ad ht=>exact⟨.inr ⟨_,rfl⟩,rfl⟩
    | sl t es b off sz cap cf ht hf hcap hsz hvis hc hr=>exact⟨.inr ⟨_,by rw [hf rfl]⟩,by rw [hes];rfl⟩
   rw [show(0:Nat)=es.length from by rw [hes];rfl]
   obtain⟨F',m1,m2,m3,m4,m5⟩:=h.mint es.length sz none (fun b hb=>by cases hb)
   have hlast:(s.T++ [(es.length,sz)]).getD s.T.length (0,0)=(es.length,sz):=by simp [List.getD_eq_getElem?_getD]
   have hown:RepF w g F' (s.T++ [(es.length,sz)]) (a.tmps.getD t undef) (.sl (.own s.T.length) es):=by
    refine .own _ _ _ hv.toNo (by simp) (by rw [hlast];exact Nat.le_refl _) fun _=> ?_
    rw [hlast,m2]
    exact hri _ hv
   refine⟨g,F',m1.ext,m1.store,m1.frame,m1.defers,by rw [List.length_set];exact m1.len,fun j hj=> ?_⟩
   simp only [List.length_set] at hj
   by_cases e:t=j
   · subst e
     rw [Q0n _ _ _ _ hj]
     exact hown
   · rw [Q0i _ _ _ _ _ e]
     exact m1.tmps j hj
 · exact⟨g,F,h⟩
theorem X0k {P:Program} {E:Ent} {c:Code} {Q:Exit→PFS→Prop} {s:PFS} (t sz:Nat) (h:PWP P E c Q (s.claim t sz)):PWP P E c Q s:=J0v (Q2o t sz) h
def clm (p:PV) (t sz:Nat) (pa:List PV) (L:Q0g) (T:List (Nat×Nat)) (st:Q0g):PFS:=
 match p with
 | .sl .full []=>⟨pa.set t (.sl (.own T.length) []),L,T++ [(0,sz)],st⟩
 | _=>⟨pa,L,T,st⟩
@[go_sem] theorem v3e {t sz:Nat} {pa:List PV} {L st:Q0g} {T:List (Nat×Nat)} :(PFS.mk pa L T st).claim t sz=clm (pa.getD t .junk) t sz pa L T st:=by
 unfold PFS.claim clm
 rfl
@[go_sem] theorem v3d {t sz:Nat} {pa:List PV} {L st:Q0g} {T:List (Nat×Nat)} :clm (.sl .full []) t sz pa L T st=⟨pa.set t (.sl (.own T.length) []),L,T++ [(0,sz)],st⟩:=(rfl)
def noL :List Bool→List PV→List PV
 | b::bs,p::ps=>(if b&&p.closed2 then p.forget2 else p)::noL bs ps
 | [],ps=>ps
 | _,[]=> []
theorem w0x : ∀(bs:List Bool) (ps:List PV),(noL bs ps).length=ps.length
 | [],[]=>rfl
 | [],p::ps=>rfl
 | b::bs,[]=>rfl
 | b::bs,p::ps=>by simp [noL,w0x bs ps]
theorem w1x : ∀(bs:List Bool) (ps:List PV) (j:Nat),(noL bs ps).getD j .junk=ps.getD j .junk∨((ps.getD j .junk).closed2=true∧(noL bs ps).getD j .junk=(ps.getD j .junk).forget2)
 | [],ps,j=> .inl rfl
 | b::bs,[],j=> .inl rfl
 | b::bs,p::ps,j=>by
  cases j with
  | zero=>
   simp only [noL,List.getD_cons_zero]
   by_cases h:(b&&p.closed2)=true
   · rw [if_pos h];simp at h;exact .inr ⟨h.2,rfl⟩
   · rw [if_neg h];exact .inl rfl
  | succ j=>simpa [noL] using w1x bs ps j
def PFS.plain (bs:List Bool) (s:PFS):PFS:=⟨noL bs s.pa,s.L,s.T,s.st⟩
theorem Q2l {E:Ent} {s:PFS} (bs:List Bool):Weak E s (s.plain bs):=by
 intro a w g F h
 refine⟨g,F,h.ext,h.store,h.frame,h.defers,by simp only [PFS.plain,w0x];exact h.len,fun j hj=> ?_⟩
 simp only [PFS.plain,w0x] at hj⊢
 rcases w1x bs s.pa j with e | ⟨e1,e2⟩
 · rw [e];exact h.tmps j hj
 · rw [e2];exact .base _ _ ((h.tmps j hj).forget2 e1)
theorem V0b {P:Program} {E:Ent} {c:Code} {Q:Exit→PFS→Prop} {s:PFS} (bs:List Bool) (h:PWP P E c Q (s.plain bs)):PWP P E c Q s:=J0v (Q2l bs) h
@[go_sem] theorem x3f {bs:List Bool} {pa:List PV} {L st:Q0g} {T:List (Nat×Nat)} :(PFS.mk pa L T st).plain bs=⟨noL bs pa,L,T,st⟩:=(rfl)
@[go_sem] theorem y3w {ps:List PV} :noL [] ps=ps:=(rfl)
@[go_sem] theorem V4r {bs ps:List PV} {b:List Bool} {p:PV} :noL (false::b) (p::ps)=p::noL b ps:=(rfl)
@[go_sem] theorem K4l {ps es:List PV} {b:List Bool} :noL (true::b) (.sl .no es::ps)= .sl .no es::noL b ps:=(rfl)
@[go_sem] theorem x3h {ps es:List PV} {b:List Bool} :noL (true::b) (.sl .full es::ps)= .sl .no es::noL b ps:=(rfl)
@[go_sem] theorem y3v {k:Nat} {ps es:List PV} {b:List Bool} :noL (true::b) (.sl (.own k) es::ps)= .sl .no es::noL b ps:=(rfl)
@[go_sem] theorem y3x {ps cs:List PV} {b:List Bool} :noL (true::b) (.agg cs::ps)=(if cs.all PV.closed1=true then .agg (cs.map PV.forget1) else .agg cs)::noL b ps:=by
 simp only [noL,PV.closed2,PV.forget2,Bool.true_and]
def PFS.plainBox (i:Nat) (s:PFS):PFS:=if (s.L.getD i []).all PV.closed2=true∧i<s.L.length then⟨s.pa,s.L.set i ((s.L.getD i []).map PV.forget2),s.T,s.st⟩ else s
theorem Y1h {E:Ent} {s:PFS} (i:Nat):Weak E s (s.plainBox i):=by
 intro a w g F h
 unfold PFS.plainBox
 split
 · rename_i hc
   have hne: ∀k,(s.L.set i ((s.L.getD i []).map PV.forget2)).getD k []≠ []→s.L.getD k []≠ []:=fun k hk=>by
    by_cases e:i=k
    · subst e
      rw [Q0n _ _ _ _ hc.2] at hk
      intro e2;rw [e2] at hk;exact hk rfl
    · rwa [Q0i _ _ _ _ _ e] at hk
   refine⟨g,F,h.ext,h.store,⟨by simpa using h.frame.nl,fun k hk=>h.frame.lo k (hne k hk),fun k hk=>h.frame.apart k (hne k hk),fun k j hk hj=>h.frame.inj k j (hne k hk) (hne j hj),fun k hk=> ?_,h.frame.tlo,fun k b h1 h2=>⟨(h.frame.tapart k b h1 h2).1,fun j hj=>(h.frame.tapart k b h1 h2).2 j (hne j hj)⟩,h.frame.tinj⟩,h.defers,h.len,h.tmps⟩
   have hh:=h.frame.holds k (hne k hk)
   by_cases e:i=k
   · subst e
     rw [Q0n _ _ _ _ hc.2]
     intro j hj
     have hj':j<(s.L.getD i []).length:=by simpa using hj
     obtain⟨q1,c,q2,q3⟩:=hh j hj'
     refine⟨q1,c,q2,?_⟩
     rw [J0g _ _ _ _ .junk hj']
     exact .base _ _ (q3.forget2 (List.all_eq_true.1 hc.1 _ (Q0y _ _ _ hj')))
   · rw [Q0i _ _ _ _ _ e];exact hh
 · exact⟨g,F,h⟩
theorem y0u {P:Program} {E:Ent} {c:Code} {Q:Exit→PFS→Prop} {s:PFS} (i:Nat) (h:PWP P E c Q (s.plainBox i)):PWP P E c Q s:=J0v (Y1h i) h
@[go_sem] theorem Z3o {i:Nat} {pa:List PV} {L st:Q0g} {T:List (Nat×Nat)} :(PFS.mk pa L T st).plainBox i=if (L.getD i []).all PV.closed2=true∧i<L.length then⟨pa,L.set i ((L.getD i []).map PV.forget2),T,st⟩ else⟨pa,L,T,st⟩:=(rfl)
theorem PCalls.plain {P:Program} {f:FuncId} {args es:List PV} {st:Q0g} {sz:Nat} (h:PCalls P f args st (fun r st'=>r= .sl (.fresh sz) es∧st'=st)):PCalls P f args st (fun r st'=>r= .sl .no es∧st'=st):=
 fun w g vs hs hr=>(h w g vs hs hr).mono fun _ _ ⟨v,g',r,st',he,hx,ho,hv,q⟩=>by
  obtain⟨rfl,rfl⟩:=q
  exact⟨v,g',.sl .no es,_,he,hx,ho,hv.1,rfl,rfl⟩
end Go.Pv
end
section
/-The machine's arithmetic on natural numbers. No program in it. -/
namespace Go.Pv
theorem J2n (n:Nat):IntKind.u64.wrap (n:Int)=((n % 18446744073709551616:Nat):Int):=by
 simp [IntKind.wrap,IntKind.bits,IntKind.signed]
theorem J0y (n:Nat):IntKind.u32.wrap (n:Int)=((n % 4294967296:Nat):Int):=by
 simp [IntKind.wrap,IntKind.bits,IntKind.signed]
theorem Q0k (n:Nat) (h:n<9223372036854775808):IntKind.i64.wrap (n:Int)=(n:Int):=Q0p _ (by omega) (by omega)
theorem k0d (a b:Nat) (ha:a<18446744073709551616) (hb:b<18446744073709551616):bOr .u64 (a:Int) (b:Int)=((a|||b:Nat):Int):=by
 unfold bOr
 have e:(BitVec.ofInt IntKind.u64.bits (a:Int)|||BitVec.ofInt IntKind.u64.bits (b:Int)).toNat=a|||b:=by
  have e1:BitVec.ofInt IntKind.u64.bits (a:Int)=BitVec.ofNat 64 a:=by simp [IntKind.bits]
  have e2:BitVec.ofInt IntKind.u64.bits (b:Int)=BitVec.ofNat 64 b:=by simp [IntKind.bits]
  rw [e1,e2]
  show(BitVec.ofNat 64 a|||BitVec.ofNat 64 b).toNat=a|||b
  rw [BitVec.toNat_or,BitVec.toNat_ofNat,BitVec.toNat_ofNat,Nat.mod_eq_of_lt (by omega:a<2^64),Nat.mod_eq_of_lt (by omega:b<2^64)]
 rw [e]
 exact Z0c _ (Nat.or_lt_two_pow (n:=64) ha hb)
theorem W0g (a b:Nat) (ha:a<18446744073709551616) (hb:b<18446744073709551616):bAnd .u64 (a:Int) (b:Int)=((a&&&b:Nat):Int):=by
 unfold bAnd
 have e:(BitVec.ofInt IntKind.u64.bits (a:Int)&&&BitVec.ofInt IntKind.u64.bits (b:Int)).toNat=a&&&b:=by
  have e1:BitVec.ofInt IntKind.u64.bits (a:Int)=BitVec.ofNat 64 a:=by simp [IntKind.bits]
  have e2:BitVec.ofInt IntKind.u64.bits (b:Int)=BitVec.ofNat 64 b:=by simp [IntKind.bits]
  rw [e1,e2]
  show(BitVec.ofNat 64 a&&&BitVec.ofNat 64 b).toNat=a&&&b
  rw [BitVec.toNat_and,BitVec.toNat_ofNat,BitVec.toNat_ofNat,Nat.mod_eq_of_lt (by omega:a<2^64),Nat.mod_eq_of_lt (by omega:b<2^64)]
 rw [e]
 exact Z0c _ (Nat.lt_of_le_of_lt Nat.and_le_left ha)
theorem y1z (a b:Nat) (ha:a<18446744073709551616) (hb:b<18446744073709551616):bXor .u64 (a:Int) (b:Int)=((a^^^b:Nat):Int):=by
 unfold bXor
 have e:(BitVec.ofInt IntKind.u64.bits (a:Int)^^^BitVec.ofInt IntKind.u64.bits (b:Int)).toNat=a^^^b:=by
  have e1:BitVec.ofInt IntKind.u64.bits (a:Int)=BitVec.ofNat 64 a:=by simp [IntKind.bits]
  have e2:BitVec.ofInt IntKind.u64.bits (b:Int)=BitVec.ofNat 64 b:=by simp [IntKind.bits]
  rw [e1,e2]
  show(BitVec.ofNat 64 a^^^BitVec.ofNat 64 b).toNat=a^^^b
  rw [BitVec.toNat_xor,BitVec.toNat_ofNat,BitVec.toNat_ofNat,Nat.mod_eq_of_lt (by omega:a<2^64),Nat.mod_eq_of_lt (by omega:b<2^64)]
 rw [e]
 exact Z0c _ (Nat.xor_lt_two_pow (n:=64) ha hb)
theorem K3q (a b:Nat) (ha:a<4294967296) (hb:b<4294967296):bOr .u32 (a:Int) (b:Int)=((a|||b:Nat):Int):=by
 unfold bOr
 have e:(BitVec.ofInt IntKind.u32.bits (a:Int)|||BitVec.ofInt IntKind.u32.bits (b:Int)).toNat=a|||b:=by
  have e1:BitVec.ofInt IntKind.u32.bits (a:Int)=BitVec.ofNat 32 a:=by simp [IntKind.bits]
  have e2:BitVec.ofInt IntKind.u32.bits (b:Int)=BitVec.ofNat 32 b:=by simp [IntKind.bits]
  rw [e1,e2]
  show(BitVec.ofNat 32 a|||BitVec.ofNat 32 b).toNat=a|||b
  rw [BitVec.toNat_or,BitVec.toNat_ofNat,BitVec.toNat_ofNat,Nat.mod_eq_of_lt (by omega:a<2^32),Nat.mod_eq_of_lt (by omega:b<2^32)]
 rw [e,J0y,Nat.mod_eq_of_lt (Nat.or_lt_two_pow (n:=32) ha hb)]
theorem Q2c (a b:Nat) (ha:a<4294967296) (hb:b<4294967296):bAnd .u32 (a:Int) (b:Int)=((a&&&b:Nat):Int):=by
 unfold bAnd
 have e:(BitVec.ofInt IntKind.u32.bits (a:Int)&&&BitVec.ofInt IntKind.u32.bits (b:Int)).toNat=a&&&b:=by
  have e1:BitVec.ofInt IntKind.u32.bits (a:Int)=BitVec.ofNat 32 a:=by simp [IntKind.bits]
  have e2:BitVec.ofInt IntKind.u32.bits (b:Int)=BitVec.ofNat 32 b:=by simp [IntKind.bits]
  rw [e1,e2]
  show(BitVec.ofNat 32 a&&&BitVec.ofNat 32 b).toNat=a&&&b
  rw [BitVec.toNat_and,BitVec.toNat_ofNat,BitVec.toNat_ofNat,Nat.mod_eq_of_lt (by omega:a<2^32),Nat.mod_eq_of_lt (by omega:b<2^32)]
 rw [e,J0y,Nat.mod_eq_of_lt (Nat.lt_of_le_of_lt Nat.and_le_left ha)]
theorem Q2b (k:IntKind) (v c:Nat) (h:c≤k.bits):bShl k (v:Int) (c:Int)=k.wrap ((v*2^c:Nat):Int):=by
 unfold bShl
 rw [Int.toNat_natCast,Nat.min_eq_left h]
 congr 1
theorem W0f (v c:Nat) (h:c≤64):bShl .u64 (v:Int) (c:Int)=((v*2^c % 18446744073709551616:Nat):Int):=by
 rw [Q2b .u64 v c h,J2n]
theorem k2v (v c:Nat) (h:c≤32):bShl .u32 (v:Int) (c:Int)=((v*2^c % 4294967296:Nat):Int):=by
 rw [Q2b .u32 v c h,J0y]
theorem V0e (v c:Nat) (h:c≤64):bShr .u64 (v:Int) (c:Int)=((v/2^c:Nat):Int):=U0h .u64 v c h
theorem Q2a (v c:Nat) (h:c≤32):bShr .u32 (v:Int) (c:Int)=((v/2^c:Nat):Int):=U0h .u32 v c h
theorem y0w (x y c:Nat) (hx:x<2^c) (hy:y % 2^c=0):x|||y=x+y:=by
 have e:y=2^c*(y/2^c):=by have:=Nat.div_add_mod y (2^c);omega
 rw [Nat.or_comm,e,←Nat.two_pow_add_eq_or_of_lt hx,Nat.add_comm]
theorem X1x (w c:Nat) (h:c≤64):w*2^c % 18446744073709551616 % 2^c=0:=by
 have e:(18446744073709551616:Nat)=2^c*2^(64-c):=by rw [←Nat.pow_add,show c+(64-c)=64 from by omega]
 rw [e,Nat.mod_mul_right_mod,Nat.mul_mod_left]
theorem K2r (w c:Nat) (hw:w<18446744073709551616) (h:c≤64):w*2^c=w*2^c % 18446744073709551616+18446744073709551616*(w/2^(64-c)):=by
 have e:(18446744073709551616:Nat)=2^(64-c)*2^c:=by rw [←Nat.pow_add,show 64-c+c=64 from by omega]
 have d:w*2^c/18446744073709551616=w/2^(64-c):=by
  rw [e,Nat.mul_div_mul_right _ _ (Nat.pow_pos (by decide))]
 rw [←d]
 exact(Nat.mod_add_div _ _).symm
theorem Y3y (w c:Nat) (hw:w<18446744073709551616) (h:c≤64):w/2^(64-c)<2^c:=by
 rw [Nat.div_lt_iff_lt_mul (Nat.pow_pos (by decide)),←Nat.pow_add,show c+(64-c)=64 from by omega]
 exact hw
theorem Y1o (n m:Nat):(n:Int).tdiv (m:Int)=((n/m:Nat):Int):=(Int.ofNat_tdiv n m).symm
theorem z0u (n m:Nat):(n:Int).tmod (m:Int)=((n % m:Nat):Int):=(Int.ofNat_tmod n m).symm
theorem U1k (k:Nat):18446744073709551616^k=2^(64*k):=by rw [show(18446744073709551616:Nat)=2^64 from rfl,←Nat.pow_mul]
theorem q1o (k:Nat):4294967296^k=2^(32*k):=by rw [show(4294967296:Nat)=2^32 from rfl,←Nat.pow_mul]
theorem V0u (n:Nat) (h:n<18446744073709551616):(UInt64.ofNat n).toNat=n:=by rw [UInt64.toNat_ofNat'];omega
theorem K0l (n:Nat) (h:n<4294967296):(UInt32.ofNat n).toNat=n:=by rw [UInt32.toNat_ofNat'];omega
end Go.Pv
end
section
/-Dyadic numbers:order by value. No program in it. -/
namespace Go.Pv
theorem x1n {m n:Nat} (h:Q0j m<Q0j n):m<n:=by
 apply Nat.lt_of_not_le;intro hle
 have:Q0j n≤Q0j m:=bitlen_le_iff.2 (Nat.lt_of_le_of_lt hle (X0b m))
 omega
def U0g (l:List UInt64):Nat:=Q0j (valW l)
theorem G2p (l:List UInt64):U0g (cutW l)=U0g l:=by simp only [U0g,Q1j]
theorem x1c (l:List UInt64):cutW l= []↔valW l=0:=by rw [←X0h,wordsOf_nil]
theorem G2o (l:List UInt64) (h:cutW l≠ []):U0g l=64*((cutW l).length-1)+Q0j ((cutW l).getD ((cutW l).length-1) 0).toNat:=by
 have hl:=U2w l h
 rw [←G2p]
 generalize cutW l=c at*
 have hp:0<c.length:=List.length_pos_iff.2 h
 have e:valW c=valW (c.take (c.length-1))+18446744073709551616^(c.length-1)*(c.getD (c.length-1) 0).toNat:=by
  rw [←G0l c (c.length-1) (by omega),show c.length-1+1=c.length from by omega,List.take_length]
 have hb:=Y1l (c.take (c.length-1))
 rw [List.length_take,Nat.min_eq_left (by omega)] at hb
 rw [U0g,e]
 rw [U1k] at hb⊢
 exact Y1e _ _ _ hb (fun h0=>hl ((Q1k _).2 h0))
theorem v0z (l:List UInt64):U0g l≤64*l.length:=by
 rw [U0g,bitlen_le_iff,←U1k];exact Y1l l
def mant (x:Nm):Int:=if x.neg then -(valW x.w:Int) else(valW x.w:Int)
def cmpE (m:Int) (e:Int) (n:Int) (f:Int):Int:=cmpI (m*2^(e-min e f).toNat) (n*2^(f-min e f).toNat)
def cmpN (a b:Nm):Int:=cmpE (mant a) a.exp (mant b) b.exp
def sgn (m:Int):Int:=if m=0 then 0 else if m<0 then -1 else 1
theorem two_pow_pos (n:Nat):(0:Int)<2^n:=Int.pow_pos (by decide)
theorem w0d (m:Int) (n:Nat):sgn (m*2^n)=sgn m:=by
 have h:=two_pow_pos n
 unfold sgn
 by_cases h0:m=0
 · simp [h0]
 · have h1:m*2^n≠0:=Int.mul_ne_zero h0 (by omega)
   rw [if_neg h0,if_neg h1]
   by_cases hl:m<0
   · rw [if_pos hl,if_pos (Int.mul_neg_of_neg_of_pos hl h)]
   · rw [if_neg hl,if_neg]
     have:0<m*2^n:=Int.mul_pos (by omega) h
     omega
theorem k1x {m n:Int} (h:sgn m≠sgn n):cmpI m n=cmpI (sgn m) (sgn n):=by
 unfold sgn at*
 unfold cmpI
 repeat' split at h
 all_goals repeat' split
 all_goals first | omega | rfl | (exfalso;omega)
theorem k1y {m e n f:Int} (h:sgn m≠sgn n):cmpE m e n f=cmpI (sgn m) (sgn n):=by
 unfold cmpE
 rw [k1x (by rw [w0d,w0d];exact h),w0d,w0d]
theorem G2c {e f:Int} :cmpE 0 e 0 f=0:=by unfold cmpE;simp [y0d]
theorem k2e {m e n f:Int} :cmpE (-m) e (-n) f= -cmpE m e n f:=by
 unfold cmpE;rw [Int.neg_mul,Int.neg_mul,x1h]
theorem G2d {m e n f:Int} :cmpE n f m e= -cmpE m e n f:=by
 unfold cmpE;rw [Int.min_comm f e,x1g]
theorem G1h (m n:Nat) (e f:Int):cmpE m e n f=cmpW (m*2^(e-min e f).toNat) (n*2^(f-min e f).toNat):=by
 unfold cmpE cmpW
 rw [Int.natCast_mul,Int.natCast_mul,Int.natCast_pow,Int.natCast_pow];rfl
theorem G2e {m n:Nat} {e f:Int} (hm:m≠0) (hn:n≠0) (h:(Q0j m:Int)+e≠(Q0j n:Int)+f):cmpE m e n f=cmpI ((Q0j m:Int)+e) ((Q0j n:Int)+f):=by
 rw [G1h,cmpW]
 have h1:=Y0c m (e-min e f).toNat hm
 have h2:=Y0c n (f-min e f).toNat hn
 by_cases hl:(Q0j m:Int)+e<(Q0j n:Int)+f
 · rw [Y0w hl,Y0w]
   exact Int.ofNat_lt.2 (x1n (by rw [h1,h2];omega))
 · have hlt:n*2^(f-min e f).toNat<m*2^(e-min e f).toNat:=x1n (by rw [h1,h2];omega)
   have hlt':=Int.ofNat_lt.2 hlt
   rw [Y0x (a:=(Q0j m:Int)+e) (by omega),Y0x hlt']
theorem K3j {m n:Nat} {e f:Int} (h:f<e):cmpE m e n f=cmpW (m*2^(e-f).toNat) n:=by
 rw [G1h,Int.min_eq_right (by omega)];simp
theorem K3i {m n:Nat} {e f:Int} (h:e≤f):cmpE m e n f=cmpW m (n*2^(f-e).toNat):=by
 rw [G1h,Int.min_eq_left h];simp
def sm (x:Nm):Prop:=x.w.length≤1000000∧ -1000000000≤x.exp∧x.exp≤1000000000
theorem mant_zero {x:Nm} :mant x=0↔valW x.w=0:=by
 unfold mant;split<;>omega
def sgnN (x:Nm):Int:=if valW x.w=0 then 0 else if x.neg then -1 else 1
theorem w0e (x:Nm):sgnN x=sgn (mant x):=by
 unfold sgnN sgn mant
 by_cases h:valW x.w=0
 · rw [if_pos h];simp [h]
 · cases hn:x.neg
   · simp [h]
   · simp [h]
theorem K3g (a b:Nm):cmpN a b=if sgnN a≠sgnN b∨sgnN a=0 then cmpI (sgnN a) (sgnN b) else sgnN a*cmpE (valW a.w) a.exp (valW b.w) b.exp:=by
 by_cases h:sgnN a≠sgnN b
 · rw [if_pos (.inl h),cmpN,w0e,w0e]
   rw [w0e,w0e] at h
   exact k1y h
 · have h':sgnN a=sgnN b:=Decidable.not_not.1 h
   by_cases h0:sgnN a=0
   · rw [if_pos (.inr h0),h0,←h',h0]
     have z: ∀x,sgnN x=0→mant x=0:=fun x hx=>by
      unfold sgnN at hx
      by_cases hv:valW x.w=0
      · exact mant_zero.2 hv
      · rw [if_neg hv] at hx;split at hx<;>cases hx
     rw [cmpN,z a h0,z b (h'▸h0),G2c];rfl
   · rw [if_neg (by simp [h',h0];rw [←h'];exact h0)]
     unfold sgnN at h' h0
     unfold sgnN cmpN mant
     by_cases ha:valW a.w=0
     · rw [if_pos ha] at h0;exact absurd rfl h0
     · by_cases hb:valW b.w=0
       · rw [if_pos hb] at h';exact absurd h' h0
       · rw [if_neg ha,if_neg hb] at h'
         cases hna:a.neg<;>cases hnb:b.neg<;>simp [hna,hnb,ha,hb,k2e] at h'⊢
end Go.Pv
end
section
/-Digits of 32 bits:shifts,noughts at the end. No program in it. -/
namespace Go.Pv
theorem z0f {α:Type} (l:List α) (i:Nat) (d:α) (h:l.length≤i):l.getD i d=d:=by
 rw [List.getD_eq_getElem?_getD,List.getElem?_eq_none h];rfl
theorem J0n (l:List UInt32) (i:Nat):valD (l.take (i+1))=valD (l.take i)+4294967296^i*(l.getD i 0).toNat:=by
 by_cases h:i<l.length
 · exact W0y l i h
 · rw [List.take_of_length_le (by omega),List.take_of_length_le (by omega),z0f l i 0 (by omega)]
   show valD l=valD l+4294967296^i*0
   omega
theorem W0z (l:List UInt32) (i:Nat) (h:i≤l.length):valD l=valD (l.take i)+4294967296^i*valD (l.drop i):=by
 conv=>lhs;rw [←List.take_append_drop i l]
 rw [j0h,List.length_take,Nat.min_eq_left h]
theorem k0j (l:List UInt32) (i:Nat) (h:i<l.length):valD (l.drop i)=(l.getD i 0).toNat+4294967296*valD (l.drop (i+1)):=by
 rw [List.drop_eq_getElem_cons h]
 simp only [valD,nD,List.map_cons,val]
 rw [List.getD_eq_getElem?_getD,List.getElem?_eq_getElem h];rfl
theorem q0j (l:List UInt32) (i:Nat) (h:l.length≤i):valD (l.drop i)=0:=by
 rw [List.drop_of_length_le h];rfl
theorem V1b (l:List UInt32) (i:Nat):valD (l.drop i)=(l.getD i 0).toNat+4294967296*valD (l.drop (i+1)):=by
 by_cases h:i<l.length
 · exact k0j l i h
 · rw [q0j l i (by omega),q0j l (i+1) (by omega),z0f l i 0 (by omega)];rfl
theorem Q1b (l:List UInt32) (i:Nat) (h:i≤l.length):valD l/4294967296^i=valD (l.drop i):=by
 have hb:=w0b (l.take i)
 rw [List.length_take,Nat.min_eq_left h] at hb
 rw [W0z l i h,Nat.add_mul_div_left _ _ (Nat.pow_pos (by decide)),Nat.div_eq_of_lt hb,Nat.zero_add]
theorem Y2i (a o:List UInt32) (k s i:Nat) (hs:s<32) (hi:i<a.length) (ho:o.length=a.length+k+1)
 (hv:valD o=valD (a.take i)*2^(32*k+s)) (hc:(o.getD (i+k) 0).toNat<2^s) (hz: ∀j,i+k<j→o.getD j 0=0):
 let x:=(a.getD i 0).toNat*2^s
 let lo:=UInt32.ofNat ((o.getD (i+k) 0).toNat+x % 4294967296)
 let hi':=UInt32.ofNat (x/4294967296)
 x<18446744073709551616∧bOr .u32 ((o.getD (i+k) 0).toNat:Int) ((x % 4294967296:Nat):Int)=(lo.toNat:Int)∧x/4294967296=hi'.toNat∧
 valD ((o.set (i+k) lo).set (i+k+1) hi')=valD (a.take (i+1))*2^(32*k+s)∧hi'.toNat<2^s:=by
 intro x lo hi'
 have hw:(a.getD i 0).toNat<4294967296:=UInt32.toNat_lt _
 have h32:2^s≤2^32:=Nat.pow_le_pow_right (by decide) (by omega)
 have hx:x<4294967296*2^s:=Nat.mul_lt_mul_of_pos_right hw (Nat.pow_pos (by decide))
 have hx64:x<18446744073709551616:=Nat.lt_of_lt_of_le hx (by have:=Nat.mul_le_mul_left 4294967296 h32;omega)
 have hmod:x % 4294967296 % 2^s=0:=by
  have e:(4294967296:Nat)=2^s*2^(32-s):=by rw [←Nat.pow_add,show s+(32-s)=32 from by omega]
  show(a.getD i 0).toNat*2^s % 4294967296 % 2^s=0
  rw [e,Nat.mod_mul_right_mod,Nat.mul_mod_left]
 have hlt:=Nat.mod_lt x (show 4294967296>0 by decide)
 have hor:=y0w (o.getD (i+k) 0).toNat (x % 4294967296) s hc hmod
 have hsum:(o.getD (i+k) 0).toNat+x % 4294967296<4294967296:=by
  rw [←hor];exact Nat.or_lt_two_pow (n:=32) (UInt32.toNat_lt _) hlt
 have elo:lo.toNat=(o.getD (i+k) 0).toNat+x % 4294967296:=K0l _ hsum
 have hdiv:x/4294967296<2^s:=(Nat.div_lt_iff_lt_mul (by decide)).2 (by omega)
 have ehi:hi'.toNat=x/4294967296:=K0l _ (by omega)
 refine⟨hx64,?_,ehi.symm,?_,by rw [ehi];exact hdiv⟩
 · rw [K3q _ _ (UInt32.toNat_lt _) hlt,hor,elo]
 · have e1:=v1m o (i+k) lo (by omega)
   have e2:=v1m (o.set (i+k) lo) (i+k+1) hi' (by simp;omega)
   rw [G0i,if_neg (by omega),hz (i+k+1) (by omega)] at e2
   rw [W0y a i hi,Nat.add_mul,←hv]
   have e3:4294967296^i*(a.getD i 0).toNat*2^(32*k+s)=4294967296^(i+k)*x:=by
    rw [Nat.pow_add 4294967296 i k,q1o k,Nat.pow_add];simp only [x,Nat.mul_assoc,Nat.mul_left_comm,Nat.mul_comm]
   rw [e3,←Nat.mod_add_div x 4294967296,Nat.mul_add,←Nat.mul_assoc,show 4294967296^(i+k)*4294967296=4294967296^(i+k+1) from(Nat.pow_succ ..).symm]
   rw [elo,Nat.mul_add] at e1
   rw [ehi] at e2
   have z0:(0:UInt32).toNat=0:=rfl
   rw [z0,Nat.mul_zero] at e2
   omega
theorem X2w (a b r s:Nat) (hs:s<32):(a+4294967296*(b+4294967296*r))/2^s % 4294967296=(a+4294967296*b)/2^s % 4294967296:=by
 have e:4294967296*(b+4294967296*r)=4294967296*b+2^s*(4294967296*(2^(32-s)*r)):=by
  have:(4294967296:Nat)=2^s*2^(32-s):=by rw [←Nat.pow_add,show s+(32-s)=32 from by omega]
  have e2:2^s*(4294967296*(2^(32-s)*r))=4294967296*(2^s*2^(32-s)*r):=by
   simp only [Nat.mul_assoc,Nat.mul_left_comm]
  rw [e2,←this,Nat.mul_add]
 rw [e,←Nat.add_assoc,Nat.add_mul_div_left _ _ (Nat.pow_pos (by decide)),Nat.add_mul_mod_self_left]
theorem U1o (x B j:Nat):x % B^(j+1)=x % B^j+B^j*(x/B^j % B):=by
 rw [Nat.pow_succ,Nat.mod_mul]
def tz (m:Nat):Nat:=if h:m=0∨m % 2=1 then 0 else tz (m/2)+1
termination_by m
decreasing_by omega
theorem J2v :tz 0=0:=by rw [tz];simp
theorem J2w {m:Nat} (h:m % 2=1):tz m=0:=by rw [tz,dif_pos (.inr h)]
theorem J2x {m:Nat} (h0:m≠0) (h:m % 2=0):tz m=tz (m/2)+1:=by rw [tz,dif_neg (by omega)]
theorem v1n (z q:Nat) (hq:q % 2=1):tz (2^z*q)=z:=by
 induction z with
 | zero=>simp [J2w hq]
 | succ z ih=>
  have hp:0<2^z:=Nat.pow_pos (by decide)
  have e:2^(z+1)*q=2*(2^z*q):=by rw [Nat.pow_succ];simp only [Nat.mul_assoc,Nat.mul_left_comm,Nat.mul_comm]
  have h0:2^z*q≠0:=Nat.mul_ne_zero (by omega) (by omega)
  rw [e,J2x (by omega) (by omega),Nat.mul_div_cancel_left _ (by decide),ih]
theorem Y1n (m:Nat) (h:m≠0): ∃q,q % 2=1∧m=2^tz m*q:=by
 induction m using Nat.strongRecOn with
 | _ m ih=>
  by_cases ho:m % 2=1
  · exact⟨m,ho,by rw [J2w ho];simp⟩
  · obtain⟨q,h1,h2⟩:=ih (m/2) (by omega) (by omega)
    refine⟨q,h1,?_⟩
    rw [J2x h (by omega),Nat.pow_succ]
    have:m=2*(m/2):=by omega
    conv=>lhs;rw [this,h2]
    simp only [Nat.mul_assoc,Nat.mul_left_comm,Nat.mul_comm]
theorem G0v (m:Nat) (h:m≠0):m/2^tz m % 2=1:=by
 obtain⟨q,h1,h2⟩:=Y1n m h
 have:m/2^tz m=q:=by
  conv=>lhs;lhs;rw [h2]
  exact Nat.mul_div_cancel_left _ (Nat.pow_pos (by decide))
 rw [this,h1]
theorem v2m (m:Nat):m % 2^tz m=0:=by
 by_cases h:m=0
 · subst h;simp
 · obtain⟨q,_,h2⟩:=Y1n m h
   conv=>lhs;lhs;rw [h2]
   exact Nat.mul_mod_right _ _
theorem V1c (m:Nat):m/2^tz m*2^tz m=m:=Nat.div_mul_cancel (Nat.dvd_of_mod_eq_zero (v2m m))
theorem y0m (m:Nat) (h:m≠0):tz m<Q0j m:=by
 apply Nat.lt_of_not_le;intro hle
 have h1:m<2^tz m:=bitlen_le_iff.1 hle
 have:=v2m m
 rw [Nat.mod_eq_of_lt h1] at this
 exact h this
end Go.Pv
end
section
/-The document's values:sums,order. No program in it. -/
namespace Go.Pv
structure Vl where
 neg:Bool
 m:Nat
 e:Int
 deriving DecidableEq
instance : Inhabited Vl:=⟨⟨false,0,0⟩⟩
def encV (v:Vl):List PV:= [.sc (.bool v.neg),.sl .no (encD (Q0d v.m)),.sc (.int .i64 v.e)]
attribute [go_sem] encV
theorem X0m (m:Nat):(Q0d m).length≤(Q0j m+31)/32:=by
 apply v0t
 rw [q1o]
 exact Nat.lt_of_lt_of_le (X0b m) (Nat.pow_le_pow_right (by decide) (by omega))
theorem Q1z (m:Nat):(Z0z m).length≤(Q0j m+63)/64:=by
 apply W0o
 rw [U1k]
 exact Nat.lt_of_lt_of_le (X0b m) (Nat.pow_le_pow_right (by decide) (by omega))
theorem X0y (m k:Nat):Q0j (m*2^k)≤Q0j m+k:=by
 by_cases h:m=0
 · subst h;simp [K0t]
 · rw [Y0c m k h];exact Nat.le_refl _
theorem W0e (m n:Nat):Q0j (m+n)≤max (Q0j m) (Q0j n)+1:=by
 rw [bitlen_le_iff,Nat.pow_succ]
 have h1:m<2^max (Q0j m) (Q0j n):=Nat.lt_of_lt_of_le (X0b m) (Nat.pow_le_pow_right (by decide) (by omega))
 have h2:n<2^max (Q0j m) (Q0j n):=Nat.lt_of_lt_of_le (X0b n) (Nat.pow_le_pow_right (by decide) (by omega))
 omega
theorem J0w {m n:Nat} (h:m≤n):Q0j m≤Q0j n:=bitlen_le_iff.2 (Nat.lt_of_le_of_lt h (X0b n))
theorem q0k (m:Nat):tz m≤Q0j m:=by
 by_cases h:m=0
 · subst h;rw [J2v];exact Nat.zero_le _
 · exact Nat.le_of_lt (y0m m h)
def Z0x (v:Vl):Int:=if v.neg then -(v.m:Int) else(v.m:Int)
def oddV (neg:Bool) (m:Nat) (e:Int):Vl:=if m=0 then⟨false,0,0⟩ else⟨neg,m/2^tz m,e+tz m⟩
def mkV (s:Int) (e:Int):Vl:=oddV (decide (s<0)) s.natAbs e
def V0f (v:Vl):Vl:=if v.m=0 then v else { v with neg:= !v.neg }
def J0p (a b:Vl):Vl:=if a.m=0 then b else if b.m=0 then a else
 mkV (Z0x a*2^(a.e-min a.e b.e).toNat+Z0x b*2^(b.e-min a.e b.e).toNat) (min a.e b.e)
def W0j (v:Vl):Int:=if v.m=0 then 0 else if v.neg then -1 else 1
def U0r (a b:Vl):Vl:=J0p a (V0f b)
def V0p (a b:Vl):Int:=W0j (U0r a b)
theorem x0b (v:Vl):W0j v=sgn (Z0x v):=by
 unfold W0j sgn Z0x
 by_cases h:v.m=0
 · rw [if_pos h];simp [h]
 · cases hn:v.neg
   · simp [h]
   · simp [h]
theorem K2p (s e:Int):W0j (mkV s e)=sgn s:=by
 unfold mkV oddV W0j sgn
 by_cases h:s=0
 · subst h;simp
 · have h1:s.natAbs≠0:=by omega
   rw [if_neg h1]
   have h2:s.natAbs/2^tz s.natAbs≠0:=by
    have:=G0v s.natAbs h1;omega
   simp only
   rw [if_neg h2,if_neg h]
   by_cases hl:s<0
   · simp [hl]
   · simp [hl]
theorem w0z (v:Vl):Z0x (V0f v)= -Z0x v:=by
 unfold V0f
 by_cases h:v.m=0
 · rw [if_pos h];simp [Z0x,h]
 · rw [if_neg h]
   unfold Z0x
   cases v.neg<;>simp
theorem Z1g (v:Vl):(V0f v).m=v.m:=by unfold V0f;split<;>rfl
theorem Z1h (v:Vl):(V0f v).e=v.e:=by unfold V0f;split<;>rfl
theorem w0y {v:Vl} (h:v.m=0):Z0x v=0:=by unfold Z0x;simp [h]
theorem k2c (a b:Int):cmpI a b=sgn (a-b):=by
 unfold cmpI sgn
 by_cases h1:a<b
 · rw [if_pos h1,if_neg (by omega),if_pos (by omega)]
 · by_cases h2:a>b
   · rw [if_neg h1,if_pos h2,if_neg (by omega),if_neg (by omega)]
   · rw [if_neg h1,if_neg h2,if_pos (by omega)]
theorem W2i (a b:Vl):V0p a b=cmpE (Z0x a) a.e (Z0x b) b.e:=by
 unfold V0p U0r J0p cmpE
 rw [k2c,Z1g,Z1h]
 by_cases ha:a.m=0
 · rw [if_pos ha,x0b,w0z,w0y ha,Int.zero_mul,Int.zero_sub,←Int.neg_mul,w0d]
 · rw [if_neg ha]
   by_cases hb:b.m=0
   · rw [if_pos hb,x0b,w0y hb,Int.zero_mul,Int.sub_zero,w0d]
   · rw [if_neg hb,K2p,w0z,Int.neg_mul];rfl
def ofN (x:Nm):Vl:=⟨x.neg,valW x.w,x.exp⟩
theorem w0w (a b:Nm):V0p (ofN a) (ofN b)=cmpN a b:=by rw [W2i];rfl
end Go.Pv
end
section
/-Intervals,boxes:what the functions on them answer. No program in it. -/
namespace Go.Pv
def Q0f (x:Nm):Bool:=if x.w= [] then !x.neg&&x.exp==0 else decide ((cutW x.w).length=x.w.length)&&decide (x.w.length≤64)&&decide ((x.w.getD 0 0).toNat % 2=1)&&decide (-65536≤x.exp)&&decide (x.exp≤65536)
def cmpR (a b:Nm):Int:=if Q0f a=true∧Q0f b=true then cmpN a b else 0
def ownN (x:Nm):Nm:=if Q0f x=true then x else⟨false,0,[]⟩
theorem J0o {x:Nm} (h:Q0f x=true):sm x:=by
 unfold Q0f at h
 split at h
 · rename_i hw
   simp at h
   simp [sm,hw,h]
 · simp at h
   obtain⟨⟨⟨⟨_,h1⟩,_⟩,h2⟩,h3⟩:=h
   exact⟨by omega,by omega,by omega⟩
theorem w0j {x:Nm} (h:Q0f x=true):cutW x.w=x.w:=by
 unfold Q0f at h
 split at h
 · rename_i hw;rw [hw];rfl
 · simp at h
   have e:=h.1.1.1.1
   have h2:x.w.getD (x.w.length-1) 0≠0:=(J1r x.w (by assumption)).1 e
   rw [k1v x.w x.w.length (Nat.le_refl _) (fun j h1 h2=>by omega) (.inr h2)]
   simp
def wN (x:Nm):Prop:=x.w.length≤100000000000
def wI (x:Ivl):Prop:=wN x.lo∧wN x.hi
def Q0l (x:Ivl):Bool:=Q0f x.lo&&Q0f x.hi&&decide (cmpN x.lo x.hi≤0)
def X0e (a b:Nm):Nm:=if cmpN b a<0 then b else a
def X0d (a b:Nm):Nm:=if cmpN b a>0 then b else a
def K1q (a b:Ivl):Ivl×Int:=if Q0l a=true∧Q0l b=true then(⟨X0e a.lo b.lo,X0d a.hi b.hi⟩,0) else(default,1)
def inI (a b:Ivl):Bool:=Q0l a&&Q0l b&&decide (0≤cmpN a.lo b.lo)&&decide (0≤cmpN b.hi a.hi)
def rightB (l:List Ivl):Bool:=l.all Q0l&&decide (1≤l.length)&&decide (l.length≤4)
def W0k {α β:Type} (F:Nat→α→β×Int):Nat→List α→List β→List β×Int
 | _,[],acc=>(acc,0)
 | i,x::l,acc=>if (F i x).2≠0 then([],(F i x).2) else W0k F (i+1) l (acc++ [(F i x).1])
theorem Q0x {x:Ivl} (h:Q0l x=true):Q0f x.lo=true∧Q0f x.hi=true∧cmpN x.lo x.hi≤0:=by
 unfold Q0l at h
 simp at h
 exact⟨h.1.1,h.1.2,h.2⟩
theorem Y3x {x:Nm} (h:sm x):wN x:=by have:=h.1;unfold wN;omega
theorem Y2k {P:Nm→Prop} {a b:Nm} (ha:P a) (hb:P b):P (X0e a b):=by unfold X0e;split<;>assumption
theorem U2a {P:Nm→Prop} {a b:Nm} (ha:P a) (hb:P b):P (X0d a b):=by unfold X0d;split<;>assumption
def q0h (a b:List Ivl):List Ivl×Int:=if rightB a=true∧rightB b=true∧a.length=b.length then W0k (fun i x=>K1q x (b.getD i default)) 0 a [] else([],1)
def allF {α:Type} [Inhabited α] (f:α→α→Bool) (a b:List α):Bool:=decide (a.length=b.length)&&(List.range a.length).all fun i=>f (a.getD i default) (b.getD i default)
def inB (a b:List Ivl):Bool:=rightB a&&rightB b&&allF inI a b
end Go.Pv
end
section
/-Pieces,tubes,what is merged. No program in it. -/
namespace Go.Pv
theorem K3k {m e n f k:Int} (h1:k≤e) (h2:k≤f):cmpE m e n f=cmpI (m*2^(e-k).toNat) (n*2^(f-k).toNat):=by
 unfold cmpE
 have e1:(e-k).toNat=(e-min e f).toNat+(min e f-k).toNat:=by omega
 have e2:(f-k).toNat=(f-min e f).toNat+(min e f-k).toNat:=by omega
 rw [e1,e2,Int.pow_add,Int.pow_add,←Int.mul_assoc,←Int.mul_assoc,k2d (two_pow_pos _)]
theorem cmpI_le {a b:Int} :cmpI a b≤0↔a≤b:=by
 constructor
 · intro h;apply Int.not_lt.1;intro hl;have:=Y0x hl;omega
 · intro h
   rcases Int.lt_or_eq_of_le h with h | h
   · rw [Y0w h];decide
   · rw [y0d h];decide
def atK (x:Nm) (k:Int):Int:=mant x*2^(x.exp-k).toNat
theorem K3h {a b:Nm} {k:Int} (h1:k≤a.exp) (h2:k≤b.exp):cmpN a b=cmpI (atK a k) (atK b k):=K3k h1 h2
theorem v0u (a b:Nm):cmpN b a= -cmpN a b:=G2d
theorem z0j (a:Nm):cmpN a a=0:=by unfold cmpN cmpE;exact y0d rfl
theorem Y1b {a b c:Nm} (h1:cmpN a b≤0) (h2:cmpN b c≤0):cmpN a c≤0:=by
 let k:=min a.exp (min b.exp c.exp)
 rw [K3h (k:=k) (by omega) (by omega),cmpI_le] at h1 h2⊢
 omega
theorem W1h (a b:Nm):cmpN (X0e a b) a≤0:=by
 unfold X0e;split
 · omega
 · rw [z0j];decide
theorem X2f (a b:Nm):cmpN (X0e a b) b≤0:=by
 unfold X0e;split
 · rw [z0j];decide
 · have:=v0u b a;omega
theorem W1n (a b:Nm):cmpN a (X0d a b)≤0:=by
 unfold X0d;split
 · have:=v0u b a;omega
 · rw [z0j];decide
theorem X2l (a b:Nm):cmpN b (X0d a b)≤0:=by
 unfold X0d;split
 · rw [z0j];decide
 · omega
theorem Y0g {x:Ivl} (h1:Q0f x.lo=true) (h2:Q0f x.hi=true) (h3:cmpN x.lo x.hi≤0):Q0l x=true:=by
 unfold Q0l;rw [h1,h2,decide_eq_true h3];rfl
theorem Q1r {a b:Ivl} (ha:Q0l a=true) (hb:Q0l b=true):K1q a b=(⟨X0e a.lo b.lo,X0d a.hi b.hi⟩,0):=if_pos ⟨ha,hb⟩
theorem k1h {a b:Ivl} (ha:Q0l a=true) (hb:Q0l b=true):Q0l (K1q a b).1=true:=by
 obtain⟨a1,a2,a3⟩:=Q0x ha
 obtain⟨b1,b2,b3⟩:=Q0x hb
 rw [Q1r ha hb]
 exact Y0g (Y2k (P:=fun x=>Q0f x=true) a1 b1) (U2a (P:=fun x=>Q0f x=true) a2 b2) (Y1b (W1h _ _) (Y1b a3 (W1n _ _)))
theorem Q1u {α β:Type} [Inhabited α] (F:Nat→α→β×Int): ∀(l:List α) (i:Nat) (acc:List β),(∀j,j<l.length→(F (i+j) (l.getD j default)).2=0)→
 W0k F i l acc=(acc++(List.range l.length).map (fun j=>(F (i+j) (l.getD j default)).1),0)
 | [],i,acc,_=>by simp [W0k]
 | x::l,i,acc,h=>by
  have h0:=h 0 (by simp)
  simp only [Nat.add_zero,List.getD_cons_zero] at h0
  rw [W0k,if_neg (fun e=>e h0),Q1u F l (i+1) _ (fun j hj=>by have:=h (j+1) (by simp;omega);rw [List.getD_cons_succ,←Nat.add_assoc,Nat.add_right_comm] at this;exact this)]
  rw [List.length_cons,List.range_succ_eq_map,List.map_cons,List.map_map,List.append_assoc]
  simp only [Nat.add_zero,List.getD_cons_zero,List.singleton_append,Prod.mk.injEq,and_true]
  congr 2
  apply List.map_congr_left
  intro j _
  simp only [Function.comp,List.getD_cons_succ]
  rw [show i+1+j=i+j.succ from by omega]
theorem V0m {l:List Ivl} (h:rightB l=true): ∀i,i<l.length→Q0l (l.getD i default)=true:=by
 unfold rightB at h
 simp only [Bool.and_eq_true,List.all_eq_true] at h
 intro i hi
 refine h.1.1 _ ?_
 rw [List.getD_eq_getElem?_getD,List.getElem?_eq_getElem hi]
 exact List.getElem_mem hi
theorem K0a {l:List Ivl} (h: ∀i,i<l.length→Q0l (l.getD i default)=true) (h1:1≤l.length) (h2:l.length≤4):rightB l=true:=by
 unfold rightB
 rw [decide_eq_true h1,decide_eq_true h2,List.all_eq_true.2];rfl
 intro x hx
 obtain⟨i,hi,rfl⟩:=List.mem_iff_getElem.1 hx
 have:=h i hi
 rwa [List.getD_eq_getElem?_getD,List.getElem?_eq_getElem hi] at this
theorem W0r {l:List Ivl} (h:rightB l=true):1≤l.length∧l.length≤4:=by
 unfold rightB at h;simp at h;omega
theorem j2e {a b:List Ivl} (ha:rightB a=true) (hb:rightB b=true) (hl:a.length=b.length):
 q0h a b=((List.range a.length).map (fun j=>(K1q (a.getD j default) (b.getD j default)).1),0):=by
 rw [q0h,if_pos ⟨ha,hb,hl⟩,Q1u _ a 0 [] (fun j hj=>by rw [Nat.zero_add,Q1r (V0m ha j hj) (V0m hb j (by omega))])]
 simp
def wB (l:List Ivl):Prop:=l.length≤100000000000∧ ∀i,i<l.length→wI (l.getD i default)
def wS (s:Sg):Prop:=wN s.t0∧wN s.t1∧wB s.box
def wSs (l:List Sg):Prop:=l.length≤100000000000∧ ∀i,i<l.length→wS (l.getD i default)
def K0y (s:Sg):Bool:=decide (1≤s.fr)&&decide (s.fr≤s.to)&&decide (s.to≤4096)&&Q0f s.t0&&Q0f s.t1&& !s.t0.neg&&decide (cmpR s.t0 s.t1<0)&&rightB s.box
def K3p (a b:Sg):Bool:=decide (b.fr=IntKind.i64.wrap (a.to+1))&&decide (cmpR a.t1 b.t0=0)&&decide (a.box.length=b.box.length)
def U3e (l:List Sg) (i:Nat):Bool:=K0y (l.getD i default)&&(decide (i=0)||K3p (l.getD (i-1) default) (l.getD i default))
def rowF (l:List Sg):Bool:=(List.range l.length).all (U3e l)
def H3b (l:List Sg):Bool:=decide (l.length=0)||(decide ((l.getD 0 default).fr=1)&&decide ((l.getD 0 default).t0.w.length=0))
def y3b (l:List Sg):Bool:=rowF l&&H3b l
theorem y0p {s:Sg} (h:K0y s=true):1≤s.fr∧s.fr≤s.to∧s.to≤4096∧Q0f s.t0=true∧Q0f s.t1=true∧s.t0.neg=false∧cmpR s.t0 s.t1<0∧rightB s.box=true:=by
 unfold K0y at h
 simp only [Bool.and_eq_true,decide_eq_true_eq,Bool.not_eq_true'] at h
 obtain⟨⟨⟨⟨⟨⟨⟨h1,h2⟩,h3⟩,h4⟩,h5⟩,h6⟩,h7⟩,h8⟩:=h
 exact⟨h1,h2,h3,h4,h5,h6,h7,h8⟩
theorem V0s {x:Nm} (h:Q0f x=true):valW x.w=0↔x.w= []:=by
 constructor
 · intro hv
   rw [←w0j h,←X0h,hv,q0i]
 · intro hw;rw [hw];rfl
theorem w0c {x:Nm} (h:Q0f x=true):(0≤sgnN (ownN x))↔x.neg=false:=by
 rw [ownN,if_pos h]
 unfold sgnN
 by_cases hv:valW x.w=0
 · rw [if_pos hv]
   have hw:=(V0s h).1 hv
   unfold Q0f at h
   rw [if_pos hw] at h
   simp at h
   simp [h.1]
 · rw [if_neg hv]
   cases x.neg<;>simp
theorem q2d {x:Nm} (h:Q0f x=true):sgnN (ownN x)=0↔x.w.length=0:=by
 rw [ownN,if_pos h,List.length_eq_zero_iff,←V0s h]
 unfold sgnN
 by_cases hv:valW x.w=0
 · rw [if_pos hv];simp [hv]
 · rw [if_neg hv]
   cases x.neg<;>simp [hv]
def y3c (s x:Sg):Sg:=⟨s.fr,x.to,s.t0,x.t1,(q0h s.box x.box).1⟩
def j2n (s:Sg) (l:List Sg):Sg:=l.foldl y3c s
def V4z (l:List Sg):Sg×Int:=if l.length≠0∧rowF l=true then(j2n (l.getD 0 default) (l.drop 1),0) else(default,1)
def grp (l:List Sg) (size upto:Int):Nat:=
 let to:=IntKind.i64.wrap (IntKind.i64.wrap ((l.getD 0 default).fr+size)-1)
 if (IntKind.i64.wrap ((l.getD 0 default).fr-1)).tmod size≠0∨to>upto then 1 else
  let n:=(l.takeWhile fun s=>decide (s.to<to)).length
  if n=l.length∨(l.getD n default).to≠to then 1 else n+1
theorem X3x (l:List Sg) (size upto:Int):1≤grp l size upto:=by
 unfold grp
 simp only
 split
 · exact Nat.le_refl _
 · split
   · exact Nat.le_refl _
   · omega
def Y2x (size upto:Int) (l:List Sg):List Sg:=
 if h:l.length=0 then [] else j2n (l.getD 0 default) ((l.take (grp l size upto)).drop 1)::Y2x size upto (l.drop (grp l size upto))
termination_by l.length
decreasing_by
 have:=X3x l size upto
 simp;omega
def Q4n (l:List Sg) (size upto:Int):List Sg×Int:=if y3b l=true∧2≤size∧size≤64 then(Y2x size upto l,0) else([],1)
end Go.Pv
end
section
/-Pieces that are merged:parts of rows,folds,groups. No program in it. -/
namespace Go.Pv
theorem X2m {α:Type} (l:List α) (n i:Nat) (d:α) (h:i<n):(l.take n).getD i d=l.getD i d:=by
 simp [List.getD_eq_getElem?_getD,List.getElem?_take,h]
def grp0 (l:List Sg) (size upto:Int):Nat:=
 let to:=IntKind.i64.wrap (IntKind.i64.wrap ((l.getD 0 default).fr+size)-1)
 if (IntKind.i64.wrap ((l.getD 0 default).fr-1)).tmod size≠0∨to>upto then 0 else
  let n:=(l.takeWhile fun s=>decide (s.to<to)).length
  if n=l.length∨(l.getD n default).to≠to then 0 else n+1
end Go.Pv
end
