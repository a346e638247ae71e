/- Parts of the walk: PvAj, PvAk. -/
import Derived.Test.YtofoadghajnglaaGreatDoorQAA
import Derived.Test.YtofoadghajnglaaGreatDoorQC
import Derived.Test.YtofoadghajnglaaGreatDoorQE
set_option linter.unusedVariables false
set_option linter.unusedSimpArgs false
section
/-What is appended to an empty slice may be written:a box of the frame's own. Boxes of larger elements that are written no more. -/
namespace Go.Pv
def flat (ys:List PV):List PV:=(ys.map PV.cells).flatten
theorem v0s (y:PV) (ys:List PV):flat (y::ys)=y.cells++flat ys:=by simp [flat]
theorem X0r {sz:Nat} : ∀ {ys:List PV},(∀i,i<ys.length→(ys.getD i .junk).cells.length=sz)→(flat ys).length=ys.length*sz
 | [],_=>by simp [flat]
 | y::ys,h=>by
  have h0:y.cells.length=sz:=h 0 (by simp)
  rw [v0s,List.length_append,h0,X0r (ys:=ys) (fun i hi=>h (i+1) (by simpa using hi)),List.length_cons,Nat.add_mul]
  omega
theorem U0j {sz:Nat} : ∀ {ys:List PV},(∀i,i<ys.length→(ys.getD i .junk).cells.length=sz)→ ∀m,m<ys.length*sz→(flat ys).getD m .junk=(ys.getD (m/sz) .junk).cells.getD (m % sz) .junk
 | [],_,m,hm=>by simp at hm
 | y::ys,h,m,hm=>by
  have h0:y.cells.length=sz:=h 0 (by simp)
  have hp:0<sz:=by
   refine Nat.pos_of_ne_zero fun e=> ?_
   rw [e] at hm;simp at hm
  rw [v0s]
  by_cases hlt:m<sz
  · rw [Q0f _ _ _ _ (by omega),Nat.div_eq_of_lt hlt,Nat.mod_eq_of_lt hlt];rfl
  · have hm':m-sz<ys.length*sz:=by rw [List.length_cons,Nat.add_mul] at hm;omega
    rw [Q0h _ _ _ _ (by omega),h0,U0j (ys:=ys) (fun i hi=>h (i+1) (by simpa using hi)) _ hm']
    have e1:m/sz=(m-sz)/sz+1:=Nat.div_eq_sub_div hp (by omega)
    rw [e1,←Nat.mod_eq_sub_mod (by omega)]
    rfl
theorem V2z {w:World} {g:Gh} {F:Fr} {T:List (Nat×Nat)} {v:Value} (h:RepF w g F T v (.sl .full [])): ∃ad,v= .slice ad 0 0:=by
 have h':Rep w g v (.sl .full []):=by cases h with | base _ _ h=>exact h
 have key: ∀es:List PV,es= []→Rep w g v (.sl .full es)→ ∃ad,v= .slice ad 0 0:=fun es he h=>by
  cases h with
  | nil t ad ht=>exact⟨ad,rfl⟩
  | sl t es b off sz cap cf ht hf hcap hsz hvis hc hr=>
   have:=hf rfl
   subst he
   exact⟨_,by rw [this];rfl⟩
 exact key [] rfl h'
def X3u (T U:Option TI) (x y:PV) (s:PFS) (K:PV→PFS→Prop):Prop:=
 match T,U,x,y with
 | some ⟨_,_,.slice e,_⟩,some ⟨_,_,.slice _,_⟩,.sl .full [],.sl _ ys=>(X1i [] ys e∧0<ys.length)∧K (.ms false s.L.length 0 ys.length) { s with L:=s.L++ [flat ys] }
 | _,_,_,_=>False
def POm0 (P:Program) (o:Oper) (K:PFS→Prop) (s:PFS):Prop:=
 match o.op with
 | .call { callee:= .builtin .append,args,argTypes } =>
  match argTypes.toList,args.toList with
  | [t,u],[x,y]=>X3u (ti P t) (ti P u) (s.ev x) (s.ev y) s (fun p s'=>K (s'.put o.dst p))
  | _,_=>False
 | _=>False
def OLm0 (P:Program) (ops:List Oper):List Bool→List Oper→(PFS→Prop)→PFS→Prop
 | _,[],K,s=>K s
 | [],rest,K,s=>OL0 P ops rest K s
 | true::bs,o::rest,K,s=>o.guard=none∧POm0 P o (OLm0 P ops bs rest K) s
 | false::bs,o::rest,K,s=>
  match o.guard with
  | none=>OC0 P o (OLm0 P ops bs rest K) s
  | some (j,want)=>GK0 (Z0c ops s j want) want (OC0 P o (OLm0 P ops bs rest K) s) (OLm0 P ops bs rest K (s.put o.dst (.tup [])))
def OLm (P:Program) (ops:List Oper) (bs:List Bool) (rest:List Oper) (K:PFS→Prop) [Stop ops] [Stop rest] [Stop K] (s:PFS):Prop:=OLm0 P ops bs rest K s
def POm (P:Program) (o:Oper) (K:PFS→Prop) [Stop o] [Stop K] (s:PFS):Prop:=POm0 P o K s
section
variable {P:Program} {s:PFS} {K:PFS→Prop} {d:Option Tmp} {ty:TypeId} {pos:String} {af:Array Edge}
@[go_sem] theorem x3h {ops:List Oper} {bs:List Bool} :OLm P ops bs [] K s=K s:=by cases bs<;>rfl
@[go_sem] theorem x3i {ops rest:List Oper} :OLm P ops [] rest K s=OL P ops rest K s:=by cases rest<;>rfl
@[go_sem] theorem k3m {ops rest:List Oper} {bs:List Bool} {op:Op} :OLm P ops (true::bs) (⟨d,op,ty,pos,af,none⟩::rest) K s=POm P ⟨d,op,ty,pos,af,none⟩ (OLm P ops bs rest K) s:=by
 show((none:Option (Nat×Bool))=none∧_)=_
 simp only [true_and];rfl
@[go_sem] theorem k3n {ops rest:List Oper} {bs:List Bool} {op:Op} :OLm P ops (false::bs) (⟨d,op,ty,pos,af,none⟩::rest) K s=OC P ⟨d,op,ty,pos,af,none⟩ (OLm P ops bs rest K) s:=(rfl)
@[go_sem] theorem j3r {ops rest:List Oper} {bs:List Bool} {op:Op} {j:Nat} {want:Bool} :OLm P ops (false::bs) (⟨d,op,ty,pos,af,some (j,want)⟩::rest) K s=
 GK (Z0c ops s j want) want (OC P ⟨d,op,ty,pos,af,some (j,want)⟩ (OLm P ops bs rest K) s) (OLm P ops bs rest K (s.put d (.tup []))):=rfl
def G2u (T U:Option TI) (x y:PV) (s:PFS) (K:PV→PFS→Prop) [Stop K]:Prop:=X3u T U x y s K
@[go_sem] theorem z3w {x y:Operand} {t u:TypeId} :POm P ⟨d,.call ⟨.builtin .append,[x,y].toArray,[t,u].toArray⟩,ty,pos,af,none⟩ K s=G2u (ti P t) (ti P u) (s.ev x) (s.ev y) s (fun p s'=>K (s'.put d p)):=(rfl)
@[go_sem] theorem X3t {e e':EI} {x1 y1:Bool} {x2 y2:Nat} {x4 y4:Option Value} {t:Tag} {ys:List PV} {K:PV→PFS→Prop} :G2u (some ⟨x1,x2,.slice e,x4⟩) (some ⟨y1,y2,.slice e',y4⟩) (.sl .full []) (.sl t ys) s K=
 ((X1i [] ys e∧0<ys.length)∧K (.ms false s.L.length 0 ys.length) { s with L:=s.L++ [flat ys] }):=(rfl)
end
def V1r (sz:Nat):Nat→List PV→List PV
 | 0,_=> []
 | n+1,cs=> .agg (cs.take sz)::V1r sz n (cs.drop sz)
def PV.frzN1 (i sz:Nat) (cs:List PV):PV→PV
 | .lp k off=>if k=i then .ep cs off else .lp k off
 | .ms false k off len=>if k=i then(if off+len*sz≤cs.length then .sl .no (V1r sz len (cs.drop off)) else .junk) else .ms false k off len
 | .mr k len cap=>if k=i then(if len*sz≤cs.length then .sl .no (V1r sz len cs) else .junk) else .mr k len cap
 | p=>p
def PV.frzN (i sz:Nat) (cs:List PV):PV→PV
 | .agg l=> .agg (l.map (PV.frzN1 i sz cs))
 | .tup l=> .tup (l.map (PV.frzN1 i sz cs))
 | .fn f l m=> .fn f (l.map (PV.frzN1 i sz cs)) (m.map (PV.frzN1 i sz cs))
 | p=>p.frzN1 i sz cs
def PFS.freezeN (i sz:Nat) (s:PFS):PFS:=
 let cs:=(s.L.getD i []).map PV.forget2
 ⟨s.pa.map (PV.frzN i sz cs),(s.L.map fun l=>l.map (PV.frzN i sz cs)).set i [],s.T,s.st⟩
section
variable {w:World} {g g':Gh} {F:Fr} {T:List (Nat×Nat)} {i sz:Nat} {cs:List PV}
end
@[go_sem] theorem k2p {i sz:Nat} {pa:List PV} {L st:Q0c} {T:List (Nat×Nat)} :(PFS.mk pa L T st).freezeN i sz=⟨pa.map (PV.frzN i sz ((L.getD i []).map PV.forget2)),(L.map fun l=>l.map (PV.frzN i sz ((L.getD i []).map PV.forget2))).set i [],T,st⟩:=(rfl)
attribute [go_sem] PV.frzN PV.frzN1
end Go.Pv
end
section
/-Boxes of intervals,of numbers,one behind the other. -/
namespace Go.Pv
theorem U1f (l:List Ivl): ∀i,i<(Z0e l).length→((Z0e l).getD i .junk).cells.length=6:=fun i hi=>by
 rw [V0b] at hi
 rw [J0j l i hi];rfl
theorem U1e (l:List Nm): ∀i,i<(Z0f l).length→((Z0f l).getD i .junk).cells.length=3:=fun i hi=>by
 rw [X0p] at hi
 rw [V0a l i hi];rfl
@[go_sem] theorem G2c (l:List Ivl):(flat (Z0e l)).length=l.length*6:=by rw [X0r (U1f l),V0b]
@[go_sem] theorem G2a (l:List Nm):(flat (Z0f l)).length=l.length*3:=by rw [X0r (U1e l),X0p]
theorem H1l {ys:List PV} {p:PV} (h:p∈flat ys): ∃y∈ys,p∈y.cells:=by
 simp only [flat,List.mem_flatten,List.mem_map] at h
 obtain⟨l,⟨y,hy,rfl⟩,hp⟩:=h
 exact⟨y,hy,hp⟩
theorem q0p {l:List Ivl} {p:PV} (h:p∈flat (Z0e l)): ∃x:Ivl,p∈encI x:=by
 obtain⟨y,hy,hp⟩:=H1l h
 obtain⟨x,_,rfl⟩:=List.mem_map.1 hy
 exact⟨x,hp⟩
theorem q0o {l:List Nm} {p:PV} (h:p∈flat (Z0f l)): ∃x:Nm,p∈encN x:=by
 obtain⟨y,hy,hp⟩:=H1l h
 obtain⟨x,_,rfl⟩:=List.mem_map.1 hy
 exact⟨x,hp⟩
theorem q0q {f:PV→PV} {l:List PV} (h: ∀p∈l,f p=p):l.map f=l:=by
 conv=>rhs;rw [←List.map_id l]
 exact List.map_congr_left fun p hp=>h p hp
@[go_sem] theorem G2d (l:List Ivl):(flat (Z0e l)).map PV.forget2=flat (Z0e l):=q0q fun p hp=>by
 obtain⟨x,hx⟩:=q0p hp
 simp [encI] at hx
 rcases hx with rfl | rfl | rfl | rfl | rfl | rfl<;>rfl
@[go_sem] theorem G2b (l:List Nm):(flat (Z0f l)).map PV.forget2=flat (Z0f l):=q0q fun p hp=>by
 obtain⟨x,hx⟩:=q0o hp
 simp [encN] at hx
 rcases hx with rfl | rfl | rfl<;>rfl
@[go_sem] theorem k2v (l:List Ivl) (i sz:Nat) (cs:List PV):(flat (Z0e l)).map (PV.frzN i sz cs)=flat (Z0e l):=q0q fun p hp=>by
 obtain⟨x,hx⟩:=q0p hp
 simp [encI] at hx
 rcases hx with rfl | rfl | rfl | rfl | rfl | rfl<;>rfl
@[go_sem] theorem k2u (l:List Nm) (i sz:Nat) (cs:List PV):(flat (Z0f l)).map (PV.frzN i sz cs)=flat (Z0f l):=q0q fun p hp=>by
 obtain⟨x,hx⟩:=q0o hp
 simp [encN] at hx
 rcases hx with rfl | rfl | rfl<;>rfl
@[go_sem] theorem V3m (l:List Ivl):fzOK (flat (Z0e l))=true:=by
 unfold fzOK
 rw [List.all_eq_true]
 intro p hp
 obtain⟨x,hx⟩:=q0p hp
 simp [encI] at hx
 rcases hx with rfl | rfl | rfl | rfl | rfl | rfl<;>rfl
@[go_sem] theorem V3l (l:List Nm):fzOK (flat (Z0f l))=true:=by
 unfold fzOK
 rw [List.all_eq_true]
 intro p hp
 obtain⟨x,hx⟩:=q0o hp
 simp [encN] at hx
 rcases hx with rfl | rfl | rfl<;>rfl
@[go_sem] theorem Q3l (l:List Ivl) (a b:Nat):(flat (Z0e l)).all (PV.lim a b)=true:=by
 rw [List.all_eq_true]
 intro p hp
 obtain⟨x,hx⟩:=q0p hp
 simp [encI] at hx
 rcases hx with rfl | rfl | rfl | rfl | rfl | rfl<;>rfl
@[go_sem] theorem Q3k (l:List Nm) (a b:Nat):(flat (Z0f l)).all (PV.lim a b)=true:=by
 rw [List.all_eq_true]
 intro p hp
 obtain⟨x,hx⟩:=q0o hp
 simp [encN] at hx
 rcases hx with rfl | rfl | rfl<;>rfl
def encM (l:List (List Ivl)):List PV:=l.map fun c=> .sl .no (Z0e c)
@[go_sem] theorem x2v (l:List (List Ivl)):(encM l).length=l.length:=by simp [encM]
@[go_sem] theorem W3g :encM []= []:=(rfl)
@[go_sem] theorem q3q (l:List (List Ivl)):(encM l).all (fun x=>x.cells.length==1)=true:=by simp [encM,PV.cells]
@[go_sem] theorem q3r (l:List (List Ivl)):(encM l).all (fun x=>(x.cells.length==1)&&x.cells.all PV.cellOK)=true:=by simp [encM,PV.cells,PV.cellOK]
@[go_sem] theorem Z3k (l:List (List Ivl)) (n:Nat):(encM l).take n=encM (l.take n):=by simp [encM]
@[go_sem] theorem Z3m (l:List (List Ivl)) (n:Nat):(encM l).drop n=encM (l.drop n):=by simp [encM]
@[go_sem] theorem W3h (l m:List (List Ivl)):encM l++encM m=encM (l++m):=by simp [encM]
@[go_sem] theorem Z3l (l:List (List Ivl)) (c:List Ivl):encM l++ [.sl .no (Z0e c)]=encM (l++ [c]):=by simp [encM]
theorem W0h (l:List (List Ivl)) (n:Nat) (h:n<l.length):(encM l).getD n .junk= .sl .no (Z0e (l.getD n [])):=by
 simp [encM,List.getD_eq_getElem?_getD,h]
def encQ (l:List (List Nm)):List PV:=l.map fun c=> .sl .no (Z0f c)
@[go_sem] theorem x2u (l:List (List Nm)):(encQ l).length=l.length:=by simp [encQ]
@[go_sem] theorem W3a :encQ []= []:=(rfl)
@[go_sem] theorem q3n (l:List (List Nm)):(encQ l).all (fun x=>x.cells.length==1)=true:=by simp [encQ,PV.cells]
@[go_sem] theorem q3o (l:List (List Nm)):(encQ l).all (fun x=>(x.cells.length==1)&&x.cells.all PV.cellOK)=true:=by simp [encQ,PV.cells,PV.cellOK]
@[go_sem] theorem Z3b (l:List (List Nm)) (n:Nat):(encQ l).take n=encQ (l.take n):=by simp [encQ]
@[go_sem] theorem Z3d (l:List (List Nm)) (n:Nat):(encQ l).drop n=encQ (l.drop n):=by simp [encQ]
@[go_sem] theorem W3b (l m:List (List Nm)):encQ l++encQ m=encQ (l++m):=by simp [encQ]
@[go_sem] theorem Z3c (l:List (List Nm)) (c:List Nm):encQ l++ [.sl .no (Z0f c)]=encQ (l++ [c]):=by simp [encQ]
theorem Y0n (l:List (List Nm)) (n:Nat) (h:n<l.length):(encQ l).getD n .junk= .sl .no (Z0f (l.getD n [])):=by
 simp [encQ,List.getD_eq_getElem?_getD,h]
end Go.Pv
end
