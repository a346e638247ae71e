/- Parts of the walk: PvAm, PvAn, M42, N46, N47, N48, PvBa, PvAo, PvAp, PvAu. -/
import Derived.Test.YtofoadghajnglaaGreatDoorZAN
import Derived.Test.YtofoadghajnglaaGreatDoorZE
import Derived.Test.YtofoadghajnglaaGreatDoorZP
import Derived.Test.YtofoadghajnglaaGreatDoorZAH
import Derived.Test.YtofoadghajnglaaGreatDoorZF
import Derived.Test.YtofoadghajnglaaGreatDoorZH
set_option linter.unusedVariables false
set_option linter.unusedSimpArgs false
section
/-Monomials,polynomials,fields;terms. -/
namespace Go.Pv
structure Mn where
 c:Nm
 ks:List Int
 deriving DecidableEq
instance : Inhabited Mn:=⟨⟨default,[]⟩⟩
def V2i (x:Mn):List PV:= [.sc (.bool x.c.neg),.sc (.int .i64 x.c.exp),.sl .no (encW x.c.w),.sl .no (encZ x.ks)]
attribute [go_sem] V2i
def Y0c (l:List Mn):List PV:=l.map fun c=>(.agg (V2i c))
@[go_sem] theorem k2g (l:List Mn):(Y0c l).length=l.length:=by simp [Y0c]
@[go_sem] theorem Y3p :Y0c []= []:=(rfl)
@[go_sem] theorem z3n (l:List Mn):(Y0c l).all (fun x=>x.cells.length==4)=true:=by simp [Y0c,PV.cells,V2i]
@[go_sem] theorem z3o (l:List Mn):(Y0c l).all (fun x=>(x.cells.length==4)&&x.cells.all PV.cellOK)=true:=by simp [Y0c,PV.cells,PV.cellOK,Value.oneCell',V2i]
@[go_sem] theorem J3h (l:List Mn) (n:Nat):(Y0c l).take n=Y0c (l.take n):=by simp [Y0c]
@[go_sem] theorem J3j (l:List Mn) (n:Nat):(Y0c l).drop n=Y0c (l.drop n):=by simp [Y0c]
@[go_sem] theorem Y3r (l m:List Mn):Y0c l++Y0c m=Y0c (l++m):=by simp [Y0c]
@[go_sem] theorem J3i (l:List Mn) (c:Mn):Y0c l++ [.agg (V2i c)]=Y0c (l++ [c]):=by simp [Y0c]
@[go_sem] theorem Y3q (l:List Mn) (i:Nat) (cs:List PV):(Y0c l).map (PV.frz i cs)=Y0c l:=by
 simp only [Y0c,List.map_map]
 exact List.map_congr_left fun a _=>rfl
structure Tm where
 v:Vl
 ks:List Int
instance : Inhabited Tm:=⟨⟨⟨false,0,0⟩,[]⟩⟩
def V2h (x:Tm):List PV:= [.sc (.bool x.v.neg),.sl .no (encD (Q0c x.v.m)),.sc (.int .i64 x.v.e),.sl .no (encZ x.ks)]
attribute [go_sem] V2h
def U0g (l:List Tm):List PV:=l.map fun c=>(.agg (V2h c))
@[go_sem] theorem k2e (l:List Tm):(U0g l).length=l.length:=by simp [U0g]
@[go_sem] theorem Y3g :U0g []= []:=(rfl)
@[go_sem] theorem z3h (l:List Tm):(U0g l).all (fun x=>x.cells.length==4)=true:=by simp [U0g,PV.cells,V2h]
@[go_sem] theorem z3i (l:List Tm):(U0g l).all (fun x=>(x.cells.length==4)&&x.cells.all PV.cellOK)=true:=by simp [U0g,PV.cells,PV.cellOK,Value.oneCell',V2h]
@[go_sem] theorem J3b (l:List Tm) (n:Nat):(U0g l).take n=U0g (l.take n):=by simp [U0g]
@[go_sem] theorem J3d (l:List Tm) (n:Nat):(U0g l).drop n=U0g (l.drop n):=by simp [U0g]
@[go_sem] theorem Y3i (l m:List Tm):U0g l++U0g m=U0g (l++m):=by simp [U0g]
@[go_sem] theorem J3c (l:List Tm) (c:Tm):U0g l++ [.agg (V2h c)]=U0g (l++ [c]):=by simp [U0g]
@[go_sem] theorem Y3h (l:List Tm) (i:Nat) (cs:List PV):(U0g l).map (PV.frz i cs)=U0g l:=by
 simp only [U0g,List.map_map]
 exact List.map_congr_left fun a _=>rfl
def W0x (l:List (List Mn)):List PV:=l.map fun c=>(.sl .no (Y0c c))
@[go_sem] theorem k2i (l:List (List Mn)):(W0x l).length=l.length:=by simp [W0x]
@[go_sem] theorem U3e :W0x []= []:=(rfl)
@[go_sem] theorem z3x (l:List (List Mn)):(W0x l).all (fun x=>x.cells.length==1)=true:=by simp [W0x,PV.cells]
@[go_sem] theorem z3y (l:List (List Mn)):(W0x l).all (fun x=>(x.cells.length==1)&&x.cells.all PV.cellOK)=true:=by simp [W0x,PV.cells,PV.cellOK,Value.oneCell']
@[go_sem] theorem J3t (l:List (List Mn)) (n:Nat):(W0x l).take n=W0x (l.take n):=by simp [W0x]
@[go_sem] theorem J3v (l:List (List Mn)) (n:Nat):(W0x l).drop n=W0x (l.drop n):=by simp [W0x]
@[go_sem] theorem U3g (l m:List (List Mn)):W0x l++W0x m=W0x (l++m):=by simp [W0x]
@[go_sem] theorem J3u (l:List (List Mn)) (c:(List Mn)):W0x l++ [.sl .no (Y0c c)]=W0x (l++ [c]):=by simp [W0x]
@[go_sem] theorem U3f (l:List (List Mn)) (i:Nat) (cs:List PV):(W0x l).map (PV.frz i cs)=W0x l:=by
 simp only [W0x,List.map_map]
 exact List.map_congr_left fun a _=>rfl
def U0i (l:List (List (List Mn))):List PV:=l.map fun c=>(.sl .no (W0x c))
@[go_sem] theorem k2h (l:List (List (List Mn))):(U0i l).length=l.length:=by simp [U0i]
@[go_sem] theorem Y3y :U0i []= []:=(rfl)
@[go_sem] theorem z3t (l:List (List (List Mn))):(U0i l).all (fun x=>x.cells.length==1)=true:=by simp [U0i,PV.cells]
@[go_sem] theorem z3u (l:List (List (List Mn))):(U0i l).all (fun x=>(x.cells.length==1)&&x.cells.all PV.cellOK)=true:=by simp [U0i,PV.cells,PV.cellOK,Value.oneCell']
@[go_sem] theorem J3n (l:List (List (List Mn))) (n:Nat):(U0i l).take n=U0i (l.take n):=by simp [U0i]
@[go_sem] theorem J3p (l:List (List (List Mn))) (n:Nat):(U0i l).drop n=U0i (l.drop n):=by simp [U0i]
@[go_sem] theorem U3a (l m:List (List (List Mn))):U0i l++U0i m=U0i (l++m):=by simp [U0i]
@[go_sem] theorem J3o (l:List (List (List Mn))) (c:(List (List Mn))):U0i l++ [.sl .no (W0x c)]=U0i (l++ [c]):=by simp [U0i]
@[go_sem] theorem Y3z (l:List (List (List Mn))) (i:Nat) (cs:List PV):(U0i l).map (PV.frz i cs)=U0i l:=by
 simp only [U0i,List.map_map]
 exact List.map_congr_left fun a _=>rfl
end Go.Pv
end
section
/-An object of the store that is written no more:in all slots and boxes it becomes a plain slice. -/
namespace Go.Pv
def PV.frzG1 (k:Nat) (cs:List PV):PV→PV
 | .ms true k' off len=>if k'=k∧off+len≤cs.length then .sl .no ((cs.drop off).take len) else .ms true k' off len
 | p=>p
def PV.frzG (k:Nat) (cs:List PV):PV→PV
 | .agg l=> .agg (l.map (PV.frzG1 k cs))
 | .tup l=> .tup (l.map (PV.frzG1 k cs))
 | .fn f l m=> .fn f (l.map (PV.frzG1 k cs)) (m.map (PV.frzG1 k cs))
 | p=>p.frzG1 k cs
structure SolidG (w:World) (g':Gh) (k:Nat) (cs:List PV):Prop where
 sl: ∀v off len,k<g'.n→Rep w g' v (.ms true k off len)→off+len≤cs.length→Rep w g' v (.sl .no ((cs.drop off).take len))
section
variable {w:World} {g g':Gh} {F:Fr} {T:List (Nat×Nat)} {k:Nat} {cs:List PV}
end
def PFS.freezeA (k:Nat) (s:PFS):PFS:=⟨s.pa.map (PV.frzG k (s.st.getD k [])),s.L.map fun l=>l.map (PV.frzG k (s.st.getD k [])),s.T,s.st.set k []⟩
@[go_sem] theorem X3v {k:Nat} {pa:List PV} {L st:Q0f} {T:List (Nat×Nat)} :(PFS.mk pa L T st).freezeA k=⟨pa.map (PV.frzG k (st.getD k [])),L.map fun l=>l.map (PV.frzG k (st.getD k [])),T,st.set k []⟩:=(rfl)
@[go_sem] theorem W3p {k:Nat} {cs:List PV} :PV.frzG k cs .junk= .junk:=(rfl)
@[go_sem] theorem w3c {k:Nat} {cs:List PV} {v:Value} :PV.frzG k cs (.sc v)=(.sc v):=(rfl)
@[go_sem] theorem w3e {k:Nat} {cs:List PV} {i o:Nat} :PV.frzG k cs (.lp i o)=(.lp i o):=(rfl)
@[go_sem] theorem w3g {k:Nat} {cs:List PV} {i o:Nat} :PV.frzG k cs (.gp i o)=(.gp i o):=(rfl)
@[go_sem] theorem w3b {k:Nat} {cs:List PV} {t:Tag} {es:List PV} :PV.frzG k cs (.sl t es)=(.sl t es):=(rfl)
@[go_sem] theorem w3i {k:Nat} {cs:List PV} {es:List PV} {o:Nat} :PV.frzG k cs (.ep es o)=(.ep es o):=(rfl)
@[go_sem] theorem q3k {k:Nat} {cs:List PV} {i o n:Nat} :PV.frzG k cs (.ms false i o n)=(.ms false i o n):=(rfl)
@[go_sem] theorem w3d {k:Nat} {cs:List PV} {i n c:Nat} :PV.frzG k cs (.mr i n c)=(.mr i n c):=(rfl)
@[go_sem] theorem q3o {k:Nat} {cs:List PV} {i n c:Nat} :PV.frzG1 k cs (.mr i n c)=(.mr i n c):=(rfl)
@[go_sem] theorem q3j {k:Nat} {cs:List PV} {es:List PV} {n:Nat} :PV.frzG k cs (.pre es n)=(.pre es n):=(rfl)
@[go_sem] theorem X3q {k:Nat} {cs:List PV} :PV.frzG1 k cs .junk= .junk:=(rfl)
@[go_sem] theorem q3n {k:Nat} {cs:List PV} {v:Value} :PV.frzG1 k cs (.sc v)=(.sc v):=(rfl)
@[go_sem] theorem q3p {k:Nat} {cs:List PV} {i o:Nat} :PV.frzG1 k cs (.lp i o)=(.lp i o):=(rfl)
@[go_sem] theorem q3r {k:Nat} {cs:List PV} {i o:Nat} :PV.frzG1 k cs (.gp i o)=(.gp i o):=(rfl)
@[go_sem] theorem q3m {k:Nat} {cs:List PV} {t:Tag} {es:List PV} :PV.frzG1 k cs (.sl t es)=(.sl t es):=(rfl)
@[go_sem] theorem q3s {k:Nat} {cs:List PV} {es:List PV} {o:Nat} :PV.frzG1 k cs (.ep es o)=(.ep es o):=(rfl)
@[go_sem] theorem W3r {k:Nat} {cs:List PV} {i o n:Nat} :PV.frzG1 k cs (.ms false i o n)=(.ms false i o n):=(rfl)
@[go_sem] theorem W3q {k:Nat} {cs:List PV} {es:List PV} {n:Nat} :PV.frzG1 k cs (.pre es n)=(.pre es n):=(rfl)
@[go_sem] theorem q3l {k:Nat} {cs l:List PV} :PV.frzG k cs (.agg l)= .agg (l.map (PV.frzG1 k cs)):=(rfl)
@[go_sem] theorem q3i {k:Nat} {cs l:List PV} :PV.frzG k cs (.tup l)= .tup (l.map (PV.frzG1 k cs)):=(rfl)
@[go_sem] theorem w3h {k:Nat} {cs l m:List PV} {f:Fn} :PV.frzG k cs (.fn f l m)= .fn f (l.map (PV.frzG1 k cs)) (m.map (PV.frzG1 k cs)):=(rfl)
end Go.Pv
end
section
/-Powers,monomials,polynomials,fields:what is right,orders,degrees. No program in it. -/
namespace Go.Pv
def j2b (ks:List Int):Bool:=ks.all (fun k=>decide (0≤k))&&decide (ks.sum≤8)
def k3x (m:Mn) (n:Int):Bool:=decide ((m.ks.length:Int)=n)&&j2b m.ks&&Q0h m.c
def ordK :List Int→List Int→Int
 | x::a,y::b=>if x>y then 1 else if x<y then -1 else ordK a b
 | _,_=>0
def okP (p:List Mn) (n:Int) (i:Nat):Bool:=
 k3x (p.getD i default) n&&decide ((p.getD i default).c.w.length≠0)&&(decide (i=0)||decide (ordK (p.getD (i-1) default).ks (p.getD i default).ks=1))
def j2a (p:List Mn) (n:Int):Bool:=decide (1≤n∧n≤4∧p.length≤24)&&(List.range p.length).all (okP p n)
def U1p (f:List (List Mn)):Bool:=decide (1≤f.length∧f.length≤4)&&f.all (fun p=>j2a p f.length)
def wK (ks:List Int):Prop:=ks.length≤100000000000∧ ∀i,i<ks.length→ -9223372036854775808≤ks.getD i 0∧ks.getD i 0≤9223372036854775807
def wMn (m:Mn):Prop:=wN m.c∧wK m.ks
def wP (p:List Mn):Prop:=p.length≤100000000000∧ ∀i,i<p.length→wMn (p.getD i default)
def wF (f:List (List Mn)):Prop:=f.length≤100000000000∧ ∀i,i<f.length→wP (f.getD i [])
end Go.Pv
end
section
/-An object of the store that is written no more:within the elements of slices,too,it becomes a plain slice. -/
namespace Go.Pv
def PV.frzD (k:Nat) (cs:List PV):PV→PV
 | .sl .no es=> .sl .no (es.map (PV.frzG k cs))
 | p=>p.frzG k cs
section
variable {w:World} {g g':Gh} {F:Fr} {T:List (Nat×Nat)} {k:Nat} {cs:List PV}
end
def PFS.freezeD (k:Nat) (s:PFS):PFS:=⟨s.pa.map (PV.frzD k (s.st.getD k [])),s.L.map fun l=>l.map (PV.frzD k (s.st.getD k [])),s.T,s.st.set k []⟩
@[go_sem] theorem X3u {k:Nat} {pa:List PV} {L st:Q0f} {T:List (Nat×Nat)} :(PFS.mk pa L T st).freezeD k=⟨pa.map (PV.frzD k (st.getD k [])),L.map fun l=>l.map (PV.frzD k (st.getD k [])),T,st.set k []⟩:=(rfl)
@[go_sem] theorem W3s {k:Nat} {cs:List PV} :PV.frzD k cs .junk= .junk:=(rfl)
@[go_sem] theorem w3j {k:Nat} {cs:List PV} {v:Value} :PV.frzD k cs (.sc v)=(.sc v):=(rfl)
@[go_sem] theorem w3k {k:Nat} {cs:List PV} {i o:Nat} :PV.frzD k cs (.lp i o)=(.lp i o):=(rfl)
@[go_sem] theorem w3l {k:Nat} {cs:List PV} {i o:Nat} :PV.frzD k cs (.gp i o)=(.gp i o):=(rfl)
@[go_sem] theorem q3t {k m:Nat} {cs:List PV} {es:List PV} :PV.frzD k cs (.sl (.own m) es)= .sl (.own m) es:=(rfl)
@[go_sem] theorem q3u {k:Nat} {cs:List PV} {i o n:Nat} :PV.frzD k cs (.ms false i o n)=(.ms false i o n):=(rfl)
end Go.Pv
end
section
/-Long drawn statements:the same check of a plan,out of a list of the operations' few facts,that the kernel reckons fast. -/
namespace Go.Pv
def lstN (n m:Nat):Array Bool:=((List.range n).map m.testBit).toArray
def W3u (n:Nat) (k:Nat→Bool):Bool:=Nat.casesOn (motive:=fun _=>Bool) n (k 0) (fun m=>k (m+1))
def amL :List Edge→Nat
 | []=>0
 | e::r=>if Region.binds .any e then amL r|||(1<<<e.on) else amL r
structure OpSm where
 j:Nat
 am:Nat
 ld:Bool
 ef:Bool
 deriving DecidableEq
def sumL :Nat→List Oper→List OpSm
 | _,[]=> []
 | j,o::r=>⟨j,amL o.after.toList,v0e o.op,!K0e o.op⟩::sumL (j+1) r
def K3w (ops:Array Oper) (S:List OpSm) (i:Nat) (ws:List Nat) (m:Nat):Bool:=
 S.any fun x=>x.j==i&& !m.testBit i&&(x.am&&&m==x.am)&&(!x.ef||S.all fun y=> !y.ld|| !m.testBit y.j||ws.contains y.j||z1d ops y.j i)
def j2u (ops:Array Oper) (S:List OpSm) (N m:Nat) (p:Plan):Bool:=
 (S.all fun x=>m.testBit x.j|| !(x.am&&&m==x.am)||p.heads.contains x.j)||(match p with | .step i _ _=>Q3a ops N (lstN ops.size m) i | _=>false)
def k1q (ops:Array Oper) (S:List OpSm) (N:Nat):Plan→Nat→Nat→Bool
 | .done,_,_=>true
 | .step _ _ _,0,_=>false
 | .step i ws rest,f+1,m=>K3w ops S i ws m&&W3u (m|||(1<<<i)) (fun m'=>k1q ops S N rest f m'&&j2u ops S N m' rest)
 | .alt a b,f,m=>k1q ops S N a f m&&k1q ops S N b f m
section
variable {ops:Array Oper} {S:List OpSm} (hS:sumL 0 ops.toList=S) (hn:(S.all fun x=>decide (x.am<2^ops.size))=true)
include hS
end
def X4n (ops:Array Oper) (S:List OpSm) (N:Nat) (p:Plan):Bool:=k1q ops S N p ops.size 0&&j2u ops S N 0 p&&S.all fun x=>decide (x.am<2^ops.size)
end Go.Pv
end
section
/-Slices of the frame's own that are written and appended to:their room is known. -/
namespace Go.Pv
def PV.kill1 (i:Nat):PV→PV
 | .lp k off=>if k=i then .junk else .lp k off
 | .ms false k off len=>if k=i then .junk else .ms false k off len
 | .mr k len cap=>if k=i then .junk else .mr k len cap
 | .agg _ | .tup _ | .fn _ _ _=> .junk
 | p=>p
def PV.kill2 (i:Nat):PV→PV
 | .agg l=> .agg (l.map (PV.kill1 i))
 | .fn f l m=> .fn f (l.map (PV.kill1 i)) (m.map (PV.kill1 i))
 | p=>p.kill1 i
def PV.kill (i:Nat):PV→PV
 | .tup l=> .tup (l.map (PV.kill2 i))
 | p=>p.kill2 i
def PV.quiet :PV→Bool
 | .lp _ _ | .ms false _ _ _ | .mr _ _ _ | .agg _ | .tup _ | .fn _ _ _ | .sl (.own _) _ | .sl (.fresh _) _=>false
 | _=>true
section
variable {w w':World} {g g':Gh} {F F':Fr} {T:List (Nat×Nat)} {i:Nat}
end
def PFS.room (i:Nat) (X:List PV) (s:PFS):PFS:=⟨s.pa.map (PV.kill i),(s.L.map fun l=>l.map (PV.kill i)).set i X,s.T,s.st⟩
theorem j0i (n j:Nat):(List.replicate n PV.junk).getD j .junk= .junk:=by
 rw [List.getD_eq_getElem?_getD,List.getElem?_replicate];split<;>rfl
def k2s (cs:List PV) (len cap:Nat) (ys:List PV) (e:EI):Prop:=
 e.zok=true∧0<e.sz∧cs.length=cap*e.sz∧len+ys.length≤1152921504606846976∧(len+ys.length)*e.by_≤140737488355328∧
  ys.all (fun x=>(x.cells.length==e.sz)&&x.cells.all PV.cellOK)=true∧cs.all PV.quiet=true∧(flat ys).all PV.quiet=true
def G3d (T U:Option TI) (x y:PV) (s:PFS) (K:PV→PFS→Prop):Prop:=
 match T,U,x,y with
 | some ⟨_,_,.slice e,_⟩,some ⟨_,_,.slice _,_⟩,.mr i len cap,.sl _ ys=>k2s (s.L.getD i []) len cap ys e∧ ∀cap' R,len+ys.length≤cap'→R.length=(cap'-(len+ys.length))*e.sz→R.all PV.quiet=true→
  K (.mr i (len+ys.length) cap') (s.room i ((s.L.getD i []).take (len*e.sz)++(flat ys++R)))
 | _,_,_,_=>False
def POr0 (P:Program) (o:Oper) (K:PFS→Prop) (s:PFS):Prop:=
 match o.op with
 | .call { callee:= .builtin .append,args,argTypes } =>
  match argTypes.toList,args.toList with
  | [t,u],[x,y]=>G3d (ti P t) (ti P u) (s.ev x) (s.ev y) s (fun p s'=>K (s'.put o.dst p))
  | _,_=>False
 | _=>False
def OLr0 (P:Program) (ops:List Oper):List Bool→List Oper→(PFS→Prop)→PFS→Prop
 | _,[],K,s=>K s
 | [],rest,K,s=>OL0 P ops rest K s
 | true::bs,o::rest,K,s=>o.guard=none∧POr0 P o (OLr0 P ops bs rest K) s
 | false::bs,o::rest,K,s=>
  match o.guard with
  | none=>OC0 P o (OLr0 P ops bs rest K) s
  | some (j,want)=>GK0 (Z0j ops s j want) want (OC0 P o (OLr0 P ops bs rest K) s) (OLr0 P ops bs rest K (s.put o.dst (.tup [])))
def OLr (P:Program) (ops:List Oper) (bs:List Bool) (rest:List Oper) (K:PFS→Prop) [Stop ops] [Stop rest] [Stop K] (s:PFS):Prop:=OLr0 P ops bs rest K s
def POr (P:Program) (o:Oper) (K:PFS→Prop) [Stop o] [Stop K] (s:PFS):Prop:=POr0 P o K s
section
variable {P:Program} {s:PFS} {K:PFS→Prop} {d:Option Tmp} {ty:TypeId} {pos:String} {af:Array Edge}
@[go_sem] theorem Q4o {ops:List Oper} {bs:List Bool} :OLr P ops bs [] K s=K s:=by cases bs<;>rfl
@[go_sem] theorem Q4p {ops rest:List Oper} :OLr P ops [] rest K s=OL P ops rest K s:=by cases rest<;>rfl
@[go_sem] theorem X4t {ops rest:List Oper} {bs:List Bool} {op:Op} :OLr P ops (true::bs) (⟨d,op,ty,pos,af,none⟩::rest) K s=POr P ⟨d,op,ty,pos,af,none⟩ (OLr P ops bs rest K) s:=by
 show((none:Option (Nat×Bool))=none∧_)=_
 simp only [true_and];rfl
@[go_sem] theorem X4u {ops rest:List Oper} {bs:List Bool} {op:Op} :OLr P ops (false::bs) (⟨d,op,ty,pos,af,none⟩::rest) K s=OC P ⟨d,op,ty,pos,af,none⟩ (OLr P ops bs rest K) s:=(rfl)
@[go_sem] theorem Z4z {ops rest:List Oper} {bs:List Bool} {op:Op} {j:Nat} {want:Bool} :OLr P ops (false::bs) (⟨d,op,ty,pos,af,some (j,want)⟩::rest) K s=
 GK (Z0j ops s j want) want (OC P ⟨d,op,ty,pos,af,some (j,want)⟩ (OLr P ops bs rest K) s) (OLr P ops bs rest K (s.put d (.tup []))):=rfl
def k2q (T U:Option TI) (x y:PV) (s:PFS) (K:PV→PFS→Prop) [Stop K]:Prop:=G3d T U x y s K
@[go_sem] theorem Q4e {x y:Operand} {t u:TypeId} :POr P ⟨d,.call ⟨.builtin .append,[x,y].toArray,[t,u].toArray⟩,ty,pos,af,none⟩ K s=k2q (ti P t) (ti P u) (s.ev x) (s.ev y) s (fun p s'=>K (s'.put d p)):=(rfl)
@[go_sem] theorem G3c {e e':EI} {x1 y1:Bool} {x2 y2:Nat} {x4 y4:Option Value} {t:Tag} {i len cap:Nat} {ys:List PV} {K:PV→PFS→Prop} :k2q (some ⟨x1,x2,.slice e,x4⟩) (some ⟨y1,y2,.slice e',y4⟩) (.mr i len cap) (.sl t ys) s K=
 (k2s (s.L.getD i []) len cap ys e∧ ∀cap' R,len+ys.length≤cap'→R.length=(cap'-(len+ys.length))*e.sz→R.all PV.quiet=true→K (.mr i (len+ys.length) cap') (s.room i ((s.L.getD i []).take (len*e.sz)++(flat ys++R)))):=(rfl)
@[go_sem] theorem k3g {i:Nat} {X pa:List PV} {L st:Q0f} {T:List (Nat×Nat)} :(PFS.mk pa L T st).room i X=⟨pa.map (PV.kill i),(L.map fun l=>l.map (PV.kill i)).set i X,T,st⟩:=(rfl)
@[go_sem] theorem W3g {i:Nat} :PV.kill i .junk= .junk:=(rfl)
@[go_sem] theorem v3d {i:Nat} {v:Value} :PV.kill i (.sc v)= .sc v:=(rfl)
@[go_sem] theorem v3h {i k o:Nat} :PV.kill i (.gp k o)= .gp k o:=(rfl)
@[go_sem] theorem v3c {i:Nat} {t:Tag} {es:List PV} :PV.kill i (.sl t es)= .sl t es:=(rfl)
@[go_sem] theorem v3j {i o:Nat} {es:List PV} :PV.kill i (.ep es o)= .ep es o:=(rfl)
@[go_sem] theorem H3n {i n:Nat} {es:List PV} :PV.kill i (.pre es n)= .pre es n:=(rfl)
@[go_sem] theorem H3o {i k o n:Nat} :PV.kill i (.ms true k o n)= .ms true k o n:=(rfl)
@[go_sem] theorem H3p {i k o n:Nat} :PV.kill i (.ms false k o n)=if k=i then .junk else .ms false k o n:=(rfl)
@[go_sem] theorem v3e {i k n c:Nat} :PV.kill i (.mr k n c)=if k=i then .junk else .mr k n c:=(rfl)
@[go_sem] theorem v3f {i k o:Nat} :PV.kill i (.lp k o)=if k=i then .junk else .lp k o:=(rfl)
@[go_sem] theorem H3q {i:Nat} {l:List PV} :PV.kill i (.agg l)= .agg (l.map (PV.kill1 i)):=(rfl)
@[go_sem] theorem H3m {i:Nat} {l:List PV} :PV.kill i (.tup l)= .tup (l.map (PV.kill2 i)):=(rfl)
@[go_sem] theorem v3i {i:Nat} {f:Fn} {l m:List PV} :PV.kill i (.fn f l m)= .fn f (l.map (PV.kill1 i)) (m.map (PV.kill1 i)):=(rfl)
@[go_sem] theorem X3n {i:Nat} :PV.kill2 i .junk= .junk:=(rfl)
@[go_sem] theorem H3s {i:Nat} {v:Value} :PV.kill2 i (.sc v)= .sc v:=(rfl)
@[go_sem] theorem H3r {i:Nat} {t:Tag} {es:List PV} :PV.kill2 i (.sl t es)= .sl t es:=(rfl)
@[go_sem] theorem W3h {i:Nat} {l:List PV} :PV.kill2 i (.agg l)= .agg (l.map (PV.kill1 i)):=(rfl)
@[go_sem] theorem X3o {i:Nat} :PV.kill1 i .junk= .junk:=(rfl)
@[go_sem] theorem H3u {i:Nat} {v:Value} :PV.kill1 i (.sc v)= .sc v:=(rfl)
@[go_sem] theorem H3y {i k o:Nat} :PV.kill1 i (.gp k o)= .gp k o:=(rfl)
@[go_sem] theorem H3t {i:Nat} {t:Tag} {es:List PV} :PV.kill1 i (.sl t es)= .sl t es:=(rfl)
@[go_sem] theorem H3z {i o:Nat} {es:List PV} :PV.kill1 i (.ep es o)= .ep es o:=(rfl)
@[go_sem] theorem H3w {i k o:Nat} :PV.kill1 i (.lp k o)=if k=i then .junk else .lp k o:=(rfl)
@[go_sem] theorem W3j {i k o n:Nat} :PV.kill1 i (.ms false k o n)=if k=i then .junk else .ms false k o n:=(rfl)
@[go_sem] theorem W3i {i k o n:Nat} :PV.kill1 i (.ms true k o n)= .ms true k o n:=(rfl)
@[go_sem] theorem H3v {i k n c:Nat} :PV.kill1 i (.mr k n c)=if k=i then .junk else .mr k n c:=(rfl)
@[go_sem] theorem x3k {i n c:Nat} :(PV.mr i n c).cells= [.mr i n c]:=(rfl)
end
theorem x1k (xs ys:List PV):flat (xs++ys)=flat xs++flat ys:=by simp [flat]
end Go.Pv
end
section
/-A slice of larger elements that is handed back to be written:an object of the store,which becomes a plain slice again. -/
namespace Go.Pv
def PV.frzH1 (k sz:Nat) (cs:List PV):PV→PV
 | .ms true k' off len=>if k'=k∧off+len*sz≤cs.length then .sl .no (Y0e sz len (cs.drop off)) else .ms true k' off len
 | p=>p
def PV.frzH (k sz:Nat) (cs:List PV):PV→PV
 | .agg l=> .agg (l.map (PV.frzH1 k sz cs))
 | .tup l=> .tup (l.map (PV.frzH1 k sz cs))
 | .fn f l m=> .fn f (l.map (PV.frzH1 k sz cs)) (m.map (PV.frzH1 k sz cs))
 | p=>p.frzH1 k sz cs
structure SolidH (w:World) (g':Gh) (k sz:Nat) (cs:List PV):Prop where
 sl: ∀v off len,k<g'.n→Rep w g' v (.ms true k off len)→off+len*sz≤cs.length→Rep w g' v (.sl .no (Y0e sz len (cs.drop off)))
section
variable {w:World} {g g':Gh} {F:Fr} {T:List (Nat×Nat)} {k sz:Nat} {cs:List PV}
end
def PFS.freezeH (k sz:Nat) (s:PFS):PFS:=⟨s.pa.map (PV.frzH k sz (s.st.getD k [])),s.L.map fun l=>l.map (PV.frzH k sz (s.st.getD k [])),s.T,s.st.set k []⟩
section
variable {k sz:Nat} {cs:List PV}
@[go_sem] theorem X3s {k sz:Nat} {pa:List PV} {L st:Q0f} {T:List (Nat×Nat)} :(PFS.mk pa L T st).freezeH k sz=⟨pa.map (PV.frzH k sz (st.getD k [])),L.map fun l=>l.map (PV.frzH k sz (st.getD k [])),T,st.set k []⟩:=(rfl)
@[go_sem] theorem W3o :PV.frzH k sz cs .junk= .junk:=(rfl)
@[go_sem] theorem v3w {v:Value} :PV.frzH k sz cs (.sc v)=(.sc v):=(rfl)
@[go_sem] theorem v3y {i o:Nat} :PV.frzH k sz cs (.lp i o)=(.lp i o):=(rfl)
@[go_sem] theorem v3z {i o:Nat} :PV.frzH k sz cs (.gp i o)=(.gp i o):=(rfl)
@[go_sem] theorem v3v {t:Tag} {es:List PV} :PV.frzH k sz cs (.sl t es)=(.sl t es):=(rfl)
@[go_sem] theorem w3a {es:List PV} {o:Nat} :PV.frzH k sz cs (.ep es o)=(.ep es o):=(rfl)
@[go_sem] theorem q3e {i o n:Nat} :PV.frzH k sz cs (.ms false i o n)=(.ms false i o n):=(rfl)
@[go_sem] theorem v3x {i n c:Nat} :PV.frzH k sz cs (.mr i n c)=(.mr i n c):=(rfl)
@[go_sem] theorem q3f {l:List PV} :PV.frzH k sz cs (.agg l)= .agg (l.map (PV.frzH1 k sz cs)):=(rfl)
@[go_sem] theorem q3d {l:List PV} :PV.frzH k sz cs (.tup l)= .tup (l.map (PV.frzH1 k sz cs)):=(rfl)
@[go_sem] theorem X3p :PV.frzH1 k sz cs .junk= .junk:=(rfl)
@[go_sem] theorem q3h {v:Value} :PV.frzH1 k sz cs (.sc v)=(.sc v):=(rfl)
@[go_sem] theorem q3g {t:Tag} {es:List PV} :PV.frzH1 k sz cs (.sl t es)=(.sl t es):=(rfl)
end
end Go.Pv
end
