/- Parts of the walk: PvAo, PvAp, PvAu. -/
import Derived.Test.YtofoadghajnglaaGreatDoorQBD
set_option linter.unusedVariables false
set_option linter.unusedSimpArgs false
section
/-Long drawn statements:the same check of a plan,out of a list of the operations' few facts,that the kernel reckons fast. -/
namespace Go.Pv
def lstN (n m:Nat):Array Bool:=((List.range n).map m.testBit).toArray
def Q3i (n:Nat) (k:Nat→Bool):Bool:=Nat.casesOn (motive:=fun _=>Bool) n (k 0) (fun m=>k (m+1))
def amL :List Edge→Nat
 | []=>0
 | e::r=>if Region.binds .any e then amL r|||(1<<<e.on) else amL r
structure OpSm where
 j:Nat
 am:Nat
 ld:Bool
 ef:Bool
 deriving DecidableEq
def sumL :Nat→List Oper→List OpSm
 | _,[]=> []
 | j,o::r=>⟨j,amL o.after.toList,q0s o.op,!J0a o.op⟩::sumL (j+1) r
def w2n (ops:Array Oper) (S:List OpSm) (i:Nat) (ws:List Nat) (m:Nat):Bool:=
 S.any fun x=>x.j==i&& !m.testBit i&&(x.am&&&m==x.am)&&(!x.ef||S.all fun y=> !y.ld|| !m.testBit y.j||ws.contains y.j||W1t ops y.j i)
def U2y (ops:Array Oper) (S:List OpSm) (N m:Nat) (p:Plan):Bool:=
 (S.all fun x=>m.testBit x.j|| !(x.am&&&m==x.am)||p.heads.contains x.j)||(match p with | .step i _ _=>x2c ops N (lstN ops.size m) i | _=>false)
def G1y (ops:Array Oper) (S:List OpSm) (N:Nat):Plan→Nat→Nat→Bool
 | .done,_,_=>true
 | .step _ _ _,0,_=>false
 | .step i ws rest,f+1,m=>w2n ops S i ws m&&Q3i (m|||(1<<<i)) (fun m'=>G1y ops S N rest f m'&&U2y ops S N m' rest)
 | .alt a b,f,m=>G1y ops S N a f m&&G1y ops S N b f m
section
variable {ops:Array Oper} {S:List OpSm} (hS:sumL 0 ops.toList=S) (hn:(S.all fun x=>decide (x.am<2^ops.size))=true)
include hS
end
def k3e (ops:Array Oper) (S:List OpSm) (N:Nat) (p:Plan):Bool:=G1y ops S N p ops.size 0&&U2y ops S N 0 p&&S.all fun x=>decide (x.am<2^ops.size)
end Go.Pv
end
section
/-Slices of the frame's own that are written and appended to:their room is known. -/
namespace Go.Pv
def PV.kill1 (i:Nat):PV→PV
 | .lp k off=>if k=i then .junk else .lp k off
 | .ms false k off len=>if k=i then .junk else .ms false k off len
 | .mr k len cap=>if k=i then .junk else .mr k len cap
 | .agg _ | .tup _ | .fn _ _ _=> .junk
 | p=>p
def PV.kill2 (i:Nat):PV→PV
 | .agg l=> .agg (l.map (PV.kill1 i))
 | .fn f l m=> .fn f (l.map (PV.kill1 i)) (m.map (PV.kill1 i))
 | p=>p.kill1 i
def PV.kill (i:Nat):PV→PV
 | .tup l=> .tup (l.map (PV.kill2 i))
 | p=>p.kill2 i
def PV.quiet :PV→Bool
 | .lp _ _ | .ms false _ _ _ | .mr _ _ _ | .agg _ | .tup _ | .fn _ _ _ | .sl (.own _) _ | .sl (.fresh _) _=>false
 | _=>true
section
variable {w w':World} {g g':Gh} {F F':Fr} {T:List (Nat×Nat)} {i:Nat}
end
def PFS.room (i:Nat) (X:List PV) (s:PFS):PFS:=⟨s.pa.map (PV.kill i),(s.L.map fun l=>l.map (PV.kill i)).set i X,s.T,s.st⟩
theorem H0g (n j:Nat):(List.replicate n PV.junk).getD j .junk= .junk:=by
 rw [List.getD_eq_getElem?_getD,List.getElem?_replicate];split<;>rfl
def G2v (cs:List PV) (len cap:Nat) (ys:List PV) (e:EI):Prop:=
 e.zok=true∧0<e.sz∧cs.length=cap*e.sz∧len+ys.length≤1152921504606846976∧(len+ys.length)*e.by_≤140737488355328∧
  ys.all (fun x=>(x.cells.length==e.sz)&&x.cells.all PV.cellOK)=true∧cs.all PV.quiet=true∧(flat ys).all PV.quiet=true
def X3s (T U:Option TI) (x y:PV) (s:PFS) (K:PV→PFS→Prop):Prop:=
 match T,U,x,y with
 | some ⟨_,_,.slice e,_⟩,some ⟨_,_,.slice _,_⟩,.mr i len cap,.sl _ ys=>G2v (s.L.getD i []) len cap ys e∧ ∀cap' R,len+ys.length≤cap'→R.length=(cap'-(len+ys.length))*e.sz→R.all PV.quiet=true→
  K (.mr i (len+ys.length) cap') (s.room i ((s.L.getD i []).take (len*e.sz)++(flat ys++R)))
 | _,_,_,_=>False
def POr0 (P:Program) (o:Oper) (K:PFS→Prop) (s:PFS):Prop:=
 match o.op with
 | .call { callee:= .builtin .append,args,argTypes } =>
  match argTypes.toList,args.toList with
  | [t,u],[x,y]=>X3s (ti P t) (ti P u) (s.ev x) (s.ev y) s (fun p s'=>K (s'.put o.dst p))
  | _,_=>False
 | _=>False
def OLr0 (P:Program) (ops:List Oper):List Bool→List Oper→(PFS→Prop)→PFS→Prop
 | _,[],K,s=>K s
 | [],rest,K,s=>OL0 P ops rest K s
 | true::bs,o::rest,K,s=>o.guard=none∧POr0 P o (OLr0 P ops bs rest K) s
 | false::bs,o::rest,K,s=>
  match o.guard with
  | none=>OC0 P o (OLr0 P ops bs rest K) s
  | some (j,want)=>GK0 (Z0c ops s j want) want (OC0 P o (OLr0 P ops bs rest K) s) (OLr0 P ops bs rest K (s.put o.dst (.tup [])))
def OLr (P:Program) (ops:List Oper) (bs:List Bool) (rest:List Oper) (K:PFS→Prop) [Stop ops] [Stop rest] [Stop K] (s:PFS):Prop:=OLr0 P ops bs rest K s
def POr (P:Program) (o:Oper) (K:PFS→Prop) [Stop o] [Stop K] (s:PFS):Prop:=POr0 P o K s
section
variable {P:Program} {s:PFS} {K:PFS→Prop} {d:Option Tmp} {ty:TypeId} {pos:String} {af:Array Edge}
@[go_sem] theorem x3f {ops:List Oper} {bs:List Bool} :OLr P ops bs [] K s=K s:=by cases bs<;>rfl
@[go_sem] theorem x3g {ops rest:List Oper} :OLr P ops [] rest K s=OL P ops rest K s:=by cases rest<;>rfl
@[go_sem] theorem k3k {ops rest:List Oper} {bs:List Bool} {op:Op} :OLr P ops (true::bs) (⟨d,op,ty,pos,af,none⟩::rest) K s=POr P ⟨d,op,ty,pos,af,none⟩ (OLr P ops bs rest K) s:=by
 show((none:Option (Nat×Bool))=none∧_)=_
 simp only [true_and];rfl
@[go_sem] theorem k3l {ops rest:List Oper} {bs:List Bool} {op:Op} :OLr P ops (false::bs) (⟨d,op,ty,pos,af,none⟩::rest) K s=OC P ⟨d,op,ty,pos,af,none⟩ (OLr P ops bs rest K) s:=(rfl)
@[go_sem] theorem j3q {ops rest:List Oper} {bs:List Bool} {op:Op} {j:Nat} {want:Bool} :OLr P ops (false::bs) (⟨d,op,ty,pos,af,some (j,want)⟩::rest) K s=
 GK (Z0c ops s j want) want (OC P ⟨d,op,ty,pos,af,some (j,want)⟩ (OLr P ops bs rest K) s) (OLr P ops bs rest K (s.put d (.tup []))):=rfl
def G2t (T U:Option TI) (x y:PV) (s:PFS) (K:PV→PFS→Prop) [Stop K]:Prop:=X3s T U x y s K
@[go_sem] theorem z3v {x y:Operand} {t u:TypeId} :POr P ⟨d,.call ⟨.builtin .append,[x,y].toArray,[t,u].toArray⟩,ty,pos,af,none⟩ K s=G2t (ti P t) (ti P u) (s.ev x) (s.ev y) s (fun p s'=>K (s'.put d p)):=(rfl)
@[go_sem] theorem X3r {e e':EI} {x1 y1:Bool} {x2 y2:Nat} {x4 y4:Option Value} {t:Tag} {i len cap:Nat} {ys:List PV} {K:PV→PFS→Prop} :G2t (some ⟨x1,x2,.slice e,x4⟩) (some ⟨y1,y2,.slice e',y4⟩) (.mr i len cap) (.sl t ys) s K=
 (G2v (s.L.getD i []) len cap ys e∧ ∀cap' R,len+ys.length≤cap'→R.length=(cap'-(len+ys.length))*e.sz→R.all PV.quiet=true→K (.mr i (len+ys.length) cap') (s.room i ((s.L.getD i []).take (len*e.sz)++(flat ys++R)))):=(rfl)
@[go_sem] theorem U3v {i:Nat} {X pa:List PV} {L st:Q0c} {T:List (Nat×Nat)} :(PFS.mk pa L T st).room i X=⟨pa.map (PV.kill i),(L.map fun l=>l.map (PV.kill i)).set i X,T,st⟩:=(rfl)
@[go_sem] theorem y2u {i:Nat} :PV.kill i .junk= .junk:=(rfl)
@[go_sem] theorem G3v {i:Nat} {v:Value} :PV.kill i (.sc v)= .sc v:=(rfl)
@[go_sem] theorem G3z {i k o:Nat} :PV.kill i (.gp k o)= .gp k o:=(rfl)
@[go_sem] theorem G3u {i:Nat} {t:Tag} {es:List PV} :PV.kill i (.sl t es)= .sl t es:=(rfl)
@[go_sem] theorem H3b {i o:Nat} {es:List PV} :PV.kill i (.ep es o)= .ep es o:=(rfl)
@[go_sem] theorem K3c {i n:Nat} {es:List PV} :PV.kill i (.pre es n)= .pre es n:=(rfl)
@[go_sem] theorem K3d {i k o n:Nat} :PV.kill i (.ms true k o n)= .ms true k o n:=(rfl)
@[go_sem] theorem K3e {i k o n:Nat} :PV.kill i (.ms false k o n)=if k=i then .junk else .ms false k o n:=(rfl)
@[go_sem] theorem G3w {i k n c:Nat} :PV.kill i (.mr k n c)=if k=i then .junk else .mr k n c:=(rfl)
@[go_sem] theorem G3x {i k o:Nat} :PV.kill i (.lp k o)=if k=i then .junk else .lp k o:=(rfl)
@[go_sem] theorem K3f {i:Nat} {l:List PV} :PV.kill i (.agg l)= .agg (l.map (PV.kill1 i)):=(rfl)
@[go_sem] theorem K3b {i:Nat} {l:List PV} :PV.kill i (.tup l)= .tup (l.map (PV.kill2 i)):=(rfl)
@[go_sem] theorem H3a {i:Nat} {f:Fn} {l m:List PV} :PV.kill i (.fn f l m)= .fn f (l.map (PV.kill1 i)) (m.map (PV.kill1 i)):=(rfl)
@[go_sem] theorem k2l {i:Nat} :PV.kill2 i .junk= .junk:=(rfl)
@[go_sem] theorem K3h {i:Nat} {v:Value} :PV.kill2 i (.sc v)= .sc v:=(rfl)
@[go_sem] theorem K3g {i:Nat} {t:Tag} {es:List PV} :PV.kill2 i (.sl t es)= .sl t es:=(rfl)
@[go_sem] theorem y2v {i:Nat} {l:List PV} :PV.kill2 i (.agg l)= .agg (l.map (PV.kill1 i)):=(rfl)
@[go_sem] theorem k2m {i:Nat} :PV.kill1 i .junk= .junk:=(rfl)
@[go_sem] theorem K3j {i:Nat} {v:Value} :PV.kill1 i (.sc v)= .sc v:=(rfl)
@[go_sem] theorem K3n {i k o:Nat} :PV.kill1 i (.gp k o)= .gp k o:=(rfl)
@[go_sem] theorem K3i {i:Nat} {t:Tag} {es:List PV} :PV.kill1 i (.sl t es)= .sl t es:=(rfl)
@[go_sem] theorem K3o {i o:Nat} {es:List PV} :PV.kill1 i (.ep es o)= .ep es o:=(rfl)
@[go_sem] theorem K3l {i k o:Nat} :PV.kill1 i (.lp k o)=if k=i then .junk else .lp k o:=(rfl)
@[go_sem] theorem y2x {i k o n:Nat} :PV.kill1 i (.ms false k o n)=if k=i then .junk else .ms false k o n:=(rfl)
@[go_sem] theorem y2w {i k o n:Nat} :PV.kill1 i (.ms true k o n)= .ms true k o n:=(rfl)
@[go_sem] theorem K3k {i k n c:Nat} :PV.kill1 i (.mr k n c)=if k=i then .junk else .mr k n c:=(rfl)
@[go_sem] theorem Y3a {i n c:Nat} :(PV.mr i n c).cells= [.mr i n c]:=(rfl)
end
theorem Y1z (xs ys:List PV):flat (xs++ys)=flat xs++flat ys:=by simp [flat]
end Go.Pv
end
section
/-A slice of larger elements that is handed back to be written:an object of the store,which becomes a plain slice again. -/
namespace Go.Pv
def PV.frzH1 (k sz:Nat) (cs:List PV):PV→PV
 | .ms true k' off len=>if k'=k∧off+len*sz≤cs.length then .sl .no (V1r sz len (cs.drop off)) else .ms true k' off len
 | p=>p
def PV.frzH (k sz:Nat) (cs:List PV):PV→PV
 | .agg l=> .agg (l.map (PV.frzH1 k sz cs))
 | .tup l=> .tup (l.map (PV.frzH1 k sz cs))
 | .fn f l m=> .fn f (l.map (PV.frzH1 k sz cs)) (m.map (PV.frzH1 k sz cs))
 | p=>p.frzH1 k sz cs
structure SolidH (w:World) (g':Gh) (k sz:Nat) (cs:List PV):Prop where
 sl: ∀v off len,k<g'.n→Rep w g' v (.ms true k off len)→off+len*sz≤cs.length→Rep w g' v (.sl .no (V1r sz len (cs.drop off)))
section
variable {w:World} {g g':Gh} {F:Fr} {T:List (Nat×Nat)} {k sz:Nat} {cs:List PV}
end
def PFS.freezeH (k sz:Nat) (s:PFS):PFS:=⟨s.pa.map (PV.frzH k sz (s.st.getD k [])),s.L.map fun l=>l.map (PV.frzH k sz (s.st.getD k [])),s.T,s.st.set k []⟩
section
variable {k sz:Nat} {cs:List PV}
@[go_sem] theorem k2q {k sz:Nat} {pa:List PV} {L st:Q0c} {T:List (Nat×Nat)} :(PFS.mk pa L T st).freezeH k sz=⟨pa.map (PV.frzH k sz (st.getD k [])),L.map fun l=>l.map (PV.frzH k sz (st.getD k [])),T,st.set k []⟩:=(rfl)
@[go_sem] theorem Q3b :PV.frzH k sz cs .junk= .junk:=(rfl)
@[go_sem] theorem H3o {v:Value} :PV.frzH k sz cs (.sc v)=(.sc v):=(rfl)
@[go_sem] theorem H3q {i o:Nat} :PV.frzH k sz cs (.lp i o)=(.lp i o):=(rfl)
@[go_sem] theorem H3r {i o:Nat} :PV.frzH k sz cs (.gp i o)=(.gp i o):=(rfl)
@[go_sem] theorem H3n {t:Tag} {es:List PV} :PV.frzH k sz cs (.sl t es)=(.sl t es):=(rfl)
@[go_sem] theorem H3s {es:List PV} {o:Nat} :PV.frzH k sz cs (.ep es o)=(.ep es o):=(rfl)
@[go_sem] theorem K3t {i o n:Nat} :PV.frzH k sz cs (.ms false i o n)=(.ms false i o n):=(rfl)
@[go_sem] theorem H3p {i n c:Nat} :PV.frzH k sz cs (.mr i n c)=(.mr i n c):=(rfl)
@[go_sem] theorem K3u {l:List PV} :PV.frzH k sz cs (.agg l)= .agg (l.map (PV.frzH1 k sz cs)):=(rfl)
@[go_sem] theorem K3s {l:List PV} :PV.frzH k sz cs (.tup l)= .tup (l.map (PV.frzH1 k sz cs)):=(rfl)
@[go_sem] theorem k2n :PV.frzH1 k sz cs .junk= .junk:=(rfl)
@[go_sem] theorem K3w {v:Value} :PV.frzH1 k sz cs (.sc v)=(.sc v):=(rfl)
@[go_sem] theorem K3v {t:Tag} {es:List PV} :PV.frzH1 k sz cs (.sl t es)=(.sl t es):=(rfl)
end
end Go.Pv
end
