/- Parts of the walk: PvAg, PvAh, PvAi. -/
import Derived.Test.YtofoadghajnglaaGreatDoorQC
set_option linter.unusedVariables false
set_option linter.unusedSimpArgs false
section
/-A box made beside:what an operation does is the same with another box at the end,of which it knows nothing. -/
namespace Go.Pv
def PFS.addBox (s:PFS) (x:Tmp×List PV):PFS:=({ s with L:=s.L++ [x.2] } :PFS).put (some x.1) (.lp s.L.length 0)
def PFS.exts (s:PFS) (X:List (Tmp×List PV)):PFS:=X.foldl PFS.addBox s
def Req.flat :Req→Bool
 | .box _ | .mks _ _=>false
 | .load _ _ _ n agg=>agg||decide (0<n)
 | _=>true
def U2z :Op→Bool
 | .alloc _ | .box _ _ | .makeSlice _ _ _=>false
 | _=>true
section
variable {P:Program} {ops:Array Oper} {o:Oper} {K:PFS→Prop} {s:PFS}
end
end Go.Pv
end
section
/-Boxes made one after the other:in whatever order,it is the same. -/
namespace Go.Pv
def sw (n i:Nat):Nat:=if i=n then n+1 else if i=n+1 then n else i
def Fr.sw (F:Fr) (n:Nat):Fr:= { F with lmu:=fun i=>F.lmu (Go.Pv.sw n i) }
def PFS.inScope (s:PFS):Prop:=(∀t,t<s.pa.length→(s.pa.getD t .junk).lim s.L.length s.T.length=true)∧ ∀i,∀p∈s.L.getD i [],p.lim s.L.length s.T.length=true
def k0t (X:List (Tmp×List PV)) (t:Nat):Option Nat:=
 match X with
 | []=>none
 | x::X=>if x.1=t then some 0 else(k0t X t).map (· +1)
end Go.Pv
end
section
/-Statements whose order is drawn,and in which boxes are made at any time:it is enough to make them last,in one order. -/
namespace Go.Pv
section
variable {P:Program} {ops:Array Oper} {K:PFS→Prop}
def Y1s (P:Program) (ops:Array Oper) (i:Nat):Option (Tmp×List PV):=
 match ops[i]? with
 | some ⟨some d,.alloc t,_,_,_,none⟩=>match x0i (ti P t) with
  | .box cs=>if cs.all (PV.lim 0 0)=true then some (d,cs) else none
  | _=>none
 | _=>none
def bx (P:Program) (ops:Array Oper) (i:Nat):Tmp×List PV:=(Y1s P ops i).getD (0,[])
def U2o (ops:Array Oper) (i:Nat):Bool:=match ops[i]? with | some o=>o.after.all fun e=> !Region.binds .any e | none=>false
def Q3g (ops:Array Oper) (ph1:List Nat):Array Oper:=ops.mapIdx fun k o=>if ph1.contains k then o else { o with after:=o.after.push ⟨k,.data⟩ }
def v0d (l:Array Bool) (π:List Nat):Array Bool:=π.foldl (fun l i=>l.setIfInBounds i true) l
structure Late (P:Program) (ops:Array Oper) (ph1 as ph2:List Nat):Prop where
 all: ∀i,i<ops.size→i∈ph1∨i∈as∨i∈ph2
 lt: ∀i,i∈ph1∨i∈as→i<ops.size
 apart: ∀i∈ph1,i∉as
 nodup:as.Nodup
 slots:((as.map (bx P ops)).map (·.1)).Nodup
 alloc: ∀i∈as,(Y1s P ops i).isSome=true∧U2o ops i=true
 first: ∀i∈ph1,∀o,ops[i]?=some o→(∀e∈o.after,Region.binds .any e=true→e.on<i∧e.on∈ph1)∧U2z o.op=true∧ ∀j∈as,(bx P ops j).1∉o.looksAt ops∧o.dst≠some (bx P ops j).1
 last: ∀k∈ph2,∀j,j∈ph1∨j∈as→k0p ops j 12 k=true
variable {ph1 as ph2:List Nat} (C:Late P ops ph1 as ph2)
include C
def OA0 (P:Program) (ops:List Oper) (as:List Nat) (K:PFS→Prop):PFS→Prop:=
 match as with
 | []=>K
 | i::as=>fun s=>OS0 P ops (ops[i]?) (OA0 P ops as K) s
def PFS.scopedB (s:PFS):Prop:=s.pa.all (PV.lim s.L.length s.T.length)=true∧s.L.all (fun o=>o.all (PV.lim s.L.length s.T.length))=true
def KL (P:Program) (ops:Array Oper) (as:List Nat) (p2:Plan) (K:PFS→Prop) (s:PFS):Prop:=s.scopedB∧OA0 P ops.toList as (OW0 P ops.toList p2 K) s
section
variable {E:Ent} {Q:Exit→Act→World→Prop} {N f2:Nat} {p2:Plan}
 (h2:Y0h ops N p2 f2 (v0d (v0d (Array.replicate ops.size false) ph1) as)=true) (h2':Z1s ops N (v0d (v0d (Array.replicate ops.size false) ph1) as) p2=true)
 (hK: ∀a' w' g' F' s',FSRep E a' w' g' F' s'→K s'→Q .normal a' w')
include C h2 h2' hK
end
end
def Plan.inB (ph1:List Nat):Plan→Bool
 | .done=>true
 | .step i ws rest=>ph1.contains i&&(ws.all ph1.contains&&rest.inB ph1)
 | .alt a b=>a.inB ph1&&b.inB ph1
section
variable {P:Program} {ops:Array Oper} {ph1:List Nat}
end
def G3t (P:Program) (ops:Array Oper) (N:Nat) (ph1 as ph2:List Nat) (p1 p2:Plan):Bool:=
 (List.range ops.size).all (fun i=>ph1.contains i||(as.contains i||ph2.contains i))&&
 ((ph1++as).all (fun i=>decide (i<ops.size))&&
 (ph1.all (fun i=> !as.contains i)&&
 (decide as.Nodup&&
 (decide ((as.map (bx P ops)).map (·.1)).Nodup&&
 (as.all (fun i=>(Y1s P ops i).isSome&&U2o ops i)&&
 (ph1.all (fun i=>match ops[i]? with
  | none=>true
  | some o=>o.after.all (fun e=> !Region.binds .any e||(decide (e.on<i)&&ph1.contains e.on))&&(U2z o.op&&as.all fun j=> !(o.looksAt ops).contains (bx P ops j).1&&o.dst !=some (bx P ops j).1))&&
 (ph2.all (fun k=>(ph1++as).all fun j=>k0p ops j 12 k)&&
 (decide (ph1.length+as.length+ph2.length≤ops.size)&&
 (p1.inB ph1&&
 (Y0h (Q3g ops ph1) N p1 ph1.length (Array.replicate ops.size false)&&
 (Z1s (Q3g ops ph1) N (Array.replicate ops.size false) p1&&
 (Y0h ops N p2 ph2.length (v0d (v0d (Array.replicate ops.size false) ph1) as)&&
 Z1s ops N (v0d (v0d (Array.replicate ops.size false) ph1) as) p2))))))))))))
section
variable {P:Program} {s:PFS} {K:PFS→Prop}
def OA (P:Program) (ops:List Oper) (as:List Nat) (K:PFS→Prop) [Stop ops] [Stop K] (s:PFS):Prop:=OA0 P ops as K s
@[go_sem] theorem j3x {ops:List Oper} :OA P ops [] K s=K s:=(rfl)
@[go_sem] theorem x3v {ops:List Oper} {i:Nat} {as:List Nat} :OA P ops (i::as) K s=OS P ops (ops[i]?) (OA P ops as K) s:=(rfl)
@[go_sem] theorem w2q {pa:List PV} {L st:Q0c} {T:List (Nat×Nat)} :(PFS.mk pa L T st).scopedB=(pa.all (PV.lim L.length T.length)=true∧L.all (fun o=>o.all (PV.lim L.length T.length))=true):=(rfl)
end
end Go.Pv
end
