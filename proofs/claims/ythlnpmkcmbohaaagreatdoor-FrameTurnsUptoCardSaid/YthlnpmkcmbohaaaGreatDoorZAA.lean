/- Parts of the walk: PvAg, PvAh, PvAi. -/
import Derived.Test.YthlnpmkcmbohaaaGreatDoorZC
set_option linter.unusedVariables false
set_option linter.unusedSimpArgs false
section
namespace Go.Pv
def Req.flat :Req->Bool
 | .box _ | .mks _ _=>false
 | .load _ _ _ n agg=>agg||decide (0<n)
 | _=>true
def w1s :Op->Bool
 | .alloc _ | .box _ _ | .makeSlice _ _ _=>false
 | _=>true
section
variable {P:Program} {ops:Array Oper} {o:Oper} {K:PFS->Prop} {s:PFS}
end
def sw (n i:Nat):Nat:=if i=n then n+1 else if i=n+1 then n else i
def Fr.sw (F:Fr)(n:Nat):Fr:= { F with lmu:=fun i=>F.lmu (Go.Pv.sw n i) }
def PFS.inScope (s:PFS):Prop:=(∀t,t<s.pa.length->(s.pa.getD t .junk).lim s.L.length s.T.length=true)/\ ∀i,∀p∈s.L.getD i [],p.lim s.L.length s.T.length=true
def HG (X:List (Tmp×List PV))(t:Nat):Option Nat:=
 match X with
 | []=>none
 | x::X=>if x.1=t then some 0 else(HG X t).map (· +1)
section
variable {P:Program} {ops:Array Oper} {K:PFS->Prop}
def x0m (P:Program)(ops:Array Oper)(i:Nat):Option (Tmp×List PV):=
 match ops[i]? with
 | some ⟨some d,.alloc t,_,_,_,none⟩=>match Hz (ti P t) with
  | .box cs=>if cs.all (PV.lim 0 0)=true then some (d,cs) else none
  | _=>none
 | _=>none
def bx (P:Program)(ops:Array Oper)(i:Nat):Tmp×List PV:=(x0m P ops i).getD (0,[])
def v1v (ops:Array Oper)(i:Nat):Bool:=match ops[i]? with | some o=>o.after.all fun e=> !Region.binds .any e | none=>false
def X1r (l:Array Bool)(π:List Nat):Array Bool:=π.foldl (fun l i=>l.setIfInBounds i true) l
structure Late (P:Program) (ops:Array Oper) (ph1 as ph2:List Nat):Prop where
 all: ∀i,i<ops.size->i∈ph1\/i∈as\/i∈ph2
 lt: ∀i,i∈ph1\/i∈as->i<ops.size
 apart: ∀i∈ph1,i∉as
 nodup:as.Nodup
 slots:((as.map (bx P ops)).map (·.1)).Nodup
 alloc: ∀i∈as,(x0m P ops i).isSome=true/\v1v ops i=true
 first: ∀i∈ph1,∀o,ops[i]?=some o->(∀e∈o.after,Region.binds .any e=true->e.on<i/\e.on∈ph1)/\w1s o.op=true/\ ∀j∈as,(bx P ops j).1∉o.looksAt ops/\o.dst≠some (bx P ops j).1
 last: ∀k∈ph2,∀j,j∈ph1\/j∈as->zP ops j 12 k=true
variable {ph1 as ph2:List Nat} (C:Late P ops ph1 as ph2)
include C
section
variable {E:Ent} {Q:Exit->Act->World->Prop} {N f2:Nat} {p2:Plan}
 (h2:JR ops N p2 f2 (X1r (X1r (Array.replicate ops.size false) ph1) as)=true) (h2':qv ops N (X1r (X1r (Array.replicate ops.size false) ph1) as) p2=true)
 (hK: ∀a' w' g' F' s',FSRep E a' w' g' F' s'->K s'->Q .normal a' w')
include C h2 h2' hK
end
end
def Plan.inB (ph1:List Nat):Plan->Bool
 | .done=>true
 | .step i ws rest=>ph1.contains i&&(ws.all ph1.contains&&rest.inB ph1)
 | .alt a b=>a.inB ph1&&b.inB ph1
section
variable {P:Program} {ops:Array Oper} {ph1:List Nat}
end
section
variable {P:Program} {s:PFS} {K:PFS->Prop}
end
end Go.Pv
end
