/- Parts of the walk: PvAq, PvAr, PvAs, PvAt. -/
import Derived.Test.YthlnpmkcmbohaaaGreatDoorZBD
import Derived.RangeFuncRecord
set_option linter.unusedVariables false
set_option linter.unusedSimpArgs false
section
namespace Go.Pv
structure Live (l:Nat) (o:Obj) (w:World) (g:Gh):Prop where
 is:w.heap[l]?=some o
 apart: ∀i,i<g.n->g.mu i≠l
section
variable {P:Program} {l:Nat} {o:Obj} {w w':World} {g g':Gh}
def Ent.turn (E:Ent)(l:Nat)(o:Obj):Ent:= { E with w:=E.w.putObj l o }
end
def G1o (r:Loop)(c:Code):Obj:= .loop { r with state:= .done,pending:=some c }
def H2f (l:Nat)(r:Loop)(Q:Qf->Prop)(Qx:Code->Qf->Prop)(w:World)(g:Gh)(e:Ending)(w':World):Prop:=
 ∃g' st',StoreOK w' g' st'/\((e= .returned (.bool true)/\Ext w g w' g'/\Q st')\/ ∃c,e= .returned (.bool false)/\Ext (w.putObj l (G1o r c)) g w' g'/\Qx c st')
def PYields (P:Program)(l:Nat)(r:Loop)(w0:World)(g0:Gh)(args:List PV)(st:Qf)(Q:Qf->Prop)(Qx:Code->Qf->Prop):Prop:=
 ∀w g vs,Ext w0 g0 w g->StoreOK w g st->x1w w g vs args->Live l (.loop r) w g->
  ∃fn tmps assign body,(Instr.yield l vs).run P w= .ok (.round l fn tmps assign body) w/\RoundIn Fence.wide 0 P l fn tmps assign body w (H2f l r Q Qx w g)
theorem PYields.mono {P:Program}{l:Nat}{r:Loop}{w0:World}{g0:Gh}{args:List PV}{st:Qf}{Q Q':Qf->Prop}{Qx Qx':Code->Qf->Prop}(h:PYields P l r w0 g0 args st Q Qx)(hq: ∀st,Q st->Q' st)(hx: ∀c st,Qx c st->Qx' c st):
 PYields P l r w0 g0 args st Q' Qx':=fun w g vs hb hs hr hl=>by
 obtain⟨fn,tmps,assign,body,h1,h2⟩:=h w g vs hb hs hr hl;refine⟨fn,tmps,assign,body,h1,h2.mono ?_⟩;rintro e w' ⟨g',st',hs,⟨h1,h2,h3⟩ | ⟨c,h1,h2,h3⟩⟩;exact⟨g',st',hs,.inl ⟨h1,h2,hq _ h3⟩⟩;exact⟨g',st',hs,.inr ⟨c,h1,h2,hx _ _ h3⟩⟩
section
variable {P:Program} {E:Ent} {l:Nat} {r:Loop} {Q Q':Exit->PFS->Prop} {Qx Qx':Code->Exit->PFS->Prop} {s:PFS}
end
section
variable {P:Program} {E:Ent} {l:Nat} {r:Loop} {a:Act} {w:World} {g:Gh} {F:Fr} {s:PFS}
end
section
variable {P:Program} {E:Ent} {l:Nat} {r:Loop}
end
section
variable {P:Program} {E:Ent} {l:Nat} {r:Loop} {s:PFS} {K:PFS->Prop} {Kx:Code->PFS->Prop} {d:Option Tmp} {ty:TypeId} {pos:String} {af:Array Edge}
end
section
variable {P:Program} {E:Ent} {Q Q':Exit->PFS->Prop} {s:PFS}
end
section
variable {P:Program} {ops:Array Oper} {ph1 ph2:List Nat} (C:Late P ops ph1 [] ph2)
include C
end
section
variable {P:Program} {E:Ent} {lp:Nat} {r:Loop} {s:PFS} {K:PFS->Prop} {Kx:Code->PFS->Prop} {d:Option Tmp} {ty:TypeId} {pos:String} {af:Array Edge}
end
def Low (n:Nat)(p:PV):Prop:= ∀w g v,Rep w g v p->n<=g.n->Rep w { g with n:=n } v p
theorem zZ {w0:World}{g0:Gh}{v0:Value}{p:PV}(h:Rep w0 g0 v0 p):Low g0.n p:=by
 induction h with
 | junk v=>exact fun _ _ _ _ _=> .junk _
 | sc v=>intro w g v hr hn;cases hr;exact .sc _
 | agg vs cs hl h ih=>intro w g v hr hn;cases hr with | agg vs' _ hl' h'=>exact .agg vs' cs hl' fun j hj=>ih j hj _ _ _ (h' j hj) hn
 | tup vs cs hl h ih=>intro w g v hr hn;cases hr with | tup vs' _ hl' h'=>exact .tup vs' cs hl' fun j hj=>ih j hj _ _ _ (h' j hj) hn
 | nil t ad ht=>
  intro w g v hr hn;cases hr with
  | nil _ ad' ht'=>exact .nil t ad' ht'
  | sl _ _ b off sz cap cf ht' hfull hcap hsz hvis hc hr=>exact .sl t [] b off sz cap cf ht' hfull hcap hsz hvis hc fun i j hi hj=>(by simp at hi)
 | sl t es b off sz cap cf ht hfull hcap hsz hvis hc hr ih=>
  intro w g v hr hn;cases hr with
  | nil _ ad' ht'=>exact .nil t ad' ht'
  | sl _ _ b' off' sz' cap' cf' ht' hfull' hcap' hsz' hvis' hc' hr'=>
   exact .sl t es b' off' sz' cap' cf' ht' hfull' hcap' hsz' hvis' hc' fun i j hi hj=>ih i j hi (by rw[<-hsz i hi,hsz' i hi];exact hj) _ _ _ (hr' i j hi hj) hn
 | gms i off len cap hi hcap=>intro w g v hr hn;cases hr with | gms _ _ _ cap' hi' hcap'=>exact Rep.gms (g:= { g with n:=g0.n }) i off len cap' hi hcap'
 | gr i len cap hi hcap=>intro w g v hr hn;cases hr with | gr _ _ _ hi' hcap'=>exact Rep.gr (g:= { g with n:=g0.n }) i len cap hi hcap'
 | gp i off hi=>intro w g v hr hn;cases hr with | gp _ _ hi'=>exact Rep.gp (g:= { g with n:=g0.n }) i off hi
 | ep cs off b base cf hvis hc hr ih=>intro w g v hr hn;cases hr with | ep _ _ b' base' cf' hvis' hc' hr'=>exact Rep.ep (g:= { g with n:=g0.n }) cs off b' base' cf' hvis' hc' fun j hj=>ih j hj _ _ _ (hr' j hj) hn
 | fn f us vs bs cs hk hl h0 h ih0 ih=>intro w g v hr hn;cases hr with | fn _ us' vs' _ _ hk' hl' h0' h'=>exact .fn f us' vs' bs cs hk' hl' (fun j hj=>ih0 j hj _ _ _ (h0' j hj) hn) fun j hj=>ih j hj _ _ _ (h' j hj) hn
 | pre all n b off sz cap cf hn0 hcap hsz hvis hc hr ih=>
  intro w g v hr hn;cases hr with
  | pre _ _ b' off' sz' cap' cf' hn' hcap' hsz' hvis' hc' hr'=>
   exact Rep.pre (g:= { g with n:=g0.n }) all n b' off' sz' cap' cf' hn' hcap' hsz' hvis' hc' fun i j hi hj=>ih i j hi (by rw[<-hsz i hi,hsz' i hi];exact hj) _ _ _ (hr' i j hi hj) hn
theorem X1x (n:Nat):Low n .junk:=fun _ _ _ _ _=> .junk _
theorem Y1j (n:Nat)(v:Value):Low n (.sc v):=fun w g v hr hn=>by cases hr;exact .sc _
theorem j5 {n:Nat}{cs:List PV}(h: ∀c∈cs,Low n c)(j:Nat):Low n (cs.getD j .junk):=by by_cases hj:j<cs.length;exact h _ (Qq _ _ _ hj);rw[q_a,C2 oG];exact X1x n
theorem q1k {n:Nat}{cs:List PV}(h: ∀c∈cs,Low n c):Low n (.agg cs):=by intro w g v hr hn;cases hr with | agg vs _ hl h'=>exact .agg vs cs hl fun j hj=>j5 h j _ _ _ (h' j hj) hn
theorem q1j {n:Nat}{cs:List PV}(h: ∀c∈cs,Low n c):Low n (.tup cs):=by intro w g v hr hn;cases hr with | tup vs _ hl h'=>exact .tup vs cs hl fun j hj=>j5 h j _ _ _ (h' j hj) hn
theorem w1h {n:Nat}{t:Tag}{es:List PV}(h: ∀e∈es,∀c∈e.cells,Low n c):Low n (.sl t es):=by
 intro w g v hr hn;cases hr with
 | nil _ ad ht=>exact .nil t ad ht
 | sl _ _ b off sz cap cf ht hfull hcap hsz hvis hc hr'=>
  exact .sl t es b off sz cap cf ht hfull hcap hsz hvis hc fun i j hi hj=>j5 (h _ (Qq _ _ _ hi)) j _ _ _ (hr' i j hi hj) hn
def H2k (n:Nat):PV->Prop
 | .sl (.fresh _) es=>Low n (.sl .no es)
 | p=>Low n p
theorem yQ {P:Program}{f:FuncId}{args:List PV}{st:Qf}{Q:PV->Qf->Prop}(h:PCalls P f args st fun r st'=>(∃X,st'=st++X)/\H2k st.length r/\Q r st):PCalls P f args st (fun r st'=>Q r st'/\st'=st):=by
 intro w g vs hs hr;refine(h w g vs hs hr).mono ?_;rintro e w' ⟨v,g',r,st',rfl,hx,ho,hv,⟨X,rfl⟩,hlow,hq⟩;have hn:st.length=g.n:=hs.n.symm;have hle:g.n<=g'.n:=hx.le.n;have hgd: ∀i,i<g.n->(st++X).getD i []=st.getD i []:=fun i hi=>(by rw[q_a,B6 oG,<-q_a]);refine⟨v, { g' with n:=g.n },r,st,rfl,⟨⟨BD _,hx.le.mu,hx.le.vis,hx.le.cell⟩,hx.os,hx.tape,hx.output,hx.size,hx.old,fun i hi hi'=>absurd hi (Nat.not_le_of_lt hi')⟩,⟨hs.n,fun i j hi hj=>ho.inj i j (q_e hi hle) (q_e hj hle),fun i hi=>ho.lt i (q_e hi hle),fun i hi hne=>ho.vis i (q_e hi hle) (by rw[hgd i hi];exact hne),fun i hi=> ?_,ho.none,ho.tab⟩,?_,hq,rfl⟩;have h1:=ho.holds i (q_e hi hle);rw[hgd i hi] at h1;intro j hj;obtain⟨z1,c,z2,z3⟩:=h1 j hj;obtain⟨_,c0,_,z4⟩:=hs.holds i hi j hj;exact⟨z1,c,z2,zZ z4 _ _ _ z3 hle⟩;have hl:Low g.n r->Rep w' g' v r->Rep w' { g' with n:=g.n } v r:=fun h hr=>h _ _ _ hr hle;rw[hn] at hlow;cases r with
 | sl t es=>
  cases t with
  | fresh sz=>
   obtain⟨q1,q2⟩:=hv;refine⟨hlow _ _ _ q1 hle,?_⟩;rcases q2 with ⟨b,b1,b2,b3,b4,b5⟩ | q2;exact .inl ⟨b,b1,b2,b3,fun i hi=>b4 i (q_e hi hle),b5⟩;exact .inr q2
  | _=>exact hl hlow hv
 | _=>exact hl hlow hv
end Go.Pv
end
