/- Parts of the walk: PvAq, PvAr, PvAs, PvAt, PvAv, PvAw, PvAx. -/
import Derived.Test.YtofoadghajnglaaGreatDoorZBD
import Derived.RangeFuncRecord
set_option linter.unusedVariables false
set_option linter.unusedSimpArgs false
section
/-A range over a function:the loop's record,a round,what an iterator promises and what is promised to it. -/
namespace Go.Pv
def k3w :Obj→Bool
 | .cells .. =>false
 | _=>true
structure Live (l:Nat) (o:Obj) (w:World) (g:Gh):Prop where
 is:w.heap[l]?=some o
 apart: ∀i,i<g.n→g.mu i≠l
section
variable {P:Program} {l:Nat} {o:Obj} {w w':World} {g g':Gh}
def Ent.turn (E:Ent) (l:Nat) (o:Obj):Ent:= { E with w:=E.w.putObj l o }
end
def q1x (r:Loop) (c:Code):Obj:= .loop { r with state:= .done,pending:=some c }
def YRes (l:Nat) (r:Loop) (Q:Q0f→Prop) (Qx:Code→Q0f→Prop) (w:World) (g:Gh) (e:Ending) (w':World):Prop:=
 ∃g' st',StoreOK w' g' st'∧((e= .returned (.bool true)∧Ext w g w' g'∧Q st')∨ ∃c,e= .returned (.bool false)∧Ext (w.putObj l (q1x r c)) g w' g'∧Qx c st')
def j1l (P:Program) (l:Nat) (r:Loop) (w0:World) (g0:Gh) (args:List PV) (st:Q0f) (Q:Q0f→Prop) (Qx:Code→Q0f→Prop):Prop:=
 ∀w g vs,Ext w0 g0 w g→StoreOK w g st→Reps w g vs args→Live l (.loop r) w g→
  ∃fn tmps assign body,(Instr.yield l vs).run P w= .ok (.round l fn tmps assign body) w∧RoundIn Fence.wide 0 P l fn tmps assign body w (YRes l r Q Qx w g)
def X4q (P:Program) (f:FuncId) (l:Nat) (r:Loop) (w:World) (g:Gh) (args:List PV) (st:Q0f) (Q:Q0f→Prop) (Qx:Code→Q0f→Prop):Prop:=
 ∀vs,StoreOK w g st→Reps w g vs args→Live l (.loop r) w g→
  Calls P f vs w fun e w'=> ∃v g' st',e= .returned v∧StoreOK w' g' st'∧((Ext w g w' g'∧Q st')∨ ∃c,Ext (w.putObj l (q1x r c)) g w' g'∧Qx c st')
def k3r (E:Ent) (l:Nat) (r:Loop) (Q:Exit→PFS→Prop) (Qx:Code→Exit→PFS→Prop) (e:Exit) (a:Act) (w:World):Prop:=
 post E Q e a w∨ ∃c,post (E.turn l (q1x r c)) (Qx c) e a w
def PW2 (P:Program) (E:Ent) (l:Nat) (r:Loop) (c:Code) (Q:Exit→PFS→Prop) (Qx:Code→Exit→PFS→Prop) (s:PFS):Prop:=
 ∀a w g F,FSRep E a w g F s→c.wpIn (fen E.rd) 0 P (k3r E l r Q Qx) a w
section
variable {P:Program} {E:Ent} {l:Nat} {r:Loop} {Q Q':Exit→PFS→Prop} {Qx Qx':Code→Exit→PFS→Prop} {s:PFS}
end
def K3f (op:Op) (r:Operand→PV):Option (Nat×List PV):=
 match op with
 | .call { callee:= .value f,args,.. } =>
  match r f with
  | .fn (.yield l) [] []=>some (l,args.toList.map r)
  | _=>none
 | _=>none
section
variable {P:Program} {E:Ent} {l:Nat} {r:Loop} {a:Act} {w:World} {g:Gh} {F:Fr} {s:PFS}
end
def POy0 (P:Program) (E:Ent) (l:Nat) (r:Loop) (o:Oper) (K:PFS→Prop) (Kx:Code→PFS→Prop) (s:PFS):Prop:=
 match K3f o.op s.ev with
 | some (l',xs)=>l'=l∧xs.all PV.closed2=true∧j1l P l r E.w E.g (xs.map PV.forget2) s.st (fun st=>K (({ s with st:=st } :PFS).put o.dst (.sc (.bool true)))) (fun c st=>Kx c (({ s with st:=st } :PFS).put o.dst (.sc (.bool false))))
 | none=>False
def OLy0 (P:Program) (E:Ent) (l:Nat) (r:Loop) (ops:List Oper):Nat→List Oper→(PFS→Prop)→(Code→PFS→Prop)→PFS→Prop
 | _,[],K,_,s=>K s
 | 0,o::rest,K,Kx,s=>
  match o.guard with
  | none=>POy0 P E l r o (OL0 P ops rest K) (fun c=>OL0 P ops rest (Kx c)) s
  | some (j,want)=>GK0 (Z0j ops s j want) want (POy0 P E l r o (OL0 P ops rest K) (fun c=>OL0 P ops rest (Kx c)) s) (OL0 P ops rest K (s.put o.dst (.tup [])))
 | n+1,o::rest,K,Kx,s=>
  match o.guard with
  | none=>OC0 P o (OLy0 P E l r ops n rest K Kx) s
  | some (j,want)=>GK0 (Z0j ops s j want) want (OC0 P o (OLy0 P E l r ops n rest K Kx) s) (OLy0 P E l r ops n rest K Kx (s.put o.dst (.tup [])))
section
variable {P:Program} {E:Ent} {l:Nat} {r:Loop}
end
def OLy (P:Program) (E:Ent) (l:Nat) (r:Loop) (ops:List Oper) (n:Nat) (rest:List Oper) (K:PFS→Prop) (Kx:Code→PFS→Prop) [Stop ops] [Stop rest] [Stop K] [Stop Kx] (s:PFS):Prop:=OLy0 P E l r ops n rest K Kx s
def POy (P:Program) (E:Ent) (l:Nat) (r:Loop) (o:Oper) (K:PFS→Prop) (Kx:Code→PFS→Prop) [Stop o] [Stop K] [Stop Kx] (s:PFS):Prop:=POy0 P E l r o K Kx s
def YK (P:Program) (E:Ent) (l:Nat) (r:Loop) (p:PV) (xs:List PV) (d:Option Tmp) (K:PFS→Prop) (Kx:Code→PFS→Prop) [Stop K] [Stop Kx] (s:PFS):Prop:=
 match (match p with | .fn (.yield l) [] []=>some (l,xs) | _=>none:Option (Nat×List PV)) with
 | some (l',xs)=>l'=l∧xs.all PV.closed2=true∧j1l P l r E.w E.g (xs.map PV.forget2) s.st (fun st=>K (({ s with st:=st } :PFS).put d (.sc (.bool true)))) (fun c st=>Kx c (({ s with st:=st } :PFS).put d (.sc (.bool false))))
 | none=>False
def Ylds (P:Program) (E:Ent) (l:Nat) (r:Loop) (xs:List PV) (st:Q0f) (K:Q0f→Prop) (Kx:Code→Q0f→Prop) [Stop K] [Stop Kx]:Prop:=j1l P l r E.w E.g xs st K Kx
section
variable {P:Program} {E:Ent} {l:Nat} {r:Loop} {s:PFS} {K:PFS→Prop} {Kx:Code→PFS→Prop} {d:Option Tmp} {ty:TypeId} {pos:String} {af:Array Edge}
@[go_sem] theorem X4r {ops rest:List Oper} {op:Op} :OLy P E l r ops 0 (⟨d,op,ty,pos,af,none⟩::rest) K Kx s=POy P E l r ⟨d,op,ty,pos,af,none⟩ (OL P ops rest K) (fun c=>OL P ops rest (Kx c)) s:=(rfl)
@[go_sem] theorem Z4x {ops rest:List Oper} {op:Op} {j:Nat} {want:Bool} :OLy P E l r ops 0 (⟨d,op,ty,pos,af,some (j,want)⟩::rest) K Kx s=
 GK (Z0j ops s j want) want (POy P E l r ⟨d,op,ty,pos,af,some (j,want)⟩ (OL P ops rest K) (fun c=>OL P ops rest (Kx c)) s) (OL P ops rest K (s.put d (.tup []))):=(rfl)
@[go_sem] theorem X4s {ops rest:List Oper} {n:Nat} {op:Op} :OLy P E l r ops (n+1) (⟨d,op,ty,pos,af,none⟩::rest) K Kx s=OC P ⟨d,op,ty,pos,af,none⟩ (OLy P E l r ops n rest K Kx) s:=(rfl)
@[go_sem] theorem Z4y {ops rest:List Oper} {n:Nat} {op:Op} {j:Nat} {want:Bool} :OLy P E l r ops (n+1) (⟨d,op,ty,pos,af,some (j,want)⟩::rest) K Kx s=
 GK (Z0j ops s j want) want (OC P ⟨d,op,ty,pos,af,some (j,want)⟩ (OLy P E l r ops n rest K Kx) s) (OLy P E l r ops n rest K Kx (s.put d (.tup []))):=(rfl)
@[go_sem] theorem j3f {f:Operand} {xs:List Operand} {ts:Array TypeId} {gd:Option (Nat×Bool)} :POy P E l r ⟨d,.call ⟨.value f,xs.toArray,ts⟩,ty,pos,af,gd⟩ K Kx s=YK P E l r (s.ev f) (xs.map s.ev) d K Kx s:=by
 show POy0 _ _ _ _ _ _ _ _=_
 unfold POy0 K3f YK
 simp only
@[go_sem] theorem x3z {xs:List PV} {l':Nat} :YK P E l r (.fn (.yield l') [] []) xs d K Kx s=(l'=l∧xs.all PV.closed2=true∧Ylds P E l r (xs.map PV.forget2) s.st (fun st=>K (({ s with st:=st } :PFS).put d (.sc (.bool true)))) (fun c st=>Kx c (({ s with st:=st } :PFS).put d (.sc (.bool false))))):=(rfl)
end
end Go.Pv
end
section
/-A range over a function:the iterator's function,the loop in its caller,the caller's return. -/
namespace Go.Pv
def X4l (Q:Q0f→Prop):Exit→PFS→Prop
 | .normal,s | .ret,s=>Q s.st
 | _,_=>False
def mark (D:Nat):Deferred:= { target:= .collected D,args:= #[] }
def Lat (E E':Ent):Prop:=
 E'=E∨ ∃D,E'.rd=none∧E'.df= [mark D]∧Ext E.w E.g E'.w E'.g∧E.w.heap.size≤D∧Live D (.deferred (some [])) E'.w E'.g
def k3q (E:Ent) (Q:Exit→PFS→Prop) (e:Exit) (a:Act) (w:World):Prop:= ∃E' g F s,Lat E E'∧FSRep E' a w g F s∧Q e s
def PWD (P:Program) (E:Ent) (c:Code) (Q:Exit→PFS→Prop) (s:PFS):Prop:=
 E.rd=none→E.df= []→ ∀a w g F,FSRep E a w g F s→c.wpIn Fence.wide 0 P (k3q E Q) a w
section
variable {P:Program} {E:Ent} {Q Q':Exit→PFS→Prop} {s:PFS}
end
def Z4i (J:Q0f→Prop) (Jx:Code→Q0f→Prop):Exit→PFS→Prop
 | .normal,s=>J s.st
 | .ret,s=>Jx .ret s.st
 | .exit id,s=>Jx (.exit id) s.st
 | _,_=>False
def X4k (Q:Exit→PFS→Prop):Code→PFS→Prop
 | .ret,s=>Q .ret s
 | .exit id,s=>Q (.exit id) s
 | _,_=>False
end Go.Pv
end
section
/-A drawn statement that calls yield:all the rest first,then the call,then what waits for it. -/
namespace Go.Pv
section
variable {P:Program} {ops:Array Oper} {ph1 ph2:List Nat} (C:Late P ops ph1 [] ph2)
include C
end
def YW0 (P:Program) (E:Ent) (l:Nat) (r:Loop) (ops:List Oper) (y:Nat) (p3:Plan) (K:PFS→Prop) (Kx:Code→PFS→Prop) (s:PFS):Prop:=
 match ops[y]? with
 | some o=>o.guard=none∧POy0 P E l r o (OW0 P ops p3 K) (fun c=>OW0 P ops p3 (Kx c)) s
 | none=>False
def Z4g (P:Program) (ops:Array Oper) (N:Nat) (ph1:List Nat) (y:Nat) (ph3:List Nat) (p1 p2 p3:Plan):Bool:=
 y1w P ops N ph1 [] (y::ph3) p1 p2&&(decide (Region.ready .any ops (J0t (Array.replicate ops.size false) ph1)= [y])&&
 (H0i ops N p3 ph3.length ((J0t (Array.replicate ops.size false) ph1).setIfInBounds y true)&&W1y ops N ((J0t (Array.replicate ops.size false) ph1).setIfInBounds y true) p3))
section
variable {P:Program} {E:Ent} {lp:Nat} {r:Loop} {s:PFS} {K:PFS→Prop} {Kx:Code→PFS→Prop} {d:Option Tmp} {ty:TypeId} {pos:String} {af:Array Edge}
def YW (P:Program) (E:Ent) (l:Nat) (r:Loop) (ops:List Oper) (y:Nat) (p3:Plan) (K:PFS→Prop) (Kx:Code→PFS→Prop) [Stop ops] [Stop p3] [Stop K] [Stop Kx] (s:PFS):Prop:=YW0 P E l r ops y p3 K Kx s
def YO (P:Program) (E:Ent) (l:Nat) (r:Loop) (o:Option Oper) (K:PFS→Prop) (Kx:Code→PFS→Prop) [Stop K] [Stop Kx] (s:PFS):Prop:=
 match o with
 | some o=>o.guard=none∧POy0 P E l r o K Kx s
 | none=>False
@[go_sem] theorem X4o {ops:List Oper} {y:Nat} {p3:Plan} :YW P E lp r ops y p3 K Kx s=YO P E lp r (ops[y]?) (OW P ops p3 K) (fun c=>OW P ops p3 (Kx c)) s:=(rfl)
@[go_sem] theorem X4p {op:Op} :YO P E lp r (some ⟨d,op,ty,pos,af,none⟩) K Kx s=POy P E lp r ⟨d,op,ty,pos,af,none⟩ K Kx s:=by
 show((none:Option (Nat×Bool))=none∧_)=_
 simp only [true_and];rfl
end
end Go.Pv
end
section
/-At a function's return:the objects of the store that it has made for itself are let go. -/
namespace Go.Pv
def Low (n:Nat) (p:PV):Prop:= ∀w g v,Rep w g v p→n≤g.n→Rep w { g with n:=n } v p
theorem K1r {w0:World} {g0:Gh} {v0:Value} {p:PV} (h:Rep w0 g0 v0 p):Low g0.n p:=by
 induction h with
 | junk v=>exact fun _ _ _ _ _=> .junk _
 | sc v=>intro w g v hr hn;cases hr;exact .sc _
 | agg vs cs hl h ih=>intro w g v hr hn;cases hr with | agg vs' _ hl' h'=>exact .agg vs' cs hl' fun j hj=>ih j hj _ _ _ (h' j hj) hn
 | tup vs cs hl h ih=>intro w g v hr hn;cases hr with | tup vs' _ hl' h'=>exact .tup vs' cs hl' fun j hj=>ih j hj _ _ _ (h' j hj) hn
 | nil t ad ht=>
  intro w g v hr hn
  cases hr with
  | nil _ ad' ht'=>exact .nil t ad' ht'
  | sl _ _ b off sz cap cf ht' hfull hcap hsz hvis hc hr=>exact .sl t [] b off sz cap cf ht' hfull hcap hsz hvis hc fun i j hi hj=>(by simp at hi)
 | sl t es b off sz cap cf ht hfull hcap hsz hvis hc hr ih=>
  intro w g v hr hn
  cases hr with
  | nil _ ad' ht'=>exact .nil t ad' ht'
  | sl _ _ b' off' sz' cap' cf' ht' hfull' hcap' hsz' hvis' hc' hr'=>
   exact .sl t es b' off' sz' cap' cf' ht' hfull' hcap' hsz' hvis' hc' fun i j hi hj=>ih i j hi (by rw [←hsz i hi,hsz' i hi];exact hj) _ _ _ (hr' i j hi hj) hn
 | gms i off len cap hi hcap=>intro w g v hr hn;cases hr with | gms _ _ _ cap' hi' hcap'=>exact Rep.gms (g:= { g with n:=g0.n }) i off len cap' hi hcap'
 | gr i len cap hi hcap=>intro w g v hr hn;cases hr with | gr _ _ _ hi' hcap'=>exact Rep.gr (g:= { g with n:=g0.n }) i len cap hi hcap'
 | gp i off hi=>intro w g v hr hn;cases hr with | gp _ _ hi'=>exact Rep.gp (g:= { g with n:=g0.n }) i off hi
 | ep cs off b base cf hvis hc hr ih=>intro w g v hr hn;cases hr with | ep _ _ b' base' cf' hvis' hc' hr'=>exact Rep.ep (g:= { g with n:=g0.n }) cs off b' base' cf' hvis' hc' fun j hj=>ih j hj _ _ _ (hr' j hj) hn
 | fn f us vs bs cs hk hl h0 h ih0 ih=>intro w g v hr hn;cases hr with | fn _ us' vs' _ _ hk' hl' h0' h'=>exact .fn f us' vs' bs cs hk' hl' (fun j hj=>ih0 j hj _ _ _ (h0' j hj) hn) fun j hj=>ih j hj _ _ _ (h' j hj) hn
 | pre all n b off sz cap cf hn0 hcap hsz hvis hc hr ih=>
  intro w g v hr hn
  cases hr with
  | pre _ _ b' off' sz' cap' cf' hn' hcap' hsz' hvis' hc' hr'=>
   exact Rep.pre (g:= { g with n:=g0.n }) all n b' off' sz' cap' cf' hn' hcap' hsz' hvis' hc' fun i j hi hj=>ih i j hi (by rw [←hsz i hi,hsz' i hi];exact hj) _ _ _ (hr' i j hi hj) hn
theorem H2k (n:Nat):Low n .junk:=fun _ _ _ _ _=> .junk _
theorem j2l (n:Nat) (v:Value):Low n (.sc v):=fun w g v hr hn=>by cases hr;exact .sc _
theorem W1s {n:Nat} {cs:List PV} (h: ∀c∈cs,Low n c) (j:Nat):Low n (cs.getD j .junk):=by
 by_cases hj:j<cs.length
 · exact h _ (Q0p _ _ _ hj)
 · rw [List.getD_eq_getElem?_getD,List.getElem?_eq_none (by omega)];exact H2k n
theorem y2f {n:Nat} {cs:List PV} (h: ∀c∈cs,Low n c):Low n (.agg cs):=by
 intro w g v hr hn;cases hr with | agg vs _ hl h'=>exact .agg vs cs hl fun j hj=>W1s h j _ _ _ (h' j hj) hn
theorem y2e {n:Nat} {cs:List PV} (h: ∀c∈cs,Low n c):Low n (.tup cs):=by
 intro w g v hr hn;cases hr with | tup vs _ hl h'=>exact .tup vs cs hl fun j hj=>W1s h j _ _ _ (h' j hj) hn
theorem W3e {n:Nat} {t:Tag} {es:List PV} (h: ∀e∈es,∀c∈e.cells,Low n c):Low n (.sl t es):=by
 intro w g v hr hn
 cases hr with
 | nil _ ad ht=>exact .nil t ad ht
 | sl _ _ b off sz cap cf ht hfull hcap hsz hvis hc hr'=>
  exact .sl t es b off sz cap cf ht hfull hcap hsz hvis hc fun i j hi hj=>W1s (h _ (Q0p _ _ _ hi)) j _ _ _ (hr' i j hi hj) hn
def LowR (n:Nat):PV→Prop
 | .sl (.fresh _) es=>Low n (.sl .no es)
 | p=>Low n p
theorem z1o {P:Program} {f:FuncId} {args:List PV} {st:Q0f} {Q:PV→Q0f→Prop} (h:PCalls P f args st fun r st'=>(∃X,st'=st++X)∧LowR st.length r∧Q r st):PCalls P f args st (fun r st'=>Q r st'∧st'=st):=by
 intro w g vs hs hr
 refine(h w g vs hs hr).mono ?_
 rintro e w' ⟨v,g',r,st',rfl,hx,ho,hv,⟨X,rfl⟩,hlow,hq⟩
 have hn:st.length=g.n:=hs.n.symm
 have hle:g.n≤g'.n:=hx.le.n
 have hgd: ∀i,i<g.n→(st++X).getD i []=st.getD i []:=fun i hi=>by rw [List.getD_eq_getElem?_getD,List.getElem?_append_left (by omega),←List.getD_eq_getElem?_getD]
 refine⟨v, { g' with n:=g.n },r,st,rfl,⟨⟨Nat.le_refl _,hx.le.mu,hx.le.vis,hx.le.cell⟩,hx.os,hx.tape,hx.output,hx.size,hx.old,fun i hi hi'=>absurd hi (Nat.not_le_of_lt hi')⟩,⟨hs.n,fun i j hi hj=>ho.inj i j (Nat.lt_of_lt_of_le hi hle) (Nat.lt_of_lt_of_le hj hle),fun i hi=>ho.lt i (Nat.lt_of_lt_of_le hi hle),fun i hi hne=>ho.vis i (Nat.lt_of_lt_of_le hi hle) (by rw [hgd i hi];exact hne),fun i hi=> ?_,ho.none,ho.tab⟩,?_,hq,rfl⟩
 · have h1:=ho.holds i (Nat.lt_of_lt_of_le hi hle)
   rw [hgd i hi] at h1
   intro j hj
   obtain⟨z1,c,z2,z3⟩:=h1 j hj
   obtain⟨_,c0,_,z4⟩:=hs.holds i hi j hj
   exact⟨z1,c,z2,K1r z4 _ _ _ z3 hle⟩
 · have hl:Low g.n r→Rep w' g' v r→Rep w' { g' with n:=g.n } v r:=fun h hr=>h _ _ _ hr hle
   rw [hn] at hlow
   cases r with
   | sl t es=>
    cases t with
    | fresh sz=>
     obtain⟨q1,q2⟩:=hv
     refine⟨hlow _ _ _ q1 hle,?_⟩
     rcases q2 with ⟨b,b1,b2,b3,b4,b5⟩ | q2
     · exact .inl ⟨b,b1,b2,b3,fun i hi=>b4 i (Nat.lt_of_lt_of_le hi hle),b5⟩
     · exact .inr q2
    | _=>exact hl hlow hv
   | _=>exact hl hlow hv
end Go.Pv
end
section
/-Boxes of the frame's own lent for a call:the function sees them,and cannot write them. -/
namespace Go.Pv
def PV.lend1 (L:Q0f):PV→PV
 | .mr j n _=> .sl .no (((L.getD j []).take n).map PV.forget1)
 | p=>p.forget1
def PV.lend2 (L:Q0f):PV→PV
 | .lp i off=> .ep ((L.getD i []).map (PV.lend1 L)) off
 | .mr j n _=> .sl .no (((L.getD j []).take n).map PV.forget1)
 | p=>p.forget2
def PV.notU :PV→Bool
 | .sl _ _ | .mr _ _ _ | .sc (.bool _) | .sc (.int .i64 _)=>true
 | _=>false
def y2l (L:Q0f) (e:List Nat):PV→Prop
 | .mr j n _=>n≤e.getD j 0∧ ∀o,o<n→((L.getD j []).getD o .junk).closed1=true
 | p=>p.closed1=true
def y2k (L:Q0f) (e:List Nat):PV→Prop
 | .lp i _=>(L.getD i []).length≤e.getD i 0∧0<(L.getD i []).length∧ ∀o,o<(L.getD i []).length→y2l L e ((L.getD i []).getD o .junk)
 | .mr j n _=>n≤e.getD j 0∧ ∀o,o<n→((L.getD j []).getD o .junk).closed1=true
 | p=>p.closed2=true
structure LendOK (L:Q0f) (e:List Nat) (xs:List PV):Prop where
 ext: ∀i o,o<e.getD i 0→o<(L.getD i []).length∧((L.getD i []).getD o .junk).notU=true
 args: ∀a∈xs,y2k L e a
 low: ∀a∈xs,Low 0 (a.lend2 L)
def uwV (v:Value):Prop:= ∃x,v= .int .u64 x∨v= .int .u32 x
inductive Wordy :PV→Prop
 | sc (v:Value):Wordy (.sc v)
 | agg (cs:List PV) (h: ∀c∈cs,Wordy c):Wordy (.agg cs)
 | tup (cs:List PV) (h: ∀c∈cs,Wordy c):Wordy (.tup cs)
 | sl (es:List PV) (h: ∀j,j<es.length→ ∃x,uwV x∧es.getD j .junk= .sc x):Wordy (.sl .no es)
theorem Wordy.turn {w:World} {g g':Gh} (hv: ∀b off x,uwV x→off<g.vis b→w.cell? ⟨b,off,none⟩=some x→g'.vis b=g.vis b): ∀ {p:PV},Wordy p→ ∀ {v:Value},Rep w g v p→Rep w g' v p:=by
 intro p hp
 induction hp with
 | sc v=>intro v' h;cases h;exact .sc _
 | agg cs hc ih=>intro v h;cases h with | agg vs _ hl h=>exact .agg vs cs hl fun j hj=>ih _ (Q0p _ _ _ hj) (h j hj)
 | tup cs hc ih=>intro v h;cases h with | tup vs _ hl h=>exact .tup vs cs hl fun j hj=>ih _ (Q0p _ _ _ hj) (h j hj)
 | sl es hes=>
  intro v h
  cases h with
  | nil t ad ht=>exact .nil _ _ rfl
  | sl t es b off sz cap cf ht hfull hcap hsz hvis hc hr=>
   by_cases h0:es= []
   · subst h0
     exact .sl _ [] b off sz cap cf rfl hfull hcap hsz (fun h=>by simp at h) (fun i j hi=>by simp at hi) (fun i j hi=>by simp at hi)
   have hl:0<es.length:=List.length_pos_iff.2 h0
   have hs:sz=1:=by
    have h1:=hsz 0 hl
    obtain⟨x,_,hx⟩:=hes 0 hl
    rw [hx] at h1
    exact h1.symm
   subst hs
   have hvb:g'.vis b=g.vis b:=by
    have h1:=hr 0 0 hl (by omega)
    have h2:=hc 0 0 hl (by omega)
    obtain⟨x,hxw,hx⟩:=hes 0 hl
    rw [hx] at h1
    rw [show cf 0 0=x from Rep.sc_inv h1] at h2
    exact hv b (off+0*1+0) x hxw (by have:=hvis hl;omega) h2
   refine .sl _ es b off 1 cap cf rfl hfull hcap hsz (by rw [hvb];exact hvis) hc fun i j hi hj=> ?_
   have h1:=hr i j hi hj
   have h3:j=0:=by omega
   subst h3
   obtain⟨x,_,hx⟩:=hes i hi
   rw [hx] at h1⊢
   rw [show cf i 0=x from Rep.sc_inv h1]
   exact .sc _
theorem Low.mk {p:PV} (h:Low 0 p) {w:World} {g:Gh} {v:Value} (vis:Nat→Nat) (hv: ∀b,g.vis b≤vis b) (hr:Rep w g v p):Rep w ⟨0,fun _=>0,vis⟩ v p:=
 Rep.mono (w:=w) (g:= { g with n:=0 }) (w':=w) (g':=⟨0,fun _=>0,vis⟩) ⟨Nat.le_refl 0,fun i hi=>absurd hi (Nat.not_lt_zero _),hv,fun _ _ _ _ hc=>hc⟩ (h w g v hr (Nat.zero_le _))
noncomputable def y2j (g:Gh) (F:Fr) (L:Q0f) (e:List Nat) (b:Nat):Nat:=
 open Classical in if h: ∃i,L.getD i []≠ []∧F.lmu i=b∧0<e.getD i 0 then e.getD h.choose 0 else g.vis b
section
variable {P:Program} {E:Ent} {a:Act} {w:World} {g:Gh} {F:Fr} {s:PFS} {e:List Nat}
noncomputable def X4j (g:Gh) (F:Fr) (L:Q0f) (e:List Nat):Gh:=⟨g.n,g.mu,y2j g F L e⟩
theorem Wordy.res {B:Nat} {w:World} {g:Gh} {v:Value} {R:PV} (hw:Wordy R):RepRes B w g v R=Rep w g v R:=by
 cases hw<;>rfl
end
def POl0 (P:Program) (o:Oper) (e:List Nat) (K:PFS→Prop) (s:PFS):Prop:=
 match X0r o.op s.ev with
 | some (f,xs)=>Q0d P f=true∧LendOK s.L e xs∧ ∃R,Wordy R∧PCalls P f (xs.map (PV.lend2 s.L)) [] (fun r st'=>r=R∧st'= [])∧K (s.recv o.dst R s.st)
 | none=>False
section
variable {P:Program} {E:Ent} {a:Act} {w:World} {g:Gh} {F:Fr} {s:PFS} {e:List Nat}
end
def OLl0 (P:Program) (ops:List Oper) (e:List Nat):List Bool→List Oper→(PFS→Prop)→PFS→Prop
 | _,[],K,s=>K s
 | [],rest,K,s=>OL0 P ops rest K s
 | true::bs,o::rest,K,s=>o.guard=none∧POl0 P o e (OLl0 P ops e bs rest K) s
 | false::bs,o::rest,K,s=>o.guard=none∧OC0 P o (OLl0 P ops e bs rest K) s
def OLl (P:Program) (ops:List Oper) (e:List Nat) (bs:List Bool) (rest:List Oper) (K:PFS→Prop) [Stop ops] [Stop rest] [Stop K] (s:PFS):Prop:=OLl0 P ops e bs rest K s
def LC0 (P:Program) (e:List Nat) (fv:PV) (xs:List PV) (s:PFS) (K:PV→Prop):Prop:=
 match fv with
 | .fn (.func f) bs cs=>Q0d P f=true∧LendOK s.L e (bs++xs++cs)∧ ∃R,Wordy R∧PCalls P f ((bs++xs++cs).map (PV.lend2 s.L)) [] (fun r st'=>r=R∧st'= [])∧K R
 | _=>False
def LC (P:Program) (e:List Nat) (fv:PV) (xs:List PV) (s:PFS) (K:PV→Prop) [Stop K]:Prop:=LC0 P e fv xs s K
section
variable {P:Program} {s:PFS} {K:PFS→Prop} {d:Option Tmp} {ty:TypeId} {pos:String} {af:Array Edge} {e:List Nat}
@[go_sem] theorem Q4s {ops:List Oper} {bs:List Bool} :OLl P ops e bs [] K s=K s:=by cases bs<;>rfl
@[go_sem] theorem Q4t {ops rest:List Oper} :OLl P ops e [] rest K s=OL P ops rest K s:=by cases rest<;>rfl
@[go_sem] theorem X4y {ops rest:List Oper} {bs:List Bool} {op:Op} :OLl P ops e (false::bs) (⟨d,op,ty,pos,af,none⟩::rest) K s=OC P ⟨d,op,ty,pos,af,none⟩ (OLl P ops e bs rest K) s:=by
 show((none:Option (Nat×Bool))=none∧_)=_
 simp only [true_and];rfl
theorem G3o {ops rest:List Oper} {bs:List Bool} {f:Operand} {xs:List Operand} {ts:Array TypeId} :OLl P ops e (true::bs) (⟨d,.call ⟨.value f,xs.toArray,ts⟩,ty,pos,af,none⟩::rest) K s=LC0 P e (s.ev f) (xs.map s.ev) s (fun R=>OLl P ops e bs rest K (s.recv d R s.st)):=by
 show((none:Option (Nat×Bool))=none∧_)=_
 simp only [true_and]
 unfold POl0 LC0 X0r
 simp only
 cases s.ev f with
 | fn g bs cs=>cases g<;>rfl
 | _=>rfl
@[go_sem] theorem X4x {ops rest:List Oper} {bs:List Bool} {f:Operand} {xs:List Operand} {ts:Array TypeId} :OLl P ops e (true::bs) (⟨d,.call ⟨.value f,xs.toArray,ts⟩,ty,pos,af,none⟩::rest) K s=LC P e (s.ev f) (xs.map s.ev) s (fun R=>OLl P ops e bs rest K (s.recv d R s.st)):=G3o
end
end Go.Pv
end
section
/-A literal that keeps a slice without room;a box's cell with known room;statements in which such literals and appends to slices with known room stand. -/
namespace Go.Pv
section
variable {P:Program} {E:Ent} {a:Act} {w:World} {g:Gh} {F:Fr} {s:PFS}
end
def POk0 (P:Program) (o:Oper) (K:PFS→Prop) (s:PFS):Prop:=
 match o.op with
 | .buildSlice t 1 parts=>
  match parts.toList with
  | [(0,x)]=>match ti P t,s.ev x with
   | some ⟨_,_,.slice e,_⟩,.sl .full es=>(e.sz=1∧e.zok=true)∧K (s.put o.dst (.sl .full [.sl .full es]))
   | _,_=>False
  | _=>False
 | _=>False
section
variable {P:Program} {E:Ent} {a:Act} {w:World} {g:Gh} {F:Fr} {s:PFS}
end
inductive Mk where
 | no | room | keep
def OLk0 (P:Program) (ops:List Oper):List Mk→List Oper→(PFS→Prop)→PFS→Prop
 | _,[],K,s=>K s
 | [],rest,K,s=>OL0 P ops rest K s
 | .room::bs,o::rest,K,s=>o.guard=none∧POr0 P o (OLk0 P ops bs rest K) s
 | .keep::bs,o::rest,K,s=>o.guard=none∧POk0 P o (OLk0 P ops bs rest K) s
 | .no::bs,o::rest,K,s=>o.guard=none∧OC0 P o (OLk0 P ops bs rest K) s
def OLk (P:Program) (ops:List Oper) (bs:List Mk) (rest:List Oper) (K:PFS→Prop) [Stop ops] [Stop rest] [Stop K] (s:PFS):Prop:=OLk0 P ops bs rest K s
def K2h (T:Option TI) (x:PV) (K:PV→Prop) [Stop K]:Prop:=
 match T,x with
 | some ⟨_,_,.slice e,_⟩,.sl .full es=>(e.sz=1∧e.zok=true)∧K (.sl .full [.sl .full es])
 | _,_=>False
section
variable {P:Program} {s:PFS} {K:PFS→Prop} {d:Option Tmp} {ty:TypeId} {pos:String} {af:Array Edge}
@[go_sem] theorem Q4u {ops:List Oper} {bs:List Mk} :OLk P ops bs [] K s=K s:=by
 cases bs with
 | nil=>rfl
 | cons b bs=>cases b<;>rfl
@[go_sem] theorem Q4v {ops rest:List Oper} :OLk P ops [] rest K s=OL P ops rest K s:=by cases rest<;>rfl
@[go_sem] theorem X4b {ops rest:List Oper} {bs:List Mk} {op:Op} :OLk P ops (.no::bs) (⟨d,op,ty,pos,af,none⟩::rest) K s=OC P ⟨d,op,ty,pos,af,none⟩ (OLk P ops bs rest K) s:=by
 show((none:Option (Nat×Bool))=none∧_)=_
 simp only [true_and];rfl
@[go_sem] theorem j3l {ops rest:List Oper} {bs:List Mk} {op:Op} :OLk P ops (.room::bs) (⟨d,op,ty,pos,af,none⟩::rest) K s=POr P ⟨d,op,ty,pos,af,none⟩ (OLk P ops bs rest K) s:=by
 show((none:Option (Nat×Bool))=none∧_)=_
 simp only [true_and];rfl
@[go_sem] theorem j3m {ops rest:List Oper} {bs:List Mk} {t:TypeId} {x:Operand} :OLk P ops (.keep::bs) (⟨d,.buildSlice t 1 [(0,x)].toArray,ty,pos,af,none⟩::rest) K s=K2h (ti P t) (s.ev x) (fun p=>OLk P ops bs rest K (s.put d p)):=by
 show((none:Option (Nat×Bool))=none∧POk0 P _ _ s)=_
 simp only [true_and]
 unfold POk0 K2h
 simp only
 rfl
@[go_sem] theorem W3k {e:EI} {x1:Bool} {x2:Nat} {x4:Option Value} {es:List PV} {K:PV→Prop} :K2h (some ⟨x1,x2,.slice e,x4⟩) (.sl .full es) K=((e.sz=1∧e.zok=true)∧K (.sl .full [.sl .full es])):=(rfl)
end
end Go.Pv
end
section
/-Plain values:scalars,aggregates,slices of such. -/
namespace Go.Pv
inductive Tame :PV→Prop
 | sc (v:Value):Tame (.sc v)
 | agg {cs:List PV} (h: ∀c∈cs,Tame c):Tame (.agg cs)
 | sl {t:Tag} {es:List PV} (h: ∀e∈es,Tame e):Tame (.sl t es)
theorem Tame.low {p:PV} (h:Tame p) (n:Nat):Low n p∧ ∀c∈p.cells,Low n c:=by
 induction h with
 | sc v=>exact⟨j2l n v,fun c hc=>by rw [List.mem_singleton.1 hc];exact j2l n v⟩
 | agg h ih=>exact⟨y2f fun c hc=>(ih c hc).1,fun c hc=>(ih c hc).1⟩
 | @sl t es h ih=>
  have:=W3e (n:=n) (t:=t) fun e he c hc=>(ih e he).2 c hc
  exact⟨this,fun c hc=>by rw [List.mem_singleton.1 hc];exact this⟩
theorem Z2j (t:Tag) (w:List UInt64):Tame (.sl t (encW w)):= .sl fun e he=>by
 simp only [encW,List.mem_map] at he
 obtain⟨x,_,rfl⟩:=he
 exact .sc _
theorem j1u (x:Nm): ∀c∈encN x,Tame c:=fun c hc=>by
 simp only [encN,List.mem_cons,List.not_mem_nil,or_false] at hc
 rcases hc with rfl | rfl | rfl
 · exact .sc _
 · exact .sc _
 · exact Z2j _ _
theorem x2v (x:Ivl): ∀c∈encI x,Tame c:=fun c hc=>by
 have hc:c∈encN x.lo++encN x.hi:=hc
 rcases List.mem_append.1 hc with hc | hc
 · exact j1u _ _ hc
 · exact j1u _ _ hc
theorem v2n (t:Tag) (l:List Ivl):Tame (.sl t (Z0d l)):= .sl fun e he=>by
 simp only [Z0d,List.mem_map] at he
 obtain⟨x,_,rfl⟩:=he
 exact .agg (x2v x)
theorem K3s (t:Tag) (l:List (List Ivl)):Tame (.sl t (encM l)):= .sl fun e he=>by
 simp only [encM,List.mem_map] at he
 obtain⟨x,_,rfl⟩:=he
 exact v2n _ x
theorem v2c (w:List UInt64):Wordy (.sl .no (encW w)):= .sl _ fun j hj=>by
 have hj':j<w.length:=by simpa [encW] using hj
 exact⟨_,⟨_,.inl rfl⟩,by simp only [encW,List.getD_eq_getElem?_getD,List.getElem?_map,List.getElem?_eq_getElem hj'];rfl⟩
theorem Z2a (x:Nm): ∀c∈encN x,Wordy c:=fun c hc=>by
 simp only [encN,List.mem_cons,List.not_mem_nil,or_false] at hc
 rcases hc with rfl | rfl | rfl
 · exact .sc _
 · exact .sc _
 · exact v2c _
end Go.Pv
end
