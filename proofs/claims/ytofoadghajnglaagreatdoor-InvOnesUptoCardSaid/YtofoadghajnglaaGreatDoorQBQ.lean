/- Parts of the walk: PvAq, PvAr, PvAs, PvAt. -/
import Derived.Test.YtofoadghajnglaaGreatDoorQBI
import Derived.RangeFuncRecord
set_option linter.unusedVariables false
set_option linter.unusedSimpArgs false
section
/-A range over a function:the loop's record,a round,what an iterator promises and what is promised to it. -/
namespace Go.Pv
def G3l :Obj→Bool
 | .cells .. =>false
 | _=>true
structure Live (l:Nat) (o:Obj) (w:World) (g:Gh):Prop where
 is:w.heap[l]?=some o
 apart: ∀i,i<g.n→g.mu i≠l
section
variable {P:Program} {l:Nat} {o:Obj} {w w':World} {g g':Gh}
def Ent.turn (E:Ent) (l:Nat) (o:Obj):Ent:= { E with w:=E.w.putObj l o }
end
def W1n (r:Loop) (c:Code):Obj:= .loop { r with state:= .done,pending:=some c }
def YRes (l:Nat) (r:Loop) (Q:Q0c→Prop) (Qx:Code→Q0c→Prop) (w:World) (g:Gh) (e:Ending) (w':World):Prop:=
 ∃g' st',StoreOK w' g' st'∧((e= .returned (.bool true)∧Ext w g w' g'∧Q st')∨ ∃c,e= .returned (.bool false)∧Ext (w.putObj l (W1n r c)) g w' g'∧Qx c st')
def U1u (P:Program) (l:Nat) (r:Loop) (w0:World) (g0:Gh) (args:List PV) (st:Q0c) (Q:Q0c→Prop) (Qx:Code→Q0c→Prop):Prop:=
 ∀w g vs,Ext w0 g0 w g→StoreOK w g st→Reps w g vs args→Live l (.loop r) w g→
  ∃fn tmps assign body,(Instr.yield l vs).run P w= .ok (.round l fn tmps assign body) w∧RoundIn Fence.wide 0 P l fn tmps assign body w (YRes l r Q Qx w g)
def k3h (P:Program) (f:FuncId) (l:Nat) (r:Loop) (w:World) (g:Gh) (args:List PV) (st:Q0c) (Q:Q0c→Prop) (Qx:Code→Q0c→Prop):Prop:=
 ∀vs,StoreOK w g st→Reps w g vs args→Live l (.loop r) w g→
  Calls P f vs w fun e w'=> ∃v g' st',e= .returned v∧StoreOK w' g' st'∧((Ext w g w' g'∧Q st')∨ ∃c,Ext (w.putObj l (W1n r c)) g w' g'∧Qx c st')
def G3h (E:Ent) (l:Nat) (r:Loop) (Q:Exit→PFS→Prop) (Qx:Code→Exit→PFS→Prop) (e:Exit) (a:Act) (w:World):Prop:=
 post E Q e a w∨ ∃c,post (E.turn l (W1n r c)) (Qx c) e a w
def PW2 (P:Program) (E:Ent) (l:Nat) (r:Loop) (c:Code) (Q:Exit→PFS→Prop) (Qx:Code→Exit→PFS→Prop) (s:PFS):Prop:=
 ∀a w g F,FSRep E a w g F s→c.wpIn (fen E.rd) 0 P (G3h E l r Q Qx) a w
section
variable {P:Program} {E:Ent} {l:Nat} {r:Loop} {Q Q':Exit→PFS→Prop} {Qx Qx':Code→Exit→PFS→Prop} {s:PFS}
end
def w2d (op:Op) (r:Operand→PV):Option (Nat×List PV):=
 match op with
 | .call { callee:= .value f,args,.. } =>
  match r f with
  | .fn (.yield l) [] []=>some (l,args.toList.map r)
  | _=>none
 | _=>none
section
variable {P:Program} {E:Ent} {l:Nat} {r:Loop} {a:Act} {w:World} {g:Gh} {F:Fr} {s:PFS}
end
def POy0 (P:Program) (E:Ent) (l:Nat) (r:Loop) (o:Oper) (K:PFS→Prop) (Kx:Code→PFS→Prop) (s:PFS):Prop:=
 match w2d o.op s.ev with
 | some (l',xs)=>l'=l∧xs.all PV.closed2=true∧U1u P l r E.w E.g (xs.map PV.forget2) s.st (fun st=>K (({ s with st:=st } :PFS).put o.dst (.sc (.bool true)))) (fun c st=>Kx c (({ s with st:=st } :PFS).put o.dst (.sc (.bool false))))
 | none=>False
def OLy0 (P:Program) (E:Ent) (l:Nat) (r:Loop) (ops:List Oper):Nat→List Oper→(PFS→Prop)→(Code→PFS→Prop)→PFS→Prop
 | _,[],K,_,s=>K s
 | 0,o::rest,K,Kx,s=>
  match o.guard with
  | none=>POy0 P E l r o (OL0 P ops rest K) (fun c=>OL0 P ops rest (Kx c)) s
  | some (j,want)=>GK0 (Z0c ops s j want) want (POy0 P E l r o (OL0 P ops rest K) (fun c=>OL0 P ops rest (Kx c)) s) (OL0 P ops rest K (s.put o.dst (.tup [])))
 | n+1,o::rest,K,Kx,s=>
  match o.guard with
  | none=>OC0 P o (OLy0 P E l r ops n rest K Kx) s
  | some (j,want)=>GK0 (Z0c ops s j want) want (OC0 P o (OLy0 P E l r ops n rest K Kx) s) (OLy0 P E l r ops n rest K Kx (s.put o.dst (.tup [])))
section
variable {P:Program} {E:Ent} {l:Nat} {r:Loop}
end
def OLy (P:Program) (E:Ent) (l:Nat) (r:Loop) (ops:List Oper) (n:Nat) (rest:List Oper) (K:PFS→Prop) (Kx:Code→PFS→Prop) [Stop ops] [Stop rest] [Stop K] [Stop Kx] (s:PFS):Prop:=OLy0 P E l r ops n rest K Kx s
def POy (P:Program) (E:Ent) (l:Nat) (r:Loop) (o:Oper) (K:PFS→Prop) (Kx:Code→PFS→Prop) [Stop o] [Stop K] [Stop Kx] (s:PFS):Prop:=POy0 P E l r o K Kx s
def YK (P:Program) (E:Ent) (l:Nat) (r:Loop) (p:PV) (xs:List PV) (d:Option Tmp) (K:PFS→Prop) (Kx:Code→PFS→Prop) [Stop K] [Stop Kx] (s:PFS):Prop:=
 match (match p with | .fn (.yield l) [] []=>some (l,xs) | _=>none:Option (Nat×List PV)) with
 | some (l',xs)=>l'=l∧xs.all PV.closed2=true∧U1u P l r E.w E.g (xs.map PV.forget2) s.st (fun st=>K (({ s with st:=st } :PFS).put d (.sc (.bool true)))) (fun c st=>Kx c (({ s with st:=st } :PFS).put d (.sc (.bool false))))
 | none=>False
def Ylds (P:Program) (E:Ent) (l:Nat) (r:Loop) (xs:List PV) (st:Q0c) (K:Q0c→Prop) (Kx:Code→Q0c→Prop) [Stop K] [Stop Kx]:Prop:=U1u P l r E.w E.g xs st K Kx
section
variable {P:Program} {E:Ent} {l:Nat} {r:Loop} {s:PFS} {K:PFS→Prop} {Kx:Code→PFS→Prop} {d:Option Tmp} {ty:TypeId} {pos:String} {af:Array Edge}
@[go_sem] theorem k3i {ops rest:List Oper} {op:Op} :OLy P E l r ops 0 (⟨d,op,ty,pos,af,none⟩::rest) K Kx s=POy P E l r ⟨d,op,ty,pos,af,none⟩ (OL P ops rest K) (fun c=>OL P ops rest (Kx c)) s:=(rfl)
@[go_sem] theorem j3o {ops rest:List Oper} {op:Op} {j:Nat} {want:Bool} :OLy P E l r ops 0 (⟨d,op,ty,pos,af,some (j,want)⟩::rest) K Kx s=
 GK (Z0c ops s j want) want (POy P E l r ⟨d,op,ty,pos,af,some (j,want)⟩ (OL P ops rest K) (fun c=>OL P ops rest (Kx c)) s) (OL P ops rest K (s.put d (.tup []))):=(rfl)
@[go_sem] theorem k3j {ops rest:List Oper} {n:Nat} {op:Op} :OLy P E l r ops (n+1) (⟨d,op,ty,pos,af,none⟩::rest) K Kx s=OC P ⟨d,op,ty,pos,af,none⟩ (OLy P E l r ops n rest K Kx) s:=(rfl)
@[go_sem] theorem j3p {ops rest:List Oper} {n:Nat} {op:Op} {j:Nat} {want:Bool} :OLy P E l r ops (n+1) (⟨d,op,ty,pos,af,some (j,want)⟩::rest) K Kx s=
 GK (Z0c ops s j want) want (OC P ⟨d,op,ty,pos,af,some (j,want)⟩ (OLy P E l r ops n rest K Kx) s) (OLy P E l r ops n rest K Kx (s.put d (.tup []))):=(rfl)
@[go_sem] theorem Y3v {f:Operand} {xs:List Operand} {ts:Array TypeId} {gd:Option (Nat×Bool)} :POy P E l r ⟨d,.call ⟨.value f,xs.toArray,ts⟩,ty,pos,af,gd⟩ K Kx s=YK P E l r (s.ev f) (xs.map s.ev) d K Kx s:=by
 show POy0 _ _ _ _ _ _ _ _=_
 unfold POy0 w2d YK
 simp only
@[go_sem] theorem Y3p {xs:List PV} {l':Nat} :YK P E l r (.fn (.yield l') [] []) xs d K Kx s=(l'=l∧xs.all PV.closed2=true∧Ylds P E l r (xs.map PV.forget2) s.st (fun st=>K (({ s with st:=st } :PFS).put d (.sc (.bool true)))) (fun c st=>Kx c (({ s with st:=st } :PFS).put d (.sc (.bool false))))):=(rfl)
end
end Go.Pv
end
section
/-A range over a function:the iterator's function,the loop in its caller,the caller's return. -/
namespace Go.Pv
def k3c (Q:Q0c→Prop):Exit→PFS→Prop
 | .normal,s | .ret,s=>Q s.st
 | _,_=>False
def mark (D:Nat):Deferred:= { target:= .collected D,args:= #[] }
def Lat (E E':Ent):Prop:=
 E'=E∨ ∃D,E'.rd=none∧E'.df= [mark D]∧Ext E.w E.g E'.w E'.g∧E.w.heap.size≤D∧Live D (.deferred (some [])) E'.w E'.g
def G3g (E:Ent) (Q:Exit→PFS→Prop) (e:Exit) (a:Act) (w:World):Prop:= ∃E' g F s,Lat E E'∧FSRep E' a w g F s∧Q e s
def PWD (P:Program) (E:Ent) (c:Code) (Q:Exit→PFS→Prop) (s:PFS):Prop:=
 E.rd=none→E.df= []→ ∀a w g F,FSRep E a w g F s→c.wpIn Fence.wide 0 P (G3g E Q) a w
section
variable {P:Program} {E:Ent} {Q Q':Exit→PFS→Prop} {s:PFS}
end
def x3z (J:Q0c→Prop) (Jx:Code→Q0c→Prop):Exit→PFS→Prop
 | .normal,s=>J s.st
 | .ret,s=>Jx .ret s.st
 | .exit id,s=>Jx (.exit id) s.st
 | _,_=>False
def k3b (Q:Exit→PFS→Prop):Code→PFS→Prop
 | .ret,s=>Q .ret s
 | .exit id,s=>Q (.exit id) s
 | _,_=>False
end Go.Pv
end
section
/-A drawn statement that calls yield:all the rest first,then the call,then what waits for it. -/
namespace Go.Pv
section
variable {P:Program} {ops:Array Oper} {ph1 ph2:List Nat} (C:Late P ops ph1 [] ph2)
include C
end
def YW0 (P:Program) (E:Ent) (l:Nat) (r:Loop) (ops:List Oper) (y:Nat) (p3:Plan) (K:PFS→Prop) (Kx:Code→PFS→Prop) (s:PFS):Prop:=
 match ops[y]? with
 | some o=>o.guard=none∧POy0 P E l r o (OW0 P ops p3 K) (fun c=>OW0 P ops p3 (Kx c)) s
 | none=>False
def x3x (P:Program) (ops:Array Oper) (N:Nat) (ph1:List Nat) (y:Nat) (ph3:List Nat) (p1 p2 p3:Plan):Bool:=
 G3t P ops N ph1 [] (y::ph3) p1 p2&&(decide (Region.ready .any ops (v0d (Array.replicate ops.size false) ph1)= [y])&&
 (Y0h ops N p3 ph3.length ((v0d (Array.replicate ops.size false) ph1).setIfInBounds y true)&&Z1s ops N ((v0d (Array.replicate ops.size false) ph1).setIfInBounds y true) p3))
section
variable {P:Program} {E:Ent} {lp:Nat} {r:Loop} {s:PFS} {K:PFS→Prop} {Kx:Code→PFS→Prop} {d:Option Tmp} {ty:TypeId} {pos:String} {af:Array Edge}
def YW (P:Program) (E:Ent) (l:Nat) (r:Loop) (ops:List Oper) (y:Nat) (p3:Plan) (K:PFS→Prop) (Kx:Code→PFS→Prop) [Stop ops] [Stop p3] [Stop K] [Stop Kx] (s:PFS):Prop:=YW0 P E l r ops y p3 K Kx s
def YO (P:Program) (E:Ent) (l:Nat) (r:Loop) (o:Option Oper) (K:PFS→Prop) (Kx:Code→PFS→Prop) [Stop K] [Stop Kx] (s:PFS):Prop:=
 match o with
 | some o=>o.guard=none∧POy0 P E l r o K Kx s
 | none=>False
@[go_sem] theorem k3f {ops:List Oper} {y:Nat} {p3:Plan} :YW P E lp r ops y p3 K Kx s=YO P E lp r (ops[y]?) (OW P ops p3 K) (fun c=>OW P ops p3 (Kx c)) s:=(rfl)
@[go_sem] theorem k3g {op:Op} :YO P E lp r (some ⟨d,op,ty,pos,af,none⟩) K Kx s=POy P E lp r ⟨d,op,ty,pos,af,none⟩ K Kx s:=by
 show((none:Option (Nat×Bool))=none∧_)=_
 simp only [true_and];rfl
end
end Go.Pv
end
section
/-At a function's return:the objects of the store that it has made for itself are let go. -/
namespace Go.Pv
def Low (n:Nat) (p:PV):Prop:= ∀w g v,Rep w g v p→n≤g.n→Rep w { g with n:=n } v p
theorem y0n {w0:World} {g0:Gh} {v0:Value} {p:PV} (h:Rep w0 g0 v0 p):Low g0.n p:=by
 induction h with
 | junk v=>exact fun _ _ _ _ _=> .junk _
 | sc v=>intro w g v hr hn;cases hr;exact .sc _
 | agg vs cs hl h ih=>intro w g v hr hn;cases hr with | agg vs' _ hl' h'=>exact .agg vs' cs hl' fun j hj=>ih j hj _ _ _ (h' j hj) hn
 | tup vs cs hl h ih=>intro w g v hr hn;cases hr with | tup vs' _ hl' h'=>exact .tup vs' cs hl' fun j hj=>ih j hj _ _ _ (h' j hj) hn
 | nil t ad ht=>
  intro w g v hr hn
  cases hr with
  | nil _ ad' ht'=>exact .nil t ad' ht'
  | sl _ _ b off sz cap cf ht' hfull hcap hsz hvis hc hr=>exact .sl t [] b off sz cap cf ht' hfull hcap hsz hvis hc fun i j hi hj=>(by simp at hi)
 | sl t es b off sz cap cf ht hfull hcap hsz hvis hc hr ih=>
  intro w g v hr hn
  cases hr with
  | nil _ ad' ht'=>exact .nil t ad' ht'
  | sl _ _ b' off' sz' cap' cf' ht' hfull' hcap' hsz' hvis' hc' hr'=>
   exact .sl t es b' off' sz' cap' cf' ht' hfull' hcap' hsz' hvis' hc' fun i j hi hj=>ih i j hi (by rw [←hsz i hi,hsz' i hi];exact hj) _ _ _ (hr' i j hi hj) hn
 | gms i off len cap hi hcap=>intro w g v hr hn;cases hr with | gms _ _ _ cap' hi' hcap'=>exact Rep.gms (g:= { g with n:=g0.n }) i off len cap' hi hcap'
 | gr i len cap hi hcap=>intro w g v hr hn;cases hr with | gr _ _ _ hi' hcap'=>exact Rep.gr (g:= { g with n:=g0.n }) i len cap hi hcap'
 | gp i off hi=>intro w g v hr hn;cases hr with | gp _ _ hi'=>exact Rep.gp (g:= { g with n:=g0.n }) i off hi
 | ep cs off b base cf hvis hc hr ih=>intro w g v hr hn;cases hr with | ep _ _ b' base' cf' hvis' hc' hr'=>exact Rep.ep (g:= { g with n:=g0.n }) cs off b' base' cf' hvis' hc' fun j hj=>ih j hj _ _ _ (hr' j hj) hn
 | fn f us vs bs cs hk hl h0 h ih0 ih=>intro w g v hr hn;cases hr with | fn _ us' vs' _ _ hk' hl' h0' h'=>exact .fn f us' vs' bs cs hk' hl' (fun j hj=>ih0 j hj _ _ _ (h0' j hj) hn) fun j hj=>ih j hj _ _ _ (h' j hj) hn
 | pre all n b off sz cap cf hn0 hcap hsz hvis hc hr ih=>
  intro w g v hr hn
  cases hr with
  | pre _ _ b' off' sz' cap' cf' hn' hcap' hsz' hvis' hc' hr'=>
   exact Rep.pre (g:= { g with n:=g0.n }) all n b' off' sz' cap' cf' hn' hcap' hsz' hvis' hc' fun i j hi hj=>ih i j hi (by rw [←hsz i hi,hsz' i hi];exact hj) _ _ _ (hr' i j hi hj) hn
theorem K2z (n:Nat):Low n .junk:=fun _ _ _ _ _=> .junk _
theorem U2q (n:Nat) (v:Value):Low n (.sc v):=fun w g v hr hn=>by cases hr;exact .sc _
theorem Z1n {n:Nat} {cs:List PV} (h: ∀c∈cs,Low n c) (j:Nat):Low n (cs.getD j .junk):=by
 by_cases hj:j<cs.length
 · exact h _ (Q0m _ _ _ hj)
 · rw [List.getD_eq_getElem?_getD,List.getElem?_eq_none (by omega)];exact K2z n
theorem z2g {n:Nat} {cs:List PV} (h: ∀c∈cs,Low n c):Low n (.agg cs):=by
 intro w g v hr hn;cases hr with | agg vs _ hl h'=>exact .agg vs cs hl fun j hj=>Z1n h j _ _ _ (h' j hj) hn
theorem z2f {n:Nat} {cs:List PV} (h: ∀c∈cs,Low n c):Low n (.tup cs):=by
 intro w g v hr hn;cases hr with | tup vs _ hl h'=>exact .tup vs cs hl fun j hj=>Z1n h j _ _ _ (h' j hj) hn
theorem y2t {n:Nat} {t:Tag} {es:List PV} (h: ∀e∈es,∀c∈e.cells,Low n c):Low n (.sl t es):=by
 intro w g v hr hn
 cases hr with
 | nil _ ad ht=>exact .nil t ad ht
 | sl _ _ b off sz cap cf ht hfull hcap hsz hvis hc hr'=>
  exact .sl t es b off sz cap cf ht hfull hcap hsz hvis hc fun i j hi hj=>Z1n (h _ (Q0m _ _ _ hi)) j _ _ _ (hr' i j hi hj) hn
def LowR (n:Nat):PV→Prop
 | .sl (.fresh _) es=>Low n (.sl .no es)
 | p=>Low n p
theorem Y1d {P:Program} {f:FuncId} {args:List PV} {st:Q0c} {Q:PV→Q0c→Prop} (h:PCalls P f args st fun r st'=>(∃X,st'=st++X)∧LowR st.length r∧Q r st):PCalls P f args st (fun r st'=>Q r st'∧st'=st):=by
 intro w g vs hs hr
 refine(h w g vs hs hr).mono ?_
 rintro e w' ⟨v,g',r,st',rfl,hx,ho,hv,⟨X,rfl⟩,hlow,hq⟩
 have hn:st.length=g.n:=hs.n.symm
 have hle:g.n≤g'.n:=hx.le.n
 have hgd: ∀i,i<g.n→(st++X).getD i []=st.getD i []:=fun i hi=>by rw [List.getD_eq_getElem?_getD,List.getElem?_append_left (by omega),←List.getD_eq_getElem?_getD]
 refine⟨v, { g' with n:=g.n },r,st,rfl,⟨⟨Nat.le_refl _,hx.le.mu,hx.le.vis,hx.le.cell⟩,hx.os,hx.tape,hx.output,hx.size,hx.old,fun i hi hi'=>absurd hi (Nat.not_le_of_lt hi')⟩,⟨hs.n,fun i j hi hj=>ho.inj i j (Nat.lt_of_lt_of_le hi hle) (Nat.lt_of_lt_of_le hj hle),fun i hi=>ho.lt i (Nat.lt_of_lt_of_le hi hle),fun i hi hne=>ho.vis i (Nat.lt_of_lt_of_le hi hle) (by rw [hgd i hi];exact hne),fun i hi=> ?_,ho.none,ho.tab⟩,?_,hq,rfl⟩
 · have h1:=ho.holds i (Nat.lt_of_lt_of_le hi hle)
   rw [hgd i hi] at h1
   intro j hj
   obtain⟨z1,c,z2,z3⟩:=h1 j hj
   obtain⟨_,c0,_,z4⟩:=hs.holds i hi j hj
   exact⟨z1,c,z2,y0n z4 _ _ _ z3 hle⟩
 · have hl:Low g.n r→Rep w' g' v r→Rep w' { g' with n:=g.n } v r:=fun h hr=>h _ _ _ hr hle
   rw [hn] at hlow
   cases r with
   | sl t es=>
    cases t with
    | fresh sz=>
     obtain⟨q1,q2⟩:=hv
     refine⟨hlow _ _ _ q1 hle,?_⟩
     rcases q2 with ⟨b,b1,b2,b3,b4,b5⟩ | q2
     · exact .inl ⟨b,b1,b2,b3,fun i hi=>b4 i (Nat.lt_of_lt_of_le hi hle),b5⟩
     · exact .inr q2
    | _=>exact hl hlow hv
   | _=>exact hl hlow hv
end Go.Pv
end
