/- Parts of the walk: PvQ, PvR, PvS, PvT, PvU, PvV, PvW. -/
import Derived.Test.YtldalepagmhnmaaGreatDoorZB
import Derived.Scope
import Derived.Orders
set_option linter.unusedVariables false
set_option linter.unusedSimpArgs false
section
namespace Go.Pv
def X1u (s:PFS)(K:PV->PFS->Prop):Req->Prop
 | .val v=>K v s
 | .need c v=>c=true/\K v s
 | .load gl i off n agg=>
  off+n<=((if gl then s.st else s.L).getD i []).length/\K (if agg then .agg ((((if gl then s.st else s.L).getD i []).drop off).take n) else((if gl then s.st else s.L).getD i []).getD off .junk) s
 | .store gl i off cs=>
  (off+cs.length<=((if gl then s.st else s.L).getD i []).length/\0<((if gl then s.st else s.L).getD i []).length)/\
   K .junk (if gl then { s with st:=s.st.set i (over ((if gl then s.st else s.L).getD i []) off cs) } else { s with L:=s.L.set i (over ((if gl then s.st else s.L).getD i []) off cs) })
 | .box cs=>K (.lp s.L.length 0) { s with L:=s.L++ [cs] }
 | .mks cs len=>K (.ms false s.L.length 0 len) { s with L:=s.L++ [cs] }
 | .newsl es=>K (.sl .full es) s
 | .app t es ys e=>
  (e.zok=true/\es.length+ys.length<=1152921504606846976/\(es.length+ys.length)*e.by_<=140737488355328/\
   es.all (fun x=>x.cells.length==e.sz)=true/\ys.all (fun x=>(x.cells.length==e.sz)&&x.cells.all PV.cellOK)=true)/\
   match t with
   | .own k=>s.T.getD k (0,0)=(es.length,e.sz)/\K (.sl (.own k) (es++ys)) { s with T:=s.T.set k (es.length+ys.length,e.sz) }
   | .full=>(es.length=0\/0<ys.length)/\K (.sl (.own s.T.length) (es++ys)) { s with T:=s.T++ [(es.length+ys.length,e.sz)] }
   | _=>False
 | .fail=>False
theorem Q1w {s:PFS}{K:PV->PFS->Prop}{r:Req}(h:X1u s K r): ∃p s',r.run s=some (p,s')/\K p s':=by
 cases r with
 | val v=>exact⟨_,_,rfl,h⟩
 | need c v=>exact⟨_,_,by simp[Req.run,h.1],h.2⟩
 | load gl i off n agg=>exact⟨_,_,if_pos h.1,h.2⟩
 | store gl i off cs=>exact⟨_,_,if_pos h.1,h.2⟩
 | box cs=>exact⟨_,_,rfl,h⟩
 | mks cs len=>exact⟨_,_,rfl,h⟩
 | newsl es=>exact⟨_,_,rfl,h⟩
 | app t es ys e=>
  obtain⟨h1,h2⟩:=h;cases t with
  | own k=>exact⟨_,_,by simp only[Req.run];rw[if_pos h1,if_pos h2.1],h2.2⟩
  | full=>exact⟨_,_,by simp only[Req.run];rw[if_pos h1,if_pos h2.1],h2.2⟩
  | _=>exact h2.elim
 | fail=>exact h.elim
def K1u :Op->Bool
 | .binOp .eql _ _ _ _ | .binOp .neq _ _ _ _=>false
 | .call { callee:= .builtin _,.. } =>true
 | .call _=>false
 | _=>true
theorem w2n {P:Program}{o:Oper}{K:PFS->Prop}{s:PFS}(hp:K1u o.op=true)(h:X1u s (fun p s'=>K (s'.put o.dst p)) (req P o.op o.type s.ev)):PO P o K s:=by
 obtain⟨p,s',hr,hk⟩:=Q1w h;have e1:U0n P o.op s.ev=none:=by unfold U0n;split;rename_i heq;rw[heq] at hp;cases hp;rename_i heq;rw[heq] at hp;cases hp;rfl
 have e2:K0d o.op s.ev=none:=by unfold K0d;split;rename_i heq;rw[heq] at hp;cases hp;rfl
 unfold PO;rw[e1,e2];simp only[w0l,hr];exact hk
def OC0 (P:Program)(o:Oper)(K:PFS->Prop)(s:PFS):Prop:=
 match K1u o.op with
 | true=>X1u s (fun p s'=>K (s'.put o.dst p)) (req P o.op o.type s.ev)
 | false=>PO P o K s
theorem k0k {P:Program}{o:Oper}{K:PFS->Prop}{s:PFS}(h:OC0 P o K s):PO P o K s:=by unfold OC0 at h;split at h;rename_i hp;exact w2n hp h;exact h
def GK0 (b:Option Bool)(want:Bool)(x y:Prop):Prop:=match b with | some b=>(b=want->x)/\(b≠want->y) | none=>False
def CK0 (p:PV)(x y:Prop):Prop:=match p with | .sc (.bool b)=>(b=true->x)/\(b=false->y) | _=>False
def OL0 (P:Program)(ops:List Oper):List Oper->(PFS->Prop)->PFS->Prop
 | [],K,s=>K s
 | o::rest,K,s=>
  match o.guard with
  | none=>OC0 P o (OL0 P ops rest K) s
  | some (j,want)=>GK0 (X0j ops s j want) want (OC0 P o (OL0 P ops rest K) s) (OL0 P ops rest K (s.put o.dst (.tup [])))
theorem k2i {P:Program}{o:Oper}{K K':PFS->Prop}{s:PFS}(h:OC0 P o K s)(hk: ∀s,K s->K' s):OC0 P o K' s:=by
 have mono: ∀r,X1u s (fun p s'=>K (s'.put o.dst p)) r->X1u s (fun p s'=>K' (s'.put o.dst p)) r:=by
  intro r hr;cases r with
  | app t es ys e=>
   refine⟨hr.1,?_⟩;have h2:=hr.2;cases t with
   | own k=>exact⟨h2.1,hk _ h2.2⟩
   | full=>exact⟨h2.1,hk _ h2.2⟩
   | _=>exact h2
  | val v=>exact hk _ hr
  | need c v=>exact⟨hr.1,hk _ hr.2⟩
  | load gl i off n agg=>exact⟨hr.1,hk _ hr.2⟩
  | store gl i off cs=>exact⟨hr.1,hk _ hr.2⟩
  | box cs=>exact hk _ hr
  | mks cs len=>exact hk _ hr
  | newsl es=>exact hk _ hr
  | fail=>exact hr
 unfold OC0 at h⊢;cases hp:K1u o.op with
 | true=>rw[hp] at h;exact mono _ h
 | false=>
  rw[hp] at h;simp only at h⊢;unfold PO at h⊢;split;rename_i hn;rw[hn] at h;exact fun b hb=>hk _ (h b hb);rename_i hn;rw[hn] at h;simp only at h;split;rename_i hc;rw[hc] at h;exact⟨h.1,h.2.mono fun r st q=>hk _ q⟩;rename_i hc;rw[hc] at h;simp only at h;split;rename_i hs;rw[hs] at h;exact hk _ h;rename_i hs;rw[hs] at h;exact h
theorem z1j {P:Program}{ops:List Oper}{K:PFS->Prop} : ∀ {rest:List Oper} {s:PFS},OL0 P ops rest K s->PLc P ops rest K s
 | [],s,h=>h
 | o::rest,s,h=>by
  have ih:=fun s=> @z1j P ops K rest s;unfold OL0 at h;unfold PLc;split;rename_i hg;rw[hg] at h;exact k0k (k2i h ih);rename_i j want hg;rw[hg] at h;simp only at h;cases hb:X0j ops s j want with
  | none=>rw[hb] at h;exact h.elim
  | some b=>
   rw[hb] at h;simp only;obtain⟨h1,h2⟩:=h;split;rename_i e;exact k0k (k2i (h1 e) ih);rename_i e;exact ih _ (h2 e)
def J2j (Q:Exit->PFS->Prop):Exit->PFS->Prop:=fun e s=>match e with | .goto _=>False | e=>Q e s
def Z0r :Code->Bool
 | .seq x y=>Z0r x||Z0r y
 | .cond _ x y=>Z0r x||Z0r y
 | .block _ x=>Z0r x
 | .scope x=>Z0r x
 | .loop _=>true
 | _=>false
def q2w (c:Code):Bool:=Z0r c
def VC0 (P:Program)(E:Ent):Code->(Exit->PFS->Prop)->PFS->Prop
 | .skip,Q,s=>Q .normal s
 | .label _,Q,s=>Q .normal s
 | .seq x y,Q,s=>VC0 P E x (x0b (if q2w x then PWP P E y Q else VC0 P E y Q) Q) s
 | .region id ops false,Q,s=>OL0 P ops.toList ops.toList (Q .normal) s
 | .region id ops true,Q,s=>PWP P E (.region id ops true) Q s
 | .cond c x y,Q,s=>CK0 (s.ev c) (VC0 P E x Q s) (VC0 P E y Q s)
 | .block id c,Q,s=>VC0 P E c (eblk id Q) s
 | .exit id,Q,s=>Q (.exit id) s
 | .ret,Q,s=>Q .ret s
 | .scope c,Q,s=>VC0 P E c (J2j Q) s
 | .loop c,Q,s=>PWP P E (.loop c) Q s
 | c,Q,s=>PWP P E c Q s
theorem Y0p {P:Program}{b:Frame}{a:Act}{k:List Item}{cs:List Frame}{w:World}{c:Code} :step P (lone (b.atR a (.code (.scope c)::k)) cs w)= .next (lone (b.atR a (.code c:: .inScope c::k)) cs w):=
 step_lone_go (by simp[stepG,stepG.exec,Frame.atR])
theorem G1v {P:Program}{b:Frame}{a:Act}{k:List Item}{cs:List Frame}{w:World}{c:Code} :step P (lone (b.atR a (.inScope c::k)) cs w)= .next (lone (b.atR a k) cs w):=
 step_lone_go (by simp[stepG,stepG.exec,Frame.atR])
theorem K1q {P:Program}{E:Ent}{c:Code}{Q:Exit->PFS->Prop}{s:PFS}(h:PWP P E c (J2j Q) s):PWP P E (.scope c) Q s:=by
 intro a w g F hr b k cs hro hbf hrm;obtain⟨e,a₁,w₁,⟨g1,F1,s1,hr1,hq⟩,harr⟩:=h a w g F hr b (.inScope c::k) cs hro hbf hrm;have h0:(lone (b.atR a (.code (.scope c)::k)) cs w).fenced P (fen E.rd):=fenced_calm hbf hrm rfl;cases e with
 | normal=>exact⟨.normal,a₁,w₁,⟨g1,F1,s1,hr1,hq⟩,.head h0 Y0p (StepsIn.trans harr (.one (fenced_calm hbf hrm rfl) G1v))⟩
 | exit id=>exact⟨.exit id,a₁,w₁,⟨g1,F1,s1,hr1,hq⟩,fun k' hk=> .head h0 Y0p (harr.1 k' (by simp[exitTo,hk])),
  fun hr' hk=>let ⟨k₁,h1,h2⟩:=harr.2 hr' (by simp[exitTo,hk]);⟨k₁,h1,.head h0 Y0p h2⟩⟩
 | goto l=>exact hq.elim
 | ret=>exact⟨_,a₁,w₁,⟨g1,F1,s1,hr1,hq⟩,.of_steps (.one h0 Y0p) harr⟩
 | panic ch=>exact⟨_,a₁,w₁,⟨g1,F1,s1,hr1,hq⟩,.of_steps (.one h0 Y0p) harr⟩
 | outgrown=>exact⟨_,a₁,w₁,⟨g1,F1,s1,hr1,hq⟩,.of_steps (.one h0 Y0p) harr⟩
theorem V2m {P:Program}{E:Ent}{c:Code} : ∀ {Q:Exit->PFS->Prop} {s:PFS},VC0 P E c Q s->PWP P E c Q s:=by
 induction c with
 | skip=>exact fun h=>w2i h
 | label l=>exact fun h=>G2m h
 | region id ops d=>
  cases d with
  | false=>exact fun h=>V2l (z1j h)
  | true=>exact fun h=>h
 | seq x y ihx ihy=>
  intro Q s h;refine Q0c (X1z (ihx h) ?_);intro e s hq;cases e with
  | normal=>
   simp only[x0b] at hq;cases hb:q2w x with
   | true=>rw[hb] at hq;exact hq
   | false=>rw[hb] at hq;exact ihy hq
  | _=>exact hq
 | cond c x y ihx ihy=>
  intro Q s h;simp only[VC0,CK0] at h;split at h;rename_i b hb;exact w2k hb (fun e=>ihx (h.1 e)) (fun e=>ihy (h.2 e));exact h.elim
 | block id c ih=>exact fun h=>Z0y (ih h)
 | exit id=>exact fun h=>w2j h
 | ret=>exact fun h=>Y3s h
 | scope c ih=>exact fun h=>K1q (ih h)
 | _=>exact fun h=>h
def k0l (P:Program)(E:Ent)(b:Bool)(y:Code)(Q:Exit->PFS->Prop)(s:PFS):Prop:=if b then PWP P E y Q s else VC0 P E y Q s
class Stop.{u} {α:Sort u} (a:α):Type where
instance instStop.{u} {α:Sort u} (a:α):Stop a:=⟨⟩
def ReqK (s:PFS)(K:PV->PFS->Prop)[Stop K](r:Req):Prop:=X1u s K r
def GK (b:Option Bool)(want:Bool)(x y:Prop)[Stop x][Stop y]:Prop:=GK0 b want x y
def CK (p:PV)(x y:Prop)[Stop x][Stop y]:Prop:=CK0 p x y
def OC (P:Program)(o:Oper)(K:PFS->Prop)[Stop o][Stop K](s:PFS):Prop:=OC0 P o K s
def OL (P:Program)(ops rest:List Oper)(K:PFS->Prop)[Stop ops][Stop rest][Stop K](s:PFS):Prop:=OL0 P ops rest K s
def VC (P:Program)(E:Ent)(c:Code)(Q:Exit->PFS->Prop)[Stop c][Stop Q](s:PFS):Prop:=VC0 P E c Q s
def PW (P:Program)(E:Ent)(c:Code)(Q:Exit->PFS->Prop)[Stop c][Stop Q](s:PFS):Prop:=PWP P E c Q s
def seqB (P:Program)(E:Ent)(b:Bool)(y:Code)(Q:Exit->PFS->Prop)[Stop y][Stop Q](s:PFS):Prop:=k0l P E b y Q s
def eth (K:PFS->Prop)(Q:Exit->PFS->Prop)[Stop K][Stop Q](e:Exit)(s:PFS):Prop:=x0b K Q e s
def ebl (id:Nat)(Q:Exit->PFS->Prop)[Stop Q](e:Exit)(s:PFS):Prop:=eblk id Q e s
def esc (Q:Exit->PFS->Prop)[Stop Q](e:Exit)(s:PFS):Prop:=J2j Q e s
def bQ (P:Program)(fz:Option Nat)(fn:Func)(Q:PV->Q0g->Prop)[Stop Q](e:Exit)(s:PFS):Prop:=j2f P fz fn Q e s
def EC (P:Program)(f:FuncId)(as:List PV)(st:Q0g)(Q:PV->Q0g->Prop)[Stop Q]:Prop:=ExtCalls P f as st Q
def PC (P:Program)(f:FuncId)(as:List PV)(st:Q0g)(Q:PV->Q0g->Prop)[Stop Q]:Prop:=PCalls P f as st Q
theorem Q0a {P:Program}{E:Ent}{c:Code}{Q:Exit->PFS->Prop}{s:PFS}(h:VC P E c Q s):PWP P E c Q s:=V2m h
theorem ck {b:Bool}{x y:Prop}(h1:b=true->x)(h2:b=false->y):CK (.sc (.bool b)) x y:=⟨h1,h2⟩
theorem J4y {P:Program}{E:Ent}{c:Code}{Q:Exit->PFS->Prop}{s:PFS}{B:Prop}(k:B)(e:VC P E c Q s=B:=by simp-dsimp only[go_sem];exact rfl):PWP P E c Q s:=Q0a (e.mpr k)
theorem J4x {P:Program}{E:Ent}{x y:Code}{Q:Exit->PFS->Prop}{s:PFS}{B:Prop}(k:B)(e:VC P E x (x0b (PWP P E y Q) Q) s=B:=by simp-dsimp only[go_sem];exact rfl):PWP P E (.seq x y) Q s:=Q0c (Q0a (e.mpr k))
theorem J4z {P:Program}{f:FuncId}{fn:Func}{c:Code}{args:List PV}{st:Q0g}{Q:PV->Q0g->Prop}{B:Ent->Prop}(hf:P.funcs[f]?=some fn)(h: ∀E,B E)(hb:fn.body=some c:=by exact rfl)
 (e: ∀E,VC P E c (j2f P none fn Q) (Q1q fn args st)=B E:=by intro E;simp-dsimp only[go_sem];exact rfl):PCalls P f args st Q:=Q0b none hf hb fun E=>Q0a ((e E).mpr (h E))
theorem K4a {A:Prop}{b:Bool}{x y:Prop}(h1:b=true->x)(h2:b=false->y)(e:A=CK (.sc (.bool b)) x y:=by simp-dsimp only[go_sem];exact rfl):A:=e.mpr ⟨h1,h2⟩
theorem K4w {A B:Prop}(k:B)(e:A=B:=by simp-dsimp only[go_sem];exact rfl):A:=e.mpr k
theorem K4v {A:Prop}(k:A:=by simp-dsimp only[go_sem]):A:=k
theorem gkT {b:Bool}{x y:Prop}(h1:b=true->x)(h2:b=false->y):GK (some b) true x y:=by cases b<;>simp_all [GK,GK0]
theorem gkF {b:Bool}{x y:Prop}(h1:b=false->x)(h2:b=true->y):GK (some b) false x y:=by cases b<;>simp_all [GK,GK0]
section
variable {P:Program} {E:Ent} {Q:Exit->PFS->Prop} {s:PFS} {K:PFS->Prop} {d:Option Tmp} {ty:TypeId} {pos:String} {af:Array Edge} {gd:Option (Nat×Bool)}
@[go_sem] theorem Q4f :VC P E .skip Q s=Q .normal s:=(rfl)
@[go_sem] theorem v3k {l:Nat} :VC P E (.label l) Q s=Q .normal s:=(rfl)
@[go_sem] theorem k2t {id:Nat}{ops:Array Oper}{d:Bool}{y:Code} :VC P E (.seq (.region id ops d) y) Q s=VC P E (.region id ops d) (eth (VC P E y Q) Q) s:=(rfl)
@[go_sem] theorem q3n {x z:Code}{y:Code} :VC P E (.seq (.seq x z) y) Q s=VC P E (.seq x z) (eth (seqB P E (Z0r (.seq x z)) y Q) Q) s:=by
 have e:k0l P E (Z0r (.seq x z)) y Q=if Z0r (.seq x z) then PWP P E y Q else VC0 P E y Q:=by funext s;unfold k0l;split<;>rfl
 show VC0 P E (.seq (.seq x z) y) Q s=VC0 P E (.seq x z) (x0b (k0l P E (Z0r (.seq x z)) y Q) Q) s;rw[e];rfl
@[go_sem] theorem W3i {c:Operand}{x z:Code}{y:Code} :VC P E (.seq (.cond c x z) y) Q s=VC P E (.cond c x z) (eth (seqB P E (Z0r (.cond c x z)) y Q) Q) s:=by
 have e:k0l P E (Z0r (.cond c x z)) y Q=if Z0r (.cond c x z) then PWP P E y Q else VC0 P E y Q:=by funext s;unfold k0l;split<;>rfl
 show VC0 P E (.seq (.cond c x z) y) Q s=VC0 P E (.cond c x z) (x0b (k0l P E (Z0r (.cond c x z)) y Q) Q) s;rw[e];rfl
@[go_sem] theorem J3u {x:Code}{y:Code} :VC P E (.seq (.scope x) y) Q s=VC P E (.scope x) (eth (seqB P E (Z0r (.scope x)) y Q) Q) s:=by
 have e:k0l P E (Z0r (.scope x)) y Q=if Z0r (.scope x) then PWP P E y Q else VC0 P E y Q:=by funext s;unfold k0l;split<;>rfl
 show VC0 P E (.seq (.scope x) y) Q s=VC0 P E (.scope x) (x0b (k0l P E (Z0r (.scope x)) y Q) Q) s;rw[e];rfl
@[go_sem] theorem W3g {x:Code}{y:Code} :VC P E (.seq (.loop x) y) Q s=VC P E (.loop x) (eth (seqB P E (Z0r (.loop x)) y Q) Q) s:=by
 have e:k0l P E (Z0r (.loop x)) y Q=if Z0r (.loop x) then PWP P E y Q else VC0 P E y Q:=by funext s;unfold k0l;split<;>rfl
 show VC0 P E (.seq (.loop x) y) Q s=VC0 P E (.loop x) (x0b (k0l P E (Z0r (.loop x)) y Q) Q) s;rw[e];rfl
@[go_sem] theorem J3w {id:Nat}{x y:Code} :VC P E (.seq (.block id x) y) Q s=VC P E (.block id x) (eth (seqB P E (Z0r x) y Q) Q) s:=by
 have e:k0l P E (Z0r x) y Q=if Z0r x then PWP P E y Q else VC0 P E y Q:=by funext s;unfold k0l;split<;>rfl
 show VC0 P E (.seq (.block id x) y) Q s=VC0 P E (.block id x) (x0b (k0l P E (Z0r x) y Q) Q) s;rw[e];rfl
@[go_sem] theorem x3a {y:Code} :seqB P E true y Q s=PW P E y Q s:=(rfl)
@[go_sem] theorem q3p {y:Code} :seqB P E false y Q s=VC P E y Q s:=(rfl)
@[go_sem] theorem G3g {x y:Code} :Z0r (.seq x y)=(Z0r x||Z0r y):=(rfl)
@[go_sem] theorem K3z {c:Operand}{x y:Code} :Z0r (.cond c x y)=(Z0r x||Z0r y):=(rfl)
@[go_sem] theorem Z3a {id:Nat}{x:Code} :Z0r (.block id x)=Z0r x:=(rfl)
@[go_sem] theorem Q3y {x:Code} :Z0r (.scope x)=Z0r x:=(rfl)
@[go_sem] theorem K3x {x:Code} :Z0r (.loop x)=true:=(rfl)
@[go_sem] theorem k2l {id:Nat}{ops:Array Oper}{d:Bool} :Z0r (.region id ops d)=false:=(rfl)
@[go_sem] theorem K3w :Z0r .skip=false:=(rfl)
@[go_sem] theorem G3h :Z0r .ret=false:=(rfl)
@[go_sem] theorem K3y {id:Nat} :Z0r (.exit id)=false:=(rfl)
@[go_sem] theorem Q3z {l:Nat} :Z0r (.label l)=false:=(rfl)
attribute [go_sem] Bool.or_false Bool.false_or Bool.or_true Bool.true_or
@[go_sem] theorem W3f {y:Code} :VC P E (.seq .skip y) Q s=VC P E .skip (eth (VC P E y Q) Q) s:=(rfl)
@[go_sem] theorem J3v {l:Nat}{y:Code} :VC P E (.seq (.label l) y) Q s=VC P E (.label l) (eth (VC P E y Q) Q) s:=(rfl)
@[go_sem] theorem W3h {id:Nat}{y:Code} :VC P E (.seq (.exit id) y) Q s=VC P E (.exit id) (eth (VC P E y Q) Q) s:=(rfl)
@[go_sem] theorem q3o {y:Code} :VC P E (.seq .ret y) Q s=VC P E .ret (eth (VC P E y Q) Q) s:=(rfl)
@[go_sem] theorem v3j {x:Code} :VC P E (.scope x) Q s=VC P E x (esc Q) s:=(rfl)
@[go_sem] theorem z3m {id:Nat}{l:List Oper} :VC P E (.region id l.toArray false) Q s=OL P l l (Q .normal) s:=(rfl)
@[go_sem] theorem Q4i {id:Nat}{ops:Array Oper} :VC P E (.region id ops true) Q s=PW P E (.region id ops true) Q s:=(rfl)
@[go_sem] theorem Q4j {c:Operand}{x y:Code} :VC P E (.cond c x y) Q s=CK (s.ev c) (VC P E x Q s) (VC P E y Q s):=(rfl)
@[go_sem] theorem v3l {id:Nat}{c:Code} :VC P E (.block id c) Q s=VC P E c (ebl id Q) s:=(rfl)
@[go_sem] theorem Q4h {id:Nat} :VC P E (.exit id) Q s=Q (.exit id) s:=(rfl)
@[go_sem] theorem J4w :VC P E .ret Q s=Q .ret s:=(rfl)
@[go_sem] theorem Q4g {c:Code} :VC P E (.loop c) Q s=PW P E (.loop c) Q s:=(rfl)
@[go_sem] theorem V3h {K:PFS->Prop} :eth K Q .normal s=K s:=(rfl)
@[go_sem] theorem j3u {K:PFS->Prop} :eth K Q .ret s=Q .ret s:=(rfl)
@[go_sem] theorem q3w {K:PFS->Prop}{id:Nat} :eth K Q (.exit id) s=Q (.exit id) s:=(rfl)
@[go_sem] theorem Z3y {K:PFS->Prop} :x0b K Q .normal s=K s:=(rfl)
@[go_sem] theorem q3v {K:PFS->Prop} :x0b K Q .ret s=Q .ret s:=(rfl)
@[go_sem] theorem G3u {K:PFS->Prop}{id:Nat} :x0b K Q (.exit id) s=Q (.exit id) s:=(rfl)
@[go_sem] theorem Z3z :esc Q .normal s=Q .normal s:=(rfl)
@[go_sem] theorem q3x :esc Q .ret s=Q .ret s:=(rfl)
@[go_sem] theorem G3v {id:Nat} :esc Q (.exit id) s=Q (.exit id) s:=(rfl)
@[go_sem] theorem H3d {id:Nat} :ebl id Q .normal s=Q .normal s:=(rfl)
@[go_sem] theorem w3r {id:Nat} :ebl id Q .ret s=Q .ret s:=(rfl)
@[go_sem] theorem k3g {id:Nat} :ebl id Q (.exit id) s=Q .normal s:=by simp[ebl,eblk]
theorem k1l {id id':Nat}(h:id'≠id):ebl id Q (.exit id') s=Q (.exit id') s:=by simp[ebl,eblk,h]
attribute [go_sem] k1l
@[go_sem] theorem J4v {x y:Prop} :CK (.sc (.bool true)) x y=x:=by simp[CK,CK0]
@[go_sem] theorem Q4c {x y:Prop} :CK (.sc (.bool false)) x y=y:=by simp[CK,CK0]
@[go_sem] theorem V4c {x y:Prop} :GK (some true) true x y=x:=by simp[GK,GK0]
@[go_sem] theorem V4d {x y:Prop} :GK (some true) false x y=y:=by simp[GK,GK0]
@[go_sem] theorem V4e {x y:Prop} :GK (some false) true x y=y:=by simp[GK,GK0]
@[go_sem] theorem V4f {x y:Prop} :GK (some false) false x y=x:=by simp[GK,GK0]
@[go_sem] theorem K4p {ops:List Oper} :OL P ops [] K s=K s:=(rfl)
@[go_sem] theorem J4p {ops rest:List Oper}{op:Op} :OL P ops (⟨d,op,ty,pos,af,none⟩::rest) K s=OC P ⟨d,op,ty,pos,af,none⟩ (OL P ops rest K) s:=(rfl)
@[go_sem] theorem J4o {ops rest:List Oper}{op:Op}{j:Nat}{want:Bool} :OL P ops (⟨d,op,ty,pos,af,some (j,want)⟩::rest) K s=
 GK (X0j ops s j want) want (OC P ⟨d,op,ty,pos,af,some (j,want)⟩ (OL P ops rest K) s) (OL P ops rest K (s.put d (.tup []))):=rfl
def K4z (ops:List Oper)(j:Nat):Option Tmp:=(ops[j]?).bind (·.dst)
@[go_sem] theorem G3j {ops:List Oper}{j:Nat}{want:Bool} :X0j ops s j want=match (ops[j]?).bind (·.dst) with | some t=>gv (s.pa.getD t .junk) want | none=>none:=by
 unfold X0j;cases h:ops[j]? with
 | none=>rfl
 | some o=>cases h2:o.dst with
  | none=>simp only[Option.bind_some,h2]
  | some t=>simp only[Option.bind_some,h2]
@[go_sem] theorem Z4i {b want:Bool} :gv (.sc (.bool b)) want=some b:=(rfl)
@[go_sem] theorem w3a {want:Bool} :gv (.tup []) want=some (!want):=(rfl)
@[go_sem] theorem J4s {x:Operand} :OC P ⟨d,.move x,ty,pos,af,gd⟩ K s=K (s.put d (s.ev x)):=(rfl)
@[go_sem] theorem v3f {x:Operand} :OC P ⟨d,.assign x,ty,pos,af,gd⟩ K s=K (s.put d (s.ev x)):=(rfl)
@[go_sem] theorem J4r {c x y:Operand} :OC P ⟨d,.pick c x y,ty,pos,af,gd⟩ K s=ReqK s (fun p s'=>K (s'.put d p)) (K1w (s.ev c) (s.ev x) (s.ev y)):=(rfl)
@[go_sem] theorem Q4b {t:TypeId} :OC P ⟨d,.alloc t,ty,pos,af,gd⟩ K s=ReqK s (fun p s'=>K (s'.put d p)) (v0x (ti P t)):=(rfl)
@[go_sem] theorem K4q {t:TypeId}{x:Operand} :OC P ⟨d,.box t x,ty,pos,af,gd⟩ K s=ReqK s (fun p s'=>K (s'.put d p)) (j2c (s.ev x)):=(rfl)
@[go_sem] theorem Q4a {t:TypeId}{l:List (Nat×Operand)} :OC P ⟨d,.build t l.toArray,ty,pos,af,gd⟩ K s=ReqK s (fun p s'=>K (s'.put d p)) (v0w (ti P t) (l.map fun x=>(x.1,s.ev x.2))):=(rfl)
@[go_sem] theorem J3p {t:TypeId}{n:Nat}{l:List (Nat×Operand)} :OC P ⟨d,.buildSlice t n l.toArray,ty,pos,af,gd⟩ K s=ReqK s (fun p s'=>K (s'.put d p)) (V0u (ti P t) n (l.map fun x=>(x.1,s.ev x.2))):=(rfl)
@[go_sem] theorem J4t {t:TypeId}{x:Operand} :OC P ⟨d,.load t x,ty,pos,af,gd⟩ K s=ReqK s (fun p s'=>K (s'.put d p)) (x0x (ti P t) (s.ev x)):=(rfl)
@[go_sem] theorem y3w {t:TypeId}{x y:Operand} :OC P ⟨d,.store t x y,ty,pos,af,gd⟩ K s=ReqK s (fun p s'=>K (s'.put d p)) (v0a (ti P t) (s.ev x) (s.ev y)):=(rfl)
@[go_sem] theorem q3i {x:Operand} :OC P ⟨d,.nilCheck x,ty,pos,af,gd⟩ K s=ReqK s (fun p s'=>K (s'.put d p)) (y1c (s.ev x)):=(rfl)
@[go_sem] theorem J4q {op:UnOp}{t:TypeId}{x:Operand} :OC P ⟨d,.unOp op t x,ty,pos,af,gd⟩ K s=ReqK s (fun p s'=>K (s'.put d p)) (unPV op (s.ev x)):=(rfl)
@[go_sem] theorem z3f {t u:TypeId}{x:Operand} :OC P ⟨d,.convert t u x,ty,pos,af,gd⟩ K s=ReqK s (fun p s'=>K (s'.put d p)) (W1p (ti P t) (ti P u) (s.ev x)):=(rfl)
@[go_sem] theorem V3v {t:TypeId}{x:Operand}{f:Nat} :OC P ⟨d,.fieldAddr t x f,ty,pos,af,gd⟩ K s=ReqK s (fun p s'=>K (s'.put d p)) (J0e (ti P t) (s.ev x) f):=(rfl)
@[go_sem] theorem y3z {t:TypeId}{x:Operand}{f:Nat} :OC P ⟨d,.field t x f,ty,pos,af,gd⟩ K s=ReqK s (fun p s'=>K (s'.put d p)) (v0v (ti P t) (s.ev x) f):=(rfl)
@[go_sem] theorem V3u {t:TypeId}{x i:Operand} :OC P ⟨d,.indexAddr t x i,ty,pos,af,gd⟩ K s=ReqK s (fun p s'=>K (s'.put d p)) (W0p (ti P t) (s.ev x) (s.ev i)):=(rfl)
@[go_sem] theorem y3y {t:TypeId}{x i:Operand} :OC P ⟨d,.index t x i,ty,pos,af,gd⟩ K s=ReqK s (fun p s'=>K (s'.put d p)) (v0p (ti P t) (s.ev x) (s.ev i)):=(rfl)
@[go_sem] theorem y3x {t:TypeId}{x:Operand}{lo hi mx:Option Operand} :OC P ⟨d,.slice t x lo hi mx,ty,pos,af,gd⟩ K s=ReqK s (fun p s'=>K (s'.put d p)) (v0b (ti P t) (s.ev x) (lo.map s.ev) (hi.map s.ev) (mx.map s.ev)):=(rfl)
@[go_sem] theorem q3j {f:Fn}{bs cs:List Operand} :OC P ⟨d,.makeFunc f bs.toArray cs.toArray,ty,pos,af,gd⟩ K s=K (s.put d (.fn f (bs.map s.ev) (cs.map s.ev))):=(rfl)
@[go_sem] theorem V3t {t:TypeId}{x y:Operand} :OC P ⟨d,.makeSlice t x y,ty,pos,af,gd⟩ K s=ReqK s (fun p s'=>K (s'.put d p)) (G0s P t (s.ev x) (s.ev y)):=(rfl)
def k1g (x:PV)(i:Nat):Req:=match x with | .tup vs=>if i<vs.length then .val (vs.getD i .junk) else .fail | _=> .fail
@[go_sem] theorem z3e {x:Operand}{i:Nat} :OC P ⟨d,.extract x i,ty,pos,af,gd⟩ K s=ReqK s (fun p s'=>K (s'.put d p)) (k1g (s.ev x) i):=(rfl)
@[go_sem] theorem z3h {b:Builtin}{l:List Operand}{ts:List TypeId} :OC P ⟨d,.call ⟨.builtin b,l.toArray,ts.toArray⟩,ty,pos,af,gd⟩ K s=ReqK s (fun p s'=>K (s'.put d p)) (Y0f P b ts (l.map s.ev)):=(rfl)
def BK0 (P:Program)(op:BinOp)(t:TypeId)(x y:Operand)(ty:TypeId)(s:PFS)(K:PV->PFS->Prop):Prop:=
 match U0n P (.binOp op t x y ty) s.ev with
 | some (ne,es)=> ∀b:Bool,(b=true->es= [])->K (.sc (.bool (b !=ne))) s
 | none=>X1u s K (J0k op (ti P t) (s.ev x) (s.ev y))
theorem w1k {K:PV->PFS->Prop}{r:Req}{p:PV}{s':PFS}(h:r.run s=some (p,s'))(hk:K p s'):X1u s K r:=by
 cases r with
 | val v=>cases h;exact hk
 | need c v=>
  simp only[Req.run] at h;by_cases hc:c=true;rw[if_pos hc] at h;cases h;exact⟨hc,hk⟩;rw[if_neg hc] at h;cases h
 | load gl i off n agg=>
  simp only[Req.run] at h;by_cases hc:off+n<=((if gl then s.st else s.L).getD i []).length;rw[if_pos hc] at h;cases h;exact⟨hc,hk⟩;rw[if_neg hc] at h;cases h
 | store gl i off cs=>
  simp only[Req.run] at h;by_cases hc:off+cs.length<=((if gl then s.st else s.L).getD i []).length/\0<((if gl then s.st else s.L).getD i []).length;rw[if_pos hc] at h;cases h;exact⟨hc,hk⟩;rw[if_neg hc] at h;cases h
 | box cs=>cases h;exact hk
 | mks cs len=>cases h;exact hk
 | newsl es=>cases h;exact hk
 | app t es ys e=>
  simp only[Req.run] at h;split at h;rename_i hc;refine⟨hc,?_⟩;cases t with
  | own k=>
   simp only at h;by_cases hT:s.T.getD k (0,0)=(es.length,e.sz);rw[if_pos hT] at h;cases h;exact⟨hT,hk⟩;rw[if_neg hT] at h;cases h
  | full=>
   simp only at h;by_cases hT:es.length=0\/0<ys.length;rw[if_pos hT] at h;cases h;exact⟨hT,hk⟩;rw[if_neg hT] at h;cases h
  | _=>cases h
  cases h
 | fail=>cases h
theorem v3c {op:BinOp}{t u:TypeId}{x y:Operand}(h:BK0 P op t x y u s (fun p s'=>K (s'.put d p))):PO P ⟨d,.binOp op t x y u,ty,pos,af,gd⟩ K s:=by unfold BK0 at h;unfold PO;simp only;split;rename_i hn;rw[hn] at h;exact h;rename_i hn;rw[hn] at h;obtain⟨p,s',hr,hk⟩:=Q1w h;have e2:K0d (.binOp op t x y u) s.ev=none:=rfl;simp only[e2,w0l,req,hr];exact hk
theorem k3t {op:BinOp}{t u:TypeId}{x y:Operand}(h:PO P ⟨d,.binOp op t x y u,ty,pos,af,gd⟩ K s):BK0 P op t x y u s (fun p s'=>K (s'.put d p)):=by unfold PO at h;unfold BK0;simp only at h;split;rename_i hn;rw[hn] at h;exact h;rename_i hn;rw[hn] at h;have e2:K0d (.binOp op t x y u) s.ev=none:=rfl;simp only[e2,w0l,req] at h;split at h;rename_i s' hs;split at hs;rename_i p s1 hr;cases hs;exact w1k hr h;cases hs;exact h.elim
theorem q3l {op:BinOp}{t u:TypeId}{x y:Operand} :OC0 P ⟨d,.binOp op t x y u,ty,pos,af,gd⟩ K s=BK0 P op t x y u s (fun p s'=>K (s'.put d p)):=by cases op<;>first | rfl | exact propext ⟨k3t,v3c⟩
def CC0 (P:Program)(f:PV)(as:List PV)(s:PFS)(K:PV->Q0g->Prop):Prop:=
 match f with
 | .fn (.func g) bs cs=>(bs++as++cs).all PV.closed2=true/\CallsOr P g ((bs++as++cs).map PV.forget2) s.st K
 | _=>False
theorem q3k {f:Operand}{l:List Operand}{ts:Array TypeId}(h:CC0 P (s.ev f) (l.map s.ev) s (fun r st=>K (s.recv d r st))):OC0 P ⟨d,.call ⟨.value f,l.toArray,ts⟩,ty,pos,af,gd⟩ K s:=by unfold OC0;simp only[K1u];unfold PO;have e1:U0n P (.call ⟨.value f,l.toArray,ts⟩) s.ev=none:=rfl;simp only[e1,K0d];unfold CC0 at h;split at h;rename_i g bs cs hf;simp only[hf];exact h;exact h.elim
theorem H3x {f:Operand}{l:List Operand}{ts:Array TypeId}(h:OC0 P ⟨d,.call ⟨.value f,l.toArray,ts⟩,ty,pos,af,gd⟩ K s):CC0 P (s.ev f) (l.map s.ev) s (fun r st=>K (s.recv d r st)):=by unfold OC0 at h;simp only[K1u] at h;unfold PO at h;have e1:U0n P (.call ⟨.value f,l.toArray,ts⟩) s.ev=none:=rfl;simp only[e1,K0d] at h;unfold CC0;split;rename_i g bs cs hf;simp only[hf] at h;exact h;rename_i hn;split at h;rename_i g' bs cs hf;split at hf;rename_i f' bs' cs' hf';exact absurd hf' (hn _ _ _);cases hf;simp only[w0l,req,Req.run] at h
theorem Q2v {f:Operand}{l:List Operand}{ts:Array TypeId} :OC0 P ⟨d,.call ⟨.value f,l.toArray,ts⟩,ty,pos,af,gd⟩ K s=CC0 P (s.ev f) (l.map s.ev) s (fun r st=>K (s.recv d r st)):=propext ⟨H3x,q3k⟩
theorem V3w {g:FuncId}{bs cs as:List PV}{K:PV->Q0g->Prop} :CC0 P (.fn (.func g) bs cs) as s K=((bs++as++cs).all PV.closed2=true/\CallsOr P g ((bs++as++cs).map PV.forget2) s.st K):=(rfl)
def BK (P:Program)(op:BinOp)(t:TypeId)(x y:Operand)(ty:TypeId)(s:PFS)(K:PV->PFS->Prop)[Stop K]:Prop:=
 match U0n P (.binOp op t x y ty) s.ev with
 | some (ne,es)=> ∀b:Bool,(b=true->es= [])->K (.sc (.bool (b !=ne))) s
 | none=>ReqK s K (J0k op (ti P t) (s.ev x) (s.ev y))
def CC (P:Program)(f:PV)(as:List PV)(s:PFS)(K:PV->Q0g->Prop)[Stop K]:Prop:=CC0 P f as s K
@[go_sem] theorem K4r {op:BinOp}{t u:TypeId}{x y:Operand} :OC P ⟨d,.binOp op t x y u,ty,pos,af,gd⟩ K s=BK P op t x y u s (fun p s'=>K (s'.put d p)):=q3l
@[go_sem] theorem z3g {f:Operand}{l:List Operand}{ts:Array TypeId} :OC P ⟨d,.call ⟨.value f,l.toArray,ts⟩,ty,pos,af,gd⟩ K s=CC P (s.ev f) (l.map s.ev) s (fun r st=>K (s.recv d r st)):=Q2v
@[go_sem] theorem V4g {g:FuncId}{bs cs as:List PV}{K:PV->Q0g->Prop}(hc:Q0e P g=true):CC P (.fn (.func g) bs cs) as s K=((bs++as++cs).all PV.closed2=true/\PC P g ((bs++as++cs).map PV.forget2) s.st K):=by show CC0 P _ _ _ _=_;rw[V3w,CallsOr,if_pos hc];rfl
@[go_sem] theorem K4t {g:FuncId}{bs cs as:List PV}{K:PV->Q0g->Prop}(hc:Q0e P g=false):CC P (.fn (.func g) bs cs) as s K=((bs++as++cs).all PV.closed2=true/\EC P g ((bs++as++cs).map PV.forget2) s.st K):=by show CC0 P _ _ _ _=_;rw[V3w,CallsOr,if_neg (by rw[hc];decide)];rfl
section
variable {K:PV->PFS->Prop}
@[go_sem] theorem K4k {v:PV} :ReqK s K (.val v)=K v s:=(rfl)
@[go_sem] theorem J4b {c:Bool}{v:PV} :ReqK s K (.need c v)=(c=true/\K v s):=(rfl)
@[go_sem] theorem y3n {i off n:Nat}{agg:Bool} :ReqK s K (.load false i off n agg)=(off+n<=(s.L.getD i []).length/\K (if agg then .agg (((s.L.getD i []).drop off).take n) else(s.L.getD i []).getD off .junk) s):=(rfl)
@[go_sem] theorem y3o {i off n:Nat}{agg:Bool} :ReqK s K (.load true i off n agg)=(off+n<=(s.st.getD i []).length/\K (if agg then .agg (((s.st.getD i []).drop off).take n) else(s.st.getD i []).getD off .junk) s):=(rfl)
@[go_sem] theorem k3y {i off:Nat}{cs:List PV} :ReqK s K (.store false i off cs)=((off+cs.length<=(s.L.getD i []).length/\0<(s.L.getD i []).length)/\K .junk { s with L:=s.L.set i (over (s.L.getD i []) off cs) }):=(rfl)
@[go_sem] theorem k3z {i off:Nat}{cs:List PV} :ReqK s K (.store true i off cs)=((off+cs.length<=(s.st.getD i []).length/\0<(s.st.getD i []).length)/\K .junk { s with st:=s.st.set i (over (s.st.getD i []) off cs) }):=(rfl)
@[go_sem] theorem K4m {cs:List PV} :ReqK s K (.box cs)=K (.lp s.L.length 0) { s with L:=s.L++ [cs] } :=(rfl)
@[go_sem] theorem K4l {cs:List PV}{len:Nat} :ReqK s K (.mks cs len)=K (.ms false s.L.length 0 len) { s with L:=s.L++ [cs] } :=(rfl)
@[go_sem] theorem y3m {es:List PV} :ReqK s K (.newsl es)=K (.sl .full es) s:=(rfl)
def Q2w (es ys:List PV)(e:EI):Prop:=e.zok=true/\es.length+ys.length<=1152921504606846976/\(es.length+ys.length)*e.by_<=140737488355328/\
 es.all (fun x=>x.cells.length==e.sz)=true/\ys.all (fun x=>(x.cells.length==e.sz)&&x.cells.all PV.cellOK)=true
@[go_sem] theorem J4c {k:Nat}{es ys:List PV}{e:EI} :ReqK s K (.app (.own k) es ys e)=(Q2w es ys e/\s.T.getD k (0,0)=(es.length,e.sz)/\K (.sl (.own k) (es++ys)) { s with T:=s.T.set k (es.length+ys.length,e.sz) }):=(rfl)
@[go_sem] theorem J4d {es ys:List PV}{e:EI} :ReqK s K (.app .full es ys e)=(Q2w es ys e/\(es.length=0\/0<ys.length)/\K (.sl (.own s.T.length) (es++ys)) { s with T:=s.T++ [(es.length+ys.length,e.sz)] }):=(rfl)
@[go_sem high] theorem y3r {ys:List PV}{e:EI} :ReqK s K (.app .full [] ys e)=(Q2w [] ys e/\K (.sl (.own s.T.length) ([]++ys)) { s with T:=s.T++ [(([]:List PV).length+ys.length,e.sz)] }):=by show(Q2w [] ys e/\(([]:List PV).length=0\/0<ys.length)/\_)=_;simp only[List.length_nil,true_or,true_and]
@[go_sem high] theorem y3p {es ys:List PV}{y:PV}{e:EI} :ReqK s K (.app .full es (y::ys) e)=(Q2w es (y::ys) e/\K (.sl (.own s.T.length) (es++y::ys)) { s with T:=s.T++ [(es.length+(y::ys).length,e.sz)] }):=by show(Q2w es (y::ys) e/\(es.length=0\/0<(y::ys).length)/\_)=_;simp only[List.length_cons,Nat.succ_pos,or_true,true_and]
theorem v3a {c:Prop}[Decidable c]{r:Req} :ReqK s K (if c then r else .fail)=(c/\ReqK s K r):=by by_cases h:c;rw[if_pos h];simp[h];rw[if_neg h];simp only[ReqK,X1u,h,false_and]
attribute [go_sem] v3a
end
section
variable {pa:List PV} {L st:Q0g} {T:List (Nat×Nat)}
@[go_sem] theorem v3s {t:Tmp}{v:PV} :(PFS.mk pa L T st).put (some t) v=⟨pa.set t v,L,T,st⟩:=(rfl)
@[go_sem] theorem v3t {v:PV} :(PFS.mk pa L T st).put none v=⟨pa,L,T,st⟩:=(rfl)
@[go_sem] theorem K4d {t:Tmp} :(PFS.mk pa L T st).ev (.tmp t)=pa.getD t .junk:=(rfl)
@[go_sem] theorem w3f {v:Value} :(PFS.mk pa L T st).ev (.const v)=pvOf v:=(rfl)
@[go_sem] theorem Z4t {f:FuncId} :(PFS.mk pa L T st).ev (.func f)= .fn (.func f) [] []:=(rfl)
@[go_sem] theorem q3q {d:Option Tmp}{sz:Nat}{es:List PV}{st':Q0g} :(PFS.mk pa L T st).recv d (.sl (.fresh sz) es) st'=(PFS.mk pa L (T++ [(es.length,sz)]) st').put d (.sl (.own T.length) es):=(rfl)
@[go_sem] theorem Q4q {d:Option Tmp}{es:List PV}{st':Q0g} :(PFS.mk pa L T st).recv d (.sl .no es) st'=(PFS.mk pa L T st').put d (.sl .no es):=(rfl)
@[go_sem] theorem Q4p {d:Option Tmp}{v:Value}{st':Q0g} :(PFS.mk pa L T st).recv d (.sc v) st'=(PFS.mk pa L T st').put d (.sc v):=(rfl)
@[go_sem] theorem v3n {d:Option Tmp}{v:List PV}{st':Q0g} :(PFS.mk pa L T st).recv d (.agg v) st'=(PFS.mk pa L T st').put d (.agg v):=(rfl)
@[go_sem] theorem v3m {d:Option Tmp}{v:List PV}{st':Q0g} :(PFS.mk pa L T st).recv d (.tup v) st'=(PFS.mk pa L T st').put d (.tup v):=(rfl)
@[go_sem] theorem Q4t {d:Option Tmp}{i o:Nat}{st':Q0g} :(PFS.mk pa L T st).recv d (.gp i o) st'=(PFS.mk pa L T st').put d (.gp i o):=(rfl)
end
end
@[go_sem] theorem x3o {b:Bool} :pvOf (.bool b)= .sc (.bool b):=(rfl)
@[go_sem] theorem v3q {k:IntKind}{n:Int} :pvOf (.int k n)= .sc (.int k n):=(rfl)
@[go_sem] theorem Y3u {s:ByteArray} :pvOf (.string s)= .sc (.string s):=(rfl)
@[go_sem] theorem v3o {a:Option Addr} :pvOf (.pointer a)= .sc (.pointer a):=(rfl)
@[go_sem] theorem v3p :pvOf (.slice none 0 0)= .sl .full []:=(rfl)
@[go_sem] theorem K3k :pvOf .nilFunc= .sc .nilFunc:=(rfl)
@[go_sem] theorem v3r {l:List Value} :pvOf (.agg l.toArray)= .agg (l.map k0m):=by simp[pvOf]
@[go_sem] theorem q3r {b:Bool} :k0m (.bool b)= .sc (.bool b):=(rfl)
@[go_sem] theorem x3r {k:IntKind}{n:Int} :k0m (.int k n)= .sc (.int k n):=(rfl)
@[go_sem] theorem K3l {s:ByteArray} :k0m (.string s)= .sc (.string s):=(rfl)
@[go_sem] theorem x3p {a:Option Addr} :k0m (.pointer a)= .sc (.pointer a):=(rfl)
@[go_sem] theorem x3q :k0m (.slice none 0 0)= .sl .full []:=(rfl)
@[go_sem] theorem w2l :k0m .nilFunc= .sc .nilFunc:=(rfl)
@[go_sem] theorem k3q {cs:List PV} :(PV.agg cs).cells=cs:=(rfl)
@[go_sem] theorem w3v {v:Value} :(PV.sc v).cells= [.sc v]:=(rfl)
@[go_sem] theorem w3u {t:Tag}{es:List PV} :(PV.sl t es).cells= [.sl t es]:=(rfl)
@[go_sem] theorem w3w {g:Bool}{i o n:Nat} :(PV.ms g i o n).cells= [.ms g i o n]:=(rfl)
@[go_sem] theorem w3x {i o:Nat} :(PV.lp i o).cells= [.lp i o]:=(rfl)
@[go_sem] theorem w3z {i o:Nat} :(PV.gp i o).cells= [.gp i o]:=(rfl)
@[go_sem] theorem y3c {cs:List PV}{o:Nat} :(PV.ep cs o).cells= [.ep cs o]:=(rfl)
@[go_sem] theorem y3a {f:Fn}{bs cs:List PV} :(PV.fn f bs cs).cells= [.fn f bs cs]:=(rfl)
@[go_sem] theorem k3p {es:List PV}{n:Nat} :(PV.pre es n).cells= [.pre es n]:=(rfl)
@[go_sem] theorem z3b :PV.junk.cells= [.junk]:=(rfl)
@[go_sem] theorem k3o {vs:List PV} :(PV.tup vs).cells= [.tup vs]:=(rfl)
attribute [go_sem] PV.cellOK Value.oneCell' PV.closed2 PV.closed1 PV.closed PV.forget2 PV.forget1 PV.forgetAll
@[go_sem] theorem X4x {T:Option TI}{k:IntKind}{a b:Int} :J0k .add T (.sc (.int k a)) (.sc (.int k b))= .val (.sc (.int k (k.wrap (a+b)))):=by simp[J0k,W0v]
@[go_sem] theorem X4k {T:Option TI}{k:IntKind}{a b:Int} :J0k .sub T (.sc (.int k a)) (.sc (.int k b))= .val (.sc (.int k (k.wrap (a-b)))):=by simp[J0k,W0v]
@[go_sem] theorem X4q {T:Option TI}{k:IntKind}{a b:Int} :J0k .mul T (.sc (.int k a)) (.sc (.int k b))= .val (.sc (.int k (k.wrap (a*b)))):=by simp[J0k,W0v]
@[go_sem] theorem X4o {T:Option TI}{k:IntKind}{a b:Int} :J0k .quo T (.sc (.int k a)) (.sc (.int k b))= .need (b !=0) (.sc (.int k (k.wrap (a.tdiv b)))):=by simp[J0k,W0v]
@[go_sem] theorem X4n {T:Option TI}{k:IntKind}{a b:Int} :J0k .rem T (.sc (.int k a)) (.sc (.int k b))= .need (b !=0) (.sc (.int k (a.tmod b))):=by simp[J0k,W0v]
@[go_sem] theorem X4w {T:Option TI}{k:IntKind}{a b:Int} :J0k .and T (.sc (.int k a)) (.sc (.int k b))= .val (.sc (.int k (bAnd k a b))):=by simp[J0k,W0v]
@[go_sem] theorem K4i {T:Option TI}{k:IntKind}{a b:Int} :J0k .or T (.sc (.int k a)) (.sc (.int k b))= .val (.sc (.int k (bOr k a b))):=by simp[J0k,W0v]
@[go_sem] theorem X4j {T:Option TI}{k:IntKind}{a b:Int} :J0k .xor T (.sc (.int k a)) (.sc (.int k b))= .val (.sc (.int k (bXor k a b))):=by simp[J0k,W0v]
@[go_sem] theorem z3c {T:Option TI}{k:IntKind}{a b:Int} :J0k .andNot T (.sc (.int k a)) (.sc (.int k b))= .val (.sc (.int k (Q2r k a b))):=by simp[J0k,W0v]
@[go_sem] theorem X4v {T:Option TI}{k:IntKind}{a b:Int} :J0k .eql T (.sc (.int k a)) (.sc (.int k b))= .val (.sc (.bool (a==b))):=by simp[J0k,W0v]
@[go_sem] theorem X4p {T:Option TI}{k:IntKind}{a b:Int} :J0k .neq T (.sc (.int k a)) (.sc (.int k b))= .val (.sc (.bool (a !=b))):=by simp[J0k,W0v]
@[go_sem] theorem X4r {T:Option TI}{k:IntKind}{a b:Int} :J0k .lss T (.sc (.int k a)) (.sc (.int k b))= .val (.sc (.bool (decide (a<b)))):=by simp[J0k,W0v]
@[go_sem] theorem X4s {T:Option TI}{k:IntKind}{a b:Int} :J0k .leq T (.sc (.int k a)) (.sc (.int k b))= .val (.sc (.bool (decide (a<=b)))):=by simp[J0k,W0v]
@[go_sem] theorem X4t {T:Option TI}{k:IntKind}{a b:Int} :J0k .gtr T (.sc (.int k a)) (.sc (.int k b))= .val (.sc (.bool (decide (a>b)))):=by simp[J0k,W0v]
@[go_sem] theorem X4u {T:Option TI}{k:IntKind}{a b:Int} :J0k .geq T (.sc (.int k a)) (.sc (.int k b))= .val (.sc (.bool (decide (a>=b)))):=by simp[J0k,W0v]
@[go_sem] theorem X4m {T:Option TI}{k k':IntKind}{a b:Int} :J0k .shl T (.sc (.int k a)) (.sc (.int k' b))= .need (decide (0<=b)) (.sc (.int k (bShl k a b))):=(rfl)
@[go_sem] theorem X4l {T:Option TI}{k k':IntKind}{a b:Int} :J0k .shr T (.sc (.int k a)) (.sc (.int k' b))= .need (decide (0<=b)) (.sc (.int k (bShr k a b))):=(rfl)
@[go_sem] theorem y3e {T:Option TI}{a b:ByteArray} :J0k .eql T (.sc (.string a)) (.sc (.string b))= .val (.sc (.bool (a.toList==b.toList))):=(rfl)
@[go_sem] theorem y3d {T:Option TI}{a b:ByteArray} :J0k .neq T (.sc (.string a)) (.sc (.string b))= .val (.sc (.bool (!(a.toList==b.toList)))):=(rfl)
@[go_sem] theorem y3f {T:Option TI}{a b:ByteArray} :J0k .add T (.sc (.string a)) (.sc (.string b))= .need (decide (a.size+b.size<=9223372036854775807)) (.sc (.string (a++b))):=(rfl)
@[go_sem] theorem y3l {x:Bool}{n:Nat}{z:Option Value}{a b:Bool} :J0k .eql (some ⟨x,n,.bool,z⟩) (.sc (.bool a)) (.sc (.bool b))= .val (.sc (.bool (a==b))):=(rfl)
@[go_sem] theorem y3k {x:Bool}{n:Nat}{z:Option Value}{a b:Bool} :J0k .neq (some ⟨x,n,.bool,z⟩) (.sc (.bool a)) (.sc (.bool b))= .val (.sc (.bool (!(a==b)))):=(rfl)
@[go_sem] theorem y3h {x:Bool}{n:Nat}{z:Option Value}{i o:Nat} :J0k .eql (some ⟨x,n,.ptr,z⟩) (.gp i o) (.sc (.pointer none))= .val (.sc (.bool false)):=(rfl)
@[go_sem] theorem y3g {x:Bool}{n:Nat}{z:Option Value}{i o:Nat} :J0k .neq (some ⟨x,n,.ptr,z⟩) (.gp i o) (.sc (.pointer none))= .val (.sc (.bool true)):=(rfl)
@[go_sem] theorem y3j {x:Bool}{n:Nat}{z:Option Value} :J0k .eql (some ⟨x,n,.ptr,z⟩) (.sc (.pointer none)) (.sc (.pointer none))= .val (.sc (.bool true)):=(rfl)
@[go_sem] theorem y3i {x:Bool}{n:Nat}{z:Option Value} :J0k .neq (some ⟨x,n,.ptr,z⟩) (.sc (.pointer none)) (.sc (.pointer none))= .val (.sc (.bool false)):=(rfl)
attribute [go_sem] unPV W1p v0v W0p v0p z0y j0s j0r j0p j0q H3i H3j v0b k1f v0w V0u V2z j2s k1z PV.scal Y0f x0x v0a K1w y1c v0x j2c G0s k1g U0n
def fld (x:Option (Nat×EI))(k:Nat->PV):Req:=match x with | some (o,e)=>if e.sz=0 then .fail else .val (k o) | none=> .fail
@[congr] theorem j3q {x x':Option (Nat×EI)}{k:Nat->PV}(h:x=x'):fld x k=fld x' k:=by rw[h]
@[go_sem] theorem w3d {o i:Nat}{sz b:Nat}{a z u:Bool}{k:Nat->PV} :fld (some (o,⟨i,sz+1,b,a,z,u⟩)) k= .val (k o):=by simp[fld]
@[go_sem] theorem V3e {a:Bool}{n f i off:Nat}{fs:List (Nat×EI)}{z:Option Value} :J0e (some ⟨a,n,.struct fs,z⟩) (.lp i off) f=fld fs[f]? (fun o=> .lp i (off+o)):=by unfold J0e fld;rfl
@[go_sem] theorem V3f {a:Bool}{n f i off:Nat}{fs:List (Nat×EI)}{z:Option Value} :J0e (some ⟨a,n,.struct fs,z⟩) (.gp i off) f=fld fs[f]? (fun o=> .gp i (off+o)):=by unfold J0e fld;rfl
@[go_sem] theorem V3g {a:Bool}{n f off:Nat}{cs:List PV}{fs:List (Nat×EI)}{z:Option Value} :J0e (some ⟨a,n,.struct fs,z⟩) (.ep cs off) f=fld fs[f]? (fun o=> .ep cs (off+o)):=by unfold J0e fld;rfl
attribute [go_sem] List.set_cons_succ List.set_cons_zero List.getD_cons_succ List.getD_cons_zero List.getD_nil List.drop_succ_cons List.drop_zero List.take_succ_cons List.take_zero List.length_cons List.length_nil List.cons_append List.nil_append
attribute [go_sem] List.getElem?_cons_succ List.getElem?_cons_zero List.map_cons List.map_nil List.all_cons List.all_nil BK Q1q List.replicate_succ List.replicate_zero Option.map_some Option.map_none Option.bind_some
@[go_sem] theorem v3v {α:Type}{l:List α}{n:Nat} :over l n []=l:=by simp[over]
@[go_sem] theorem k2j {α:Type}{x y:α}{l r:List α} :over (x::l) 0 (y::r)=y::over l 0 r:=by simp[over]
@[go_sem] theorem k2k {α:Type}{x:α}{l r:List α}{n:Nat} :over (x::l) (n+1) r=x::over l n r:=by simp only[over,List.take_succ_cons,List.cons_append];rw[show n+1+r.length=(n+r.length)+1 from oG,List.drop_succ_cons]
@[go_sem] theorem k3r {P:Program}{fz:Option Nat}{fn:Func}{Q:PV->Q0g->Prop}{s:PFS} :j2f P fz fn Q .ret s= ∃r,V2g P fz s fn.results.toList=some r/\Q r s.st:=(rfl)
@[go_sem] theorem V3p {P:Program}{fz:Option Nat}{fn:Func}{Q:PV->Q0g->Prop}{s:PFS} :j2f P fz fn Q .normal s= ∃r,V2g P fz s fn.results.toList=some r/\Q r s.st:=(rfl)
attribute [go_sem] V2g U1g x1o w0x Q2w
attribute [go_sem] Option.some.injEq exists_eq_left' exists_eq_left true_and and_true q_i decide_eq_true_eq Nat.zero_add Nat.add_zero Nat.zero_mul ne_eq not_true_eq_false not_false_eq_true Bool.true_and Bool.and_true List.range_eq_range' List.range'_succ List.range'_zero List.append_nil
attribute [go_sem] Bool.not_true Bool.not_false List.length_append List.length_map Int.toNat_natCast if_true if_false Bool.false_eq_true and_self decide_true decide_false beq_self_eq_true bne_self_eq_false Nat.le_refl
theorem y1t {α β:Type}[Inhabited α](f:α->β)(l:List α)(k:Nat)(d:β)(h:k<l.length):(l.map f).getD k d=f (l.getD k default):=by simp[q_a,h]
attribute [go_sem] y1t
def PV.lim1 (nL nT:Nat):PV->Bool
 | .lp i _=>decide (i<nL)
 | .ms false i _ _=>decide (i<nL)
 | .mr i _ _=>decide (i<nL)
 | .sl (.own k) _=>decide (k<nT)
 | .agg _ | .tup _ | .fn _ _ _=>false
 | _=>true
def PV.lim (nL nT:Nat):PV->Bool
 | .agg cs=>cs.all (PV.lim1 nL nT)
 | .tup cs=>cs.all (PV.lim1 nL nT)
 | .fn _ bs cs=>bs.all (PV.lim1 nL nT)&&cs.all (PV.lim1 nL nT)
 | p=>p.lim1 nL nT
theorem RepF.lim1 {w g F T v p nL nT}(h:RepF w g F T v p)(hp:p.lim1 nL nT=true){F':Fr}(h1: ∀i,i<F.nl->i<nL->i<F'.nl/\F'.lmu i=F.lmu i)(h2:F'.tb=F.tb):RepF w g F' (T.take nT) v p:=by
 cases h with
 | base _ _ h=>exact .base _ _ h
 | lp i off hi=>
  obtain⟨a,b⟩:=h1 i hi (q_b hp);rw[<-b];exact .lp i off a
 | lms i off len cap hi hcap=>
  obtain⟨a,b⟩:=h1 i hi (q_b hp);rw[<-b];exact .lms i off len cap a hcap
 | lmr i len cap hi hcap=>
  obtain⟨a,b⟩:=h1 i hi (q_b hp);rw[<-b];exact .lmr i len cap a hcap
 | lmr0 i ad hi=>exact .lmr0 i ad (h1 i hi (q_b hp)).1
 | own k es v h hk hle hr=>
  have hn:k<nT:=q_b hp;have e:(T.take nT).getD k (0,0)=T.getD k (0,0):=G0y _ _ _ _ hn;exact .own k es v h (by simp;omega) (by rw[e];exact hle) (fun he=>by rw[e] at he⊢;rw[h2];exact hr he)
 | agg=>cases hp
 | tup=>cases hp
 | fn=>cases hp
theorem RepF.lim {w g F T v p nL nT}(h:RepF w g F T v p)(hp:p.lim nL nT=true){F':Fr}(h1: ∀i,i<F.nl->i<nL->i<F'.nl/\F'.lmu i=F.lmu i)(h2:F'.tb=F.tb):RepF w g F' (T.take nT) v p:=by
 cases h with
 | base _ _ h=>exact .base _ _ h
 | agg vs cs hl h=>exact .agg vs cs hl fun j hj=>(h j hj).lim1 (List.all_eq_true.1 hp _ (Q0q _ _ _ hj)) h1 h2
 | tup vs cs hl h=>exact .tup vs cs hl fun j hj=>(h j hj).lim1 (List.all_eq_true.1 hp _ (Q0q _ _ _ hj)) h1 h2
 | fn f us vs bs cs hk hl h0 h=>
  have hp:=Bool.and_eq_true_iff.1 hp;exact .fn f us vs bs cs hk hl (fun j hj=>(h0 j hj).lim1 (List.all_eq_true.1 hp.1 _ (Q0q _ _ _ hj)) h1 h2) (fun j hj=>(h j hj).lim1 (List.all_eq_true.1 hp.2 _ (Q0q _ _ _ hj)) h1 h2)
 | lp i off hi=>exact(RepF.lp (T:=T) i off hi).lim1 hp h1 h2
 | lms i off len cap hi hcap=>exact(RepF.lms (T:=T) i off len cap hi hcap).lim1 hp h1 h2
 | lmr i len cap hi hcap=>exact(RepF.lmr (T:=T) i len cap hi hcap).lim1 hp h1 h2
 | lmr0 i ad hi=>exact(RepF.lmr0 (T:=T) i ad hi).lim1 hp h1 h2
 | own k es v h hk hle hr=>exact(RepF.own k es v h hk hle hr).lim1 hp h1 h2
def q0m :List Bool->List PV->List PV
 | b::bs,p::ps=>(if b then p else .junk)::q0m bs ps
 | [],ps=>ps.map fun _=> .junk
 | _,[]=> []
theorem H0n : ∀(bs:List Bool) (ps:List PV),(q0m bs ps).length=ps.length
 | [],[]=>rfl
 | [],p::ps=>by simp[q0m]
 | b::bs,[]=>rfl
 | b::bs,p::ps=>by simp[q0m,H0n bs ps]
theorem U1n : ∀(bs:List Bool) (ps:List PV) (j:Nat),(q0m bs ps).getD j .junk=ps.getD j .junk\/(q0m bs ps).getD j .junk= .junk
 | [],ps,j=>by refine .inr ?_;simp only[q0m,q_a,List.getElem?_map];cases ps[j]?<;>rfl
 | b::bs,[],j=> .inl rfl
 | b::bs,p::ps,j=>by
  cases j with
  | zero=>cases b with
   | true=>exact .inl rfl
   | false=>exact .inr rfl
  | succ j=>simpa[q0m] using U1n bs ps j
def PFS.mask (bs:List Bool)(nL nT:Nat)(s:PFS):PFS:=⟨q0m bs s.pa,s.L.take nL,s.T.take nT,s.st⟩
def PFS.maskOK (bs:List Bool)(nL nT:Nat)(s:PFS):Prop:=(q0m bs s.pa).all (PV.lim nL nT)=true/\(s.L.take nL).all (fun o=>o.all (PV.lim nL nT))=true
theorem Y0v {L:Q0g}{nL i:Nat}(h:(L.take nL).getD i []≠ []):i<nL/\(L.take nL).getD i []=L.getD i []:=by by_cases hi:i<nL;exact⟨hi,G0y _ _ _ _ hi⟩;exfalso;apply h;rw[q_a,List.getElem?_eq_none (by simp;omega)];rfl
theorem J1p {E:Ent}{bs:List Bool}{nL nT:Nat}{s:PFS}(hm:s.maskOK bs nL nT):Weak E s (s.mask bs nL nT):=by
 intro a w g F h
 let F':Fr:=⟨min nL F.nl,F.lmu,F.tb⟩
 have hnl:=h.frame.nl;have h1: ∀i,i<F.nl->i<nL->i<F'.nl/\F'.lmu i=F.lmu i:=fun i a b=>⟨by simp only[F'];omega,rfl⟩;refine⟨g,F',h.ext,h.store,⟨by simp[F',PFS.mask,hnl],fun i hi=> ?_,fun i hi=> ?_,fun i j hi hj=> ?_,fun i hi=> ?_,fun k b hk hb=> ?_,fun k b hk hb=> ?_,fun k k' b hk hk'=> ?_⟩,h.defers,by simp only[PFS.mask];rw[H0n];exact h.len,fun t ht=> ?_⟩;have:=Y0v hi;simp only[PFS.mask] at hi;rw[this.2] at hi;exact h.frame.lo i hi;have:=Y0v hi;simp only[PFS.mask] at hi;rw[this.2] at hi;exact h.frame.apart i hi;have e1:=Y0v hi;have e2:=Y0v hj;simp only[PFS.mask] at hi hj;rw[e1.2] at hi;rw[e2.2] at hj;exact h.frame.inj i j hi hj;have e1:=Y0v hi;simp only[PFS.mask] at hi⊢;have hi':=hi;rw[e1.2] at hi⊢;intro j hj;obtain⟨q1,c,q2,q3⟩:=h.frame.holds i hi j hj;refine⟨q1,c,q2,q3.lim ?_ h1 rfl⟩;have hmem:s.L.getD i []∈s.L.take nL:=by rw[<-e1.2];apply Q0q;apply Nat.lt_of_not_le;intro hle;apply hi';rw[q_a,List.getElem?_eq_none hle];rfl
 exact List.all_eq_true.1 (List.all_eq_true.1 hm.2 _ hmem) _ (Q0q _ _ _ hj);simp only[PFS.mask,List.length_take] at hk;exact h.frame.tlo k b oG hb;simp only[PFS.mask,List.length_take] at hk;obtain⟨a1,a2⟩:=h.frame.tapart k b oG hb;refine⟨a1,fun i hi=> ?_⟩;have:=Y0v hi;simp only[PFS.mask] at hi;rw[this.2] at hi;exact a2 i hi;simp only[PFS.mask,List.length_take] at hk hk';exact h.frame.tinj k k' b oG oG;simp only[PFS.mask] at ht⊢;rw[H0n] at ht;have hlim:=List.all_eq_true.1 hm.1 _ (Q0q (q0m bs s.pa) t .junk (by rw[H0n];exact ht));rcases U1n bs s.pa t with e | e;rw[e] at hlim⊢;exact(h.tmps t ht).lim hlim h1 rfl;rw[e];exact .base _ _ (.junk _)
theorem Q0d {P:Program}{E:Ent}{c:Code}{Q:Exit->PFS->Prop}{s:PFS}(bs:List Bool)(nL nT:Nat)(I:Nat->PFS->Prop)(n:Nat)(h0:s.maskOK bs nL nT/\I n (s.mask bs nL nT))
 (round: ∀n s,I n s->VC P E c (x0b (fun s'=>s'.maskOK bs nL nT/\ ∃m,m<n/\I m (s'.mask bs nL nT)) Q) s):PWP P E (.loop c) Q s:=by
 refine X2c (fun n s=>s.maskOK bs nL nT/\I n (s.mask bs nL nT)) n h0 fun n s ⟨hm,hI⟩=> ?_;refine W0l (J1p hm) (X1z (Q0a (round n _ hI)) ?_);intro e s hq;cases e with
 | normal=>obtain⟨h1,m,h2,h3⟩:=hq;exact⟨m,h2,h1,h3⟩
 | _=>exact hq
@[go_sem] theorem Z4e {bs:List Bool}{nL nT:Nat}{pa:List PV}{L st:Q0g}{T:List (Nat×Nat)} :(PFS.mk pa L T st).mask bs nL nT=⟨q0m bs pa,L.take nL,T.take nT,st⟩:=(rfl)
@[go_sem] theorem j3i {bs:List Bool}{nL nT:Nat}{pa:List PV}{L st:Q0g}{T:List (Nat×Nat)} :(PFS.mk pa L T st).maskOK bs nL nT=((q0m bs pa).all (PV.lim nL nT)=true/\(L.take nL).all (fun o=>o.all (PV.lim nL nT))=true):=(rfl)
@[go_sem] theorem Z4f {bs:List Bool}{p:PV}{ps:List PV} :q0m (true::bs) (p::ps)=p::q0m bs ps:=(rfl)
@[go_sem] theorem Z4g {bs:List Bool}{p:PV}{ps:List PV} :q0m (false::bs) (p::ps)= .junk::q0m bs ps:=(rfl)
@[go_sem] theorem v3y :q0m [] []= []:=(rfl)
@[go_sem] theorem v3z {p:PV}{ps:List PV} :q0m [] (p::ps)= .junk::q0m [] ps:=(rfl)
attribute [go_sem] PV.lim PV.lim1
def PV.frz1 (i:Nat)(cs:List PV):PV->PV
 | .lp k off=>if k=i then .ep cs off else .lp k off
 | .ms false k off len=>if k=i then(if off+len<=cs.length then .sl .no ((cs.drop off).take len) else .junk) else .ms false k off len
 | p=>p
def PV.frz (i:Nat)(cs:List PV):PV->PV
 | .agg l=> .agg (l.map (PV.frz1 i cs))
 | .tup l=> .tup (l.map (PV.frz1 i cs))
 | .fn f l m=> .fn f (l.map (PV.frz1 i cs)) (m.map (PV.frz1 i cs))
 | p=>p.frz1 i cs
def PFS.freeze (i:Nat)(s:PFS):PFS:=
 let cs:=(s.L.getD i []).map PV.forget2
 ⟨s.pa.map (PV.frz i cs),(s.L.map fun l=>l.map (PV.frz i cs)).set i [],s.T,s.st⟩
theorem X0t {f:PV->PV}(h:f .junk= .junk)(l:List PV)(t:Nat):(l.map f).getD t .junk=f (l.getD t .junk):=by simp only[q_a,List.getElem?_map];cases l[t]?<;>simp[h]
theorem U0p {f:List PV->List PV}(h:f []= [])(l:Q0g)(t:Nat):(l.map f).getD t []=f (l.getD t []):=by simp only[q_a,List.getElem?_map];cases l[t]?<;>simp[h]
theorem J0z (l:Q0g)(i:Nat):(l.set i []).getD i []= []:=by simp only[q_a,List.getElem?_set,if_true];split<;>rfl
section
variable {w:World} {g g':Gh} {F:Fr} {T:List (Nat×Nat)} {i:Nat} {cs:List PV}
structure Frozen (w:World) (g':Gh) (b:Nat) (cs:List PV):Prop where
 vis:cs.length<=g'.vis b
 one: ∀p∈cs,p.cells.length=1/\p.cells= [p]
 cf: ∃cf:Nat->Value,∀j,j<cs.length->w.cell? ⟨b,j,none⟩=some (cf j)/\Rep w g' (cf j) (cs.getD j .junk)
theorem RepF.frz1 {v:Value}{p:PV}(hm: ∀v p,RepF w g F T v p->RepF w g' F T v p)(hz:Frozen w g' (F.lmu i) cs)(h:RepF w g F T v p):RepF w g' F T v (p.frz1 i cs):=by
 obtain⟨cf,hcf⟩:=hz.cf;have h':=hm _ _ h;cases p with
 | lp k off=>
  simp only[PV.frz1];split;rename_i e;subst e;cases h' with
  | base _ _ h'=>cases h'
  | lp k off hi=>
   have:=Rep.ep (w:=w) (g:=g') cs off (F.lmu k) 0 cf (by simpa using hz.vis) (fun j hj=>by simpa using(hcf j hj).1) (fun j hj=>(hcf j hj).2);rw[Nat.zero_add] at this;exact .base _ _ this
  exact h'
 | ms gl k off len=>
  cases gl with
  | true=>exact h'
  | false=>
   simp only[PV.frz1];split;rename_i e;subst e;split;rename_i hle;cases h' with
   | base _ _ h'=>cases h'
   | lms k off len cap hi hcap=>
    have hl:((cs.drop off).take len).length=len:=by simp;omega
    have hg: ∀j,j<len->((cs.drop off).take len).getD j .junk=cs.getD (off+j) .junk:=fun j hj=>(by simp[q_a,List.getElem?_take,hj,List.getElem?_drop]);have hone: ∀j,j<len->(cs.getD (off+j) .junk).cells= [cs.getD (off+j) .junk]:=fun j hj=>(hz.one _ (Q0q _ _ _ oG)).2;have:=Rep.sl (w:=w) (g:=g') .no ((cs.drop off).take len) (F.lmu k) off 1 cap (fun a b=>cf (off+a)) rfl (fun h=>by cases h) oG
     (fun j hj=>by rw[hg j oG,hone j oG];rfl) (fun _=>by have:=hz.vis;omega)
     (fun j k' hj hk=>by have:k'=0:=oG;subst this;simpa using(hcf (off+j) oG).1)
     (fun j k' hj hk=>by have:k'=0:=oG;subst this;rw[hg j oG,hone j oG];simpa using(hcf (off+j) oG).2)
    rw[hl] at this;exact .base _ _ this
   exact .base _ _ (.junk _);exact h'
 | _=>exact h'
theorem RepF.frz {v:Value}{p:PV}(hm: ∀v p,RepF w g F T v p->RepF w g' F T v p)(hz:Frozen w g' (F.lmu i) cs)(h:RepF w g F T v p):RepF w g' F T v (p.frz i cs):=by
 have gm: ∀(l:List PV) (j:Nat),(l.map (PV.frz1 i cs)).getD j .junk=(l.getD j .junk).frz1 i cs:=fun l j=>X0t rfl l j;cases p with
 | agg l=>
  cases h with
  | base _ _ h=>
   cases h with
   | agg vs cs' hl h=>exact .agg vs _ (by simpa using hl) fun j hj=>by rw[gm];exact RepF.frz1 hm hz (.base _ _ (h j (by simpa using hj)))
  | agg vs cs' hl h=>exact .agg vs _ (by simpa using hl) fun j hj=>by rw[gm];exact RepF.frz1 hm hz (h j (by simpa using hj))
 | tup l=>
  cases h with
  | base _ _ h=>
   cases h with
   | tup vs cs' hl h=>exact .tup vs _ (by simpa using hl) fun j hj=>by rw[gm];exact RepF.frz1 hm hz (.base _ _ (h j (by simpa using hj)))
  | tup vs cs' hl h=>exact .tup vs _ (by simpa using hl) fun j hj=>by rw[gm];exact RepF.frz1 hm hz (h j (by simpa using hj))
 | fn f l m=>
  cases h with
  | base _ _ h=>
   cases h with
   | fn f us vs bs cs' hk hl h0 h=>
    exact .fn f us vs _ _ (by simpa using hk) (by simpa using hl) (fun j hj=>by rw[gm];exact RepF.frz1 hm hz (.base _ _ (h0 j (by simpa using hj)))) fun j hj=>by rw[gm];exact RepF.frz1 hm hz (.base _ _ (h j (by simpa using hj)))
  | fn f us vs bs cs' hk hl h0 h=>
   exact .fn f us vs _ _ (by simpa using hk) (by simpa using hl) (fun j hj=>by rw[gm];exact RepF.frz1 hm hz (h0 j (by simpa using hj))) fun j hj=>by rw[gm];exact RepF.frz1 hm hz (h j (by simpa using hj))
 | _=>exact RepF.frz1 hm hz h
end
def PFS.freezeOK (i:Nat)(s:PFS):Prop:=(s.L.getD i []).all (fun p=>p.closed2&&(match p with | .agg _=>false | _=>true))=true
theorem W1d {p:PV}(h:(match p with | .agg _=>false | _=>true)=true):p.forget2.cells= [p.forget2]:=by cases p<;>first | rfl | cases h
theorem q1t (w:World)(g:Gh)(b n:Nat)(hb:b<w.heap.size\/n=0)(hz: ∀b,w.heap.size<=b->g.vis b=0):
 Chg w g w { g with vis:=fun c=>if c=b then max n (g.vis c) else g.vis c } (fun c=>c=b)/\ ∀c,w.heap.size<=c->(if c=b then max n (g.vis c) else g.vis c)=0:=by
 refine⟨⟨⟨Nat.le_refl _,fun _ _=>rfl,fun c=> ?_,fun c o v ho hc=>hc⟩,rfl,rfl,rfl,Nat.le_refl _,fun c hc hx=>⟨rfl,if_neg hx⟩,fun i h1 h2=>by simp at h2;omega⟩,fun c hc=> ?_⟩;simp only;split;exact Nat.le_max_right _ _;exact Nat.le_refl _;split;rename_i e;subst e;rcases hb with hb | hb;omega;rw[hb,hz c hc];rfl;exact hz c hc
theorem v1z {E:Ent}{s:PFS}(i:Nat)(hi:s.freezeOK i):Weak E s (s.freeze i):=by
 intro a w g F h;by_cases hne:s.L.getD i []= []
 --a box without cells
 have hz:Frozen w g (F.lmu i) []:=⟨Nat.zero_le _,(fun p hp=>by cases hp),⟨fun _=>undef,fun j hj=>by simp at hj⟩⟩;have hf: ∀v p,RepF w g F s.T v p->RepF w g F s.T v (p.frz i []):=fun v p hp=>RepF.frz (fun _ _ h=>h) hz hp;have hL: ∀k,((s.L.map fun l=>l.map (PV.frz i [])).set i []).getD k []≠ []->s.L.getD k []≠ []/\((s.L.map fun l=>l.map (PV.frz i [])).set i []).getD k []=(s.L.getD k []).map (PV.frz i []):=fun k hk=>by
  by_cases hki:i=k;subst hki;exfalso;apply hk;exact J0z _ _;have e:((s.L.map fun l=>l.map (PV.frz i [])).set i []).getD k []=(s.L.getD k []).map (PV.frz i []):=by rw[<-U0p (f:=fun l=>l.map (PV.frz i [])) rfl];simp[q_a,List.getElem?_set_ne hki]
  refine⟨fun e0=>hk (by rw[e,e0];rfl),e⟩
 have hcs:(s.L.getD i []).map PV.forget2= []:=by rw[hne];rfl
 refine⟨g,F,?_⟩;unfold PFS.freeze;rw[hcs];refine⟨h.ext,h.store,⟨by simp[h.frame.nl],fun k hk=>h.frame.lo k (hL k hk).1,fun k hk=>h.frame.apart k (hL k hk).1,fun k j hk hj=>h.frame.inj k j (hL k hk).1 (hL j hj).1,fun k hk=> ?_,h.frame.tlo,fun k b hk hb=>⟨(h.frame.tapart k b hk hb).1,fun j hj=>(h.frame.tapart k b hk hb).2 j (hL j hj).1⟩,h.frame.tinj⟩,h.defers,by simp[h.len],fun t ht=> ?_⟩;obtain⟨h1,h2⟩:=hL k hk;simp only at hk⊢;rw[h2];intro j hj;obtain⟨q1,c,q2,q3⟩:=h.frame.holds k h1 j (by simpa using hj);exact⟨q1,c,q2,by rw[X0t (f:=PV.frz i []) rfl];exact hf _ _ q3⟩;simp only at ht⊢;rw[X0t (f:=PV.frz i []) rfl];exact hf _ _ (h.tmps t (by simpa using ht))
 let cs:=(s.L.getD i []).map PV.forget2
 obtain⟨l1,l2,l3⟩:=h.frame.lo i hne;obtain⟨k1,k2⟩:=q1t w g (F.lmu i) cs.length (.inl l2) h.store.none;have hall:=List.all_eq_true.1 hi
 --all but the box
 have hLe:=k1.le
 let g':Gh:= { g with vis:=fun c=>if c=F.lmu i then max cs.length (g.vis c) else g.vis c }
 have htok:z1g w g F s.T w g' F s.T:=⟨Nat.le_refl _,fun k hk=>⟨Nat.le_refl _,fun _ v es hR=>hR.mono fun b hb=>⟨rfl,if_neg fun e=>(h.frame.tapart k b hk hb).2 i hne e.symm⟩⟩⟩;have hm: ∀v p,RepF w g F s.T v p->RepF w g' F s.T v p:=fun v p hr=>hr.mono hLe (Nat.le_refl _) (fun _ _=>rfl) htok;have hcell: ∀j,j<cs.length-> ∃c,w.cell? ⟨F.lmu i,j,none⟩=some c/\Rep w g' c (cs.getD j .junk):=fun j hj=>by have hj':j<(s.L.getD i []).length:=(by simpa[cs] using hj);obtain⟨q1,c,q2,q3⟩:=h.frame.holds i hne j hj';refine⟨c,q2,?_⟩;have e:cs.getD j .junk=((s.L.getD i []).getD j .junk).forget2:=X0t (f:=PV.forget2) rfl _ _;rw[e];exact(hm _ _ q3).forget2 (Bool.and_eq_true_iff.1 (hall _ (Q0q _ _ _ hj'))).1
 have hz:Frozen w g' (F.lmu i) cs:=by refine⟨?_,fun p hp=> ?_,⟨fun j=>if h:j<cs.length then(hcell j h).choose else undef,fun j hj=> ?_⟩⟩;show cs.length<=(if F.lmu i=F.lmu i then max cs.length (g.vis (F.lmu i)) else _);rw[if_pos rfl];exact Nat.le_max_left _ _;simp only[cs,List.mem_map] at hp;obtain⟨q,hq,rfl⟩:=hp;have:=W1d (Bool.and_eq_true_iff.1 (hall _ hq)).2;exact⟨by rw[this];rfl,this⟩;simp only[dif_pos hj];exact(hcell j hj).choose_spec
 have hf: ∀v p,RepF w g F s.T v p->RepF w g' F s.T v (p.frz i cs):=fun v p hp=>RepF.frz hm hz hp;have hL: ∀k,((s.L.map fun l=>l.map (PV.frz i cs)).set i []).getD k []≠ []->k≠i/\s.L.getD k []≠ []/\((s.L.map fun l=>l.map (PV.frz i cs)).set i []).getD k []=(s.L.getD k []).map (PV.frz i cs):=fun k hk=>by
  by_cases hki:i=k;subst hki;exfalso;apply hk;exact J0z _ _;have e:((s.L.map fun l=>l.map (PV.frz i cs)).set i []).getD k []=(s.L.getD k []).map (PV.frz i cs):=by rw[<-U0p (f:=fun l=>l.map (PV.frz i cs)) rfl];simp[q_a,List.getElem?_set_ne hki]
  exact⟨fun e=>hki e.symm,fun e0=>hk (by rw[e,e0];rfl),e⟩
 have hvis: ∀k,k≠i->s.L.getD k []≠ []->g'.vis (F.lmu k)=g.vis (F.lmu k):=fun k hk hk0=>if_neg fun e=>hk (h.frame.inj k i hk0 hne e);have hst:StoreOK w g' s.st:=by refine⟨h.store.n,h.store.inj,h.store.lt,fun j hj hj0=> ?_,fun j hj=> ?_,k2,h.store.tab.mono hLe⟩;have:g'.vis (g.mu j)=g.vis (g.mu j):=if_neg fun e=>h.frame.apart i hne j hj e;exact this.trans (h.store.vis j hj hj0);exact(h.store.holds j hj).mono rfl fun v p hr=>hr.mono hLe
 refine⟨g',F,⟨h.ext.step k1 (fun b hb=> .inl (by rw[hb];exact l1)),hst,⟨by simp[PFS.freeze,h.frame.nl],fun k hk=> ?_,fun k hk=> ?_,fun k j hk hj=> ?_,fun k hk=> ?_,h.frame.tlo,fun k b hk hb=>⟨(h.frame.tapart k b hk hb).1,fun j hj=> ?_⟩,h.frame.tinj⟩,h.defers,by simp[PFS.freeze,h.len],fun t ht=> ?_⟩⟩;obtain⟨h1,h2,h3⟩:=hL k hk;obtain⟨a1,a2,a3⟩:=h.frame.lo k h2;exact⟨a1,a2,(hvis k h1 h2).trans a3⟩;exact h.frame.apart k (hL k hk).2.1;exact h.frame.inj k j (hL k hk).2.1 (hL j hj).2.1;obtain⟨h1,h2,h3⟩:=hL k hk;simp only[PFS.freeze] at hk⊢;show Holds w _ _ (((s.L.map fun l=>l.map (PV.frz i cs)).set i []).getD k []);rw[h3];intro j hj;obtain⟨q1,c,q2,q3⟩:=h.frame.holds k h2 j (by simpa using hj);exact⟨q1,c,q2,by rw[X0t (f:=PV.frz i cs) rfl];exact hf _ _ q3⟩;exact(h.frame.tapart k b hk hb).2 j (hL j hj).2.1;simp only[PFS.freeze] at ht⊢;show RepF w g' F s.T _ ((s.pa.map (PV.frz i cs)).getD t .junk);rw[X0t (f:=PV.frz i cs) rfl];exact hf _ _ (h.tmps t (by simpa using ht))
@[go_sem] theorem j3p {i:Nat}{pa:List PV}{L st:Q0g}{T:List (Nat×Nat)} :(PFS.mk pa L T st).freeze i=⟨pa.map (PV.frz i ((L.getD i []).map PV.forget2)),(L.map fun l=>l.map (PV.frz i ((L.getD i []).map PV.forget2))).set i [],T,st⟩:=(rfl)
def fzOK (l:List PV):Bool:=l.all fun p=>p.closed2&&(match p with | .agg _=>false | _=>true)
@[go_sem] theorem w3c :fzOK []=true:=(rfl)
@[go_sem] theorem Z4m {v:Value}{l:List PV} :fzOK (.sc v::l)=fzOK l:=by simp[fzOK,PV.closed2,PV.closed1]
@[go_sem] theorem Z4n {es l:List PV} :fzOK (.sl .no es::l)=fzOK l:=by simp[fzOK,PV.closed2,PV.closed1]
@[go_sem] theorem j3o {es l:List PV} :fzOK (.sl .full es::l)=fzOK l:=by simp[fzOK,PV.closed2,PV.closed1]
@[go_sem] theorem w3b {k:Nat}{es l:List PV} :fzOK (.sl (.own k) es::l)=fzOK l:=by simp[fzOK,PV.closed2,PV.closed1]
@[go_sem] theorem Z4p {f:Fn}{bs cs l:List PV} :fzOK (.fn f bs cs::l)=(bs.all PV.closed1&&cs.all PV.closed1&&fzOK l):=by simp[fzOK,PV.closed2]
@[go_sem] theorem Z4o {i o:Nat}{l:List PV} :fzOK (.gp i o::l)=fzOK l:=by simp[fzOK,PV.closed2,PV.closed1]
@[go_sem] theorem Z4q {cs:List PV}{o:Nat}{l:List PV} :fzOK (.ep cs o::l)=fzOK l:=by simp[fzOK,PV.closed2,PV.closed1]
@[go_sem] theorem G3l {i:Nat}{pa:List PV}{L st:Q0g}{T:List (Nat×Nat)} :(PFS.mk pa L T st).freezeOK i=(fzOK (L.getD i [])=true):=(rfl)
attribute [go_sem] PV.frz PV.frz1
theorem Z0l {P:Program}{E:Ent}{c:Code}{Q:Exit->PFS->Prop}{s:PFS}(i:Nat)(hi:s.freezeOK i)(h:PWP P E c Q (s.freeze i)):PWP P E c Q s:=W0l (v1z i hi) h
def X0o :Op->Bool
 | .move _ | .assign _ | .pick .. | .build .. | .buildSlice .. | .load .. | .nilCheck _ | .unOp .. | .convert .. | .fieldAddr .. | .field .. | .indexAddr .. | .index .. | .slice .. | .makeFunc .. | .extract .. =>true
 | .binOp _ _ _ (.const (.slice _ _ _)) _=>false
 | .binOp .. =>true
 | .call ⟨.builtin .len,_,_⟩ | .call ⟨.builtin .min,_,_⟩ | .call ⟨.builtin .max,_,_⟩=>true
 | _=>false
def G0t :Op->Bool
 | .load .. =>true
 | _=>false
def Req.q :Req->Bool
 | .val _ | .need _ _ | .newsl _ | .fail=>true
 | _=>false
def Req.lq :Req->Bool
 | .val _ | .need _ _ | .newsl _ | .fail | .load .. =>true
 | _=>false
theorem x1w {P:Program}{op:Op}{r:Operand->PV}(h:X0o op=true):U0n P op r=none:=by unfold U0n;split;cases h;cases h;rfl
theorem X1g {op:Op}{r:Operand->PV}(h:X0o op=true):K0d op r=none:=by unfold K0d;split;cases h;rfl
theorem K3m (c a b:PV):(K1w c a b).q=true:=by unfold K1w;split<;>rfl
theorem j2a (T:Option TI)(ps:List (Nat×PV)):(v0w T ps).q=true:=by unfold v0w;split<;>try split<;>rfl
                                                                  rfl
theorem X1o (T:Option TI)(n:Nat)(ps:List (Nat×PV)):(V0u T n ps).q=true:=by unfold V0u;split<;>try split<;>rfl
                                                                           rfl
theorem U3w (T:Option TI)(x:PV):(x0x T x).lq=true:=by unfold x0x;split<;>rfl
theorem j3a (x:PV):(y1c x).q=true:=by unfold y1c;split<;>rfl
theorem un_q (op:UnOp)(x:PV):(unPV op x).q=true:=by unfold unPV;split<;>rfl
theorem V3o (S D:Option TI)(x:PV):(W1p S D x).q=true:=by unfold W1p;split;rfl;split;split<;>rfl;rfl;split;split<;>rfl;rfl;rfl;rfl
theorem W1g (T:Option TI)(x:PV)(f:Nat):(J0e T x f).q=true:=by unfold J0e;split;split;split;rfl;split<;>rfl;rfl;rfl
theorem z2n (T:Option TI)(x:PV)(f:Nat):(v0v T x f).q=true:=by unfold v0v;split;split;split;split<;>rfl;split<;>rfl;rfl;rfl
theorem V1m (T:Option TI)(x i:PV):(W0p T x i).q=true:=by unfold W0p;split<;>rfl
theorem z2b (T:Option TI)(x i:PV):(v0p T x i).q=true:=by unfold v0p;split<;>rfl
theorem v2k (e:EI)(t:Tag)(es:List PV)(lo hi:Option PV):(j0s e t es lo hi).q=true:=by unfold j0s;split<;>rfl
theorem v2j (e:EI)(es:List PV)(lo hi:Option PV)(m:Int):(j0r e es lo hi m).q=true:=by unfold j0r;split<;>rfl
theorem v2h (s:ByteArray)(lo hi:Option PV):(j0p s lo hi).q=true:=by unfold j0p;split<;>rfl
theorem v2i (e:EI)(gl:Bool)(o off len:Nat)(lo hi:Option PV):(j0q e gl o off len lo hi).q=true:=by unfold j0q;split<;>rfl
theorem U2c (T:Option TI)(x:PV)(lo hi mx:Option PV):(v0b T x lo hi mx).q=true:=by unfold v0b;split;exact v2k _ _ _ _ _;exact v2j _ _ _ _ _;rfl;exact v2h _ _ _;exact v2i _ _ _ _ _ _ _;rfl
theorem Q3v (op:BinOp)(k:IntKind)(a b:Int):(W0v op k a b).q=true:=by unfold W0v;split<;>rfl
theorem k3s (op:BinOp)(T:Option TI)(x y:PV):(J0k op T x y).q=true:=by
 unfold J0k;split;rfl;rfl;split;exact Q3v _ _ _ _;rfl;rfl;rfl;rfl
 all_goals first | rfl | (split<;>rfl)
theorem j3l (T:Option TI)(x:PV):(V2z T x).q=true:=by unfold V2z;split<;>rfl
theorem Z2q {P:Program}{op:Op}{ty:TypeId}{r:Operand->PV}(h:X0o op=true):(req P op ty r).lq=true/\(G0t op=false->(req P op ty r).q=true):=by
 have hq: ∀x:Req,x.q=true->x.lq=true:=fun x hx=>by cases x<;>first | rfl | cases hx
 have both: ∀x:Req,x.q=true->x.lq=true/\(G0t op=false->x.q=true):=fun x hx=>⟨hq x hx,fun _=>hx⟩;cases op
 case load t x=>exact⟨U3w _ _,fun h=>by cases h⟩
 case move=>exact both _ rfl
 case assign=>exact both _ rfl
 case pick=>exact both _ (K3m _ _ _)
 case build=>exact both _ (j2a _ _)
 case buildSlice=>exact both _ (X1o _ _ _)
 case nilCheck=>exact both _ (j3a _)
 case unOp=>exact both _ (un_q _ _)
 case convert=>exact both _ (V3o _ _ _)
 case fieldAddr=>exact both _ (W1g _ _ _)
 case field=>exact both _ (z2n _ _ _)
 case indexAddr=>exact both _ (V1m _ _ _)
 case index=>exact both _ (z2b _ _ _)
 case slice=>exact both _ (U2c _ _ _ _ _)
 case makeFunc=>exact both _ rfl
 case binOp=>exact both _ (k3s _ _ _ _)
 case extract x i=>
  refine both _ ?_;show(Req.q (match r x with | .tup vs=>if i<vs.length then Req.val (vs.getD i .junk) else .fail | _=> .fail))=true;split;split<;>rfl;rfl
 case call c=>
  obtain⟨cal,as,ts⟩:=c;cases cal with
  | value f=>cases h
  | invoke a b=>cases h
  | builtin b=>
   refine both _ ?_;show Req.q (Y0f P b ts.toList (as.toList.map r))=true;unfold Y0f;split;exact j3l _ _;cases h;cases h;split<;>rfl;split<;>rfl;rfl
 all_goals cases h
theorem K3h {r:Req}{s s' s1:PFS}{v:PV}(h:r.lq=true)(hr:r.run s=some (v,s1)):s1=s:=by
 cases r with
 | val x=>cases hr;rfl
 | need c x=>simp only[Req.run] at hr;split at hr<;>cases hr;rfl
 | newsl es=>cases hr;rfl
 | fail=>cases hr
 | load gl i off n agg=>
  simp only[Req.run] at hr;by_cases hc:off+n<=((if gl then s.st else s.L).getD i []).length;rw[if_pos hc] at hr;cases hr;rfl;rw[if_neg hc] at hr;cases hr
 | _=>cases h
theorem v2q {r:Req}{s s':PFS}{v:PV}(h:r.lq=true)(hs:r.q=true\/(s.L=s'.L/\s.st=s'.st))(hr:r.run s=some (v,s)):r.run s'=some (v,s'):=by
 cases r with
 | val x=>cases hr;rfl
 | need c x=>simp only[Req.run] at hr⊢;split at hr<;>simp_all
 | newsl es=>cases hr;rfl
 | fail=>cases hr
 | load gl i off n agg=>
  rcases hs with hs | ⟨h1,h2⟩;cases hs;simp only[Req.run] at hr⊢;rw[<-h1,<-h2];split at hr<;>simp_all
 | _=>cases h
theorem Z3x {s s':PFS}{x:Operand}(h: ∀t,x= .tmp t->s.pa.getD t .junk=s'.pa.getD t .junk):s.ev x=s'.ev x:=by
 cases x with
 | tmp t=>exact h t rfl
 | _=>rfl
theorem K1k {P:Program}{op:Op}{ty:TypeId}{r r':Operand->PV}(h: ∀x∈op.operands,r x=r' x):req P op ty r=req P op ty r':=by
 have pairs: ∀ps:Array (Nat×Operand),(∀x∈ps.map (·.2),r x=r' x)->(ps.toList.map fun x=>(x.1,r x.2))=(ps.toList.map fun x=>(x.1,r' x.2)):=fun ps hp=>
  List.map_congr_left fun p hm=>by obtain⟨i,x⟩:=p;simp only[hp x (Array.mem_map.2 ⟨(i,x),Array.mem_def.2 hm,rfl⟩)]
 have lst: ∀ps:Array Operand,(∀x∈ps,r x=r' x)->ps.toList.map r=ps.toList.map r':=fun ps hp=>List.map_congr_left fun p hm=>hp p (Array.mem_def.2 hm);cases op<;>simp only[Op.operands] at h<;>simp only[req]
 case build t ps=>rw[pairs ps fun x hx=>h x (by simpa using hx)]
 case buildSlice t n ps=>rw[pairs ps fun x hx=>h x (by simpa using hx)]
 case makeFunc fn first captured=>rw[lst first fun x hx=>h x (by simp[hx]),lst captured fun x hx=>h x (by simp[hx])]
 case call c=>
  obtain⟨cal,as,ts⟩:=c;cases cal with
  | builtin b=>simp only[req];rw[lst as fun x hx=>h x (by simp[Call.operands,hx])]
  | _=>rfl
 case slice t x lo hi mx=>cases lo<;>cases hi<;>cases mx<;>simp_all
 all_goals (first | rfl | (simp_all;done))
theorem X1m {P:Program}{op:Op}{r r':Operand->PV}(h: ∀x∈op.operands,r x=r' x):U0n P op r=U0n P op r':=by unfold U0n;split;rw[h _ (by simp[Op.operands])];rw[h _ (by simp[Op.operands])];rfl
theorem k0x {op:Op}{r r':Operand->PV}(h: ∀x∈op.operands,r x=r' x):K0d op r=K0d op r':=by unfold K0d;split;rename_i f args ts;have e1:args.toList.map r=args.toList.map r':=List.map_congr_left fun p hm=>h p (by simp[Op.operands,Call.operands,Array.mem_def,hm]);rw[h f (by simp[Op.operands,Call.operands]),e1];rfl
theorem Q3h {ops:Array Oper}{o:Oper}{t:Tmp}(h:Operand.tmp t∈o.op.operands):t∈o.looksAt ops:=
 List.mem_append_left _ (List.mem_filterMap.2 ⟨.tmp t,by simpa using h,rfl⟩)
theorem Q1c {ops:Array Oper}{o:Oper}{s s':PFS}(h: ∀d∈o.looksAt ops,s.pa.getD d .junk=s'.pa.getD d .junk): ∀x∈o.op.operands,s.ev x=s'.ev x:=
 fun x hx=>Z3x fun t ht=>h t (Q3h (ht▸hx))
theorem H0y {ops:Array Oper}{o:Oper}{s s':PFS}{j:Nat}{want:Bool}(hg:o.guard=some (j,want))(h: ∀d∈o.looksAt ops,s.pa.getD d .junk=s'.pa.getD d .junk):X0j ops.toList s j want=X0j ops.toList s' j want:=by unfold X0j;split;rename_i oj hj;split;rename_i d hd;rw[h d];refine List.mem_append_right _ ?_;simp only[hg];have:ops[j]?=some oj:=(by simpa using hj);simp[this,hd];rfl;rfl
theorem J0d {s:PFS}{dst:Option Tmp}{v:PV}{d:Tmp}(h:dst≠some d):(s.put dst v).pa.getD d .junk=s.pa.getD d .junk:=by
 cases dst with
 | none=>rfl
 | some e=>
  have:e≠d:=fun x=>h (by rw[x]);simp[PFS.put,q_a,List.getElem?_set_ne this]
theorem K1s {s:PFS}{v:PV}{d:Tmp}(h:d<s.pa.length):(s.put (some d) v).pa.getD d .junk=v:=by simp[PFS.put,q_a,h]
theorem j0w {s:PFS}{x y:Option Tmp}(v u:PV)(h: ∀d,x=some d->y≠some d):(s.put x v).put y u=(s.put y u).put x v:=by
 cases x with
 | none=>rfl
 | some d=>cases y with
  | none=>rfl
  | some e=>
   have hne:d≠e:=fun he=>h d rfl (he▸rfl);simp[PFS.put,List.set_comm _ _ hne]
theorem Y0c (s:PFS)(x:Option Tmp)(v:PV):(s.put x v).L=s.L/\(s.put x v).T=s.T/\(s.put x v).st=s.st/\(s.put x v).pa.length=s.pa.length:=by cases x<;>simp[PFS.put]
theorem K2y (r:Req)(s:PFS)(v:PV)(x:Option Tmp):r.run (s.put x v)=(r.run s).map fun q=>(q.1,q.2.put x v):=by
 cases x with
 | none=>show r.run s=_;cases r.run s<;>rfl
 | some d=>
  cases r with
  | val w=>rfl
  | newsl es=>rfl
  | fail=>rfl
  | box cs=>rfl
  | mks cs len=>rfl
  | need c w=>cases c<;>rfl
  | load gl i off n agg=>
   cases gl;by_cases hc:off+n<=(s.L.getD i []).length<;>simp only[Req.run,PFS.put,Bool.false_eq_true,if_false,hc,if_true]<;>rfl;by_cases hc:off+n<=(s.st.getD i []).length<;>simp only[Req.run,PFS.put,if_false,hc,if_true]<;>rfl
  | store gl i off cs=>
   cases gl;by_cases hc:off+cs.length<=(s.L.getD i []).length/\0<(s.L.getD i []).length<;>simp only[Req.run,PFS.put,Bool.false_eq_true,if_false,hc,if_true]<;>rfl;by_cases hc:off+cs.length<=(s.st.getD i []).length/\0<(s.st.getD i []).length<;>simp only[Req.run,PFS.put,if_false,hc,if_true]<;>rfl
  | app t es ys e=>
   by_cases hc:(e.zok=true/\es.length+ys.length<=1152921504606846976/\(es.length+ys.length)*e.by_<=140737488355328/\
    es.all (fun x=>x.cells.length==e.sz)=true/\ys.all (fun x=>(x.cells.length==e.sz)&&x.cells.all PV.cellOK)=true)
   cases t with
   | own k=>by_cases hT:s.T.getD k (0,0)=(es.length,e.sz)<;>simp only[Req.run,PFS.put,hc,hT,if_true,if_false,and_self]<;>rfl
   | full=>
    by_cases hT:es.length=0\/0<ys.length;simp only[Req.run,PFS.put,if_pos hc,if_pos hT]<;>rfl;simp only[Req.run,PFS.put,if_pos hc,if_neg hT]<;>rfl
   | _=>simp only[Req.run,PFS.put,hc,if_true,and_self]<;>rfl
   simp only[Req.run,PFS.put,hc,if_false]<;>rfl
theorem Y3f {r:Req}{s s1:PFS}{v p:PV}{x:Option Tmp}(h:r.run (s.put x v)=some (p,s1)): ∃s2,r.run s=some (p,s2)/\s1=s2.put x v:=by
 rw[K2y] at h;cases hr:r.run s with
 | none=>rw[hr] at h;cases h
 | some q=>rw[hr] at h;cases h;exact⟨_,rfl,rfl⟩
theorem x3c {r:Req}{s s1:PFS}{p:PV}(h:r.run s=some (p,s1)):s1.pa=s.pa:=by
 cases r with
 | val w=>cases h;rfl
 | newsl es=>cases h;rfl
 | fail=>cases h
 | box cs=>cases h;rfl
 | mks cs len=>cases h;rfl
 | need c w=>simp only[Req.run] at h;split at h<;>cases h;rfl
 | load gl i off n agg=>
  simp only[Req.run] at h;by_cases hc:off+n<=((if gl then s.st else s.L).getD i []).length;rw[if_pos hc] at h;cases h;rfl;rw[if_neg hc] at h;cases h
 | store gl i off cs=>
  simp only[Req.run] at h;by_cases hc:off+cs.length<=((if gl then s.st else s.L).getD i []).length/\0<((if gl then s.st else s.L).getD i []).length;rw[if_pos hc] at h;cases gl<;>cases h<;>rfl;rw[if_neg hc] at h;cases h
 | app t es ys e=>
  simp only[Req.run] at h;split at h;cases t with
  | own k=>
   simp only at h;by_cases hT:s.T.getD k (0,0)=(es.length,e.sz);rw[if_pos hT] at h;cases h;rfl;rw[if_neg hT] at h;cases h
  | full=>
   simp only at h;by_cases hT:es.length=0\/0<ys.length;rw[if_pos hT] at h;cases h;rfl;rw[if_neg hT] at h;cases h
  | _=>cases h
  cases h
theorem w2d {s:PFS}{x y:Option Tmp}{v r:PV}{st:Q0g}(h: ∀d,x=some d->y≠some d):(s.put x v).recv y r st=(s.recv y r st).put x v:=by
 have e: ∀T',({ s.put x v with st:=st,T:=T' } :PFS)=({ s with st:=st,T:=T' } :PFS).put x v:=fun T'=>by cases x<;>rfl
 have e2:({ s.put x v with st:=st } :PFS)=({ s with st:=st } :PFS).put x v:=by cases x<;>rfl
 have eT:(s.put x v).T=s.T:=(Y0c s x v).2.1;unfold PFS.recv;split;simp only[eT,e];exact j0w _ _ h;rw[e2];exact j0w _ _ h
theorem Y3k {s:PFS}{y:Option Tmp}{r:PV}{st:Q0g} : ∃u,(s.recv y r st).pa=(s.put y u).pa:=by unfold PFS.recv;split;exact⟨_,by cases y<;>rfl⟩;exact⟨_,by cases y<;>rfl⟩
section
variable {P:Program} {ops:Array Oper} {o:Oper} {K K':PFS->Prop} {s:PFS}
theorem k2e (h:PO P o K s)(hk: ∀s,K s->K' s):PO P o K' s:=by unfold PO at h⊢;split;rename_i hn;rw[hn] at h;exact fun b hb=>hk _ (h b hb);rename_i hn;rw[hn] at h;simp only at h;split;rename_i hc;rw[hc] at h;exact⟨h.1,h.2.mono fun r st q=>hk _ q⟩;rename_i hc;rw[hc] at h;simp only at h;split;rename_i hs;rw[hs] at h;exact hk _ h;rename_i hs;rw[hs] at h;exact h
theorem V3q {dst:Option Tmp}{v:PV}(h1: ∀d,dst=some d->d∉o.looksAt ops)(h2: ∀d,dst=some d->o.dst≠some d)(h:PO P o K (s.put dst v)):PO P o (fun s'=>K (s'.put dst v)) s:=by
 have he: ∀x∈o.op.operands,(s.put dst v).ev x=s.ev x:=Q1c (ops:=ops) fun d hd=>J0d fun e=>h1 d e hd;unfold PO at h⊢;rw[X1m he,k0x he] at h;split;rename_i hn;rw[hn] at h;intro b hb;have:=h b hb;rw[j0w _ _ h2] at this;exact this;rename_i hn;rw[hn] at h;simp only at h;split;rename_i hc;rw[hc] at h;refine⟨h.1,?_⟩;have:=h.2;rw[(Y0c s dst v).2.2.1] at this;exact this.mono fun r st q=>(by rw[w2d h2] at q;exact q);rename_i hc;rw[hc] at h;simp only[w0l,K1k he] at h;unfold w0l;cases hr:(req P o.op o.type s.ev).run (s.put dst v) with
 | none=>rw[hr] at h;exact h.elim
 | some x=>
  obtain⟨p,s1⟩:=x;rw[hr] at h;obtain⟨s2,hs2,rfl⟩:=Y3f hr;rw[hs2];simp only at h⊢;rw[j0w _ _ h2] at h;exact h
theorem v3b (h:PO P o K s):PO P o (fun s'=>K s'/\ ∃u,s'.pa=(s.put o.dst u).pa) s:=by
 unfold PO at h⊢;split;rename_i hn;rw[hn] at h;exact fun b hb=>⟨h b hb,_,rfl⟩;rename_i hn;rw[hn] at h;simp only at h;split;rename_i hc;rw[hc] at h;exact⟨h.1,h.2.mono fun r st q=>⟨q,Y3k⟩⟩;rename_i hc;rw[hc] at h;simp only at h;unfold w0l at h⊢;cases hr:(req P o.op o.type s.ev).run s with
 | none=>rw[hr] at h;exact h.elim
 | some x=>
  obtain⟨p,s1⟩:=x;rw[hr] at h;refine⟨h,p,?_⟩;have:=x3c hr;cases hd:o.dst with
  | none=>exact this
  | some d=>simp only[PFS.put,this]
theorem K2g (hq:X0o o.op=true)(h:PO P o K s): ∃u,(req P o.op o.type s.ev).run s=some (u,s)/\K (s.put o.dst u):=by
 unfold PO at h;rw[x1w hq,X1g hq] at h;simp only[w0l] at h;cases hr:(req P o.op o.type s.ev).run s with
 | none=>rw[hr] at h;exact h.elim
 | some x=>
  obtain⟨p,s1⟩:=x;rw[hr] at h;have:=K3h (s':=s) (Z2q hq).1 hr;subst this;exact⟨p,rfl,h⟩
theorem Z2z (hq:X0o o.op=true){u:PV}(h1:(req P o.op o.type s.ev).run s=some (u,s))(h2:K (s.put o.dst u)):PO P o K s:=by unfold PO;rw[x1w hq,X1g hq];simp only[w0l,h1];exact h2
def POg (P:Program)(ops:Array Oper)(o:Oper)(K:PFS->Prop)(s:PFS):Prop:=
 match o.guard with
 | none=>PO P o K s
 | some (j,want)=>match X0j ops.toList s j want with
  | some b=>if b=want then PO P o K s else K (s.put o.dst (.tup []))
  | none=>False
def POp (P:Program)(ops:Array Oper)(i:Nat)(K:PFS->Prop)(s:PFS):Prop:=
 match ops[i]? with
 | none=>False
 | some o=>POg P ops o K s
def QY (P:Program)(ops:Array Oper)(o:Oper)(v:PV)(s:PFS):Prop:=
 match o.guard with
 | none=>(req P o.op o.type s.ev).run s=some (v,s)
 | some (j,want)=>match X0j ops.toList s j want with
  | some b=>if b=want then(req P o.op o.type s.ev).run s=some (v,s) else v= .tup []
  | none=>False
theorem k0j (h:POg P ops o K s)(hk: ∀s,K s->K' s):POg P ops o K' s:=by unfold POg at h⊢;split;rename_i hg;rw[hg] at h;exact k2e h hk;rename_i hg;rw[hg] at h;simp only at h;split;rename_i hb;rw[hb] at h;simp only at h;split;rename_i e;rw[if_pos e] at h;exact k2e h hk;rename_i e;rw[if_neg e] at h;exact hk _ h;rename_i hb;rw[hb] at h;exact h
theorem k2b {dst:Option Tmp}{v:PV}(h1: ∀d,dst=some d->d∉o.looksAt ops)(h2: ∀d,dst=some d->o.dst≠some d)(h:POg P ops o K (s.put dst v)):POg P ops o (fun s'=>K (s'.put dst v)) s:=by unfold POg at h⊢;split;rename_i hg;rw[hg] at h;exact V3q h1 h2 h;rename_i j want hg;rw[hg] at h;simp only at h;rw[H0y (s':=s) hg fun d hd=>J0d fun e=>h1 d e hd] at h;split;rename_i hb;rw[hb] at h;simp only at h;split;rename_i e;rw[if_pos e] at h;exact V3q h1 h2 h;rename_i e;rw[if_neg e] at h;rw[j0w _ _ h2] at h;exact h;rename_i hb;rw[hb] at h;exact h
theorem k2c (h:POg P ops o K s):POg P ops o (fun s'=>K s'/\ ∃u,s'.pa=(s.put o.dst u).pa) s:=by unfold POg at h⊢;split;rename_i hg;rw[hg] at h;exact v3b h;rename_i hg;rw[hg] at h;simp only at h;split;rename_i hb;rw[hb] at h;simp only at h;split;rename_i e;rw[if_pos e] at h;exact v3b h;rename_i e;rw[if_neg e] at h;exact⟨h,_,rfl⟩;rename_i hb;rw[hb] at h;exact h
theorem W1z (hq:X0o o.op=true)(h:POg P ops o K s): ∃u,QY P ops o u s/\K (s.put o.dst u):=by unfold POg at h;unfold QY;split at h;rename_i hg;obtain⟨u,h1,h2⟩:=K2g hq h;exact⟨u,by first | exact h1 | (simp only[hg];exact h1),h2⟩;rename_i j want hg;split at h;rename_i b hb;split at h;rename_i e;obtain⟨u,h1,h2⟩:=K2g hq h;exact⟨u,by simp only[hg,hb,if_pos e];exact h1,h2⟩;rename_i e;exact⟨.tup [],by simp only[hg,hb,if_neg e],h⟩;exact h.elim
theorem K1p (hq:X0o o.op=true){u:PV}(h1:QY P ops o u s)(h2:K (s.put o.dst u)):POg P ops o K s:=by unfold POg;unfold QY at h1;split;rename_i hg;rw[hg] at h1;exact Z2z hq h1 h2;rename_i j want hg;rw[hg] at h1;simp only at h1;split;rename_i b hb;rw[hb] at h1;simp only at h1;split;rename_i e;rw[if_pos e] at h1;exact Z2z hq h1 h2;rename_i e;rw[if_neg e] at h1;subst h1;exact h2;rename_i hb;rw[hb] at h1;exact h1
theorem j0l {s':PFS}{v:PV}(hq:X0o o.op=true)(hpa: ∀d∈o.looksAt ops,s.pa.getD d .junk=s'.pa.getD d .junk)(hs:G0t o.op=false\/(s.L=s'.L/\s.st=s'.st))(h:QY P ops o v s):QY P ops o v s':=by
 have run:(req P o.op o.type s.ev).run s=some (v,s)->(req P o.op o.type s'.ev).run s'=some (v,s'):=fun hr=>by have e:req P o.op o.type s'.ev=req P o.op o.type s.ev:=(K1k (Q1c hpa)).symm;rw[e];exact v2q (Z2q hq).1 (hs.imp (Z2q hq).2 id) hr
 unfold QY at h⊢;split;rename_i hg;rw[hg] at h;exact run h;rename_i j want hg;rw[hg] at h;simp only at h;rw[H0y hg hpa] at h;split;rename_i b hb;rw[hb] at h;simp only at h;split;rename_i e;rw[if_pos e] at h;exact run h;rename_i e;rw[if_neg e] at h;exact h;rename_i hb;rw[hb] at h;exact h
end
def K1o (ops:Array Oper)(i:Nat):Nat->Nat->Bool
 | 0,_=>false
 | f+1,j=>match ops[j]? with
  | some o=>o.after.any fun e=>Region.binds .any e&&(e.on==i||K1o ops i f e.on)
  | none=>false
def x1v (ops:Array Oper)(i j:Nat):Bool:=K1o ops i 3 j
def q3m (P:Program)(ops:Array Oper)(o:Oper)(s:PFS):Prop:= ∀d,o.dst=some d->QY P ops o (s.pa.getD d .junk) s
def K0r (P:Program)(ops:Array Oper)(listed:Array Bool)(j:Nat)(s:PFS):Prop:=
 ∀i o,listed.getD i false=true->ops[i]?=some o->X0o o.op=true->G0t o.op=true->x1v ops i j=false->q3m P ops o s
def Y0t (ops:Array Oper)(j:Nat):Bool:=match ops[j]? with | some o=> !X0o o.op | none=>false
def PAny (P:Program)(ops:Array Oper)(K:PFS->Prop):Nat->Array Bool->PFS->Prop
 | 0,listed,s=>Region.ready .any ops listed= []/\K s
 | fuel+1,listed,s=>
  (Region.ready .any ops listed= []->K s)/\
  ∀i∈Region.ready .any ops listed,POp P ops i (fun s'=>(Y0t ops i=true->K0r P ops listed i s')/\PAny P ops K fuel (listed.setIfInBounds i true) s') s
section
variable {P:Program} {ops:Array Oper} {K:PFS->Prop}
def Y0k (ops:Array Oper)(listed:Array Bool):Prop:= ∀k ok e,ops[k]?=some ok->listed.getD k false=true->e∈ok.after->Region.binds .any e=true->listed.getD e.on false=true
theorem z0f {listed:Array Bool}(hc:Y0k ops listed){i:Nat} : ∀f j oj,ops[j]?=some oj->(∀e∈oj.after,Region.binds .any e=true->listed.getD e.on false=true)->K1o ops i f j=true->listed.getD i false=true
 | 0,j,oj,h,hp,hr=>by cases hr
 | f+1,j,oj,h,hp,hr=>by
  simp only[K1o,h] at hr;obtain⟨e,he,hb⟩:=Array.any_eq_true'.1 hr;simp only[q_i,Bool.or_eq_true,beq_iff_eq] at hb;obtain⟨h1,h2⟩:=hb;have hl:=hp e he h1;rcases h2 with h2 | h2;rw[<-h2];exact hl;cases hoe:ops[e.on]? with
  | none=>cases f with
   | zero=>cases h2
   | succ f=>simp only[K1o,hoe] at h2;cases h2
  | some oe=>exact z0f hc f e.on oe hoe (fun e' he' hb'=>hc e.on oe e' hoe hl he' hb') h2
theorem V1v {listed:Array Bool}{i:Nat}(h:listed.getD i true=false):listed.getD i false=false:=by rcases Nat.lt_or_ge i listed.size with h' | h';simpa[h'] using h;simp[Array.getElem?_eq_none h'] at h
theorem q0u {listed:Array Bool}{j:Nat}(hc:Y0k ops listed)(hj:j∈Region.ready .any ops listed):Y0k ops (listed.setIfInBounds j true):=by intro k ok e hk hl he hb;obtain⟨h0,oj,hoj,hall⟩:=mem_ready.1 hj;by_cases hkj:j=k;subst hkj;rw[hoj] at hk;cases hk;exact getD_set_true (hall e he hb);rw[getD_set_ne false hkj] at hl;exact getD_set_true (hc k ok e hk hl he hb)
theorem x0t {listed:Array Bool}{i j:Nat}(hc:Y0k ops listed)(hj:j∈Region.ready .any ops listed)(hi:listed.getD i true=false):x1v ops i j=false:=by
 obtain⟨h0,oj,hoj,hall⟩:=mem_ready.1 hj;cases hr:x1v ops i j with
 | false=>rfl
 | true=>
  have:=z0f hc 3 j oj hoj hall hr;rw[V1v hi] at this;cases this
theorem V2q {N i:Nat}{oi:Oper}{di:Tmp}{v:PV}(hi:ops[i]?=some oi)(hq:X0o oi.op=true)(hdi:oi.dst=some di)(hown:di∉oi.looksAt ops)(hN:di<N):
 ∀(fuel:Nat) (listed:Array Bool) (s:PFS),N<=s.pa.length->Y0k ops listed->
  (∀j oj,ops[j]?=some oj->j≠i->listed.getD j true=false->x1v ops i j=false->oi.apart ops oj=true)->
  (∀k ok,ops[k]?=some ok->listed.getD k false=true->G0t ok.op=true->di∉ok.looksAt ops/\ok.dst≠some di)->
  i∈Region.ready .any ops listed->QY P ops oi v s->
  PAny P ops K fuel (listed.setIfInBounds i true) (s.put oi.dst v)->PAny P ops K (fuel+1) listed s:=by
 have self: ∀(fuel:Nat) (listed:Array Bool) (s:PFS),QY P ops oi v s->PAny P ops K fuel (listed.setIfInBounds i true) (s.put oi.dst v)->
  POp P ops i (fun s'=>(Y0t ops i=true->K0r P ops listed i s')/\PAny P ops K fuel (listed.setIfInBounds i true) s') s:=by
  intro fuel listed s hy H;unfold POp;rw[hi];exact K1p hq hy ⟨fun he=>by simp[Y0t,hi,hq] at he,H⟩
 intro fuel
 induction fuel with
 | zero=>
  intro listed s hl hc h1 h2 hr hy H;refine⟨fun h=>(by rw[h] at hr;cases hr),fun j hj=> ?_⟩;by_cases hji:j=i;subst hji;exact self 0 listed s hy H;have:=ready_mono hj hji;rw[H.1] at this;cases this
 | succ fuel ih=>
  intro listed s hl hc h1 h2 hr hy H;refine⟨fun h=>(by rw[h] at hr;cases hr),fun j hj=> ?_⟩;by_cases hji:j=i;subst hji;exact self _ listed s hy H;have hp:=H.2 j (ready_mono hj hji);obtain⟨hjun,oj,hoj,hall⟩:=mem_ready.1 hj;have hiun:=(mem_ready.1 hr).1;have hnr:=x0t hc hj hiun;obtain⟨a1,a2,a3⟩:=Oper.apart_spec (h1 j oj hoj hji hjun hnr);unfold POp at hp⊢;rw[hoj] at hp⊢;simp only at hp⊢;have hp':=k2c (k2b a1 a2 hp);have key: ∀s'':PFS,(∃u,s''.pa=(s.put oj.dst u).pa)->(X0o oj.op=true->s''.L=s.L/\s''.st=s.st)->
   ((Y0t ops j=true->K0r P ops (listed.setIfInBounds i true) j (s''.put oi.dst v))/\PAny P ops K fuel ((listed.setIfInBounds i true).setIfInBounds j true) (s''.put oi.dst v))->
   (Y0t ops j=true->K0r P ops listed j s'')/\PAny P ops K (fuel+1) (listed.setIfInBounds j true) s'':=by
   rintro s'' ⟨u,hpa⟩ hqs ⟨hw,hrest⟩;have hlen:s''.pa.length=s.pa.length:=(by rw[hpa];exact(Y0c s oj.dst u).2.2.2);have hsame: ∀d∈oi.looksAt ops,s.pa.getD d .junk=s''.pa.getD d .junk:=fun d hd=>by rw[hpa];exact(J0d fun e=>a3 d e hd).symm
   have hown': ∀d∈oi.looksAt ops,(s''.put oi.dst v).pa.getD d .junk=s''.pa.getD d .junk:=fun d hd=>J0d fun e=>by rw[hdi] at e;cases e;exact hown hd
   have hil:(listed.setIfInBounds i true).getD i false=true:=by
    have hlt:i<listed.size:=by rcases Nat.lt_or_ge i listed.size with h' | h';exact h';simp[Array.getElem?_eq_none h'] at hiun
    simp[hlt]
   have hy':QY P ops oi v s'':=by
    cases hlo:G0t oi.op with
    | false=>exact j0l hq hsame (.inl hlo) hy
    | true=>
     cases hqj:X0o oj.op with
     | true=>obtain⟨e1,e2⟩:=hqs hqj;exact j0l hq hsame (.inr ⟨e1.symm,e2.symm⟩) hy
     | false=>
      have heff:Y0t ops j=true:=(by simp[Y0t,hoj,hqj]);have:=hw heff i oi hil hi hq hlo hnr di hdi;have e:(s''.put oi.dst v).pa.getD di .junk=v:=by rw[hdi];exact K1s (by rw[hlen];exact q_e hN hl)
      rw[e] at this;exact j0l hq hown' (.inr ⟨(Y0c s'' oi.dst v).1,(Y0c s'' oi.dst v).2.2.1⟩) this
   refine⟨fun heff k ok hk hok hkq hkl hkr d hd=> ?_,?_⟩;obtain⟨b1,b2⟩:=h2 k ok hok hk hkl;have:=hw heff k ok (getD_set_true hk) hok hkq hkl hkr d hd;have e:(s''.put oi.dst v).pa.getD d .junk=s''.pa.getD d .junk:=J0d fun e=>by rw[hdi] at e;cases e;exact b2 hd
   rw[e] at this;exact j0l hkq (fun x hx=>J0d fun e=>by rw[hdi] at e;cases e;exact b1 hx) (.inr ⟨(Y0c s'' oi.dst v).1,(Y0c s'' oi.dst v).2.2.1⟩) this;refine ih (listed.setIfInBounds j true) s'' oG (q0u hc hj) (fun k ok hk hki hun hno=> ?_) (fun k ok hk hkl hlo=> ?_) (ready_mono hr (Ne.symm hji)) hy' ?_;refine h1 k ok hk hki ?_ hno;by_cases hjk:j=k;subst hjk;exact hjun;rw[getD_set_ne true hjk] at hun;exact hun;by_cases hjk:j=k;subst hjk;rw[hoj] at hk;cases hk;exact⟨a1 di hdi,fun e=>a2 di hdi e⟩;rw[getD_set_ne false hjk] at hkl;exact h2 k ok hk hkl hlo;rw[Array.setIfInBounds_comm _ _ hji];exact hrest
  cases hqj:X0o oj.op with
  | true=>
   obtain⟨u,q1,q2,q3⟩:=W1z hqj hp';exact K1p hqj q1 (key _ ⟨u,rfl⟩ (fun _=>⟨(Y0c s oj.dst u).1,(Y0c s oj.dst u).2.2.1⟩) q2)
  | false=>exact k0j hp' fun s'' ⟨q2,q3⟩=>key s'' q3 (fun h=>by rw[hqj] at h;cases h) q2
inductive Plan where
 | done
 | step (i:Nat) (ws:List Nat) (rest:Plan)
 | alt (a b:Plan)
def Plan.heads :Plan->List Nat
 | .done=> []
 | .step i _ _=> [i]
 | .alt a b=>a.heads++b.heads
def Z3k (ops:Array Oper)(N:Nat)(listed:Array Bool)(i:Nat):Bool:=
 match ops[i]? with
 | none=>false
 | some oi=>match oi.dst with
  | none=>false
  | some di=>X0o oi.op&& !(oi.looksAt ops).contains di&&decide (di<N)&&
   (List.range ops.size).all fun j=>j==i||match ops[j]? with
    | none=>true
    | some oj=>
     (listed.getD j true||x1v ops i j||oi.apart ops oj)&&
     (!listed.getD j false|| !G0t oj.op||(!(oj.looksAt ops).contains di&&oj.dst !=some di))
def K2u (ops:Array Oper)(listed:Array Bool)(i:Nat)(ws:List Nat):Bool:=
 (Region.ready .any ops listed).contains i&&
  (!Y0t ops i||(List.range ops.size).all fun k=> !listed.getD k false||ws.contains k||x1v ops k i||match ops[k]? with | none=>true | some ok=> !G0t ok.op)
def Z1m (ops:Array Oper)(N:Nat)(listed:Array Bool)(p:Plan):Bool:=
 (match p with | .step i _ _=>Z3k ops N listed i | _=>false)||(Region.ready .any ops listed).all (p.heads.contains ·)
def Y0l (ops:Array Oper)(N:Nat):Plan->Nat->Array Bool->Bool
 | .done,_,_=>true
 | .step _ _ _,0,_=>false
 | .step i ws rest,f+1,listed=>K2u ops listed i ws&&(Y0l ops N rest f (listed.setIfInBounds i true)&&Z1m ops N (listed.setIfInBounds i true) rest)
 | .alt a b,f,listed=>Y0l ops N a f listed&&Y0l ops N b f listed
def k1p (ops:Array Oper)(N:Nat)(p:Plan):Bool:=Y0l ops N p ops.size (Array.replicate ops.size false)&&Z1m ops N (Array.replicate ops.size false) p
def WG (P:Program)(ops:List Oper)(o:Oper)(s:PFS):Prop:=
 match o.dst with
 | none=>True
 | some d=>match o.guard with
  | none=>X1u s (fun p _=>s.pa.getD d .junk=p) (req P o.op o.type s.ev)
  | some (j,want)=>GK0 (X0j ops s j want) want (X1u s (fun p _=>s.pa.getD d .junk=p) (req P o.op o.type s.ev)) (s.pa.getD d .junk= .tup [])
def WL0 (P:Program)(ops:List Oper):List Nat->PFS->Prop
 | [],s=>True
 | i::ws,s=>(match ops[i]? with | some o=>WG P ops o s | none=>False)/\WL0 P ops ws s
def OG (P:Program)(ops:List Oper)(o:Oper)(K:PFS->Prop)(s:PFS):Prop:=
 match o.guard with
 | none=>OC0 P o K s
 | some (j,want)=>GK0 (X0j ops s j want) want (OC0 P o K s) (K (s.put o.dst (.tup [])))
def OS0 (P:Program)(ops:List Oper)(o:Option Oper)(K:PFS->Prop)(s:PFS):Prop:=match o with | some o=>OG P ops o K s | none=>False
def OW0 (P:Program)(ops:List Oper):Plan->(PFS->Prop)->PFS->Prop
 | .done,K,s=>K s
 | .step i ws rest,K,s=>OS0 P ops (ops[i]?) (fun s'=>WL0 P ops ws s'/\OW0 P ops rest K s') s
 | .alt a b,K,s=>OW0 P ops a K s/\OW0 P ops b K s
theorem K2i {o:Oper}{K:PFS->Prop}{s:PFS}(h:OG P ops.toList o K s):POg P ops o K s:=by
 unfold OG at h;unfold POg;split;rename_i hg;rw[hg] at h;exact k0k h;rename_i j want hg;rw[hg] at h;simp only at h;cases hb:X0j ops.toList s j want with
 | none=>rw[hb] at h;exact h.elim
 | some b=>
  rw[hb] at h;simp only;by_cases e:b=want;rw[if_pos e];exact k0k (h.1 e);rw[if_neg e];exact h.2 e
theorem K2h {i:Nat}{K:PFS->Prop}{s:PFS}(h:OS0 P ops.toList (ops.toList[i]?) K s):POp P ops i K s:=by unfold OS0 at h;unfold POp;have e:ops.toList[i]?=ops[i]?:=(by simp);rw[e] at h;split at h;rename_i o ho;rw[ho];exact K2i h;exact h.elim
theorem J3i {o:Oper}{s:PFS}(hq:X0o o.op=true)(h:WG P ops.toList o s):q3m P ops o s:=by
 intro d hd;unfold WG at h;unfold QY;rw[hd] at h;simp only at h;have run:X1u s (fun p _=>s.pa.getD d .junk=p) (req P o.op o.type s.ev)->(req P o.op o.type s.ev).run s=some (s.pa.getD d .junk,s):=fun h=>by obtain⟨p,s',hr,rfl⟩:=Q1w h;have:=K3h (s':=s) (Z2q hq).1 hr;subst this;exact hr
 split;rename_i hg;rw[hg] at h;exact run h;rename_i j want hg;rw[hg] at h;simp only at h;cases hb:X0j ops.toList s j want with
 | none=>rw[hb] at h;exact h.elim
 | some b=>
  rw[hb] at h;simp only;by_cases e:b=want;rw[if_pos e];exact run (h.1 e);rw[if_neg e];exact h.2 e
theorem z1f {s:PFS} : ∀ {ws:List Nat},WL0 P ops.toList ws s-> ∀i∈ws,∀o,ops[i]?=some o->X0o o.op=true->q3m P ops o s
 | [],h,i,hi,o,ho,hq=>by cases hi
 | k::ws,h,i,hi,o,ho,hq=>by obtain⟨h1,h2⟩:=h;rcases List.mem_cons.1 hi with rfl | hi;have e:ops.toList[i]?=some o:=(by simpa using ho);rw[e] at h1;exact J3i hq h1;exact z1f h2 i hi o ho hq
theorem J3l {i:Nat}{K K':PFS->Prop}{s:PFS}(h:POp P ops i K s)(hk: ∀s,K s->K' s):POp P ops i K' s:=by unfold POp at h⊢;split;rename_i ho;rw[ho] at h;exact h;rename_i o ho;rw[ho] at h;exact k0j h hk
theorem k2a {i:Nat}{K:PFS->Prop}{s:PFS}(h:POp P ops i K s):POp P ops i (fun s'=>K s'/\s'.pa.length=s.pa.length) s:=by unfold POp at h⊢;split;rename_i ho;rw[ho] at h;exact h;rename_i o ho;rw[ho] at h;refine k0j (k2c h) fun s' ⟨h1,u,h2⟩=>⟨h1,by rw[h2];exact(Y0c s o.dst u).2.2.2⟩
theorem W2g {p:Plan}{s:PFS}(h:p.heads= []):OW0 P ops.toList p K s->K s:=by
 induction p with
 | done=>exact id
 | step i ws rest=>cases h
 | alt a b iha ihb=>exact fun hw=>iha (by simp only[Plan.heads,List.append_eq_nil_iff] at h;exact h.1) hw.1
theorem V0q {N:Nat}{p:Plan} : ∀ {f:Nat} {listed:Array Bool},Y0l ops N p f listed=true-> ∀i∈p.heads,i∈Region.ready .any ops listed/\f≠0:=by
 induction p with
 | done=>intro f listed h i hi;cases hi
 | step k ws rest ih=>
  intro f listed h i hi;cases f with
  | zero=>cases h
  | succ f=>
   simp only[Plan.heads,List.mem_singleton] at hi;subst hi;simp only[Y0l,K2u,q_i] at h;exact⟨by simpa using h.1.1,by simp⟩
 | alt a b iha ihb=>
  intro f listed h i hi;have hab:Y0l ops N a f listed=true/\Y0l ops N b f listed=true:=(by cases f<;>simpa[Y0l] using h);simp only[Plan.heads,List.mem_append] at hi;exact hi.elim (iha hab.1 i) (ihb hab.2 i)
theorem Q1y {N:Nat} : ∀(p:Plan) (f:Nat) (listed:Array Bool),Y0l ops N p f listed=true->Y0k ops listed->
 (∀s,N<=s.pa.length->OW0 P ops.toList p K s-> ∀i∈p.heads,POp P ops i (fun s'=>(Y0t ops i=true->K0r P ops listed i s')/\PAny P ops K (f-1) (listed.setIfInBounds i true) s') s)/\
 (Z1m ops N listed p=true-> ∀s,N<=s.pa.length->OW0 P ops.toList p K s->PAny P ops K f listed s):=by
 have full: ∀(p:Plan) (f:Nat) (listed:Array Bool),Y0l ops N p f listed=true->Y0k ops listed->
  (∀s,N<=s.pa.length->OW0 P ops.toList p K s-> ∀i∈p.heads,POp P ops i (fun s'=>(Y0t ops i=true->K0r P ops listed i s')/\PAny P ops K (f-1) (listed.setIfInBounds i true) s') s)->
  Z1m ops N listed p=true-> ∀s,N<=s.pa.length->OW0 P ops.toList p K s->PAny P ops K f listed s:=by
  intro p f listed hB hcl hh hf s hl hw;simp only[Z1m,Bool.or_eq_true] at hf;rcases hf with hf | hf;cases p with
  | step i ws rest=>
   simp only[Z3k] at hf;cases hoi:ops[i]? with
   | none=>rw[hoi] at hf;cases hf
   | some oi=>
    rw[hoi] at hf;simp only at hf;cases hdi:oi.dst with
    | none=>rw[hdi] at hf;cases hf
    | some di=>
     rw[hdi] at hf;simp only[q_i,Bool.not_eq_true',decide_eq_true_eq,q_d,List.mem_range] at hf;obtain⟨⟨⟨hq,hown⟩,hN⟩,hall⟩:=hf;have hready:=V0q hB i (by simp[Plan.heads]);have hp:=hh s hl hw i (by simp[Plan.heads]);cases f with
     | zero=>exact absurd rfl hready.2
     | succ f=>
      unfold POp at hp;rw[hoi] at hp;obtain⟨u,hy,_,hrest⟩:=W1z hq hp;refine V2q (di:=di) hoi hq hdi (by simpa using hown) hN f listed s hl hcl (fun j oj hj hji hun hnr=> ?_) (fun k ok hk hkl hlo=> ?_) hready.1 hy (by simpa using hrest);have hlt:=(Array.getElem?_eq_some_iff.1 hj).1;have:=hall j hlt;simp only[hj,beq_iff_eq,hji,Bool.or_eq_true,q_i,hun,hnr,Bool.false_eq_true,false_or] at this;exact this.1;by_cases hki:k=i;subst hki;have:=(mem_ready.1 hready.1).1;rw[V1v this] at hkl;cases hkl;have hlt:=(Array.getElem?_eq_some_iff.1 hk).1;have:=hall k hlt;simp only[hk,beq_iff_eq,hki,Bool.or_eq_true,q_i,hkl,hlo,Bool.not_true,Bool.false_eq_true,false_or] at this;have h2:=this.2;simp only[Bool.not_eq_true',bne_iff_ne,ne_eq] at h2;exact⟨by simpa using h2.1,h2.2⟩
  | done=>cases hf
  | alt a b=>cases hf
  have hcov: ∀i∈Region.ready .any ops listed,i∈p.heads:=fun i hi=>by have:=List.all_eq_true.1 hf i hi;simpa using this
  have hnil:Region.ready .any ops listed= []->K s:=fun h0=>W2g (by
   cases hp:p.heads with
   | nil=>rfl
   | cons i l=>
    have:=(V0q hB i (by rw[hp];simp)).1;rw[h0] at this;cases this) hw
  cases f with
  | zero=>
   have h0:Region.ready .any ops listed= []:=by
    cases hr:Region.ready .any ops listed with
    | nil=>rfl
    | cons i l=>exact absurd rfl (V0q hB i (hcov i (by rw[hr];simp))).2
   exact⟨h0,hnil h0⟩
  | succ f=>exact⟨hnil,fun i hi=>hh s hl hw i (hcov i hi)⟩
 intro p
 induction p with
 | done=>
  intro f listed hB hcl;have h1: ∀s,N<=s.pa.length->OW0 P ops.toList .done K s-> ∀i∈Plan.done.heads,POp P ops i (fun s'=>(Y0t ops i=true->K0r P ops listed i s')/\PAny P ops K (f-1) (listed.setIfInBounds i true) s') s:=fun s hl hw i hi=>(by cases hi);exact⟨h1,full .done f listed hB hcl h1⟩
 | step k ws rest ih=>
  intro f listed hB hcl;have h1: ∀s,N<=s.pa.length->OW0 P ops.toList (.step k ws rest) K s-> ∀i∈(Plan.step k ws rest).heads,POp P ops i (fun s'=>(Y0t ops i=true->K0r P ops listed i s')/\PAny P ops K (f-1) (listed.setIfInBounds i true) s') s:=by
   intro s hl hw i hi;have hready:=V0q hB i hi;simp only[Plan.heads,List.mem_singleton] at hi;subst hi;cases f with
   | zero=>exact absurd rfl hready.2
   | succ f=>
    simp only[Y0l,K2u,q_i,Bool.or_eq_true,q_d,List.mem_range] at hB;obtain⟨⟨_,hws⟩,hrB,hrF⟩:=hB;obtain⟨_,ih2⟩:=ih f (listed.setIfInBounds i true) hrB (q0u hcl hready.1);refine J3l (k2a (K2h hw)) ?_;rintro s' ⟨⟨hW,hO⟩,hlen⟩;refine⟨fun heff k ok hkl hok hkq hkl' hkr=> ?_,ih2 hrF s' oG hO⟩;rcases hws with hws | hws;rw[heff] at hws;cases hws;have:=hws k (Array.getElem?_eq_some_iff.1 hok).1;simp only[hkl,hkr,hok,hkl',Bool.not_true,Bool.false_eq_true,false_or,or_false] at this;exact z1f hW k (by simpa using this) ok hok hkq
  exact⟨h1,full _ f listed hB hcl h1⟩
 | alt a b iha ihb=>
  intro f listed hB hcl;have hab:Y0l ops N a f listed=true/\Y0l ops N b f listed=true:=(by cases f<;>simpa[Y0l] using hB);have h1: ∀s,N<=s.pa.length->OW0 P ops.toList (.alt a b) K s-> ∀i∈(Plan.alt a b).heads,POp P ops i (fun s'=>(Y0t ops i=true->K0r P ops listed i s')/\PAny P ops K (f-1) (listed.setIfInBounds i true) s') s:=by intro s hl hw i hi;simp only[Plan.heads,List.mem_append] at hi;exact hi.elim ((iha f listed hab.1 hcl).1 s hl hw.1 i) ((ihb f listed hab.2 hcl).1 s hl hw.2 i)
  exact⟨h1,full _ f listed hB hcl h1⟩
theorem w0a {E:Ent}{Q:Exit->Act->World->Prop}(hK: ∀a' w' g' F' s',FSRep E a' w' g' F' s'->K s'->Q .normal a' w'): ∀(f:Nat) (listed:Array Bool) (a:Act) (w:World) (g:Gh) (F:Fr) (s:PFS),
 FSRep E a w g F s->PAny P ops K f listed s->wpAnyIn (fen E.rd) 0 P .any ops Q f listed a w:=by
 intro f
 induction f with
 | zero=>exact fun listed a w g F s hr h=>⟨h.1,hK a w g F s hr h.2⟩
 | succ f ih=>
  intro listed a w g F s hr h;refine⟨fun h0=>hK a w g F s hr (h.1 h0),fun i hi=> ?_⟩;have hp:=h.2 i hi;unfold POp at hp;unfold wpOpIn;cases hoi:ops[i]? with
  | none=>rw[hoi] at hp;exact hp.elim
  | some o=>
   rw[hoi] at hp;simp only at hp⊢;unfold POg at hp;split at hp;rename_i hg;rw[if_pos (by simp[Region.wanted,hg])];exact Y0j hr hp fun a' w' g' F' s' hr' hk=>ih _ a' w' g' F' s' hr' hk.2;rename_i j want hg;split at hp;rename_i b hb;have hy:=G0w hr hb;split at hp;rename_i he;subst he;rw[if_pos (by unfold Region.wanted;rw[hg];simp only;rw[hy];simp)];exact Y0j hr hp fun a' w' g' F' s' hr' hk=>ih _ a' w' g' F' s' hr' hk.2;rename_i he;rw[if_neg (by unfold Region.wanted;rw[hg];simp only;rw[hy];simp[he])];exact⟨q0r,ih _ _ w g F _ (hr.put o.dst (.base _ _ (x0n _ _))) hp.2⟩;exact hp.elim
end
theorem G2n {P:Program}{E:Ent}{id:Nat}{l:List Oper}{Q:Exit->PFS->Prop}{s:PFS}(hm:P.follows .mixedOrders=true)(N:Nat)(p:Plan)(hB:k1p l.toArray N p=true)(hl:N<=s.pa.length)
 (h:OW0 P l p (Q .normal) s):PWP P E (.region id l.toArray true) Q s:=by
 intro a w g F hr;simp only[k1p,q_i] at hB;have hcl:Y0k l.toArray (Array.replicate l.toArray.size false):=fun k ok e hk hkl he hb=>by by_cases hkk:k<l.length<;>simp[hkk,q_f,Array.getElem?_replicate] at hkl
 have:=(Q1y (P:=P) (K:=Q .normal) p _ _ hB.1 hcl).2 hB.2 s hl (by simpa using h);exact wpIn_region_any hm (w0a (fun a' w' g' F' s' hr' hk=>⟨g',F',s',hr',hk⟩) _ _ _ _ g F s hr.drew.1 this)
section
variable {P:Program} {s:PFS} {K:PFS->Prop} {d:Option Tmp} {ty:TypeId} {pos:String} {af:Array Edge}
def OW (P:Program)(ops:List Oper)(p:Plan)(K:PFS->Prop)[Stop ops][Stop p][Stop K](s:PFS):Prop:=OW0 P ops p K s
def OS (P:Program)(ops:List Oper)(o:Option Oper)(K:PFS->Prop)[Stop ops][Stop K](s:PFS):Prop:=OS0 P ops o K s
def WL (P:Program)(ops:List Oper)(ws:List Nat)[Stop ops](s:PFS):Prop:=WL0 P ops ws s
def WO (P:Program)(ops:List Oper)(o:Option Oper)[Stop ops](s:PFS):Prop:=match o with | some o=>WG P ops o s | none=>False
@[go_sem] theorem J4j {ops:List Oper} :OW P ops .done K s=K s:=(rfl)
@[go_sem] theorem q3h {ops:List Oper}{i:Nat}{rest:Plan} :OW P ops (.step i [] rest) K s=OS P ops (ops[i]?) (OW P ops rest K) s:=by simp only[OW,OW0,OS,WL0,true_and];rfl
@[go_sem] theorem y3t {ops:List Oper}{i k:Nat}{ws:List Nat}{rest:Plan} :OW P ops (.step i (k::ws) rest) K s=OS P ops (ops[i]?) (fun s'=>WL P ops (k::ws) s'/\OW P ops rest K s') s:=(rfl)
@[go_sem] theorem K4n {ops:List Oper}{a b:Plan} :OW P ops (.alt a b) K s=(OW P ops a K s/\OW P ops b K s):=(rfl)
@[go_sem] theorem J4l {ops:List Oper}{op:Op} :OS P ops (some ⟨d,op,ty,pos,af,none⟩) K s=OC P ⟨d,op,ty,pos,af,none⟩ K s:=(rfl)
@[go_sem] theorem J4k {ops:List Oper}{op:Op}{j:Nat}{want:Bool} :OS P ops (some ⟨d,op,ty,pos,af,some (j,want)⟩) K s=GK (X0j ops s j want) want (OC P ⟨d,op,ty,pos,af,some (j,want)⟩ K s) (K (s.put d (.tup []))):=(rfl)
@[go_sem] theorem K4j {ops:List Oper} :WL P ops [] s=True:=(rfl)
@[go_sem] theorem J4a {ops:List Oper}{i:Nat}{ws:List Nat} :WL P ops (i::ws) s=(WO P ops (ops[i]?) s/\WL P ops ws s):=(rfl)
@[go_sem] theorem X4z {ops:List Oper}{d:Tmp}{t:TypeId}{x:Operand} :WO P ops (some ⟨some d,.load t x,ty,pos,af,none⟩) s=ReqK s (fun p _=>s.pa.getD d .junk=p) (x0x (ti P t) (s.ev x)):=(rfl)
@[go_sem] theorem X4y {ops:List Oper}{d:Tmp}{t:TypeId}{x:Operand}{j:Nat}{want:Bool} :WO P ops (some ⟨some d,.load t x,ty,pos,af,some (j,want)⟩) s=GK (X0j ops s j want) want (ReqK s (fun p _=>s.pa.getD d .junk=p) (x0x (ti P t) (s.ev x))) (s.pa.getD d .junk= .tup []):=(rfl)
end
theorem Q0k {P:Program}{E:Ent}{id:Nat}{l:List Oper}{Q:Exit->PFS->Prop}{s:PFS}(hm:P.follows .mixedOrders=true)(N:Nat)(p:Plan)(hB:k1p l.toArray N p=true)(hl:N<=s.pa.length)
 (h:OW P l p (Q .normal) s):PWP P E (.region id l.toArray true) Q s:=G2n hm N p hB hl h
def Z2k :List Nat->Plan->Plan
 | [],p=>p
 | i::l,p=> .step i [] (Z2k l p)
@[go_sem] theorem K4u {P:Program}{ops:List Oper}{K:PFS->Prop}{s:PFS}{p:Plan} :OW P ops (Z2k [] p) K s=OW P ops p K s:=rfl
@[go_sem] theorem K4x {P:Program}{ops:List Oper}{K:PFS->Prop}{s:PFS}{i:Nat}{l:List Nat}{p:Plan} :OW P ops (Z2k (i::l) p) K s=OS P ops (ops[i]?) (OW P ops (Z2k l p) K) s:=q3h
attribute [go_sem] Nat.reduceAdd Nat.reduceSub Nat.reduceMul Nat.reduceLeDiff Nat.reduceLT Nat.reduceEqDiff Nat.reduceBEq Nat.reduceBNe reduceIte Int.reduceToNat Int.reduceLT Int.reduceLE Int.reduceAdd Int.reduceSub
attribute [go_sem] Nat.mul_one Nat.one_mul Nat.lt_add_one Nat.zero_lt_succ
@[go_sem] theorem K4f :(true !=false)=true:=(rfl)
@[go_sem] theorem K4h :(false !=false)=false:=(rfl)
@[go_sem] theorem K4e :(true !=true)=false:=(rfl)
@[go_sem] theorem K4g :(false !=true)=true:=(rfl)
theorem V3y (n:Nat):IntKind.u8.wrap (n:Int)=((n % 256:Nat):Int):=by simp[IntKind.wrap,IntKind.bits,IntKind.signed]
theorem K0p (n:Nat)(h:n<18446744073709551616):IntKind.u64.wrap (n:Int)=(n:Int):=by simp[IntKind.wrap,IntKind.bits,IntKind.signed];omega
theorem Q0s (n:Int)(h: -9223372036854775808<=n)(h2:n<9223372036854775808):IntKind.i64.wrap n=n:=by have e:IntKind.i64.wrap n=if n % 2^64>=2^(64-1) then n % 2^64-2^64 else n % 2^64:=(by simp[IntKind.wrap,IntKind.bits,IntKind.signed]);rw[e];split<;>omega
theorem Q1g (k:IntKind)(v c:Nat)(h:c<=k.bits):bShr k (v:Int) (c:Int)=((v/2^c:Nat):Int):=by unfold bShr;rw[Int.toNat_natCast,Nat.min_eq_left h];rw[show((2:Int)^c)=((2^c:Nat):Int) from by simp];exact(Int.ofNat_fdiv v (2^c)).symm
def encB (l:List UInt8):List PV:=l.map fun c=> .sc (.int .u8 c.toNat)
@[go_sem] theorem H3c (l:List UInt8):(encB l).length=l.length:=by simp[encB]
@[go_sem] theorem w3q :encB []= []:=(rfl)
@[go_sem] theorem X4g (l:List UInt8):(encB l).all (fun x=>x.cells.length==1)=true:=by simp[encB,PV.cells]
@[go_sem] theorem X4h (l:List UInt8):(encB l).all (fun x=>(x.cells.length==1)&&x.cells.all PV.cellOK)=true:=by simp[encB,PV.cells,PV.cellOK,Value.oneCell']
theorem X3c (l m:List UInt8):encB l++encB m=encB (l++m):=by simp[encB]
theorem z2y (l:List UInt8)(c:UInt8):encB l++ [.sc (.int .u8 c.toNat)]=encB (l++ [c]):=by simp[encB]
end Go.Pv
end
