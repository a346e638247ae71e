/- Parts of the walk: PvQ, PvR, PvS, PvT, PvU, PvV, PvW. -/
import Derived.Test.YthlnpmkcmbohaaaGreatDoorZB
import Derived.Scope
import Derived.Orders
set_option linter.unusedVariables false
set_option linter.unusedSimpArgs false
section
namespace Go.Pv
def HP (s:PFS)(K:PV->PFS->Prop):Req->Prop
 | .val v=>K v s
 | .need c v=>c=true/\K v s
 | .load gl i off n agg=>
  off+n<=((if gl then s.st else s.L).getD i []).length/\K (if agg then .agg ((((if gl then s.st else s.L).getD i []).drop off).take n) else((if gl then s.st else s.L).getD i []).getD off .junk) s
 | .store gl i off cs=>
  (off+cs.length<=((if gl then s.st else s.L).getD i []).length/\0<((if gl then s.st else s.L).getD i []).length)/\
   K .junk (if gl then { s with st:=s.st.set i (Zx ((if gl then s.st else s.L).getD i []) off cs) } else { s with L:=s.L.set i (Zx ((if gl then s.st else s.L).getD i []) off cs) })
 | .box cs=>K (.lp s.L.length 0) { s with L:=s.L++ [cs] }
 | .mks cs len=>K (.ms false s.L.length 0 len) { s with L:=s.L++ [cs] }
 | .newsl es=>K (.sl .full es) s
 | .app t es ys e=>
  (e.zok=true/\es.length+ys.length<=1152921504606846976/\(es.length+ys.length)*e.by_<=140737488355328/\
   es.all (fun x=>x.cells.length==e.sz)=true/\ys.all (fun x=>(x.cells.length==e.sz)&&x.cells.all PV.cellOK)=true)/\
   match t with
   | .own k=>s.T.getD k (0,0)=(es.length,e.sz)/\K (.sl (.own k) (es++ys)) { s with T:=s.T.set k (es.length+ys.length,e.sz) }
   | .full=>(es.length=0\/0<ys.length)/\K (.sl (.own s.T.length) (es++ys)) { s with T:=s.T++ [(es.length+ys.length,e.sz)] }
   | _=>False
 | .fail=>False
theorem GQ {s:PFS}{K:PV->PFS->Prop}{r:Req}(h:HP s K r): ∃p s',r.run s=some (p,s')/\K p s':=by
 cases r with
 | val v=>exact⟨_,_,rfl,h⟩
 | need c v=>exact⟨_,_,by simp[Req.run,h.1],h.2⟩
 | load gl i off n agg=>exact⟨_,_,BC h.1,h.2⟩
 | store gl i off cs=>exact⟨_,_,BC h.1,h.2⟩
 | box cs=>exact⟨_,_,rfl,h⟩
 | mks cs len=>exact⟨_,_,rfl,h⟩
 | newsl es=>exact⟨_,_,rfl,h⟩
 | app t es ys e=>
  obtain⟨h1,h2⟩:=h;cases t with
  | own k=>exact⟨_,_,by simp only[Req.run];rw[BC h1,BC h2.1],h2.2⟩
  | full=>exact⟨_,_,by simp only[Req.run];rw[BC h1,BC h2.1],h2.2⟩
  | _=>exact h2.elim
 | fail=>exact h.elim
def IL :Op->Bool
 | .binOp .eql _ _ _ _ | .binOp .neq _ _ _ _=>false
 | .call { callee:= .builtin _,.. } =>true
 | .call _=>false
 | _=>true
theorem Q1y {P:Program}{o:Oper}{K:PFS->Prop}{s:PFS}(hp:IL o.op=true)(h:HP s (fun p s'=>K (s'.put o.dst p)) (req P o.op o.type s.ev)):PO P o K s:=by
 obtain⟨p,s',hr,hk⟩:=GQ h;have e1:Kh P o.op s.ev=none:=by unfold Kh;split;rename_i heq;rw[heq] at hp;cases hp;rename_i heq;rw[heq] at hp;cases hp;rfl
 have e2:ZU o.op s.ev=none:=by unfold ZU;split;rename_i heq;rw[heq] at hp;cases hp;rfl
 unfold PO;rw[e1,e2];simp only[HF,hr];exact hk
def OC0 (P:Program)(o:Oper)(K:PFS->Prop)(s:PFS):Prop:=
 match IL o.op with
 | true=>HP s (fun p s'=>K (s'.put o.dst p)) (req P o.op o.type s.ev)
 | false=>PO P o K s
theorem KS {P:Program}{o:Oper}{K:PFS->Prop}{s:PFS}(h:OC0 P o K s):PO P o K s:=by unfold OC0 at h;split at h;rename_i hp;exact Q1y hp h;exact h
def GK0 (b:Option Bool)(want:Bool)(x y:Prop):Prop:=match b with | some b=>(b=want->x)/\(b≠want->y) | none=>False
def CK0 (p:PV)(x y:Prop):Prop:=match p with | .sc (.bool b)=>(b=true->x)/\(b=false->y) | _=>False
def OL0 (P:Program)(ops:List Oper):List Oper->(PFS->Prop)->PFS->Prop
 | [],K,s=>K s
 | o::rest,K,s=>
  match o.guard with
  | none=>OC0 P o (OL0 P ops rest K) s
  | some (j,want)=>GK0 (Zn ops s j want) want (OC0 P o (OL0 P ops rest K) s) (OL0 P ops rest K (s.put o.dst (.tup [])))
theorem w0m {P:Program}{o:Oper}{K K':PFS->Prop}{s:PFS}(h:OC0 P o K s)(hk: ∀s,K s->K' s):OC0 P o K' s:=by
 have mono: ∀r,HP s (fun p s'=>K (s'.put o.dst p)) r->HP s (fun p s'=>K' (s'.put o.dst p)) r:=by
  intro r hr;cases r with
  | app t es ys e=>
   refine⟨hr.1,?_⟩;have h2:=hr.2;cases t with
   | own k=>exact⟨h2.1,hk _ h2.2⟩
   | full=>exact⟨h2.1,hk _ h2.2⟩
   | _=>exact h2
  | val v=>exact hk _ hr
  | need c v=>exact⟨hr.1,hk _ hr.2⟩
  | load gl i off n agg=>exact⟨hr.1,hk _ hr.2⟩
  | store gl i off cs=>exact⟨hr.1,hk _ hr.2⟩
  | box cs=>exact hk _ hr
  | mks cs len=>exact hk _ hr
  | newsl es=>exact hk _ hr
  | fail=>exact hr
 unfold OC0 at h⊢;cases hp:IL o.op with
 | true=>rw[hp] at h;exact mono _ h
 | false=>
  rw[hp] at h;simp only at h⊢;unfold PO at h⊢;split;rename_i hn;rw[hn] at h;exact fun b hb=>hk _ (h b hb);rename_i hn;rw[hn] at h;simp only at h;split;rename_i hc;rw[hc] at h;exact⟨h.1,h.2.mono fun r st q=>hk _ q⟩;rename_i hc;rw[hc] at h;simp only at h;split;rename_i hs;rw[hs] at h;exact hk _ h;rename_i hs;rw[hs] at h;exact h
theorem Iq {P:Program}{ops:List Oper}{K:PFS->Prop} : ∀ {rest:List Oper} {s:PFS},OL0 P ops rest K s->PLc P ops rest K s
 | [],s,h=>h
 | o::rest,s,h=>by
  have ih:=fun s=> @Iq P ops K rest s;unfold OL0 at h;unfold PLc;split;rename_i hg;rw[hg] at h;exact KS (w0m h ih);rename_i j want hg;rw[hg] at h;simp only at h;cases hb:Zn ops s j want with
  | none=>rw[hb] at h;exact h.elim
  | some b=>
   rw[hb] at h;simp only;obtain⟨h1,h2⟩:=h;split;rename_i e;exact KS (w0m (h1 e) ih);rename_i e;exact ih _ (h2 e)
def K0d (Q:Exit->PFS->Prop):Exit->PFS->Prop:=fun e s=>match e with | .goto _=>False | e=>Q e s
def QP :Code->Bool
 | .seq x y=>QP x||QP y
 | .cond _ x y=>QP x||QP y
 | .block _ x=>QP x
 | .scope x=>QP x
 | .loop _=>true
 | _=>false
def x0l (c:Code):Bool:=QP c
def VC0 (P:Program)(E:Ent):Code->(Exit->PFS->Prop)->PFS->Prop
 | .skip,Q,s=>Q .normal s
 | .label _,Q,s=>Q .normal s
 | .seq x y,Q,s=>VC0 P E x (We (if x0l x then PWP P E y Q else VC0 P E y Q) Q) s
 | .region id ops false,Q,s=>OL0 P ops.toList ops.toList (Q .normal) s
 | .region id ops true,Q,s=>PWP P E (.region id ops true) Q s
 | .cond c x y,Q,s=>CK0 (s.ev c) (VC0 P E x Q s) (VC0 P E y Q s)
 | .block id c,Q,s=>VC0 P E c (U0n id Q) s
 | .exit id,Q,s=>Q (.exit id) s
 | .ret,Q,s=>Q .ret s
 | .scope c,Q,s=>VC0 P E c (K0d Q) s
 | .loop c,Q,s=>PWP P E (.loop c) Q s
 | c,Q,s=>PWP P E c Q s
theorem JC {P:Program}{b:Frame}{a:Act}{k:List Item}{cs:List Frame}{w:World}{c:Code} :step P (lone (b.atR a (.code (.scope c)::k)) cs w)= .next (lone (b.atR a (.code c:: .inScope c::k)) cs w):=
 step_lone_go (by simp[stepG,stepG.exec,Frame.atR])
theorem xU {P:Program}{b:Frame}{a:Act}{k:List Item}{cs:List Frame}{w:World}{c:Code} :step P (lone (b.atR a (.inScope c::k)) cs w)= .next (lone (b.atR a k) cs w):=
 step_lone_go (by simp[stepG,stepG.exec,Frame.atR])
theorem IG {P:Program}{E:Ent}{c:Code}{Q:Exit->PFS->Prop}{s:PFS}(h:PWP P E c (K0d Q) s):PWP P E (.scope c) Q s:=by
 intro a w g F hr b k cs hro hbf hrm;obtain⟨e,a₁,w₁,⟨g1,F1,s1,hr1,hq⟩,harr⟩:=h a w g F hr b (.inScope c::k) cs hro hbf hrm;have h0:(lone (b.atR a (.code (.scope c)::k)) cs w).fenced P (fen E.rd):=fenced_calm hbf hrm rfl;cases e with
 | normal=>exact⟨.normal,a₁,w₁,⟨g1,F1,s1,hr1,hq⟩,.head h0 JC (StepsIn.trans harr (.one (fenced_calm hbf hrm rfl) xU))⟩
 | exit id=>exact⟨.exit id,a₁,w₁,⟨g1,F1,s1,hr1,hq⟩,fun k' hk=> .head h0 JC (harr.1 k' (by simp[exitTo,hk])),
  fun hr' hk=>let ⟨k₁,h1,h2⟩:=harr.2 hr' (by simp[exitTo,hk]);⟨k₁,h1,.head h0 JC h2⟩⟩
 | goto l=>exact hq.elim
 | ret=>exact⟨_,a₁,w₁,⟨g1,F1,s1,hr1,hq⟩,.of_steps (.one h0 JC) harr⟩
 | panic ch=>exact⟨_,a₁,w₁,⟨g1,F1,s1,hr1,hq⟩,.of_steps (.one h0 JC) harr⟩
 | outgrown=>exact⟨_,a₁,w₁,⟨g1,F1,s1,hr1,hq⟩,.of_steps (.one h0 JC) harr⟩
theorem W0l {P:Program}{E:Ent}{c:Code} : ∀ {Q:Exit->PFS->Prop} {s:PFS},VC0 P E c Q s->PWP P E c Q s:=by
 induction c with
 | skip=>exact fun h=>Q1q h
 | label l=>exact fun h=>q0c h
 | region id ops d=>
  cases d with
  | false=>exact fun h=>W0k (Iq h)
  | true=>exact fun h=>h
 | seq x y ihx ihy=>
  intro Q s h;refine Qe (HX (ihx h) ?_);intro e s hq;cases e with
  | normal=>
   simp only[We] at hq;cases hb:x0l x with
   | true=>rw[hb] at hq;exact hq
   | false=>rw[hb] at hq;exact ihy hq
  | _=>exact hq
 | cond c x y ihx ihy=>
  intro Q s h;simp only[VC0,CK0] at h;split at h;rename_i b hb;exact Q1u hb (fun e=>ihx (h.1 e)) (fun e=>ihy (h.2 e));exact h.elim
 | block id c ih=>exact fun h=>Zp (ih h)
 | exit id=>exact fun h=>Q1t h
 | ret=>exact fun h=>H1e h
 | scope c ih=>exact fun h=>IG (ih h)
 | _=>exact fun h=>h
def Y2 (P:Program)(E:Ent)(b:Bool)(y:Code)(Q:Exit->PFS->Prop)(s:PFS):Prop:=if b then PWP P E y Q s else VC0 P E y Q s
class Stop.{u} {α:Sort u} (a:α):Type where
instance instStop.{u} {α:Sort u} (a:α):Stop a:=⟨⟩
def Wf (s:PFS)(K:PV->PFS->Prop)[Stop K](r:Req):Prop:=HP s K r
def GK (b:Option Bool)(want:Bool)(x y:Prop)[Stop x][Stop y]:Prop:=GK0 b want x y
def CK (p:PV)(x y:Prop)[Stop x][Stop y]:Prop:=CK0 p x y
def OC (P:Program)(o:Oper)(K:PFS->Prop)[Stop o][Stop K](s:PFS):Prop:=OC0 P o K s
def OL (P:Program)(ops rest:List Oper)(K:PFS->Prop)[Stop ops][Stop rest][Stop K](s:PFS):Prop:=OL0 P ops rest K s
def VC (P:Program)(E:Ent)(c:Code)(Q:Exit->PFS->Prop)[Stop c][Stop Q](s:PFS):Prop:=VC0 P E c Q s
def PW (P:Program)(E:Ent)(c:Code)(Q:Exit->PFS->Prop)[Stop c][Stop Q](s:PFS):Prop:=PWP P E c Q s
def G1t (P:Program)(E:Ent)(b:Bool)(y:Code)(Q:Exit->PFS->Prop)[Stop y][Stop Q](s:PFS):Prop:=Y2 P E b y Q s
def eth (K:PFS->Prop)(Q:Exit->PFS->Prop)[Stop K][Stop Q](e:Exit)(s:PFS):Prop:=We K Q e s
def ebl (id:Nat)(Q:Exit->PFS->Prop)[Stop Q](e:Exit)(s:PFS):Prop:=U0n id Q e s
def esc (Q:Exit->PFS->Prop)[Stop Q](e:Exit)(s:PFS):Prop:=K0d Q e s
def bQ (P:Program)(fz:Option Nat)(fn:Func)(Q:PV->Qf->Prop)[Stop Q](e:Exit)(s:PFS):Prop:=v0p P fz fn Q e s
def EC (P:Program)(f:FuncId)(as:List PV)(st:Qf)(Q:PV->Qf->Prop)[Stop Q]:Prop:=ExtCalls P f as st Q
def PC (P:Program)(f:FuncId)(as:List PV)(st:Qf)(Q:PV->Qf->Prop)[Stop Q]:Prop:=PCalls P f as st Q
theorem Qa {P:Program}{E:Ent}{c:Code}{Q:Exit->PFS->Prop}{s:PFS}(h:VC P E c Q s):PWP P E c Q s:=W0l h
theorem ck {b:Bool}{x y:Prop}(h1:b=true->x)(h2:b=false->y):CK (.sc (.bool b)) x y:=⟨h1,h2⟩
theorem U2i {P:Program}{E:Ent}{c:Code}{Q:Exit->PFS->Prop}{s:PFS}{B:Prop}(k:B)(e:VC P E c Q s=B:=by simp-dsimp only[go_sem];exact rfl):PWP P E c Q s:=Qa (e.mpr k)
theorem U2h {P:Program}{E:Ent}{x y:Code}{Q:Exit->PFS->Prop}{s:PFS}{B:Prop}(k:B)(e:VC P E x (We (PWP P E y Q) Q) s=B:=by simp-dsimp only[go_sem];exact rfl):PWP P E (.seq x y) Q s:=Qe (Qa (e.mpr k))
theorem U2m {P:Program}{f:FuncId}{fn:Func}{c:Code}{args:List PV}{st:Qf}{Q:PV->Qf->Prop}{B:Ent->Prop}(hf:P.funcs[f]?=some fn)(h: ∀E,B E)(hb:fn.body=some c:=by exact rfl)
 (e: ∀E,VC P E c (v0p P none fn Q) (GL fn args st)=B E:=by intro E;simp-dsimp only[go_sem];exact rfl):PCalls P f args st Q:=Qb none hf hb fun E=>Qa ((e E).mpr (h E))
theorem U2n {A:Prop}{b:Bool}{x y:Prop}(h1:b=true->x)(h2:b=false->y)(e:A=CK (.sc (.bool b)) x y:=by simp-dsimp only[go_sem];exact rfl):A:=e.mpr ⟨h1,h2⟩
theorem G2s {A B:Prop}(k:B)(e:A=B:=by simp-dsimp only[go_sem];exact rfl):A:=e.mpr k
theorem G2r {A:Prop}(k:A:=by simp-dsimp only[go_sem]):A:=k
theorem U2l {A B p:Prop}(x:p)(k:B)(e:p->A=B:=by intro h;simp-dsimp only[go_sem,h];exact rfl):A:=(e x).mpr k
theorem U2k {A B p q:Prop}(x:p)(y:q)(k:B)(e:p->q->A=B:=by intro h i;simp-dsimp only[go_sem,h,i];exact rfl):A:=(e x y).mpr k
theorem U2j {A B p q r:Prop}(x:p)(y:q)(z:r)(k:B)(e:p->q->r->A=B:=by intro h i j;simp-dsimp only[go_sem,h,i,j];exact rfl):A:=(e x y z).mpr k
theorem gkT {b:Bool}{x y:Prop}(h1:b=true->x)(h2:b=false->y):GK (some b) true x y:=by cases b<;>simp_all [GK,GK0]
theorem gkF {b:Bool}{x y:Prop}(h1:b=false->x)(h2:b=true->y):GK (some b) false x y:=by cases b<;>simp_all [GK,GK0]
section
variable {P:Program} {E:Ent} {Q:Exit->PFS->Prop} {s:PFS} {K:PFS->Prop} {d:Option Tmp} {ty:TypeId} {pos:String} {af:Array Edge} {gd:Option (Nat×Bool)}
@[go_sem] theorem J2x :VC P E .skip Q s=Q .normal s:=(rfl)
@[go_sem] theorem Q2v {l:Nat} :VC P E (.label l) Q s=Q .normal s:=(rfl)
@[go_sem] theorem w0v {id:Nat}{ops:Array Oper}{d:Bool}{y:Code} :VC P E (.seq (.region id ops d) y) Q s=VC P E (.region id ops d) (eth (VC P E y Q) Q) s:=(rfl)
@[go_sem] theorem j1i {x z:Code}{y:Code} :VC P E (.seq (.seq x z) y) Q s=VC P E (.seq x z) (eth (G1t P E (QP (.seq x z)) y Q) Q) s:=by
 have e:Y2 P E (QP (.seq x z)) y Q=if QP (.seq x z) then PWP P E y Q else VC0 P E y Q:=by funext s;unfold Y2;split<;>rfl
 show VC0 P E (.seq (.seq x z) y) Q s=VC0 P E (.seq x z) (We (Y2 P E (QP (.seq x z)) y Q) Q) s;rw[e];rfl
@[go_sem] theorem U1z {c:Operand}{x z:Code}{y:Code} :VC P E (.seq (.cond c x z) y) Q s=VC P E (.cond c x z) (eth (G1t P E (QP (.cond c x z)) y Q) Q) s:=by
 have e:Y2 P E (QP (.cond c x z)) y Q=if QP (.cond c x z) then PWP P E y Q else VC0 P E y Q:=by funext s;unfold Y2;split<;>rfl
 show VC0 P E (.seq (.cond c x z) y) Q s=VC0 P E (.cond c x z) (We (Y2 P E (QP (.cond c x z)) y Q) Q) s;rw[e];rfl
@[go_sem] theorem W1j {x:Code}{y:Code} :VC P E (.seq (.scope x) y) Q s=VC P E (.scope x) (eth (G1t P E (QP (.scope x)) y Q) Q) s:=by
 have e:Y2 P E (QP (.scope x)) y Q=if QP (.scope x) then PWP P E y Q else VC0 P E y Q:=by funext s;unfold Y2;split<;>rfl
 show VC0 P E (.seq (.scope x) y) Q s=VC0 P E (.scope x) (We (Y2 P E (QP (.scope x)) y Q) Q) s;rw[e];rfl
@[go_sem] theorem U1x {x:Code}{y:Code} :VC P E (.seq (.loop x) y) Q s=VC P E (.loop x) (eth (G1t P E (QP (.loop x)) y Q) Q) s:=by
 have e:Y2 P E (QP (.loop x)) y Q=if QP (.loop x) then PWP P E y Q else VC0 P E y Q:=by funext s;unfold Y2;split<;>rfl
 show VC0 P E (.seq (.loop x) y) Q s=VC0 P E (.loop x) (We (Y2 P E (QP (.loop x)) y Q) Q) s;rw[e];rfl
@[go_sem] theorem W1l {id:Nat}{x y:Code} :VC P E (.seq (.block id x) y) Q s=VC P E (.block id x) (eth (G1t P E (QP x) y Q) Q) s:=by
 have e:Y2 P E (QP x) y Q=if QP x then PWP P E y Q else VC0 P E y Q:=by funext s;unfold Y2;split<;>rfl
 show VC0 P E (.seq (.block id x) y) Q s=VC0 P E (.block id x) (We (Y2 P E (QP x) y Q) Q) s;rw[e];rfl
@[go_sem] theorem k1z {y:Code} :G1t P E true y Q s=PW P E y Q s:=(rfl)
@[go_sem] theorem j1k {y:Code} :G1t P E false y Q s=VC P E y Q s:=(rfl)
@[go_sem] theorem q1w {x y:Code} :QP (.seq x y)=(QP x||QP y):=(rfl)
@[go_sem] theorem Y1r {c:Operand}{x y:Code} :QP (.cond c x y)=(QP x||QP y):=(rfl)
@[go_sem] theorem J1p {id:Nat}{x:Code} :QP (.block id x)=QP x:=(rfl)
@[go_sem] theorem J1n {x:Code} :QP (.scope x)=QP x:=(rfl)
@[go_sem] theorem Y1p {x:Code} :QP (.loop x)=true:=(rfl)
@[go_sem] theorem w0p {id:Nat}{ops:Array Oper}{d:Bool} :QP (.region id ops d)=false:=(rfl)
@[go_sem] theorem Y1o :QP .skip=false:=(rfl)
@[go_sem] theorem q1x :QP .ret=false:=(rfl)
@[go_sem] theorem Y1q {id:Nat} :QP (.exit id)=false:=(rfl)
@[go_sem] theorem J1o {l:Nat} :QP (.label l)=false:=(rfl)
attribute [go_sem] Bool.or_false Bool.false_or Bool.or_true Bool.true_or
@[go_sem] theorem U1w {y:Code} :VC P E (.seq .skip y) Q s=VC P E .skip (eth (VC P E y Q) Q) s:=(rfl)
@[go_sem] theorem W1k {l:Nat}{y:Code} :VC P E (.seq (.label l) y) Q s=VC P E (.label l) (eth (VC P E y Q) Q) s:=(rfl)
@[go_sem] theorem U1y {id:Nat}{y:Code} :VC P E (.seq (.exit id) y) Q s=VC P E (.exit id) (eth (VC P E y Q) Q) s:=(rfl)
@[go_sem] theorem j1j {y:Code} :VC P E (.seq .ret y) Q s=VC P E .ret (eth (VC P E y Q) Q) s:=(rfl)
@[go_sem] theorem Q2u {x:Code} :VC P E (.scope x) Q s=VC P E x (esc Q) s:=(rfl)
@[go_sem] theorem k1n {id:Nat}{l:List Oper} :VC P E (.region id l.toArray false) Q s=OL P l l (Q .normal) s:=(rfl)
@[go_sem] theorem K2a {id:Nat}{ops:Array Oper} :VC P E (.region id ops true) Q s=PW P E (.region id ops true) Q s:=(rfl)
@[go_sem] theorem K2b {c:Operand}{x y:Code} :VC P E (.cond c x y) Q s=CK (s.ev c) (VC P E x Q s) (VC P E y Q s):=(rfl)
@[go_sem] theorem Q2w {id:Nat}{c:Code} :VC P E (.block id c) Q s=VC P E c (ebl id Q) s:=(rfl)
@[go_sem] theorem J2z {id:Nat} :VC P E (.exit id) Q s=Q (.exit id) s:=(rfl)
@[go_sem] theorem U2f :VC P E .ret Q s=Q .ret s:=(rfl)
@[go_sem] theorem J2y {c:Code} :VC P E (.loop c) Q s=PW P E (.loop c) Q s:=(rfl)
@[go_sem] theorem Y1y {K:PFS->Prop} :eth K Q .normal s=K s:=(rfl)
@[go_sem] theorem w1w {K:PFS->Prop} :eth K Q .ret s=Q .ret s:=(rfl)
@[go_sem] theorem j1t {K:PFS->Prop}{id:Nat} :eth K Q (.exit id) s=Q (.exit id) s:=(rfl)
@[go_sem] theorem K1m {K:PFS->Prop} :We K Q .normal s=K s:=(rfl)
@[go_sem] theorem j1s {K:PFS->Prop} :We K Q .ret s=Q .ret s:=(rfl)
@[go_sem] theorem z1j {K:PFS->Prop}{id:Nat} :We K Q (.exit id) s=Q (.exit id) s:=(rfl)
@[go_sem] theorem K1n :esc Q .normal s=Q .normal s:=(rfl)
@[go_sem] theorem j1u :esc Q .ret s=Q .ret s:=(rfl)
@[go_sem] theorem z1k {id:Nat} :esc Q (.exit id) s=Q (.exit id) s:=(rfl)
@[go_sem] theorem z1s {id:Nat} :ebl id Q .normal s=Q .normal s:=(rfl)
@[go_sem] theorem X2k {id:Nat} :ebl id Q .ret s=Q .ret s:=(rfl)
@[go_sem] theorem y1k {id:Nat} :ebl id Q (.exit id) s=Q .normal s:=by simp[ebl,U0n]
theorem wC {id id':Nat}(h:id'≠id):ebl id Q (.exit id') s=Q (.exit id') s:=by simp[ebl,U0n,h]
attribute [go_sem] wC
@[go_sem] theorem U2e {x y:Prop} :CK (.sc (.bool true)) x y=x:=by simp[CK,CK0]
@[go_sem] theorem J2w {x y:Prop} :CK (.sc (.bool false)) x y=y:=by simp[CK,CK0]
@[go_sem] theorem H2l {x y:Prop} :GK (some true) true x y=x:=by simp[GK,GK0]
@[go_sem] theorem H2m {x y:Prop} :GK (some true) false x y=y:=by simp[GK,GK0]
@[go_sem] theorem H2n {x y:Prop} :GK (some false) true x y=y:=by simp[GK,GK0]
@[go_sem] theorem H2o {x y:Prop} :GK (some false) false x y=x:=by simp[GK,GK0]
@[go_sem] theorem G2k {ops:List Oper} :OL P ops [] K s=K s:=(rfl)
@[go_sem] theorem Y2z {ops rest:List Oper}{op:Op} :OL P ops (⟨d,op,ty,pos,af,none⟩::rest) K s=OC P ⟨d,op,ty,pos,af,none⟩ (OL P ops rest K) s:=(rfl)
@[go_sem] theorem Y2y {ops rest:List Oper}{op:Op}{j:Nat}{want:Bool} :OL P ops (⟨d,op,ty,pos,af,some (j,want)⟩::rest) K s=
 GK (Zn ops s j want) want (OC P ⟨d,op,ty,pos,af,some (j,want)⟩ (OL P ops rest K) s) (OL P ops rest K (s.put d (.tup []))):=rfl
def H2e (ops:List Oper)(j:Nat):Option Tmp:=(ops[j]?).bind (·.dst)
@[go_sem] theorem z1a {ops:List Oper}{j:Nat}{want:Bool} :Zn ops s j want=match (ops[j]?).bind (·.dst) with | some t=>gv (s.pa.getD t .junk) want | none=>none:=by
 unfold Zn;cases h:ops[j]? with
 | none=>rfl
 | some o=>cases h2:o.dst with
  | none=>simp only[Option.bind_some,h2]
  | some t=>simp only[Option.bind_some,h2]
@[go_sem] theorem V2l {b want:Bool} :gv (.sc (.bool b)) want=some b:=(rfl)
@[go_sem] theorem Z2p {want:Bool} :gv (.tup []) want=some (!want):=(rfl)
@[go_sem] theorem U2c {x:Operand} :OC P ⟨d,.move x,ty,pos,af,gd⟩ K s=K (s.put d (s.ev x)):=(rfl)
@[go_sem] theorem Q2p {x:Operand} :OC P ⟨d,.assign x,ty,pos,af,gd⟩ K s=K (s.put d (s.ev x)):=(rfl)
@[go_sem] theorem U2b {c x y:Operand} :OC P ⟨d,.pick c x y,ty,pos,af,gd⟩ K s=Wf s (fun p s'=>K (s'.put d p)) (IN (s.ev c) (s.ev x) (s.ev y)):=(rfl)
@[go_sem] theorem J2u {t:TypeId} :OC P ⟨d,.alloc t,ty,pos,af,gd⟩ K s=Wf s (fun p s'=>K (s'.put d p)) (Hz (ti P t)):=(rfl)
@[go_sem] theorem G2l {t:TypeId}{x:Operand} :OC P ⟨d,.box t x,ty,pos,af,gd⟩ K s=Wf s (fun p s'=>K (s'.put d p)) (v0l (s.ev x)):=(rfl)
@[go_sem] theorem J2t {t:TypeId}{l:List (Nat×Operand)} :OC P ⟨d,.build t l.toArray,ty,pos,af,gd⟩ K s=Wf s (fun p s'=>K (s'.put d p)) (Uy (ti P t) (l.map fun x=>(x.1,s.ev x.2))):=(rfl)
@[go_sem] theorem W1f {t:TypeId}{n:Nat}{l:List (Nat×Operand)} :OC P ⟨d,.buildSlice t n l.toArray,ty,pos,af,gd⟩ K s=Wf s (fun p s'=>K (s'.put d p)) (XC (ti P t) n (l.map fun x=>(x.1,s.ev x.2))):=(rfl)
@[go_sem] theorem U2d {t:TypeId}{x:Operand} :OC P ⟨d,.load t x,ty,pos,af,gd⟩ K s=Wf s (fun p s'=>K (s'.put d p)) (Gi (ti P t) (s.ev x)):=(rfl)
@[go_sem] theorem J2p {t:TypeId}{x y:Operand} :OC P ⟨d,.store t x y,ty,pos,af,gd⟩ K s=Wf s (fun p s'=>K (s'.put d p)) (I1 (ti P t) (s.ev x) (s.ev y)):=(rfl)
@[go_sem] theorem j1d {x:Operand} :OC P ⟨d,.nilCheck x,ty,pos,af,gd⟩ K s=Wf s (fun p s'=>K (s'.put d p)) (Q0b (s.ev x)):=(rfl)
@[go_sem] theorem U2a {op:UnOp}{t:TypeId}{x:Operand} :OC P ⟨d,.unOp op t x,ty,pos,af,gd⟩ K s=Wf s (fun p s'=>K (s'.put d p)) (G1e op (s.ev x)):=(rfl)
@[go_sem] theorem k1e {t u:TypeId}{x:Operand} :OC P ⟨d,.convert t u x,ty,pos,af,gd⟩ K s=Wf s (fun p s'=>K (s'.put d p)) (qQ (ti P t) (ti P u) (s.ev x)):=(rfl)
@[go_sem] theorem U1p {t:TypeId}{x:Operand}{f:Nat} :OC P ⟨d,.fieldAddr t x f,ty,pos,af,gd⟩ K s=Wf s (fun p s'=>K (s'.put d p)) (Z6 (ti P t) (s.ev x) f):=(rfl)
@[go_sem] theorem J2s {t:TypeId}{x:Operand}{f:Nat} :OC P ⟨d,.field t x f,ty,pos,af,gd⟩ K s=Wf s (fun p s'=>K (s'.put d p)) (Us (ti P t) (s.ev x) f):=(rfl)
@[go_sem] theorem U1o {t:TypeId}{x i:Operand} :OC P ⟨d,.indexAddr t x i,ty,pos,af,gd⟩ K s=Wf s (fun p s'=>K (s'.put d p)) (Jd (ti P t) (s.ev x) (s.ev i)):=(rfl)
@[go_sem] theorem J2r {t:TypeId}{x i:Operand} :OC P ⟨d,.index t x i,ty,pos,af,gd⟩ K s=Wf s (fun p s'=>K (s'.put d p)) (Ue (ti P t) (s.ev x) (s.ev i)):=(rfl)
@[go_sem] theorem J2q {t:TypeId}{x:Operand}{lo hi mx:Option Operand} :OC P ⟨d,.slice t x lo hi mx,ty,pos,af,gd⟩ K s=Wf s (fun p s'=>K (s'.put d p)) (YO (ti P t) (s.ev x) (lo.map s.ev) (hi.map s.ev) (mx.map s.ev)):=(rfl)
@[go_sem] theorem j1e {f:Fn}{bs cs:List Operand} :OC P ⟨d,.makeFunc f bs.toArray cs.toArray,ty,pos,af,gd⟩ K s=K (s.put d (.fn f (bs.map s.ev) (cs.map s.ev))):=(rfl)
@[go_sem] theorem U1n {t:TypeId}{x y:Operand} :OC P ⟨d,.makeSlice t x y,ty,pos,af,gd⟩ K s=Wf s (fun p s'=>K (s'.put d p)) (K1 P t (s.ev x) (s.ev y)):=(rfl)
def w6 (x:PV)(i:Nat):Req:=match x with | .tup vs=>if i<vs.length then .val (vs.getD i .junk) else .fail | _=> .fail
@[go_sem] theorem k1d {x:Operand}{i:Nat} :OC P ⟨d,.extract x i,ty,pos,af,gd⟩ K s=Wf s (fun p s'=>K (s'.put d p)) (w6 (s.ev x) i):=(rfl)
@[go_sem] theorem k1g {b:Builtin}{l:List Operand}{ts:List TypeId} :OC P ⟨d,.call ⟨.builtin b,l.toArray,ts.toArray⟩,ty,pos,af,gd⟩ K s=Wf s (fun p s'=>K (s'.put d p)) (K9 P b ts (l.map s.ev)):=(rfl)
def BK0 (P:Program)(op:BinOp)(t:TypeId)(x y:Operand)(ty:TypeId)(s:PFS)(K:PV->PFS->Prop):Prop:=
 match Kh P (.binOp op t x y ty) s.ev with
 | some (ne,es)=> ∀b:Bool,(b=true->es= [])->K (.sc (.bool (b !=ne))) s
 | none=>HP s K (ZE op (ti P t) (s.ev x) (s.ev y))
theorem yF {K:PV->PFS->Prop}{r:Req}{p:PV}{s':PFS}(h:r.run s=some (p,s'))(hk:K p s'):HP s K r:=by
 cases r with
 | val v=>cases h;exact hk
 | need c v=>
  simp only[Req.run] at h;by_cases hc:c=true;rw[BC hc] at h;cases h;exact⟨hc,hk⟩;rw[BA hc] at h;cases h
 | load gl i off n agg=>
  simp only[Req.run] at h;by_cases hc:off+n<=((if gl then s.st else s.L).getD i []).length;rw[BC hc] at h;cases h;exact⟨hc,hk⟩;rw[BA hc] at h;cases h
 | store gl i off cs=>
  simp only[Req.run] at h;by_cases hc:off+cs.length<=((if gl then s.st else s.L).getD i []).length/\0<((if gl then s.st else s.L).getD i []).length;rw[BC hc] at h;cases h;exact⟨hc,hk⟩;rw[BA hc] at h;cases h
 | box cs=>cases h;exact hk
 | mks cs len=>cases h;exact hk
 | newsl es=>cases h;exact hk
 | app t es ys e=>
  simp only[Req.run] at h;split at h;rename_i hc;refine⟨hc,?_⟩;cases t with
  | own k=>
   simp only at h;by_cases hT:s.T.getD k (0,0)=(es.length,e.sz);rw[BC hT] at h;cases h;exact⟨hT,hk⟩;rw[BA hT] at h;cases h
  | full=>
   simp only at h;by_cases hT:es.length=0\/0<ys.length;rw[BC hT] at h;cases h;exact⟨hT,hk⟩;rw[BA hT] at h;cases h
  | _=>cases h
  cases h
 | fail=>cases h
theorem Q2m {op:BinOp}{t u:TypeId}{x y:Operand}(h:BK0 P op t x y u s (fun p s'=>K (s'.put d p))):PO P ⟨d,.binOp op t x y u,ty,pos,af,gd⟩ K s:=by unfold BK0 at h;unfold PO;simp only;split;rename_i hn;rw[hn] at h;exact h;rename_i hn;rw[hn] at h;obtain⟨p,s',hr,hk⟩:=GQ h;have e2:ZU (.binOp op t x y u) s.ev=none:=rfl;simp only[e2,HF,req,hr];exact hk
theorem y1y {op:BinOp}{t u:TypeId}{x y:Operand}(h:PO P ⟨d,.binOp op t x y u,ty,pos,af,gd⟩ K s):BK0 P op t x y u s (fun p s'=>K (s'.put d p)):=by unfold PO at h;unfold BK0;simp only at h;split;rename_i hn;rw[hn] at h;exact h;rename_i hn;rw[hn] at h;have e2:ZU (.binOp op t x y u) s.ev=none:=rfl;simp only[e2,HF,req] at h;split at h;rename_i s' hs;split at hs;rename_i p s1 hr;cases hs;exact yF hr h;cases hs;exact h.elim
theorem j1g {op:BinOp}{t u:TypeId}{x y:Operand} :OC0 P ⟨d,.binOp op t x y u,ty,pos,af,gd⟩ K s=BK0 P op t x y u s (fun p s'=>K (s'.put d p)):=by cases op<;>first | rfl | exact propext ⟨y1y,Q2m⟩
def CC0 (P:Program)(f:PV)(as:List PV)(s:PFS)(K:PV->Qf->Prop):Prop:=
 match f with
 | .fn (.func g) bs cs=>(bs++as++cs).all PV.closed2=true/\CallsOr P g ((bs++as++cs).map PV.forget2) s.st K
 | _=>False
theorem j1f {f:Operand}{l:List Operand}{ts:Array TypeId}(h:CC0 P (s.ev f) (l.map s.ev) s (fun r st=>K (s.recv d r st))):OC0 P ⟨d,.call ⟨.value f,l.toArray,ts⟩,ty,pos,af,gd⟩ K s:=by unfold OC0;simp only[IL];unfold PO;have e1:Kh P (.call ⟨.value f,l.toArray,ts⟩) s.ev=none:=rfl;simp only[e1,ZU];unfold CC0 at h;split at h;rename_i g bs cs hf;simp only[hf];exact h;exact h.elim
theorem x1n {f:Operand}{l:List Operand}{ts:Array TypeId}(h:OC0 P ⟨d,.call ⟨.value f,l.toArray,ts⟩,ty,pos,af,gd⟩ K s):CC0 P (s.ev f) (l.map s.ev) s (fun r st=>K (s.recv d r st)):=by unfold OC0 at h;simp only[IL] at h;unfold PO at h;have e1:Kh P (.call ⟨.value f,l.toArray,ts⟩) s.ev=none:=rfl;simp only[e1,ZU] at h;unfold CC0;split;rename_i g bs cs hf;simp only[hf] at h;exact h;rename_i hn;split at h;rename_i g' bs cs hf;split at hf;rename_i f' bs' cs' hf';exact absurd hf' (hn _ _ _);cases hf;simp only[HF,req,Req.run] at h
theorem X0a {f:Operand}{l:List Operand}{ts:Array TypeId} :OC0 P ⟨d,.call ⟨.value f,l.toArray,ts⟩,ty,pos,af,gd⟩ K s=CC0 P (s.ev f) (l.map s.ev) s (fun r st=>K (s.recv d r st)):=propext ⟨x1n,j1f⟩
theorem U1q {g:FuncId}{bs cs as:List PV}{K:PV->Qf->Prop} :CC0 P (.fn (.func g) bs cs) as s K=((bs++as++cs).all PV.closed2=true/\CallsOr P g ((bs++as++cs).map PV.forget2) s.st K):=(rfl)
def BK (P:Program)(op:BinOp)(t:TypeId)(x y:Operand)(ty:TypeId)(s:PFS)(K:PV->PFS->Prop)[Stop K]:Prop:=
 match Kh P (.binOp op t x y ty) s.ev with
 | some (ne,es)=> ∀b:Bool,(b=true->es= [])->K (.sc (.bool (b !=ne))) s
 | none=>Wf s K (ZE op (ti P t) (s.ev x) (s.ev y))
def CC (P:Program)(f:PV)(as:List PV)(s:PFS)(K:PV->Qf->Prop)[Stop K]:Prop:=CC0 P f as s K
@[go_sem] theorem G2m {op:BinOp}{t u:TypeId}{x y:Operand} :OC P ⟨d,.binOp op t x y u,ty,pos,af,gd⟩ K s=BK P op t x y u s (fun p s'=>K (s'.put d p)):=j1g
@[go_sem] theorem k1f {f:Operand}{l:List Operand}{ts:Array TypeId} :OC P ⟨d,.call ⟨.value f,l.toArray,ts⟩,ty,pos,af,gd⟩ K s=CC P (s.ev f) (l.map s.ev) s (fun r st=>K (s.recv d r st)):=X0a
@[go_sem] theorem H2p {g:FuncId}{bs cs as:List PV}{K:PV->Qf->Prop}(hc:Qc P g=true):CC P (.fn (.func g) bs cs) as s K=((bs++as++cs).all PV.closed2=true/\PC P g ((bs++as++cs).map PV.forget2) s.st K):=by show CC0 P _ _ _ _=_;rw[U1q,CallsOr,BC hc];rfl
@[go_sem] theorem G2n {g:FuncId}{bs cs as:List PV}{K:PV->Qf->Prop}(hc:Qc P g=false):CC P (.fn (.func g) bs cs) as s K=((bs++as++cs).all PV.closed2=true/\EC P g ((bs++as++cs).map PV.forget2) s.st K):=by show CC0 P _ _ _ _=_;rw[U1q,CallsOr,BA (by rw[hc];decide)];rfl
section
variable {K:PV->PFS->Prop}
@[go_sem] theorem G2e {v:PV} :Wf s K (.val v)=K v s:=(rfl)
@[go_sem] theorem Y2j {c:Bool}{v:PV} :Wf s K (.need c v)=(c=true/\K v s):=(rfl)
@[go_sem] theorem J2f {i off n:Nat}{agg:Bool} :Wf s K (.load false i off n agg)=(off+n<=(s.L.getD i []).length/\K (if agg then .agg (((s.L.getD i []).drop off).take n) else(s.L.getD i []).getD off .junk) s):=(rfl)
@[go_sem] theorem J2g {i off n:Nat}{agg:Bool} :Wf s K (.load true i off n agg)=(off+n<=(s.st.getD i []).length/\K (if agg then .agg (((s.st.getD i []).drop off).take n) else(s.st.getD i []).getD off .junk) s):=(rfl)
@[go_sem] theorem Q2h {i off:Nat}{cs:List PV} :Wf s K (.store false i off cs)=((off+cs.length<=(s.L.getD i []).length/\0<(s.L.getD i []).length)/\K .junk { s with L:=s.L.set i (Zx (s.L.getD i []) off cs) }):=(rfl)
@[go_sem] theorem Q2i {i off:Nat}{cs:List PV} :Wf s K (.store true i off cs)=((off+cs.length<=(s.st.getD i []).length/\0<(s.st.getD i []).length)/\K .junk { s with st:=s.st.set i (Zx (s.st.getD i []) off cs) }):=(rfl)
@[go_sem] theorem G2g {cs:List PV} :Wf s K (.box cs)=K (.lp s.L.length 0) { s with L:=s.L++ [cs] } :=(rfl)
@[go_sem] theorem G2f {cs:List PV}{len:Nat} :Wf s K (.mks cs len)=K (.ms false s.L.length 0 len) { s with L:=s.L++ [cs] } :=(rfl)
@[go_sem] theorem J2e {es:List PV} :Wf s K (.newsl es)=K (.sl .full es) s:=(rfl)
def X0b (es ys:List PV)(e:EI):Prop:=e.zok=true/\es.length+ys.length<=1152921504606846976/\(es.length+ys.length)*e.by_<=140737488355328/\
 es.all (fun x=>x.cells.length==e.sz)=true/\ys.all (fun x=>(x.cells.length==e.sz)&&x.cells.all PV.cellOK)=true
@[go_sem] theorem Y2k {k:Nat}{es ys:List PV}{e:EI} :Wf s K (.app (.own k) es ys e)=(X0b es ys e/\s.T.getD k (0,0)=(es.length,e.sz)/\K (.sl (.own k) (es++ys)) { s with T:=s.T.set k (es.length+ys.length,e.sz) }):=(rfl)
@[go_sem] theorem Y2l {es ys:List PV}{e:EI} :Wf s K (.app .full es ys e)=(X0b es ys e/\(es.length=0\/0<ys.length)/\K (.sl (.own s.T.length) (es++ys)) { s with T:=s.T++ [(es.length+ys.length,e.sz)] }):=(rfl)
@[go_sem high] theorem J2i {ys:List PV}{e:EI} :Wf s K (.app .full [] ys e)=(X0b [] ys e/\K (.sl (.own s.T.length) ([]++ys)) { s with T:=s.T++ [(([]:List PV).length+ys.length,e.sz)] }):=by show(X0b [] ys e/\(([]:List PV).length=0\/0<ys.length)/\_)=_;simp only[D8,true_or,F9]
@[go_sem high] theorem J2h {es ys:List PV}{y:PV}{e:EI} :Wf s K (.app .full es (y::ys) e)=(X0b es (y::ys) e/\K (.sl (.own s.T.length) (es++y::ys)) { s with T:=s.T++ [(es.length+(y::ys).length,e.sz)] }):=by show(X0b es (y::ys) e/\(es.length=0\/0<(y::ys).length)/\_)=_;simp only[C1,Nat.succ_pos,or_true,F9]
theorem Q2j {c:Prop}[Decidable c]{r:Req} :Wf s K (if c then r else .fail)=(c/\Wf s K r):=by by_cases h:c;rw[BC h];simp[h];rw[BA h];simp only[Wf,HP,h,false_and]
attribute [go_sem] Q2j
end
section
variable {pa:List PV} {L st:Qf} {T:List (Nat×Nat)}
@[go_sem] theorem Z2f {t:Tmp}{v:PV} :(PFS.mk pa L T st).put (some t) v=⟨pa.set t v,L,T,st⟩:=(rfl)
@[go_sem] theorem Z2g {v:PV} :(PFS.mk pa L T st).put none v=⟨pa,L,T,st⟩:=(rfl)
@[go_sem] theorem U2w {t:Tmp} :(PFS.mk pa L T st).ev (.tmp t)=pa.getD t .junk:=(rfl)
@[go_sem] theorem Z2w {v:Value} :(PFS.mk pa L T st).ev (.const v)=U3 v:=(rfl)
@[go_sem] theorem V2z {f:FuncId} :(PFS.mk pa L T st).ev (.func f)= .fn (.func f) [] []:=(rfl)
@[go_sem] theorem j1l {d:Option Tmp}{sz:Nat}{es:List PV}{st':Qf} :(PFS.mk pa L T st).recv d (.sl (.fresh sz) es) st'=(PFS.mk pa L (T++ [(es.length,sz)]) st').put d (.sl (.own T.length) es):=(rfl)
@[go_sem] theorem K2k {d:Option Tmp}{es:List PV}{st':Qf} :(PFS.mk pa L T st).recv d (.sl .no es) st'=(PFS.mk pa L T st').put d (.sl .no es):=(rfl)
@[go_sem] theorem K2j {d:Option Tmp}{v:Value}{st':Qf} :(PFS.mk pa L T st).recv d (.sc v) st'=(PFS.mk pa L T st').put d (.sc v):=(rfl)
@[go_sem] theorem Z2a {d:Option Tmp}{v:List PV}{st':Qf} :(PFS.mk pa L T st).recv d (.agg v) st'=(PFS.mk pa L T st').put d (.agg v):=(rfl)
@[go_sem] theorem Q2z {d:Option Tmp}{v:List PV}{st':Qf} :(PFS.mk pa L T st).recv d (.tup v) st'=(PFS.mk pa L T st').put d (.tup v):=(rfl)
@[go_sem] theorem K2n {d:Option Tmp}{i o:Nat}{st':Qf} :(PFS.mk pa L T st).recv d (.gp i o) st'=(PFS.mk pa L T st').put d (.gp i o):=(rfl)
end
end
@[go_sem] theorem v1h {b:Bool} :U3 (.bool b)= .sc (.bool b):=(rfl)
@[go_sem] theorem Z2d {k:IntKind}{n:Int} :U3 (.int k n)= .sc (.int k n):=(rfl)
@[go_sem] theorem H1g {s:ByteArray} :U3 (.string s)= .sc (.string s):=(rfl)
@[go_sem] theorem Z2b {a:Option Addr} :U3 (.pointer a)= .sc (.pointer a):=(rfl)
@[go_sem] theorem Z2c :U3 (.slice none 0 0)= .sl .full []:=(rfl)
@[go_sem] theorem Y1a :U3 .nilFunc= .sc .nilFunc:=(rfl)
@[go_sem] theorem Z2e {l:List Value} :U3 (.agg l.toArray)= .agg (l.map Y4):=by simp[U3]
@[go_sem] theorem j1m {b:Bool} :Y4 (.bool b)= .sc (.bool b):=(rfl)
@[go_sem] theorem v1k {k:IntKind}{n:Int} :Y4 (.int k n)= .sc (.int k n):=(rfl)
@[go_sem] theorem Y1b {s:ByteArray} :Y4 (.string s)= .sc (.string s):=(rfl)
@[go_sem] theorem v1i {a:Option Addr} :Y4 (.pointer a)= .sc (.pointer a):=(rfl)
@[go_sem] theorem v1j :Y4 (.slice none 0 0)= .sl .full []:=(rfl)
@[go_sem] theorem Q1v :Y4 .nilFunc= .sc .nilFunc:=(rfl)
@[go_sem] theorem y1w {cs:List PV} :(PV.agg cs).cells=cs:=(rfl)
@[go_sem] theorem X2o {v:Value} :(PV.sc v).cells= [.sc v]:=(rfl)
@[go_sem] theorem X2n {t:Tag}{es:List PV} :(PV.sl t es).cells= [.sl t es]:=(rfl)
@[go_sem] theorem X2p {g:Bool}{i o n:Nat} :(PV.ms g i o n).cells= [.ms g i o n]:=(rfl)
@[go_sem] theorem X2q {i o:Nat} :(PV.lp i o).cells= [.lp i o]:=(rfl)
@[go_sem] theorem X2s {i o:Nat} :(PV.gp i o).cells= [.gp i o]:=(rfl)
@[go_sem] theorem X2u {cs:List PV}{o:Nat} :(PV.ep cs o).cells= [.ep cs o]:=(rfl)
@[go_sem] theorem X2t {f:Fn}{bs cs:List PV} :(PV.fn f bs cs).cells= [.fn f bs cs]:=(rfl)
@[go_sem] theorem y1v {es:List PV}{n:Nat} :(PV.pre es n).cells= [.pre es n]:=(rfl)
@[go_sem] theorem k1a :PV.junk.cells= [.junk]:=(rfl)
@[go_sem] theorem y1u {vs:List PV} :(PV.tup vs).cells= [.tup vs]:=(rfl)
attribute [go_sem] PV.cellOK Value.oneCell' PV.closed2 PV.closed1 PV.closed PV.forget2 PV.forget1 PV.forgetAll
@[go_sem] theorem Y2f {T:Option TI}{k:IntKind}{a b:Int} :ZE .add T (.sc (.int k a)) (.sc (.int k b))= .val (.sc (.int k (k.wrap (a+b)))):=by simp[ZE,Jn]
@[go_sem] theorem W2r {T:Option TI}{k:IntKind}{a b:Int} :ZE .sub T (.sc (.int k a)) (.sc (.int k b))= .val (.sc (.int k (k.wrap (a-b)))):=by simp[ZE,Jn]
@[go_sem] theorem W2y {T:Option TI}{k:IntKind}{a b:Int} :ZE .mul T (.sc (.int k a)) (.sc (.int k b))= .val (.sc (.int k (k.wrap (a*b)))):=by simp[ZE,Jn]
@[go_sem] theorem W2v {T:Option TI}{k:IntKind}{a b:Int} :ZE .quo T (.sc (.int k a)) (.sc (.int k b))= .need (b !=0) (.sc (.int k (k.wrap (a.tdiv b)))):=by simp[ZE,Jn]
@[go_sem] theorem W2u {T:Option TI}{k:IntKind}{a b:Int} :ZE .rem T (.sc (.int k a)) (.sc (.int k b))= .need (b !=0) (.sc (.int k (a.tmod b))):=by simp[ZE,Jn]
@[go_sem] theorem Y2e {T:Option TI}{k:IntKind}{a b:Int} :ZE .and T (.sc (.int k a)) (.sc (.int k b))= .val (.sc (.int k (GF k a b))):=by simp[ZE,Jn]
@[go_sem] theorem G2c {T:Option TI}{k:IntKind}{a b:Int} :ZE .or T (.sc (.int k a)) (.sc (.int k b))= .val (.sc (.int k (bOr k a b))):=by simp[ZE,Jn]
@[go_sem] theorem W2q {T:Option TI}{k:IntKind}{a b:Int} :ZE .xor T (.sc (.int k a)) (.sc (.int k b))= .val (.sc (.int k (Q2a k a b))):=by simp[ZE,Jn]
@[go_sem] theorem k1b {T:Option TI}{k:IntKind}{a b:Int} :ZE .andNot T (.sc (.int k a)) (.sc (.int k b))= .val (.sc (.int k (Z0u k a b))):=by simp[ZE,Jn]
@[go_sem] theorem Y2d {T:Option TI}{k:IntKind}{a b:Int} :ZE .eql T (.sc (.int k a)) (.sc (.int k b))= .val (.sc (.bool (a==b))):=by simp[ZE,Jn]
@[go_sem] theorem W2x {T:Option TI}{k:IntKind}{a b:Int} :ZE .neq T (.sc (.int k a)) (.sc (.int k b))= .val (.sc (.bool (a !=b))):=by simp[ZE,Jn]
@[go_sem] theorem W2z {T:Option TI}{k:IntKind}{a b:Int} :ZE .lss T (.sc (.int k a)) (.sc (.int k b))= .val (.sc (.bool (decide (a<b)))):=by simp[ZE,Jn]
@[go_sem] theorem Y2a {T:Option TI}{k:IntKind}{a b:Int} :ZE .leq T (.sc (.int k a)) (.sc (.int k b))= .val (.sc (.bool (decide (a<=b)))):=by simp[ZE,Jn]
@[go_sem] theorem Y2b {T:Option TI}{k:IntKind}{a b:Int} :ZE .gtr T (.sc (.int k a)) (.sc (.int k b))= .val (.sc (.bool (decide (a>b)))):=by simp[ZE,Jn]
@[go_sem] theorem Y2c {T:Option TI}{k:IntKind}{a b:Int} :ZE .geq T (.sc (.int k a)) (.sc (.int k b))= .val (.sc (.bool (decide (a>=b)))):=by simp[ZE,Jn]
@[go_sem] theorem W2t {T:Option TI}{k k':IntKind}{a b:Int} :ZE .shl T (.sc (.int k a)) (.sc (.int k' b))= .need (decide (0<=b)) (.sc (.int k (xA k a b))):=(rfl)
@[go_sem] theorem W2s {T:Option TI}{k k':IntKind}{a b:Int} :ZE .shr T (.sc (.int k a)) (.sc (.int k' b))= .need (decide (0<=b)) (.sc (.int k (Wg k a b))):=(rfl)
@[go_sem] theorem X2w {T:Option TI}{a b:ByteArray} :ZE .eql T (.sc (.string a)) (.sc (.string b))= .val (.sc (.bool (a.toList==b.toList))):=(rfl)
@[go_sem] theorem X2v {T:Option TI}{a b:ByteArray} :ZE .neq T (.sc (.string a)) (.sc (.string b))= .val (.sc (.bool (!(a.toList==b.toList)))):=(rfl)
@[go_sem] theorem X2x {T:Option TI}{a b:ByteArray} :ZE .add T (.sc (.string a)) (.sc (.string b))= .need (decide (a.size+b.size<=9223372036854775807)) (.sc (.string (a++b))):=(rfl)
@[go_sem] theorem J2d {x:Bool}{n:Nat}{z:Option Value}{a b:Bool} :ZE .eql (some ⟨x,n,.bool,z⟩) (.sc (.bool a)) (.sc (.bool b))= .val (.sc (.bool (a==b))):=(rfl)
@[go_sem] theorem J2c {x:Bool}{n:Nat}{z:Option Value}{a b:Bool} :ZE .neq (some ⟨x,n,.bool,z⟩) (.sc (.bool a)) (.sc (.bool b))= .val (.sc (.bool (!(a==b)))):=(rfl)
@[go_sem] theorem X2z {x:Bool}{n:Nat}{z:Option Value}{i o:Nat} :ZE .eql (some ⟨x,n,.ptr,z⟩) (.gp i o) (.sc (.pointer none))= .val (.sc (.bool false)):=(rfl)
@[go_sem] theorem X2y {x:Bool}{n:Nat}{z:Option Value}{i o:Nat} :ZE .neq (some ⟨x,n,.ptr,z⟩) (.gp i o) (.sc (.pointer none))= .val (.sc (.bool true)):=(rfl)
@[go_sem] theorem J2b {x:Bool}{n:Nat}{z:Option Value} :ZE .eql (some ⟨x,n,.ptr,z⟩) (.sc (.pointer none)) (.sc (.pointer none))= .val (.sc (.bool true)):=(rfl)
@[go_sem] theorem J2a {x:Bool}{n:Nat}{z:Option Value} :ZE .neq (some ⟨x,n,.ptr,z⟩) (.sc (.pointer none)) (.sc (.pointer none))= .val (.sc (.bool false)):=(rfl)
attribute [go_sem] G1e qQ Us Jd Ue Wb Ya WZ WX WY z1z x1a YO ww Uy XC W0z V1w K0g PV.scal K9 Gi I1 IN Q0b Hz v0l K1 w6 Kh
def fld (x:Option (Nat×EI))(k:Nat->PV):Req:=match x with | some (o,e)=>if e.sz=0 then .fail else .val (k o) | none=> .fail
@[congr] theorem w1r {x x':Option (Nat×EI)}{k:Nat->PV}(h:x=x'):fld x k=fld x' k:=by rw[h]
@[go_sem] theorem Z2t {o i:Nat}{sz b:Nat}{a z u:Bool}{k:Nat->PV} :fld (some (o,⟨i,sz+1,b,a,z,u⟩)) k= .val (k o):=by simp[fld]
@[go_sem] theorem Y1v {a:Bool}{n f i off:Nat}{fs:List (Nat×EI)}{z:Option Value} :Z6 (some ⟨a,n,.struct fs,z⟩) (.lp i off) f=fld fs[f]? (fun o=> .lp i (off+o)):=by unfold Z6 fld;rfl
@[go_sem] theorem Y1w {a:Bool}{n f i off:Nat}{fs:List (Nat×EI)}{z:Option Value} :Z6 (some ⟨a,n,.struct fs,z⟩) (.gp i off) f=fld fs[f]? (fun o=> .gp i (off+o)):=by unfold Z6 fld;rfl
@[go_sem] theorem Y1x {a:Bool}{n f off:Nat}{cs:List PV}{fs:List (Nat×EI)}{z:Option Value} :Z6 (some ⟨a,n,.struct fs,z⟩) (.ep cs off) f=fld fs[f]? (fun o=> .ep cs (off+o)):=by unfold Z6 fld;rfl
attribute [go_sem] LG FY List.getD_cons_succ LD List.getD_nil List.drop_succ_cons EP List.take_succ_cons List.take_zero C1 D8 EJ CQ
attribute [go_sem] List.getElem?_cons_succ List.getElem?_cons_zero DX F5 List.all_cons List.all_nil BK GL List.replicate_succ List.replicate_zero Option.map_some Option.map_none Option.bind_some
@[go_sem] theorem Z2i {α:Type}{l:List α}{n:Nat} :Zx l n []=l:=by simp[Zx]
@[go_sem] theorem w0n {α:Type}{x y:α}{l r:List α} :Zx (x::l) 0 (y::r)=y::Zx l 0 r:=by simp[Zx]
@[go_sem] theorem w0o {α:Type}{x:α}{l r:List α}{n:Nat} :Zx (x::l) (n+1) r=x::Zx l n r:=by simp only[Zx,List.take_succ_cons,EJ];rw[show n+1+r.length=(n+r.length)+1 from oG,List.drop_succ_cons]
@[go_sem] theorem y1x {P:Program}{fz:Option Nat}{fn:Func}{Q:PV->Qf->Prop}{s:PFS} :v0p P fz fn Q .ret s= ∃r,W0j P fz s fn.results.toList=some r/\Q r s.st:=(rfl)
@[go_sem] theorem U1f {P:Program}{fz:Option Nat}{fn:Func}{Q:PV->Qf->Prop}{s:PFS} :v0p P fz fn Q .normal s= ∃r,W0j P fz s fn.results.toList=some r/\Q r s.st:=(rfl)
attribute [go_sem] W0j zO kT UR X0b
attribute [go_sem] BU exists_eq_left' exists_eq_left F9 and_true q_i BN CU B1 DC ne_eq not_true_eq_false not_false_eq_true FE Bool.and_true F8 List.range'_succ List.range'_zero B9
attribute [go_sem] FR Bool.not_false BH BR FT D6 DT B3 and_self decide_true decide_false beq_self_eq_true bne_self_eq_false BD
theorem Q0w {α β:Type}[Inhabited α](f:α->β)(l:List α)(k:Nat)(d:β)(h:k<l.length):(l.map f).getD k d=f (l.getD k default):=by simp[q_a,h]
attribute [go_sem] Q0w
def PV.lim1 (nL nT:Nat):PV->Bool
 | .lp i _=>decide (i<nL)
 | .ms false i _ _=>decide (i<nL)
 | .mr i _ _=>decide (i<nL)
 | .sl (.own k) _=>decide (k<nT)
 | .agg _ | .tup _ | .fn _ _ _=>false
 | _=>true
def PV.lim (nL nT:Nat):PV->Bool
 | .agg cs=>cs.all (PV.lim1 nL nT)
 | .tup cs=>cs.all (PV.lim1 nL nT)
 | .fn _ bs cs=>bs.all (PV.lim1 nL nT)&&cs.all (PV.lim1 nL nT)
 | p=>p.lim1 nL nT
theorem RepF.lim1 {w g F T v p nL nT}(h:RepF w g F T v p)(hp:p.lim1 nL nT=true){F':Fr}(h1: ∀i,i<F.nl->i<nL->i<F'.nl/\F'.lmu i=F.lmu i)(h2:F'.tb=F.tb):RepF w g F' (T.take nT) v p:=by
 cases h with
 | base _ _ h=>exact .base _ _ h
 | lp i off hi=>
  obtain⟨a,b⟩:=h1 i hi (q_b hp);rw[<-b];exact .lp i off a
 | lms i off len cap hi hcap=>
  obtain⟨a,b⟩:=h1 i hi (q_b hp);rw[<-b];exact .lms i off len cap a hcap
 | lmr i len cap hi hcap=>
  obtain⟨a,b⟩:=h1 i hi (q_b hp);rw[<-b];exact .lmr i len cap a hcap
 | lmr0 i ad hi=>exact .lmr0 i ad (h1 i hi (q_b hp)).1
 | own k es v h hk hle hr=>
  have hn:k<nT:=q_b hp;have e:(T.take nT).getD k (0,0)=T.getD k (0,0):=JX _ _ _ _ hn;exact .own k es v h (by simp;omega) (by rw[e];exact hle) (fun he=>by rw[e] at he⊢;rw[h2];exact hr he)
 | agg=>cases hp
 | tup=>cases hp
 | fn=>cases hp
theorem RepF.lim {w g F T v p nL nT}(h:RepF w g F T v p)(hp:p.lim nL nT=true){F':Fr}(h1: ∀i,i<F.nl->i<nL->i<F'.nl/\F'.lmu i=F.lmu i)(h2:F'.tb=F.tb):RepF w g F' (T.take nT) v p:=by
 cases h with
 | base _ _ h=>exact .base _ _ h
 | agg vs cs hl h=>exact .agg vs cs hl fun j hj=>(h j hj).lim1 (List.all_eq_true.1 hp _ (Qq _ _ _ hj)) h1 h2
 | tup vs cs hl h=>exact .tup vs cs hl fun j hj=>(h j hj).lim1 (List.all_eq_true.1 hp _ (Qq _ _ _ hj)) h1 h2
 | fn f us vs bs cs hk hl h0 h=>
  have hp:=CR.1 hp;exact .fn f us vs bs cs hk hl (fun j hj=>(h0 j hj).lim1 (List.all_eq_true.1 hp.1 _ (Qq _ _ _ hj)) h1 h2) (fun j hj=>(h j hj).lim1 (List.all_eq_true.1 hp.2 _ (Qq _ _ _ hj)) h1 h2)
 | lp i off hi=>exact(RepF.lp (T:=T) i off hi).lim1 hp h1 h2
 | lms i off len cap hi hcap=>exact(RepF.lms (T:=T) i off len cap hi hcap).lim1 hp h1 h2
 | lmr i len cap hi hcap=>exact(RepF.lmr (T:=T) i len cap hi hcap).lim1 hp h1 h2
 | lmr0 i ad hi=>exact(RepF.lmr0 (T:=T) i ad hi).lim1 hp h1 h2
 | own k es v h hk hle hr=>exact(RepF.own k es v h hk hle hr).lim1 hp h1 h2
def Vt :List Bool->List PV->List PV
 | b::bs,p::ps=>(if b then p else .junk)::Vt bs ps
 | [],ps=>ps.map fun _=> .junk
 | _,[]=> []
theorem KJ : ∀(bs:List Bool) (ps:List PV),(Vt bs ps).length=ps.length
 | [],[]=>rfl
 | [],p::ps=>by simp[Vt]
 | b::bs,[]=>rfl
 | b::bs,p::ps=>by simp[Vt,KJ bs ps]
theorem zX : ∀(bs:List Bool) (ps:List PV) (j:Nat),(Vt bs ps).getD j .junk=ps.getD j .junk\/(Vt bs ps).getD j .junk= .junk
 | [],ps,j=>by refine .inr ?_;simp only[Vt,q_a,B8];cases ps[j]?<;>rfl
 | b::bs,[],j=> .inl rfl
 | b::bs,p::ps,j=>by
  cases j with
  | zero=>cases b with
   | true=>exact .inl rfl
   | false=>exact .inr rfl
  | succ j=>simpa[Vt] using zX bs ps j
def PFS.mask (bs:List Bool)(nL nT:Nat)(s:PFS):PFS:=⟨Vt bs s.pa,s.L.take nL,s.T.take nT,s.st⟩
def PFS.maskOK (bs:List Bool)(nL nT:Nat)(s:PFS):Prop:=(Vt bs s.pa).all (PV.lim nL nT)=true/\(s.L.take nL).all (fun o=>o.all (PV.lim nL nT))=true
theorem JH {L:Qf}{nL i:Nat}(h:(L.take nL).getD i []≠ []):i<nL/\(L.take nL).getD i []=L.getD i []:=by by_cases hi:i<nL;exact⟨hi,JX _ _ _ _ hi⟩;exfalso;apply h;rw[q_a,C2 (by simp;omega)];rfl
theorem Ir {E:Ent}{bs:List Bool}{nL nT:Nat}{s:PFS}(hm:s.maskOK bs nL nT):U0f E s (s.mask bs nL nT):=by
 intro a w g F h
 let F':Fr:=⟨min nL F.nl,F.lmu,F.tb⟩
 have hnl:=h.frame.nl;have h1: ∀i,i<F.nl->i<nL->i<F'.nl/\F'.lmu i=F.lmu i:=fun i a b=>⟨by simp only[F'];omega,rfl⟩;refine⟨g,F',h.ext,h.store,⟨by simp[F',PFS.mask,hnl],fun i hi=> ?_,fun i hi=> ?_,fun i j hi hj=> ?_,fun i hi=> ?_,fun k b hk hb=> ?_,fun k b hk hb=> ?_,fun k k' b hk hk'=> ?_⟩,h.defers,by simp only[PFS.mask];rw[KJ];exact h.len,fun t ht=> ?_⟩;have:=JH hi;simp only[PFS.mask] at hi;rw[this.2] at hi;exact h.frame.lo i hi;have:=JH hi;simp only[PFS.mask] at hi;rw[this.2] at hi;exact h.frame.apart i hi;have e1:=JH hi;have e2:=JH hj;simp only[PFS.mask] at hi hj;rw[e1.2] at hi;rw[e2.2] at hj;exact h.frame.inj i j hi hj;have e1:=JH hi;simp only[PFS.mask] at hi⊢;have hi':=hi;rw[e1.2] at hi⊢;intro j hj;obtain⟨q1,c,q2,q3⟩:=h.frame.holds i hi j hj;refine⟨q1,c,q2,q3.lim ?_ h1 rfl⟩;have hmem:s.L.getD i []∈s.L.take nL:=by rw[<-e1.2];apply Qq;apply EV;intro hle;apply hi';rw[q_a,C2 hle];rfl
 exact List.all_eq_true.1 (List.all_eq_true.1 hm.2 _ hmem) _ (Qq _ _ _ hj);simp only[PFS.mask,BX] at hk;exact h.frame.tlo k b oG hb;simp only[PFS.mask,BX] at hk;obtain⟨a1,a2⟩:=h.frame.tapart k b oG hb;refine⟨a1,fun i hi=> ?_⟩;have:=JH hi;simp only[PFS.mask] at hi;rw[this.2] at hi;exact a2 i hi;simp only[PFS.mask,BX] at hk hk';exact h.frame.tinj k k' b oG oG;simp only[PFS.mask] at ht⊢;rw[KJ] at ht;have hlim:=List.all_eq_true.1 hm.1 _ (Qq (Vt bs s.pa) t .junk (by rw[KJ];exact ht));rcases zX bs s.pa t with e | e;rw[e] at hlim⊢;exact(h.tmps t ht).lim hlim h1 rfl;rw[e];exact .base _ _ (.junk _)
theorem Qd {P:Program}{E:Ent}{c:Code}{Q:Exit->PFS->Prop}{s:PFS}(bs:List Bool)(nL nT:Nat)(I:Nat->PFS->Prop)(n:Nat)(h0:s.maskOK bs nL nT/\I n (s.mask bs nL nT))
 (round: ∀n s,I n s->VC P E c (We (fun s'=>s'.maskOK bs nL nT/\ ∃m,m<n/\I m (s'.mask bs nL nT)) Q) s):PWP P E (.loop c) Q s:=by
 refine J0c (fun n s=>s.maskOK bs nL nT/\I n (s.mask bs nL nT)) n h0 fun n s ⟨hm,hI⟩=> ?_;refine Xv (Ir hm) (HX (Qa (round n _ hI)) ?_);intro e s hq;cases e with
 | normal=>obtain⟨h1,m,h2,h3⟩:=hq;exact⟨m,h2,h1,h3⟩
 | _=>exact hq
@[go_sem] theorem V2d {bs:List Bool}{nL nT:Nat}{pa:List PV}{L st:Qf}{T:List (Nat×Nat)} :(PFS.mk pa L T st).mask bs nL nT=⟨Vt bs pa,L.take nL,T.take nT,st⟩:=(rfl)
@[go_sem] theorem w1d {bs:List Bool}{nL nT:Nat}{pa:List PV}{L st:Qf}{T:List (Nat×Nat)} :(PFS.mk pa L T st).maskOK bs nL nT=((Vt bs pa).all (PV.lim nL nT)=true/\(L.take nL).all (fun o=>o.all (PV.lim nL nT))=true):=(rfl)
@[go_sem] theorem V2e {bs:List Bool}{p:PV}{ps:List PV} :Vt (true::bs) (p::ps)=p::Vt bs ps:=(rfl)
@[go_sem] theorem V2f {bs:List Bool}{p:PV}{ps:List PV} :Vt (false::bs) (p::ps)= .junk::Vt bs ps:=(rfl)
@[go_sem] theorem Z2m :Vt [] []= []:=(rfl)
@[go_sem] theorem Z2n {p:PV}{ps:List PV} :Vt [] (p::ps)= .junk::Vt [] ps:=(rfl)
attribute [go_sem] PV.lim PV.lim1
def PV.frz1 (i:Nat)(cs:List PV):PV->PV
 | .lp k off=>if k=i then .ep cs off else .lp k off
 | .ms false k off len=>if k=i then(if off+len<=cs.length then .sl .no ((cs.drop off).take len) else .junk) else .ms false k off len
 | p=>p
def PV.frz (i:Nat)(cs:List PV):PV->PV
 | .agg l=> .agg (l.map (PV.frz1 i cs))
 | .tup l=> .tup (l.map (PV.frz1 i cs))
 | .fn f l m=> .fn f (l.map (PV.frz1 i cs)) (m.map (PV.frz1 i cs))
 | p=>p.frz1 i cs
def PFS.freeze (i:Nat)(s:PFS):PFS:=
 let cs:=(s.L.getD i []).map PV.forget2
 ⟨s.pa.map (PV.frz i cs),(s.L.map fun l=>l.map (PV.frz i cs)).set i [],s.T,s.st⟩
theorem QU {f:PV->PV}(h:f .junk= .junk)(l:List PV)(t:Nat):(l.map f).getD t .junk=f (l.getD t .junk):=by simp only[q_a,B8];cases l[t]?<;>simp[h]
theorem Jo {f:List PV->List PV}(h:f []= [])(l:Qf)(t:Nat):(l.map f).getD t []=f (l.getD t []):=by simp only[q_a,B8];cases l[t]?<;>simp[h]
theorem Xe (l:Qf)(i:Nat):(l.set i []).getD i []= []:=by simp only[q_a,List.getElem?_set,D6];split<;>rfl
section
variable {w:World} {g g':Gh} {F:Fr} {T:List (Nat×Nat)} {i:Nat} {cs:List PV}
structure Frozen (w:World) (g':Gh) (b:Nat) (cs:List PV):Prop where
 vis:cs.length<=g'.vis b
 one: ∀p∈cs,p.cells.length=1/\p.cells= [p]
 cf: ∃cf:Nat->Value,∀j,j<cs.length->w.cell? ⟨b,j,none⟩=some (cf j)/\Rep w g' (cf j) (cs.getD j .junk)
theorem RepF.frz1 {v:Value}{p:PV}(hm: ∀v p,RepF w g F T v p->RepF w g' F T v p)(hz:Frozen w g' (F.lmu i) cs)(h:RepF w g F T v p):RepF w g' F T v (p.frz1 i cs):=by
 obtain⟨cf,hcf⟩:=hz.cf;have h':=hm _ _ h;cases p with
 | lp k off=>
  simp only[PV.frz1];split;rename_i e;subst e;cases h' with
  | base _ _ h'=>cases h'
  | lp k off hi=>
   have:=Rep.ep (w:=w) (g:=g') cs off (F.lmu k) 0 cf (by simpa using hz.vis) (fun j hj=>by simpa using(hcf j hj).1) (fun j hj=>(hcf j hj).2);rw[CU] at this;exact .base _ _ this
  exact h'
 | ms gl k off len=>
  cases gl with
  | true=>exact h'
  | false=>
   simp only[PV.frz1];split;rename_i e;subst e;split;rename_i hle;cases h' with
   | base _ _ h'=>cases h'
   | lms k off len cap hi hcap=>
    have hl:((cs.drop off).take len).length=len:=by simp;omega
    have hg: ∀j,j<len->((cs.drop off).take len).getD j .junk=cs.getD (off+j) .junk:=fun j hj=>(by simp[q_a,EF,hj,DH]);have hone: ∀j,j<len->(cs.getD (off+j) .junk).cells= [cs.getD (off+j) .junk]:=fun j hj=>(hz.one _ (Qq _ _ _ oG)).2;have:=Rep.sl (w:=w) (g:=g') .no ((cs.drop off).take len) (F.lmu k) off 1 cap (fun a b=>cf (off+a)) rfl (fun h=>by cases h) oG
     (fun j hj=>by rw[hg j oG,hone j oG];rfl) (fun _=>by have:=hz.vis;omega)
     (fun j k' hj hk=>by have:k'=0:=oG;subst this;simpa using(hcf (off+j) oG).1)
     (fun j k' hj hk=>by have:k'=0:=oG;subst this;rw[hg j oG,hone j oG];simpa using(hcf (off+j) oG).2)
    rw[hl] at this;exact .base _ _ this
   exact .base _ _ (.junk _);exact h'
 | _=>exact h'
theorem RepF.frz {v:Value}{p:PV}(hm: ∀v p,RepF w g F T v p->RepF w g' F T v p)(hz:Frozen w g' (F.lmu i) cs)(h:RepF w g F T v p):RepF w g' F T v (p.frz i cs):=by
 have gm: ∀(l:List PV) (j:Nat),(l.map (PV.frz1 i cs)).getD j .junk=(l.getD j .junk).frz1 i cs:=fun l j=>QU rfl l j;cases p with
 | agg l=>
  cases h with
  | base _ _ h=>
   cases h with
   | agg vs cs' hl h=>exact .agg vs _ (by simpa using hl) fun j hj=>by rw[gm];exact RepF.frz1 hm hz (.base _ _ (h j (by simpa using hj)))
  | agg vs cs' hl h=>exact .agg vs _ (by simpa using hl) fun j hj=>by rw[gm];exact RepF.frz1 hm hz (h j (by simpa using hj))
 | tup l=>
  cases h with
  | base _ _ h=>
   cases h with
   | tup vs cs' hl h=>exact .tup vs _ (by simpa using hl) fun j hj=>by rw[gm];exact RepF.frz1 hm hz (.base _ _ (h j (by simpa using hj)))
  | tup vs cs' hl h=>exact .tup vs _ (by simpa using hl) fun j hj=>by rw[gm];exact RepF.frz1 hm hz (h j (by simpa using hj))
 | fn f l m=>
  cases h with
  | base _ _ h=>
   cases h with
   | fn f us vs bs cs' hk hl h0 h=>
    exact .fn f us vs _ _ (by simpa using hk) (by simpa using hl) (fun j hj=>by rw[gm];exact RepF.frz1 hm hz (.base _ _ (h0 j (by simpa using hj)))) fun j hj=>by rw[gm];exact RepF.frz1 hm hz (.base _ _ (h j (by simpa using hj)))
  | fn f us vs bs cs' hk hl h0 h=>
   exact .fn f us vs _ _ (by simpa using hk) (by simpa using hl) (fun j hj=>by rw[gm];exact RepF.frz1 hm hz (h0 j (by simpa using hj))) fun j hj=>by rw[gm];exact RepF.frz1 hm hz (h j (by simpa using hj))
 | _=>exact RepF.frz1 hm hz h
end
def PFS.freezeOK (i:Nat)(s:PFS):Prop:=(s.L.getD i []).all (fun p=>p.closed2&&(match p with | .agg _=>false | _=>true))=true
theorem qC {p:PV}(h:(match p with | .agg _=>false | _=>true)=true):p.forget2.cells= [p.forget2]:=by cases p<;>first | rfl | cases h
theorem Z0n (w:World)(g:Gh)(b n:Nat)(hb:b<w.heap.size\/n=0)(hz: ∀b,w.heap.size<=b->g.vis b=0):
 Chg w g w { g with vis:=fun c=>if c=b then max n (g.vis c) else g.vis c } (fun c=>c=b)/\ ∀c,w.heap.size<=c->(if c=b then max n (g.vis c) else g.vis c)=0:=by
 refine⟨⟨⟨BD _,fun _ _=>rfl,fun c=> ?_,fun c o v ho hc=>hc⟩,rfl,rfl,rfl,BD _,fun c hc hx=>⟨rfl,BA hx⟩,fun i h1 h2=>by simp at h2;omega⟩,fun c hc=> ?_⟩;simp only;split;exact Nat.le_max_right _ _;exact BD _;split;rename_i e;subst e;rcases hb with hb | hb;omega;rw[hb,hz c hc];rfl;exact hz c hc
theorem yr {E:Ent}{s:PFS}(i:Nat)(hi:s.freezeOK i):U0f E s (s.freeze i):=by
 intro a w g F h;by_cases hne:s.L.getD i []= []
 --a box without cells
 have hz:Frozen w g (F.lmu i) []:=⟨CX _,(fun p hp=>by cases hp),⟨fun _=>undef,fun j hj=>by simp at hj⟩⟩;have hf: ∀v p,RepF w g F s.T v p->RepF w g F s.T v (p.frz i []):=fun v p hp=>RepF.frz (fun _ _ h=>h) hz hp;have hL: ∀k,((s.L.map fun l=>l.map (PV.frz i [])).set i []).getD k []≠ []->s.L.getD k []≠ []/\((s.L.map fun l=>l.map (PV.frz i [])).set i []).getD k []=(s.L.getD k []).map (PV.frz i []):=fun k hk=>by
  by_cases hki:i=k;subst hki;exfalso;apply hk;exact Xe _ _;have e:((s.L.map fun l=>l.map (PV.frz i [])).set i []).getD k []=(s.L.getD k []).map (PV.frz i []):=by rw[<-Jo (f:=fun l=>l.map (PV.frz i [])) rfl];simp[q_a,DR hki]
  refine⟨fun e0=>hk (by rw[e,e0];rfl),e⟩
 have hcs:(s.L.getD i []).map PV.forget2= []:=by rw[hne];rfl
 refine⟨g,F,?_⟩;unfold PFS.freeze;rw[hcs];refine⟨h.ext,h.store,⟨by simp[h.frame.nl],fun k hk=>h.frame.lo k (hL k hk).1,fun k hk=>h.frame.apart k (hL k hk).1,fun k j hk hj=>h.frame.inj k j (hL k hk).1 (hL j hj).1,fun k hk=> ?_,h.frame.tlo,fun k b hk hb=>⟨(h.frame.tapart k b hk hb).1,fun j hj=>(h.frame.tapart k b hk hb).2 j (hL j hj).1⟩,h.frame.tinj⟩,h.defers,by simp[h.len],fun t ht=> ?_⟩;obtain⟨h1,h2⟩:=hL k hk;simp only at hk⊢;rw[h2];intro j hj;obtain⟨q1,c,q2,q3⟩:=h.frame.holds k h1 j (by simpa using hj);exact⟨q1,c,q2,by rw[QU (f:=PV.frz i []) rfl];exact hf _ _ q3⟩;simp only at ht⊢;rw[QU (f:=PV.frz i []) rfl];exact hf _ _ (h.tmps t (by simpa using ht))
 let cs:=(s.L.getD i []).map PV.forget2
 obtain⟨l1,l2,l3⟩:=h.frame.lo i hne;obtain⟨k1,k2⟩:=Z0n w g (F.lmu i) cs.length (.inl l2) h.store.none;have hall:=List.all_eq_true.1 hi
 --all but the box
 have hLe:=k1.le
 let g':Gh:= { g with vis:=fun c=>if c=F.lmu i then max cs.length (g.vis c) else g.vis c }
 have htok:GC w g F s.T w g' F s.T:=⟨BD _,fun k hk=>⟨BD _,fun _ v es hR=>hR.mono fun b hb=>⟨rfl,BA fun e=>(h.frame.tapart k b hk hb).2 i hne e.symm⟩⟩⟩;have hm: ∀v p,RepF w g F s.T v p->RepF w g' F s.T v p:=fun v p hr=>hr.mono hLe (BD _) (fun _ _=>rfl) htok;have hcell: ∀j,j<cs.length-> ∃c,w.cell? ⟨F.lmu i,j,none⟩=some c/\Rep w g' c (cs.getD j .junk):=fun j hj=>by have hj':j<(s.L.getD i []).length:=(by simpa[cs] using hj);obtain⟨q1,c,q2,q3⟩:=h.frame.holds i hne j hj';refine⟨c,q2,?_⟩;have e:cs.getD j .junk=((s.L.getD i []).getD j .junk).forget2:=QU (f:=PV.forget2) rfl _ _;rw[e];exact(hm _ _ q3).forget2 (CR.1 (hall _ (Qq _ _ _ hj'))).1
 have hz:Frozen w g' (F.lmu i) cs:=by refine⟨?_,fun p hp=> ?_,⟨fun j=>if h:j<cs.length then(hcell j h).choose else undef,fun j hj=> ?_⟩⟩;show cs.length<=(if F.lmu i=F.lmu i then max cs.length (g.vis (F.lmu i)) else _);rw[BC rfl];exact Nat.le_max_left _ _;simp only[cs,CF] at hp;obtain⟨q,hq,rfl⟩:=hp;have:=qC (CR.1 (hall _ hq)).2;exact⟨by rw[this];rfl,this⟩;simp only[dif_pos hj];exact(hcell j hj).choose_spec
 have hf: ∀v p,RepF w g F s.T v p->RepF w g' F s.T v (p.frz i cs):=fun v p hp=>RepF.frz hm hz hp;have hL: ∀k,((s.L.map fun l=>l.map (PV.frz i cs)).set i []).getD k []≠ []->k≠i/\s.L.getD k []≠ []/\((s.L.map fun l=>l.map (PV.frz i cs)).set i []).getD k []=(s.L.getD k []).map (PV.frz i cs):=fun k hk=>by
  by_cases hki:i=k;subst hki;exfalso;apply hk;exact Xe _ _;have e:((s.L.map fun l=>l.map (PV.frz i cs)).set i []).getD k []=(s.L.getD k []).map (PV.frz i cs):=by rw[<-Jo (f:=fun l=>l.map (PV.frz i cs)) rfl];simp[q_a,DR hki]
  exact⟨fun e=>hki e.symm,fun e0=>hk (by rw[e,e0];rfl),e⟩
 have hvis: ∀k,k≠i->s.L.getD k []≠ []->g'.vis (F.lmu k)=g.vis (F.lmu k):=fun k hk hk0=>BA fun e=>hk (h.frame.inj k i hk0 hne e);have hst:StoreOK w g' s.st:=by refine⟨h.store.n,h.store.inj,h.store.lt,fun j hj hj0=> ?_,fun j hj=> ?_,k2,h.store.tab.mono hLe⟩;have:g'.vis (g.mu j)=g.vis (g.mu j):=BA fun e=>h.frame.apart i hne j hj e;exact this.trans (h.store.vis j hj hj0);exact(h.store.holds j hj).mono rfl fun v p hr=>hr.mono hLe
 refine⟨g',F,⟨h.ext.step k1 (fun b hb=> .inl (by rw[hb];exact l1)),hst,⟨by simp[PFS.freeze,h.frame.nl],fun k hk=> ?_,fun k hk=> ?_,fun k j hk hj=> ?_,fun k hk=> ?_,h.frame.tlo,fun k b hk hb=>⟨(h.frame.tapart k b hk hb).1,fun j hj=> ?_⟩,h.frame.tinj⟩,h.defers,by simp[PFS.freeze,h.len],fun t ht=> ?_⟩⟩;obtain⟨h1,h2,h3⟩:=hL k hk;obtain⟨a1,a2,a3⟩:=h.frame.lo k h2;exact⟨a1,a2,(hvis k h1 h2).trans a3⟩;exact h.frame.apart k (hL k hk).2.1;exact h.frame.inj k j (hL k hk).2.1 (hL j hj).2.1;obtain⟨h1,h2,h3⟩:=hL k hk;simp only[PFS.freeze] at hk⊢;show Holds w _ _ (((s.L.map fun l=>l.map (PV.frz i cs)).set i []).getD k []);rw[h3];intro j hj;obtain⟨q1,c,q2,q3⟩:=h.frame.holds k h2 j (by simpa using hj);exact⟨q1,c,q2,by rw[QU (f:=PV.frz i cs) rfl];exact hf _ _ q3⟩;exact(h.frame.tapart k b hk hb).2 j (hL j hj).2.1;simp only[PFS.freeze] at ht⊢;show RepF w g' F s.T _ ((s.pa.map (PV.frz i cs)).getD t .junk);rw[QU (f:=PV.frz i cs) rfl];exact hf _ _ (h.tmps t (by simpa using ht))
@[go_sem] theorem w1q {i:Nat}{pa:List PV}{L st:Qf}{T:List (Nat×Nat)} :(PFS.mk pa L T st).freeze i=⟨pa.map (PV.frz i ((L.getD i []).map PV.forget2)),(L.map fun l=>l.map (PV.frz i ((L.getD i []).map PV.forget2))).set i [],T,st⟩:=(rfl)
def VN (l:List PV):Bool:=l.all fun p=>p.closed2&&(match p with | .agg _=>false | _=>true)
@[go_sem] theorem Z2r :VN []=true:=(rfl)
@[go_sem] theorem V2q {v:Value}{l:List PV} :VN (.sc v::l)=VN l:=by simp[VN,PV.closed2,PV.closed1]
@[go_sem] theorem V2r {es l:List PV} :VN (.sl .no es::l)=VN l:=by simp[VN,PV.closed2,PV.closed1]
@[go_sem] theorem w1p {es l:List PV} :VN (.sl .full es::l)=VN l:=by simp[VN,PV.closed2,PV.closed1]
@[go_sem] theorem Z2q {k:Nat}{es l:List PV} :VN (.sl (.own k) es::l)=VN l:=by simp[VN,PV.closed2,PV.closed1]
@[go_sem] theorem V2t {f:Fn}{bs cs l:List PV} :VN (.fn f bs cs::l)=(bs.all PV.closed1&&cs.all PV.closed1&&VN l):=by simp[VN,PV.closed2]
@[go_sem] theorem V2s {i o:Nat}{l:List PV} :VN (.gp i o::l)=VN l:=by simp[VN,PV.closed2,PV.closed1]
@[go_sem] theorem V2u {cs:List PV}{o:Nat}{l:List PV} :VN (.ep cs o::l)=VN l:=by simp[VN,PV.closed2,PV.closed1]
@[go_sem] theorem Q0x {i:Nat}{pa:List PV}{L st:Qf}{T:List (Nat×Nat)} :(PFS.mk pa L T st).freezeOK i=(VN (L.getD i [])=true):=(rfl)
attribute [go_sem] PV.frz PV.frz1
theorem QD {P:Program}{E:Ent}{c:Code}{Q:Exit->PFS->Prop}{s:PFS}(i:Nat)(hi:s.freezeOK i)(h:PWP P E c Q (s.freeze i)):PWP P E c Q s:=Xv (yr i hi) h
def Zr :Op->Bool
 | .move _ | .assign _ | .pick .. | .build .. | .buildSlice .. | .load .. | .nilCheck _ | .unOp .. | .convert .. | .fieldAddr .. | .field .. | .indexAddr .. | .index .. | .slice .. | .makeFunc .. | .extract .. =>true
 | .binOp _ _ _ (.const (.slice _ _ _)) _=>false
 | .binOp .. =>true
 | .call ⟨.builtin .len,_,_⟩ | .call ⟨.builtin .min,_,_⟩ | .call ⟨.builtin .max,_,_⟩=>true
 | _=>false
def K3 :Op->Bool
 | .load .. =>true
 | _=>false
def Req.q :Req->Bool
 | .val _ | .need _ _ | .newsl _ | .fail=>true
 | _=>false
def Req.lq :Req->Bool
 | .val _ | .need _ _ | .newsl _ | .fail | .load .. =>true
 | _=>false
theorem kZ {P:Program}{op:Op}{r:Operand->PV}(h:Zr op=true):Kh P op r=none:=by unfold Kh;split;cases h;cases h;rfl
theorem H5 {op:Op}{r:Operand->PV}(h:Zr op=true):ZU op r=none:=by unfold ZU;split;cases h;rfl
theorem v1m (c a b:PV):(IN c a b).q=true:=by unfold IN;split<;>rfl
theorem x1o (T:Option TI)(ps:List (Nat×PV)):(Uy T ps).q=true:=by unfold Uy;split<;>try split<;>rfl
                                                                 rfl
theorem yd (T:Option TI)(n:Nat)(ps:List (Nat×PV)):(XC T n ps).q=true:=by unfold XC;split<;>try split<;>rfl
                                                                         rfl
theorem q1l (T:Option TI)(x:PV):(Gi T x).lq=true:=by unfold Gi;split<;>rfl
theorem K2z (x:PV):(Q0b x).q=true:=by unfold Q0b;split<;>rfl
theorem G2o (op:UnOp)(x:PV):(G1e op x).q=true:=by unfold G1e;split<;>rfl
theorem y1s (S D:Option TI)(x:PV):(qQ S D x).q=true:=by unfold qQ;split;rfl;split;split<;>rfl;rfl;split;split<;>rfl;rfl;rfl;rfl
theorem Q0y (T:Option TI)(x:PV)(f:Nat):(Z6 T x f).q=true:=by unfold Z6;split;split;split;rfl;split<;>rfl;rfl;rfl
theorem z1e (T:Option TI)(x:PV)(f:Nat):(Us T x f).q=true:=by unfold Us;split;split;split;split<;>rfl;split<;>rfl;rfl;rfl
theorem Q0q (T:Option TI)(x i:PV):(Jd T x i).q=true:=by unfold Jd;split<;>rfl
theorem q1s (T:Option TI)(x i:PV):(Ue T x i).q=true:=by unfold Ue;split<;>rfl
theorem y0s (e:EI)(t:Tag)(es:List PV)(lo hi:Option PV):(Ya e t es lo hi).q=true:=by unfold Ya;split<;>rfl
theorem y0r (e:EI)(es:List PV)(lo hi:Option PV)(m:Int):(WZ e es lo hi m).q=true:=by unfold WZ;split<;>rfl
theorem y0p (s:ByteArray)(lo hi:Option PV):(WX s lo hi).q=true:=by unfold WX;split<;>rfl
theorem y0q (e:EI)(gl:Bool)(o off len:Nat)(lo hi:Option PV):(WY e gl o off len lo hi).q=true:=by unfold WY;split<;>rfl
theorem G1q (T:Option TI)(x:PV)(lo hi mx:Option PV):(YO T x lo hi mx).q=true:=by unfold YO;split;exact y0s _ _ _ _ _;exact y0r _ _ _ _ _;rfl;exact y0p _ _ _;exact y0q _ _ _ _ _ _ _;rfl
theorem J1g (op:BinOp)(k:IntKind)(a b:Int):(Jn op k a b).q=true:=by unfold Jn;split<;>rfl
theorem W2w (op:BinOp)(T:Option TI)(x y:PV):(ZE op T x y).q=true:=by
 unfold ZE;split;rfl;rfl;split;exact J1g _ _ _ _;rfl;rfl;rfl;rfl
 all_goals first | rfl | (split<;>rfl)
theorem V2g (T:Option TI)(x:PV):(W0z T x).q=true:=by unfold W0z;split<;>rfl
theorem X0w {P:Program}{op:Op}{ty:TypeId}{r:Operand->PV}(h:Zr op=true):(req P op ty r).lq=true/\(K3 op=false->(req P op ty r).q=true):=by
 have hq: ∀x:Req,x.q=true->x.lq=true:=fun x hx=>by cases x<;>first | rfl | cases hx
 have both: ∀x:Req,x.q=true->x.lq=true/\(K3 op=false->x.q=true):=fun x hx=>⟨hq x hx,fun _=>hx⟩;cases op
 case load t x=>exact⟨q1l _ _,fun h=>by cases h⟩
 case move=>exact both _ rfl
 case assign=>exact both _ rfl
 case pick=>exact both _ (v1m _ _ _)
 case build=>exact both _ (x1o _ _)
 case buildSlice=>exact both _ (yd _ _ _)
 case nilCheck=>exact both _ (K2z _)
 case unOp=>exact both _ (G2o _ _)
 case convert=>exact both _ (y1s _ _ _)
 case fieldAddr=>exact both _ (Q0y _ _ _)
 case field=>exact both _ (z1e _ _ _)
 case indexAddr=>exact both _ (Q0q _ _ _)
 case index=>exact both _ (q1s _ _ _)
 case slice=>exact both _ (G1q _ _ _ _ _)
 case makeFunc=>exact both _ rfl
 case binOp=>exact both _ (W2w _ _ _ _)
 case extract x i=>
  refine both _ ?_;show(Req.q (match r x with | .tup vs=>if i<vs.length then Req.val (vs.getD i .junk) else .fail | _=> .fail))=true;split;split<;>rfl;rfl
 case call c=>
  obtain⟨cal,as,ts⟩:=c;cases cal with
  | value f=>cases h
  | invoke a b=>cases h
  | builtin b=>
   refine both _ ?_;show Req.q (K9 P b ts.toList (as.toList.map r))=true;unfold K9;split;exact V2g _ _;cases h;cases h;split<;>rfl;split<;>rfl;rfl
 all_goals cases h
theorem W1v {r:Req}{s s' s1:PFS}{v:PV}(h:r.lq=true)(hr:r.run s=some (v,s1)):s1=s:=by
 cases r with
 | val x=>cases hr;rfl
 | need c x=>simp only[Req.run] at hr;split at hr<;>cases hr;rfl
 | newsl es=>cases hr;rfl
 | fail=>cases hr
 | load gl i off n agg=>
  simp only[Req.run] at hr;by_cases hc:off+n<=((if gl then s.st else s.L).getD i []).length;rw[BC hc] at hr;cases hr;rfl;rw[BA hc] at hr;cases hr
 | _=>cases h
theorem y0z {r:Req}{s s':PFS}{v:PV}(h:r.lq=true)(hs:r.q=true\/(s.L=s'.L/\s.st=s'.st))(hr:r.run s=some (v,s)):r.run s'=some (v,s'):=by
 cases r with
 | val x=>cases hr;rfl
 | need c x=>simp only[Req.run] at hr⊢;split at hr<;>simp_all
 | newsl es=>cases hr;rfl
 | fail=>cases hr
 | load gl i off n agg=>
  rcases hs with hs | ⟨h1,h2⟩;cases hs;simp only[Req.run] at hr⊢;rw[<-h1,<-h2];split at hr<;>simp_all
 | _=>cases h
theorem K1l {s s':PFS}{x:Operand}(h: ∀t,x= .tmp t->s.pa.getD t .junk=s'.pa.getD t .junk):s.ev x=s'.ev x:=by
 cases x with
 | tmp t=>exact h t rfl
 | _=>rfl
theorem kU {P:Program}{op:Op}{ty:TypeId}{r r':Operand->PV}(h: ∀x∈op.operands,r x=r' x):req P op ty r=req P op ty r':=by
 have pairs: ∀ps:Array (Nat×Operand),(∀x∈ps.map (·.2),r x=r' x)->(ps.toList.map fun x=>(x.1,r x.2))=(ps.toList.map fun x=>(x.1,r' x.2)):=fun ps hp=>
  C4 fun p hm=>by obtain⟨i,x⟩:=p;simp only[hp x (Array.mem_map.2 ⟨(i,x),Array.mem_def.2 hm,rfl⟩)]
 have lst: ∀ps:Array Operand,(∀x∈ps,r x=r' x)->ps.toList.map r=ps.toList.map r':=fun ps hp=>C4 fun p hm=>hp p (Array.mem_def.2 hm);cases op<;>simp only[Op.operands] at h<;>simp only[req]
 case build t ps=>rw[pairs ps fun x hx=>h x (by simpa using hx)]
 case buildSlice t n ps=>rw[pairs ps fun x hx=>h x (by simpa using hx)]
 case makeFunc fn first captured=>rw[lst first fun x hx=>h x (by simp[hx]),lst captured fun x hx=>h x (by simp[hx])]
 case call c=>
  obtain⟨cal,as,ts⟩:=c;cases cal with
  | builtin b=>simp only[req];rw[lst as fun x hx=>h x (by simp[Call.operands,hx])]
  | _=>rfl
 case slice t x lo hi mx=>cases lo<;>cases hi<;>cases mx<;>simp_all
 all_goals (first | rfl | (simp_all;done))
theorem vv {P:Program}{op:Op}{r r':Operand->PV}(h: ∀x∈op.operands,r x=r' x):Kh P op r=Kh P op r':=by unfold Kh;split;rw[h _ (by simp[Op.operands])];rw[h _ (by simp[Op.operands])];rfl
theorem zx {op:Op}{r r':Operand->PV}(h: ∀x∈op.operands,r x=r' x):ZU op r=ZU op r':=by unfold ZU;split;rename_i f args ts;have e1:args.toList.map r=args.toList.map r':=C4 fun p hm=>h p (by simp[Op.operands,Call.operands,Array.mem_def,hm]);rw[h f (by simp[Op.operands,Call.operands]),e1];rfl
theorem X1y {ops:Array Oper}{o:Oper}{t:Tmp}(h:Operand.tmp t∈o.op.operands):t∈o.looksAt ops:=
 List.mem_append_left _ (List.mem_filterMap.2 ⟨.tmp t,by simpa using h,rfl⟩)
theorem qF {ops:Array Oper}{o:Oper}{s s':PFS}(h: ∀d∈o.looksAt ops,s.pa.getD d .junk=s'.pa.getD d .junk): ∀x∈o.op.operands,s.ev x=s'.ev x:=
 fun x hx=>K1l fun t ht=>h t (X1y (ht▸hx))
theorem YH {ops:Array Oper}{o:Oper}{s s':PFS}{j:Nat}{want:Bool}(hg:o.guard=some (j,want))(h: ∀d∈o.looksAt ops,s.pa.getD d .junk=s'.pa.getD d .junk):Zn ops.toList s j want=Zn ops.toList s' j want:=by unfold Zn;split;rename_i oj hj;split;rename_i d hd;rw[h d];refine List.mem_append_right _ ?_;simp only[hg];have:ops[j]?=some oj:=(by simpa using hj);simp[this,hd];rfl;rfl
theorem ZH {s:PFS}{dst:Option Tmp}{v:PV}{d:Tmp}(h:dst≠some d):(s.put dst v).pa.getD d .junk=s.pa.getD d .junk:=by
 cases dst with
 | none=>rfl
 | some e=>
  have:e≠d:=fun x=>h (by rw[x]);simp[PFS.put,q_a,DR this]
theorem IJ {s:PFS}{v:PV}{d:Tmp}(h:d<s.pa.length):(s.put (some d) v).pa.getD d .junk=v:=by simp[PFS.put,q_a,h]
theorem Yi {s:PFS}{x y:Option Tmp}(v u:PV)(h: ∀d,x=some d->y≠some d):(s.put x v).put y u=(s.put y u).put x v:=by
 cases x with
 | none=>rfl
 | some d=>cases y with
  | none=>rfl
  | some e=>
   have hne:d≠e:=fun he=>h d rfl (he▸rfl);simp[PFS.put,List.set_comm _ _ hne]
theorem Jy (s:PFS)(x:Option Tmp)(v:PV):(s.put x v).L=s.L/\(s.put x v).T=s.T/\(s.put x v).st=s.st/\(s.put x v).pa.length=s.pa.length:=by cases x<;>simp[PFS.put]
theorem W0b (r:Req)(s:PFS)(v:PV)(x:Option Tmp):r.run (s.put x v)=(r.run s).map fun q=>(q.1,q.2.put x v):=by
 cases x with
 | none=>show r.run s=_;cases r.run s<;>rfl
 | some d=>
  cases r with
  | val w=>rfl
  | newsl es=>rfl
  | fail=>rfl
  | box cs=>rfl
  | mks cs len=>rfl
  | need c w=>cases c<;>rfl
  | load gl i off n agg=>
   cases gl;by_cases hc:off+n<=(s.L.getD i []).length<;>simp only[Req.run,PFS.put,B3,DT,hc,D6]<;>rfl;by_cases hc:off+n<=(s.st.getD i []).length<;>simp only[Req.run,PFS.put,DT,hc,D6]<;>rfl
  | store gl i off cs=>
   cases gl;by_cases hc:off+cs.length<=(s.L.getD i []).length/\0<(s.L.getD i []).length<;>simp only[Req.run,PFS.put,B3,DT,hc,D6]<;>rfl;by_cases hc:off+cs.length<=(s.st.getD i []).length/\0<(s.st.getD i []).length<;>simp only[Req.run,PFS.put,DT,hc,D6]<;>rfl
  | app t es ys e=>
   by_cases hc:(e.zok=true/\es.length+ys.length<=1152921504606846976/\(es.length+ys.length)*e.by_<=140737488355328/\
    es.all (fun x=>x.cells.length==e.sz)=true/\ys.all (fun x=>(x.cells.length==e.sz)&&x.cells.all PV.cellOK)=true)
   cases t with
   | own k=>by_cases hT:s.T.getD k (0,0)=(es.length,e.sz)<;>simp only[Req.run,PFS.put,hc,hT,D6,DT,and_self]<;>rfl
   | full=>
    by_cases hT:es.length=0\/0<ys.length;simp only[Req.run,PFS.put,BC hc,BC hT]<;>rfl;simp only[Req.run,PFS.put,BC hc,BA hT]<;>rfl
   | _=>simp only[Req.run,PFS.put,hc,D6,and_self]<;>rfl
   simp only[Req.run,PFS.put,hc,DT]<;>rfl
theorem G1v {r:Req}{s s1:PFS}{v p:PV}{x:Option Tmp}(h:r.run (s.put x v)=some (p,s1)): ∃s2,r.run s=some (p,s2)/\s1=s2.put x v:=by
 rw[W0b] at h;cases hr:r.run s with
 | none=>rw[hr] at h;cases h
 | some q=>rw[hr] at h;cases h;exact⟨_,rfl,rfl⟩
theorem v1a {r:Req}{s s1:PFS}{p:PV}(h:r.run s=some (p,s1)):s1.pa=s.pa:=by
 cases r with
 | val w=>cases h;rfl
 | newsl es=>cases h;rfl
 | fail=>cases h
 | box cs=>cases h;rfl
 | mks cs len=>cases h;rfl
 | need c w=>simp only[Req.run] at h;split at h<;>cases h;rfl
 | load gl i off n agg=>
  simp only[Req.run] at h;by_cases hc:off+n<=((if gl then s.st else s.L).getD i []).length;rw[BC hc] at h;cases h;rfl;rw[BA hc] at h;cases h
 | store gl i off cs=>
  simp only[Req.run] at h;by_cases hc:off+cs.length<=((if gl then s.st else s.L).getD i []).length/\0<((if gl then s.st else s.L).getD i []).length;rw[BC hc] at h;cases gl<;>cases h<;>rfl;rw[BA hc] at h;cases h
 | app t es ys e=>
  simp only[Req.run] at h;split at h;cases t with
  | own k=>
   simp only at h;by_cases hT:s.T.getD k (0,0)=(es.length,e.sz);rw[BC hT] at h;cases h;rfl;rw[BA hT] at h;cases h
  | full=>
   simp only at h;by_cases hT:es.length=0\/0<ys.length;rw[BC hT] at h;cases h;rfl;rw[BA hT] at h;cases h
  | _=>cases h
  cases h
theorem Q1k {s:PFS}{x y:Option Tmp}{v r:PV}{st:Qf}(h: ∀d,x=some d->y≠some d):(s.put x v).recv y r st=(s.recv y r st).put x v:=by
 have e: ∀T',({ s.put x v with st:=st,T:=T' } :PFS)=({ s with st:=st,T:=T' } :PFS).put x v:=fun T'=>by cases x<;>rfl
 have e2:({ s.put x v with st:=st } :PFS)=({ s with st:=st } :PFS).put x v:=by cases x<;>rfl
 have eT:(s.put x v).T=s.T:=(Jy s x v).2.1;unfold PFS.recv;split;simp only[eT,e];exact Yi _ _ h;rw[e2];exact Yi _ _ h
theorem G1x {s:PFS}{y:Option Tmp}{r:PV}{st:Qf} : ∃u,(s.recv y r st).pa=(s.put y u).pa:=by unfold PFS.recv;split;exact⟨_,by cases y<;>rfl⟩;exact⟨_,by cases y<;>rfl⟩
section
variable {P:Program} {ops:Array Oper} {o:Oper} {K K':PFS->Prop} {s:PFS}
theorem w0i (h:PO P o K s)(hk: ∀s,K s->K' s):PO P o K' s:=by unfold PO at h⊢;split;rename_i hn;rw[hn] at h;exact fun b hb=>hk _ (h b hb);rename_i hn;rw[hn] at h;simp only at h;split;rename_i hc;rw[hc] at h;exact⟨h.1,h.2.mono fun r st q=>hk _ q⟩;rename_i hc;rw[hc] at h;simp only at h;split;rename_i hs;rw[hs] at h;exact hk _ h;rename_i hs;rw[hs] at h;exact h
theorem U1j {dst:Option Tmp}{v:PV}(h1: ∀d,dst=some d->d∉o.looksAt ops)(h2: ∀d,dst=some d->o.dst≠some d)(h:PO P o K (s.put dst v)):PO P o (fun s'=>K (s'.put dst v)) s:=by
 have he: ∀x∈o.op.operands,(s.put dst v).ev x=s.ev x:=qF (ops:=ops) fun d hd=>ZH fun e=>h1 d e hd;unfold PO at h⊢;rw[vv he,zx he] at h;split;rename_i hn;rw[hn] at h;intro b hb;have:=h b hb;rw[Yi _ _ h2] at this;exact this;rename_i hn;rw[hn] at h;simp only at h;split;rename_i hc;rw[hc] at h;refine⟨h.1,?_⟩;have:=h.2;rw[(Jy s dst v).2.2.1] at this;exact this.mono fun r st q=>(by rw[Q1k h2] at q;exact q);rename_i hc;rw[hc] at h;simp only[HF,kU he] at h;unfold HF;cases hr:(req P o.op o.type s.ev).run (s.put dst v) with
 | none=>rw[hr] at h;exact h.elim
 | some x=>
  obtain⟨p,s1⟩:=x;rw[hr] at h;obtain⟨s2,hs2,rfl⟩:=G1v hr;rw[hs2];simp only at h⊢;rw[Yi _ _ h2] at h;exact h
theorem Q2l (h:PO P o K s):PO P o (fun s'=>K s'/\ ∃u,s'.pa=(s.put o.dst u).pa) s:=by
 unfold PO at h⊢;split;rename_i hn;rw[hn] at h;exact fun b hb=>⟨h b hb,_,rfl⟩;rename_i hn;rw[hn] at h;simp only at h;split;rename_i hc;rw[hc] at h;exact⟨h.1,h.2.mono fun r st q=>⟨q,G1x⟩⟩;rename_i hc;rw[hc] at h;simp only at h;unfold HF at h⊢;cases hr:(req P o.op o.type s.ev).run s with
 | none=>rw[hr] at h;exact h.elim
 | some x=>
  obtain⟨p,s1⟩:=x;rw[hr] at h;refine⟨h,p,?_⟩;have:=v1a hr;cases hd:o.dst with
  | none=>exact this
  | some d=>simp only[PFS.put,this]
theorem K0z (hq:Zr o.op=true)(h:PO P o K s): ∃u,(req P o.op o.type s.ev).run s=some (u,s)/\K (s.put o.dst u):=by
 unfold PO at h;rw[kZ hq,H5 hq] at h;simp only[HF] at h;cases hr:(req P o.op o.type s.ev).run s with
 | none=>rw[hr] at h;exact h.elim
 | some x=>
  obtain⟨p,s1⟩:=x;rw[hr] at h;have:=W1v (s':=s) (X0w hq).1 hr;subst this;exact⟨p,rfl,h⟩
theorem J0a (hq:Zr o.op=true){u:PV}(h1:(req P o.op o.type s.ev).run s=some (u,s))(h2:K (s.put o.dst u)):PO P o K s:=by unfold PO;rw[kZ hq,H5 hq];simp only[HF,h1];exact h2
def POg (P:Program)(ops:Array Oper)(o:Oper)(K:PFS->Prop)(s:PFS):Prop:=
 match o.guard with
 | none=>PO P o K s
 | some (j,want)=>match Zn ops.toList s j want with
  | some b=>if b=want then PO P o K s else K (s.put o.dst (.tup []))
  | none=>False
def POp (P:Program)(ops:Array Oper)(i:Nat)(K:PFS->Prop)(s:PFS):Prop:=
 match ops[i]? with
 | none=>False
 | some o=>POg P ops o K s
def QY (P:Program)(ops:Array Oper)(o:Oper)(v:PV)(s:PFS):Prop:=
 match o.guard with
 | none=>(req P o.op o.type s.ev).run s=some (v,s)
 | some (j,want)=>match Zn ops.toList s j want with
  | some b=>if b=want then(req P o.op o.type s.ev).run s=some (v,s) else v= .tup []
  | none=>False
theorem Ip (h:POg P ops o K s)(hk: ∀s,K s->K' s):POg P ops o K' s:=by unfold POg at h⊢;split;rename_i hg;rw[hg] at h;exact w0i h hk;rename_i hg;rw[hg] at h;simp only at h;split;rename_i hb;rw[hb] at h;simp only at h;split;rename_i e;rw[BC e] at h;exact w0i h hk;rename_i e;rw[BA e] at h;exact hk _ h;rename_i hb;rw[hb] at h;exact h
theorem w0f {dst:Option Tmp}{v:PV}(h1: ∀d,dst=some d->d∉o.looksAt ops)(h2: ∀d,dst=some d->o.dst≠some d)(h:POg P ops o K (s.put dst v)):POg P ops o (fun s'=>K (s'.put dst v)) s:=by unfold POg at h⊢;split;rename_i hg;rw[hg] at h;exact U1j h1 h2 h;rename_i j want hg;rw[hg] at h;simp only at h;rw[YH (s':=s) hg fun d hd=>ZH fun e=>h1 d e hd] at h;split;rename_i hb;rw[hb] at h;simp only at h;split;rename_i e;rw[BC e] at h;exact U1j h1 h2 h;rename_i e;rw[BA e] at h;rw[Yi _ _ h2] at h;exact h;rename_i hb;rw[hb] at h;exact h
theorem w0g (h:POg P ops o K s):POg P ops o (fun s'=>K s'/\ ∃u,s'.pa=(s.put o.dst u).pa) s:=by unfold POg at h⊢;split;rename_i hg;rw[hg] at h;exact Q2l h;rename_i hg;rw[hg] at h;simp only at h;split;rename_i hb;rw[hb] at h;simp only at h;split;rename_i e;rw[BC e] at h;exact Q2l h;rename_i e;rw[BA e] at h;exact⟨h,_,rfl⟩;rename_i hb;rw[hb] at h;exact h
theorem ze (hq:Zr o.op=true)(h:POg P ops o K s): ∃u,QY P ops o u s/\K (s.put o.dst u):=by unfold POg at h;unfold QY;split at h;rename_i hg;obtain⟨u,h1,h2⟩:=K0z hq h;exact⟨u,by first | exact h1 | (simp only[hg];exact h1),h2⟩;rename_i j want hg;split at h;rename_i b hb;split at h;rename_i e;obtain⟨u,h1,h2⟩:=K0z hq h;exact⟨u,by simp only[hg,hb,BC e];exact h1,h2⟩;rename_i e;exact⟨.tup [],by simp only[hg,hb,BA e],h⟩;exact h.elim
theorem IF (hq:Zr o.op=true){u:PV}(h1:QY P ops o u s)(h2:K (s.put o.dst u)):POg P ops o K s:=by unfold POg;unfold QY at h1;split;rename_i hg;rw[hg] at h1;exact J0a hq h1 h2;rename_i j want hg;rw[hg] at h1;simp only at h1;split;rename_i b hb;rw[hb] at h1;simp only at h1;split;rename_i e;rw[BC e] at h1;exact J0a hq h1 h2;rename_i e;rw[BA e] at h1;subst h1;exact h2;rename_i hb;rw[hb] at h1;exact h1
theorem WU {s':PFS}{v:PV}(hq:Zr o.op=true)(hpa: ∀d∈o.looksAt ops,s.pa.getD d .junk=s'.pa.getD d .junk)(hs:K3 o.op=false\/(s.L=s'.L/\s.st=s'.st))(h:QY P ops o v s):QY P ops o v s':=by
 have run:(req P o.op o.type s.ev).run s=some (v,s)->(req P o.op o.type s'.ev).run s'=some (v,s'):=fun hr=>by have e:req P o.op o.type s'.ev=req P o.op o.type s.ev:=(kU (qF hpa)).symm;rw[e];exact y0z (X0w hq).1 (hs.imp (X0w hq).2 id) hr
 unfold QY at h⊢;split;rename_i hg;rw[hg] at h;exact run h;rename_i j want hg;rw[hg] at h;simp only at h;rw[YH hg hpa] at h;split;rename_i b hb;rw[hb] at h;simp only at h;split;rename_i e;rw[BC e] at h;exact run h;rename_i e;rw[BA e] at h;exact h;rename_i hb;rw[hb] at h;exact h
end
def zP (ops:Array Oper)(i:Nat):Nat->Nat->Bool
 | 0,_=>false
 | f+1,j=>match ops[j]? with
  | some o=>o.after.any fun e=>Region.binds .any e&&(e.on==i||zP ops i f e.on)
  | none=>false
def kY (ops:Array Oper)(i j:Nat):Bool:=zP ops i 3 j
def j1h (P:Program)(ops:Array Oper)(o:Oper)(s:PFS):Prop:= ∀d,o.dst=some d->QY P ops o (s.pa.getD d .junk) s
def Xu (P:Program)(ops:Array Oper)(listed:Array Bool)(j:Nat)(s:PFS):Prop:=
 ∀i o,listed.getD i false=true->ops[i]?=some o->Zr o.op=true->K3 o.op=true->kY ops i j=false->j1h P ops o s
def JW (ops:Array Oper)(j:Nat):Bool:=match ops[j]? with | some o=> !Zr o.op | none=>false
def Z0z (P:Program)(ops:Array Oper)(K:PFS->Prop):Nat->Array Bool->PFS->Prop
 | 0,listed,s=>Region.ready .any ops listed= []/\K s
 | fuel+1,listed,s=>
  (Region.ready .any ops listed= []->K s)/\
  ∀i∈Region.ready .any ops listed,POp P ops i (fun s'=>(JW ops i=true->Xu P ops listed i s')/\Z0z P ops K fuel (listed.setIfInBounds i true) s') s
section
variable {P:Program} {ops:Array Oper} {K:PFS->Prop}
def Wc (ops:Array Oper)(listed:Array Bool):Prop:= ∀k ok e,ops[k]?=some ok->listed.getD k false=true->e∈ok.after->Region.binds .any e=true->listed.getD e.on false=true
theorem UT {listed:Array Bool}(hc:Wc ops listed){i:Nat} : ∀f j oj,ops[j]?=some oj->(∀e∈oj.after,Region.binds .any e=true->listed.getD e.on false=true)->zP ops i f j=true->listed.getD i false=true
 | 0,j,oj,h,hp,hr=>by cases hr
 | f+1,j,oj,h,hp,hr=>by
  simp only[zP,h] at hr;obtain⟨e,he,hb⟩:=Array.any_eq_true'.1 hr;simp only[q_i,DF,FQ] at hb;obtain⟨h1,h2⟩:=hb;have hl:=hp e he h1;rcases h2 with h2 | h2;rw[<-h2];exact hl;cases hoe:ops[e.on]? with
  | none=>cases f with
   | zero=>cases h2
   | succ f=>simp only[zP,hoe] at h2;cases h2
  | some oe=>exact UT hc f e.on oe hoe (fun e' he' hb'=>hc e.on oe e' hoe hl he' hb') h2
theorem Q0v {listed:Array Bool}{i:Nat}(h:listed.getD i true=false):listed.getD i false=false:=by rcases Nat.lt_or_ge i listed.size with h' | h';simpa[h'] using h;simp[F0 h'] at h
theorem Yy {listed:Array Bool}{j:Nat}(hc:Wc ops listed)(hj:j∈Region.ready .any ops listed):Wc ops (listed.setIfInBounds j true):=by intro k ok e hk hl he hb;obtain⟨h0,oj,hoj,hall⟩:=mem_ready.1 hj;by_cases hkj:j=k;subst hkj;rw[hoj] at hk;cases hk;exact getD_set_true (hall e he hb);rw[getD_set_ne false hkj] at hl;exact getD_set_true (hc k ok e hk hl he hb)
theorem Wu {listed:Array Bool}{i j:Nat}(hc:Wc ops listed)(hj:j∈Region.ready .any ops listed)(hi:listed.getD i true=false):kY ops i j=false:=by
 obtain⟨h0,oj,hoj,hall⟩:=mem_ready.1 hj;cases hr:kY ops i j with
 | false=>rfl
 | true=>
  have:=UT hc 3 j oj hoj hall hr;rw[Q0v hi] at this;cases this
theorem W0p {N i:Nat}{oi:Oper}{di:Tmp}{v:PV}(hi:ops[i]?=some oi)(hq:Zr oi.op=true)(hdi:oi.dst=some di)(hown:di∉oi.looksAt ops)(hN:di<N):
 ∀(fuel:Nat) (listed:Array Bool) (s:PFS),N<=s.pa.length->Wc ops listed->
  (∀j oj,ops[j]?=some oj->j≠i->listed.getD j true=false->kY ops i j=false->oi.apart ops oj=true)->
  (∀k ok,ops[k]?=some ok->listed.getD k false=true->K3 ok.op=true->di∉ok.looksAt ops/\ok.dst≠some di)->
  i∈Region.ready .any ops listed->QY P ops oi v s->
  Z0z P ops K fuel (listed.setIfInBounds i true) (s.put oi.dst v)->Z0z P ops K (fuel+1) listed s:=by
 have self: ∀(fuel:Nat) (listed:Array Bool) (s:PFS),QY P ops oi v s->Z0z P ops K fuel (listed.setIfInBounds i true) (s.put oi.dst v)->
  POp P ops i (fun s'=>(JW ops i=true->Xu P ops listed i s')/\Z0z P ops K fuel (listed.setIfInBounds i true) s') s:=by
  intro fuel listed s hy H;unfold POp;rw[hi];exact IF hq hy ⟨fun he=>by simp[JW,hi,hq] at he,H⟩
 intro fuel
 induction fuel with
 | zero=>
  intro listed s hl hc h1 h2 hr hy H;refine⟨fun h=>(by rw[h] at hr;cases hr),fun j hj=> ?_⟩;by_cases hji:j=i;subst hji;exact self 0 listed s hy H;have:=ready_mono hj hji;rw[H.1] at this;cases this
 | succ fuel ih=>
  intro listed s hl hc h1 h2 hr hy H;refine⟨fun h=>(by rw[h] at hr;cases hr),fun j hj=> ?_⟩;by_cases hji:j=i;subst hji;exact self _ listed s hy H;have hp:=H.2 j (ready_mono hj hji);obtain⟨hjun,oj,hoj,hall⟩:=mem_ready.1 hj;have hiun:=(mem_ready.1 hr).1;have hnr:=Wu hc hj hiun;obtain⟨a1,a2,a3⟩:=Oper.apart_spec (h1 j oj hoj hji hjun hnr);unfold POp at hp⊢;rw[hoj] at hp⊢;simp only at hp⊢;have hp':=w0g (w0f a1 a2 hp);have key: ∀s'':PFS,(∃u,s''.pa=(s.put oj.dst u).pa)->(Zr oj.op=true->s''.L=s.L/\s''.st=s.st)->
   ((JW ops j=true->Xu P ops (listed.setIfInBounds i true) j (s''.put oi.dst v))/\Z0z P ops K fuel ((listed.setIfInBounds i true).setIfInBounds j true) (s''.put oi.dst v))->
   (JW ops j=true->Xu P ops listed j s'')/\Z0z P ops K (fuel+1) (listed.setIfInBounds j true) s'':=by
   rintro s'' ⟨u,hpa⟩ hqs ⟨hw,hrest⟩;have hlen:s''.pa.length=s.pa.length:=(by rw[hpa];exact(Jy s oj.dst u).2.2.2);have hsame: ∀d∈oi.looksAt ops,s.pa.getD d .junk=s''.pa.getD d .junk:=fun d hd=>by rw[hpa];exact(ZH fun e=>a3 d e hd).symm
   have hown': ∀d∈oi.looksAt ops,(s''.put oi.dst v).pa.getD d .junk=s''.pa.getD d .junk:=fun d hd=>ZH fun e=>by rw[hdi] at e;cases e;exact hown hd
   have hil:(listed.setIfInBounds i true).getD i false=true:=by
    have hlt:i<listed.size:=by rcases Nat.lt_or_ge i listed.size with h' | h';exact h';simp[F0 h'] at hiun
    simp[hlt]
   have hy':QY P ops oi v s'':=by
    cases hlo:K3 oi.op with
    | false=>exact WU hq hsame (.inl hlo) hy
    | true=>
     cases hqj:Zr oj.op with
     | true=>obtain⟨e1,e2⟩:=hqs hqj;exact WU hq hsame (.inr ⟨e1.symm,e2.symm⟩) hy
     | false=>
      have heff:JW ops j=true:=(by simp[JW,hoj,hqj]);have:=hw heff i oi hil hi hq hlo hnr di hdi;have e:(s''.put oi.dst v).pa.getD di .junk=v:=by rw[hdi];exact IJ (by rw[hlen];exact q_e hN hl)
      rw[e] at this;exact WU hq hown' (.inr ⟨(Jy s'' oi.dst v).1,(Jy s'' oi.dst v).2.2.1⟩) this
   refine⟨fun heff k ok hk hok hkq hkl hkr d hd=> ?_,?_⟩;obtain⟨b1,b2⟩:=h2 k ok hok hk hkl;have:=hw heff k ok (getD_set_true hk) hok hkq hkl hkr d hd;have e:(s''.put oi.dst v).pa.getD d .junk=s''.pa.getD d .junk:=ZH fun e=>by rw[hdi] at e;cases e;exact b2 hd
   rw[e] at this;exact WU hkq (fun x hx=>ZH fun e=>by rw[hdi] at e;cases e;exact b1 hx) (.inr ⟨(Jy s'' oi.dst v).1,(Jy s'' oi.dst v).2.2.1⟩) this;refine ih (listed.setIfInBounds j true) s'' oG (Yy hc hj) (fun k ok hk hki hun hno=> ?_) (fun k ok hk hkl hlo=> ?_) (ready_mono hr (Ne.symm hji)) hy' ?_;refine h1 k ok hk hki ?_ hno;by_cases hjk:j=k;subst hjk;exact hjun;rw[getD_set_ne true hjk] at hun;exact hun;by_cases hjk:j=k;subst hjk;rw[hoj] at hk;cases hk;exact⟨a1 di hdi,fun e=>a2 di hdi e⟩;rw[getD_set_ne false hjk] at hkl;exact h2 k ok hk hkl hlo;rw[Array.setIfInBounds_comm _ _ hji];exact hrest
  cases hqj:Zr oj.op with
  | true=>
   obtain⟨u,q1,q2,q3⟩:=ze hqj hp';exact IF hqj q1 (key _ ⟨u,rfl⟩ (fun _=>⟨(Jy s oj.dst u).1,(Jy s oj.dst u).2.2.1⟩) q2)
  | false=>exact Ip hp' fun s'' ⟨q2,q3⟩=>key s'' q3 (fun h=>by rw[hqj] at h;cases h) q2
inductive Plan where
 | done
 | step (i:Nat) (ws:List Nat) (rest:Plan)
 | alt (a b:Plan)
def Plan.heads :Plan->List Nat
 | .done=> []
 | .step i _ _=> [i]
 | .alt a b=>a.heads++b.heads
def J1z (ops:Array Oper)(N:Nat)(listed:Array Bool)(i:Nat):Bool:=
 match ops[i]? with
 | none=>false
 | some oi=>match oi.dst with
  | none=>false
  | some di=>Zr oi.op&& !(oi.looksAt ops).contains di&&decide (di<N)&&
   (List.range ops.size).all fun j=>j==i||match ops[j]? with
    | none=>true
    | some oj=>
     (listed.getD j true||kY ops i j||oi.apart ops oj)&&
     (!listed.getD j false|| !K3 oj.op||(!(oj.looksAt ops).contains di&&oj.dst !=some di))
def V0v (ops:Array Oper)(listed:Array Bool)(i:Nat)(ws:List Nat):Bool:=
 (Region.ready .any ops listed).contains i&&
  (!JW ops i||(List.range ops.size).all fun k=> !listed.getD k false||ws.contains k||kY ops k i||match ops[k]? with | none=>true | some ok=> !K3 ok.op)
def qv (ops:Array Oper)(N:Nat)(listed:Array Bool)(p:Plan):Bool:=
 (match p with | .step i _ _=>J1z ops N listed i | _=>false)||(Region.ready .any ops listed).all (p.heads.contains ·)
def JR (ops:Array Oper)(N:Nat):Plan->Nat->Array Bool->Bool
 | .done,_,_=>true
 | .step _ _ _,0,_=>false
 | .step i ws rest,f+1,listed=>V0v ops listed i ws&&(JR ops N rest f (listed.setIfInBounds i true)&&qv ops N (listed.setIfInBounds i true) rest)
 | .alt a b,f,listed=>JR ops N a f listed&&JR ops N b f listed
def wF (ops:Array Oper)(N:Nat)(p:Plan):Bool:=JR ops N p ops.size (Array.replicate ops.size false)&&qv ops N (Array.replicate ops.size false) p
def WG (P:Program)(ops:List Oper)(o:Oper)(s:PFS):Prop:=
 match o.dst with
 | none=>True
 | some d=>match o.guard with
  | none=>HP s (fun p _=>s.pa.getD d .junk=p) (req P o.op o.type s.ev)
  | some (j,want)=>GK0 (Zn ops s j want) want (HP s (fun p _=>s.pa.getD d .junk=p) (req P o.op o.type s.ev)) (s.pa.getD d .junk= .tup [])
def WL0 (P:Program)(ops:List Oper):List Nat->PFS->Prop
 | [],s=>True
 | i::ws,s=>(match ops[i]? with | some o=>WG P ops o s | none=>False)/\WL0 P ops ws s
def OG (P:Program)(ops:List Oper)(o:Oper)(K:PFS->Prop)(s:PFS):Prop:=
 match o.guard with
 | none=>OC0 P o K s
 | some (j,want)=>GK0 (Zn ops s j want) want (OC0 P o K s) (K (s.put o.dst (.tup [])))
def OS0 (P:Program)(ops:List Oper)(o:Option Oper)(K:PFS->Prop)(s:PFS):Prop:=match o with | some o=>OG P ops o K s | none=>False
def OW0 (P:Program)(ops:List Oper):Plan->(PFS->Prop)->PFS->Prop
 | .done,K,s=>K s
 | .step i ws rest,K,s=>OS0 P ops (ops[i]?) (fun s'=>WL0 P ops ws s'/\OW0 P ops rest K s') s
 | .alt a b,K,s=>OW0 P ops a K s/\OW0 P ops b K s
theorem V0a {o:Oper}{K:PFS->Prop}{s:PFS}(h:OG P ops.toList o K s):POg P ops o K s:=by
 unfold OG at h;unfold POg;split;rename_i hg;rw[hg] at h;exact KS h;rename_i j want hg;rw[hg] at h;simp only at h;cases hb:Zn ops.toList s j want with
 | none=>rw[hb] at h;exact h.elim
 | some b=>
  rw[hb] at h;simp only;by_cases e:b=want;rw[BC e];exact KS (h.1 e);rw[BA e];exact h.2 e
theorem W1e {i:Nat}{K:PFS->Prop}{s:PFS}(h:OS0 P ops.toList (ops.toList[i]?) K s):POp P ops i K s:=by unfold OS0 at h;unfold POp;have e:ops.toList[i]?=ops[i]?:=(by simp);rw[e] at h;split at h;rename_i o ho;rw[ho];exact V0a h;exact h.elim
theorem V1z {o:Oper}{s:PFS}(hq:Zr o.op=true)(h:WG P ops.toList o s):j1h P ops o s:=by
 intro d hd;unfold WG at h;unfold QY;rw[hd] at h;simp only at h;have run:HP s (fun p _=>s.pa.getD d .junk=p) (req P o.op o.type s.ev)->(req P o.op o.type s.ev).run s=some (s.pa.getD d .junk,s):=fun h=>by obtain⟨p,s',hr,rfl⟩:=GQ h;have:=W1v (s':=s) (X0w hq).1 hr;subst this;exact hr
 split;rename_i hg;rw[hg] at h;exact run h;rename_i j want hg;rw[hg] at h;simp only at h;cases hb:Zn ops.toList s j want with
 | none=>rw[hb] at h;exact h.elim
 | some b=>
  rw[hb] at h;simp only;by_cases e:b=want;rw[BC e];exact run (h.1 e);rw[BA e];exact h.2 e
theorem jY {s:PFS} : ∀ {ws:List Nat},WL0 P ops.toList ws s-> ∀i∈ws,∀o,ops[i]?=some o->Zr o.op=true->j1h P ops o s
 | [],h,i,hi,o,ho,hq=>by cases hi
 | k::ws,h,i,hi,o,ho,hq=>by obtain⟨h1,h2⟩:=h;rcases EA.1 hi with rfl | hi;have e:ops.toList[i]?=some o:=(by simpa using ho);rw[e] at h1;exact V1z hq h1;exact jY h2 i hi o ho hq
theorem W1b {i:Nat}{K K':PFS->Prop}{s:PFS}(h:POp P ops i K s)(hk: ∀s,K s->K' s):POp P ops i K' s:=by unfold POp at h⊢;split;rename_i ho;rw[ho] at h;exact h;rename_i o ho;rw[ho] at h;exact Ip h hk
theorem x1z {i:Nat}{K:PFS->Prop}{s:PFS}(h:POp P ops i K s):POp P ops i (fun s'=>K s'/\s'.pa.length=s.pa.length) s:=by unfold POp at h⊢;split;rename_i ho;rw[ho] at h;exact h;rename_i o ho;rw[ho] at h;refine Ip (w0g h) fun s' ⟨h1,u,h2⟩=>⟨h1,by rw[h2];exact(Jy s o.dst u).2.2.2⟩
theorem Y0g {p:Plan}{s:PFS}(h:p.heads= []):OW0 P ops.toList p K s->K s:=by
 induction p with
 | done=>exact id
 | step i ws rest=>cases h
 | alt a b iha ihb=>exact fun hw=>iha (by simp only[Plan.heads,List.append_eq_nil_iff] at h;exact h.1) hw.1
theorem X8 {N:Nat}{p:Plan} : ∀ {f:Nat} {listed:Array Bool},JR ops N p f listed=true-> ∀i∈p.heads,i∈Region.ready .any ops listed/\f≠0:=by
 induction p with
 | done=>intro f listed h i hi;cases hi
 | step k ws rest ih=>
  intro f listed h i hi;cases f with
  | zero=>cases h
  | succ f=>
   simp only[Plan.heads,C0] at hi;subst hi;simp only[JR,V0v,q_i] at h;exact⟨by simpa using h.1.1,by simp⟩
 | alt a b iha ihb=>
  intro f listed h i hi;have hab:JR ops N a f listed=true/\JR ops N b f listed=true:=(by cases f<;>simpa[JR] using h);simp only[Plan.heads,DN] at hi;exact hi.elim (iha hab.1 i) (ihb hab.2 i)
theorem W0o {N:Nat} : ∀(p:Plan) (f:Nat) (listed:Array Bool),JR ops N p f listed=true->Wc ops listed->
 (∀s,N<=s.pa.length->OW0 P ops.toList p K s-> ∀i∈p.heads,POp P ops i (fun s'=>(JW ops i=true->Xu P ops listed i s')/\Z0z P ops K (f-1) (listed.setIfInBounds i true) s') s)/\
 (qv ops N listed p=true-> ∀s,N<=s.pa.length->OW0 P ops.toList p K s->Z0z P ops K f listed s):=by
 have full: ∀(p:Plan) (f:Nat) (listed:Array Bool),JR ops N p f listed=true->Wc ops listed->
  (∀s,N<=s.pa.length->OW0 P ops.toList p K s-> ∀i∈p.heads,POp P ops i (fun s'=>(JW ops i=true->Xu P ops listed i s')/\Z0z P ops K (f-1) (listed.setIfInBounds i true) s') s)->
  qv ops N listed p=true-> ∀s,N<=s.pa.length->OW0 P ops.toList p K s->Z0z P ops K f listed s:=by
  intro p f listed hB hcl hh hf s hl hw;simp only[qv,DF] at hf;rcases hf with hf | hf;cases p with
  | step i ws rest=>
   simp only[J1z] at hf;cases hoi:ops[i]? with
   | none=>rw[hoi] at hf;cases hf
   | some oi=>
    rw[hoi] at hf;simp only at hf;cases hdi:oi.dst with
    | none=>rw[hdi] at hf;cases hf
    | some di=>
     rw[hdi] at hf;simp only[q_i,EM,BN,q_d,E0] at hf;obtain⟨⟨⟨hq,hown⟩,hN⟩,hall⟩:=hf;have hready:=X8 hB i (by simp[Plan.heads]);have hp:=hh s hl hw i (by simp[Plan.heads]);cases f with
     | zero=>exact absurd rfl hready.2
     | succ f=>
      unfold POp at hp;rw[hoi] at hp;obtain⟨u,hy,_,hrest⟩:=ze hq hp;refine W0p (di:=di) hoi hq hdi (by simpa using hown) hN f listed s hl hcl (fun j oj hj hji hun hnr=> ?_) (fun k ok hk hkl hlo=> ?_) hready.1 hy (by simpa using hrest);have hlt:=(C3.1 hj).1;have:=hall j hlt;simp only[hj,FQ,hji,DF,q_i,hun,hnr,B3,false_or] at this;exact this.1;by_cases hki:k=i;subst hki;have:=(mem_ready.1 hready.1).1;rw[Q0v this] at hkl;cases hkl;have hlt:=(C3.1 hk).1;have:=hall k hlt;simp only[hk,FQ,hki,DF,q_i,hkl,hlo,FR,B3,false_or] at this;have h2:=this.2;simp only[EM,BV,ne_eq] at h2;exact⟨by simpa using h2.1,h2.2⟩
  | done=>cases hf
  | alt a b=>cases hf
  have hcov: ∀i∈Region.ready .any ops listed,i∈p.heads:=fun i hi=>by have:=List.all_eq_true.1 hf i hi;simpa using this
  have hnil:Region.ready .any ops listed= []->K s:=fun h0=>Y0g (by
   cases hp:p.heads with
   | nil=>rfl
   | cons i l=>
    have:=(X8 hB i (by rw[hp];simp)).1;rw[h0] at this;cases this) hw
  cases f with
  | zero=>
   have h0:Region.ready .any ops listed= []:=by
    cases hr:Region.ready .any ops listed with
    | nil=>rfl
    | cons i l=>exact absurd rfl (X8 hB i (hcov i (by rw[hr];simp))).2
   exact⟨h0,hnil h0⟩
  | succ f=>exact⟨hnil,fun i hi=>hh s hl hw i (hcov i hi)⟩
 intro p
 induction p with
 | done=>
  intro f listed hB hcl;have h1: ∀s,N<=s.pa.length->OW0 P ops.toList .done K s-> ∀i∈Plan.done.heads,POp P ops i (fun s'=>(JW ops i=true->Xu P ops listed i s')/\Z0z P ops K (f-1) (listed.setIfInBounds i true) s') s:=fun s hl hw i hi=>(by cases hi);exact⟨h1,full .done f listed hB hcl h1⟩
 | step k ws rest ih=>
  intro f listed hB hcl;have h1: ∀s,N<=s.pa.length->OW0 P ops.toList (.step k ws rest) K s-> ∀i∈(Plan.step k ws rest).heads,POp P ops i (fun s'=>(JW ops i=true->Xu P ops listed i s')/\Z0z P ops K (f-1) (listed.setIfInBounds i true) s') s:=by
   intro s hl hw i hi;have hready:=X8 hB i hi;simp only[Plan.heads,C0] at hi;subst hi;cases f with
   | zero=>exact absurd rfl hready.2
   | succ f=>
    simp only[JR,V0v,q_i,DF,q_d,E0] at hB;obtain⟨⟨_,hws⟩,hrB,hrF⟩:=hB;obtain⟨_,ih2⟩:=ih f (listed.setIfInBounds i true) hrB (Yy hcl hready.1);refine W1b (x1z (W1e hw)) ?_;rintro s' ⟨⟨hW,hO⟩,hlen⟩;refine⟨fun heff k ok hkl hok hkq hkl' hkr=> ?_,ih2 hrF s' oG hO⟩;rcases hws with hws | hws;rw[heff] at hws;cases hws;have:=hws k (C3.1 hok).1;simp only[hkl,hkr,hok,hkl',FR,B3,false_or,or_false] at this;exact jY hW k (by simpa using this) ok hok hkq
  exact⟨h1,full _ f listed hB hcl h1⟩
 | alt a b iha ihb=>
  intro f listed hB hcl;have hab:JR ops N a f listed=true/\JR ops N b f listed=true:=(by cases f<;>simpa[JR] using hB);have h1: ∀s,N<=s.pa.length->OW0 P ops.toList (.alt a b) K s-> ∀i∈(Plan.alt a b).heads,POp P ops i (fun s'=>(JW ops i=true->Xu P ops listed i s')/\Z0z P ops K (f-1) (listed.setIfInBounds i true) s') s:=by intro s hl hw i hi;simp only[Plan.heads,DN] at hi;exact hi.elim ((iha f listed hab.1 hcl).1 s hl hw.1 i) ((ihb f listed hab.2 hcl).1 s hl hw.2 i)
  exact⟨h1,full _ f listed hB hcl h1⟩
theorem xE {E:Ent}{Q:Exit->Act->World->Prop}(hK: ∀a' w' g' F' s',FSRep E a' w' g' F' s'->K s'->Q .normal a' w'): ∀(f:Nat) (listed:Array Bool) (a:Act) (w:World) (g:Gh) (F:Fr) (s:PFS),
 FSRep E a w g F s->Z0z P ops K f listed s->wpAnyIn (fen E.rd) 0 P .any ops Q f listed a w:=by
 intro f
 induction f with
 | zero=>exact fun listed a w g F s hr h=>⟨h.1,hK a w g F s hr h.2⟩
 | succ f ih=>
  intro listed a w g F s hr h;refine⟨fun h0=>hK a w g F s hr (h.1 h0),fun i hi=> ?_⟩;have hp:=h.2 i hi;unfold POp at hp;unfold wpOpIn;cases hoi:ops[i]? with
  | none=>rw[hoi] at hp;exact hp.elim
  | some o=>
   rw[hoi] at hp;simp only at hp⊢;unfold POg at hp;split at hp;rename_i hg;rw[BC (by simp[Region.wanted,hg])];exact JL hr hp fun a' w' g' F' s' hr' hk=>ih _ a' w' g' F' s' hr' hk.2;rename_i j want hg;split at hp;rename_i b hb;have hy:=K4 hr hb;split at hp;rename_i he;subst he;rw[BC (by unfold Region.wanted;rw[hg];simp only;rw[hy];simp)];exact JL hr hp fun a' w' g' F' s' hr' hk=>ih _ a' w' g' F' s' hr' hk.2;rename_i he;rw[BA (by unfold Region.wanted;rw[hg];simp only;rw[hy];simp[he])];exact⟨Vx,ih _ _ w g F _ (hr.put o.dst (.base _ _ (Ws _ _))) hp.2⟩;exact hp.elim
end
theorem q0e {P:Program}{E:Ent}{id:Nat}{l:List Oper}{Q:Exit->PFS->Prop}{s:PFS}(hm:P.follows .mixedOrders=true)(N:Nat)(p:Plan)(hB:wF l.toArray N p=true)(hl:N<=s.pa.length)
 (h:OW0 P l p (Q .normal) s):PWP P E (.region id l.toArray true) Q s:=by
 intro a w g F hr;simp only[wF,q_i] at hB;have hcl:Wc l.toArray (Array.replicate l.toArray.size false):=fun k ok e hk hkl he hb=>by by_cases hkk:k<l.length<;>simp[hkk,q_f,Array.getElem?_replicate] at hkl
 have:=(W0o (P:=P) (K:=Q .normal) p _ _ hB.1 hcl).2 hB.2 s hl (by simpa using h);exact wpIn_region_any hm (xE (fun a' w' g' F' s' hr' hk=>⟨g',F',s',hr',hk⟩) _ _ _ _ g F s hr.drew.1 this)
section
variable {P:Program} {s:PFS} {K:PFS->Prop} {d:Option Tmp} {ty:TypeId} {pos:String} {af:Array Edge}
def OW (P:Program)(ops:List Oper)(p:Plan)(K:PFS->Prop)[Stop ops][Stop p][Stop K](s:PFS):Prop:=OW0 P ops p K s
def OS (P:Program)(ops:List Oper)(o:Option Oper)(K:PFS->Prop)[Stop ops][Stop K](s:PFS):Prop:=OS0 P ops o K s
def WL (P:Program)(ops:List Oper)(ws:List Nat)[Stop ops](s:PFS):Prop:=WL0 P ops ws s
def WO (P:Program)(ops:List Oper)(o:Option Oper)[Stop ops](s:PFS):Prop:=match o with | some o=>WG P ops o s | none=>False
@[go_sem] theorem Y2s {ops:List Oper} :OW P ops .done K s=K s:=(rfl)
@[go_sem] theorem j1c {ops:List Oper}{i:Nat}{rest:Plan} :OW P ops (.step i [] rest) K s=OS P ops (ops[i]?) (OW P ops rest K) s:=by simp only[OW,OW0,OS,WL0,F9];rfl
@[go_sem] theorem J2l {ops:List Oper}{i k:Nat}{ws:List Nat}{rest:Plan} :OW P ops (.step i (k::ws) rest) K s=OS P ops (ops[i]?) (fun s'=>WL P ops (k::ws) s'/\OW P ops rest K s') s:=(rfl)
@[go_sem] theorem G2h {ops:List Oper}{a b:Plan} :OW P ops (.alt a b) K s=(OW P ops a K s/\OW P ops b K s):=(rfl)
@[go_sem] theorem Y2u {ops:List Oper}{op:Op} :OS P ops (some ⟨d,op,ty,pos,af,none⟩) K s=OC P ⟨d,op,ty,pos,af,none⟩ K s:=(rfl)
@[go_sem] theorem Y2t {ops:List Oper}{op:Op}{j:Nat}{want:Bool} :OS P ops (some ⟨d,op,ty,pos,af,some (j,want)⟩) K s=GK (Zn ops s j want) want (OC P ⟨d,op,ty,pos,af,some (j,want)⟩ K s) (K (s.put d (.tup []))):=(rfl)
@[go_sem] theorem G2d {ops:List Oper} :WL P ops [] s=True:=(rfl)
@[go_sem] theorem Y2i {ops:List Oper}{i:Nat}{ws:List Nat} :WL P ops (i::ws) s=(WO P ops (ops[i]?) s/\WL P ops ws s):=(rfl)
@[go_sem] theorem Y2h {ops:List Oper}{d:Tmp}{t:TypeId}{x:Operand} :WO P ops (some ⟨some d,.load t x,ty,pos,af,none⟩) s=Wf s (fun p _=>s.pa.getD d .junk=p) (Gi (ti P t) (s.ev x)):=(rfl)
@[go_sem] theorem Y2g {ops:List Oper}{d:Tmp}{t:TypeId}{x:Operand}{j:Nat}{want:Bool} :WO P ops (some ⟨some d,.load t x,ty,pos,af,some (j,want)⟩) s=GK (Zn ops s j want) want (Wf s (fun p _=>s.pa.getD d .junk=p) (Gi (ti P t) (s.ev x))) (s.pa.getD d .junk= .tup []):=(rfl)
end
theorem Qm {P:Program}{E:Ent}{id:Nat}{l:List Oper}{Q:Exit->PFS->Prop}{s:PFS}(hm:P.follows .mixedOrders=true)(N:Nat)(p:Plan)(hB:wF l.toArray N p=true)(hl:N<=s.pa.length)
 (h:OW P l p (Q .normal) s):PWP P E (.region id l.toArray true) Q s:=q0e hm N p hB hl h
def X0p :List Nat->Plan->Plan
 | [],p=>p
 | i::l,p=> .step i [] (X0p l p)
@[go_sem] theorem G2q {P:Program}{ops:List Oper}{K:PFS->Prop}{s:PFS}{p:Plan} :OW P ops (X0p [] p) K s=OW P ops p K s:=rfl
@[go_sem] theorem G2t {P:Program}{ops:List Oper}{K:PFS->Prop}{s:PFS}{i:Nat}{l:List Nat}{p:Plan} :OW P ops (X0p (i::l) p) K s=OS P ops (ops[i]?) (OW P ops (X0p l p) K) s:=j1c
attribute [go_sem] Nat.reduceAdd Nat.reduceSub Nat.reduceMul Nat.reduceLeDiff Nat.reduceLT Nat.reduceEqDiff Nat.reduceBEq Nat.reduceBNe reduceIte Int.reduceToNat Int.reduceLT Int.reduceLE Int.reduceAdd Int.reduceSub
attribute [go_sem] EK CY Nat.lt_add_one Nat.zero_lt_succ
@[go_sem] theorem U2z :(true !=false)=true:=(rfl)
@[go_sem] theorem G2b :(false !=false)=false:=(rfl)
@[go_sem] theorem U2y :(true !=true)=false:=(rfl)
@[go_sem] theorem G2a :(false !=true)=true:=(rfl)
theorem U1r (n:Nat):IntKind.u8.wrap (n:Int)=((n % 256:Nat):Int):=by simp[IntKind.wrap,IntKind.bits,IntKind.signed]
theorem ZS (n:Nat)(h:n<18446744073709551616):IntKind.u64.wrap (n:Int)=(n:Int):=by simp[IntKind.wrap,IntKind.bits,IntKind.signed];omega
theorem Qw (n:Int)(h: -9223372036854775808<=n)(h2:n<9223372036854775808):IntKind.i64.wrap n=n:=by have e:IntKind.i64.wrap n=if n % 2^64>=2^(64-1) then n % 2^64-2^64 else n % 2^64:=(by simp[IntKind.wrap,IntKind.bits,IntKind.signed]);rw[e];split<;>omega
theorem G9 (k:IntKind)(v c:Nat)(h:c<=k.bits):Wg k (v:Int) (c:Int)=((v/2^c:Nat):Int):=by unfold Wg;rw[FT,DA h];rw[show((2:Int)^c)=((2^c:Nat):Int) from by simp];exact(Int.ofNat_fdiv v (2^c)).symm
def Z0d (l:List UInt8):List PV:=l.map fun c=> .sc (.int .u8 c.toNat)
@[go_sem] theorem z1r (l:List UInt8):(Z0d l).length=l.length:=by simp[Z0d]
@[go_sem] theorem X2j :Z0d []= []:=(rfl)
@[go_sem] theorem W2m (l:List UInt8):(Z0d l).all (fun x=>x.cells.length==1)=true:=by simp[Z0d,PV.cells]
@[go_sem] theorem W2n (l:List UInt8):(Z0d l).all (fun x=>(x.cells.length==1)&&x.cells.all PV.cellOK)=true:=by simp[Z0d,PV.cells,PV.cellOK,Value.oneCell']
theorem K1q (l m:List UInt8):Z0d l++Z0d m=Z0d (l++m):=by simp[Z0d]
theorem j0v (l:List UInt8)(c:UInt8):Z0d l++ [.sc (.int .u8 c.toNat)]=Z0d (l++ [c]):=by simp[Z0d]
end Go.Pv
end
