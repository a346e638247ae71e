/- Walk. -/
import Derived.Test.YtfoiagbimnghjaaGreatDoorZB
import Derived.Scope
import Derived.Orders
set_option linter.all false
section
namespace Go.Pv
def VY (s:PFS)(K:PV->PFS->Prop):Req->Prop
 | .val v=>K v s
 | .need c v=>c=true/\K v s
 | .load gl i off n agg=>
  off+n<=((if gl then s.st else s.L).getD i []).length/\K (if agg then .agg ((((if gl then s.st else s.L).getD i []).drop off).take n) else((if gl then s.st else s.L).getD i []).getD off .junk) s
 | .store gl i off cs=>
  (off+cs.length<=((if gl then s.st else s.L).getD i []).length/\0<((if gl then s.st else s.L).getD i []).length)/\
   K .junk (if gl then { s with st:=s.st.set i (Qu ((if gl then s.st else s.L).getD i []) off cs) } else { s with L:=s.L.set i (Qu ((if gl then s.st else s.L).getD i []) off cs) })
 | .box cs=>K (.lp s.L.length 0) { s with L:=s.L++ [cs] }
 | .mks cs len=>K (.ms false s.L.length 0 len) { s with L:=s.L++ [cs] }
 | .newsl es=>K (.sl .full es) s
 | .app t es ys e=>
  (e.zok=true/\es.length+ys.length<=1152921504606846976/\(es.length+ys.length)*e.by_<=140737488355328/\
   es.all (fun x=>x.cells.length==e.sz)=true/\ys.all (fun x=>(x.cells.length==e.sz)&&x.cells.all PV.cellOK)=true)/\
   match t with
   | .own k=>s.T.getD k (0,0)=(es.length,e.sz)/\K (.sl (.own k) (es++ys)) { s with T:=s.T.set k (es.length+ys.length,e.sz) }
   | .full=>(es.length=0\/0<ys.length)/\K (.sl (.own s.T.length) (es++ys)) { s with T:=s.T++ [(es.length+ys.length,e.sz)] }
   | _=>False
 | .fail=>False
theorem kd {s:PFS}{K:Pw}{r:Req}(h:VY s K r): ∃p s',r.run s=some (p,s')/\K p s':=by
 cases r with
 | val v=>exact⟨_,_,rfl,h⟩
 | need c v=>exact⟨_,_,by simp[Req.run,h.1],h.2⟩
 | load gl i off n agg=>exact⟨_,_,BC h.1,h.2⟩
 | store gl i off cs=>exact⟨_,_,BC h.1,h.2⟩
 | box cs=>exact⟨_,_,rfl,h⟩
 | mks cs len=>exact⟨_,_,rfl,h⟩
 | newsl es=>exact⟨_,_,rfl,h⟩
 | app t es ys e=>
  obtain⟨h1,h2⟩:=h;cases t with
  | own k=>exact⟨_,_,by simp only[Req.run];rw[BC h1,BC h2.1],h2.2⟩
  | full=>exact⟨_,_,by simp only[Req.run];rw[BC h1,BC h2.1],h2.2⟩
  | _=>exact h2.elim
 | fail=>exact h.elim
def Ip :Op->Bool
 | .binOp .eql _ _ _ _ | .binOp .neq _ _ _ _=>false
 | .call { callee:= .builtin _,.. } =>true
 | .call _=>false
 | _=>true
theorem Z1e {P:Pg}{o:Oper}{K:Pf}{s:PFS}(hp:Ip o.op=true)(h:VY s (fun p s'=>K (s'.put o.dst p)) (req P o.op o.type s.ev)):PO P o K s:=by
 obtain⟨p,s',hr,hk⟩:=kd h;have e1:Kw P o.op s.ev=none:=by unfold Kw;split;rename_i heq;rw[heq] at hp;cases hp;rename_i heq;rw[heq] at hp;cases hp;rfl
 have e2:K6 o.op s.ev=none:=by unfold K6;split;rename_i heq;rw[heq] at hp;cases hp;rfl
 unfold PO;rw[e1,e2];simp only[VA,hr];exact hk
def OC0 (P:Program)(o:Oper)(K:PFS->Prop)(s:PFS):Prop:=
 match Ip o.op with
 | true=>VY s (fun p s'=>K (s'.put o.dst p)) (req P o.op o.type s.ev)
 | false=>PO P o K s
theorem Y7 {P:Pg}{o:Oper}{K:Pf}{s:PFS}(h:OC0 P o K s):PO P o K s:=by unfold OC0 at h;split at h;rename_i hp;exact Z1e hp h;exact h
def GK0 (b:Option Bool)(want:Bool)(x y:Prop):Prop:=match b with | some b=>(b=want->x)/\(b≠want->y) | none=>False
def CK0 (p:PV)(x y:Prop):Prop:=match p with | .sc (.bool b)=>(b=true->x)/\(b=false->y) | _=>False
def OL0 (P:Program)(ops:List Oper):List Oper->(PFS->Prop)->PFS->Prop
 | [],K,s=>K s
 | o::rest,K,s=>
  match o.guard with
  | none=>OC0 P o (OL0 P ops rest K) s
  | some (j,want)=>GK0 (ZR ops s j want) want (OC0 P o (OL0 P ops rest K) s) (OL0 P ops rest K (s.put o.dst (.tup [])))
theorem U0m {P:Pg}{o:Oper}{K K':Pf}{s:PFS}(h:OC0 P o K s)(hk: ∀s,K s->K' s):OC0 P o K' s:=by
 have mono: ∀r,VY s (fun p s'=>K (s'.put o.dst p)) r->VY s (fun p s'=>K' (s'.put o.dst p)) r:=by
  intro r hr;cases r with
  | app t es ys e=>
   refine⟨hr.1,?_⟩;have h2:=hr.2;cases t with
   | own k=>exact⟨h2.1,hk _ h2.2⟩
   | full=>exact⟨h2.1,hk _ h2.2⟩
   | _=>exact h2
  | val v=>exact hk _ hr
  | need c v=>exact⟨hr.1,hk _ hr.2⟩
  | load gl i off n agg=>exact⟨hr.1,hk _ hr.2⟩
  | store gl i off cs=>exact⟨hr.1,hk _ hr.2⟩
  | box cs=>exact hk _ hr
  | mks cs len=>exact hk _ hr
  | newsl es=>exact hk _ hr
  | fail=>exact hr
 unfold OC0 at h⊢;cases hp:Ip o.op with
 | true=>rw[hp] at h;exact mono _ h
 | false=>
  rw[hp] at h;simp only at h⊢;unfold PO at h⊢;split;rename_i hn;rw[hn] at h;exact fun b hb=>hk _ (h b hb);rename_i hn;rw[hn] at h;simp only at h;split;rename_i hc;rw[hc] at h;exact⟨h.1,h.2.mono fun r st q=>hk _ q⟩;rename_i hc;rw[hc] at h;simp only at h;split;rename_i hs;rw[hs] at h;exact hk _ h;rename_i hs;rw[hs] at h;exact h
theorem HF {P:Pg}{ops:Lo}{K:Pf} : ∀ {rest:Lo} {s:PFS},OL0 P ops rest K s->PLc P ops rest K s
 | [],s,h=>h
 | o::rest,s,h=>by
  have ih:=fun s=> @HF P ops K rest s;unfold OL0 at h;unfold PLc;split;rename_i hg;rw[hg] at h;exact Y7 (U0m h ih);rename_i j want hg;rw[hg] at h;simp only at h;cases hb:ZR ops s j want with
  | none=>rw[hb] at h;exact h.elim
  | some b=>
   rw[hb] at h;simp only;obtain⟨h1,h2⟩:=h;split;rename_i e;exact Y7 (U0m (h1 e) ih);rename_i e;exact ih _ (h2 e)
def Ht (Q:Exit->PFS->Prop):Exit->PFS->Prop:=fun e s=>match e with | .goto _=>False | e=>Q e s
def Zn :Code->Bool
 | .seq x y=>Zn x||Zn y
 | .cond _ x y=>Zn x||Zn y
 | .block _ x=>Zn x
 | .scope x=>Zn x
 | .loop _=>true
 | _=>false
def Z0v (c:Code):Bool:=Zn c
def VC0 (P:Program)(E:Ent):Code->(Exit->PFS->Prop)->PFS->Prop
 | .skip,Q,s=>Q .normal s
 | .label _,Q,s=>Q .normal s
 | .seq x y,Q,s=>VC0 P E x (ZI (if Z0v x then PWP P E y Q else VC0 P E y Q) Q) s
 | .region id ops false,Q,s=>OL0 P ops.toList ops.toList (Q .normal) s
 | .region id ops true,Q,s=>PWP P E (.region id ops true) Q s
 | .cond c x y,Q,s=>CK0 (s.ev c) (VC0 P E x Q s) (VC0 P E y Q s)
 | .block id c,Q,s=>VC0 P E c (XG id Q) s
 | .exit id,Q,s=>Q (.exit id) s
 | .ret,Q,s=>Q .ret s
 | .scope c,Q,s=>VC0 P E c (Ht Q) s
 | .loop c,Q,s=>PWP P E (.loop c) Q s
 | c,Q,s=>PWP P E c Q s
theorem V9 {P:Pg}{b:Frame}{a:Act}{k:List Item}{cs:List Frame}{w:Lw}{c:Code} :step P (lone (b.atR a (.code (.scope c)::k)) cs w)= .next (lone (b.atR a (.code c:: .inScope c::k)) cs w):=
 step_lone_go (by simp[stepG,stepG.exec,Frame.atR])
theorem Dg {P:Pg}{b:Frame}{a:Act}{k:List Item}{cs:List Frame}{w:Lw}{c:Code} :step P (lone (b.atR a (.inScope c::k)) cs w)= .next (lone (b.atR a k) cs w):=
 step_lone_go (by simp[stepG,stepG.exec,Frame.atR])
theorem zk {P:Pg}{E:Ent}{c:Code}{Q:Pe}{s:PFS}(h:PWP P E c (Ht Q) s):PWP P E (.scope c) Q s:=by
 intro a w g F hr b k cs hro hbf hrm;obtain⟨e,a₁,w₁,⟨g1,F1,s1,hr1,hq⟩,harr⟩:=h a w g F hr b (.inScope c::k) cs hro hbf hrm;have h0:(lone (b.atR a (.code (.scope c)::k)) cs w).fenced P (fen E.rd):=fenced_calm hbf hrm rfl;cases e with
 | normal=>exact⟨.normal,a₁,w₁,⟨g1,F1,s1,hr1,hq⟩,.head h0 V9 (StepsIn.trans harr (.one (fenced_calm hbf hrm rfl) Dg))⟩
 | exit id=>exact⟨.exit id,a₁,w₁,⟨g1,F1,s1,hr1,hq⟩,fun k' hk=> .head h0 V9 (harr.1 k' (by simp[exitTo,hk])),
  fun hr' hk=>let ⟨k₁,h1,h2⟩:=harr.2 hr' (by simp[exitTo,hk]);⟨k₁,h1,.head h0 V9 h2⟩⟩
 | goto l=>exact hq.elim
 | ret=>exact⟨_,a₁,w₁,⟨g1,F1,s1,hr1,hq⟩,.of_steps (.one h0 V9) harr⟩
 | panic ch=>exact⟨_,a₁,w₁,⟨g1,F1,s1,hr1,hq⟩,.of_steps (.one h0 V9) harr⟩
 | outgrown=>exact⟨_,a₁,w₁,⟨g1,F1,s1,hr1,hq⟩,.of_steps (.one h0 V9) harr⟩
theorem y0u {P:Pg}{E:Ent}{c:Code} : ∀ {Q:Pe} {s:PFS},VC0 P E c Q s->PWP P E c Q s:=by
 induction c with
 | skip=>exact fun h=>y0r h
 | label l=>exact fun h=>y0x h
 | region id ops d=>
  cases d with
  | false=>exact fun h=>y0t (HF h)
  | true=>exact fun h=>h
 | seq x y ihx ihy=>
  intro Q s h;refine Qe (zl (ihx h) ?_);intro e s hq;cases e with
  | normal=>
   simp only[ZI] at hq;cases hb:Z0v x with
   | true=>rw[hb] at hq;exact hq
   | false=>rw[hb] at hq;exact ihy hq
  | _=>exact hq
 | cond c x y ihx ihy=>
  intro Q s h;simp only[VC0,CK0] at h;split at h;rename_i b hb;exact Q1e hb (fun e=>ihx (h.1 e)) (fun e=>ihy (h.2 e));exact h.elim
 | block id c ih=>exact fun h=>Xx (ih h)
 | exit id=>exact fun h=>Q1a h
 | ret=>exact fun h=>y0s h
 | scope c ih=>exact fun h=>zk (ih h)
 | _=>exact fun h=>h
def Kp (P:Program)(E:Ent)(b:Bool)(y:Code)(Q:Exit->PFS->Prop)(s:PFS):Prop:=if b then PWP P E y Q s else VC0 P E y Q s
class Stop.{u} {α:Sort u} (a:α):Type where
instance instStop.{u} {α:Sort u} (a:α):Stop a:=⟨⟩
def Z3 (s:PFS)(K:PV->PFS->Prop)[Stop K](r:Req):Prop:=VY s K r
def GK (b:Option Bool)(want:Bool)(x y:Prop)[Stop x][Stop y]:Prop:=GK0 b want x y
def CK (p:PV)(x y:Prop)[Stop x][Stop y]:Prop:=CK0 p x y
def OC (P:Program)(o:Oper)(K:PFS->Prop)[Stop o][Stop K](s:PFS):Prop:=OC0 P o K s
def OL (P:Program)(ops rest:List Oper)(K:PFS->Prop)[Stop ops][Stop rest][Stop K](s:PFS):Prop:=OL0 P ops rest K s
def VC (P:Program)(E:Ent)(c:Code)(Q:Exit->PFS->Prop)[Stop c][Stop Q](s:PFS):Prop:=VC0 P E c Q s
def PW (P:Program)(E:Ent)(c:Code)(Q:Exit->PFS->Prop)[Stop c][Stop Q](s:PFS):Prop:=PWP P E c Q s
def U2 (P:Program)(E:Ent)(b:Bool)(y:Code)(Q:Exit->PFS->Prop)[Stop y][Stop Q](s:PFS):Prop:=Kp P E b y Q s
def eth (K:PFS->Prop)(Q:Exit->PFS->Prop)[Stop K][Stop Q](e:Exit)(s:PFS):Prop:=ZI K Q e s
def ebl (id:Nat)(Q:Exit->PFS->Prop)[Stop Q](e:Exit)(s:PFS):Prop:=XG id Q e s
def esc (Q:Exit->PFS->Prop)[Stop Q](e:Exit)(s:PFS):Prop:=Ht Q e s
def bQ (P:Program)(fz:Option Nat)(fn:Func)(Q:PV->Qd->Prop)[Stop Q](e:Exit)(s:PFS):Prop:=Gr P fz fn Q e s
def EC (P:Program)(f:FuncId)(as:List PV)(st:Qd)(Q:PV->Qd->Prop)[Stop Q]:Prop:=ExtCalls P f as st Q
def PC (P:Program)(f:FuncId)(as:List PV)(st:Qd)(Q:PV->Qd->Prop)[Stop Q]:Prop:=PCalls P f as st Q
theorem Qb {P:Pg}{E:Ent}{c:Code}{Q:Pe}{s:PFS}(h:VC P E c Q s):PWP P E c Q s:=y0u h
theorem ck {b:Bool}{x y:Prop}(h1:b=true->x)(h2:b=false->y):CK (.sc (.bool b)) x y:=⟨h1,h2⟩
theorem Qq {P:Pg}{E:Ent}{c:Code}{Q:Pe}{s:PFS}{B:Prop}(k:B)(e:VC P E c Q s=B:=by simp-dsimp only[go_sem];exact rfl):PWP P E c Q s:=Qb (e.mpr k)
theorem Qa {P:Pg}{E:Ent}{x y:Code}{Q:Pe}{s:PFS}{B:Prop}(k:B)(e:VC P E x (ZI (PWP P E y Q) Q) s=B:=by simp-dsimp only[go_sem];exact rfl):PWP P E (.seq x y) Q s:=Qe (Qb (e.mpr k))
theorem Qj {P:Pg}{f:FuncId}{fn:Func}{c:Code}{args:Lp}{st:Qd}{Q:PV->Qd->Prop}{B:Ent->Prop}(hf:P.funcs[f]?=some fn)(h: ∀E,B E)(hb:fn.body=some c:=by exact rfl)
 (e: ∀E,VC P E c (Gr P none fn Q) (VB fn args st)=B E:=by intro E;simp-dsimp only[go_sem];exact rfl):PCalls P f args st Q:=Ql none hf hb fun E=>Qb ((e E).mpr (h E))
theorem QM {A:Prop}{b:Bool}{x y:Prop}(h1:b=true->x)(h2:b=false->y)(e:A=CK (.sc (.bool b)) x y:=by simp-dsimp only[go_sem];exact rfl):A:=e.mpr ⟨h1,h2⟩
theorem Qr {A B:Prop}(k:B)(e:A=B:=by simp-dsimp only[go_sem];exact rfl):A:=e.mpr k
theorem QA {A:Prop}(k:A:=by simp-dsimp only[go_sem]):A:=k
theorem J2x {A B p:Prop}(x:p)(k:B)(e:p->A=B:=by intro h;simp-dsimp only[go_sem,h];exact rfl):A:=(e x).mpr k
theorem J2w {A B p q:Prop}(x:p)(y:q)(k:B)(e:p->q->A=B:=by intro h i;simp-dsimp only[go_sem,h,i];exact rfl):A:=(e x y).mpr k
theorem J2v {A B p q r:Prop}(x:p)(y:q)(z:r)(k:B)(e:p->q->r->A=B:=by intro h i j;simp-dsimp only[go_sem,h,i,j];exact rfl):A:=(e x y z).mpr k
theorem gkT {b:Bool}{x y:Prop}(h1:b=true->x)(h2:b=false->y):GK (some b) true x y:=by cases b<;>simp_all [GK,GK0]
theorem gkF {b:Bool}{x y:Prop}(h1:b=false->x)(h2:b=true->y):GK (some b) false x y:=by cases b<;>simp_all [GK,GK0]
section
variable {P:Program} {E:Ent} {Q:Exit->PFS->Prop} {s:PFS} {K:PFS->Prop} {d:Option Tmp} {ty:TypeId} {pos:String} {af:Array Edge} {gd:Option (Nat×Bool)}
@[go_sem] theorem X2y :VC P E .skip Q s=Q .normal s:=(rfl)
@[go_sem] theorem J2n {l:Nat} :VC P E (.label l) Q s=Q .normal s:=(rfl)
@[go_sem] theorem J2d {id:Nat}{ops:La}{d:Bool}{y:Code} :VC P E (.seq (.region id ops d) y) Q s=VC P E (.region id ops d) (eth (VC P E y Q) Q) s:=(rfl)
@[go_sem] theorem J2a {x z:Code}{y:Code} :VC P E (.seq (.seq x z) y) Q s=VC P E (.seq x z) (eth (U2 P E (Zn (.seq x z)) y Q) Q) s:=by
 have e:Kp P E (Zn (.seq x z)) y Q=if Zn (.seq x z) then PWP P E y Q else VC0 P E y Q:=by funext s;unfold Kp;split<;>rfl
 show VC0 P E (.seq (.seq x z) y) Q s=VC0 P E (.seq x z) (ZI (Kp P E (Zn (.seq x z)) y Q) Q) s;rw[e];rfl
@[go_sem] theorem J2h {c:Operand}{x z:Code}{y:Code} :VC P E (.seq (.cond c x z) y) Q s=VC P E (.cond c x z) (eth (U2 P E (Zn (.cond c x z)) y Q) Q) s:=by
 have e:Kp P E (Zn (.cond c x z)) y Q=if Zn (.cond c x z) then PWP P E y Q else VC0 P E y Q:=by funext s;unfold Kp;split<;>rfl
 show VC0 P E (.seq (.cond c x z) y) Q s=VC0 P E (.cond c x z) (ZI (Kp P E (Zn (.cond c x z)) y Q) Q) s;rw[e];rfl
@[go_sem] theorem J2b {x:Code}{y:Code} :VC P E (.seq (.scope x) y) Q s=VC P E (.scope x) (eth (U2 P E (Zn (.scope x)) y Q) Q) s:=by
 have e:Kp P E (Zn (.scope x)) y Q=if Zn (.scope x) then PWP P E y Q else VC0 P E y Q:=by funext s;unfold Kp;split<;>rfl
 show VC0 P E (.seq (.scope x) y) Q s=VC0 P E (.scope x) (ZI (Kp P E (Zn (.scope x)) y Q) Q) s;rw[e];rfl
@[go_sem] theorem J2e {x:Code}{y:Code} :VC P E (.seq (.loop x) y) Q s=VC P E (.loop x) (eth (U2 P E (Zn (.loop x)) y Q) Q) s:=by
 have e:Kp P E (Zn (.loop x)) y Q=if Zn (.loop x) then PWP P E y Q else VC0 P E y Q:=by funext s;unfold Kp;split<;>rfl
 show VC0 P E (.seq (.loop x) y) Q s=VC0 P E (.loop x) (ZI (Kp P E (Zn (.loop x)) y Q) Q) s;rw[e];rfl
@[go_sem] theorem J2i {id:Nat}{x y:Code} :VC P E (.seq (.block id x) y) Q s=VC P E (.block id x) (eth (U2 P E (Zn x) y Q) Q) s:=by
 have e:Kp P E (Zn x) y Q=if Zn x then PWP P E y Q else VC0 P E y Q:=by funext s;unfold Kp;split<;>rfl
 show VC0 P E (.seq (.block id x) y) Q s=VC0 P E (.block id x) (ZI (Kp P E (Zn x) y Q) Q) s;rw[e];rfl
@[go_sem] theorem J2z {y:Code} :U2 P E true y Q s=PW P E y Q s:=(rfl)
@[go_sem] theorem K2a {y:Code} :U2 P E false y Q s=VC P E y Q s:=(rfl)
@[go_sem] theorem W2k {x y:Code} :Zn (.seq x y)=(Zn x||Zn y):=(rfl)
@[go_sem] theorem W2r {c:Operand}{x y:Code} :Zn (.cond c x y)=(Zn x||Zn y):=(rfl)
@[go_sem] theorem W2s {id:Nat}{x:Code} :Zn (.block id x)=Zn x:=(rfl)
@[go_sem] theorem W2l {x:Code} :Zn (.scope x)=Zn x:=(rfl)
@[go_sem] theorem W2o {x:Code} :Zn (.loop x)=true:=(rfl)
@[go_sem] theorem W2n {id:Nat}{ops:La}{d:Bool} :Zn (.region id ops d)=false:=(rfl)
@[go_sem] theorem W2j :Zn .skip=false:=(rfl)
@[go_sem] theorem W2m :Zn .ret=false:=(rfl)
@[go_sem] theorem W2q {id:Nat} :Zn (.exit id)=false:=(rfl)
@[go_sem] theorem W2p {l:Nat} :Zn (.label l)=false:=(rfl)
attribute [go_sem] Bool.or_false Bool.false_or Bool.or_true Bool.true_or
@[go_sem] theorem X2z {y:Code} :VC P E (.seq .skip y) Q s=VC P E .skip (eth (VC P E y Q) Q) s:=(rfl)
@[go_sem] theorem J2f {l:Nat}{y:Code} :VC P E (.seq (.label l) y) Q s=VC P E (.label l) (eth (VC P E y Q) Q) s:=(rfl)
@[go_sem] theorem J2g {id:Nat}{y:Code} :VC P E (.seq (.exit id) y) Q s=VC P E (.exit id) (eth (VC P E y Q) Q) s:=(rfl)
@[go_sem] theorem J2c {y:Code} :VC P E (.seq .ret y) Q s=VC P E .ret (eth (VC P E y Q) Q) s:=(rfl)
@[go_sem] theorem J2j {x:Code} :VC P E (.scope x) Q s=VC P E x (esc Q) s:=(rfl)
@[go_sem] theorem J2l {id:Nat}{l:Lo} :VC P E (.region id l.toArray false) Q s=OL P l l (Q .normal) s:=(rfl)
@[go_sem] theorem J2p {id:Nat}{ops:La} :VC P E (.region id ops true) Q s=PW P E (.region id ops true) Q s:=(rfl)
@[go_sem] theorem J2q {c:Operand}{x y:Code} :VC P E (.cond c x y) Q s=CK (s.ev c) (VC P E x Q s) (VC P E y Q s):=(rfl)
@[go_sem] theorem J2r {id:Nat}{c:Code} :VC P E (.block id c) Q s=VC P E c (ebl id Q) s:=(rfl)
@[go_sem] theorem J2o {id:Nat} :VC P E (.exit id) Q s=Q (.exit id) s:=(rfl)
@[go_sem] theorem J2k :VC P E .ret Q s=Q .ret s:=(rfl)
@[go_sem] theorem J2m {c:Code} :VC P E (.loop c) Q s=PW P E (.loop c) Q s:=(rfl)
@[go_sem] theorem U2l {K:Pf} :eth K Q .normal s=K s:=(rfl)
@[go_sem] theorem U2j {K:Pf} :eth K Q .ret s=Q .ret s:=(rfl)
@[go_sem] theorem U2n {K:Pf}{id:Nat} :eth K Q (.exit id) s=Q (.exit id) s:=(rfl)
@[go_sem] theorem U2k {K:Pf} :ZI K Q .normal s=K s:=(rfl)
@[go_sem] theorem U2i {K:Pf} :ZI K Q .ret s=Q .ret s:=(rfl)
@[go_sem] theorem U2m {K:Pf}{id:Nat} :ZI K Q (.exit id) s=Q (.exit id) s:=(rfl)
@[go_sem] theorem U2p :esc Q .normal s=Q .normal s:=(rfl)
@[go_sem] theorem U2o :esc Q .ret s=Q .ret s:=(rfl)
@[go_sem] theorem U2q {id:Nat} :esc Q (.exit id) s=Q (.exit id) s:=(rfl)
@[go_sem] theorem H2i {id:Nat} :ebl id Q .normal s=Q .normal s:=(rfl)
@[go_sem] theorem H2h {id:Nat} :ebl id Q .ret s=Q .ret s:=(rfl)
@[go_sem] theorem H2j {id:Nat} :ebl id Q (.exit id) s=Q .normal s:=by simp[ebl,XG]
theorem x1m {id id':Nat}(h:id'≠id):ebl id Q (.exit id') s=Q (.exit id') s:=by simp[ebl,XG,h]
attribute [go_sem] x1m
@[go_sem] theorem k2r {x y:Prop} :CK (.sc (.bool true)) x y=x:=by simp[CK,CK0]
@[go_sem] theorem k2s {x y:Prop} :CK (.sc (.bool false)) x y=y:=by simp[CK,CK0]
@[go_sem] theorem k2m {x y:Prop} :GK (some true) true x y=x:=by simp[GK,GK0]
@[go_sem] theorem k2n {x y:Prop} :GK (some true) false x y=y:=by simp[GK,GK0]
@[go_sem] theorem k2o {x y:Prop} :GK (some false) true x y=y:=by simp[GK,GK0]
@[go_sem] theorem k2p {x y:Prop} :GK (some false) false x y=x:=by simp[GK,GK0]
@[go_sem] theorem j2o {ops:Lo} :OL P ops [] K s=K s:=(rfl)
@[go_sem] theorem j2n {ops rest:Lo}{op:Op} :OL P ops (⟨d,op,ty,pos,af,none⟩::rest) K s=OC P ⟨d,op,ty,pos,af,none⟩ (OL P ops rest K) s:=(rfl)
@[go_sem] theorem j2m {ops rest:Lo}{op:Op}{j:Nat}{want:Bool} :OL P ops (⟨d,op,ty,pos,af,some (j,want)⟩::rest) K s=
 GK (ZR ops s j want) want (OC P ⟨d,op,ty,pos,af,some (j,want)⟩ (OL P ops rest K) s) (OL P ops rest K (s.put d (.tup []))):=rfl
def H2o (ops:List Oper)(j:Nat):Option Tmp:=(ops[j]?).bind (·.dst)
@[go_sem] theorem W2v {ops:Lo}{j:Nat}{want:Bool} :ZR ops s j want=match (ops[j]?).bind (·.dst) with | some t=>gv (s.pa.getD t .junk) want | none=>none:=by
 unfold ZR;cases h:ops[j]? with
 | none=>rfl
 | some o=>cases h2:o.dst with
  | none=>simp only[Option.bind_some,h2]
  | some t=>simp only[Option.bind_some,h2]
@[go_sem] theorem W2u {b want:Bool} :gv (.sc (.bool b)) want=some b:=(rfl)
@[go_sem] theorem W2t {want:Bool} :gv (.tup []) want=some (!want):=(rfl)
@[go_sem] theorem j2u {x:Operand} :OC P ⟨d,.move x,ty,pos,af,gd⟩ K s=K (s.put d (s.ev x)):=(rfl)
@[go_sem] theorem k2k {x:Operand} :OC P ⟨d,.assign x,ty,pos,af,gd⟩ K s=K (s.put d (s.ev x)):=(rfl)
@[go_sem] theorem j2s {c x y:Operand} :OC P ⟨d,.pick c x y,ty,pos,af,gd⟩ K s=Z3 s (fun p s'=>K (s'.put d p)) (UG (s.ev c) (s.ev x) (s.ev y)):=(rfl)
@[go_sem] theorem k2l {t:Lt} :OC P ⟨d,.alloc t,ty,pos,af,gd⟩ K s=Z3 s (fun p s'=>K (s'.put d p)) (HC (ti P t)):=(rfl)
@[go_sem] theorem k2i {t:Lt}{x:Operand} :OC P ⟨d,.box t x,ty,pos,af,gd⟩ K s=Z3 s (fun p s'=>K (s'.put d p)) (qd (s.ev x)):=(rfl)
@[go_sem] theorem k2h {t:Lt}{l:List (Nat×Operand)} :OC P ⟨d,.build t l.toArray,ty,pos,af,gd⟩ K s=Z3 s (fun p s'=>K (s'.put d p)) (Gn (ti P t) (l.map fun x=>(x.1,s.ev x.2))):=(rfl)
@[go_sem] theorem k2g {t:Lt}{n:Nat}{l:List (Nat×Operand)} :OC P ⟨d,.buildSlice t n l.toArray,ty,pos,af,gd⟩ K s=Z3 s (fun p s'=>K (s'.put d p)) (Gm (ti P t) n (l.map fun x=>(x.1,s.ev x.2))):=(rfl)
@[go_sem] theorem j2x {t:Lt}{x:Operand} :OC P ⟨d,.load t x,ty,pos,af,gd⟩ K s=Z3 s (fun p s'=>K (s'.put d p)) (Yx (ti P t) (s.ev x)):=(rfl)
@[go_sem] theorem j2q {t:Lt}{x y:Operand} :OC P ⟨d,.store t x y,ty,pos,af,gd⟩ K s=Z3 s (fun p s'=>K (s'.put d p)) (HY (ti P t) (s.ev x) (s.ev y)):=(rfl)
@[go_sem] theorem j2t {x:Operand} :OC P ⟨d,.nilCheck x,ty,pos,af,gd⟩ K s=Z3 s (fun p s'=>K (s'.put d p)) (UN (s.ev x)):=(rfl)
@[go_sem] theorem j2p {op:UnOp}{t:Lt}{x:Operand} :OC P ⟨d,.unOp op t x,ty,pos,af,gd⟩ K s=Z3 s (fun p s'=>K (s'.put d p)) (Uu op (s.ev x)):=(rfl)
@[go_sem] theorem k2d {t u:Lt}{x:Operand} :OC P ⟨d,.convert t u x,ty,pos,af,gd⟩ K s=Z3 s (fun p s'=>K (s'.put d p)) (Gi (ti P t) (ti P u) (s.ev x)):=(rfl)
@[go_sem] theorem k2a {t:Lt}{x:Operand}{f:Nat} :OC P ⟨d,.fieldAddr t x f,ty,pos,af,gd⟩ K s=Z3 s (fun p s'=>K (s'.put d p)) (VR (ti P t) (s.ev x) f):=(rfl)
@[go_sem] theorem k2b {t:Lt}{x:Operand}{f:Nat} :OC P ⟨d,.field t x f,ty,pos,af,gd⟩ K s=Z3 s (fun p s'=>K (s'.put d p)) (UZ (ti P t) (s.ev x) f):=(rfl)
@[go_sem] theorem j2y {t:Lt}{x i:Operand} :OC P ⟨d,.indexAddr t x i,ty,pos,af,gd⟩ K s=Z3 s (fun p s'=>K (s'.put d p)) (UU (ti P t) (s.ev x) (s.ev i)):=(rfl)
@[go_sem] theorem j2z {t:Lt}{x i:Operand} :OC P ⟨d,.index t x i,ty,pos,af,gd⟩ K s=Z3 s (fun p s'=>K (s'.put d p)) (UT (ti P t) (s.ev x) (s.ev i)):=(rfl)
@[go_sem] theorem j2r {t:Lt}{x:Operand}{lo hi mx:Option Operand} :OC P ⟨d,.slice t x lo hi mx,ty,pos,af,gd⟩ K s=Z3 s (fun p s'=>K (s'.put d p)) (Uy (ti P t) (s.ev x) (lo.map s.ev) (hi.map s.ev) (mx.map s.ev)):=(rfl)
@[go_sem] theorem j2w {f:Fn}{bs cs:List Operand} :OC P ⟨d,.makeFunc f bs.toArray cs.toArray,ty,pos,af,gd⟩ K s=K (s.put d (.fn f (bs.map s.ev) (cs.map s.ev))):=(rfl)
@[go_sem] theorem j2v {t:Lt}{x y:Operand} :OC P ⟨d,.makeSlice t x y,ty,pos,af,gd⟩ K s=Z3 s (fun p s'=>K (s'.put d p)) (I0 P t (s.ev x) (s.ev y)):=(rfl)
def J0w (x:PV)(i:Nat):Req:=match x with | .tup vs=>if i<vs.length then .val (vs.getD i .junk) else .fail | _=> .fail
@[go_sem] theorem k2c {x:Operand}{i:Nat} :OC P ⟨d,.extract x i,ty,pos,af,gd⟩ K s=Z3 s (fun p s'=>K (s'.put d p)) (J0w (s.ev x) i):=(rfl)
@[go_sem] theorem k2f {b:Builtin}{l:List Operand}{ts:List TypeId} :OC P ⟨d,.call ⟨.builtin b,l.toArray,ts.toArray⟩,ty,pos,af,gd⟩ K s=Z3 s (fun p s'=>K (s'.put d p)) (Gl P b ts (l.map s.ev)):=(rfl)
def BK0 (P:Program)(op:BinOp)(t:TypeId)(x y:Operand)(ty:TypeId)(s:PFS)(K:PV->PFS->Prop):Prop:=
 match Kw P (.binOp op t x y ty) s.ev with
 | some (ne,es)=> ∀b:Bool,(b=true->es= [])->K (.sc (.bool (b !=ne))) s
 | none=>VY s K (Zh op (ti P t) (s.ev x) (s.ev y))
theorem w0k {K:Pw}{r:Req}{p:PV}{s':PFS}(h:r.run s=some (p,s'))(hk:K p s'):VY s K r:=by
 cases r with
 | val v=>cases h;exact hk
 | need c v=>
  simp only[Req.run] at h;by_cases hc:c=true;rw[BC hc] at h;cases h;exact⟨hc,hk⟩;rw[BA hc] at h;cases h
 | load gl i off n agg=>
  simp only[Req.run] at h;by_cases hc:off+n<=((if gl then s.st else s.L).getD i []).length;rw[BC hc] at h;cases h;exact⟨hc,hk⟩;rw[BA hc] at h;cases h
 | store gl i off cs=>
  simp only[Req.run] at h;by_cases hc:off+cs.length<=((if gl then s.st else s.L).getD i []).length/\0<((if gl then s.st else s.L).getD i []).length;rw[BC hc] at h;cases h;exact⟨hc,hk⟩;rw[BA hc] at h;cases h
 | box cs=>cases h;exact hk
 | mks cs len=>cases h;exact hk
 | newsl es=>cases h;exact hk
 | app t es ys e=>
  simp only[Req.run] at h;split at h;rename_i hc;refine⟨hc,?_⟩;cases t with
  | own k=>
   simp only at h;by_cases hT:s.T.getD k (0,0)=(es.length,e.sz);rw[BC hT] at h;cases h;exact⟨hT,hk⟩;rw[BA hT] at h;cases h
  | full=>
   simp only at h;by_cases hT:es.length=0\/0<ys.length;rw[BC hT] at h;cases h;exact⟨hT,hk⟩;rw[BA hT] at h;cases h
  | _=>cases h
  cases h
 | fail=>cases h
theorem X2e {op:BinOp}{t u:Lt}{x y:Operand}(h:BK0 P op t x y u s (fun p s'=>K (s'.put d p))):PO P ⟨d,.binOp op t x y u,ty,pos,af,gd⟩ K s:=by unfold BK0 at h;unfold PO;simp only;split;rename_i hn;rw[hn] at h;exact h;rename_i hn;rw[hn] at h;obtain⟨p,s',hr,hk⟩:=kd h;have e2:K6 (.binOp op t x y u) s.ev=none:=rfl;simp only[e2,VA,req,hr];exact hk
theorem Q2m {op:BinOp}{t u:Lt}{x y:Operand}(h:PO P ⟨d,.binOp op t x y u,ty,pos,af,gd⟩ K s):BK0 P op t x y u s (fun p s'=>K (s'.put d p)):=by unfold PO at h;unfold BK0;simp only at h;split;rename_i hn;rw[hn] at h;exact h;rename_i hn;rw[hn] at h;have e2:K6 (.binOp op t x y u) s.ev=none:=rfl;simp only[e2,VA,req] at h;split at h;rename_i s' hs;split at hs;rename_i p s1 hr;cases hs;exact w0k hr h;cases hs;exact h.elim
theorem X2t {op:BinOp}{t u:Lt}{x y:Operand} :OC0 P ⟨d,.binOp op t x y u,ty,pos,af,gd⟩ K s=BK0 P op t x y u s (fun p s'=>K (s'.put d p)):=by cases op<;>first | rfl | exact propext ⟨Q2m,X2e⟩
def CC0 (P:Program)(f:PV)(as:List PV)(s:PFS)(K:PV->Qd->Prop):Prop:=
 match f with
 | .fn (.func g) bs cs=>(bs++as++cs).all PV.closed2=true/\CallsOr P g ((bs++as++cs).map PV.forget2) s.st K
 | _=>False
theorem X2r {f:Operand}{l:List Operand}{ts:Array TypeId}(h:CC0 P (s.ev f) (l.map s.ev) s (fun r st=>K (s.recv d r st))):OC0 P ⟨d,.call ⟨.value f,l.toArray,ts⟩,ty,pos,af,gd⟩ K s:=by unfold OC0;simp only[Ip];unfold PO;have e1:Kw P (.call ⟨.value f,l.toArray,ts⟩) s.ev=none:=rfl;simp only[e1,K6];unfold CC0 at h;split at h;rename_i g bs cs hf;simp only[hf];exact h;exact h.elim
theorem w1z {f:Operand}{l:List Operand}{ts:Array TypeId}(h:OC0 P ⟨d,.call ⟨.value f,l.toArray,ts⟩,ty,pos,af,gd⟩ K s):CC0 P (s.ev f) (l.map s.ev) s (fun r st=>K (s.recv d r st)):=by unfold OC0 at h;simp only[Ip] at h;unfold PO at h;have e1:Kw P (.call ⟨.value f,l.toArray,ts⟩) s.ev=none:=rfl;simp only[e1,K6] at h;unfold CC0;split;rename_i g bs cs hf;simp only[hf] at h;exact h;rename_i hn;split at h;rename_i g' bs cs hf;split at hf;rename_i f' bs' cs' hf';exact absurd hf' (hn _ _ _);cases hf;simp only[VA,req,Req.run] at h
theorem X2s {f:Operand}{l:List Operand}{ts:Array TypeId} :OC0 P ⟨d,.call ⟨.value f,l.toArray,ts⟩,ty,pos,af,gd⟩ K s=CC0 P (s.ev f) (l.map s.ev) s (fun r st=>K (s.recv d r st)):=propext ⟨w1z,X2r⟩
theorem U0o {g:FuncId}{bs cs as:Lp}{K:PV->Qd->Prop} :CC0 P (.fn (.func g) bs cs) as s K=((bs++as++cs).all PV.closed2=true/\CallsOr P g ((bs++as++cs).map PV.forget2) s.st K):=(rfl)
def BK (P:Program)(op:BinOp)(t:TypeId)(x y:Operand)(ty:TypeId)(s:PFS)(K:PV->PFS->Prop)[Stop K]:Prop:=
 match Kw P (.binOp op t x y ty) s.ev with
 | some (ne,es)=> ∀b:Bool,(b=true->es= [])->K (.sc (.bool (b !=ne))) s
 | none=>Z3 s K (Zh op (ti P t) (s.ev x) (s.ev y))
def CC (P:Program)(f:PV)(as:List PV)(s:PFS)(K:PV->Qd->Prop)[Stop K]:Prop:=CC0 P f as s K
@[go_sem] theorem k2j {op:BinOp}{t u:Lt}{x y:Operand} :OC P ⟨d,.binOp op t x y u,ty,pos,af,gd⟩ K s=BK P op t x y u s (fun p s'=>K (s'.put d p)):=X2t
@[go_sem] theorem k2e {f:Operand}{l:List Operand}{ts:Array TypeId} :OC P ⟨d,.call ⟨.value f,l.toArray,ts⟩,ty,pos,af,gd⟩ K s=CC P (s.ev f) (l.map s.ev) s (fun r st=>K (s.recv d r st)):=X2s
@[go_sem] theorem k2t {g:FuncId}{bs cs as:Lp}{K:PV->Qd->Prop}(hc:Qm P g=true):CC P (.fn (.func g) bs cs) as s K=((bs++as++cs).all PV.closed2=true/\PC P g ((bs++as++cs).map PV.forget2) s.st K):=by show CC0 P _ _ _ _=_;rw[U0o,CallsOr,BC hc];rfl
@[go_sem] theorem k2u {g:FuncId}{bs cs as:Lp}{K:PV->Qd->Prop}(hc:Qm P g=false):CC P (.fn (.func g) bs cs) as s K=((bs++as++cs).all PV.closed2=true/\EC P g ((bs++as++cs).map PV.forget2) s.st K):=by show CC0 P _ _ _ _=_;rw[U0o,CallsOr,BA (by rw[hc];decide)];rfl
section
variable {K:PV->PFS->Prop}
@[go_sem] theorem z2w {v:PV} :Z3 s K (.val v)=K v s:=(rfl)
@[go_sem] theorem x2a {c:Bool}{v:PV} :Z3 s K (.need c v)=(c=true/\K v s):=(rfl)
@[go_sem] theorem x2c {i off n:Nat}{agg:Bool} :Z3 s K (.load false i off n agg)=(off+n<=(s.L.getD i []).length/\K (if agg then .agg (((s.L.getD i []).drop off).take n) else(s.L.getD i []).getD off .junk) s):=(rfl)
@[go_sem] theorem x2d {i off n:Nat}{agg:Bool} :Z3 s K (.load true i off n agg)=(off+n<=(s.st.getD i []).length/\K (if agg then .agg (((s.st.getD i []).drop off).take n) else(s.st.getD i []).getD off .junk) s):=(rfl)
@[go_sem] theorem z2x {i off:Nat}{cs:Lp} :Z3 s K (.store false i off cs)=((off+cs.length<=(s.L.getD i []).length/\0<(s.L.getD i []).length)/\K .junk { s with L:=s.L.set i (Qu (s.L.getD i []) off cs) }):=(rfl)
@[go_sem] theorem z2y {i off:Nat}{cs:Lp} :Z3 s K (.store true i off cs)=((off+cs.length<=(s.st.getD i []).length/\0<(s.st.getD i []).length)/\K .junk { s with st:=s.st.set i (Qu (s.st.getD i []) off cs) }):=(rfl)
@[go_sem] theorem x2e {cs:Lp} :Z3 s K (.box cs)=K (.lp s.L.length 0) { s with L:=s.L++ [cs] } :=(rfl)
@[go_sem] theorem x2b {cs:Lp}{len:Nat} :Z3 s K (.mks cs len)=K (.ms false s.L.length 0 len) { s with L:=s.L++ [cs] } :=(rfl)
@[go_sem] theorem z2z {es:Lp} :Z3 s K (.newsl es)=K (.sl .full es) s:=(rfl)
def Gv (es ys:List PV)(e:EI):Prop:=e.zok=true/\es.length+ys.length<=1152921504606846976/\(es.length+ys.length)*e.by_<=140737488355328/\
 es.all (fun x=>x.cells.length==e.sz)=true/\ys.all (fun x=>(x.cells.length==e.sz)&&x.cells.all PV.cellOK)=true
@[go_sem] theorem x2f {k:Nat}{es ys:Lp}{e:EI} :Z3 s K (.app (.own k) es ys e)=(Gv es ys e/\s.T.getD k (0,0)=(es.length,e.sz)/\K (.sl (.own k) (es++ys)) { s with T:=s.T.set k (es.length+ys.length,e.sz) }):=(rfl)
@[go_sem] theorem x2i {es ys:Lp}{e:EI} :Z3 s K (.app .full es ys e)=(Gv es ys e/\(es.length=0\/0<ys.length)/\K (.sl (.own s.T.length) (es++ys)) { s with T:=s.T++ [(es.length+ys.length,e.sz)] }):=(rfl)
@[go_sem high] theorem x2h {ys:Lp}{e:EI} :Z3 s K (.app .full [] ys e)=(Gv [] ys e/\K (.sl (.own s.T.length) ([]++ys)) { s with T:=s.T++ [(([]:Lp).length+ys.length,e.sz)] }):=by show(Gv [] ys e/\(([]:Lp).length=0\/0<ys.length)/\_)=_;simp only[D6,true_or,LD]
@[go_sem high] theorem x2g {es ys:Lp}{y:PV}{e:EI} :Z3 s K (.app .full es (y::ys) e)=(Gv es (y::ys) e/\K (.sl (.own s.T.length) (es++y::ys)) { s with T:=s.T++ [(es.length+(y::ys).length,e.sz)] }):=by show(Gv es (y::ys) e/\(es.length=0\/0<(y::ys).length)/\_)=_;simp only[C1,Nat.succ_pos,or_true,LD]
theorem Z2s {c:Prop}[Decidable c]{r:Req} :Z3 s K (if c then r else .fail)=(c/\Z3 s K r):=by by_cases h:c;rw[BC h];simp[h];rw[BA h];simp only[Z3,VY,h,false_and]
attribute [go_sem] Z2s
end
section
variable {pa:List PV} {L st:Qd} {T:List (Nat×Nat)}
@[go_sem] theorem K2z {t:Tmp}{v:PV} :(PFS.mk pa L T st).put (some t) v=⟨pa.set t v,L,T,st⟩:=(rfl)
@[go_sem] theorem V2a {v:PV} :(PFS.mk pa L T st).put none v=⟨pa,L,T,st⟩:=(rfl)
@[go_sem] theorem U2f {t:Tmp} :(PFS.mk pa L T st).ev (.tmp t)=pa.getD t .junk:=(rfl)
@[go_sem] theorem U2h {v:Value} :(PFS.mk pa L T st).ev (.const v)=Xb v:=(rfl)
@[go_sem] theorem U2g {f:FuncId} :(PFS.mk pa L T st).ev (.func f)= .fn (.func f) [] []:=(rfl)
@[go_sem] theorem K2i {d:Po}{sz:Nat}{es:Lp}{st':Qd} :(PFS.mk pa L T st).recv d (.sl (.fresh sz) es) st'=(PFS.mk pa L (T++ [(es.length,sz)]) st').put d (.sl (.own T.length) es):=(rfl)
@[go_sem] theorem K2e {d:Po}{es:Lp}{st':Qd} :(PFS.mk pa L T st).recv d (.sl .no es) st'=(PFS.mk pa L T st').put d (.sl .no es):=(rfl)
@[go_sem] theorem K2d {d:Po}{v:Value}{st':Qd} :(PFS.mk pa L T st).recv d (.sc v) st'=(PFS.mk pa L T st').put d (.sc v):=(rfl)
@[go_sem] theorem K2k {d:Po}{v:Lp}{st':Qd} :(PFS.mk pa L T st).recv d (.agg v) st'=(PFS.mk pa L T st').put d (.agg v):=(rfl)
@[go_sem] theorem K2c {d:Po}{v:Lp}{st':Qd} :(PFS.mk pa L T st).recv d (.tup v) st'=(PFS.mk pa L T st').put d (.tup v):=(rfl)
@[go_sem] theorem K2h {d:Po}{i o:Nat}{st':Qd} :(PFS.mk pa L T st).recv d (.gp i o) st'=(PFS.mk pa L T st').put d (.gp i o):=(rfl)
end
end
@[go_sem] theorem K2r {b:Bool} :Xb (.bool b)= .sc (.bool b):=(rfl)
@[go_sem] theorem K2q {k:IntKind}{n:Int} :Xb (.int k n)= .sc (.int k n):=(rfl)
@[go_sem] theorem K2m {s:ByteArray} :Xb (.string s)= .sc (.string s):=(rfl)
@[go_sem] theorem K2n {a:Option Addr} :Xb (.pointer a)= .sc (.pointer a):=(rfl)
@[go_sem] theorem K2p :Xb (.slice none 0 0)= .sl .full []:=(rfl)
@[go_sem] theorem K2o :Xb .nilFunc= .sc .nilFunc:=(rfl)
@[go_sem] theorem K2s {l:Ps} :Xb (.agg l.toArray)= .agg (l.map Kv):=by simp[Xb]
@[go_sem] theorem K2y {b:Bool} :Kv (.bool b)= .sc (.bool b):=(rfl)
@[go_sem] theorem K2x {k:IntKind}{n:Int} :Kv (.int k n)= .sc (.int k n):=(rfl)
@[go_sem] theorem K2t {s:ByteArray} :Kv (.string s)= .sc (.string s):=(rfl)
@[go_sem] theorem K2u {a:Option Addr} :Kv (.pointer a)= .sc (.pointer a):=(rfl)
@[go_sem] theorem K2w :Kv (.slice none 0 0)= .sl .full []:=(rfl)
@[go_sem] theorem K2v :Kv .nilFunc= .sc .nilFunc:=(rfl)
@[go_sem] theorem q2e {cs:Lp} :(PV.agg cs).cells=cs:=(rfl)
@[go_sem] theorem H2t {v:Value} :(PV.sc v).cells= [.sc v]:=(rfl)
@[go_sem] theorem H2s {t:Tag}{es:Lp} :(PV.sl t es).cells= [.sl t es]:=(rfl)
@[go_sem] theorem H2v {g:Bool}{i o n:Nat} :(PV.ms g i o n).cells= [.ms g i o n]:=(rfl)
@[go_sem] theorem H2x {i o:Nat} :(PV.lp i o).cells= [.lp i o]:=(rfl)
@[go_sem] theorem q2a {i o:Nat} :(PV.gp i o).cells= [.gp i o]:=(rfl)
@[go_sem] theorem q2d {cs:Lp}{o:Nat} :(PV.ep cs o).cells= [.ep cs o]:=(rfl)
@[go_sem] theorem q2c {f:Fn}{bs cs:Lp} :(PV.fn f bs cs).cells= [.fn f bs cs]:=(rfl)
@[go_sem] theorem H2u {es:Lp}{n:Nat} :(PV.pre es n).cells= [.pre es n]:=(rfl)
@[go_sem] theorem H2y :PV.junk.cells= [.junk]:=(rfl)
@[go_sem] theorem H2r {vs:Lp} :(PV.tup vs).cells= [.tup vs]:=(rfl)
attribute [go_sem] PV.cellOK Value.oneCell' PV.closed2 PV.closed1 PV.closed PV.forget2 PV.forget1 PV.forgetAll
@[go_sem] theorem z2l {T:Pu}{k:IntKind}{a b:Int} :Zh .add T (.sc (.int k a)) (.sc (.int k b))= .val (.sc (.int k (k.wrap (a+b)))):=by simp[Zh,Jo]
@[go_sem] theorem q2n {T:Pu}{k:IntKind}{a b:Int} :Zh .sub T (.sc (.int k a)) (.sc (.int k b))= .val (.sc (.int k (k.wrap (a-b)))):=by simp[Zh,Jo]
@[go_sem] theorem z2b {T:Pu}{k:IntKind}{a b:Int} :Zh .mul T (.sc (.int k a)) (.sc (.int k b))= .val (.sc (.int k (k.wrap (a*b)))):=by simp[Zh,Jo]
@[go_sem] theorem q2u {T:Pu}{k:IntKind}{a b:Int} :Zh .quo T (.sc (.int k a)) (.sc (.int k b))= .need (b !=0) (.sc (.int k (k.wrap (a.tdiv b)))):=by simp[Zh,Jo]
@[go_sem] theorem q2t {T:Pu}{k:IntKind}{a b:Int} :Zh .rem T (.sc (.int k a)) (.sc (.int k b))= .need (b !=0) (.sc (.int k (a.tmod b))):=by simp[Zh,Jo]
@[go_sem] theorem z2k {T:Pu}{k:IntKind}{a b:Int} :Zh .and T (.sc (.int k a)) (.sc (.int k b))= .val (.sc (.int k (Xm k a b))):=by simp[Zh,Jo]
@[go_sem] theorem q2x {T:Pu}{k:IntKind}{a b:Int} :Zh .or T (.sc (.int k a)) (.sc (.int k b))= .val (.sc (.int k (bOr k a b))):=by simp[Zh,Jo]
@[go_sem] theorem q2m {T:Pu}{k:IntKind}{a b:Int} :Zh .xor T (.sc (.int k a)) (.sc (.int k b))= .val (.sc (.int k (qf k a b))):=by simp[Zh,Jo]
@[go_sem] theorem z2j {T:Pu}{k:IntKind}{a b:Int} :Zh .andNot T (.sc (.int k a)) (.sc (.int k b))= .val (.sc (.int k (yw k a b))):=by simp[Zh,Jo]
@[go_sem] theorem z2g {T:Pu}{k:IntKind}{a b:Int} :Zh .eql T (.sc (.int k a)) (.sc (.int k b))= .val (.sc (.bool (a==b))):=by simp[Zh,Jo]
@[go_sem] theorem z2a {T:Pu}{k:IntKind}{a b:Int} :Zh .neq T (.sc (.int k a)) (.sc (.int k b))= .val (.sc (.bool (a !=b))):=by simp[Zh,Jo]
@[go_sem] theorem z2c {T:Pu}{k:IntKind}{a b:Int} :Zh .lss T (.sc (.int k a)) (.sc (.int k b))= .val (.sc (.bool (decide (a<b)))):=by simp[Zh,Jo]
@[go_sem] theorem z2d {T:Pu}{k:IntKind}{a b:Int} :Zh .leq T (.sc (.int k a)) (.sc (.int k b))= .val (.sc (.bool (decide (a<=b)))):=by simp[Zh,Jo]
@[go_sem] theorem z2e {T:Pu}{k:IntKind}{a b:Int} :Zh .gtr T (.sc (.int k a)) (.sc (.int k b))= .val (.sc (.bool (decide (a>b)))):=by simp[Zh,Jo]
@[go_sem] theorem z2f {T:Pu}{k:IntKind}{a b:Int} :Zh .geq T (.sc (.int k a)) (.sc (.int k b))= .val (.sc (.bool (decide (a>=b)))):=by simp[Zh,Jo]
@[go_sem] theorem q2q {T:Pu}{k k':IntKind}{a b:Int} :Zh .shl T (.sc (.int k a)) (.sc (.int k' b))= .need (decide (0<=b)) (.sc (.int k (XH k a b))):=(rfl)
@[go_sem] theorem q2p {T:Pu}{k k':IntKind}{a b:Int} :Zh .shr T (.sc (.int k a)) (.sc (.int k' b))= .need (decide (0<=b)) (.sc (.int k (Zq k a b))):=(rfl)
@[go_sem] theorem q2r {T:Pu}{a b:ByteArray} :Zh .eql T (.sc (.string a)) (.sc (.string b))= .val (.sc (.bool (a.toList==b.toList))):=(rfl)
@[go_sem] theorem q2o {T:Pu}{a b:ByteArray} :Zh .neq T (.sc (.string a)) (.sc (.string b))= .val (.sc (.bool (!(a.toList==b.toList)))):=(rfl)
@[go_sem] theorem q2s {T:Pu}{a b:ByteArray} :Zh .add T (.sc (.string a)) (.sc (.string b))= .need (decide (a.size+b.size<=9223372036854775807)) (.sc (.string (a++b))):=(rfl)
@[go_sem] theorem z2i {x:Bool}{n:Nat}{z:Pr}{a b:Bool} :Zh .eql (some ⟨x,n,.bool,z⟩) (.sc (.bool a)) (.sc (.bool b))= .val (.sc (.bool (a==b))):=(rfl)
@[go_sem] theorem z2h {x:Bool}{n:Nat}{z:Pr}{a b:Bool} :Zh .neq (some ⟨x,n,.bool,z⟩) (.sc (.bool a)) (.sc (.bool b))= .val (.sc (.bool (!(a==b)))):=(rfl)
@[go_sem] theorem q2w {x:Bool}{n:Nat}{z:Pr}{i o:Nat} :Zh .eql (some ⟨x,n,.ptr,z⟩) (.gp i o) (.sc (.pointer none))= .val (.sc (.bool false)):=(rfl)
@[go_sem] theorem q2v {x:Bool}{n:Nat}{z:Pr}{i o:Nat} :Zh .neq (some ⟨x,n,.ptr,z⟩) (.gp i o) (.sc (.pointer none))= .val (.sc (.bool true)):=(rfl)
@[go_sem] theorem q2z {x:Bool}{n:Nat}{z:Pr} :Zh .eql (some ⟨x,n,.ptr,z⟩) (.sc (.pointer none)) (.sc (.pointer none))= .val (.sc (.bool true)):=(rfl)
@[go_sem] theorem q2y {x:Bool}{n:Nat}{z:Pr} :Zh .neq (some ⟨x,n,.ptr,z⟩) (.sc (.pointer none)) (.sc (.pointer none))= .val (.sc (.bool false)):=(rfl)
attribute [go_sem] Uu Gi UZ UU UT VW GI GH GF GG wY ya Uy IB Gn Gm Hk xK xv PV.scal Gl Yx HY UG UN HC qd I0 J0w Kw
def fld (x:Option (Nat×EI))(k:Nat->PV):Req:=match x with | some (o,e)=>if e.sz=0 then .fail else .val (k o) | none=> .fail
@[congr] theorem Y2w {x x':Option (Nat×EI)}{k:Nat->PV}(h:x=x'):fld x k=fld x' k:=by rw[h]
@[go_sem] theorem Y2v {o i:Nat}{sz b:Nat}{a z u:Bool}{k:Nat->PV} :fld (some (o,⟨i,sz+1,b,a,z,u⟩)) k= .val (k o):=by simp[fld]
@[go_sem] theorem U2c {a:Bool}{n f i off:Nat}{fs:List (Nat×EI)}{z:Pr} :VR (some ⟨a,n,.struct fs,z⟩) (.lp i off) f=fld fs[f]? (fun o=> .lp i (off+o)):=by unfold VR fld;rfl
@[go_sem] theorem U2d {a:Bool}{n f i off:Nat}{fs:List (Nat×EI)}{z:Pr} :VR (some ⟨a,n,.struct fs,z⟩) (.gp i off) f=fld fs[f]? (fun o=> .gp i (off+o)):=by unfold VR fld;rfl
@[go_sem] theorem U2e {a:Bool}{n f off:Nat}{cs:Lp}{fs:List (Nat×EI)}{z:Pr} :VR (some ⟨a,n,.struct fs,z⟩) (.ep cs off) f=fld fs[f]? (fun o=> .ep cs (off+o)):=by unfold VR fld;rfl
attribute [go_sem] LM F4 List.getD_cons_succ LJ List.getD_nil List.drop_succ_cons EN List.take_succ_cons List.take_zero C1 D6 EH CQ
attribute [go_sem] List.getElem?_cons_succ List.getElem?_cons_zero DX LA List.all_cons List.all_nil BK VB List.replicate_succ List.replicate_zero Option.map_some Option.map_none Option.bind_some
@[go_sem] theorem V2d {α:Type}{l:List α}{n:Nat} :Qu l n []=l:=by simp[Qu]
@[go_sem] theorem V2e {α:Type}{x y:α}{l r:List α} :Qu (x::l) 0 (y::r)=y::Qu l 0 r:=by simp[Qu]
@[go_sem] theorem V2f {α:Type}{x:α}{l r:List α}{n:Nat} :Qu (x::l) (n+1) r=x::Qu l n r:=by simp only[Qu,List.take_succ_cons,EH];rw[show n+1+r.length=(n+r.length)+1 from oG,List.drop_succ_cons]
@[go_sem] theorem q2g {P:Pg}{fz:Option Nat}{fn:Func}{Q:PV->Qd->Prop}{s:PFS} :Gr P fz fn Q .ret s= ∃r,U8 P fz s fn.results.toList=some r/\Q r s.st:=(rfl)
@[go_sem] theorem q2h {P:Pg}{fz:Option Nat}{fn:Func}{Q:PV->Qd->Prop}{s:PFS} :Gr P fz fn Q .normal s= ∃r,U8 P fz s fn.results.toList=some r/\Q r s.st:=(rfl)
attribute [go_sem] U8 GW Ii Yn Gv
attribute [go_sem] BU exists_eq_left' exists_eq_left LD and_true q_i BN CU B1 DC ne_eq not_true_eq_false not_false_eq_true FF Bool.and_true LC List.range'_succ List.range'_zero B9
attribute [go_sem] FU Bool.not_false BH BR FV D4 DT B3 and_self decide_true decide_false EG bne_self_eq_false BD
theorem H1g {α β:Type}[Inhabited α](f:α->β)(l:List α)(k:Nat)(d:β)(h:k<l.length):(l.map f).getD k d=f (l.getD k default):=by simp[q_a,h]
attribute [go_sem] H1g
def PV.lim1 (nL nT:Nat):PV->Bool
 | .lp i _=>decide (i<nL)
 | .ms false i _ _=>decide (i<nL)
 | .mr i _ _=>decide (i<nL)
 | .sl (.own k) _=>decide (k<nT)
 | .agg _ | .tup _ | .fn _ _ _=>false
 | _=>true
def PV.lim (nL nT:Nat):PV->Bool
 | .agg cs=>cs.all (PV.lim1 nL nT)
 | .tup cs=>cs.all (PV.lim1 nL nT)
 | .fn _ bs cs=>bs.all (PV.lim1 nL nT)&&cs.all (PV.lim1 nL nT)
 | p=>p.lim1 nL nT
theorem RepF.lim1 {w g F T v p nL nT}(h:RepF w g F T v p)(hp:p.lim1 nL nT=true){F':Fr}(h1: ∀i,i<F.nl->i<nL->i<F'.nl/\F'.lmu i=F.lmu i)(h2:F'.tb=F.tb):RepF w g F' (T.take nT) v p:=by
 cases h with
 | base _ _ h=>exact .base _ _ h
 | lp i off hi=>
  obtain⟨a,b⟩:=h1 i hi (q_b hp);rw[<-b];exact .lp i off a
 | lms i off len cap hi hcap=>
  obtain⟨a,b⟩:=h1 i hi (q_b hp);rw[<-b];exact .lms i off len cap a hcap
 | lmr i len cap hi hcap=>
  obtain⟨a,b⟩:=h1 i hi (q_b hp);rw[<-b];exact .lmr i len cap a hcap
 | lmr0 i ad hi=>exact .lmr0 i ad (h1 i hi (q_b hp)).1
 | own k es v h hk hle hr=>
  have hn:k<nT:=q_b hp;have e:(T.take nT).getD k (0,0)=T.getD k (0,0):=WS _ _ _ _ hn;exact .own k es v h (by simp;omega) (by rw[e];exact hle) (fun he=>by rw[e] at he⊢;rw[h2];exact hr he)
 | agg=>cases hp
 | tup=>cases hp
 | fn=>cases hp
theorem RepF.lim {w g F T v p nL nT}(h:RepF w g F T v p)(hp:p.lim nL nT=true){F':Fr}(h1: ∀i,i<F.nl->i<nL->i<F'.nl/\F'.lmu i=F.lmu i)(h2:F'.tb=F.tb):RepF w g F' (T.take nT) v p:=by
 cases h with
 | base _ _ h=>exact .base _ _ h
 | agg vs cs hl h=>exact .agg vs cs hl fun j hj=>(h j hj).lim1 (List.all_eq_true.1 hp _ (Q8 _ _ _ hj)) h1 h2
 | tup vs cs hl h=>exact .tup vs cs hl fun j hj=>(h j hj).lim1 (List.all_eq_true.1 hp _ (Q8 _ _ _ hj)) h1 h2
 | fn f us vs bs cs hk hl h0 h=>
  have hp:=CR.1 hp;exact .fn f us vs bs cs hk hl (fun j hj=>(h0 j hj).lim1 (List.all_eq_true.1 hp.1 _ (Q8 _ _ _ hj)) h1 h2) (fun j hj=>(h j hj).lim1 (List.all_eq_true.1 hp.2 _ (Q8 _ _ _ hj)) h1 h2)
 | lp i off hi=>exact(RepF.lp (T:=T) i off hi).lim1 hp h1 h2
 | lms i off len cap hi hcap=>exact(RepF.lms (T:=T) i off len cap hi hcap).lim1 hp h1 h2
 | lmr i len cap hi hcap=>exact(RepF.lmr (T:=T) i len cap hi hcap).lim1 hp h1 h2
 | lmr0 i ad hi=>exact(RepF.lmr0 (T:=T) i ad hi).lim1 hp h1 h2
 | own k es v h hk hle hr=>exact(RepF.own k es v h hk hle hr).lim1 hp h1 h2
def Jm :List Bool->List PV->List PV
 | b::bs,p::ps=>(if b then p else .junk)::Jm bs ps
 | [],ps=>ps.map fun _=> .junk
 | _,[]=> []
theorem zR : ∀(bs:Ld) (ps:Lp),(Jm bs ps).length=ps.length
 | [],[]=>rfl
 | [],p::ps=>by simp[Jm]
 | b::bs,[]=>rfl
 | b::bs,p::ps=>by simp[Jm,zR bs ps]
theorem Q0u : ∀(bs:Ld) (ps:Lp) (j:Nat),(Jm bs ps).getD j .junk=ps.getD j .junk\/(Jm bs ps).getD j .junk= .junk
 | [],ps,j=>by refine .inr ?_;simp only[Jm,q_a,B8];cases ps[j]?<;>rfl
 | b::bs,[],j=> .inl rfl
 | b::bs,p::ps,j=>by
  cases j with
  | zero=>cases b with
   | true=>exact .inl rfl
   | false=>exact .inr rfl
  | succ j=>simpa[Jm] using Q0u bs ps j
def PFS.mask (bs:List Bool)(nL nT:Nat)(s:PFS):PFS:=⟨Jm bs s.pa,s.L.take nL,s.T.take nT,s.st⟩
def PFS.maskOK (bs:List Bool)(nL nT:Nat)(s:PFS):Prop:=(Jm bs s.pa).all (PV.lim nL nT)=true/\(s.L.take nL).all (fun o=>o.all (PV.lim nL nT))=true
theorem Hp {L:Qd}{nL i:Nat}(h:(L.take nL).getD i []≠ []):i<nL/\(L.take nL).getD i []=L.getD i []:=by by_cases hi:i<nL;exact⟨hi,WS _ _ _ _ hi⟩;exfalso;apply h;rw[q_a,C2 (by simp;omega)];rfl
theorem G0 {E:Ent}{bs:Ld}{nL nT:Nat}{s:PFS}(hm:s.maskOK bs nL nT):JQ E s (s.mask bs nL nT):=by
 intro a w g F h
 let F':Fr:=⟨min nL F.nl,F.lmu,F.tb⟩
 have hnl:=h.frame.nl;have h1: ∀i,i<F.nl->i<nL->i<F'.nl/\F'.lmu i=F.lmu i:=fun i a b=>⟨by simp only[F'];omega,rfl⟩;refine⟨g,F',h.ext,h.store,⟨by simp[F',PFS.mask,hnl],fun i hi=> ?_,fun i hi=> ?_,fun i j hi hj=> ?_,fun i hi=> ?_,fun k b hk hb=> ?_,fun k b hk hb=> ?_,fun k k' b hk hk'=> ?_⟩,h.defers,by simp only[PFS.mask];rw[zR];exact h.len,fun t ht=> ?_⟩;have:=Hp hi;simp only[PFS.mask] at hi;rw[this.2] at hi;exact h.frame.lo i hi;have:=Hp hi;simp only[PFS.mask] at hi;rw[this.2] at hi;exact h.frame.apart i hi;have e1:=Hp hi;have e2:=Hp hj;simp only[PFS.mask] at hi hj;rw[e1.2] at hi;rw[e2.2] at hj;exact h.frame.inj i j hi hj;have e1:=Hp hi;simp only[PFS.mask] at hi⊢;have hi':=hi;rw[e1.2] at hi⊢;intro j hj;obtain⟨q1,c,q2,q3⟩:=h.frame.holds i hi j hj;refine⟨q1,c,q2,q3.lim ?_ h1 rfl⟩;have hmem:s.L.getD i []∈s.L.take nL:=by rw[<-e1.2];apply Q8;apply EV;intro hle;apply hi';rw[q_a,C2 hle];rfl
 exact List.all_eq_true.1 (List.all_eq_true.1 hm.2 _ hmem) _ (Q8 _ _ _ hj);simp only[PFS.mask,BX] at hk;exact h.frame.tlo k b oG hb;simp only[PFS.mask,BX] at hk;obtain⟨a1,a2⟩:=h.frame.tapart k b oG hb;refine⟨a1,fun i hi=> ?_⟩;have:=Hp hi;simp only[PFS.mask] at hi;rw[this.2] at hi;exact a2 i hi;simp only[PFS.mask,BX] at hk hk';exact h.frame.tinj k k' b oG oG;simp only[PFS.mask] at ht⊢;rw[zR] at ht;have hlim:=List.all_eq_true.1 hm.1 _ (Q8 (Jm bs s.pa) t .junk (by rw[zR];exact ht));rcases Q0u bs s.pa t with e | e;rw[e] at hlim⊢;exact(h.tmps t ht).lim hlim h1 rfl;rw[e];exact .base _ _ (.junk _)
theorem Q3 {P:Pg}{E:Ent}{c:Code}{Q:Pe}{s:PFS}(bs:Ld)(nL nT:Nat)(I:Nat->PFS->Prop)(n:Nat)(h0:s.maskOK bs nL nT/\I n (s.mask bs nL nT))
 (round: ∀n s,I n s->VC P E c (ZI (fun s'=>s'.maskOK bs nL nT/\ ∃m,m<n/\I m (s'.mask bs nL nT)) Q) s):PWP P E (.loop c) Q s:=by
 refine Od (fun n s=>s.maskOK bs nL nT/\I n (s.mask bs nL nT)) n h0 fun n s ⟨hm,hI⟩=> ?_;refine Kt (G0 hm) (zl (Qb (round n _ hI)) ?_);intro e s hq;cases e with
 | normal=>obtain⟨h1,m,h2,h3⟩:=hq;exact⟨m,h2,h1,h3⟩
 | _=>exact hq
@[go_sem] theorem V2p {bs:Ld}{nL nT:Nat}{pa:Lp}{L st:Qd}{T:Lv} :(PFS.mk pa L T st).mask bs nL nT=⟨Jm bs pa,L.take nL,T.take nT,st⟩:=(rfl)
@[go_sem] theorem V2q {bs:Ld}{nL nT:Nat}{pa:Lp}{L st:Qd}{T:Lv} :(PFS.mk pa L T st).maskOK bs nL nT=((Jm bs pa).all (PV.lim nL nT)=true/\(L.take nL).all (fun o=>o.all (PV.lim nL nT))=true):=(rfl)
@[go_sem] theorem V2r {bs:Ld}{p:PV}{ps:Lp} :Jm (true::bs) (p::ps)=p::Jm bs ps:=(rfl)
@[go_sem] theorem V2u {bs:Ld}{p:PV}{ps:Lp} :Jm (false::bs) (p::ps)= .junk::Jm bs ps:=(rfl)
@[go_sem] theorem V2s :Jm [] []= []:=(rfl)
@[go_sem] theorem V2t {p:PV}{ps:Lp} :Jm [] (p::ps)= .junk::Jm [] ps:=(rfl)
attribute [go_sem] PV.lim PV.lim1
def PV.frz1 (i:Nat)(cs:List PV):PV->PV
 | .lp k off=>if k=i then .ep cs off else .lp k off
 | .ms false k off len=>if k=i then(if off+len<=cs.length then .sl .no ((cs.drop off).take len) else .junk) else .ms false k off len
 | p=>p
def PV.frz (i:Nat)(cs:List PV):PV->PV
 | .agg l=> .agg (l.map (PV.frz1 i cs))
 | .tup l=> .tup (l.map (PV.frz1 i cs))
 | .fn f l m=> .fn f (l.map (PV.frz1 i cs)) (m.map (PV.frz1 i cs))
 | p=>p.frz1 i cs
def PFS.freeze (i:Nat)(s:PFS):PFS:=
 let cs:=(s.L.getD i []).map PV.forget2
 ⟨s.pa.map (PV.frz i cs),(s.L.map fun l=>l.map (PV.frz i cs)).set i [],s.T,s.st⟩
theorem Xs {f:PV->PV}(h:f .junk= .junk)(l:Lp)(t:Nat):(l.map f).getD t .junk=f (l.getD t .junk):=by simp only[q_a,B8];cases l[t]?<;>simp[h]
theorem YX {f:List PV->List PV}(h:f []= [])(l:Qd)(t:Nat):(l.map f).getD t []=f (l.getD t []):=by simp only[q_a,B8];cases l[t]?<;>simp[h]
theorem Wo (l:Qd)(i:Nat):(l.set i []).getD i []= []:=by simp only[q_a,List.getElem?_set,D4];split<;>rfl
section
variable {w:World} {g g':Gh} {F:Fr} {T:List (Nat×Nat)} {i:Nat} {cs:List PV}
structure Frozen (w:World) (g':Gh) (b:Nat) (cs:List PV):Prop where
 vis:cs.length<=g'.vis b
 one: ∀p∈cs,p.cells.length=1/\p.cells= [p]
 cf: ∃cf:Nat->Value,∀j,j<cs.length->w.cell? ⟨b,j,none⟩=some (cf j)/\Rep w g' (cf j) (cs.getD j .junk)
theorem RepF.frz1 {v:Value}{p:PV}(hm: ∀v p,RepF w g F T v p->RepF w g' F T v p)(hz:Frozen w g' (F.lmu i) cs)(h:RepF w g F T v p):RepF w g' F T v (p.frz1 i cs):=by
 obtain⟨cf,hcf⟩:=hz.cf;have h':=hm _ _ h;cases p with
 | lp k off=>
  simp only[PV.frz1];split;rename_i e;subst e;cases h' with
  | base _ _ h'=>cases h'
  | lp k off hi=>
   have:=Rep.ep (w:=w) (g:=g') cs off (F.lmu k) 0 cf (by simpa using hz.vis) (fun j hj=>by simpa using(hcf j hj).1) (fun j hj=>(hcf j hj).2);rw[CU] at this;exact .base _ _ this
  exact h'
 | ms gl k off len=>
  cases gl with
  | true=>exact h'
  | false=>
   simp only[PV.frz1];split;rename_i e;subst e;split;rename_i hle;cases h' with
   | base _ _ h'=>cases h'
   | lms k off len cap hi hcap=>
    have hl:((cs.drop off).take len).length=len:=by simp;omega
    have hg: ∀j,j<len->((cs.drop off).take len).getD j .junk=cs.getD (off+j) .junk:=fun j hj=>(by simp[q_a,ED,hj,DH]);have hone: ∀j,j<len->(cs.getD (off+j) .junk).cells= [cs.getD (off+j) .junk]:=fun j hj=>(hz.one _ (Q8 _ _ _ oG)).2;have:=Rep.sl (w:=w) (g:=g') .no ((cs.drop off).take len) (F.lmu k) off 1 cap (fun a b=>cf (off+a)) rfl (fun h=>by cases h) oG
     (fun j hj=>by rw[hg j oG,hone j oG];rfl) (fun _=>by have:=hz.vis;omega)
     (fun j k' hj hk=>by have:k'=0:=oG;subst this;simpa using(hcf (off+j) oG).1)
     (fun j k' hj hk=>by have:k'=0:=oG;subst this;rw[hg j oG,hone j oG];simpa using(hcf (off+j) oG).2)
    rw[hl] at this;exact .base _ _ this
   exact .base _ _ (.junk _);exact h'
 | _=>exact h'
theorem RepF.frz {v:Value}{p:PV}(hm: ∀v p,RepF w g F T v p->RepF w g' F T v p)(hz:Frozen w g' (F.lmu i) cs)(h:RepF w g F T v p):RepF w g' F T v (p.frz i cs):=by
 have gm: ∀(l:Lp) (j:Nat),(l.map (PV.frz1 i cs)).getD j .junk=(l.getD j .junk).frz1 i cs:=fun l j=>Xs rfl l j;cases p with
 | agg l=>
  cases h with
  | base _ _ h=>
   cases h with
   | agg vs cs' hl h=>exact .agg vs _ (by simpa using hl) fun j hj=>by rw[gm];exact RepF.frz1 hm hz (.base _ _ (h j (by simpa using hj)))
  | agg vs cs' hl h=>exact .agg vs _ (by simpa using hl) fun j hj=>by rw[gm];exact RepF.frz1 hm hz (h j (by simpa using hj))
 | tup l=>
  cases h with
  | base _ _ h=>
   cases h with
   | tup vs cs' hl h=>exact .tup vs _ (by simpa using hl) fun j hj=>by rw[gm];exact RepF.frz1 hm hz (.base _ _ (h j (by simpa using hj)))
  | tup vs cs' hl h=>exact .tup vs _ (by simpa using hl) fun j hj=>by rw[gm];exact RepF.frz1 hm hz (h j (by simpa using hj))
 | fn f l m=>
  cases h with
  | base _ _ h=>
   cases h with
   | fn f us vs bs cs' hk hl h0 h=>
    exact .fn f us vs _ _ (by simpa using hk) (by simpa using hl) (fun j hj=>by rw[gm];exact RepF.frz1 hm hz (.base _ _ (h0 j (by simpa using hj)))) fun j hj=>by rw[gm];exact RepF.frz1 hm hz (.base _ _ (h j (by simpa using hj)))
  | fn f us vs bs cs' hk hl h0 h=>
   exact .fn f us vs _ _ (by simpa using hk) (by simpa using hl) (fun j hj=>by rw[gm];exact RepF.frz1 hm hz (h0 j (by simpa using hj))) fun j hj=>by rw[gm];exact RepF.frz1 hm hz (h j (by simpa using hj))
 | _=>exact RepF.frz1 hm hz h
end
def PFS.freezeOK (i:Nat)(s:PFS):Prop:=(s.L.getD i []).all (fun p=>p.closed2&&(match p with | .agg _=>false | _=>true))=true
theorem J0b {p:PV}(h:(match p with | .agg _=>false | _=>true)=true):p.forget2.cells= [p.forget2]:=by cases p<;>first | rfl | cases h
theorem xz (w:Lw)(g:Gh)(b n:Nat)(hb:b<w.heap.size\/n=0)(hz: ∀b,w.heap.size<=b->g.vis b=0):
 Chg w g w { g with vis:=fun c=>if c=b then max n (g.vis c) else g.vis c } (fun c=>c=b)/\ ∀c,w.heap.size<=c->(if c=b then max n (g.vis c) else g.vis c)=0:=by
 refine⟨⟨⟨BD _,fun _ _=>rfl,fun c=> ?_,fun c o v ho hc=>hc⟩,rfl,rfl,rfl,BD _,fun c hc hx=>⟨rfl,BA hx⟩,fun i h1 h2=>by simp at h2;omega⟩,fun c hc=> ?_⟩;simp only;split;exact Nat.le_max_right _ _;exact BD _;split;rename_i e;subst e;rcases hb with hb | hb;omega;rw[hb,hz c hc];rfl;exact hz c hc
theorem G0p {E:Ent}{s:PFS}(i:Nat)(hi:s.freezeOK i):JQ E s (s.freeze i):=by
 intro a w g F h;by_cases hne:s.L.getD i []= []
 --a box without cells
 have hz:Frozen w g (F.lmu i) []:=⟨CX _,(fun p hp=>by cases hp),⟨fun _=>undef,fun j hj=>by simp at hj⟩⟩;have hf: ∀v p,RepF w g F s.T v p->RepF w g F s.T v (p.frz i []):=fun v p hp=>RepF.frz (fun _ _ h=>h) hz hp;have hL: ∀k,((s.L.map fun l=>l.map (PV.frz i [])).set i []).getD k []≠ []->s.L.getD k []≠ []/\((s.L.map fun l=>l.map (PV.frz i [])).set i []).getD k []=(s.L.getD k []).map (PV.frz i []):=fun k hk=>by
  by_cases hki:i=k;subst hki;exfalso;apply hk;exact Wo _ _;have e:((s.L.map fun l=>l.map (PV.frz i [])).set i []).getD k []=(s.L.getD k []).map (PV.frz i []):=by rw[<-YX (f:=fun l=>l.map (PV.frz i [])) rfl];simp[q_a,DR hki]
  refine⟨fun e0=>hk (by rw[e,e0];rfl),e⟩
 have hcs:(s.L.getD i []).map PV.forget2= []:=by rw[hne];rfl
 refine⟨g,F,?_⟩;unfold PFS.freeze;rw[hcs];refine⟨h.ext,h.store,⟨by simp[h.frame.nl],fun k hk=>h.frame.lo k (hL k hk).1,fun k hk=>h.frame.apart k (hL k hk).1,fun k j hk hj=>h.frame.inj k j (hL k hk).1 (hL j hj).1,fun k hk=> ?_,h.frame.tlo,fun k b hk hb=>⟨(h.frame.tapart k b hk hb).1,fun j hj=>(h.frame.tapart k b hk hb).2 j (hL j hj).1⟩,h.frame.tinj⟩,h.defers,by simp[h.len],fun t ht=> ?_⟩;obtain⟨h1,h2⟩:=hL k hk;simp only at hk⊢;rw[h2];intro j hj;obtain⟨q1,c,q2,q3⟩:=h.frame.holds k h1 j (by simpa using hj);exact⟨q1,c,q2,by rw[Xs (f:=PV.frz i []) rfl];exact hf _ _ q3⟩;simp only at ht⊢;rw[Xs (f:=PV.frz i []) rfl];exact hf _ _ (h.tmps t (by simpa using ht))
 let cs:=(s.L.getD i []).map PV.forget2
 obtain⟨l1,l2,l3⟩:=h.frame.lo i hne;obtain⟨k1,k2⟩:=xz w g (F.lmu i) cs.length (.inl l2) h.store.none;have hall:=List.all_eq_true.1 hi
 --all but the box
 have hLe:=k1.le
 let g':Gh:= { g with vis:=fun c=>if c=F.lmu i then max cs.length (g.vis c) else g.vis c }
 have htok:KN w g F s.T w g' F s.T:=⟨BD _,fun k hk=>⟨BD _,fun _ v es hR=>hR.mono fun b hb=>⟨rfl,BA fun e=>(h.frame.tapart k b hk hb).2 i hne e.symm⟩⟩⟩;have hm: ∀v p,RepF w g F s.T v p->RepF w g' F s.T v p:=fun v p hr=>hr.mono hLe (BD _) (fun _ _=>rfl) htok;have hcell: ∀j,j<cs.length-> ∃c,w.cell? ⟨F.lmu i,j,none⟩=some c/\Rep w g' c (cs.getD j .junk):=fun j hj=>by have hj':j<(s.L.getD i []).length:=(by simpa[cs] using hj);obtain⟨q1,c,q2,q3⟩:=h.frame.holds i hne j hj';refine⟨c,q2,?_⟩;have e:cs.getD j .junk=((s.L.getD i []).getD j .junk).forget2:=Xs (f:=PV.forget2) rfl _ _;rw[e];exact(hm _ _ q3).forget2 (CR.1 (hall _ (Q8 _ _ _ hj'))).1
 have hz:Frozen w g' (F.lmu i) cs:=by refine⟨?_,fun p hp=> ?_,⟨fun j=>if h:j<cs.length then(hcell j h).choose else undef,fun j hj=> ?_⟩⟩;show cs.length<=(if F.lmu i=F.lmu i then max cs.length (g.vis (F.lmu i)) else _);rw[BC rfl];exact Nat.le_max_left _ _;simp only[cs,CF] at hp;obtain⟨q,hq,rfl⟩:=hp;have:=J0b (CR.1 (hall _ hq)).2;exact⟨by rw[this];rfl,this⟩;simp only[dif_pos hj];exact(hcell j hj).choose_spec
 have hf: ∀v p,RepF w g F s.T v p->RepF w g' F s.T v (p.frz i cs):=fun v p hp=>RepF.frz hm hz hp;have hL: ∀k,((s.L.map fun l=>l.map (PV.frz i cs)).set i []).getD k []≠ []->k≠i/\s.L.getD k []≠ []/\((s.L.map fun l=>l.map (PV.frz i cs)).set i []).getD k []=(s.L.getD k []).map (PV.frz i cs):=fun k hk=>by
  by_cases hki:i=k;subst hki;exfalso;apply hk;exact Wo _ _;have e:((s.L.map fun l=>l.map (PV.frz i cs)).set i []).getD k []=(s.L.getD k []).map (PV.frz i cs):=by rw[<-YX (f:=fun l=>l.map (PV.frz i cs)) rfl];simp[q_a,DR hki]
  exact⟨fun e=>hki e.symm,fun e0=>hk (by rw[e,e0];rfl),e⟩
 have hvis: ∀k,k≠i->s.L.getD k []≠ []->g'.vis (F.lmu k)=g.vis (F.lmu k):=fun k hk hk0=>BA fun e=>hk (h.frame.inj k i hk0 hne e);have hst:StoreOK w g' s.st:=by refine⟨h.store.n,h.store.inj,h.store.lt,fun j hj hj0=> ?_,fun j hj=> ?_,k2,h.store.tab.mono hLe⟩;have:g'.vis (g.mu j)=g.vis (g.mu j):=BA fun e=>h.frame.apart i hne j hj e;exact this.trans (h.store.vis j hj hj0);exact(h.store.holds j hj).mono rfl fun v p hr=>hr.mono hLe
 refine⟨g',F,⟨h.ext.step k1 (fun b hb=> .inl (by rw[hb];exact l1)),hst,⟨by simp[PFS.freeze,h.frame.nl],fun k hk=> ?_,fun k hk=> ?_,fun k j hk hj=> ?_,fun k hk=> ?_,h.frame.tlo,fun k b hk hb=>⟨(h.frame.tapart k b hk hb).1,fun j hj=> ?_⟩,h.frame.tinj⟩,h.defers,by simp[PFS.freeze,h.len],fun t ht=> ?_⟩⟩;obtain⟨h1,h2,h3⟩:=hL k hk;obtain⟨a1,a2,a3⟩:=h.frame.lo k h2;exact⟨a1,a2,(hvis k h1 h2).trans a3⟩;exact h.frame.apart k (hL k hk).2.1;exact h.frame.inj k j (hL k hk).2.1 (hL j hj).2.1;obtain⟨h1,h2,h3⟩:=hL k hk;simp only[PFS.freeze] at hk⊢;show Holds w _ _ (((s.L.map fun l=>l.map (PV.frz i cs)).set i []).getD k []);rw[h3];intro j hj;obtain⟨q1,c,q2,q3⟩:=h.frame.holds k h2 j (by simpa using hj);exact⟨q1,c,q2,by rw[Xs (f:=PV.frz i cs) rfl];exact hf _ _ q3⟩;exact(h.frame.tapart k b hk hb).2 j (hL j hj).2.1;simp only[PFS.freeze] at ht⊢;show RepF w g' F s.T _ ((s.pa.map (PV.frz i cs)).getD t .junk);rw[Xs (f:=PV.frz i cs) rfl];exact hf _ _ (h.tmps t (by simpa using ht))
@[go_sem] theorem Y2n {i:Nat}{pa:Lp}{L st:Qd}{T:Lv} :(PFS.mk pa L T st).freeze i=⟨pa.map (PV.frz i ((L.getD i []).map PV.forget2)),(L.map fun l=>l.map (PV.frz i ((L.getD i []).map PV.forget2))).set i [],T,st⟩:=(rfl)
def Zo (l:List PV):Bool:=l.all fun p=>p.closed2&&(match p with | .agg _=>false | _=>true)
@[go_sem] theorem Y2b :Zo []=true:=(rfl)
@[go_sem] theorem W2y {v:Value}{l:Lp} :Zo (.sc v::l)=Zo l:=by simp[Zo,PV.closed2,PV.closed1]
@[go_sem] theorem Y2a {es l:Lp} :Zo (.sl .no es::l)=Zo l:=by simp[Zo,PV.closed2,PV.closed1]
@[go_sem] theorem Y2e {es l:Lp} :Zo (.sl .full es::l)=Zo l:=by simp[Zo,PV.closed2,PV.closed1]
@[go_sem] theorem W2z {k:Nat}{es l:Lp} :Zo (.sl (.own k) es::l)=Zo l:=by simp[Zo,PV.closed2,PV.closed1]
@[go_sem] theorem Y2f {f:Fn}{bs cs l:Lp} :Zo (.fn f bs cs::l)=(bs.all PV.closed1&&cs.all PV.closed1&&Zo l):=by simp[Zo,PV.closed2]
@[go_sem] theorem Y2d {i o:Nat}{l:Lp} :Zo (.gp i o::l)=Zo l:=by simp[Zo,PV.closed2,PV.closed1]
@[go_sem] theorem Y2g {cs:Lp}{o:Nat}{l:Lp} :Zo (.ep cs o::l)=Zo l:=by simp[Zo,PV.closed2,PV.closed1]
@[go_sem] theorem X0v {i:Nat}{pa:Lp}{L st:Qd}{T:Lv} :(PFS.mk pa L T st).freezeOK i=(Zo (L.getD i [])=true):=(rfl)
attribute [go_sem] PV.frz PV.frz1
theorem Zz {P:Pg}{E:Ent}{c:Code}{Q:Pe}{s:PFS}(i:Nat)(hi:s.freezeOK i)(h:PWP P E c Q (s.freeze i)):PWP P E c Q s:=Kt (G0p i hi) h
def X6 :Op->Bool
 | .move _ | .assign _ | .pick .. | .build .. | .buildSlice .. | .load .. | .nilCheck _ | .unOp .. | .convert .. | .fieldAddr .. | .field .. | .indexAddr .. | .index .. | .slice .. | .makeFunc .. | .extract .. =>true
 | .binOp _ _ _ (.const (.slice _ _ _)) _=>false
 | .binOp .. =>true
 | .call ⟨.builtin .len,_,_⟩ | .call ⟨.builtin .min,_,_⟩ | .call ⟨.builtin .max,_,_⟩=>true
 | _=>false
def Wl :Op->Bool
 | .load .. =>true
 | _=>false
def Req.q :Req->Bool
 | .val _ | .need _ _ | .newsl _ | .fail=>true
 | _=>false
def Req.lq :Req->Bool
 | .val _ | .need _ _ | .newsl _ | .fail | .load .. =>true
 | _=>false
theorem Nu {P:Pg}{op:Op}{r:Operand->PV}(h:X6 op=true):Kw P op r=none:=by unfold Kw;split;cases h;cases h;rfl
theorem Nv {op:Op}{r:Operand->PV}(h:X6 op=true):K6 op r=none:=by unfold K6;split;cases h;rfl
theorem Z1p (c a b:PV):(UG c a b).q=true:=by unfold UG;split<;>rfl
theorem y1i (T:Pu)(ps:List (Nat×PV)):(Gn T ps).q=true:=by unfold Gn;split<;>try split<;>rfl
                                                          rfl
theorem y1j (T:Pu)(n:Nat)(ps:List (Nat×PV)):(Gm T n ps).q=true:=by unfold Gm;split<;>try split<;>rfl
                                                                   rfl
theorem W1u (T:Pu)(x:PV):(Yx T x).lq=true:=by unfold Yx;split<;>rfl
theorem K1e (x:PV):(UN x).q=true:=by unfold UN;split<;>rfl
theorem H0u (op:UnOp)(x:PV):(Uu op x).q=true:=by unfold Uu;split<;>rfl
theorem k1u (S D:Pu)(x:PV):(Gi S D x).q=true:=by unfold Gi;split;rfl;split;split<;>rfl;rfl;split;split<;>rfl;rfl;rfl;rfl
theorem q1w (T:Pu)(x:PV)(f:Nat):(VR T x f).q=true:=by unfold VR;split;split;split;rfl;split<;>rfl;rfl;rfl
theorem q1s (T:Pu)(x:PV)(f:Nat):(UZ T x f).q=true:=by unfold UZ;split;split;split;split<;>rfl;split<;>rfl;rfl;rfl
theorem U1v (T:Pu)(x i:PV):(UU T x i).q=true:=by unfold UU;split<;>rfl
theorem U1t (T:Pu)(x i:PV):(UT T x i).q=true:=by unfold UT;split<;>rfl
theorem j0v (e:EI)(t:Tag)(es:Lp)(lo hi:Option PV):(GI e t es lo hi).q=true:=by unfold GI;split<;>rfl
theorem j0t (e:EI)(es:Lp)(lo hi:Option PV)(m:Int):(GH e es lo hi m).q=true:=by unfold GH;split<;>rfl
theorem j0o (s:ByteArray)(lo hi:Option PV):(GF s lo hi).q=true:=by unfold GF;split<;>rfl
theorem j0r (e:EI)(gl:Bool)(o off len:Nat)(lo hi:Option PV):(GG e gl o off len lo hi).q=true:=by unfold GG;split<;>rfl
theorem j0n (T:Pu)(x:PV)(lo hi mx:Option PV):(Uy T x lo hi mx).q=true:=by unfold Uy;split;exact j0v _ _ _ _ _;exact j0t _ _ _ _ _;rfl;exact j0o _ _ _;exact j0r _ _ _ _ _ _ _;rfl
theorem U1r (op:BinOp)(k:IntKind)(a b:Int):(Jo op k a b).q=true:=by unfold Jo;split<;>rfl
theorem Q2l (op:BinOp)(T:Pu)(x y:PV):(Zh op T x y).q=true:=by
 unfold Zh;split;rfl;rfl;split;exact U1r _ _ _ _;rfl;rfl;rfl;rfl
 all_goals first | rfl | (split<;>rfl)
theorem Y1d (T:Pu)(x:PV):(Hk T x).q=true:=by unfold Hk;split<;>rfl
theorem zf {P:Pg}{op:Op}{ty:Lt}{r:Operand->PV}(h:X6 op=true):(req P op ty r).lq=true/\(Wl op=false->(req P op ty r).q=true):=by
 have hq: ∀x:Req,x.q=true->x.lq=true:=fun x hx=>by cases x<;>first | rfl | cases hx
 have both: ∀x:Req,x.q=true->x.lq=true/\(Wl op=false->x.q=true):=fun x hx=>⟨hq x hx,fun _=>hx⟩;cases op
 case load t x=>exact⟨W1u _ _,fun h=>by cases h⟩
 case move=>exact both _ rfl
 case assign=>exact both _ rfl
 case pick=>exact both _ (Z1p _ _ _)
 case build=>exact both _ (y1i _ _)
 case buildSlice=>exact both _ (y1j _ _ _)
 case nilCheck=>exact both _ (K1e _)
 case unOp=>exact both _ (H0u _ _)
 case convert=>exact both _ (k1u _ _ _)
 case fieldAddr=>exact both _ (q1w _ _ _)
 case field=>exact both _ (q1s _ _ _)
 case indexAddr=>exact both _ (U1v _ _ _)
 case index=>exact both _ (U1t _ _ _)
 case slice=>exact both _ (j0n _ _ _ _ _)
 case makeFunc=>exact both _ rfl
 case binOp=>exact both _ (Q2l _ _ _ _)
 case extract x i=>
  refine both _ ?_;show(Req.q (match r x with | .tup vs=>if i<vs.length then Req.val (vs.getD i .junk) else .fail | _=> .fail))=true;split;split<;>rfl;rfl
 case call c=>
  obtain⟨cal,as,ts⟩:=c;cases cal with
  | value f=>cases h
  | invoke a b=>cases h
  | builtin b=>
   refine both _ ?_;show Req.q (Gl P b ts.toList (as.toList.map r))=true;unfold Gl;split;exact Y1d _ _;cases h;cases h;split<;>rfl;split<;>rfl;rfl
 all_goals cases h
theorem Ed {r:Req}{s s' s1:PFS}{v:PV}(h:r.lq=true)(hr:r.run s=some (v,s1)):s1=s:=by
 cases r with
 | val x=>cases hr;rfl
 | need c x=>simp only[Req.run] at hr;split at hr<;>cases hr;rfl
 | newsl es=>cases hr;rfl
 | fail=>cases hr
 | load gl i off n agg=>
  simp only[Req.run] at hr;by_cases hc:off+n<=((if gl then s.st else s.L).getD i []).length;rw[BC hc] at hr;cases hr;rfl;rw[BA hc] at hr;cases hr
 | _=>cases h
theorem v0d {r:Req}{s s':PFS}{v:PV}(h:r.lq=true)(hs:r.q=true\/(s.L=s'.L/\s.st=s'.st))(hr:r.run s=some (v,s)):r.run s'=some (v,s'):=by
 cases r with
 | val x=>cases hr;rfl
 | need c x=>simp only[Req.run] at hr⊢;split at hr<;>simp_all
 | newsl es=>cases hr;rfl
 | fail=>cases hr
 | load gl i off n agg=>
  rcases hs with hs | ⟨h1,h2⟩;cases hs;simp only[Req.run] at hr⊢;rw[<-h1,<-h2];split at hr<;>simp_all
 | _=>cases h
theorem z1p {s s':PFS}{x:Operand}(h: ∀t,x= .tmp t->s.pa.getD t .junk=s'.pa.getD t .junk):s.ev x=s'.ev x:=by
 cases x with
 | tmp t=>exact h t rfl
 | _=>rfl
theorem My {P:Pg}{op:Op}{ty:Lt}{r r':Operand->PV}(h: ∀x∈op.operands,r x=r' x):req P op ty r=req P op ty r':=by
 have pairs: ∀ps:Array (Nat×Operand),(∀x∈ps.map (·.2),r x=r' x)->(ps.toList.map fun x=>(x.1,r x.2))=(ps.toList.map fun x=>(x.1,r' x.2)):=fun ps hp=>
  C4 fun p hm=>by obtain⟨i,x⟩:=p;simp only[hp x (Array.mem_map.2 ⟨(i,x),Array.mem_def.2 hm,rfl⟩)]
 have lst: ∀ps:Array Operand,(∀x∈ps,r x=r' x)->ps.toList.map r=ps.toList.map r':=fun ps hp=>C4 fun p hm=>hp p (Array.mem_def.2 hm);cases op<;>simp only[Op.operands] at h<;>simp only[req]
 case build t ps=>rw[pairs ps fun x hx=>h x (by simpa using hx)]
 case buildSlice t n ps=>rw[pairs ps fun x hx=>h x (by simpa using hx)]
 case makeFunc fn first captured=>rw[lst first fun x hx=>h x (by simp[hx]),lst captured fun x hx=>h x (by simp[hx])]
 case call c=>
  obtain⟨cal,as,ts⟩:=c;cases cal with
  | builtin b=>simp only[req];rw[lst as fun x hx=>h x (by simp[Call.operands,hx])]
  | _=>rfl
 case slice t x lo hi mx=>cases lo<;>cases hi<;>cases mx<;>simp_all
 all_goals (first | rfl | (simp_all;done))
theorem K1h {P:Pg}{op:Op}{r r':Operand->PV}(h: ∀x∈op.operands,r x=r' x):Kw P op r=Kw P op r':=by unfold Kw;split;rw[h _ (by simp[Op.operands])];rw[h _ (by simp[Op.operands])];rfl
theorem w1y {op:Op}{r r':Operand->PV}(h: ∀x∈op.operands,r x=r' x):K6 op r=K6 op r':=by unfold K6;split;rename_i f args ts;have e1:args.toList.map r=args.toList.map r':=C4 fun p hm=>h p (by simp[Op.operands,Call.operands,Array.mem_def,hm]);rw[h f (by simp[Op.operands,Call.operands]),e1];rfl
theorem W1t {ops:La}{o:Oper}{t:Tmp}(h:Operand.tmp t∈o.op.operands):t∈o.looksAt ops:=
 List.mem_append_left _ (List.mem_filterMap.2 ⟨.tmp t,by simpa using h,rfl⟩)
theorem vZ {ops:La}{o:Oper}{s s':PFS}(h: ∀d∈o.looksAt ops,s.pa.getD d .junk=s'.pa.getD d .junk): ∀x∈o.op.operands,s.ev x=s'.ev x:=
 fun x hx=>z1p fun t ht=>h t (W1t (ht▸hx))
theorem X0e {ops:La}{o:Oper}{s s':PFS}{j:Nat}{want:Bool}(hg:o.guard=some (j,want))(h: ∀d∈o.looksAt ops,s.pa.getD d .junk=s'.pa.getD d .junk):ZR ops.toList s j want=ZR ops.toList s' j want:=by unfold ZR;split;rename_i oj hj;split;rename_i d hd;rw[h d];refine List.mem_append_right _ ?_;simp only[hg];have:ops[j]?=some oj:=(by simpa using hj);simp[this,hd];rfl;rfl
theorem Wi {s:PFS}{dst:Po}{v:PV}{d:Tmp}(h:dst≠some d):(s.put dst v).pa.getD d .junk=s.pa.getD d .junk:=by
 cases dst with
 | none=>rfl
 | some e=>
  have:e≠d:=fun x=>h (by rw[x]);simp[PFS.put,q_a,DR this]
theorem Oo {s:PFS}{v:PV}{d:Tmp}(h:d<s.pa.length):(s.put (some d) v).pa.getD d .junk=v:=by simp[PFS.put,q_a,h]
theorem GZ {s:PFS}{x y:Po}(v u:PV)(h: ∀d,x=some d->y≠some d):(s.put x v).put y u=(s.put y u).put x v:=by
 cases x with
 | none=>rfl
 | some d=>cases y with
  | none=>rfl
  | some e=>
   have hne:d≠e:=fun he=>h d rfl (he▸rfl);simp[PFS.put,List.set_comm _ _ hne]
theorem J3 (s:PFS)(x:Po)(v:PV):(s.put x v).L=s.L/\(s.put x v).T=s.T/\(s.put x v).st=s.st/\(s.put x v).pa.length=s.pa.length:=by cases x<;>simp[PFS.put]
theorem k0y (r:Req)(s:PFS)(v:PV)(x:Po):r.run (s.put x v)=(r.run s).map fun q=>(q.1,q.2.put x v):=by
 cases x with
 | none=>show r.run s=_;cases r.run s<;>rfl
 | some d=>
  cases r with
  | val w=>rfl
  | newsl es=>rfl
  | fail=>rfl
  | box cs=>rfl
  | mks cs len=>rfl
  | need c w=>cases c<;>rfl
  | load gl i off n agg=>
   cases gl;by_cases hc:off+n<=(s.L.getD i []).length<;>simp only[Req.run,PFS.put,B3,DT,hc,D4]<;>rfl;by_cases hc:off+n<=(s.st.getD i []).length<;>simp only[Req.run,PFS.put,DT,hc,D4]<;>rfl
  | store gl i off cs=>
   cases gl;by_cases hc:off+cs.length<=(s.L.getD i []).length/\0<(s.L.getD i []).length<;>simp only[Req.run,PFS.put,B3,DT,hc,D4]<;>rfl;by_cases hc:off+cs.length<=(s.st.getD i []).length/\0<(s.st.getD i []).length<;>simp only[Req.run,PFS.put,DT,hc,D4]<;>rfl
  | app t es ys e=>
   by_cases hc:(e.zok=true/\es.length+ys.length<=1152921504606846976/\(es.length+ys.length)*e.by_<=140737488355328/\
    es.all (fun x=>x.cells.length==e.sz)=true/\ys.all (fun x=>(x.cells.length==e.sz)&&x.cells.all PV.cellOK)=true)
   cases t with
   | own k=>by_cases hT:s.T.getD k (0,0)=(es.length,e.sz)<;>simp only[Req.run,PFS.put,hc,hT,D4,DT,and_self]<;>rfl
   | full=>
    by_cases hT:es.length=0\/0<ys.length;simp only[Req.run,PFS.put,BC hc,BC hT]<;>rfl;simp only[Req.run,PFS.put,BC hc,BA hT]<;>rfl
   | _=>simp only[Req.run,PFS.put,hc,D4,and_self]<;>rfl
   simp only[Req.run,PFS.put,hc,DT]<;>rfl
theorem k0z {r:Req}{s s1:PFS}{v p:PV}{x:Po}(h:r.run (s.put x v)=some (p,s1)): ∃s2,r.run s=some (p,s2)/\s1=s2.put x v:=by
 rw[k0y] at h;cases hr:r.run s with
 | none=>rw[hr] at h;cases h
 | some q=>rw[hr] at h;cases h;exact⟨_,rfl,rfl⟩
theorem v0b {r:Req}{s s1:PFS}{p:PV}(h:r.run s=some (p,s1)):s1.pa=s.pa:=by
 cases r with
 | val w=>cases h;rfl
 | newsl es=>cases h;rfl
 | fail=>cases h
 | box cs=>cases h;rfl
 | mks cs len=>cases h;rfl
 | need c w=>simp only[Req.run] at h;split at h<;>cases h;rfl
 | load gl i off n agg=>
  simp only[Req.run] at h;by_cases hc:off+n<=((if gl then s.st else s.L).getD i []).length;rw[BC hc] at h;cases h;rfl;rw[BA hc] at h;cases h
 | store gl i off cs=>
  simp only[Req.run] at h;by_cases hc:off+cs.length<=((if gl then s.st else s.L).getD i []).length/\0<((if gl then s.st else s.L).getD i []).length;rw[BC hc] at h;cases gl<;>cases h<;>rfl;rw[BA hc] at h;cases h
 | app t es ys e=>
  simp only[Req.run] at h;split at h;cases t with
  | own k=>
   simp only at h;by_cases hT:s.T.getD k (0,0)=(es.length,e.sz);rw[BC hT] at h;cases h;rfl;rw[BA hT] at h;cases h
  | full=>
   simp only at h;by_cases hT:es.length=0\/0<ys.length;rw[BC hT] at h;cases h;rfl;rw[BA hT] at h;cases h
  | _=>cases h
  cases h
theorem w0p {s:PFS}{x y:Po}{v r:PV}{st:Qd}(h: ∀d,x=some d->y≠some d):(s.put x v).recv y r st=(s.recv y r st).put x v:=by
 have e: ∀T',({ s.put x v with st:=st,T:=T' } :PFS)=({ s with st:=st,T:=T' } :PFS).put x v:=fun T'=>by cases x<;>rfl
 have e2:({ s.put x v with st:=st } :PFS)=({ s with st:=st } :PFS).put x v:=by cases x<;>rfl
 have eT:(s.put x v).T=s.T:=(J3 s x v).2.1;unfold PFS.recv;split;simp only[eT,e];exact GZ _ _ h;rw[e2];exact GZ _ _ h
theorem w0q {s:PFS}{y:Po}{r:PV}{st:Qd} : ∃u,(s.recv y r st).pa=(s.put y u).pa:=by unfold PFS.recv;split;exact⟨_,by cases y<;>rfl⟩;exact⟨_,by cases y<;>rfl⟩
section
variable {P:Program} {ops:Array Oper} {o:Oper} {K K':PFS->Prop} {s:PFS}
theorem U0g (h:PO P o K s)(hk: ∀s,K s->K' s):PO P o K' s:=by unfold PO at h⊢;split;rename_i hn;rw[hn] at h;exact fun b hb=>hk _ (h b hb);rename_i hn;rw[hn] at h;simp only at h;split;rename_i hc;rw[hc] at h;exact⟨h.1,h.2.mono fun r st q=>hk _ q⟩;rename_i hc;rw[hc] at h;simp only at h;split;rename_i hs;rw[hs] at h;exact hk _ h;rename_i hs;rw[hs] at h;exact h
theorem U0e {dst:Po}{v:PV}(h1: ∀d,dst=some d->d∉o.looksAt ops)(h2: ∀d,dst=some d->o.dst≠some d)(h:PO P o K (s.put dst v)):PO P o (fun s'=>K (s'.put dst v)) s:=by
 have he: ∀x∈o.op.operands,(s.put dst v).ev x=s.ev x:=vZ (ops:=ops) fun d hd=>Wi fun e=>h1 d e hd;unfold PO at h⊢;rw[K1h he,w1y he] at h;split;rename_i hn;rw[hn] at h;intro b hb;have:=h b hb;rw[GZ _ _ h2] at this;exact this;rename_i hn;rw[hn] at h;simp only at h;split;rename_i hc;rw[hc] at h;refine⟨h.1,?_⟩;have:=h.2;rw[(J3 s dst v).2.2.1] at this;exact this.mono fun r st q=>(by rw[w0p h2] at q;exact q);rename_i hc;rw[hc] at h;simp only[VA,My he] at h;unfold VA;cases hr:(req P o.op o.type s.ev).run (s.put dst v) with
 | none=>rw[hr] at h;exact h.elim
 | some x=>
  obtain⟨p,s1⟩:=x;rw[hr] at h;obtain⟨s2,hs2,rfl⟩:=k0z hr;rw[hs2];simp only at h⊢;rw[GZ _ _ h2] at h;exact h
theorem U0f (h:PO P o K s):PO P o (fun s'=>K s'/\ ∃u,s'.pa=(s.put o.dst u).pa) s:=by
 unfold PO at h⊢;split;rename_i hn;rw[hn] at h;exact fun b hb=>⟨h b hb,_,rfl⟩;rename_i hn;rw[hn] at h;simp only at h;split;rename_i hc;rw[hc] at h;exact⟨h.1,h.2.mono fun r st q=>⟨q,w0q⟩⟩;rename_i hc;rw[hc] at h;simp only at h;unfold VA at h⊢;cases hr:(req P o.op o.type s.ev).run s with
 | none=>rw[hr] at h;exact h.elim
 | some x=>
  obtain⟨p,s1⟩:=x;rw[hr] at h;refine⟨h,p,?_⟩;have:=v0b hr;cases hd:o.dst with
  | none=>exact this
  | some d=>simp only[PFS.put,this]
theorem U0d (hq:X6 o.op=true)(h:PO P o K s): ∃u,(req P o.op o.type s.ev).run s=some (u,s)/\K (s.put o.dst u):=by
 unfold PO at h;rw[Nu hq,Nv hq] at h;simp only[VA] at h;cases hr:(req P o.op o.type s.ev).run s with
 | none=>rw[hr] at h;exact h.elim
 | some x=>
  obtain⟨p,s1⟩:=x;rw[hr] at h;have:=Ed (s':=s) (zf hq).1 hr;subst this;exact⟨p,rfl,h⟩
theorem Nw (hq:X6 o.op=true){u:PV}(h1:(req P o.op o.type s.ev).run s=some (u,s))(h2:K (s.put o.dst u)):PO P o K s:=by unfold PO;rw[Nu hq,Nv hq];simp only[VA,h1];exact h2
def POg (P:Program)(ops:Array Oper)(o:Oper)(K:PFS->Prop)(s:PFS):Prop:=
 match o.guard with
 | none=>PO P o K s
 | some (j,want)=>match ZR ops.toList s j want with
  | some b=>if b=want then PO P o K s else K (s.put o.dst (.tup []))
  | none=>False
def POp (P:Program)(ops:Array Oper)(i:Nat)(K:PFS->Prop)(s:PFS):Prop:=
 match ops[i]? with
 | none=>False
 | some o=>POg P ops o K s
def QY (P:Program)(ops:Array Oper)(o:Oper)(v:PV)(s:PFS):Prop:=
 match o.guard with
 | none=>(req P o.op o.type s.ev).run s=some (v,s)
 | some (j,want)=>match ZR ops.toList s j want with
  | some b=>if b=want then(req P o.op o.type s.ev).run s=some (v,s) else v= .tup []
  | none=>False
theorem xO (h:POg P ops o K s)(hk: ∀s,K s->K' s):POg P ops o K' s:=by unfold POg at h⊢;split;rename_i hg;rw[hg] at h;exact U0g h hk;rename_i hg;rw[hg] at h;simp only at h;split;rename_i hb;rw[hb] at h;simp only at h;split;rename_i e;rw[BC e] at h;exact U0g h hk;rename_i e;rw[BA e] at h;exact hk _ h;rename_i hb;rw[hb] at h;exact h
theorem U0c {dst:Po}{v:PV}(h1: ∀d,dst=some d->d∉o.looksAt ops)(h2: ∀d,dst=some d->o.dst≠some d)(h:POg P ops o K (s.put dst v)):POg P ops o (fun s'=>K (s'.put dst v)) s:=by unfold POg at h⊢;split;rename_i hg;rw[hg] at h;exact U0e h1 h2 h;rename_i j want hg;rw[hg] at h;simp only at h;rw[X0e (s':=s) hg fun d hd=>Wi fun e=>h1 d e hd] at h;split;rename_i hb;rw[hb] at h;simp only at h;split;rename_i e;rw[BC e] at h;exact U0e h1 h2 h;rename_i e;rw[BA e] at h;rw[GZ _ _ h2] at h;exact h;rename_i hb;rw[hb] at h;exact h
theorem y8 (h:POg P ops o K s):POg P ops o (fun s'=>K s'/\ ∃u,s'.pa=(s.put o.dst u).pa) s:=by unfold POg at h⊢;split;rename_i hg;rw[hg] at h;exact U0f h;rename_i hg;rw[hg] at h;simp only at h;split;rename_i hb;rw[hb] at h;simp only at h;split;rename_i e;rw[BC e] at h;exact U0f h;rename_i e;rw[BA e] at h;exact⟨h,_,rfl⟩;rename_i hb;rw[hb] at h;exact h
theorem y7 (hq:X6 o.op=true)(h:POg P ops o K s): ∃u,QY P ops o u s/\K (s.put o.dst u):=by unfold POg at h;unfold QY;split at h;rename_i hg;obtain⟨u,h1,h2⟩:=U0d hq h;exact⟨u,by first | exact h1 | (simp only[hg];exact h1),h2⟩;rename_i j want hg;split at h;rename_i b hb;split at h;rename_i e;obtain⟨u,h1,h2⟩:=U0d hq h;exact⟨u,by simp only[hg,hb,BC e];exact h1,h2⟩;rename_i e;exact⟨.tup [],by simp only[hg,hb,BA e],h⟩;exact h.elim
theorem kp (hq:X6 o.op=true){u:PV}(h1:QY P ops o u s)(h2:K (s.put o.dst u)):POg P ops o K s:=by unfold POg;unfold QY at h1;split;rename_i hg;rw[hg] at h1;exact Nw hq h1 h2;rename_i j want hg;rw[hg] at h1;simp only at h1;split;rename_i b hb;rw[hb] at h1;simp only at h1;split;rename_i e;rw[BC e] at h1;exact Nw hq h1 h2;rename_i e;rw[BA e] at h1;subst h1;exact h2;rename_i hb;rw[hb] at h1;exact h1
theorem Uj {s':PFS}{v:PV}(hq:X6 o.op=true)(hpa: ∀d∈o.looksAt ops,s.pa.getD d .junk=s'.pa.getD d .junk)(hs:Wl o.op=false\/(s.L=s'.L/\s.st=s'.st))(h:QY P ops o v s):QY P ops o v s':=by
 have run:(req P o.op o.type s.ev).run s=some (v,s)->(req P o.op o.type s'.ev).run s'=some (v,s'):=fun hr=>by have e:req P o.op o.type s'.ev=req P o.op o.type s.ev:=(My (vZ hpa)).symm;rw[e];exact v0d (zf hq).1 (hs.imp (zf hq).2 id) hr
 unfold QY at h⊢;split;rename_i hg;rw[hg] at h;exact run h;rename_i j want hg;rw[hg] at h;simp only at h;rw[X0e hg hpa] at h;split;rename_i b hb;rw[hb] at h;simp only at h;split;rename_i e;rw[BC e] at h;exact run h;rename_i e;rw[BA e] at h;exact h;rename_i hb;rw[hb] at h;exact h
end
def UB (ops:Array Oper)(i:Nat):Nat->Nat->Bool
 | 0,_=>false
 | f+1,j=>match ops[j]? with
  | some o=>o.after.any fun e=>Region.binds .any e&&(e.on==i||UB ops i f e.on)
  | none=>false
def UC (ops:Array Oper)(i j:Nat):Bool:=UB ops i 3 j
def yD (P:Program)(ops:Array Oper)(o:Oper)(s:PFS):Prop:= ∀d,o.dst=some d->QY P ops o (s.pa.getD d .junk) s
def JB (P:Program)(ops:Array Oper)(listed:Array Bool)(j:Nat)(s:PFS):Prop:=
 ∀i o,listed.getD i false=true->ops[i]?=some o->X6 o.op=true->Wl o.op=true->UC ops i j=false->yD P ops o s
def X8 (ops:Array Oper)(j:Nat):Bool:=match ops[j]? with | some o=> !X6 o.op | none=>false
def JR (P:Program)(ops:Array Oper)(K:PFS->Prop):Nat->Array Bool->PFS->Prop
 | 0,listed,s=>Region.ready .any ops listed= []/\K s
 | fuel+1,listed,s=>
  (Region.ready .any ops listed= []->K s)/\
  ∀i∈Region.ready .any ops listed,POp P ops i (fun s'=>(X8 ops i=true->JB P ops listed i s')/\JR P ops K fuel (listed.setIfInBounds i true) s') s
section
variable {P:Program} {ops:Array Oper} {K:PFS->Prop}
def JS (ops:Array Oper)(listed:Array Bool):Prop:= ∀k ok e,ops[k]?=some ok->listed.getD k false=true->e∈ok.after->Region.binds .any e=true->listed.getD e.on false=true
theorem ki {listed:Lc}(hc:JS ops listed){i:Nat} : ∀f j oj,ops[j]?=some oj->(∀e∈oj.after,Region.binds .any e=true->listed.getD e.on false=true)->UB ops i f j=true->listed.getD i false=true
 | 0,j,oj,h,hp,hr=>by cases hr
 | f+1,j,oj,h,hp,hr=>by
  simp only[UB,h] at hr;obtain⟨e,he,hb⟩:=Array.any_eq_true'.1 hr;simp only[q_i,DF,FT] at hb;obtain⟨h1,h2⟩:=hb;have hl:=hp e he h1;rcases h2 with h2 | h2;rw[<-h2];exact hl;cases hoe:ops[e.on]? with
  | none=>cases f with
   | zero=>cases h2
   | succ f=>simp only[UB,hoe] at h2;cases h2
  | some oe=>exact ki hc f e.on oe hoe (fun e' he' hb'=>hc e.on oe e' hoe hl he' hb') h2
theorem I7 {listed:Lc}{i:Nat}(h:listed.getD i true=false):listed.getD i false=false:=by rcases Nat.lt_or_ge i listed.size with h' | h';simpa[h'] using h;simp[F7 h'] at h
theorem H5 {listed:Lc}{j:Nat}(hc:JS ops listed)(hj:j∈Region.ready .any ops listed):JS ops (listed.setIfInBounds j true):=by intro k ok e hk hl he hb;obtain⟨h0,oj,hoj,hall⟩:=mem_ready.1 hj;by_cases hkj:j=k;subst hkj;rw[hoj] at hk;cases hk;exact getD_set_true (hall e he hb);rw[getD_set_ne false hkj] at hl;exact getD_set_true (hc k ok e hk hl he hb)
theorem Nc {listed:Lc}{i j:Nat}(hc:JS ops listed)(hj:j∈Region.ready .any ops listed)(hi:listed.getD i true=false):UC ops i j=false:=by
 obtain⟨h0,oj,hoj,hall⟩:=mem_ready.1 hj;cases hr:UC ops i j with
 | false=>rfl
 | true=>
  have:=ki hc 3 j oj hoj hall hr;rw[I7 hi] at this;cases this
theorem Z1w {N i:Nat}{oi:Oper}{di:Tmp}{v:PV}(hi:ops[i]?=some oi)(hq:X6 oi.op=true)(hdi:oi.dst=some di)(hown:di∉oi.looksAt ops)(hN:di<N):
 ∀(fuel:Nat) (listed:Lc) (s:PFS),N<=s.pa.length->JS ops listed->
  (∀j oj,ops[j]?=some oj->j≠i->listed.getD j true=false->UC ops i j=false->oi.apart ops oj=true)->
  (∀k ok,ops[k]?=some ok->listed.getD k false=true->Wl ok.op=true->di∉ok.looksAt ops/\ok.dst≠some di)->
  i∈Region.ready .any ops listed->QY P ops oi v s->
  JR P ops K fuel (listed.setIfInBounds i true) (s.put oi.dst v)->JR P ops K (fuel+1) listed s:=by
 have self: ∀(fuel:Nat) (listed:Lc) (s:PFS),QY P ops oi v s->JR P ops K fuel (listed.setIfInBounds i true) (s.put oi.dst v)->
  POp P ops i (fun s'=>(X8 ops i=true->JB P ops listed i s')/\JR P ops K fuel (listed.setIfInBounds i true) s') s:=by
  intro fuel listed s hy H;unfold POp;rw[hi];exact kp hq hy ⟨fun he=>by simp[X8,hi,hq] at he,H⟩
 intro fuel
 induction fuel with
 | zero=>
  intro listed s hl hc h1 h2 hr hy H;refine⟨fun h=>(by rw[h] at hr;cases hr),fun j hj=> ?_⟩;by_cases hji:j=i;subst hji;exact self 0 listed s hy H;have:=ready_mono hj hji;rw[H.1] at this;cases this
 | succ fuel ih=>
  intro listed s hl hc h1 h2 hr hy H;refine⟨fun h=>(by rw[h] at hr;cases hr),fun j hj=> ?_⟩;by_cases hji:j=i;subst hji;exact self _ listed s hy H;have hp:=H.2 j (ready_mono hj hji);obtain⟨hjun,oj,hoj,hall⟩:=mem_ready.1 hj;have hiun:=(mem_ready.1 hr).1;have hnr:=Nc hc hj hiun;obtain⟨a1,a2,a3⟩:=Oper.apart_spec (h1 j oj hoj hji hjun hnr);unfold POp at hp⊢;rw[hoj] at hp⊢;simp only at hp⊢;have hp':=y8 (U0c a1 a2 hp);have key: ∀s'':PFS,(∃u,s''.pa=(s.put oj.dst u).pa)->(X6 oj.op=true->s''.L=s.L/\s''.st=s.st)->
   ((X8 ops j=true->JB P ops (listed.setIfInBounds i true) j (s''.put oi.dst v))/\JR P ops K fuel ((listed.setIfInBounds i true).setIfInBounds j true) (s''.put oi.dst v))->
   (X8 ops j=true->JB P ops listed j s'')/\JR P ops K (fuel+1) (listed.setIfInBounds j true) s'':=by
   rintro s'' ⟨u,hpa⟩ hqs ⟨hw,hrest⟩;have hlen:s''.pa.length=s.pa.length:=(by rw[hpa];exact(J3 s oj.dst u).2.2.2);have hsame: ∀d∈oi.looksAt ops,s.pa.getD d .junk=s''.pa.getD d .junk:=fun d hd=>by rw[hpa];exact(Wi fun e=>a3 d e hd).symm
   have hown': ∀d∈oi.looksAt ops,(s''.put oi.dst v).pa.getD d .junk=s''.pa.getD d .junk:=fun d hd=>Wi fun e=>by rw[hdi] at e;cases e;exact hown hd
   have hil:(listed.setIfInBounds i true).getD i false=true:=by
    have hlt:i<listed.size:=by rcases Nat.lt_or_ge i listed.size with h' | h';exact h';simp[F7 h'] at hiun
    simp[hlt]
   have hy':QY P ops oi v s'':=by
    cases hlo:Wl oi.op with
    | false=>exact Uj hq hsame (.inl hlo) hy
    | true=>
     cases hqj:X6 oj.op with
     | true=>obtain⟨e1,e2⟩:=hqs hqj;exact Uj hq hsame (.inr ⟨e1.symm,e2.symm⟩) hy
     | false=>
      have heff:X8 ops j=true:=(by simp[X8,hoj,hqj]);have:=hw heff i oi hil hi hq hlo hnr di hdi;have e:(s''.put oi.dst v).pa.getD di .junk=v:=by rw[hdi];exact Oo (by rw[hlen];exact q_e hN hl)
      rw[e] at this;exact Uj hq hown' (.inr ⟨(J3 s'' oi.dst v).1,(J3 s'' oi.dst v).2.2.1⟩) this
   refine⟨fun heff k ok hk hok hkq hkl hkr d hd=> ?_,?_⟩;obtain⟨b1,b2⟩:=h2 k ok hok hk hkl;have:=hw heff k ok (getD_set_true hk) hok hkq hkl hkr d hd;have e:(s''.put oi.dst v).pa.getD d .junk=s''.pa.getD d .junk:=Wi fun e=>by rw[hdi] at e;cases e;exact b2 hd
   rw[e] at this;exact Uj hkq (fun x hx=>Wi fun e=>by rw[hdi] at e;cases e;exact b1 hx) (.inr ⟨(J3 s'' oi.dst v).1,(J3 s'' oi.dst v).2.2.1⟩) this;refine ih (listed.setIfInBounds j true) s'' oG (H5 hc hj) (fun k ok hk hki hun hno=> ?_) (fun k ok hk hkl hlo=> ?_) (ready_mono hr (Ne.symm hji)) hy' ?_;refine h1 k ok hk hki ?_ hno;by_cases hjk:j=k;subst hjk;exact hjun;rw[getD_set_ne true hjk] at hun;exact hun;by_cases hjk:j=k;subst hjk;rw[hoj] at hk;cases hk;exact⟨a1 di hdi,fun e=>a2 di hdi e⟩;rw[getD_set_ne false hjk] at hkl;exact h2 k ok hk hkl hlo;rw[Array.setIfInBounds_comm _ _ hji];exact hrest
  cases hqj:X6 oj.op with
  | true=>
   obtain⟨u,q1,q2,q3⟩:=y7 hqj hp';exact kp hqj q1 (key _ ⟨u,rfl⟩ (fun _=>⟨(J3 s oj.dst u).1,(J3 s oj.dst u).2.2.1⟩) q2)
  | false=>exact xO hp' fun s'' ⟨q2,q3⟩=>key s'' q3 (fun h=>by rw[hqj] at h;cases h) q2
inductive Plan where
 | done
 | step (i:Nat) (ws:List Nat) (rest:Plan)
 | alt (a b:Plan)
def Plan.heads :Plan->List Nat
 | .done=> []
 | .step i _ _=> [i]
 | .alt a b=>a.heads++b.heads
def vN (ops:Array Oper)(N:Nat)(listed:Array Bool)(i:Nat):Bool:=
 match ops[i]? with
 | none=>false
 | some oi=>match oi.dst with
  | none=>false
  | some di=>X6 oi.op&& !(oi.looksAt ops).contains di&&decide (di<N)&&
   (List.range ops.size).all fun j=>j==i||match ops[j]? with
    | none=>true
    | some oj=>
     (listed.getD j true||UC ops i j||oi.apart ops oj)&&
     (!listed.getD j false|| !Wl oj.op||(!(oj.looksAt ops).contains di&&oj.dst !=some di))
def qJ (ops:Array Oper)(listed:Array Bool)(i:Nat)(ws:List Nat):Bool:=
 (Region.ready .any ops listed).contains i&&
  (!X8 ops i||(List.range ops.size).all fun k=> !listed.getD k false||ws.contains k||UC ops k i||match ops[k]? with | none=>true | some ok=> !Wl ok.op)
def VP (ops:Array Oper)(N:Nat)(listed:Array Bool)(p:Plan):Bool:=
 (match p with | .step i _ _=>vN ops N listed i | _=>false)||(Region.ready .any ops listed).all (p.heads.contains ·)
def XC (ops:Array Oper)(N:Nat):Plan->Nat->Array Bool->Bool
 | .done,_,_=>true
 | .step _ _ _,0,_=>false
 | .step i ws rest,f+1,listed=>qJ ops listed i ws&&(XC ops N rest f (listed.setIfInBounds i true)&&VP ops N (listed.setIfInBounds i true) rest)
 | .alt a b,f,listed=>XC ops N a f listed&&XC ops N b f listed
def Ge (ops:Array Oper)(N:Nat)(p:Plan):Bool:=XC ops N p ops.size (Array.replicate ops.size false)&&VP ops N (Array.replicate ops.size false) p
def WG (P:Program)(ops:List Oper)(o:Oper)(s:PFS):Prop:=
 match o.dst with
 | none=>True
 | some d=>match o.guard with
  | none=>VY s (fun p _=>s.pa.getD d .junk=p) (req P o.op o.type s.ev)
  | some (j,want)=>GK0 (ZR ops s j want) want (VY s (fun p _=>s.pa.getD d .junk=p) (req P o.op o.type s.ev)) (s.pa.getD d .junk= .tup [])
def WL0 (P:Program)(ops:List Oper):List Nat->PFS->Prop
 | [],s=>True
 | i::ws,s=>(match ops[i]? with | some o=>WG P ops o s | none=>False)/\WL0 P ops ws s
def OG (P:Program)(ops:List Oper)(o:Oper)(K:PFS->Prop)(s:PFS):Prop:=
 match o.guard with
 | none=>OC0 P o K s
 | some (j,want)=>GK0 (ZR ops s j want) want (OC0 P o K s) (K (s.put o.dst (.tup [])))
def OS0 (P:Program)(ops:List Oper)(o:Option Oper)(K:PFS->Prop)(s:PFS):Prop:=match o with | some o=>OG P ops o K s | none=>False
def OW0 (P:Program)(ops:List Oper):Plan->(PFS->Prop)->PFS->Prop
 | .done,K,s=>K s
 | .step i ws rest,K,s=>OS0 P ops (ops[i]?) (fun s'=>WL0 P ops ws s'/\OW0 P ops rest K s') s
 | .alt a b,K,s=>OW0 P ops a K s/\OW0 P ops b K s
theorem U0l {o:Oper}{K:Pf}{s:PFS}(h:OG P ops.toList o K s):POg P ops o K s:=by
 unfold OG at h;unfold POg;split;rename_i hg;rw[hg] at h;exact Y7 h;rename_i j want hg;rw[hg] at h;simp only at h;cases hb:ZR ops.toList s j want with
 | none=>rw[hb] at h;exact h.elim
 | some b=>
  rw[hb] at h;simp only;by_cases e:b=want;rw[BC e];exact Y7 (h.1 e);rw[BA e];exact h.2 e
theorem X2p {i:Nat}{K:Pf}{s:PFS}(h:OS0 P ops.toList (ops.toList[i]?) K s):POp P ops i K s:=by unfold OS0 at h;unfold POp;have e:ops.toList[i]?=ops[i]?:=(by simp);rw[e] at h;split at h;rename_i o ho;rw[ho];exact U0l h;exact h.elim
theorem Z2q {o:Oper}{s:PFS}(hq:X6 o.op=true)(h:WG P ops.toList o s):yD P ops o s:=by
 intro d hd;unfold WG at h;unfold QY;rw[hd] at h;simp only at h;have run:VY s (fun p _=>s.pa.getD d .junk=p) (req P o.op o.type s.ev)->(req P o.op o.type s.ev).run s=some (s.pa.getD d .junk,s):=fun h=>by obtain⟨p,s',hr,rfl⟩:=kd h;have:=Ed (s':=s) (zf hq).1 hr;subst this;exact hr
 split;rename_i hg;rw[hg] at h;exact run h;rename_i j want hg;rw[hg] at h;simp only at h;cases hb:ZR ops.toList s j want with
 | none=>rw[hb] at h;exact h.elim
 | some b=>
  rw[hb] at h;simp only;by_cases e:b=want;rw[BC e];exact run (h.1 e);rw[BA e];exact h.2 e
theorem y6 {s:PFS} : ∀ {ws:Ln},WL0 P ops.toList ws s-> ∀i∈ws,∀o,ops[i]?=some o->X6 o.op=true->yD P ops o s
 | [],h,i,hi,o,ho,hq=>by cases hi
 | k::ws,h,i,hi,o,ho,hq=>by obtain⟨h1,h2⟩:=h;rcases D8.1 hi with rfl | hi;have e:ops.toList[i]?=some o:=(by simpa using ho);rw[e] at h1;exact Z2q hq h1;exact y6 h2 i hi o ho hq
theorem Z2y {i:Nat}{K K':Pf}{s:PFS}(h:POp P ops i K s)(hk: ∀s,K s->K' s):POp P ops i K' s:=by unfold POp at h⊢;split;rename_i ho;rw[ho] at h;exact h;rename_i o ho;rw[ho] at h;exact xO h hk
theorem U0b {i:Nat}{K:Pf}{s:PFS}(h:POp P ops i K s):POp P ops i (fun s'=>K s'/\s'.pa.length=s.pa.length) s:=by unfold POp at h⊢;split;rename_i ho;rw[ho] at h;exact h;rename_i o ho;rw[ho] at h;refine xO (y8 h) fun s' ⟨h1,u,h2⟩=>⟨h1,by rw[h2];exact(J3 s o.dst u).2.2.2⟩
theorem G1j {p:Plan}{s:PFS}(h:p.heads= []):OW0 P ops.toList p K s->K s:=by
 induction p with
 | done=>exact id
 | step i ws rest=>cases h
 | alt a b iha ihb=>exact fun hw=>iha (by simp only[Plan.heads,List.append_eq_nil_iff] at h;exact h.1) hw.1
theorem YV {N:Nat}{p:Plan} : ∀ {f:Nat} {listed:Lc},XC ops N p f listed=true-> ∀i∈p.heads,i∈Region.ready .any ops listed/\f≠0:=by
 induction p with
 | done=>intro f listed h i hi;cases hi
 | step k ws rest ih=>
  intro f listed h i hi;cases f with
  | zero=>cases h
  | succ f=>
   simp only[Plan.heads,C0] at hi;subst hi;simp only[XC,qJ,q_i] at h;exact⟨by simpa using h.1.1,by simp⟩
 | alt a b iha ihb=>
  intro f listed h i hi;have hab:XC ops N a f listed=true/\XC ops N b f listed=true:=(by cases f<;>simpa[XC] using h);simp only[Plan.heads,DN] at hi;exact hi.elim (iha hab.1 i) (ihb hab.2 i)
theorem zp {N:Nat} : ∀(p:Plan) (f:Nat) (listed:Lc),XC ops N p f listed=true->JS ops listed->
 (∀s,N<=s.pa.length->OW0 P ops.toList p K s-> ∀i∈p.heads,POp P ops i (fun s'=>(X8 ops i=true->JB P ops listed i s')/\JR P ops K (f-1) (listed.setIfInBounds i true) s') s)/\
 (VP ops N listed p=true-> ∀s,N<=s.pa.length->OW0 P ops.toList p K s->JR P ops K f listed s):=by
 have full: ∀(p:Plan) (f:Nat) (listed:Lc),XC ops N p f listed=true->JS ops listed->
  (∀s,N<=s.pa.length->OW0 P ops.toList p K s-> ∀i∈p.heads,POp P ops i (fun s'=>(X8 ops i=true->JB P ops listed i s')/\JR P ops K (f-1) (listed.setIfInBounds i true) s') s)->
  VP ops N listed p=true-> ∀s,N<=s.pa.length->OW0 P ops.toList p K s->JR P ops K f listed s:=by
  intro p f listed hB hcl hh hf s hl hw;simp only[VP,DF] at hf;rcases hf with hf | hf;cases p with
  | step i ws rest=>
   simp only[vN] at hf;cases hoi:ops[i]? with
   | none=>rw[hoi] at hf;cases hf
   | some oi=>
    rw[hoi] at hf;simp only at hf;cases hdi:oi.dst with
    | none=>rw[hdi] at hf;cases hf
    | some di=>
     rw[hdi] at hf;simp only[q_i,EL,BN,q_d,E0] at hf;obtain⟨⟨⟨hq,hown⟩,hN⟩,hall⟩:=hf;have hready:=YV hB i (by simp[Plan.heads]);have hp:=hh s hl hw i (by simp[Plan.heads]);cases f with
     | zero=>exact absurd rfl hready.2
     | succ f=>
      unfold POp at hp;rw[hoi] at hp;obtain⟨u,hy,_,hrest⟩:=y7 hq hp;refine Z1w (di:=di) hoi hq hdi (by simpa using hown) hN f listed s hl hcl (fun j oj hj hji hun hnr=> ?_) (fun k ok hk hkl hlo=> ?_) hready.1 hy (by simpa using hrest);have hlt:=(C3.1 hj).1;have:=hall j hlt;simp only[hj,FT,hji,DF,q_i,hun,hnr,B3,false_or] at this;exact this.1;by_cases hki:k=i;subst hki;have:=(mem_ready.1 hready.1).1;rw[I7 this] at hkl;cases hkl;have hlt:=(C3.1 hk).1;have:=hall k hlt;simp only[hk,FT,hki,DF,q_i,hkl,hlo,FU,B3,false_or] at this;have h2:=this.2;simp only[EL,BV,ne_eq] at h2;exact⟨by simpa using h2.1,h2.2⟩
  | done=>cases hf
  | alt a b=>cases hf
  have hcov: ∀i∈Region.ready .any ops listed,i∈p.heads:=fun i hi=>by have:=List.all_eq_true.1 hf i hi;simpa using this
  have hnil:Region.ready .any ops listed= []->K s:=fun h0=>G1j (by
   cases hp:p.heads with
   | nil=>rfl
   | cons i l=>
    have:=(YV hB i (by rw[hp];simp)).1;rw[h0] at this;cases this) hw
  cases f with
  | zero=>
   have h0:Region.ready .any ops listed= []:=by
    cases hr:Region.ready .any ops listed with
    | nil=>rfl
    | cons i l=>exact absurd rfl (YV hB i (hcov i (by rw[hr];simp))).2
   exact⟨h0,hnil h0⟩
  | succ f=>exact⟨hnil,fun i hi=>hh s hl hw i (hcov i hi)⟩
 intro p
 induction p with
 | done=>
  intro f listed hB hcl;have h1: ∀s,N<=s.pa.length->OW0 P ops.toList .done K s-> ∀i∈Plan.done.heads,POp P ops i (fun s'=>(X8 ops i=true->JB P ops listed i s')/\JR P ops K (f-1) (listed.setIfInBounds i true) s') s:=fun s hl hw i hi=>(by cases hi);exact⟨h1,full .done f listed hB hcl h1⟩
 | step k ws rest ih=>
  intro f listed hB hcl;have h1: ∀s,N<=s.pa.length->OW0 P ops.toList (.step k ws rest) K s-> ∀i∈(Plan.step k ws rest).heads,POp P ops i (fun s'=>(X8 ops i=true->JB P ops listed i s')/\JR P ops K (f-1) (listed.setIfInBounds i true) s') s:=by
   intro s hl hw i hi;have hready:=YV hB i hi;simp only[Plan.heads,C0] at hi;subst hi;cases f with
   | zero=>exact absurd rfl hready.2
   | succ f=>
    simp only[XC,qJ,q_i,DF,q_d,E0] at hB;obtain⟨⟨_,hws⟩,hrB,hrF⟩:=hB;obtain⟨_,ih2⟩:=ih f (listed.setIfInBounds i true) hrB (H5 hcl hready.1);refine Z2y (U0b (X2p hw)) ?_;rintro s' ⟨⟨hW,hO⟩,hlen⟩;refine⟨fun heff k ok hkl hok hkq hkl' hkr=> ?_,ih2 hrF s' oG hO⟩;rcases hws with hws | hws;rw[heff] at hws;cases hws;have:=hws k (C3.1 hok).1;simp only[hkl,hkr,hok,hkl',FU,B3,false_or,or_false] at this;exact y6 hW k (by simpa using this) ok hok hkq
  exact⟨h1,full _ f listed hB hcl h1⟩
 | alt a b iha ihb=>
  intro f listed hB hcl;have hab:XC ops N a f listed=true/\XC ops N b f listed=true:=(by cases f<;>simpa[XC] using hB);have h1: ∀s,N<=s.pa.length->OW0 P ops.toList (.alt a b) K s-> ∀i∈(Plan.alt a b).heads,POp P ops i (fun s'=>(X8 ops i=true->JB P ops listed i s')/\JR P ops K (f-1) (listed.setIfInBounds i true) s') s:=by intro s hl hw i hi;simp only[Plan.heads,DN] at hi;exact hi.elim ((iha f listed hab.1 hcl).1 s hl hw.1 i) ((ihb f listed hab.2 hcl).1 s hl hw.2 i)
  exact⟨h1,full _ f listed hB hcl h1⟩
theorem xV {E:Ent}{Q:Pt}(hK: ∀a' w' g' F' s',FSRep E a' w' g' F' s'->K s'->Q .normal a' w'): ∀(f:Nat) (listed:Lc) (a:Act) (w:Lw) (g:Gh) (F:Fr) (s:PFS),
 FSRep E a w g F s->JR P ops K f listed s->wpAnyIn (fen E.rd) 0 P .any ops Q f listed a w:=by
 intro f
 induction f with
 | zero=>exact fun listed a w g F s hr h=>⟨h.1,hK a w g F s hr h.2⟩
 | succ f ih=>
  intro listed a w g F s hr h;refine⟨fun h0=>hK a w g F s hr (h.1 h0),fun i hi=> ?_⟩;have hp:=h.2 i hi;unfold POp at hp;unfold wpOpIn;cases hoi:ops[i]? with
  | none=>rw[hoi] at hp;exact hp.elim
  | some o=>
   rw[hoi] at hp;simp only at hp⊢;unfold POg at hp;split at hp;rename_i hg;rw[BC (by simp[Region.wanted,hg])];exact V5 hr hp fun a' w' g' F' s' hr' hk=>ih _ a' w' g' F' s' hr' hk.2;rename_i j want hg;split at hp;rename_i b hb;have hy:=UX hr hb;split at hp;rename_i he;subst he;rw[BC (by unfold Region.wanted;rw[hg];simp only;rw[hy];simp)];exact V5 hr hp fun a' w' g' F' s' hr' hk=>ih _ a' w' g' F' s' hr' hk.2;rename_i he;rw[BA (by unfold Region.wanted;rw[hg];simp only;rw[hy];simp[he])];exact⟨Yz,ih _ _ w g F _ (hr.put o.dst (.base _ _ (U9 _ _))) hp.2⟩;exact hp.elim
end
theorem Q1c {P:Pg}{E:Ent}{id:Nat}{l:Lo}{Q:Pe}{s:PFS}(hm:P.follows .mixedOrders=true)(N:Nat)(p:Plan)(hB:Ge l.toArray N p=true)(hl:N<=s.pa.length)
 (h:OW0 P l p (Q .normal) s):PWP P E (.region id l.toArray true) Q s:=by
 intro a w g F hr;simp only[Ge,q_i] at hB;have hcl:JS l.toArray (Array.replicate l.toArray.size false):=fun k ok e hk hkl he hb=>by by_cases hkk:k<l.length<;>simp[hkk,q_f,FD] at hkl
 have:=(zp (P:=P) (K:=Q .normal) p _ _ hB.1 hcl).2 hB.2 s hl (by simpa using h);exact wpIn_region_any hm (xV (fun a' w' g' F' s' hr' hk=>⟨g',F',s',hr',hk⟩) _ _ _ _ g F s hr.drew.1 this)
section
variable {P:Program} {s:PFS} {K:PFS->Prop} {d:Option Tmp} {ty:TypeId} {pos:String} {af:Array Edge}
def OW (P:Program)(ops:List Oper)(p:Plan)(K:PFS->Prop)[Stop ops][Stop p][Stop K](s:PFS):Prop:=OW0 P ops p K s
def OS (P:Program)(ops:List Oper)(o:Option Oper)(K:PFS->Prop)[Stop ops][Stop K](s:PFS):Prop:=OS0 P ops o K s
def WL (P:Program)(ops:List Oper)(ws:List Nat)[Stop ops](s:PFS):Prop:=WL0 P ops ws s
def WO (P:Program)(ops:List Oper)(o:Option Oper)[Stop ops](s:PFS):Prop:=match o with | some o=>WG P ops o s | none=>False
@[go_sem] theorem x2u {ops:Lo} :OW P ops .done K s=K s:=(rfl)
@[go_sem] theorem X2n {ops:Lo}{i:Nat}{rest:Plan} :OW P ops (.step i [] rest) K s=OS P ops (ops[i]?) (OW P ops rest K) s:=by simp only[OW,OW0,OS,WL0,LD];rfl
@[go_sem] theorem x2t {ops:Lo}{i k:Nat}{ws:Ln}{rest:Plan} :OW P ops (.step i (k::ws) rest) K s=OS P ops (ops[i]?) (fun s'=>WL P ops (k::ws) s'/\OW P ops rest K s') s:=(rfl)
@[go_sem] theorem x2v {ops:Lo}{a b:Plan} :OW P ops (.alt a b) K s=(OW P ops a K s/\OW P ops b K s):=(rfl)
@[go_sem] theorem x2x {ops:Lo}{op:Op} :OS P ops (some ⟨d,op,ty,pos,af,none⟩) K s=OC P ⟨d,op,ty,pos,af,none⟩ K s:=(rfl)
@[go_sem] theorem x2w {ops:Lo}{op:Op}{j:Nat}{want:Bool} :OS P ops (some ⟨d,op,ty,pos,af,some (j,want)⟩) K s=GK (ZR ops s j want) want (OC P ⟨d,op,ty,pos,af,some (j,want)⟩ K s) (K (s.put d (.tup []))):=(rfl)
@[go_sem] theorem z2u {ops:Lo} :WL P ops [] s=True:=(rfl)
@[go_sem] theorem z2v {ops:Lo}{i:Nat}{ws:Ln} :WL P ops (i::ws) s=(WO P ops (ops[i]?) s/\WL P ops ws s):=(rfl)
@[go_sem] theorem z2t {ops:Lo}{d:Tmp}{t:Lt}{x:Operand} :WO P ops (some ⟨some d,.load t x,ty,pos,af,none⟩) s=Z3 s (fun p _=>s.pa.getD d .junk=p) (Yx (ti P t) (s.ev x)):=(rfl)
@[go_sem] theorem z2s {ops:Lo}{d:Tmp}{t:Lt}{x:Operand}{j:Nat}{want:Bool} :WO P ops (some ⟨some d,.load t x,ty,pos,af,some (j,want)⟩) s=GK (ZR ops s j want) want (Z3 s (fun p _=>s.pa.getD d .junk=p) (Yx (ti P t) (s.ev x))) (s.pa.getD d .junk= .tup []):=(rfl)
end
theorem Q2 {P:Pg}{E:Ent}{id:Nat}{l:Lo}{Q:Pe}{s:PFS}(hm:P.follows .mixedOrders=true)(N:Nat)(p:Plan)(hB:Ge l.toArray N p=true)(hl:N<=s.pa.length)
 (h:OW P l p (Q .normal) s):PWP P E (.region id l.toArray true) Q s:=Q1c hm N p hB hl h
theorem Q5 {P:Pg}{E:Ent}{id:Nat}{l:Lo}{Q:Pe}{s:PFS}(N:Nat)(p:Plan)(h:OW P l p (Q .normal) s)(hm:P.follows .mixedOrders=true:=by exact Q1)(hB:Ge l.toArray N p=true:=by decide+kernel)(hl:N<=s.pa.length:=by simp):PWP P E (.region id l.toArray true) Q s:=Q2 hm N p hB hl h
def Qi :List Nat->Plan->Plan
 | [],p=>p
 | i::l,p=> .step i [] (Qi l p)
@[go_sem] theorem J2t {P:Pg}{ops:Lo}{K:Pf}{s:PFS}{p:Plan} :OW P ops (Qi [] p) K s=OW P ops p K s:=rfl
@[go_sem] theorem J2y {P:Pg}{ops:Lo}{K:Pf}{s:PFS}{i:Nat}{l:Ln}{p:Plan} :OW P ops (Qi (i::l) p) K s=OS P ops (ops[i]?) (OW P ops (Qi l p) K) s:=X2n
attribute [go_sem] Nat.reduceAdd Nat.reduceSub Nat.reduceMul Nat.reduceLeDiff Nat.reduceLT Nat.reduceEqDiff Nat.reduceBEq Nat.reduceBNe reduceIte Int.reduceToNat Int.reduceLT Int.reduceLE Int.reduceAdd Int.reduceSub
attribute [go_sem] EJ CY Nat.lt_add_one Nat.zero_lt_succ
@[go_sem] theorem q2j :(true !=false)=true:=(rfl)
@[go_sem] theorem q2l :(false !=false)=false:=(rfl)
@[go_sem] theorem q2i :(true !=true)=false:=(rfl)
@[go_sem] theorem q2k :(false !=true)=true:=(rfl)
theorem U0r (n:Nat):IntKind.u8.wrap (n:Int)=((n % 256:Nat):Int):=by simp[IntKind.wrap,IntKind.bits,IntKind.signed]
theorem Uo (n:Nat)(h:n<18446744073709551616):IntKind.u64.wrap (n:Int)=(n:Int):=by simp[IntKind.wrap,IntKind.bits,IntKind.signed];omega
theorem Q4 (n:Int)(h: -9223372036854775808<=n)(h2:n<9223372036854775808):IntKind.i64.wrap n=n:=by have e:IntKind.i64.wrap n=if n % 2^64>=2^(64-1) then n % 2^64-2^64 else n % 2^64:=(by simp[IntKind.wrap,IntKind.bits,IntKind.signed]);rw[e];split<;>omega
theorem J2u (i:Nat)(h:i<9223372036854775807):IntKind.i64.wrap ((i:Int)+1)=((i+1:Nat):Int):=by rw[Q4 _ oG oG];omega
theorem qg (k:IntKind)(v c:Nat)(h:c<=k.bits):Zq k (v:Int) (c:Int)=((v/2^c:Nat):Int):=by unfold Zq;rw[FV,DA h];rw[show((2:Int)^c)=((2^c:Nat):Int) from by simp];exact(Int.ofNat_fdiv v (2^c)).symm
def KK (l:List UInt8):List PV:=l.map fun c=> .sc (.int .u8 c.toNat)
@[go_sem] theorem H2g (l:List UInt8):(KK l).length=l.length:=by simp[KK]
@[go_sem] theorem H2f :KK []= []:=(rfl)
@[go_sem] theorem H2d (l:List UInt8):(KK l).all (fun x=>x.cells.length==1)=true:=by simp[KK,PV.cells]
@[go_sem] theorem H2e (l:List UInt8):(KK l).all (fun x=>(x.cells.length==1)&&x.cells.all PV.cellOK)=true:=by simp[KK,PV.cells,PV.cellOK,Value.oneCell']
theorem x1l (l m:List UInt8):KK l++KK m=KK (l++m):=by simp[KK]
theorem x1k (l:List UInt8)(c:UInt8):KK l++ [.sc (.int .u8 c.toNat)]=KK (l++ [c]):=by simp[KK]
def Req.flat :Req->Bool
 | .box _ | .mks _ _=>false
 | .load _ _ _ n agg=>agg||decide (0<n)
 | _=>true
def J0k :Op->Bool
 | .alloc _ | .box _ _ | .makeSlice _ _ _=>false
 | _=>true
section
variable {P:Program} {ops:Array Oper} {o:Oper} {K:PFS->Prop} {s:PFS}
end
def PFS.inScope (s:PFS):Prop:=(∀t,t<s.pa.length->(s.pa.getD t .junk).lim s.L.length s.T.length=true)/\ ∀i,∀p∈s.L.getD i [],p.lim s.L.length s.T.length=true
def VG (X:List (Tmp×List PV))(t:Nat):Option Nat:=
 match X with
 | []=>none
 | x::X=>if x.1=t then some 0 else(VG X t).map (· +1)
section
variable {P:Program} {ops:Array Oper} {K:PFS->Prop}
def vC (P:Program)(ops:Array Oper)(i:Nat):Option (Tmp×List PV):=
 match ops[i]? with
 | some ⟨some d,.alloc t,_,_,_,none⟩=>match HC (ti P t) with
  | .box cs=>if cs.all (PV.lim 0 0)=true then some (d,cs) else none
  | _=>none
 | _=>none
def bx (P:Program)(ops:Array Oper)(i:Nat):Tmp×List PV:=(vC P ops i).getD (0,[])
def kT (ops:Array Oper)(i:Nat):Bool:=match ops[i]? with | some o=>o.after.all fun e=> !Region.binds .any e | none=>false
def ZS (ops:Array Oper)(ph1:List Nat):Array Oper:=ops.mapIdx fun k o=>if ph1.contains k then o else { o with after:=o.after.push ⟨k,.data⟩ }
def XF (l:Array Bool)(π:List Nat):Array Bool:=π.foldl (fun l i=>l.setIfInBounds i true) l
structure Late (P:Program) (ops:Array Oper) (ph1 as ph2:List Nat):Prop where
 all: ∀i,i<ops.size->i∈ph1\/i∈as\/i∈ph2
 lt: ∀i,i∈ph1\/i∈as->i<ops.size
 apart: ∀i∈ph1,i∉as
 nodup:as.Nodup
 slots:((as.map (bx P ops)).map (·.1)).Nodup
 alloc: ∀i∈as,(vC P ops i).isSome=true/\kT ops i=true
 first: ∀i∈ph1,∀o,ops[i]?=some o->(∀e∈o.after,Region.binds .any e=true->e.on<i/\e.on∈ph1)/\J0k o.op=true/\ ∀j∈as,(bx P ops j).1∉o.looksAt ops/\o.dst≠some (bx P ops j).1
 last: ∀k∈ph2,∀j,j∈ph1\/j∈as->UB ops j 12 k=true
theorem Q0v (l:Lc)(π:Ln):(XF l π).size=l.size:=by
 induction π generalizing l with
 | nil=>rfl
 | cons i π ih=>exact(ih _).trans (by simp)
theorem YR {l:Lc}{π:Ln}{k:Nat}(d:Bool):k<l.size->((XF l π).getD k d=true<->l.getD k d=true\/k∈π):=by
 induction π generalizing l with
 | nil=>intro h;simp[XF]
 | cons i π ih=>
  intro h;show(XF (l.setIfInBounds i true) π).getD k d=true<->_;rw[ih (by simpa using h)];by_cases e:i=k;subst e;simp[h];rw[getD_set_ne d e];simp only[D8];constructor;rintro(h | h);exact .inl h;exact .inr (.inr h);rintro(h | h | h);exact .inl h;exact absurd h.symm e;exact .inr h
theorem vM (ph1:Ln)(k:Nat):(ZS ops ph1)[k]?=(ops[k]?).map fun o=>if ph1.contains k then o else { o with after:=o.after.push ⟨k,.data⟩ } :=by unfold ZS;simp
theorem I8 {ph1:Ln}{k:Nat}(h:k∈ph1):(ZS ops ph1)[k]?=ops[k]?:=by rw[vM,ES.2 h];cases ops[k]?<;>rfl
theorem vL {ph1:Ln}{s:PFS}{j:Nat}{want:Bool} :ZR (ZS ops ph1).toList s j want=ZR ops.toList s j want:=by
 unfold ZR;have e1:(ZS ops ph1).toList[j]?=(ZS ops ph1)[j]?:=(by simp);have e2:ops.toList[j]?=ops[j]?:=(by simp);rw[e1,e2,vM];cases ops[j]? with
 | none=>rfl
 | some o=>simp only[Option.map_some];cases ph1.contains j<;>rfl
theorem H1q {ph1:Ln}{i:Nat}(h:i∈ph1){s:PFS} :POp P (ZS ops ph1) i K s=POp P ops i K s:=by unfold POp;rw[I8 h];split;rfl;unfold POg;split;rfl;simp only[vL]
theorem X0t {ph1:Ln}{k:Nat}{listed:Lc}(h:k∈Region.ready .any (ZS ops ph1) listed):k∈ph1:=by
 obtain⟨h0,o,ho,hall⟩:=mem_ready.1 h;rw[vM] at ho;refine BE fun hn=> ?_;have hc:ph1.contains k=false:=by
  cases hb:ph1.contains k with
  | false=>rfl
  | true=>exact absurd (ES.1 hb) hn
 rw[hc] at ho;cases hk:ops[k]? with
 | none=>rw[hk] at ho;cases ho
 | some o'=>
  rw[hk] at ho;simp at ho;subst ho;have:=hall ⟨k,.data⟩ (by simp) rfl;rw[I7 h0] at this;cases this
variable {ph1 as ph2:List Nat} (C:Late P ops ph1 as ph2)
include C
theorem Late.ready {k:Nat}{listed:Lc}{π:Ln}(hsz:listed.size=ops.size)(hk:k∈ph1)(hπ: ∀i∈π,i∈as):
 k∈Region.ready .any (ZS ops ph1) listed<->k∈Region.ready .any ops (XF listed π):=by
 have hlt:k<listed.size:=by rw[hsz];exact C.lt k (.inl hk)
 have hkp:k∉π:=fun h=>C.apart k hk (hπ k h);rw[mem_ready,mem_ready,I8 hk];have e0:(XF listed π).getD k true=false<->listed.getD k true=false:=by
  have:=YR (l:=listed) (π:=π) (k:=k) true hlt;constructor;intro h;cases hb:listed.getD k true with
  | false=>rfl
  | true=>rw[this.2 (.inl hb)] at h;cases h
  intro h;cases hb:(XF listed π).getD k true with
  | false=>rfl
  | true=>
   rcases this.1 hb with h1 | h1;rw[h] at h1;cases h1;exact absurd h1 hkp
 rw[e0];refine and_congr_right fun _=> ?_;constructor;rintro⟨o,ho,h⟩;refine⟨o,ho,fun e he hb=> ?_⟩;obtain⟨h1,h2⟩:=(C.first k hk o ho).1 e he hb;exact(YR (l:=listed) (π:=π) false (by rw[hsz];exact C.lt _ (.inl h2))).2 (.inl (h e he hb));rintro⟨o,ho,h⟩;refine⟨o,ho,fun e he hb=> ?_⟩;obtain⟨h1,h2⟩:=(C.first k hk o ho).1 e he hb;rcases (YR (l:=listed) (π:=π) false (by rw[hsz];exact C.lt _ (.inl h2))).1 (h e he hb) with h3 | h3;exact h3;exact absurd (hπ _ h3) (C.apart _ h2)
theorem Late.done {listed:Lc}(hsz:listed.size=ops.size)(hr:Region.ready .any (ZS ops ph1) listed= []): ∀n k,k<n->k∈ph1->listed.getD k false=true:=by
 intro n
 induction n with
 | zero=>intro k h;omega
 | succ n ih=>
  intro k hkn hk;by_cases hlt:k<n;exact ih k hlt hk;have hkn:k=n:=oG;subst hkn;cases hb:listed.getD k false with
  | true=>rfl
  | false=>
   have hks:k<ops.size:=C.lt k (.inl hk);have:k∈Region.ready .any (ZS ops ph1) listed:=by rw[mem_ready,I8 hk];refine⟨?_,ops[k],by simp[hks],fun e he hbd=> ?_⟩;have:k<listed.size:=(by rw[hsz];exact hks);simpa[this] using hb;obtain⟨h1,h2⟩:=(C.first k hk ops[k] (by simp[hks])).1 e he hbd;exact ih _ h1 h2
   rw[hr] at this;cases this
theorem Late.closed {listed:Lc}{π:Ln}(hsz:listed.size=ops.size)(hl: ∀k,listed.getD k false=true->k∈ph1)(hcl:JS (ZS ops ph1) listed)(hπ: ∀i∈π,i∈as):JS ops (XF listed π):=by intro k o e ho hk he hb;have hks:k<listed.size:=(by rw[hsz];exact(C3.1 ho).1);rcases (YR (l:=listed) (π:=π) false hks).1 hk with h | h;have h1:=hl k h;have:=hcl k o e (by rw[I8 h1];exact ho) h he hb;obtain⟨_,h3⟩:=(C.first k h1 o ho).1 e he hb;exact(YR (l:=listed) (π:=π) false (by rw[hsz];exact C.lt _ (.inl h3))).2 (.inl this);have:=(C.alloc k (hπ k h)).2;unfold kT at this;rw[ho] at this;simp only at this;rw[Array.all_eq_true'] at this;have:=this e he;rw[hb] at this;cases this
omit C
theorem yJ {rd:Option Nat}{Q:Pt} : ∀(f:Nat) (listed:Lc) (a:Act) (w:Lw),wpAnyIn (fen rd) 0 P .any ops Q f listed a w->wpAnyIn (fen rd) 0 P .any ops Q (f+1) listed a w
 | 0,listed,a,w,h=>⟨fun _=>h.2,fun i hi=>by rw[h.1] at hi;cases hi⟩
 | f+1,listed,a,w,h=>⟨h.1,fun i hi=>wpOpIn_mono (fun a' w' h'=>yJ f _ a' w' h') (h.2 i hi)⟩
theorem U0v {rd:Option Nat}{Q:Pt}{f f':Nat}(hle:f<=f'){listed:Lc}{a:Act}{w:Lw}(h:wpAnyIn (fen rd) 0 P .any ops Q f listed a w):wpAnyIn (fen rd) 0 P .any ops Q f' listed a w:=by
 obtain⟨k,rfl⟩: ∃k,f'=f+k:=⟨f'-f,oG⟩;clear hle
 induction k with
 | zero=>exact h
 | succ k ih=>exact yJ _ _ _ _ ih
section
variable {E:Ent} {Q:Exit->Act->World->Prop} {N f2:Nat} {p2:Plan}
 (h2:XC ops N p2 f2 (XF (XF (Array.replicate ops.size false) ph1) as)=true) (h2':VP ops N (XF (XF (Array.replicate ops.size false) ph1) as) p2=true)
 (hK: ∀a' w' g' F' s',FSRep E a' w' g' F' s'->K s'->Q .normal a' w')
include C h2 h2' hK
end
end
def Plan.inB (ph1:List Nat):Plan->Bool
 | .done=>true
 | .step i ws rest=>ph1.contains i&&(ws.all ph1.contains&&rest.inB ph1)
 | .alt a b=>a.inB ph1&&b.inB ph1
section
variable {P:Program} {ops:Array Oper} {ph1:List Nat}
theorem X2q {o:Oper}{K:Pf}{s:PFS} :OG P (ZS ops ph1).toList o K s=OG P ops.toList o K s:=by simp only[OG,vL]
theorem Z2r {o:Oper}{s:PFS} :WG P (ZS ops ph1).toList o s=WG P ops.toList o s:=by simp only[WG,vL]
theorem X0u {i:Nat}(h:i∈ph1):(ZS ops ph1).toList[i]?=ops.toList[i]?:=by have:=I8 (ops:=ops) h;simpa using this
theorem Y0z : ∀ {ws:Ln} {s:PFS},(∀i∈ws,i∈ph1)->WL0 P (ZS ops ph1).toList ws s=WL0 P ops.toList ws s
 | [],s,h=>rfl
 | i::ws,s,h=>by unfold WL0;rw[X0u (h i (DG ..)),Y0z fun j hj=>h j (DL _ hj)];simp only[Z2r]
theorem xR : ∀(p:Plan) (K:Pf),p.inB ph1=true->OW0 P (ZS ops ph1).toList p K=OW0 P ops.toList p K
 | .done,K,h=>rfl
 | .step i ws rest,K,h=>by simp only[Plan.inB,q_i] at h;obtain⟨h1,h2,h3⟩:=h;have hi:i∈ph1:=ES.1 h1;have hw: ∀j∈ws,j∈ph1:=fun j hj=>ES.1 (List.all_eq_true.1 h2 j hj);funext s;unfold OW0;rw[X0u hi,xR rest K h3];have e:(fun s'=>WL0 P (ZS ops ph1).toList ws s'/\OW0 P ops.toList rest K s')=(fun s'=>WL0 P ops.toList ws s'/\OW0 P ops.toList rest K s'):=funext fun s'=>(by rw[Y0z hw]);rw[e];unfold OS0;split;exact X2q;rfl
 | .alt a b,K,h=>by simp only[Plan.inB,q_i] at h;funext s;unfold OW0;rw[xR a K h.1,xR b K h.2]
end
def zV (P:Program)(ops:Array Oper)(N:Nat)(ph1 as ph2:List Nat)(p1 p2:Plan):Bool:=
 (List.range ops.size).all (fun i=>ph1.contains i||(as.contains i||ph2.contains i))&&
 ((ph1++as).all (fun i=>decide (i<ops.size))&&
 (ph1.all (fun i=> !as.contains i)&&
 (decide as.Nodup&&
 (decide ((as.map (bx P ops)).map (·.1)).Nodup&&
 (as.all (fun i=>(vC P ops i).isSome&&kT ops i)&&
 (ph1.all (fun i=>match ops[i]? with
  | none=>true
  | some o=>o.after.all (fun e=> !Region.binds .any e||(decide (e.on<i)&&ph1.contains e.on))&&(J0k o.op&&as.all fun j=> !(o.looksAt ops).contains (bx P ops j).1&&o.dst !=some (bx P ops j).1))&&
 (ph2.all (fun k=>(ph1++as).all fun j=>UB ops j 12 k)&&
 (decide (ph1.length+as.length+ph2.length<=ops.size)&&
 (p1.inB ph1&&
 (XC (ZS ops ph1) N p1 ph1.length (Array.replicate ops.size false)&&
 (VP (ZS ops ph1) N (Array.replicate ops.size false) p1&&
 (XC ops N p2 ph2.length (XF (XF (Array.replicate ops.size false) ph1) as)&&
 VP ops N (XF (XF (Array.replicate ops.size false) ph1) as) p2))))))))))))
theorem Y1i {P:Pg}{ops:La}{N:Nat}{ph1 as ph2:Ln}{p1 p2:Plan}(h:zV P ops N ph1 as ph2 p1 p2=true):Late P ops ph1 as ph2:=by simp only[zV,q_i] at h;obtain⟨h1,h2,h3,h4,h5,h6,h7,h8,_⟩:=h;refine⟨fun i hi=> ?_,fun i hi=> ?_,fun i hi hn=> ?_,q_b h4,q_b h5,fun i hi=>CR.1 (List.all_eq_true.1 h6 i hi),fun i hi o ho=> ?_,fun k hk j hj=> ?_⟩;have:=List.all_eq_true.1 h1 i (E0.2 hi);simp only[DF,ES] at this;exact this;exact q_b (List.all_eq_true.1 h2 i (DN.2 hi));have:=List.all_eq_true.1 h3 i hi;rw[ES.2 hn] at this;cases this;have:=List.all_eq_true.1 h7 i hi;rw[ho] at this;simp only[q_i] at this;obtain⟨a1,a2,a3⟩:=this;refine⟨fun e he hb=> ?_,a2,fun j hj=> ?_⟩;rw[Array.all_eq_true'] at a1;have:=a1 e he;rw[hb] at this;simp at this;exact this;have:=List.all_eq_true.1 a3 j hj;simp only[q_i,EL,BV,ne_eq] at this;refine⟨fun hm=> ?_,this.2⟩;rw[ES.2 hm] at this;cases this.1;exact List.all_eq_true.1 (List.all_eq_true.1 h8 k hk) j (DN.2 hj)
section
variable {P:Program} {s:PFS} {K:PFS->Prop}
end
end Go.Pv
end
