/- Walk. -/
import Derived.Test.YtpfladficeildaaGreatDoorZB
import Derived.Scope
import Derived.Orders
set_option linter.all false
set_option maxHeartbeats 160000000
section
namespace Go.Pv
def VI (s:PFS)(K:PV->PFS->Prop):Req->Prop
 | .val v=>K v s
 | .need c v=>c=true/\K v s
 | .load gl i off n agg=>
  off+n<=((if gl then s.st else s.L).getD i []).length/\K (if agg then .agg ((((if gl then s.st else s.L).getD i []).drop off).take n) else((if gl then s.st else s.L).getD i []).getD off .junk) s
 | .store gl i off cs=>
  (off+cs.length<=((if gl then s.st else s.L).getD i []).length/\0<((if gl then s.st else s.L).getD i []).length)/\
   K .junk (if gl then { s with st:=s.st.set i (Q4 ((if gl then s.st else s.L).getD i []) off cs) } else { s with L:=s.L.set i (Q4 ((if gl then s.st else s.L).getD i []) off cs) })
 | .box cs=>K (.lp s.L.length 0) { s with L:=s.L++ [cs] }
 | .mks cs len=>K (.ms false s.L.length 0 len) { s with L:=s.L++ [cs] }
 | .newsl es=>K (.sl .full es) s
 | .app t es ys e=>
  (e.zok=true/\es.length+ys.length<=1152921504606846976/\(es.length+ys.length)*e.by_<=140737488355328/\
   es.all (fun x=>x.cells.length==e.sz)=true/\ys.all (fun x=>(x.cells.length==e.sz)&&x.cells.all PV.cellOK)=true)/\
   match t with
   | .own k=>s.T.getD k (0,0)=(es.length,e.sz)/\K (.sl (.own k) (es++ys)) { s with T:=s.T.set k (es.length+ys.length,e.sz) }
   | .full=>(es.length=0\/0<ys.length)/\K (.sl (.own s.T.length) (es++ys)) { s with T:=s.T++ [(es.length+ys.length,e.sz)] }
   | _=>False
 | .fail=>False
theorem jV {s:PFS}{K:Pw}{r:Req}(h:VI s K r): ∃p s',r.run s=some (p,s')/\K p s':=by
 cases r with
 | val v=>exact⟨_,_,rfl,h⟩
 | need c v=>exact⟨_,_,by simp[Req.run,h.1],h.2⟩
 | load gl i off n agg=>exact⟨_,_,BC h.1,h.2⟩
 | store gl i off cs=>exact⟨_,_,BC h.1,h.2⟩
 | box cs=>exact⟨_,_,rfl,h⟩
 | mks cs len=>exact⟨_,_,rfl,h⟩
 | newsl es=>exact⟨_,_,rfl,h⟩
 | app t es ys e=>
  obtain⟨h1,h2⟩:=h;cases t with
  | own k=>exact⟨_,_,by simp only[Req.run];rw[BC h1,BC h2.1],h2.2⟩
  | full=>exact⟨_,_,by simp only[Req.run];rw[BC h1,BC h2.1],h2.2⟩
  | _=>exact h2.elim
 | fail=>exact h.elim
def Is :Op->Bool
 | .binOp .eql _ _ _ _ | .binOp .neq _ _ _ _=>false
 | .call { callee:= .builtin _,.. } =>true
 | .call _=>false
 | _=>true
theorem X1j {P:Pg}{o:Oper}{K:Pf}{s:PFS}(hp:Is o.op=true)(h:VI s (fun p s'=>K (s'.put o.dst p)) (req P o.op o.type s.ev)):PO P o K s:=by
 obtain⟨p,s',hr,hk⟩:=jV h;have e1:JR P o.op s.ev=none:=by unfold JR;split;rename_i heq;rw[heq] at hp;cases hp;rename_i heq;rw[heq] at hp;cases hp;rfl
 have e2:JZ o.op s.ev=none:=by unfold JZ;split;rename_i heq;rw[heq] at hp;cases hp;rfl
 unfold PO;rw[e1,e2];simp only[KB,hr];exact hk
def OC0 (P:Program)(o:Oper)(K:PFS->Prop)(s:PFS):Prop:=
 match Is o.op with
 | true=>VI s (fun p s'=>K (s'.put o.dst p)) (req P o.op o.type s.ev)
 | false=>PO P o K s
theorem Vs {P:Pg}{o:Oper}{K:Pf}{s:PFS}(h:OC0 P o K s):PO P o K s:=by unfold OC0 at h;split at h;rename_i hp;exact X1j hp h;exact h
def GK0 (b:Option Bool)(want:Bool)(x y:Prop):Prop:=match b with | some b=>(b=want->x)/\(b≠want->y) | none=>False
def CK0 (p:PV)(x y:Prop):Prop:=match p with | .sc (.bool b)=>(b=true->x)/\(b=false->y) | _=>False
def OL0 (P:Program)(ops:List Oper):List Oper->(PFS->Prop)->PFS->Prop
 | [],K,s=>K s
 | o::rest,K,s=>
  match o.guard with
  | none=>OC0 P o (OL0 P ops rest K) s
  | some (j,want)=>GK0 (ZA ops s j want) want (OC0 P o (OL0 P ops rest K) s) (OL0 P ops rest K (s.put o.dst (.tup [])))
theorem G0m {P:Pg}{o:Oper}{K K':Pf}{s:PFS}(h:OC0 P o K s)(hk: ∀s,K s->K' s):OC0 P o K' s:=by
 have mono: ∀r,VI s (fun p s'=>K (s'.put o.dst p)) r->VI s (fun p s'=>K' (s'.put o.dst p)) r:=by
  intro r hr;cases r with
  | app t es ys e=>
   refine⟨hr.1,?_⟩;have h2:=hr.2;cases t with
   | own k=>exact⟨h2.1,hk _ h2.2⟩
   | full=>exact⟨h2.1,hk _ h2.2⟩
   | _=>exact h2
  | val v=>exact hk _ hr
  | need c v=>exact⟨hr.1,hk _ hr.2⟩
  | load gl i off n agg=>exact⟨hr.1,hk _ hr.2⟩
  | store gl i off cs=>exact⟨hr.1,hk _ hr.2⟩
  | box cs=>exact hk _ hr
  | mks cs len=>exact hk _ hr
  | newsl es=>exact hk _ hr
  | fail=>exact hr
 unfold OC0 at h⊢;cases hp:Is o.op with
 | true=>rw[hp] at h;exact mono _ h
 | false=>
  rw[hp] at h;simp only at h⊢;unfold PO at h⊢;split;rename_i hn;rw[hn] at h;exact fun b hb=>hk _ (h b hb);rename_i hn;rw[hn] at h;simp only at h;split;rename_i hc;rw[hc] at h;exact⟨h.1,h.2.mono fun r st q=>hk _ q⟩;rename_i hc;rw[hc] at h;simp only at h;split;rename_i hs;rw[hs] at h;exact hk _ h;rename_i hs;rw[hs] at h;exact h
theorem YZ {P:Pg}{ops:Lo}{K:Pf} : ∀ {rest:Lo} {s:PFS},OL0 P ops rest K s->PLc P ops rest K s
 | [],s,h=>h
 | o::rest,s,h=>by
  have ih:=fun s=> @YZ P ops K rest s;unfold OL0 at h;unfold PLc;split;rename_i hg;rw[hg] at h;exact Vs (G0m h ih);rename_i j want hg;rw[hg] at h;simp only at h;cases hb:ZA ops s j want with
  | none=>rw[hb] at h;exact h.elim
  | some b=>
   rw[hb] at h;simp only;obtain⟨h1,h2⟩:=h;split;rename_i e;exact Vs (G0m (h1 e) ih);rename_i e;exact ih _ (h2 e)
def Hv (Q:Exit->PFS->Prop):Exit->PFS->Prop:=fun e s=>match e with | .goto _=>False | e=>Q e s
def Zo :Code->Bool
 | .seq x y=>Zo x||Zo y
 | .cond _ x y=>Zo x||Zo y
 | .block _ x=>Zo x
 | .scope x=>Zo x
 | .loop _=>true
 | _=>false
def J0g (c:Code):Bool:=Zo c
def VC0 (P:Program)(E:Ent):Code->(Exit->PFS->Prop)->PFS->Prop
 | .skip,Q,s=>Q .normal s
 | .label _,Q,s=>Q .normal s
 | .seq x y,Q,s=>VC0 P E x (ZO (if J0g x then PWP P E y Q else VC0 P E y Q) Q) s
 | .region id ops false,Q,s=>OL0 P ops.toList ops.toList (Q .normal) s
 | .region id ops true,Q,s=>PWP P E (.region id ops true) Q s
 | .cond c x y,Q,s=>CK0 (s.ev c) (VC0 P E x Q s) (VC0 P E y Q s)
 | .block id c,Q,s=>VC0 P E c (XL id Q) s
 | .exit id,Q,s=>Q (.exit id) s
 | .ret,Q,s=>Q .ret s
 | .scope c,Q,s=>VC0 P E c (Hv Q) s
 | .loop c,Q,s=>PWP P E (.loop c) Q s
 | c,Q,s=>PWP P E c Q s
theorem Vw {P:Pg}{b:Frame}{a:Act}{k:List Item}{cs:List Frame}{w:Lw}{c:Code} :step P (lone (b.atR a (.code (.scope c)::k)) cs w)= .next (lone (b.atR a (.code c:: .inScope c::k)) cs w):=
 step_lone_go (by simp[stepG,stepG.exec,Frame.atR])
theorem Eg {P:Pg}{b:Frame}{a:Act}{k:List Item}{cs:List Frame}{w:Lw}{c:Code} :step P (lone (b.atR a (.inScope c::k)) cs w)= .next (lone (b.atR a k) cs w):=
 step_lone_go (by simp[stepG,stepG.exec,Frame.atR])
theorem zD {P:Pg}{E:Ent}{c:Code}{Q:Pe}{s:PFS}(h:PWP P E c (Hv Q) s):PWP P E (.scope c) Q s:=by
 intro a w g F hr b k cs hro hbf hrm;obtain⟨e,a₁,w₁,⟨g1,F1,s1,hr1,hq⟩,harr⟩:=h a w g F hr b (.inScope c::k) cs hro hbf hrm;have h0:(lone (b.atR a (.code (.scope c)::k)) cs w).fenced P (fen E.rd):=fenced_calm hbf hrm rfl;cases e with
 | normal=>exact⟨.normal,a₁,w₁,⟨g1,F1,s1,hr1,hq⟩,.head h0 Vw (StepsIn.trans harr (.one (fenced_calm hbf hrm rfl) Eg))⟩
 | exit id=>exact⟨.exit id,a₁,w₁,⟨g1,F1,s1,hr1,hq⟩,fun k' hk=> .head h0 Vw (harr.1 k' (by simp[exitTo,hk])),
  fun hr' hk=>let ⟨k₁,h1,h2⟩:=harr.2 hr' (by simp[exitTo,hk]);⟨k₁,h1,.head h0 Vw h2⟩⟩
 | goto l=>exact hq.elim
 | ret=>exact⟨_,a₁,w₁,⟨g1,F1,s1,hr1,hq⟩,.of_steps (.one h0 Vw) harr⟩
 | panic ch=>exact⟨_,a₁,w₁,⟨g1,F1,s1,hr1,hq⟩,.of_steps (.one h0 Vw) harr⟩
 | outgrown=>exact⟨_,a₁,w₁,⟨g1,F1,s1,hr1,hq⟩,.of_steps (.one h0 Vw) harr⟩
theorem Q1w {P:Pg}{E:Ent}{c:Code} : ∀ {Q:Pe} {s:PFS},VC0 P E c Q s->PWP P E c Q s:=by
 induction c with
 | skip=>exact fun h=>Q1t h
 | label l=>exact fun h=>Z1b h
 | region id ops d=>
  cases d with
  | false=>exact fun h=>Q1v (YZ h)
  | true=>exact fun h=>h
 | seq x y ihx ihy=>
  intro Q s h;refine Qe (zF (ihx h) ?_);intro e s hq;cases e with
  | normal=>
   simp only[ZO] at hq;cases hb:J0g x with
   | true=>rw[hb] at hq;exact hq
   | false=>rw[hb] at hq;exact ihy hq
  | _=>exact hq
 | cond c x y ihx ihy=>
  intro Q s h;simp only[VC0,CK0] at h;split at h;rename_i b hb;exact KH hb (fun e=>ihx (h.1 e)) (fun e=>ihy (h.2 e));exact h.elim
 | block id c ih=>exact fun h=>Xp (ih h)
 | exit id=>exact fun h=>Z1d h
 | ret=>exact fun h=>Q1u h
 | scope c ih=>exact fun h=>zD (ih h)
 | _=>exact fun h=>h
def Kc (P:Program)(E:Ent)(b:Bool)(y:Code)(Q:Exit->PFS->Prop)(s:PFS):Prop:=if b then PWP P E y Q s else VC0 P E y Q s
class Stop.{u} {α:Sort u} (a:α):Type where
instance instStop.{u} {α:Sort u} (a:α):Stop a:=⟨⟩
def ZD (s:PFS)(K:PV->PFS->Prop)[Stop K](r:Req):Prop:=VI s K r
def GK (b:Option Bool)(want:Bool)(x y:Prop)[Stop x][Stop y]:Prop:=GK0 b want x y
def CK (p:PV)(x y:Prop)[Stop x][Stop y]:Prop:=CK0 p x y
def OC (P:Program)(o:Oper)(K:PFS->Prop)[Stop o][Stop K](s:PFS):Prop:=OC0 P o K s
def OL (P:Program)(ops rest:List Oper)(K:PFS->Prop)[Stop ops][Stop rest][Stop K](s:PFS):Prop:=OL0 P ops rest K s
def VC (P:Program)(E:Ent)(c:Code)(Q:Exit->PFS->Prop)[Stop c][Stop Q](s:PFS):Prop:=VC0 P E c Q s
def PW (P:Program)(E:Ent)(c:Code)(Q:Exit->PFS->Prop)[Stop c][Stop Q](s:PFS):Prop:=PWP P E c Q s
def Uv (P:Program)(E:Ent)(b:Bool)(y:Code)(Q:Exit->PFS->Prop)[Stop y][Stop Q](s:PFS):Prop:=Kc P E b y Q s
def eth (K:PFS->Prop)(Q:Exit->PFS->Prop)[Stop K][Stop Q](e:Exit)(s:PFS):Prop:=ZO K Q e s
def ebl (id:Nat)(Q:Exit->PFS->Prop)[Stop Q](e:Exit)(s:PFS):Prop:=XL id Q e s
def esc (Q:Exit->PFS->Prop)[Stop Q](e:Exit)(s:PFS):Prop:=Hv Q e s
def bQ (P:Program)(fz:Option Nat)(fn:Func)(Q:PV->Qc->Prop)[Stop Q](e:Exit)(s:PFS):Prop:=Gk P fz fn Q e s
def EC (P:Program)(f:FuncId)(as:List PV)(st:Qc)(Q:PV->Qc->Prop)[Stop Q]:Prop:=ExtCalls P f as st Q
def PC (P:Program)(f:FuncId)(as:List PV)(st:Qc)(Q:PV->Qc->Prop)[Stop Q]:Prop:=PCalls P f as st Q
theorem Qb {P:Pg}{E:Ent}{c:Code}{Q:Pe}{s:PFS}(h:VC P E c Q s):PWP P E c Q s:=Q1w h
theorem ck {b:Bool}{x y:Prop}(h1:b=true->x)(h2:b=false->y):CK (.sc (.bool b)) x y:=⟨h1,h2⟩
theorem Qp {P:Pg}{E:Ent}{c:Code}{Q:Pe}{s:PFS}{B:Prop}(k:B)(e:VC P E c Q s=B:=by simp-dsimp only[go_sem];exact rfl):PWP P E c Q s:=Qb (e.mpr k)
theorem Qa {P:Pg}{E:Ent}{x y:Code}{Q:Pe}{s:PFS}{B:Prop}(k:B)(e:VC P E x (ZO (PWP P E y Q) Q) s=B:=by simp-dsimp only[go_sem];exact rfl):PWP P E (.seq x y) Q s:=Qe (Qb (e.mpr k))
theorem Ql {P:Pg}{f:FuncId}{fn:Func}{c:Code}{args:Lp}{st:Qc}{Q:PV->Qc->Prop}{B:Ent->Prop}(hf:P.funcs[f]?=some fn)(h: ∀E,B E)(hb:fn.body=some c:=by exact rfl)
 (e: ∀E,VC P E c (Gk P none fn Q) (Vx fn args st)=B E:=by intro E;simp-dsimp only[go_sem];exact rfl):PCalls P f args st Q:=Qh none hf hb fun E=>Qb ((e E).mpr (h E))
theorem QS {A:Prop}{b:Bool}{x y:Prop}(h1:b=true->x)(h2:b=false->y)(e:A=CK (.sc (.bool b)) x y:=by simp-dsimp only[go_sem];exact rfl):A:=e.mpr ⟨h1,h2⟩
theorem Qq {A B:Prop}(k:B)(e:A=B:=by simp-dsimp only[go_sem];exact rfl):A:=e.mpr k
theorem QA {A:Prop}(k:A:=by simp-dsimp only[go_sem]):A:=k
theorem J2y {A B p:Prop}(x:p)(k:B)(e:p->A=B:=by intro h;simp-dsimp only[go_sem,h];exact rfl):A:=(e x).mpr k
theorem J2x {A B p q:Prop}(x:p)(y:q)(k:B)(e:p->q->A=B:=by intro h i;simp-dsimp only[go_sem,h,i];exact rfl):A:=(e x y).mpr k
theorem J2w {A B p q r:Prop}(x:p)(y:q)(z:r)(k:B)(e:p->q->r->A=B:=by intro h i j;simp-dsimp only[go_sem,h,i,j];exact rfl):A:=(e x y z).mpr k
theorem gkT {b:Bool}{x y:Prop}(h1:b=true->x)(h2:b=false->y):GK (some b) true x y:=by cases b<;>simp_all [GK,GK0]
theorem gkF {b:Bool}{x y:Prop}(h1:b=false->x)(h2:b=true->y):GK (some b) false x y:=by cases b<;>simp_all [GK,GK0]
section
variable {P:Program} {E:Ent} {Q:Exit->PFS->Prop} {s:PFS} {K:PFS->Prop} {d:Option Tmp} {ty:TypeId} {pos:String} {af:Array Edge} {gd:Option (Nat×Bool)}
@[go_sem] theorem X2z :VC P E .skip Q s=Q .normal s:=(rfl)
@[go_sem] theorem J2o {l:Nat} :VC P E (.label l) Q s=Q .normal s:=(rfl)
@[go_sem] theorem J2e {id:Nat}{ops:La}{d:Bool}{y:Code} :VC P E (.seq (.region id ops d) y) Q s=VC P E (.region id ops d) (eth (VC P E y Q) Q) s:=(rfl)
@[go_sem] theorem J2b {x z:Code}{y:Code} :VC P E (.seq (.seq x z) y) Q s=VC P E (.seq x z) (eth (Uv P E (Zo (.seq x z)) y Q) Q) s:=by
 have e:Kc P E (Zo (.seq x z)) y Q=if Zo (.seq x z) then PWP P E y Q else VC0 P E y Q:=by funext s;unfold Kc;split<;>rfl
 show VC0 P E (.seq (.seq x z) y) Q s=VC0 P E (.seq x z) (ZO (Kc P E (Zo (.seq x z)) y Q) Q) s;rw[e];rfl
@[go_sem] theorem J2i {c:Operand}{x z:Code}{y:Code} :VC P E (.seq (.cond c x z) y) Q s=VC P E (.cond c x z) (eth (Uv P E (Zo (.cond c x z)) y Q) Q) s:=by
 have e:Kc P E (Zo (.cond c x z)) y Q=if Zo (.cond c x z) then PWP P E y Q else VC0 P E y Q:=by funext s;unfold Kc;split<;>rfl
 show VC0 P E (.seq (.cond c x z) y) Q s=VC0 P E (.cond c x z) (ZO (Kc P E (Zo (.cond c x z)) y Q) Q) s;rw[e];rfl
@[go_sem] theorem J2c {x:Code}{y:Code} :VC P E (.seq (.scope x) y) Q s=VC P E (.scope x) (eth (Uv P E (Zo (.scope x)) y Q) Q) s:=by
 have e:Kc P E (Zo (.scope x)) y Q=if Zo (.scope x) then PWP P E y Q else VC0 P E y Q:=by funext s;unfold Kc;split<;>rfl
 show VC0 P E (.seq (.scope x) y) Q s=VC0 P E (.scope x) (ZO (Kc P E (Zo (.scope x)) y Q) Q) s;rw[e];rfl
@[go_sem] theorem J2f {x:Code}{y:Code} :VC P E (.seq (.loop x) y) Q s=VC P E (.loop x) (eth (Uv P E (Zo (.loop x)) y Q) Q) s:=by
 have e:Kc P E (Zo (.loop x)) y Q=if Zo (.loop x) then PWP P E y Q else VC0 P E y Q:=by funext s;unfold Kc;split<;>rfl
 show VC0 P E (.seq (.loop x) y) Q s=VC0 P E (.loop x) (ZO (Kc P E (Zo (.loop x)) y Q) Q) s;rw[e];rfl
@[go_sem] theorem J2j {id:Nat}{x y:Code} :VC P E (.seq (.block id x) y) Q s=VC P E (.block id x) (eth (Uv P E (Zo x) y Q) Q) s:=by
 have e:Kc P E (Zo x) y Q=if Zo x then PWP P E y Q else VC0 P E y Q:=by funext s;unfold Kc;split<;>rfl
 show VC0 P E (.seq (.block id x) y) Q s=VC0 P E (.block id x) (ZO (Kc P E (Zo x) y Q) Q) s;rw[e];rfl
@[go_sem] theorem K2a {y:Code} :Uv P E true y Q s=PW P E y Q s:=(rfl)
@[go_sem] theorem K2b {y:Code} :Uv P E false y Q s=VC P E y Q s:=(rfl)
@[go_sem] theorem W2o {x y:Code} :Zo (.seq x y)=(Zo x||Zo y):=(rfl)
@[go_sem] theorem W2v {c:Operand}{x y:Code} :Zo (.cond c x y)=(Zo x||Zo y):=(rfl)
@[go_sem] theorem W2w {id:Nat}{x:Code} :Zo (.block id x)=Zo x:=(rfl)
@[go_sem] theorem W2p {x:Code} :Zo (.scope x)=Zo x:=(rfl)
@[go_sem] theorem W2s {x:Code} :Zo (.loop x)=true:=(rfl)
@[go_sem] theorem W2r {id:Nat}{ops:La}{d:Bool} :Zo (.region id ops d)=false:=(rfl)
@[go_sem] theorem W2n :Zo .skip=false:=(rfl)
@[go_sem] theorem W2q :Zo .ret=false:=(rfl)
@[go_sem] theorem W2u {id:Nat} :Zo (.exit id)=false:=(rfl)
@[go_sem] theorem W2t {l:Nat} :Zo (.label l)=false:=(rfl)
attribute [go_sem] Bool.or_false Bool.false_or Bool.or_true Bool.true_or
@[go_sem] theorem J2a {y:Code} :VC P E (.seq .skip y) Q s=VC P E .skip (eth (VC P E y Q) Q) s:=(rfl)
@[go_sem] theorem J2g {l:Nat}{y:Code} :VC P E (.seq (.label l) y) Q s=VC P E (.label l) (eth (VC P E y Q) Q) s:=(rfl)
@[go_sem] theorem J2h {id:Nat}{y:Code} :VC P E (.seq (.exit id) y) Q s=VC P E (.exit id) (eth (VC P E y Q) Q) s:=(rfl)
@[go_sem] theorem J2d {y:Code} :VC P E (.seq .ret y) Q s=VC P E .ret (eth (VC P E y Q) Q) s:=(rfl)
@[go_sem] theorem J2k {x:Code} :VC P E (.scope x) Q s=VC P E x (esc Q) s:=(rfl)
@[go_sem] theorem J2m {id:Nat}{l:Lo} :VC P E (.region id l.toArray false) Q s=OL P l l (Q .normal) s:=(rfl)
@[go_sem] theorem J2q {id:Nat}{ops:La} :VC P E (.region id ops true) Q s=PW P E (.region id ops true) Q s:=(rfl)
@[go_sem] theorem J2r {c:Operand}{x y:Code} :VC P E (.cond c x y) Q s=CK (s.ev c) (VC P E x Q s) (VC P E y Q s):=(rfl)
@[go_sem] theorem J2s {id:Nat}{c:Code} :VC P E (.block id c) Q s=VC P E c (ebl id Q) s:=(rfl)
@[go_sem] theorem J2p {id:Nat} :VC P E (.exit id) Q s=Q (.exit id) s:=(rfl)
@[go_sem] theorem J2l :VC P E .ret Q s=Q .ret s:=(rfl)
@[go_sem] theorem J2n {c:Code} :VC P E (.loop c) Q s=PW P E (.loop c) Q s:=(rfl)
@[go_sem] theorem U2h {K:Pf} :eth K Q .normal s=K s:=(rfl)
@[go_sem] theorem U2f {K:Pf} :eth K Q .ret s=Q .ret s:=(rfl)
@[go_sem] theorem U2j {K:Pf}{id:Nat} :eth K Q (.exit id) s=Q (.exit id) s:=(rfl)
@[go_sem] theorem U2g {K:Pf} :ZO K Q .normal s=K s:=(rfl)
@[go_sem] theorem U2e {K:Pf} :ZO K Q .ret s=Q .ret s:=(rfl)
@[go_sem] theorem U2i {K:Pf}{id:Nat} :ZO K Q (.exit id) s=Q (.exit id) s:=(rfl)
@[go_sem] theorem U2l :esc Q .normal s=Q .normal s:=(rfl)
@[go_sem] theorem U2k :esc Q .ret s=Q .ret s:=(rfl)
@[go_sem] theorem U2m {id:Nat} :esc Q (.exit id) s=Q (.exit id) s:=(rfl)
@[go_sem] theorem H2v {id:Nat} :ebl id Q .normal s=Q .normal s:=(rfl)
@[go_sem] theorem H2u {id:Nat} :ebl id Q .ret s=Q .ret s:=(rfl)
@[go_sem] theorem H2w {id:Nat} :ebl id Q (.exit id) s=Q .normal s:=by simp[ebl,XL]
theorem j1p {id id':Nat}(h:id'≠id):ebl id Q (.exit id') s=Q (.exit id') s:=by simp[ebl,XL,h]
attribute [go_sem] j1p
@[go_sem] theorem v2p {x y:Prop} :CK (.sc (.bool true)) x y=x:=by simp[CK,CK0]
@[go_sem] theorem v2q {x y:Prop} :CK (.sc (.bool false)) x y=y:=by simp[CK,CK0]
@[go_sem] theorem v2l {x y:Prop} :GK (some true) true x y=x:=by simp[GK,GK0]
@[go_sem] theorem v2m {x y:Prop} :GK (some true) false x y=y:=by simp[GK,GK0]
@[go_sem] theorem v2n {x y:Prop} :GK (some false) true x y=y:=by simp[GK,GK0]
@[go_sem] theorem v2o {x y:Prop} :GK (some false) false x y=x:=by simp[GK,GK0]
@[go_sem] theorem k2l {ops:Lo} :OL P ops [] K s=K s:=(rfl)
@[go_sem] theorem k2k {ops rest:Lo}{op:Op} :OL P ops (⟨d,op,ty,pos,af,none⟩::rest) K s=OC P ⟨d,op,ty,pos,af,none⟩ (OL P ops rest K) s:=(rfl)
@[go_sem] theorem k2j {ops rest:Lo}{op:Op}{j:Nat}{want:Bool} :OL P ops (⟨d,op,ty,pos,af,some (j,want)⟩::rest) K s=
 GK (ZA ops s j want) want (OC P ⟨d,op,ty,pos,af,some (j,want)⟩ (OL P ops rest K) s) (OL P ops rest K (s.put d (.tup []))):=rfl
def q2a (ops:List Oper)(j:Nat):Option Tmp:=(ops[j]?).bind (·.dst)
@[go_sem] theorem W2z {ops:Lo}{j:Nat}{want:Bool} :ZA ops s j want=match (ops[j]?).bind (·.dst) with | some t=>gv (s.pa.getD t .junk) want | none=>none:=by
 unfold ZA;cases h:ops[j]? with
 | none=>rfl
 | some o=>cases h2:o.dst with
  | none=>simp only[Option.bind_some,h2]
  | some t=>simp only[Option.bind_some,h2]
@[go_sem] theorem W2y {b want:Bool} :gv (.sc (.bool b)) want=some b:=(rfl)
@[go_sem] theorem W2x {want:Bool} :gv (.tup []) want=some (!want):=(rfl)
@[go_sem] theorem k2r {x:Operand} :OC P ⟨d,.move x,ty,pos,af,gd⟩ K s=K (s.put d (s.ev x)):=(rfl)
@[go_sem] theorem v2h {x:Operand} :OC P ⟨d,.assign x,ty,pos,af,gd⟩ K s=K (s.put d (s.ev x)):=(rfl)
@[go_sem] theorem k2p {c x y:Operand} :OC P ⟨d,.pick c x y,ty,pos,af,gd⟩ K s=ZD s (fun p s'=>K (s'.put d p)) (U6 (s.ev c) (s.ev x) (s.ev y)):=(rfl)
@[go_sem] theorem v2i {t:Lt} :OC P ⟨d,.alloc t,ty,pos,af,gd⟩ K s=ZD s (fun p s'=>K (s'.put d p)) (Gl (ti P t)):=(rfl)
@[go_sem] theorem v2f {t:Lt}{x:Operand} :OC P ⟨d,.box t x,ty,pos,af,gd⟩ K s=ZD s (fun p s'=>K (s'.put d p)) (qk (s.ev x)):=(rfl)
@[go_sem] theorem v2e {t:Lt}{l:List (Nat×Operand)} :OC P ⟨d,.build t l.toArray,ty,pos,af,gd⟩ K s=ZD s (fun p s'=>K (s'.put d p)) (Gg (ti P t) (l.map fun x=>(x.1,s.ev x.2))):=(rfl)
@[go_sem] theorem v2d {t:Lt}{n:Nat}{l:List (Nat×Operand)} :OC P ⟨d,.buildSlice t n l.toArray,ty,pos,af,gd⟩ K s=ZD s (fun p s'=>K (s'.put d p)) (Gf (ti P t) n (l.map fun x=>(x.1,s.ev x.2))):=(rfl)
@[go_sem] theorem k2u {t:Lt}{x:Operand} :OC P ⟨d,.load t x,ty,pos,af,gd⟩ K s=ZD s (fun p s'=>K (s'.put d p)) (VY (ti P t) (s.ev x)):=(rfl)
@[go_sem] theorem k2n {t:Lt}{x y:Operand} :OC P ⟨d,.store t x y,ty,pos,af,gd⟩ K s=ZD s (fun p s'=>K (s'.put d p)) (Um (ti P t) (s.ev x) (s.ev y)):=(rfl)
@[go_sem] theorem k2q {x:Operand} :OC P ⟨d,.nilCheck x,ty,pos,af,gd⟩ K s=ZD s (fun p s'=>K (s'.put d p)) (UE (s.ev x)):=(rfl)
@[go_sem] theorem k2m {op:UnOp}{t:Lt}{x:Operand} :OC P ⟨d,.unOp op t x,ty,pos,af,gd⟩ K s=ZD s (fun p s'=>K (s'.put d p)) (Uh op (s.ev x)):=(rfl)
@[go_sem] theorem v2a {t u:Lt}{x:Operand} :OC P ⟨d,.convert t u x,ty,pos,af,gd⟩ K s=ZD s (fun p s'=>K (s'.put d p)) (Ga (ti P t) (ti P u) (s.ev x)):=(rfl)
@[go_sem] theorem k2x {t:Lt}{x:Operand}{f:Nat} :OC P ⟨d,.fieldAddr t x f,ty,pos,af,gd⟩ K s=ZD s (fun p s'=>K (s'.put d p)) (V6 (ti P t) (s.ev x) f):=(rfl)
@[go_sem] theorem k2y {t:Lt}{x:Operand}{f:Nat} :OC P ⟨d,.field t x f,ty,pos,af,gd⟩ K s=ZD s (fun p s'=>K (s'.put d p)) (US (ti P t) (s.ev x) f):=(rfl)
@[go_sem] theorem k2v {t:Lt}{x i:Operand} :OC P ⟨d,.indexAddr t x i,ty,pos,af,gd⟩ K s=ZD s (fun p s'=>K (s'.put d p)) (UP (ti P t) (s.ev x) (s.ev i)):=(rfl)
@[go_sem] theorem k2w {t:Lt}{x i:Operand} :OC P ⟨d,.index t x i,ty,pos,af,gd⟩ K s=ZD s (fun p s'=>K (s'.put d p)) (UO (ti P t) (s.ev x) (s.ev i)):=(rfl)
@[go_sem] theorem k2o {t:Lt}{x:Operand}{lo hi mx:Option Operand} :OC P ⟨d,.slice t x lo hi mx,ty,pos,af,gd⟩ K s=ZD s (fun p s'=>K (s'.put d p)) (Uq (ti P t) (s.ev x) (lo.map s.ev) (hi.map s.ev) (mx.map s.ev)):=(rfl)
@[go_sem] theorem k2t {f:Fn}{bs cs:List Operand} :OC P ⟨d,.makeFunc f bs.toArray cs.toArray,ty,pos,af,gd⟩ K s=K (s.put d (.fn f (bs.map s.ev) (cs.map s.ev))):=(rfl)
@[go_sem] theorem k2s {t:Lt}{x y:Operand} :OC P ⟨d,.makeSlice t x y,ty,pos,af,gd⟩ K s=ZD s (fun p s'=>K (s'.put d p)) (I2 P t (s.ev x) (s.ev y)):=(rfl)
def V0f (x:PV)(i:Nat):Req:=match x with | .tup vs=>if i<vs.length then .val (vs.getD i .junk) else .fail | _=> .fail
@[go_sem] theorem k2z {x:Operand}{i:Nat} :OC P ⟨d,.extract x i,ty,pos,af,gd⟩ K s=ZD s (fun p s'=>K (s'.put d p)) (V0f (s.ev x) i):=(rfl)
@[go_sem] theorem v2c {b:Builtin}{l:List Operand}{ts:List TypeId} :OC P ⟨d,.call ⟨.builtin b,l.toArray,ts.toArray⟩,ty,pos,af,gd⟩ K s=ZD s (fun p s'=>K (s'.put d p)) (Yl P b ts (l.map s.ev)):=(rfl)
def BK0 (P:Program)(op:BinOp)(t:TypeId)(x y:Operand)(ty:TypeId)(s:PFS)(K:PV->PFS->Prop):Prop:=
 match JR P (.binOp op t x y ty) s.ev with
 | some (ne,es)=> ∀b:Bool,(b=true->es= [])->K (.sc (.bool (b !=ne))) s
 | none=>VI s K (Zf op (ti P t) (s.ev x) (s.ev y))
theorem y0e {K:Pw}{r:Req}{p:PV}{s':PFS}(h:r.run s=some (p,s'))(hk:K p s'):VI s K r:=by
 cases r with
 | val v=>cases h;exact hk
 | need c v=>
  simp only[Req.run] at h;by_cases hc:c=true;rw[BC hc] at h;cases h;exact⟨hc,hk⟩;rw[BA hc] at h;cases h
 | load gl i off n agg=>
  simp only[Req.run] at h;by_cases hc:off+n<=((if gl then s.st else s.L).getD i []).length;rw[BC hc] at h;cases h;exact⟨hc,hk⟩;rw[BA hc] at h;cases h
 | store gl i off cs=>
  simp only[Req.run] at h;by_cases hc:off+cs.length<=((if gl then s.st else s.L).getD i []).length/\0<((if gl then s.st else s.L).getD i []).length;rw[BC hc] at h;cases h;exact⟨hc,hk⟩;rw[BA hc] at h;cases h
 | box cs=>cases h;exact hk
 | mks cs len=>cases h;exact hk
 | newsl es=>cases h;exact hk
 | app t es ys e=>
  simp only[Req.run] at h;split at h;rename_i hc;refine⟨hc,?_⟩;cases t with
  | own k=>
   simp only at h;by_cases hT:s.T.getD k (0,0)=(es.length,e.sz);rw[BC hT] at h;cases h;exact⟨hT,hk⟩;rw[BA hT] at h;cases h
  | full=>
   simp only at h;by_cases hT:es.length=0\/0<ys.length;rw[BC hT] at h;cases h;exact⟨hT,hk⟩;rw[BA hT] at h;cases h
  | _=>cases h
  cases h
 | fail=>cases h
theorem X2h {op:BinOp}{t u:Lt}{x y:Operand}(h:BK0 P op t x y u s (fun p s'=>K (s'.put d p))):PO P ⟨d,.binOp op t x y u,ty,pos,af,gd⟩ K s:=by unfold BK0 at h;unfold PO;simp only;split;rename_i hn;rw[hn] at h;exact h;rename_i hn;rw[hn] at h;obtain⟨p,s',hr,hk⟩:=jV h;have e2:JZ (.binOp op t x y u) s.ev=none:=rfl;simp only[e2,KB,req,hr];exact hk
theorem y1w {op:BinOp}{t u:Lt}{x y:Operand}(h:PO P ⟨d,.binOp op t x y u,ty,pos,af,gd⟩ K s):BK0 P op t x y u s (fun p s'=>K (s'.put d p)):=by unfold PO at h;unfold BK0;simp only at h;split;rename_i hn;rw[hn] at h;exact h;rename_i hn;rw[hn] at h;have e2:JZ (.binOp op t x y u) s.ev=none:=rfl;simp only[e2,KB,req] at h;split at h;rename_i s' hs;split at hs;rename_i p s1 hr;cases hs;exact y0e hr h;cases hs;exact h.elim
theorem X2v {op:BinOp}{t u:Lt}{x y:Operand} :OC0 P ⟨d,.binOp op t x y u,ty,pos,af,gd⟩ K s=BK0 P op t x y u s (fun p s'=>K (s'.put d p)):=by cases op<;>first | rfl | exact propext ⟨y1w,X2h⟩
def CC0 (P:Program)(f:PV)(as:List PV)(s:PFS)(K:PV->Qc->Prop):Prop:=
 match f with
 | .fn (.func g) bs cs=>(bs++as++cs).all PV.closed2=true/\CallsOr P g ((bs++as++cs).map PV.forget2) s.st K
 | _=>False
theorem X2t {f:Operand}{l:List Operand}{ts:Array TypeId}(h:CC0 P (s.ev f) (l.map s.ev) s (fun r st=>K (s.recv d r st))):OC0 P ⟨d,.call ⟨.value f,l.toArray,ts⟩,ty,pos,af,gd⟩ K s:=by unfold OC0;simp only[Is];unfold PO;have e1:JR P (.call ⟨.value f,l.toArray,ts⟩) s.ev=none:=rfl;simp only[e1,JZ];unfold CC0 at h;split at h;rename_i g bs cs hf;simp only[hf];exact h;exact h.elim
theorem w1l {f:Operand}{l:List Operand}{ts:Array TypeId}(h:OC0 P ⟨d,.call ⟨.value f,l.toArray,ts⟩,ty,pos,af,gd⟩ K s):CC0 P (s.ev f) (l.map s.ev) s (fun r st=>K (s.recv d r st)):=by unfold OC0 at h;simp only[Is] at h;unfold PO at h;have e1:JR P (.call ⟨.value f,l.toArray,ts⟩) s.ev=none:=rfl;simp only[e1,JZ] at h;unfold CC0;split;rename_i g bs cs hf;simp only[hf] at h;exact h;rename_i hn;split at h;rename_i g' bs cs hf;split at hf;rename_i f' bs' cs' hf';exact absurd hf' (hn _ _ _);cases hf;simp only[KB,req,Req.run] at h
theorem X2u {f:Operand}{l:List Operand}{ts:Array TypeId} :OC0 P ⟨d,.call ⟨.value f,l.toArray,ts⟩,ty,pos,af,gd⟩ K s=CC0 P (s.ev f) (l.map s.ev) s (fun r st=>K (s.recv d r st)):=propext ⟨w1l,X2t⟩
theorem G0n {g:FuncId}{bs cs as:Lp}{K:PV->Qc->Prop} :CC0 P (.fn (.func g) bs cs) as s K=((bs++as++cs).all PV.closed2=true/\CallsOr P g ((bs++as++cs).map PV.forget2) s.st K):=(rfl)
def BK (P:Program)(op:BinOp)(t:TypeId)(x y:Operand)(ty:TypeId)(s:PFS)(K:PV->PFS->Prop)[Stop K]:Prop:=
 match JR P (.binOp op t x y ty) s.ev with
 | some (ne,es)=> ∀b:Bool,(b=true->es= [])->K (.sc (.bool (b !=ne))) s
 | none=>ZD s K (Zf op (ti P t) (s.ev x) (s.ev y))
def CC (P:Program)(f:PV)(as:List PV)(s:PFS)(K:PV->Qc->Prop)[Stop K]:Prop:=CC0 P f as s K
@[go_sem] theorem v2g {op:BinOp}{t u:Lt}{x y:Operand} :OC P ⟨d,.binOp op t x y u,ty,pos,af,gd⟩ K s=BK P op t x y u s (fun p s'=>K (s'.put d p)):=X2v
@[go_sem] theorem v2b {f:Operand}{l:List Operand}{ts:Array TypeId} :OC P ⟨d,.call ⟨.value f,l.toArray,ts⟩,ty,pos,af,gd⟩ K s=CC P (s.ev f) (l.map s.ev) s (fun r st=>K (s.recv d r st)):=X2u
@[go_sem] theorem v2r {g:FuncId}{bs cs as:Lp}{K:PV->Qc->Prop}(hc:QH P g=true):CC P (.fn (.func g) bs cs) as s K=((bs++as++cs).all PV.closed2=true/\PC P g ((bs++as++cs).map PV.forget2) s.st K):=by show CC0 P _ _ _ _=_;rw[G0n,CallsOr,BC hc];rfl
@[go_sem] theorem v2s {g:FuncId}{bs cs as:Lp}{K:PV->Qc->Prop}(hc:QH P g=false):CC P (.fn (.func g) bs cs) as s K=((bs++as++cs).all PV.closed2=true/\EC P g ((bs++as++cs).map PV.forget2) s.st K):=by show CC0 P _ _ _ _=_;rw[G0n,CallsOr,BA (by rw[hc];decide)];rfl
section
variable {K:PV->PFS->Prop}
@[go_sem] theorem x2k {v:PV} :ZD s K (.val v)=K v s:=(rfl)
@[go_sem] theorem x2o {c:Bool}{v:PV} :ZD s K (.need c v)=(c=true/\K v s):=(rfl)
@[go_sem] theorem x2q {i off n:Nat}{agg:Bool} :ZD s K (.load false i off n agg)=(off+n<=(s.L.getD i []).length/\K (if agg then .agg (((s.L.getD i []).drop off).take n) else(s.L.getD i []).getD off .junk) s):=(rfl)
@[go_sem] theorem x2r {i off n:Nat}{agg:Bool} :ZD s K (.load true i off n agg)=(off+n<=(s.st.getD i []).length/\K (if agg then .agg (((s.st.getD i []).drop off).take n) else(s.st.getD i []).getD off .junk) s):=(rfl)
@[go_sem] theorem x2l {i off:Nat}{cs:Lp} :ZD s K (.store false i off cs)=((off+cs.length<=(s.L.getD i []).length/\0<(s.L.getD i []).length)/\K .junk { s with L:=s.L.set i (Q4 (s.L.getD i []) off cs) }):=(rfl)
@[go_sem] theorem x2m {i off:Nat}{cs:Lp} :ZD s K (.store true i off cs)=((off+cs.length<=(s.st.getD i []).length/\0<(s.st.getD i []).length)/\K .junk { s with st:=s.st.set i (Q4 (s.st.getD i []) off cs) }):=(rfl)
@[go_sem] theorem x2s {cs:Lp} :ZD s K (.box cs)=K (.lp s.L.length 0) { s with L:=s.L++ [cs] } :=(rfl)
@[go_sem] theorem x2p {cs:Lp}{len:Nat} :ZD s K (.mks cs len)=K (.ms false s.L.length 0 len) { s with L:=s.L++ [cs] } :=(rfl)
@[go_sem] theorem x2n {es:Lp} :ZD s K (.newsl es)=K (.sl .full es) s:=(rfl)
def WK (es ys:List PV)(e:EI):Prop:=e.zok=true/\es.length+ys.length<=1152921504606846976/\(es.length+ys.length)*e.by_<=140737488355328/\
 es.all (fun x=>x.cells.length==e.sz)=true/\ys.all (fun x=>(x.cells.length==e.sz)&&x.cells.all PV.cellOK)=true
@[go_sem] theorem x2t {k:Nat}{es ys:Lp}{e:EI} :ZD s K (.app (.own k) es ys e)=(WK es ys e/\s.T.getD k (0,0)=(es.length,e.sz)/\K (.sl (.own k) (es++ys)) { s with T:=s.T.set k (es.length+ys.length,e.sz) }):=(rfl)
@[go_sem] theorem x2w {es ys:Lp}{e:EI} :ZD s K (.app .full es ys e)=(WK es ys e/\(es.length=0\/0<ys.length)/\K (.sl (.own s.T.length) (es++ys)) { s with T:=s.T++ [(es.length+ys.length,e.sz)] }):=(rfl)
@[go_sem high] theorem x2v {ys:Lp}{e:EI} :ZD s K (.app .full [] ys e)=(WK [] ys e/\K (.sl (.own s.T.length) ([]++ys)) { s with T:=s.T++ [(([]:Lp).length+ys.length,e.sz)] }):=by show(WK [] ys e/\(([]:Lp).length=0\/0<ys.length)/\_)=_;simp only[D6,true_or,F7]
@[go_sem high] theorem x2u {es ys:Lp}{y:PV}{e:EI} :ZD s K (.app .full es (y::ys) e)=(WK es (y::ys) e/\K (.sl (.own s.T.length) (es++y::ys)) { s with T:=s.T++ [(es.length+(y::ys).length,e.sz)] }):=by show(WK es (y::ys) e/\(es.length=0\/0<(y::ys).length)/\_)=_;simp only[C1,Nat.succ_pos,or_true,F7]
theorem Z2s {c:Prop}[Decidable c]{r:Req} :ZD s K (if c then r else .fail)=(c/\ZD s K r):=by by_cases h:c;rw[BC h];simp[h];rw[BA h];simp only[ZD,VI,h,false_and]
attribute [go_sem] Z2s
end
section
variable {pa:List PV} {L st:Qc} {T:List (Nat×Nat)}
@[go_sem] theorem V2c {t:Tmp}{v:PV} :(PFS.mk pa L T st).put (some t) v=⟨pa.set t v,L,T,st⟩:=(rfl)
@[go_sem] theorem V2d {v:PV} :(PFS.mk pa L T st).put none v=⟨pa,L,T,st⟩:=(rfl)
@[go_sem] theorem U2b {t:Tmp} :(PFS.mk pa L T st).ev (.tmp t)=pa.getD t .junk:=(rfl)
@[go_sem] theorem U2d {v:Value} :(PFS.mk pa L T st).ev (.const v)=Xa v:=(rfl)
@[go_sem] theorem U2c {f:FuncId} :(PFS.mk pa L T st).ev (.func f)= .fn (.func f) [] []:=(rfl)
@[go_sem] theorem K2l {d:Po}{sz:Nat}{es:Lp}{st':Qc} :(PFS.mk pa L T st).recv d (.sl (.fresh sz) es) st'=(PFS.mk pa L (T++ [(es.length,sz)]) st').put d (.sl (.own T.length) es):=(rfl)
@[go_sem] theorem K2h {d:Po}{es:Lp}{st':Qc} :(PFS.mk pa L T st).recv d (.sl .no es) st'=(PFS.mk pa L T st').put d (.sl .no es):=(rfl)
@[go_sem] theorem K2g {d:Po}{v:Value}{st':Qc} :(PFS.mk pa L T st).recv d (.sc v) st'=(PFS.mk pa L T st').put d (.sc v):=(rfl)
@[go_sem] theorem K2n {d:Po}{v:Lp}{st':Qc} :(PFS.mk pa L T st).recv d (.agg v) st'=(PFS.mk pa L T st').put d (.agg v):=(rfl)
@[go_sem] theorem K2f {d:Po}{v:Lp}{st':Qc} :(PFS.mk pa L T st).recv d (.tup v) st'=(PFS.mk pa L T st').put d (.tup v):=(rfl)
@[go_sem] theorem K2k {d:Po}{i o:Nat}{st':Qc} :(PFS.mk pa L T st).recv d (.gp i o) st'=(PFS.mk pa L T st').put d (.gp i o):=(rfl)
end
end
@[go_sem] theorem K2u {b:Bool} :Xa (.bool b)= .sc (.bool b):=(rfl)
@[go_sem] theorem K2t {k:IntKind}{n:Int} :Xa (.int k n)= .sc (.int k n):=(rfl)
@[go_sem] theorem K2p {s:ByteArray} :Xa (.string s)= .sc (.string s):=(rfl)
@[go_sem] theorem K2q {a:Option Addr} :Xa (.pointer a)= .sc (.pointer a):=(rfl)
@[go_sem] theorem K2s :Xa (.slice none 0 0)= .sl .full []:=(rfl)
@[go_sem] theorem K2r :Xa .nilFunc= .sc .nilFunc:=(rfl)
@[go_sem] theorem K2v {l:Ps} :Xa (.agg l.toArray)= .agg (l.map Kf):=by simp[Xa]
@[go_sem] theorem V2b {b:Bool} :Kf (.bool b)= .sc (.bool b):=(rfl)
@[go_sem] theorem V2a {k:IntKind}{n:Int} :Kf (.int k n)= .sc (.int k n):=(rfl)
@[go_sem] theorem K2w {s:ByteArray} :Kf (.string s)= .sc (.string s):=(rfl)
@[go_sem] theorem K2x {a:Option Addr} :Kf (.pointer a)= .sc (.pointer a):=(rfl)
@[go_sem] theorem K2z :Kf (.slice none 0 0)= .sl .full []:=(rfl)
@[go_sem] theorem K2y :Kf .nilFunc= .sc .nilFunc:=(rfl)
@[go_sem] theorem q2r {cs:Lp} :(PV.agg cs).cells=cs:=(rfl)
@[go_sem] theorem q2h {v:Value} :(PV.sc v).cells= [.sc v]:=(rfl)
@[go_sem] theorem q2g {t:Tag}{es:Lp} :(PV.sl t es).cells= [.sl t es]:=(rfl)
@[go_sem] theorem q2j {g:Bool}{i o n:Nat} :(PV.ms g i o n).cells= [.ms g i o n]:=(rfl)
@[go_sem] theorem q2l {i o:Nat} :(PV.lp i o).cells= [.lp i o]:=(rfl)
@[go_sem] theorem q2o {i o:Nat} :(PV.gp i o).cells= [.gp i o]:=(rfl)
@[go_sem] theorem q2q {cs:Lp}{o:Nat} :(PV.ep cs o).cells= [.ep cs o]:=(rfl)
@[go_sem] theorem q2p {f:Fn}{bs cs:Lp} :(PV.fn f bs cs).cells= [.fn f bs cs]:=(rfl)
@[go_sem] theorem q2i {es:Lp}{n:Nat} :(PV.pre es n).cells= [.pre es n]:=(rfl)
@[go_sem] theorem q2m :PV.junk.cells= [.junk]:=(rfl)
@[go_sem] theorem q2f {vs:Lp} :(PV.tup vs).cells= [.tup vs]:=(rfl)
attribute [go_sem] PV.cellOK Value.oneCell' PV.closed2 PV.closed1 PV.closed PV.forget2 PV.forget1 PV.forgetAll
@[go_sem] theorem z2y {T:Pu}{k:IntKind}{a b:Int} :Zf .add T (.sc (.int k a)) (.sc (.int k b))= .val (.sc (.int k (k.wrap (a+b)))):=by simp[Zf,Jp]
@[go_sem] theorem z2a {T:Pu}{k:IntKind}{a b:Int} :Zf .sub T (.sc (.int k a)) (.sc (.int k b))= .val (.sc (.int k (k.wrap (a-b)))):=by simp[Zf,Jp]
@[go_sem] theorem z2o {T:Pu}{k:IntKind}{a b:Int} :Zf .mul T (.sc (.int k a)) (.sc (.int k b))= .val (.sc (.int k (k.wrap (a*b)))):=by simp[Zf,Jp]
@[go_sem] theorem z2h {T:Pu}{k:IntKind}{a b:Int} :Zf .quo T (.sc (.int k a)) (.sc (.int k b))= .need (b !=0) (.sc (.int k (k.wrap (a.tdiv b)))):=by simp[Zf,Jp]
@[go_sem] theorem z2g {T:Pu}{k:IntKind}{a b:Int} :Zf .rem T (.sc (.int k a)) (.sc (.int k b))= .need (b !=0) (.sc (.int k (a.tmod b))):=by simp[Zf,Jp]
@[go_sem] theorem z2x {T:Pu}{k:IntKind}{a b:Int} :Zf .and T (.sc (.int k a)) (.sc (.int k b))= .val (.sc (.int k (ZV k a b))):=by simp[Zf,Jp]
@[go_sem] theorem z2k {T:Pu}{k:IntKind}{a b:Int} :Zf .or T (.sc (.int k a)) (.sc (.int k b))= .val (.sc (.int k (bOr k a b))):=by simp[Zf,Jp]
@[go_sem] theorem q2z {T:Pu}{k:IntKind}{a b:Int} :Zf .xor T (.sc (.int k a)) (.sc (.int k b))= .val (.sc (.int k (qr k a b))):=by simp[Zf,Jp]
@[go_sem] theorem z2w {T:Pu}{k:IntKind}{a b:Int} :Zf .andNot T (.sc (.int k a)) (.sc (.int k b))= .val (.sc (.int k (yF k a b))):=by simp[Zf,Jp]
@[go_sem] theorem z2t {T:Pu}{k:IntKind}{a b:Int} :Zf .eql T (.sc (.int k a)) (.sc (.int k b))= .val (.sc (.bool (a==b))):=by simp[Zf,Jp]
@[go_sem] theorem z2n {T:Pu}{k:IntKind}{a b:Int} :Zf .neq T (.sc (.int k a)) (.sc (.int k b))= .val (.sc (.bool (a !=b))):=by simp[Zf,Jp]
@[go_sem] theorem z2p {T:Pu}{k:IntKind}{a b:Int} :Zf .lss T (.sc (.int k a)) (.sc (.int k b))= .val (.sc (.bool (decide (a<b)))):=by simp[Zf,Jp]
@[go_sem] theorem z2q {T:Pu}{k:IntKind}{a b:Int} :Zf .leq T (.sc (.int k a)) (.sc (.int k b))= .val (.sc (.bool (decide (a<=b)))):=by simp[Zf,Jp]
@[go_sem] theorem z2r {T:Pu}{k:IntKind}{a b:Int} :Zf .gtr T (.sc (.int k a)) (.sc (.int k b))= .val (.sc (.bool (decide (a>b)))):=by simp[Zf,Jp]
@[go_sem] theorem z2s {T:Pu}{k:IntKind}{a b:Int} :Zf .geq T (.sc (.int k a)) (.sc (.int k b))= .val (.sc (.bool (decide (a>=b)))):=by simp[Zf,Jp]
@[go_sem] theorem z2d {T:Pu}{k k':IntKind}{a b:Int} :Zf .shl T (.sc (.int k a)) (.sc (.int k' b))= .need (decide (0<=b)) (.sc (.int k (Jr k a b))):=(rfl)
@[go_sem] theorem z2c {T:Pu}{k k':IntKind}{a b:Int} :Zf .shr T (.sc (.int k a)) (.sc (.int k' b))= .need (decide (0<=b)) (.sc (.int k (Z7 k a b))):=(rfl)
@[go_sem] theorem z2e {T:Pu}{a b:ByteArray} :Zf .eql T (.sc (.string a)) (.sc (.string b))= .val (.sc (.bool (a.toList==b.toList))):=(rfl)
@[go_sem] theorem z2b {T:Pu}{a b:ByteArray} :Zf .neq T (.sc (.string a)) (.sc (.string b))= .val (.sc (.bool (!(a.toList==b.toList)))):=(rfl)
@[go_sem] theorem z2f {T:Pu}{a b:ByteArray} :Zf .add T (.sc (.string a)) (.sc (.string b))= .need (decide (a.size+b.size<=9223372036854775807)) (.sc (.string (a++b))):=(rfl)
@[go_sem] theorem z2v {x:Bool}{n:Nat}{z:Pr}{a b:Bool} :Zf .eql (some ⟨x,n,.bool,z⟩) (.sc (.bool a)) (.sc (.bool b))= .val (.sc (.bool (a==b))):=(rfl)
@[go_sem] theorem z2u {x:Bool}{n:Nat}{z:Pr}{a b:Bool} :Zf .neq (some ⟨x,n,.bool,z⟩) (.sc (.bool a)) (.sc (.bool b))= .val (.sc (.bool (!(a==b)))):=(rfl)
@[go_sem] theorem z2j {x:Bool}{n:Nat}{z:Pr}{i o:Nat} :Zf .eql (some ⟨x,n,.ptr,z⟩) (.gp i o) (.sc (.pointer none))= .val (.sc (.bool false)):=(rfl)
@[go_sem] theorem z2i {x:Bool}{n:Nat}{z:Pr}{i o:Nat} :Zf .neq (some ⟨x,n,.ptr,z⟩) (.gp i o) (.sc (.pointer none))= .val (.sc (.bool true)):=(rfl)
@[go_sem] theorem z2m {x:Bool}{n:Nat}{z:Pr} :Zf .eql (some ⟨x,n,.ptr,z⟩) (.sc (.pointer none)) (.sc (.pointer none))= .val (.sc (.bool true)):=(rfl)
@[go_sem] theorem z2l {x:Bool}{n:Nat}{z:Pr} :Zf .neq (some ⟨x,n,.ptr,z⟩) (.sc (.pointer none)) (.sc (.pointer none))= .val (.sc (.bool false)):=(rfl)
attribute [go_sem] Uh Ga US UP UO VF GC GB G9 GA ye yf Uq IH Gg Gf Hj qx IV PV.scal Yl VY Um U6 UE Gl qk I2 V0f JR
def fld (x:Option (Nat×EI))(k:Nat->PV):Req:=match x with | some (o,e)=>if e.sz=0 then .fail else .val (k o) | none=> .fail
@[congr] theorem Y2t {x x':Option (Nat×EI)}{k:Nat->PV}(h:x=x'):fld x k=fld x' k:=by rw[h]
@[go_sem] theorem Y2s {o i:Nat}{sz b:Nat}{a z u:Bool}{k:Nat->PV} :fld (some (o,⟨i,sz+1,b,a,z,u⟩)) k= .val (k o):=by simp[fld]
@[go_sem] theorem Y2y {a:Bool}{n f i off:Nat}{fs:List (Nat×EI)}{z:Pr} :V6 (some ⟨a,n,.struct fs,z⟩) (.lp i off) f=fld fs[f]? (fun o=> .lp i (off+o)):=by unfold V6 fld;rfl
@[go_sem] theorem Y2z {a:Bool}{n f i off:Nat}{fs:List (Nat×EI)}{z:Pr} :V6 (some ⟨a,n,.struct fs,z⟩) (.gp i off) f=fld fs[f]? (fun o=> .gp i (off+o)):=by unfold V6 fld;rfl
@[go_sem] theorem U2a {a:Bool}{n f off:Nat}{cs:Lp}{fs:List (Nat×EI)}{z:Pr} :V6 (some ⟨a,n,.struct fs,z⟩) (.ep cs off) f=fld fs[f]? (fun o=> .ep cs (off+o)):=by unfold V6 fld;rfl
attribute [go_sem] LD List.set_cons_zero List.getD_cons_succ LB List.getD_nil List.drop_succ_cons EM List.take_succ_cons List.take_zero C1 D6 EG CQ
attribute [go_sem] List.getElem?_cons_succ List.getElem?_cons_zero DX F4 List.all_cons List.all_nil BK Vx List.replicate_succ List.replicate_zero FT Option.map_none Option.bind_some
@[go_sem] theorem V2g {α:Type}{l:List α}{n:Nat} :Q4 l n []=l:=by simp[Q4]
@[go_sem] theorem V2h {α:Type}{x y:α}{l r:List α} :Q4 (x::l) 0 (y::r)=y::Q4 l 0 r:=by simp[Q4]
@[go_sem] theorem V2i {α:Type}{x:α}{l r:List α}{n:Nat} :Q4 (x::l) (n+1) r=x::Q4 l n r:=by simp only[Q4,List.take_succ_cons,EG];rw[show n+1+r.length=(n+r.length)+1 from oG,List.drop_succ_cons]
@[go_sem] theorem q2t {P:Pg}{fz:Option Nat}{fn:Func}{Q:PV->Qc->Prop}{s:PFS} :Gk P fz fn Q .ret s= ∃r,U1 P fz s fn.results.toList=some r/\Q r s.st:=(rfl)
@[go_sem] theorem q2u {P:Pg}{fz:Option Nat}{fn:Func}{Q:PV->Qc->Prop}{s:PFS} :Gk P fz fn Q .normal s= ∃r,U1 P fz s fn.results.toList=some r/\Q r s.st:=(rfl)
attribute [go_sem] U1 GO Ii WX WK
attribute [go_sem] BU exists_eq_left' exists_eq_left F7 and_true q_i BN CU B1 DC ne_eq not_true_eq_false not_false_eq_true FB Bool.and_true F6 List.range'_succ List.range'_zero B9
attribute [go_sem] FM Bool.not_false BH BR FN D4 DT B3 and_self decide_true decide_false EF bne_self_eq_false BD
theorem q1e {α β:Type}[Inhabited α](f:α->β)(l:List α)(k:Nat)(d:β)(h:k<l.length):(l.map f).getD k d=f (l.getD k default):=by simp[q_a,h]
attribute [go_sem] q1e
def PV.lim1 (nL nT:Nat):PV->Bool
 | .lp i _=>decide (i<nL)
 | .ms false i _ _=>decide (i<nL)
 | .mr i _ _=>decide (i<nL)
 | .sl (.own k) _=>decide (k<nT)
 | .agg _ | .tup _ | .fn _ _ _=>false
 | _=>true
def PV.lim (nL nT:Nat):PV->Bool
 | .agg cs=>cs.all (PV.lim1 nL nT)
 | .tup cs=>cs.all (PV.lim1 nL nT)
 | .fn _ bs cs=>bs.all (PV.lim1 nL nT)&&cs.all (PV.lim1 nL nT)
 | p=>p.lim1 nL nT
theorem RepF.lim1 {w g F T v p nL nT}(h:RepF w g F T v p)(hp:p.lim1 nL nT=true){F':Fr}(h1: ∀i,i<F.nl->i<nL->i<F'.nl/\F'.lmu i=F.lmu i)(h2:F'.tb=F.tb):RepF w g F' (T.take nT) v p:=by
 cases h with
 | base _ _ h=>exact .base _ _ h
 | lp i off hi=>
  obtain⟨a,b⟩:=h1 i hi (q_b hp);rw[<-b];exact .lp i off a
 | lms i off len cap hi hcap=>
  obtain⟨a,b⟩:=h1 i hi (q_b hp);rw[<-b];exact .lms i off len cap a hcap
 | lmr i len cap hi hcap=>
  obtain⟨a,b⟩:=h1 i hi (q_b hp);rw[<-b];exact .lmr i len cap a hcap
 | lmr0 i ad hi=>exact .lmr0 i ad (h1 i hi (q_b hp)).1
 | own k es v h hk hle hr=>
  have hn:k<nT:=q_b hp;have e:(T.take nT).getD k (0,0)=T.getD k (0,0):=WB _ _ _ _ hn;exact .own k es v h (by simp;omega) (by rw[e];exact hle) (fun he=>by rw[e] at he⊢;rw[h2];exact hr he)
 | agg=>cases hp
 | tup=>cases hp
 | fn=>cases hp
theorem RepF.lim {w g F T v p nL nT}(h:RepF w g F T v p)(hp:p.lim nL nT=true){F':Fr}(h1: ∀i,i<F.nl->i<nL->i<F'.nl/\F'.lmu i=F.lmu i)(h2:F'.tb=F.tb):RepF w g F' (T.take nT) v p:=by
 cases h with
 | base _ _ h=>exact .base _ _ h
 | agg vs cs hl h=>exact .agg vs cs hl fun j hj=>(h j hj).lim1 (List.all_eq_true.1 hp _ (QE _ _ _ hj)) h1 h2
 | tup vs cs hl h=>exact .tup vs cs hl fun j hj=>(h j hj).lim1 (List.all_eq_true.1 hp _ (QE _ _ _ hj)) h1 h2
 | fn f us vs bs cs hk hl h0 h=>
  have hp:=CR.1 hp;exact .fn f us vs bs cs hk hl (fun j hj=>(h0 j hj).lim1 (List.all_eq_true.1 hp.1 _ (QE _ _ _ hj)) h1 h2) (fun j hj=>(h j hj).lim1 (List.all_eq_true.1 hp.2 _ (QE _ _ _ hj)) h1 h2)
 | lp i off hi=>exact(RepF.lp (T:=T) i off hi).lim1 hp h1 h2
 | lms i off len cap hi hcap=>exact(RepF.lms (T:=T) i off len cap hi hcap).lim1 hp h1 h2
 | lmr i len cap hi hcap=>exact(RepF.lmr (T:=T) i len cap hi hcap).lim1 hp h1 h2
 | lmr0 i ad hi=>exact(RepF.lmr0 (T:=T) i ad hi).lim1 hp h1 h2
 | own k es v h hk hle hr=>exact(RepF.own k es v h hk hle hr).lim1 hp h1 h2
def Jn :List Bool->List PV->List PV
 | b::bs,p::ps=>(if b then p else .junk)::Jn bs ps
 | [],ps=>ps.map fun _=> .junk
 | _,[]=> []
theorem xg : ∀(bs:Ld) (ps:Lp),(Jn bs ps).length=ps.length
 | [],[]=>rfl
 | [],p::ps=>by simp[Jn]
 | b::bs,[]=>rfl
 | b::bs,p::ps=>by simp[Jn,xg bs ps]
theorem Z0w : ∀(bs:Ld) (ps:Lp) (j:Nat),(Jn bs ps).getD j .junk=ps.getD j .junk\/(Jn bs ps).getD j .junk= .junk
 | [],ps,j=>by refine .inr ?_;simp only[Jn,q_a,B8];cases ps[j]?<;>rfl
 | b::bs,[],j=> .inl rfl
 | b::bs,p::ps,j=>by
  cases j with
  | zero=>cases b with
   | true=>exact .inl rfl
   | false=>exact .inr rfl
  | succ j=>simpa[Jn] using Z0w bs ps j
def PFS.mask (bs:List Bool)(nL nT:Nat)(s:PFS):PFS:=⟨Jn bs s.pa,s.L.take nL,s.T.take nT,s.st⟩
def PFS.maskOK (bs:List Bool)(nL nT:Nat)(s:PFS):Prop:=(Jn bs s.pa).all (PV.lim nL nT)=true/\(s.L.take nL).all (fun o=>o.all (PV.lim nL nT))=true
theorem Ho {L:Qc}{nL i:Nat}(h:(L.take nL).getD i []≠ []):i<nL/\(L.take nL).getD i []=L.getD i []:=by by_cases hi:i<nL;exact⟨hi,WB _ _ _ _ hi⟩;exfalso;apply h;rw[q_a,C2 (by simp;omega)];rfl
theorem Uc {E:Ent}{bs:Ld}{nL nT:Nat}{s:PFS}(hm:s.maskOK bs nL nT):Weak E s (s.mask bs nL nT):=by
 intro a w g F h
 let F':Fr:=⟨min nL F.nl,F.lmu,F.tb⟩
 have hnl:=h.frame.nl;have h1: ∀i,i<F.nl->i<nL->i<F'.nl/\F'.lmu i=F.lmu i:=fun i a b=>⟨by simp only[F'];omega,rfl⟩;refine⟨g,F',h.ext,h.store,⟨by simp[F',PFS.mask,hnl],fun i hi=> ?_,fun i hi=> ?_,fun i j hi hj=> ?_,fun i hi=> ?_,fun k b hk hb=> ?_,fun k b hk hb=> ?_,fun k k' b hk hk'=> ?_⟩,h.defers,by simp only[PFS.mask];rw[xg];exact h.len,fun t ht=> ?_⟩;have:=Ho hi;simp only[PFS.mask] at hi;rw[this.2] at hi;exact h.frame.lo i hi;have:=Ho hi;simp only[PFS.mask] at hi;rw[this.2] at hi;exact h.frame.apart i hi;have e1:=Ho hi;have e2:=Ho hj;simp only[PFS.mask] at hi hj;rw[e1.2] at hi;rw[e2.2] at hj;exact h.frame.inj i j hi hj;have e1:=Ho hi;simp only[PFS.mask] at hi⊢;have hi':=hi;rw[e1.2] at hi⊢;intro j hj;obtain⟨q1,c,q2,q3⟩:=h.frame.holds i hi j hj;refine⟨q1,c,q2,q3.lim ?_ h1 rfl⟩;have hmem:s.L.getD i []∈s.L.take nL:=by rw[<-e1.2];apply QE;apply ES;intro hle;apply hi';rw[q_a,C2 hle];rfl
 exact List.all_eq_true.1 (List.all_eq_true.1 hm.2 _ hmem) _ (QE _ _ _ hj);simp only[PFS.mask,BX] at hk;exact h.frame.tlo k b oG hb;simp only[PFS.mask,BX] at hk;obtain⟨a1,a2⟩:=h.frame.tapart k b oG hb;refine⟨a1,fun i hi=> ?_⟩;have:=Ho hi;simp only[PFS.mask] at hi;rw[this.2] at hi;exact a2 i hi;simp only[PFS.mask,BX] at hk hk';exact h.frame.tinj k k' b oG oG;simp only[PFS.mask] at ht⊢;rw[xg] at ht;have hlim:=List.all_eq_true.1 hm.1 _ (QE (Jn bs s.pa) t .junk (by rw[xg];exact ht));rcases Z0w bs s.pa t with e | e;rw[e] at hlim⊢;exact(h.tmps t ht).lim hlim h1 rfl;rw[e];exact .base _ _ (.junk _)
theorem Q1 {P:Pg}{E:Ent}{c:Code}{Q:Pe}{s:PFS}(bs:Ld)(nL nT:Nat)(I:Nat->PFS->Prop)(n:Nat)(h0:s.maskOK bs nL nT/\I n (s.mask bs nL nT))
 (round: ∀n s,I n s->VC P E c (ZO (fun s'=>s'.maskOK bs nL nT/\ ∃m,m<n/\I m (s'.mask bs nL nT)) Q) s):PWP P E (.loop c) Q s:=by
 refine Rl (fun n s=>s.maskOK bs nL nT/\I n (s.mask bs nL nT)) n h0 fun n s ⟨hm,hI⟩=> ?_;refine J0 (Uc hm) (zF (Qb (round n _ hI)) ?_);intro e s hq;cases e with
 | normal=>obtain⟨h1,m,h2,h3⟩:=hq;exact⟨m,h2,h1,h3⟩
 | _=>exact hq
@[go_sem] theorem V2s {bs:Ld}{nL nT:Nat}{pa:Lp}{L st:Qc}{T:Lv} :(PFS.mk pa L T st).mask bs nL nT=⟨Jn bs pa,L.take nL,T.take nT,st⟩:=(rfl)
@[go_sem] theorem V2t {bs:Ld}{nL nT:Nat}{pa:Lp}{L st:Qc}{T:Lv} :(PFS.mk pa L T st).maskOK bs nL nT=((Jn bs pa).all (PV.lim nL nT)=true/\(L.take nL).all (fun o=>o.all (PV.lim nL nT))=true):=(rfl)
@[go_sem] theorem V2u {bs:Ld}{p:PV}{ps:Lp} :Jn (true::bs) (p::ps)=p::Jn bs ps:=(rfl)
@[go_sem] theorem V2x {bs:Ld}{p:PV}{ps:Lp} :Jn (false::bs) (p::ps)= .junk::Jn bs ps:=(rfl)
@[go_sem] theorem V2v :Jn [] []= []:=(rfl)
@[go_sem] theorem V2w {p:PV}{ps:Lp} :Jn [] (p::ps)= .junk::Jn [] ps:=(rfl)
attribute [go_sem] PV.lim PV.lim1
def PV.frz1 (i:Nat)(cs:List PV):PV->PV
 | .lp k off=>if k=i then .ep cs off else .lp k off
 | .ms false k off len=>if k=i then(if off+len<=cs.length then .sl .no ((cs.drop off).take len) else .junk) else .ms false k off len
 | p=>p
def PV.frz (i:Nat)(cs:List PV):PV->PV
 | .agg l=> .agg (l.map (PV.frz1 i cs))
 | .tup l=> .tup (l.map (PV.frz1 i cs))
 | .fn f l m=> .fn f (l.map (PV.frz1 i cs)) (m.map (PV.frz1 i cs))
 | p=>p.frz1 i cs
def PFS.freeze (i:Nat)(s:PFS):PFS:=
 let cs:=(s.L.getD i []).map PV.forget2
 ⟨s.pa.map (PV.frz i cs),(s.L.map fun l=>l.map (PV.frz i cs)).set i [],s.T,s.st⟩
theorem X5 {f:PV->PV}(h:f .junk= .junk)(l:Lp)(t:Nat):(l.map f).getD t .junk=f (l.getD t .junk):=by simp only[q_a,B8];cases l[t]?<;>simp[h]
theorem UQ {f:List PV->List PV}(h:f []= [])(l:Qc)(t:Nat):(l.map f).getD t []=f (l.getD t []):=by simp only[q_a,B8];cases l[t]?<;>simp[h]
theorem Yf (l:Qc)(i:Nat):(l.set i []).getD i []= []:=by simp only[q_a,List.getElem?_set,D4];split<;>rfl
section
variable {w:World} {g g':Gh} {F:Fr} {T:List (Nat×Nat)} {i:Nat} {cs:List PV}
structure Frozen (w:World) (g':Gh) (b:Nat) (cs:List PV):Prop where
 vis:cs.length<=g'.vis b
 one: ∀p∈cs,p.cells.length=1/\p.cells= [p]
 cf: ∃cf:Nat->Value,∀j,j<cs.length->w.cell? ⟨b,j,none⟩=some (cf j)/\Rep w g' (cf j) (cs.getD j .junk)
theorem RepF.frz1 {v:Value}{p:PV}(hm: ∀v p,RepF w g F T v p->RepF w g' F T v p)(hz:Frozen w g' (F.lmu i) cs)(h:RepF w g F T v p):RepF w g' F T v (p.frz1 i cs):=by
 obtain⟨cf,hcf⟩:=hz.cf;have h':=hm _ _ h;cases p with
 | lp k off=>
  simp only[PV.frz1];split;rename_i e;subst e;cases h' with
  | base _ _ h'=>cases h'
  | lp k off hi=>
   have:=Rep.ep (w:=w) (g:=g') cs off (F.lmu k) 0 cf (by simpa using hz.vis) (fun j hj=>by simpa using(hcf j hj).1) (fun j hj=>(hcf j hj).2);rw[CU] at this;exact .base _ _ this
  exact h'
 | ms gl k off len=>
  cases gl with
  | true=>exact h'
  | false=>
   simp only[PV.frz1];split;rename_i e;subst e;split;rename_i hle;cases h' with
   | base _ _ h'=>cases h'
   | lms k off len cap hi hcap=>
    have hl:((cs.drop off).take len).length=len:=by simp;omega
    have hg: ∀j,j<len->((cs.drop off).take len).getD j .junk=cs.getD (off+j) .junk:=fun j hj=>(by simp[q_a,ED,hj,DH]);have hone: ∀j,j<len->(cs.getD (off+j) .junk).cells= [cs.getD (off+j) .junk]:=fun j hj=>(hz.one _ (QE _ _ _ oG)).2;have:=Rep.sl (w:=w) (g:=g') .no ((cs.drop off).take len) (F.lmu k) off 1 cap (fun a b=>cf (off+a)) rfl (fun h=>by cases h) oG
     (fun j hj=>by rw[hg j oG,hone j oG];rfl) (fun _=>by have:=hz.vis;omega)
     (fun j k' hj hk=>by have:k'=0:=oG;subst this;simpa using(hcf (off+j) oG).1)
     (fun j k' hj hk=>by have:k'=0:=oG;subst this;rw[hg j oG,hone j oG];simpa using(hcf (off+j) oG).2)
    rw[hl] at this;exact .base _ _ this
   exact .base _ _ (.junk _);exact h'
 | _=>exact h'
theorem RepF.frz {v:Value}{p:PV}(hm: ∀v p,RepF w g F T v p->RepF w g' F T v p)(hz:Frozen w g' (F.lmu i) cs)(h:RepF w g F T v p):RepF w g' F T v (p.frz i cs):=by
 have gm: ∀(l:Lp) (j:Nat),(l.map (PV.frz1 i cs)).getD j .junk=(l.getD j .junk).frz1 i cs:=fun l j=>X5 rfl l j;cases p with
 | agg l=>
  cases h with
  | base _ _ h=>
   cases h with
   | agg vs cs' hl h=>exact .agg vs _ (by simpa using hl) fun j hj=>by rw[gm];exact RepF.frz1 hm hz (.base _ _ (h j (by simpa using hj)))
  | agg vs cs' hl h=>exact .agg vs _ (by simpa using hl) fun j hj=>by rw[gm];exact RepF.frz1 hm hz (h j (by simpa using hj))
 | tup l=>
  cases h with
  | base _ _ h=>
   cases h with
   | tup vs cs' hl h=>exact .tup vs _ (by simpa using hl) fun j hj=>by rw[gm];exact RepF.frz1 hm hz (.base _ _ (h j (by simpa using hj)))
  | tup vs cs' hl h=>exact .tup vs _ (by simpa using hl) fun j hj=>by rw[gm];exact RepF.frz1 hm hz (h j (by simpa using hj))
 | fn f l m=>
  cases h with
  | base _ _ h=>
   cases h with
   | fn f us vs bs cs' hk hl h0 h=>
    exact .fn f us vs _ _ (by simpa using hk) (by simpa using hl) (fun j hj=>by rw[gm];exact RepF.frz1 hm hz (.base _ _ (h0 j (by simpa using hj)))) fun j hj=>by rw[gm];exact RepF.frz1 hm hz (.base _ _ (h j (by simpa using hj)))
  | fn f us vs bs cs' hk hl h0 h=>
   exact .fn f us vs _ _ (by simpa using hk) (by simpa using hl) (fun j hj=>by rw[gm];exact RepF.frz1 hm hz (h0 j (by simpa using hj))) fun j hj=>by rw[gm];exact RepF.frz1 hm hz (h j (by simpa using hj))
 | _=>exact RepF.frz1 hm hz h
end
def PFS.freezeOK (i:Nat)(s:PFS):Prop:=(s.L.getD i []).all (fun p=>p.closed2&&(match p with | .agg _=>false | _=>true))=true
theorem K0k {p:PV}(h:(match p with | .agg _=>false | _=>true)=true):p.forget2.cells= [p.forget2]:=by cases p<;>first | rfl | cases h
theorem yp (w:Lw)(g:Gh)(b n:Nat)(hb:b<w.heap.size\/n=0)(hz: ∀b,w.heap.size<=b->g.vis b=0):
 Chg w g w { g with vis:=fun c=>if c=b then max n (g.vis c) else g.vis c } (fun c=>c=b)/\ ∀c,w.heap.size<=c->(if c=b then max n (g.vis c) else g.vis c)=0:=by
 refine⟨⟨⟨BD _,fun _ _=>rfl,fun c=> ?_,fun c o v ho hc=>hc⟩,rfl,rfl,rfl,BD _,fun c hc hx=>⟨rfl,BA hx⟩,fun i h1 h2=>by simp at h2;omega⟩,fun c hc=> ?_⟩;simp only;split;exact Nat.le_max_right _ _;exact BD _;split;rename_i e;subst e;rcases hb with hb | hb;omega;rw[hb,hz c hc];rfl;exact hz c hc
theorem Bj {E:Ent}{s:PFS}(i:Nat)(hi:s.freezeOK i):Weak E s (s.freeze i):=by
 intro a w g F h;by_cases hne:s.L.getD i []= []
 --a box without cells
 have hz:Frozen w g (F.lmu i) []:=⟨CX _,(fun p hp=>by cases hp),⟨fun _=>undef,fun j hj=>by simp at hj⟩⟩;have hf: ∀v p,RepF w g F s.T v p->RepF w g F s.T v (p.frz i []):=fun v p hp=>RepF.frz (fun _ _ h=>h) hz hp;have hL: ∀k,((s.L.map fun l=>l.map (PV.frz i [])).set i []).getD k []≠ []->s.L.getD k []≠ []/\((s.L.map fun l=>l.map (PV.frz i [])).set i []).getD k []=(s.L.getD k []).map (PV.frz i []):=fun k hk=>by
  by_cases hki:i=k;subst hki;exfalso;apply hk;exact Yf _ _;have e:((s.L.map fun l=>l.map (PV.frz i [])).set i []).getD k []=(s.L.getD k []).map (PV.frz i []):=by rw[<-UQ (f:=fun l=>l.map (PV.frz i [])) rfl];simp[q_a,DR hki]
  refine⟨fun e0=>hk (by rw[e,e0];rfl),e⟩
 have hcs:(s.L.getD i []).map PV.forget2= []:=by rw[hne];rfl
 refine⟨g,F,?_⟩;unfold PFS.freeze;rw[hcs];refine⟨h.ext,h.store,⟨by simp[h.frame.nl],fun k hk=>h.frame.lo k (hL k hk).1,fun k hk=>h.frame.apart k (hL k hk).1,fun k j hk hj=>h.frame.inj k j (hL k hk).1 (hL j hj).1,fun k hk=> ?_,h.frame.tlo,fun k b hk hb=>⟨(h.frame.tapart k b hk hb).1,fun j hj=>(h.frame.tapart k b hk hb).2 j (hL j hj).1⟩,h.frame.tinj⟩,h.defers,by simp[h.len],fun t ht=> ?_⟩;obtain⟨h1,h2⟩:=hL k hk;simp only at hk⊢;rw[h2];intro j hj;obtain⟨q1,c,q2,q3⟩:=h.frame.holds k h1 j (by simpa using hj);exact⟨q1,c,q2,by rw[X5 (f:=PV.frz i []) rfl];exact hf _ _ q3⟩;simp only at ht⊢;rw[X5 (f:=PV.frz i []) rfl];exact hf _ _ (h.tmps t (by simpa using ht))
 let cs:=(s.L.getD i []).map PV.forget2
 obtain⟨l1,l2,l3⟩:=h.frame.lo i hne;obtain⟨k1,k2⟩:=yp w g (F.lmu i) cs.length (.inl l2) h.store.none;have hall:=List.all_eq_true.1 hi
 --all but the box
 have hLe:=k1.le
 let g':Gh:= { g with vis:=fun c=>if c=F.lmu i then max cs.length (g.vis c) else g.vis c }
 have htok:K6 w g F s.T w g' F s.T:=⟨BD _,fun k hk=>⟨BD _,fun _ v es hR=>hR.mono fun b hb=>⟨rfl,BA fun e=>(h.frame.tapart k b hk hb).2 i hne e.symm⟩⟩⟩;have hm: ∀v p,RepF w g F s.T v p->RepF w g' F s.T v p:=fun v p hr=>hr.mono hLe (BD _) (fun _ _=>rfl) htok;have hcell: ∀j,j<cs.length-> ∃c,w.cell? ⟨F.lmu i,j,none⟩=some c/\Rep w g' c (cs.getD j .junk):=fun j hj=>by have hj':j<(s.L.getD i []).length:=(by simpa[cs] using hj);obtain⟨q1,c,q2,q3⟩:=h.frame.holds i hne j hj';refine⟨c,q2,?_⟩;have e:cs.getD j .junk=((s.L.getD i []).getD j .junk).forget2:=X5 (f:=PV.forget2) rfl _ _;rw[e];exact(hm _ _ q3).forget2 (CR.1 (hall _ (QE _ _ _ hj'))).1
 have hz:Frozen w g' (F.lmu i) cs:=by refine⟨?_,fun p hp=> ?_,⟨fun j=>if h:j<cs.length then(hcell j h).choose else undef,fun j hj=> ?_⟩⟩;show cs.length<=(if F.lmu i=F.lmu i then max cs.length (g.vis (F.lmu i)) else _);rw[BC rfl];exact Nat.le_max_left _ _;simp only[cs,CF] at hp;obtain⟨q,hq,rfl⟩:=hp;have:=K0k (CR.1 (hall _ hq)).2;exact⟨by rw[this];rfl,this⟩;simp only[dif_pos hj];exact(hcell j hj).choose_spec
 have hf: ∀v p,RepF w g F s.T v p->RepF w g' F s.T v (p.frz i cs):=fun v p hp=>RepF.frz hm hz hp;have hL: ∀k,((s.L.map fun l=>l.map (PV.frz i cs)).set i []).getD k []≠ []->k≠i/\s.L.getD k []≠ []/\((s.L.map fun l=>l.map (PV.frz i cs)).set i []).getD k []=(s.L.getD k []).map (PV.frz i cs):=fun k hk=>by
  by_cases hki:i=k;subst hki;exfalso;apply hk;exact Yf _ _;have e:((s.L.map fun l=>l.map (PV.frz i cs)).set i []).getD k []=(s.L.getD k []).map (PV.frz i cs):=by rw[<-UQ (f:=fun l=>l.map (PV.frz i cs)) rfl];simp[q_a,DR hki]
  exact⟨fun e=>hki e.symm,fun e0=>hk (by rw[e,e0];rfl),e⟩
 have hvis: ∀k,k≠i->s.L.getD k []≠ []->g'.vis (F.lmu k)=g.vis (F.lmu k):=fun k hk hk0=>BA fun e=>hk (h.frame.inj k i hk0 hne e);have hst:StoreOK w g' s.st:=by refine⟨h.store.n,h.store.inj,h.store.lt,fun j hj hj0=> ?_,fun j hj=> ?_,k2,h.store.tab.mono hLe⟩;have:g'.vis (g.mu j)=g.vis (g.mu j):=BA fun e=>h.frame.apart i hne j hj e;exact this.trans (h.store.vis j hj hj0);exact(h.store.holds j hj).mono rfl fun v p hr=>hr.mono hLe
 refine⟨g',F,⟨h.ext.step k1 (fun b hb=> .inl (by rw[hb];exact l1)),hst,⟨by simp[PFS.freeze,h.frame.nl],fun k hk=> ?_,fun k hk=> ?_,fun k j hk hj=> ?_,fun k hk=> ?_,h.frame.tlo,fun k b hk hb=>⟨(h.frame.tapart k b hk hb).1,fun j hj=> ?_⟩,h.frame.tinj⟩,h.defers,by simp[PFS.freeze,h.len],fun t ht=> ?_⟩⟩;obtain⟨h1,h2,h3⟩:=hL k hk;obtain⟨a1,a2,a3⟩:=h.frame.lo k h2;exact⟨a1,a2,(hvis k h1 h2).trans a3⟩;exact h.frame.apart k (hL k hk).2.1;exact h.frame.inj k j (hL k hk).2.1 (hL j hj).2.1;obtain⟨h1,h2,h3⟩:=hL k hk;simp only[PFS.freeze] at hk⊢;show Holds w _ _ (((s.L.map fun l=>l.map (PV.frz i cs)).set i []).getD k []);rw[h3];intro j hj;obtain⟨q1,c,q2,q3⟩:=h.frame.holds k h2 j (by simpa using hj);exact⟨q1,c,q2,by rw[X5 (f:=PV.frz i cs) rfl];exact hf _ _ q3⟩;exact(h.frame.tapart k b hk hb).2 j (hL j hj).2.1;simp only[PFS.freeze] at ht⊢;show RepF w g' F s.T _ ((s.pa.map (PV.frz i cs)).getD t .junk);rw[X5 (f:=PV.frz i cs) rfl];exact hf _ _ (h.tmps t (by simpa using ht))
@[go_sem] theorem Y2m {i:Nat}{pa:Lp}{L st:Qc}{T:Lv} :(PFS.mk pa L T st).freeze i=⟨pa.map (PV.frz i ((L.getD i []).map PV.forget2)),(L.map fun l=>l.map (PV.frz i ((L.getD i []).map PV.forget2))).set i [],T,st⟩:=(rfl)
def Zj (l:List PV):Bool:=l.all fun p=>p.closed2&&(match p with | .agg _=>false | _=>true)
@[go_sem] theorem Y2f :Zj []=true:=(rfl)
@[go_sem] theorem Y2c {v:Value}{l:Lp} :Zj (.sc v::l)=Zj l:=by simp[Zj,PV.closed2,PV.closed1]
@[go_sem] theorem Y2e {es l:Lp} :Zj (.sl .no es::l)=Zj l:=by simp[Zj,PV.closed2,PV.closed1]
@[go_sem] theorem Y2i {es l:Lp} :Zj (.sl .full es::l)=Zj l:=by simp[Zj,PV.closed2,PV.closed1]
@[go_sem] theorem Y2d {k:Nat}{es l:Lp} :Zj (.sl (.own k) es::l)=Zj l:=by simp[Zj,PV.closed2,PV.closed1]
@[go_sem] theorem Y2j {f:Fn}{bs cs l:Lp} :Zj (.fn f bs cs::l)=(bs.all PV.closed1&&cs.all PV.closed1&&Zj l):=by simp[Zj,PV.closed2]
@[go_sem] theorem Y2h {i o:Nat}{l:Lp} :Zj (.gp i o::l)=Zj l:=by simp[Zj,PV.closed2,PV.closed1]
@[go_sem] theorem Y2k {cs:Lp}{o:Nat}{l:Lp} :Zj (.ep cs o::l)=Zj l:=by simp[Zj,PV.closed2,PV.closed1]
@[go_sem] theorem Hr {i:Nat}{pa:Lp}{L st:Qc}{T:Lv} :(PFS.mk pa L T st).freezeOK i=(Zj (L.getD i [])=true):=(rfl)
attribute [go_sem] PV.frz PV.frz1
theorem Z5 {P:Pg}{E:Ent}{c:Code}{Q:Pe}{s:PFS}(i:Nat)(hi:s.freezeOK i)(h:PWP P E c Q (s.freeze i)):PWP P E c Q s:=J0 (Bj i hi) h
def Xv :Op->Bool
 | .move _ | .assign _ | .pick .. | .build .. | .buildSlice .. | .load .. | .nilCheck _ | .unOp .. | .convert .. | .fieldAddr .. | .field .. | .indexAddr .. | .index .. | .slice .. | .makeFunc .. | .extract .. =>true
 | .binOp _ _ _ (.const (.slice _ _ _)) _=>false
 | .binOp .. =>true
 | .call ⟨.builtin .len,_,_⟩ | .call ⟨.builtin .min,_,_⟩ | .call ⟨.builtin .max,_,_⟩=>true
 | _=>false
def VZ :Op->Bool
 | .load .. =>true
 | _=>false
def Req.q :Req->Bool
 | .val _ | .need _ _ | .newsl _ | .fail=>true
 | _=>false
def Req.lq :Req->Bool
 | .val _ | .need _ _ | .newsl _ | .fail | .load .. =>true
 | _=>false
theorem Rb {P:Pg}{op:Op}{r:Operand->PV}(h:Xv op=true):JR P op r=none:=by unfold JR;split;cases h;cases h;rfl
theorem Rc {op:Op}{r:Operand->PV}(h:Xv op=true):JZ op r=none:=by unfold JZ;split;cases h;rfl
theorem Sy (c a b:PV):(U6 c a b).q=true:=by unfold U6;split<;>rfl
theorem Y0l (T:Pu)(ps:List (Nat×PV)):(Gg T ps).q=true:=by unfold Gg;split<;>try split<;>rfl
                                                          rfl
theorem Y0m (T:Pu)(n:Nat)(ps:List (Nat×PV)):(Gf T n ps).q=true:=by unfold Gf;split<;>try split<;>rfl
                                                                   rfl
theorem U1a (T:Pu)(x:PV):(VY T x).lq=true:=by unfold VY;split<;>rfl
theorem Z0d (x:PV):(UE x).q=true:=by unfold UE;split<;>rfl
theorem Ci (op:UnOp)(x:PV):(Uh op x).q=true:=by unfold Uh;split<;>rfl
theorem W0r (S D:Pu)(x:PV):(Ga S D x).q=true:=by unfold Ga;split;rfl;split;split<;>rfl;rfl;split;split<;>rfl;rfl;rfl;rfl
theorem V0c (T:Pu)(x:PV)(f:Nat):(V6 T x f).q=true:=by unfold V6;split;split;split;rfl;split<;>rfl;rfl;rfl
theorem V0b (T:Pu)(x:PV)(f:Nat):(US T x f).q=true:=by unfold US;split;split;split;split<;>rfl;split<;>rfl;rfl;rfl
theorem J0l (T:Pu)(x i:PV):(UP T x i).q=true:=by unfold UP;split<;>rfl
theorem J0k (T:Pu)(x i:PV):(UO T x i).q=true:=by unfold UO;split<;>rfl
theorem k0k (e:EI)(t:Tag)(es:Lp)(lo hi:Option PV):(GC e t es lo hi).q=true:=by unfold GC;split<;>rfl
theorem k0i (e:EI)(es:Lp)(lo hi:Option PV)(m:Int):(GB e es lo hi m).q=true:=by unfold GB;split<;>rfl
theorem k0d (s:ByteArray)(lo hi:Option PV):(G9 s lo hi).q=true:=by unfold G9;split<;>rfl
theorem k0g (e:EI)(gl:Bool)(o off len:Nat)(lo hi:Option PV):(GA e gl o off len lo hi).q=true:=by unfold GA;split<;>rfl
theorem Eu (T:Pu)(x:PV)(lo hi mx:Option PV):(Uq T x lo hi mx).q=true:=by unfold Uq;split;exact k0k _ _ _ _ _;exact k0i _ _ _ _ _;rfl;exact k0d _ _ _;exact k0g _ _ _ _ _ _ _;rfl
theorem G1w (op:BinOp)(k:IntKind)(a b:Int):(Jp op k a b).q=true:=by unfold Jp;split<;>rfl
theorem U0e (op:BinOp)(T:Pu)(x y:PV):(Zf op T x y).q=true:=by
 unfold Zf;split;rfl;rfl;split;exact G1w _ _ _ _;rfl;rfl;rfl;rfl
 all_goals first | rfl | (split<;>rfl)
theorem X0v (T:Pu)(x:PV):(Hj T x).q=true:=by unfold Hj;split<;>rfl
theorem zy {P:Pg}{op:Op}{ty:Lt}{r:Operand->PV}(h:Xv op=true):(req P op ty r).lq=true/\(VZ op=false->(req P op ty r).q=true):=by
 have hq: ∀x:Req,x.q=true->x.lq=true:=fun x hx=>by cases x<;>first | rfl | cases hx
 have both: ∀x:Req,x.q=true->x.lq=true/\(VZ op=false->x.q=true):=fun x hx=>⟨hq x hx,fun _=>hx⟩;cases op
 case load t x=>exact⟨U1a _ _,fun h=>by cases h⟩
 case move=>exact both _ rfl
 case assign=>exact both _ rfl
 case pick=>exact both _ (Sy _ _ _)
 case build=>exact both _ (Y0l _ _)
 case buildSlice=>exact both _ (Y0m _ _ _)
 case nilCheck=>exact both _ (Z0d _)
 case unOp=>exact both _ (Ci _ _)
 case convert=>exact both _ (W0r _ _ _)
 case fieldAddr=>exact both _ (V0c _ _ _)
 case field=>exact both _ (V0b _ _ _)
 case indexAddr=>exact both _ (J0l _ _ _)
 case index=>exact both _ (J0k _ _ _)
 case slice=>exact both _ (Eu _ _ _ _ _)
 case makeFunc=>exact both _ rfl
 case binOp=>exact both _ (U0e _ _ _ _)
 case extract x i=>
  refine both _ ?_;show(Req.q (match r x with | .tup vs=>if i<vs.length then Req.val (vs.getD i .junk) else .fail | _=> .fail))=true;split;split<;>rfl;rfl
 case call c=>
  obtain⟨cal,as,ts⟩:=c;cases cal with
  | value f=>cases h
  | invoke a b=>cases h
  | builtin b=>
   refine both _ ?_;show Req.q (Yl P b ts.toList (as.toList.map r))=true;unfold Yl;split;exact X0v _ _;cases h;cases h;split<;>rfl;split<;>rfl;rfl
 all_goals cases h
theorem Mv {r:Req}{s s' s1:PFS}{v:PV}(h:r.lq=true)(hr:r.run s=some (v,s1)):s1=s:=by
 cases r with
 | val x=>cases hr;rfl
 | need c x=>simp only[Req.run] at hr;split at hr<;>cases hr;rfl
 | newsl es=>cases hr;rfl
 | fail=>cases hr
 | load gl i off n agg=>
  simp only[Req.run] at hr;by_cases hc:off+n<=((if gl then s.st else s.L).getD i []).length;rw[BC hc] at hr;cases hr;rfl;rw[BA hc] at hr;cases hr
 | _=>cases h
theorem v0n {r:Req}{s s':PFS}{v:PV}(h:r.lq=true)(hs:r.q=true\/(s.L=s'.L/\s.st=s'.st))(hr:r.run s=some (v,s)):r.run s'=some (v,s'):=by
 cases r with
 | val x=>cases hr;rfl
 | need c x=>simp only[Req.run] at hr⊢;split at hr<;>simp_all
 | newsl es=>cases hr;rfl
 | fail=>cases hr
 | load gl i off n agg=>
  rcases hs with hs | ⟨h1,h2⟩;cases hs;simp only[Req.run] at hr⊢;rw[<-h1,<-h2];split at hr<;>simp_all
 | _=>cases h
theorem x1q {s s':PFS}{x:Operand}(h: ∀t,x= .tmp t->s.pa.getD t .junk=s'.pa.getD t .junk):s.ev x=s'.ev x:=by
 cases x with
 | tmp t=>exact h t rfl
 | _=>rfl
theorem jU {P:Pg}{op:Op}{ty:Lt}{r r':Operand->PV}(h: ∀x∈op.operands,r x=r' x):req P op ty r=req P op ty r':=by
 have pairs: ∀ps:Array (Nat×Operand),(∀x∈ps.map (·.2),r x=r' x)->(ps.toList.map fun x=>(x.1,r x.2))=(ps.toList.map fun x=>(x.1,r' x.2)):=fun ps hp=>
  C4 fun p hm=>by obtain⟨i,x⟩:=p;simp only[hp x (Array.mem_map.2 ⟨(i,x),Array.mem_def.2 hm,rfl⟩)]
 have lst: ∀ps:Array Operand,(∀x∈ps,r x=r' x)->ps.toList.map r=ps.toList.map r':=fun ps hp=>C4 fun p hm=>hp p (Array.mem_def.2 hm);cases op<;>simp only[Op.operands] at h<;>simp only[req]
 case build t ps=>rw[pairs ps fun x hx=>h x (by simpa using hx)]
 case buildSlice t n ps=>rw[pairs ps fun x hx=>h x (by simpa using hx)]
 case makeFunc fn first captured=>rw[lst first fun x hx=>h x (by simp[hx]),lst captured fun x hx=>h x (by simp[hx])]
 case call c=>
  obtain⟨cal,as,ts⟩:=c;cases cal with
  | builtin b=>simp only[req];rw[lst as fun x hx=>h x (by simp[Call.operands,hx])]
  | _=>rfl
 case slice t x lo hi mx=>cases lo<;>cases hi<;>cases mx<;>simp_all
 all_goals (first | rfl | (simp_all;done))
theorem Z0e {P:Pg}{op:Op}{r r':Operand->PV}(h: ∀x∈op.operands,r x=r' x):JR P op r=JR P op r':=by unfold JR;split;rw[h _ (by simp[Op.operands])];rw[h _ (by simp[Op.operands])];rfl
theorem Y0j {op:Op}{r r':Operand->PV}(h: ∀x∈op.operands,r x=r' x):JZ op r=JZ op r':=by unfold JZ;split;rename_i f args ts;have e1:args.toList.map r=args.toList.map r':=C4 fun p hm=>h p (by simp[Op.operands,Call.operands,Array.mem_def,hm]);rw[h f (by simp[Op.operands,Call.operands]),e1];rfl
theorem Y1z {ops:La}{o:Oper}{t:Tmp}(h:Operand.tmp t∈o.op.operands):t∈o.looksAt ops:=
 List.mem_append_left _ (List.mem_filterMap.2 ⟨.tmp t,by simpa using h,rfl⟩)
theorem x9 {ops:La}{o:Oper}{s s':PFS}(h: ∀d∈o.looksAt ops,s.pa.getD d .junk=s'.pa.getD d .junk): ∀x∈o.op.operands,s.ev x=s'.ev x:=
 fun x hx=>x1q fun t ht=>h t (Y1z (ht▸hx))
theorem vQ {ops:La}{o:Oper}{s s':PFS}{j:Nat}{want:Bool}(hg:o.guard=some (j,want))(h: ∀d∈o.looksAt ops,s.pa.getD d .junk=s'.pa.getD d .junk):ZA ops.toList s j want=ZA ops.toList s' j want:=by unfold ZA;split;rename_i oj hj;split;rename_i d hd;rw[h d];refine List.mem_append_right _ ?_;simp only[hg];have:ops[j]?=some oj:=(by simpa using hj);simp[this,hd];rfl;rfl
theorem Vz {s:PFS}{dst:Po}{v:PV}{d:Tmp}(h:dst≠some d):(s.put dst v).pa.getD d .junk=s.pa.getD d .junk:=by
 cases dst with
 | none=>rfl
 | some e=>
  have:e≠d:=fun x=>h (by rw[x]);simp[PFS.put,q_a,DR this]
theorem Sc {s:PFS}{v:PV}{d:Tmp}(h:d<s.pa.length):(s.put (some d) v).pa.getD d .junk=v:=by simp[PFS.put,q_a,h]
theorem GT {s:PFS}{x y:Po}(v u:PV)(h: ∀d,x=some d->y≠some d):(s.put x v).put y u=(s.put y u).put x v:=by
 cases x with
 | none=>rfl
 | some d=>cases y with
  | none=>rfl
  | some e=>
   have hne:d≠e:=fun he=>h d rfl (he▸rfl);simp[PFS.put,List.set_comm _ _ hne]
theorem J2 (s:PFS)(x:Po)(v:PV):(s.put x v).L=s.L/\(s.put x v).T=s.T/\(s.put x v).st=s.st/\(s.put x v).pa.length=s.pa.length:=by cases x<;>simp[PFS.put]
theorem v0i (r:Req)(s:PFS)(v:PV)(x:Po):r.run (s.put x v)=(r.run s).map fun q=>(q.1,q.2.put x v):=by
 cases x with
 | none=>show r.run s=_;cases r.run s<;>rfl
 | some d=>
  cases r with
  | val w=>rfl
  | newsl es=>rfl
  | fail=>rfl
  | box cs=>rfl
  | mks cs len=>rfl
  | need c w=>cases c<;>rfl
  | load gl i off n agg=>
   cases gl;by_cases hc:off+n<=(s.L.getD i []).length<;>simp only[Req.run,PFS.put,B3,DT,hc,D4]<;>rfl;by_cases hc:off+n<=(s.st.getD i []).length<;>simp only[Req.run,PFS.put,DT,hc,D4]<;>rfl
  | store gl i off cs=>
   cases gl;by_cases hc:off+cs.length<=(s.L.getD i []).length/\0<(s.L.getD i []).length<;>simp only[Req.run,PFS.put,B3,DT,hc,D4]<;>rfl;by_cases hc:off+cs.length<=(s.st.getD i []).length/\0<(s.st.getD i []).length<;>simp only[Req.run,PFS.put,DT,hc,D4]<;>rfl
  | app t es ys e=>
   by_cases hc:(e.zok=true/\es.length+ys.length<=1152921504606846976/\(es.length+ys.length)*e.by_<=140737488355328/\
    es.all (fun x=>x.cells.length==e.sz)=true/\ys.all (fun x=>(x.cells.length==e.sz)&&x.cells.all PV.cellOK)=true)
   cases t with
   | own k=>by_cases hT:s.T.getD k (0,0)=(es.length,e.sz)<;>simp only[Req.run,PFS.put,hc,hT,D4,DT,and_self]<;>rfl
   | full=>
    by_cases hT:es.length=0\/0<ys.length;simp only[Req.run,PFS.put,BC hc,BC hT]<;>rfl;simp only[Req.run,PFS.put,BC hc,BA hT]<;>rfl
   | _=>simp only[Req.run,PFS.put,hc,D4,and_self]<;>rfl
   simp only[Req.run,PFS.put,hc,DT]<;>rfl
theorem v0j {r:Req}{s s1:PFS}{v p:PV}{x:Po}(h:r.run (s.put x v)=some (p,s1)): ∃s2,r.run s=some (p,s2)/\s1=s2.put x v:=by
 rw[v0i] at h;cases hr:r.run s with
 | none=>rw[hr] at h;cases h
 | some q=>rw[hr] at h;cases h;exact⟨_,rfl,rfl⟩
theorem v0l {r:Req}{s s1:PFS}{p:PV}(h:r.run s=some (p,s1)):s1.pa=s.pa:=by
 cases r with
 | val w=>cases h;rfl
 | newsl es=>cases h;rfl
 | fail=>cases h
 | box cs=>cases h;rfl
 | mks cs len=>cases h;rfl
 | need c w=>simp only[Req.run] at h;split at h<;>cases h;rfl
 | load gl i off n agg=>
  simp only[Req.run] at h;by_cases hc:off+n<=((if gl then s.st else s.L).getD i []).length;rw[BC hc] at h;cases h;rfl;rw[BA hc] at h;cases h
 | store gl i off cs=>
  simp only[Req.run] at h;by_cases hc:off+cs.length<=((if gl then s.st else s.L).getD i []).length/\0<((if gl then s.st else s.L).getD i []).length;rw[BC hc] at h;cases gl<;>cases h<;>rfl;rw[BA hc] at h;cases h
 | app t es ys e=>
  simp only[Req.run] at h;split at h;cases t with
  | own k=>
   simp only at h;by_cases hT:s.T.getD k (0,0)=(es.length,e.sz);rw[BC hT] at h;cases h;rfl;rw[BA hT] at h;cases h
  | full=>
   simp only at h;by_cases hT:es.length=0\/0<ys.length;rw[BC hT] at h;cases h;rfl;rw[BA hT] at h;cases h
  | _=>cases h
  cases h
theorem y0q {s:PFS}{x y:Po}{v r:PV}{st:Qc}(h: ∀d,x=some d->y≠some d):(s.put x v).recv y r st=(s.recv y r st).put x v:=by
 have e: ∀T',({ s.put x v with st:=st,T:=T' } :PFS)=({ s with st:=st,T:=T' } :PFS).put x v:=fun T'=>by cases x<;>rfl
 have e2:({ s.put x v with st:=st } :PFS)=({ s with st:=st } :PFS).put x v:=by cases x<;>rfl
 have eT:(s.put x v).T=s.T:=(J2 s x v).2.1;unfold PFS.recv;split;simp only[eT,e];exact GT _ _ h;rw[e2];exact GT _ _ h
theorem y0r {s:PFS}{y:Po}{r:PV}{st:Qc} : ∃u,(s.recv y r st).pa=(s.put y u).pa:=by unfold PFS.recv;split;exact⟨_,by cases y<;>rfl⟩;exact⟨_,by cases y<;>rfl⟩
section
variable {P:Program} {ops:Array Oper} {o:Oper} {K K':PFS->Prop} {s:PFS}
theorem G0e (h:PO P o K s)(hk: ∀s,K s->K' s):PO P o K' s:=by unfold PO at h⊢;split;rename_i hn;rw[hn] at h;exact fun b hb=>hk _ (h b hb);rename_i hn;rw[hn] at h;simp only at h;split;rename_i hc;rw[hc] at h;exact⟨h.1,h.2.mono fun r st q=>hk _ q⟩;rename_i hc;rw[hc] at h;simp only at h;split;rename_i hs;rw[hs] at h;exact hk _ h;rename_i hs;rw[hs] at h;exact h
theorem G0c {dst:Po}{v:PV}(h1: ∀d,dst=some d->d∉o.looksAt ops)(h2: ∀d,dst=some d->o.dst≠some d)(h:PO P o K (s.put dst v)):PO P o (fun s'=>K (s'.put dst v)) s:=by
 have he: ∀x∈o.op.operands,(s.put dst v).ev x=s.ev x:=x9 (ops:=ops) fun d hd=>Vz fun e=>h1 d e hd;unfold PO at h⊢;rw[Z0e he,Y0j he] at h;split;rename_i hn;rw[hn] at h;intro b hb;have:=h b hb;rw[GT _ _ h2] at this;exact this;rename_i hn;rw[hn] at h;simp only at h;split;rename_i hc;rw[hc] at h;refine⟨h.1,?_⟩;have:=h.2;rw[(J2 s dst v).2.2.1] at this;exact this.mono fun r st q=>(by rw[y0q h2] at q;exact q);rename_i hc;rw[hc] at h;simp only[KB,jU he] at h;unfold KB;cases hr:(req P o.op o.type s.ev).run (s.put dst v) with
 | none=>rw[hr] at h;exact h.elim
 | some x=>
  obtain⟨p,s1⟩:=x;rw[hr] at h;obtain⟨s2,hs2,rfl⟩:=v0j hr;rw[hs2];simp only at h⊢;rw[GT _ _ h2] at h;exact h
theorem G0d (h:PO P o K s):PO P o (fun s'=>K s'/\ ∃u,s'.pa=(s.put o.dst u).pa) s:=by
 unfold PO at h⊢;split;rename_i hn;rw[hn] at h;exact fun b hb=>⟨h b hb,_,rfl⟩;rename_i hn;rw[hn] at h;simp only at h;split;rename_i hc;rw[hc] at h;exact⟨h.1,h.2.mono fun r st q=>⟨q,y0r⟩⟩;rename_i hc;rw[hc] at h;simp only at h;unfold KB at h⊢;cases hr:(req P o.op o.type s.ev).run s with
 | none=>rw[hr] at h;exact h.elim
 | some x=>
  obtain⟨p,s1⟩:=x;rw[hr] at h;refine⟨h,p,?_⟩;have:=v0l hr;cases hd:o.dst with
  | none=>exact this
  | some d=>simp only[PFS.put,this]
theorem G0b (hq:Xv o.op=true)(h:PO P o K s): ∃u,(req P o.op o.type s.ev).run s=some (u,s)/\K (s.put o.dst u):=by
 unfold PO at h;rw[Rb hq,Rc hq] at h;simp only[KB] at h;cases hr:(req P o.op o.type s.ev).run s with
 | none=>rw[hr] at h;exact h.elim
 | some x=>
  obtain⟨p,s1⟩:=x;rw[hr] at h;have:=Mv (s':=s) (zy hq).1 hr;subst this;exact⟨p,rfl,h⟩
theorem Rd (hq:Xv o.op=true){u:PV}(h1:(req P o.op o.type s.ev).run s=some (u,s))(h2:K (s.put o.dst u)):PO P o K s:=by unfold PO;rw[Rb hq,Rc hq];simp only[KB,h1];exact h2
def POg (P:Program)(ops:Array Oper)(o:Oper)(K:PFS->Prop)(s:PFS):Prop:=
 match o.guard with
 | none=>PO P o K s
 | some (j,want)=>match ZA ops.toList s j want with
  | some b=>if b=want then PO P o K s else K (s.put o.dst (.tup []))
  | none=>False
def POp (P:Program)(ops:Array Oper)(i:Nat)(K:PFS->Prop)(s:PFS):Prop:=
 match ops[i]? with
 | none=>False
 | some o=>POg P ops o K s
def QY (P:Program)(ops:Array Oper)(o:Oper)(v:PV)(s:PFS):Prop:=
 match o.guard with
 | none=>(req P o.op o.type s.ev).run s=some (v,s)
 | some (j,want)=>match ZA ops.toList s j want with
  | some b=>if b=want then(req P o.op o.type s.ev).run s=some (v,s) else v= .tup []
  | none=>False
theorem HC (h:POg P ops o K s)(hk: ∀s,K s->K' s):POg P ops o K' s:=by unfold POg at h⊢;split;rename_i hg;rw[hg] at h;exact G0e h hk;rename_i hg;rw[hg] at h;simp only at h;split;rename_i hb;rw[hb] at h;simp only at h;split;rename_i e;rw[BC e] at h;exact G0e h hk;rename_i e;rw[BA e] at h;exact hk _ h;rename_i hb;rw[hb] at h;exact h
theorem U0z {dst:Po}{v:PV}(h1: ∀d,dst=some d->d∉o.looksAt ops)(h2: ∀d,dst=some d->o.dst≠some d)(h:POg P ops o K (s.put dst v)):POg P ops o (fun s'=>K (s'.put dst v)) s:=by unfold POg at h⊢;split;rename_i hg;rw[hg] at h;exact G0c h1 h2 h;rename_i j want hg;rw[hg] at h;simp only at h;rw[vQ (s':=s) hg fun d hd=>Vz fun e=>h1 d e hd] at h;split;rename_i hb;rw[hb] at h;simp only at h;split;rename_i e;rw[BC e] at h;exact G0c h1 h2 h;rename_i e;rw[BA e] at h;rw[GT _ _ h2] at h;exact h;rename_i hb;rw[hb] at h;exact h
theorem yM (h:POg P ops o K s):POg P ops o (fun s'=>K s'/\ ∃u,s'.pa=(s.put o.dst u).pa) s:=by unfold POg at h⊢;split;rename_i hg;rw[hg] at h;exact G0d h;rename_i hg;rw[hg] at h;simp only at h;split;rename_i hb;rw[hb] at h;simp only at h;split;rename_i e;rw[BC e] at h;exact G0d h;rename_i e;rw[BA e] at h;exact⟨h,_,rfl⟩;rename_i hb;rw[hb] at h;exact h
theorem yL (hq:Xv o.op=true)(h:POg P ops o K s): ∃u,QY P ops o u s/\K (s.put o.dst u):=by unfold POg at h;unfold QY;split at h;rename_i hg;obtain⟨u,h1,h2⟩:=G0b hq h;exact⟨u,by first | exact h1 | (simp only[hg];exact h1),h2⟩;rename_i j want hg;split at h;rename_i b hb;split at h;rename_i e;obtain⟨u,h1,h2⟩:=G0b hq h;exact⟨u,by simp only[hg,hb,BC e];exact h1,h2⟩;rename_i e;exact⟨.tup [],by simp only[hg,hb,BA e],h⟩;exact h.elim
theorem kf (hq:Xv o.op=true){u:PV}(h1:QY P ops o u s)(h2:K (s.put o.dst u)):POg P ops o K s:=by unfold POg;unfold QY at h1;split;rename_i hg;rw[hg] at h1;exact Rd hq h1 h2;rename_i j want hg;rw[hg] at h1;simp only at h1;split;rename_i b hb;rw[hb] at h1;simp only at h1;split;rename_i e;rw[BC e] at h1;exact Rd hq h1 h2;rename_i e;rw[BA e] at h1;subst h1;exact h2;rename_i hb;rw[hb] at h1;exact h1
theorem YQ {s':PFS}{v:PV}(hq:Xv o.op=true)(hpa: ∀d∈o.looksAt ops,s.pa.getD d .junk=s'.pa.getD d .junk)(hs:VZ o.op=false\/(s.L=s'.L/\s.st=s'.st))(h:QY P ops o v s):QY P ops o v s':=by
 have run:(req P o.op o.type s.ev).run s=some (v,s)->(req P o.op o.type s'.ev).run s'=some (v,s'):=fun hr=>by have e:req P o.op o.type s'.ev=req P o.op o.type s.ev:=(jU (x9 hpa)).symm;rw[e];exact v0n (zy hq).1 (hs.imp (zy hq).2 id) hr
 unfold QY at h⊢;split;rename_i hg;rw[hg] at h;exact run h;rename_i j want hg;rw[hg] at h;simp only at h;rw[vQ hg hpa] at h;split;rename_i b hb;rw[hb] at h;simp only at h;split;rename_i e;rw[BC e] at h;exact run h;rename_i e;rw[BA e] at h;exact h;rename_i hb;rw[hb] at h;exact h
end
def U2 (ops:Array Oper)(i:Nat):Nat->Nat->Bool
 | 0,_=>false
 | f+1,j=>match ops[j]? with
  | some o=>o.after.any fun e=>Region.binds .any e&&(e.on==i||U2 ops i f e.on)
  | none=>false
def U3 (ops:Array Oper)(i j:Nat):Bool:=U2 ops i 3 j
def yV (P:Program)(ops:Array Oper)(o:Oper)(s:PFS):Prop:= ∀d,o.dst=some d->QY P ops o (s.pa.getD d .junk) s
def Js (P:Program)(ops:Array Oper)(listed:Array Bool)(j:Nat)(s:PFS):Prop:=
 ∀i o,listed.getD i false=true->ops[i]?=some o->Xv o.op=true->VZ o.op=true->U3 ops i j=false->yV P ops o s
def Xq (ops:Array Oper)(j:Nat):Bool:=match ops[j]? with | some o=> !Xv o.op | none=>false
def Je (P:Program)(ops:Array Oper)(K:PFS->Prop):Nat->Array Bool->PFS->Prop
 | 0,listed,s=>Region.ready .any ops listed= []/\K s
 | fuel+1,listed,s=>
  (Region.ready .any ops listed= []->K s)/\
  ∀i∈Region.ready .any ops listed,POp P ops i (fun s'=>(Xq ops i=true->Js P ops listed i s')/\Je P ops K fuel (listed.setIfInBounds i true) s') s
section
variable {P:Program} {ops:Array Oper} {K:PFS->Prop}
def XN (ops:Array Oper)(listed:Array Bool):Prop:= ∀k ok e,ops[k]?=some ok->listed.getD k false=true->e∈ok.after->Region.binds .any e=true->listed.getD e.on false=true
theorem z9 {listed:Lc}(hc:XN ops listed){i:Nat} : ∀f j oj,ops[j]?=some oj->(∀e∈oj.after,Region.binds .any e=true->listed.getD e.on false=true)->U2 ops i f j=true->listed.getD i false=true
 | 0,j,oj,h,hp,hr=>by cases hr
 | f+1,j,oj,h,hp,hr=>by
  simp only[U2,h] at hr;obtain⟨e,he,hb⟩:=Array.any_eq_true'.1 hr;simp only[q_i,DF,FL] at hb;obtain⟨h1,h2⟩:=hb;have hl:=hp e he h1;rcases h2 with h2 | h2;rw[<-h2];exact hl;cases hoe:ops[e.on]? with
  | none=>cases f with
   | zero=>cases h2
   | succ f=>simp only[U2,hoe] at h2;cases h2
  | some oe=>exact z9 hc f e.on oe hoe (fun e' he' hb'=>hc e.on oe e' hoe hl he' hb') h2
theorem Hn {listed:Lc}{i:Nat}(h:listed.getD i true=false):listed.getD i false=false:=by rcases Nat.lt_or_ge i listed.size with h' | h';simpa[h'] using h;simp[FX h'] at h
theorem Ge {listed:Lc}{j:Nat}(hc:XN ops listed)(hj:j∈Region.ready .any ops listed):XN ops (listed.setIfInBounds j true):=by intro k ok e hk hl he hb;obtain⟨h0,oj,hoj,hall⟩:=mem_ready.1 hj;by_cases hkj:j=k;subst hkj;rw[hoj] at hk;cases hk;exact getD_set_true (hall e he hb);rw[getD_set_ne false hkj] at hl;exact getD_set_true (hc k ok e hk hl he hb)
theorem Ox {listed:Lc}{i j:Nat}(hc:XN ops listed)(hj:j∈Region.ready .any ops listed)(hi:listed.getD i true=false):U3 ops i j=false:=by
 obtain⟨h0,oj,hoj,hall⟩:=mem_ready.1 hj;cases hr:U3 ops i j with
 | false=>rfl
 | true=>
  have:=z9 hc 3 j oj hoj hall hr;rw[Hn hi] at this;cases this
theorem X1x {N i:Nat}{oi:Oper}{di:Tmp}{v:PV}(hi:ops[i]?=some oi)(hq:Xv oi.op=true)(hdi:oi.dst=some di)(hown:di∉oi.looksAt ops)(hN:di<N):
 ∀(fuel:Nat) (listed:Lc) (s:PFS),N<=s.pa.length->XN ops listed->
  (∀j oj,ops[j]?=some oj->j≠i->listed.getD j true=false->U3 ops i j=false->oi.apart ops oj=true)->
  (∀k ok,ops[k]?=some ok->listed.getD k false=true->VZ ok.op=true->di∉ok.looksAt ops/\ok.dst≠some di)->
  i∈Region.ready .any ops listed->QY P ops oi v s->
  Je P ops K fuel (listed.setIfInBounds i true) (s.put oi.dst v)->Je P ops K (fuel+1) listed s:=by
 have self: ∀(fuel:Nat) (listed:Lc) (s:PFS),QY P ops oi v s->Je P ops K fuel (listed.setIfInBounds i true) (s.put oi.dst v)->
  POp P ops i (fun s'=>(Xq ops i=true->Js P ops listed i s')/\Je P ops K fuel (listed.setIfInBounds i true) s') s:=by
  intro fuel listed s hy H;unfold POp;rw[hi];exact kf hq hy ⟨fun he=>by simp[Xq,hi,hq] at he,H⟩
 intro fuel
 induction fuel with
 | zero=>
  intro listed s hl hc h1 h2 hr hy H;refine⟨fun h=>(by rw[h] at hr;cases hr),fun j hj=> ?_⟩;by_cases hji:j=i;subst hji;exact self 0 listed s hy H;have:=ready_mono hj hji;rw[H.1] at this;cases this
 | succ fuel ih=>
  intro listed s hl hc h1 h2 hr hy H;refine⟨fun h=>(by rw[h] at hr;cases hr),fun j hj=> ?_⟩;by_cases hji:j=i;subst hji;exact self _ listed s hy H;have hp:=H.2 j (ready_mono hj hji);obtain⟨hjun,oj,hoj,hall⟩:=mem_ready.1 hj;have hiun:=(mem_ready.1 hr).1;have hnr:=Ox hc hj hiun;obtain⟨a1,a2,a3⟩:=Oper.apart_spec (h1 j oj hoj hji hjun hnr);unfold POp at hp⊢;rw[hoj] at hp⊢;simp only at hp⊢;have hp':=yM (U0z a1 a2 hp);have key: ∀s'':PFS,(∃u,s''.pa=(s.put oj.dst u).pa)->(Xv oj.op=true->s''.L=s.L/\s''.st=s.st)->
   ((Xq ops j=true->Js P ops (listed.setIfInBounds i true) j (s''.put oi.dst v))/\Je P ops K fuel ((listed.setIfInBounds i true).setIfInBounds j true) (s''.put oi.dst v))->
   (Xq ops j=true->Js P ops listed j s'')/\Je P ops K (fuel+1) (listed.setIfInBounds j true) s'':=by
   rintro s'' ⟨u,hpa⟩ hqs ⟨hw,hrest⟩;have hlen:s''.pa.length=s.pa.length:=(by rw[hpa];exact(J2 s oj.dst u).2.2.2);have hsame: ∀d∈oi.looksAt ops,s.pa.getD d .junk=s''.pa.getD d .junk:=fun d hd=>by rw[hpa];exact(Vz fun e=>a3 d e hd).symm
   have hown': ∀d∈oi.looksAt ops,(s''.put oi.dst v).pa.getD d .junk=s''.pa.getD d .junk:=fun d hd=>Vz fun e=>by rw[hdi] at e;cases e;exact hown hd
   have hil:(listed.setIfInBounds i true).getD i false=true:=by
    have hlt:i<listed.size:=by rcases Nat.lt_or_ge i listed.size with h' | h';exact h';simp[FX h'] at hiun
    simp[hlt]
   have hy':QY P ops oi v s'':=by
    cases hlo:VZ oi.op with
    | false=>exact YQ hq hsame (.inl hlo) hy
    | true=>
     cases hqj:Xv oj.op with
     | true=>obtain⟨e1,e2⟩:=hqs hqj;exact YQ hq hsame (.inr ⟨e1.symm,e2.symm⟩) hy
     | false=>
      have heff:Xq ops j=true:=(by simp[Xq,hoj,hqj]);have:=hw heff i oi hil hi hq hlo hnr di hdi;have e:(s''.put oi.dst v).pa.getD di .junk=v:=by rw[hdi];exact Sc (by rw[hlen];exact q_e hN hl)
      rw[e] at this;exact YQ hq hown' (.inr ⟨(J2 s'' oi.dst v).1,(J2 s'' oi.dst v).2.2.1⟩) this
   refine⟨fun heff k ok hk hok hkq hkl hkr d hd=> ?_,?_⟩;obtain⟨b1,b2⟩:=h2 k ok hok hk hkl;have:=hw heff k ok (getD_set_true hk) hok hkq hkl hkr d hd;have e:(s''.put oi.dst v).pa.getD d .junk=s''.pa.getD d .junk:=Vz fun e=>by rw[hdi] at e;cases e;exact b2 hd
   rw[e] at this;exact YQ hkq (fun x hx=>Vz fun e=>by rw[hdi] at e;cases e;exact b1 hx) (.inr ⟨(J2 s'' oi.dst v).1,(J2 s'' oi.dst v).2.2.1⟩) this;refine ih (listed.setIfInBounds j true) s'' oG (Ge hc hj) (fun k ok hk hki hun hno=> ?_) (fun k ok hk hkl hlo=> ?_) (ready_mono hr (Ne.symm hji)) hy' ?_;refine h1 k ok hk hki ?_ hno;by_cases hjk:j=k;subst hjk;exact hjun;rw[getD_set_ne true hjk] at hun;exact hun;by_cases hjk:j=k;subst hjk;rw[hoj] at hk;cases hk;exact⟨a1 di hdi,fun e=>a2 di hdi e⟩;rw[getD_set_ne false hjk] at hkl;exact h2 k ok hk hkl hlo;rw[Array.setIfInBounds_comm _ _ hji];exact hrest
  cases hqj:Xv oj.op with
  | true=>
   obtain⟨u,q1,q2,q3⟩:=yL hqj hp';exact kf hqj q1 (key _ ⟨u,rfl⟩ (fun _=>⟨(J2 s oj.dst u).1,(J2 s oj.dst u).2.2.1⟩) q2)
  | false=>exact HC hp' fun s'' ⟨q2,q3⟩=>key s'' q3 (fun h=>by rw[hqj] at h;cases h) q2
inductive Plan where
 | done
 | step (i:Nat) (ws:List Nat) (rest:Plan)
 | alt (a b:Plan)
def Plan.heads :Plan->List Nat
 | .done=> []
 | .step i _ _=> [i]
 | .alt a b=>a.heads++b.heads
def ww (ops:Array Oper)(N:Nat)(listed:Array Bool)(i:Nat):Bool:=
 match ops[i]? with
 | none=>false
 | some oi=>match oi.dst with
  | none=>false
  | some di=>Xv oi.op&& !(oi.looksAt ops).contains di&&decide (di<N)&&
   (List.range ops.size).all fun j=>j==i||match ops[j]? with
    | none=>true
    | some oj=>
     (listed.getD j true||U3 ops i j||oi.apart ops oj)&&
     (!listed.getD j false|| !VZ oj.op||(!(oj.looksAt ops).contains di&&oj.dst !=some di))
def zh (ops:Array Oper)(listed:Array Bool)(i:Nat)(ws:List Nat):Bool:=
 (Region.ready .any ops listed).contains i&&
  (!Xq ops i||(List.range ops.size).all fun k=> !listed.getD k false||ws.contains k||U3 ops k i||match ops[k]? with | none=>true | some ok=> !VZ ok.op)
def V4 (ops:Array Oper)(N:Nat)(listed:Array Bool)(p:Plan):Bool:=
 (match p with | .step i _ _=>ww ops N listed i | _=>false)||(Region.ready .any ops listed).all (p.heads.contains ·)
def X3 (ops:Array Oper)(N:Nat):Plan->Nat->Array Bool->Bool
 | .done,_,_=>true
 | .step _ _ _,0,_=>false
 | .step i ws rest,f+1,listed=>zh ops listed i ws&&(X3 ops N rest f (listed.setIfInBounds i true)&&V4 ops N (listed.setIfInBounds i true) rest)
 | .alt a b,f,listed=>X3 ops N a f listed&&X3 ops N b f listed
def UZ (ops:Array Oper)(N:Nat)(p:Plan):Bool:=X3 ops N p ops.size (Array.replicate ops.size false)&&V4 ops N (Array.replicate ops.size false) p
def WG (P:Program)(ops:List Oper)(o:Oper)(s:PFS):Prop:=
 match o.dst with
 | none=>True
 | some d=>match o.guard with
  | none=>VI s (fun p _=>s.pa.getD d .junk=p) (req P o.op o.type s.ev)
  | some (j,want)=>GK0 (ZA ops s j want) want (VI s (fun p _=>s.pa.getD d .junk=p) (req P o.op o.type s.ev)) (s.pa.getD d .junk= .tup [])
def WL0 (P:Program)(ops:List Oper):List Nat->PFS->Prop
 | [],s=>True
 | i::ws,s=>(match ops[i]? with | some o=>WG P ops o s | none=>False)/\WL0 P ops ws s
def OG (P:Program)(ops:List Oper)(o:Oper)(K:PFS->Prop)(s:PFS):Prop:=
 match o.guard with
 | none=>OC0 P o K s
 | some (j,want)=>GK0 (ZA ops s j want) want (OC0 P o K s) (K (s.put o.dst (.tup [])))
def OS0 (P:Program)(ops:List Oper)(o:Option Oper)(K:PFS->Prop)(s:PFS):Prop:=match o with | some o=>OG P ops o K s | none=>False
def OW0 (P:Program)(ops:List Oper):Plan->(PFS->Prop)->PFS->Prop
 | .done,K,s=>K s
 | .step i ws rest,K,s=>OS0 P ops (ops[i]?) (fun s'=>WL0 P ops ws s'/\OW0 P ops rest K s') s
 | .alt a b,K,s=>OW0 P ops a K s/\OW0 P ops b K s
theorem G0l {o:Oper}{K:Pf}{s:PFS}(h:OG P ops.toList o K s):POg P ops o K s:=by
 unfold OG at h;unfold POg;split;rename_i hg;rw[hg] at h;exact Vs h;rename_i j want hg;rw[hg] at h;simp only at h;cases hb:ZA ops.toList s j want with
 | none=>rw[hb] at h;exact h.elim
 | some b=>
  rw[hb] at h;simp only;by_cases e:b=want;rw[BC e];exact Vs (h.1 e);rw[BA e];exact h.2 e
theorem G0j {i:Nat}{K:Pf}{s:PFS}(h:OS0 P ops.toList (ops.toList[i]?) K s):POp P ops i K s:=by unfold OS0 at h;unfold POp;have e:ops.toList[i]?=ops[i]?:=(by simp);rw[e] at h;split at h;rename_i o ho;rw[ho];exact G0l h;exact h.elim
theorem Z2q {o:Oper}{s:PFS}(hq:Xv o.op=true)(h:WG P ops.toList o s):yV P ops o s:=by
 intro d hd;unfold WG at h;unfold QY;rw[hd] at h;simp only at h;have run:VI s (fun p _=>s.pa.getD d .junk=p) (req P o.op o.type s.ev)->(req P o.op o.type s.ev).run s=some (s.pa.getD d .junk,s):=fun h=>by obtain⟨p,s',hr,rfl⟩:=jV h;have:=Mv (s':=s) (zy hq).1 hr;subst this;exact hr
 split;rename_i hg;rw[hg] at h;exact run h;rename_i j want hg;rw[hg] at h;simp only at h;cases hb:ZA ops.toList s j want with
 | none=>rw[hb] at h;exact h.elim
 | some b=>
  rw[hb] at h;simp only;by_cases e:b=want;rw[BC e];exact run (h.1 e);rw[BA e];exact h.2 e
theorem yJ {s:PFS} : ∀ {ws:Ln},WL0 P ops.toList ws s-> ∀i∈ws,∀o,ops[i]?=some o->Xv o.op=true->yV P ops o s
 | [],h,i,hi,o,ho,hq=>by cases hi
 | k::ws,h,i,hi,o,ho,hq=>by obtain⟨h1,h2⟩:=h;rcases D8.1 hi with rfl | hi;have e:ops.toList[i]?=some o:=(by simpa using ho);rw[e] at h1;exact Z2q hq h1;exact yJ h2 i hi o ho hq
theorem Z2x {i:Nat}{K K':Pf}{s:PFS}(h:POp P ops i K s)(hk: ∀s,K s->K' s):POp P ops i K' s:=by unfold POp at h⊢;split;rename_i ho;rw[ho] at h;exact h;rename_i o ho;rw[ho] at h;exact HC h hk
theorem yK {i:Nat}{K:Pf}{s:PFS}(h:POp P ops i K s):POp P ops i (fun s'=>K s'/\s'.pa.length=s.pa.length) s:=by unfold POp at h⊢;split;rename_i ho;rw[ho] at h;exact h;rename_i o ho;rw[ho] at h;refine HC (yM h) fun s' ⟨h1,u,h2⟩=>⟨h1,by rw[h2];exact(J2 s o.dst u).2.2.2⟩
theorem H1o {p:Plan}{s:PFS}(h:p.heads= []):OW0 P ops.toList p K s->K s:=by
 induction p with
 | done=>exact id
 | step i ws rest=>cases h
 | alt a b iha ihb=>exact fun hw=>iha (by simp only[Plan.heads,List.append_eq_nil_iff] at h;exact h.1) hw.1
theorem YD {N:Nat}{p:Plan} : ∀ {f:Nat} {listed:Lc},X3 ops N p f listed=true-> ∀i∈p.heads,i∈Region.ready .any ops listed/\f≠0:=by
 induction p with
 | done=>intro f listed h i hi;cases hi
 | step k ws rest ih=>
  intro f listed h i hi;cases f with
  | zero=>cases h
  | succ f=>
   simp only[Plan.heads,C0] at hi;subst hi;simp only[X3,zh,q_i] at h;exact⟨by simpa using h.1.1,by simp⟩
 | alt a b iha ihb=>
  intro f listed h i hi;have hab:X3 ops N a f listed=true/\X3 ops N b f listed=true:=(by cases f<;>simpa[X3] using h);simp only[Plan.heads,DN] at hi;exact hi.elim (iha hab.1 i) (ihb hab.2 i)
theorem GW {N:Nat} : ∀(p:Plan) (f:Nat) (listed:Lc),X3 ops N p f listed=true->XN ops listed->
 (∀s,N<=s.pa.length->OW0 P ops.toList p K s-> ∀i∈p.heads,POp P ops i (fun s'=>(Xq ops i=true->Js P ops listed i s')/\Je P ops K (f-1) (listed.setIfInBounds i true) s') s)/\
 (V4 ops N listed p=true-> ∀s,N<=s.pa.length->OW0 P ops.toList p K s->Je P ops K f listed s):=by
 have full: ∀(p:Plan) (f:Nat) (listed:Lc),X3 ops N p f listed=true->XN ops listed->
  (∀s,N<=s.pa.length->OW0 P ops.toList p K s-> ∀i∈p.heads,POp P ops i (fun s'=>(Xq ops i=true->Js P ops listed i s')/\Je P ops K (f-1) (listed.setIfInBounds i true) s') s)->
  V4 ops N listed p=true-> ∀s,N<=s.pa.length->OW0 P ops.toList p K s->Je P ops K f listed s:=by
  intro p f listed hB hcl hh hf s hl hw;simp only[V4,DF] at hf;rcases hf with hf | hf;cases p with
  | step i ws rest=>
   simp only[ww] at hf;cases hoi:ops[i]? with
   | none=>rw[hoi] at hf;cases hf
   | some oi=>
    rw[hoi] at hf;simp only at hf;cases hdi:oi.dst with
    | none=>rw[hdi] at hf;cases hf
    | some di=>
     rw[hdi] at hf;simp only[q_i,EK,BN,q_d,EX] at hf;obtain⟨⟨⟨hq,hown⟩,hN⟩,hall⟩:=hf;have hready:=YD hB i (by simp[Plan.heads]);have hp:=hh s hl hw i (by simp[Plan.heads]);cases f with
     | zero=>exact absurd rfl hready.2
     | succ f=>
      unfold POp at hp;rw[hoi] at hp;obtain⟨u,hy,_,hrest⟩:=yL hq hp;refine X1x (di:=di) hoi hq hdi (by simpa using hown) hN f listed s hl hcl (fun j oj hj hji hun hnr=> ?_) (fun k ok hk hkl hlo=> ?_) hready.1 hy (by simpa using hrest);have hlt:=(C3.1 hj).1;have:=hall j hlt;simp only[hj,FL,hji,DF,q_i,hun,hnr,B3,false_or] at this;exact this.1;by_cases hki:k=i;subst hki;have:=(mem_ready.1 hready.1).1;rw[Hn this] at hkl;cases hkl;have hlt:=(C3.1 hk).1;have:=hall k hlt;simp only[hk,FL,hki,DF,q_i,hkl,hlo,FM,B3,false_or] at this;have h2:=this.2;simp only[EK,BV,ne_eq] at h2;exact⟨by simpa using h2.1,h2.2⟩
  | done=>cases hf
  | alt a b=>cases hf
  have hcov: ∀i∈Region.ready .any ops listed,i∈p.heads:=fun i hi=>by have:=List.all_eq_true.1 hf i hi;simpa using this
  have hnil:Region.ready .any ops listed= []->K s:=fun h0=>H1o (by
   cases hp:p.heads with
   | nil=>rfl
   | cons i l=>
    have:=(YD hB i (by rw[hp];simp)).1;rw[h0] at this;cases this) hw
  cases f with
  | zero=>
   have h0:Region.ready .any ops listed= []:=by
    cases hr:Region.ready .any ops listed with
    | nil=>rfl
    | cons i l=>exact absurd rfl (YD hB i (hcov i (by rw[hr];simp))).2
   exact⟨h0,hnil h0⟩
  | succ f=>exact⟨hnil,fun i hi=>hh s hl hw i (hcov i hi)⟩
 intro p
 induction p with
 | done=>
  intro f listed hB hcl;have h1: ∀s,N<=s.pa.length->OW0 P ops.toList .done K s-> ∀i∈Plan.done.heads,POp P ops i (fun s'=>(Xq ops i=true->Js P ops listed i s')/\Je P ops K (f-1) (listed.setIfInBounds i true) s') s:=fun s hl hw i hi=>(by cases hi);exact⟨h1,full .done f listed hB hcl h1⟩
 | step k ws rest ih=>
  intro f listed hB hcl;have h1: ∀s,N<=s.pa.length->OW0 P ops.toList (.step k ws rest) K s-> ∀i∈(Plan.step k ws rest).heads,POp P ops i (fun s'=>(Xq ops i=true->Js P ops listed i s')/\Je P ops K (f-1) (listed.setIfInBounds i true) s') s:=by
   intro s hl hw i hi;have hready:=YD hB i hi;simp only[Plan.heads,C0] at hi;subst hi;cases f with
   | zero=>exact absurd rfl hready.2
   | succ f=>
    simp only[X3,zh,q_i,DF,q_d,EX] at hB;obtain⟨⟨_,hws⟩,hrB,hrF⟩:=hB;obtain⟨_,ih2⟩:=ih f (listed.setIfInBounds i true) hrB (Ge hcl hready.1);refine Z2x (yK (G0j hw)) ?_;rintro s' ⟨⟨hW,hO⟩,hlen⟩;refine⟨fun heff k ok hkl hok hkq hkl' hkr=> ?_,ih2 hrF s' oG hO⟩;rcases hws with hws | hws;rw[heff] at hws;cases hws;have:=hws k (C3.1 hok).1;simp only[hkl,hkr,hok,hkl',FM,B3,false_or,or_false] at this;exact yJ hW k (by simpa using this) ok hok hkq
  exact⟨h1,full _ f listed hB hcl h1⟩
 | alt a b iha ihb=>
  intro f listed hB hcl;have hab:X3 ops N a f listed=true/\X3 ops N b f listed=true:=(by cases f<;>simpa[X3] using hB);have h1: ∀s,N<=s.pa.length->OW0 P ops.toList (.alt a b) K s-> ∀i∈(Plan.alt a b).heads,POp P ops i (fun s'=>(Xq ops i=true->Js P ops listed i s')/\Je P ops K (f-1) (listed.setIfInBounds i true) s') s:=by intro s hl hw i hi;simp only[Plan.heads,DN] at hi;exact hi.elim ((iha f listed hab.1 hcl).1 s hl hw.1 i) ((ihb f listed hab.2 hcl).1 s hl hw.2 i)
  exact⟨h1,full _ f listed hB hcl h1⟩
theorem qC {E:Ent}{Q:Pt}(hK: ∀a' w' g' F' s',FSRep E a' w' g' F' s'->K s'->Q .normal a' w'): ∀(f:Nat) (listed:Lc) (a:Act) (w:Lw) (g:Gh) (F:Fr) (s:PFS),
 FSRep E a w g F s->Je P ops K f listed s->wpAnyIn (fen E.rd) 0 P .any ops Q f listed a w:=by
 intro f
 induction f with
 | zero=>exact fun listed a w g F s hr h=>⟨h.1,hK a w g F s hr h.2⟩
 | succ f ih=>
  intro listed a w g F s hr h;refine⟨fun h0=>hK a w g F s hr (h.1 h0),fun i hi=> ?_⟩;have hp:=h.2 i hi;unfold POp at hp;unfold wpOpIn;cases hoi:ops[i]? with
  | none=>rw[hoi] at hp;exact hp.elim
  | some o=>
   rw[hoi] at hp;simp only at hp⊢;unfold POg at hp;split at hp;rename_i hg;rw[BC (by simp[Region.wanted,hg])];exact Jt hr hp fun a' w' g' F' s' hr' hk=>ih _ a' w' g' F' s' hr' hk.2;rename_i j want hg;split at hp;rename_i b hb;have hy:=W9 hr hb;split at hp;rename_i he;subst he;rw[BC (by unfold Region.wanted;rw[hg];simp only;rw[hy];simp)];exact Jt hr hp fun a' w' g' F' s' hr' hk=>ih _ a' w' g' F' s' hr' hk.2;rename_i he;rw[BA (by unfold Region.wanted;rw[hg];simp only;rw[hy];simp[he])];exact⟨V7,ih _ _ w g F _ (hr.put o.dst (.base _ _ (Wz _ _))) hp.2⟩;exact hp.elim
end
theorem Z1f {P:Pg}{E:Ent}{id:Nat}{l:Lo}{Q:Pe}{s:PFS}(hm:P.follows .mixedOrders=true)(N:Nat)(p:Plan)(hB:UZ l.toArray N p=true)(hl:N<=s.pa.length)
 (h:OW0 P l p (Q .normal) s):PWP P E (.region id l.toArray true) Q s:=by
 intro a w g F hr;simp only[UZ,q_i] at hB;have hcl:XN l.toArray (Array.replicate l.toArray.size false):=fun k ok e hk hkl he hb=>by by_cases hkk:k<l.length<;>simp[hkk,q_f,E9] at hkl
 have:=(GW (P:=P) (K:=Q .normal) p _ _ hB.1 hcl).2 hB.2 s hl (by simpa using h);exact wpIn_region_any hm (qC (fun a' w' g' F' s' hr' hk=>⟨g',F',s',hr',hk⟩) _ _ _ _ g F s hr.drew.1 this)
section
variable {P:Program} {s:PFS} {K:PFS->Prop} {d:Option Tmp} {ty:TypeId} {pos:String} {af:Array Edge}
def OW (P:Program)(ops:List Oper)(p:Plan)(K:PFS->Prop)[Stop ops][Stop p][Stop K](s:PFS):Prop:=OW0 P ops p K s
def OS (P:Program)(ops:List Oper)(o:Option Oper)(K:PFS->Prop)[Stop ops][Stop K](s:PFS):Prop:=OS0 P ops o K s
def WL (P:Program)(ops:List Oper)(ws:List Nat)[Stop ops](s:PFS):Prop:=WL0 P ops ws s
def WO (P:Program)(ops:List Oper)(o:Option Oper)[Stop ops](s:PFS):Prop:=match o with | some o=>WG P ops o s | none=>False
@[go_sem] theorem j2j {ops:Lo} :OW P ops .done K s=K s:=(rfl)
@[go_sem] theorem X2q {ops:Lo}{i:Nat}{rest:Plan} :OW P ops (.step i [] rest) K s=OS P ops (ops[i]?) (OW P ops rest K) s:=by simp only[OW,OW0,OS,WL0,F7];rfl
@[go_sem] theorem j2i {ops:Lo}{i k:Nat}{ws:Ln}{rest:Plan} :OW P ops (.step i (k::ws) rest) K s=OS P ops (ops[i]?) (fun s'=>WL P ops (k::ws) s'/\OW P ops rest K s') s:=(rfl)
@[go_sem] theorem j2k {ops:Lo}{a b:Plan} :OW P ops (.alt a b) K s=(OW P ops a K s/\OW P ops b K s):=(rfl)
@[go_sem] theorem j2m {ops:Lo}{op:Op} :OS P ops (some ⟨d,op,ty,pos,af,none⟩) K s=OC P ⟨d,op,ty,pos,af,none⟩ K s:=(rfl)
@[go_sem] theorem j2l {ops:Lo}{op:Op}{j:Nat}{want:Bool} :OS P ops (some ⟨d,op,ty,pos,af,some (j,want)⟩) K s=GK (ZA ops s j want) want (OC P ⟨d,op,ty,pos,af,some (j,want)⟩ K s) (K (s.put d (.tup []))):=(rfl)
@[go_sem] theorem x2i {ops:Lo} :WL P ops [] s=True:=(rfl)
@[go_sem] theorem x2j {ops:Lo}{i:Nat}{ws:Ln} :WL P ops (i::ws) s=(WO P ops (ops[i]?) s/\WL P ops ws s):=(rfl)
@[go_sem] theorem x2h {ops:Lo}{d:Tmp}{t:Lt}{x:Operand} :WO P ops (some ⟨some d,.load t x,ty,pos,af,none⟩) s=ZD s (fun p _=>s.pa.getD d .junk=p) (VY (ti P t) (s.ev x)):=(rfl)
@[go_sem] theorem x2g {ops:Lo}{d:Tmp}{t:Lt}{x:Operand}{j:Nat}{want:Bool} :WO P ops (some ⟨some d,.load t x,ty,pos,af,some (j,want)⟩) s=GK (ZA ops s j want) want (ZD s (fun p _=>s.pa.getD d .junk=p) (VY (ti P t) (s.ev x))) (s.pa.getD d .junk= .tup []):=(rfl)
end
theorem Q3 {P:Pg}{E:Ent}{id:Nat}{l:Lo}{Q:Pe}{s:PFS}(hm:P.follows .mixedOrders=true)(N:Nat)(p:Plan)(hB:UZ l.toArray N p=true)(hl:N<=s.pa.length)
 (h:OW P l p (Q .normal) s):PWP P E (.region id l.toArray true) Q s:=Z1f hm N p hB hl h
theorem Q8 {P:Pg}{E:Ent}{id:Nat}{l:Lo}{Q:Pe}{s:PFS}(N:Nat)(p:Plan)(h:OW P l p (Q .normal) s)(hm:P.follows .mixedOrders=true:=by exact Qy)(hB:UZ l.toArray N p=true:=by decide+kernel)(hl:N<=s.pa.length:=by simp):PWP P E (.region id l.toArray true) Q s:=Q3 hm N p hB hl h
def Qk :List Nat->Plan->Plan
 | [],p=>p
 | i::l,p=> .step i [] (Qk l p)
@[go_sem] theorem J2u {P:Pg}{ops:Lo}{K:Pf}{s:PFS}{p:Plan} :OW P ops (Qk [] p) K s=OW P ops p K s:=rfl
@[go_sem] theorem J2z {P:Pg}{ops:Lo}{K:Pf}{s:PFS}{i:Nat}{l:Ln}{p:Plan} :OW P ops (Qk (i::l) p) K s=OS P ops (ops[i]?) (OW P ops (Qk l p) K) s:=X2q
attribute [go_sem] Nat.reduceAdd Nat.reduceSub Nat.reduceMul Nat.reduceLeDiff Nat.reduceLT Nat.reduceEqDiff Nat.reduceBEq Nat.reduceBNe reduceIte Int.reduceToNat Int.reduceLT Int.reduceLE Int.reduceAdd Int.reduceSub
attribute [go_sem] EH CY Nat.lt_add_one Nat.zero_lt_succ
@[go_sem] theorem q2w :(true !=false)=true:=(rfl)
@[go_sem] theorem q2y :(false !=false)=false:=(rfl)
@[go_sem] theorem q2v :(true !=true)=false:=(rfl)
@[go_sem] theorem q2x :(false !=true)=true:=(rfl)
theorem Bc (n:Nat):IntKind.u8.wrap (n:Int)=((n % 256:Nat):Int):=by simp[IntKind.wrap,IntKind.bits,IntKind.signed]
theorem JJ (n:Nat)(h:n<18446744073709551616):IntKind.u64.wrap (n:Int)=(n:Int):=by simp[IntKind.wrap,IntKind.bits,IntKind.signed];omega
theorem Q2 (n:Int)(h: -9223372036854775808<=n)(h2:n<9223372036854775808):IntKind.i64.wrap n=n:=by have e:IntKind.i64.wrap n=if n % 2^64>=2^(64-1) then n % 2^64-2^64 else n % 2^64:=(by simp[IntKind.wrap,IntKind.bits,IntKind.signed]);rw[e];split<;>omega
theorem J2v (i:Nat)(h:i<9223372036854775807):IntKind.i64.wrap ((i:Int)+1)=((i+1:Nat):Int):=by rw[Q2 _ oG oG];omega
theorem qt (k:IntKind)(v c:Nat)(h:c<=k.bits):Z7 k (v:Int) (c:Int)=((v/2^c:Nat):Int):=by unfold Z7;rw[FN,DA h];rw[show((2:Int)^c)=((2^c:Nat):Int) from by simp];exact(Int.ofNat_fdiv v (2^c)).symm
def K5 (l:List UInt8):List PV:=l.map fun c=> .sc (.int .u8 c.toNat)
@[go_sem] theorem H2t (l:List UInt8):(K5 l).length=l.length:=by simp[K5]
@[go_sem] theorem H2s :K5 []= []:=(rfl)
@[go_sem] theorem H2q (l:List UInt8):(K5 l).all (fun x=>x.cells.length==1)=true:=by simp[K5,PV.cells]
@[go_sem] theorem H2r (l:List UInt8):(K5 l).all (fun x=>(x.cells.length==1)&&x.cells.all PV.cellOK)=true:=by simp[K5,PV.cells,PV.cellOK,Value.oneCell']
theorem j1o (l m:List UInt8):K5 l++K5 m=K5 (l++m):=by simp[K5]
theorem j1n (l:List UInt8)(c:UInt8):K5 l++ [.sc (.int .u8 c.toNat)]=K5 (l++ [c]):=by simp[K5]
def PFS.addBox (s:PFS)(x:Tmp×List PV):PFS:=({ s with L:=s.L++ [x.2] } :PFS).put (some x.1) (.lp s.L.length 0)
def PFS.exts (s:PFS)(X:List (Tmp×List PV)):PFS:=X.foldl PFS.addBox s
def Req.flat :Req->Bool
 | .box _ | .mks _ _=>false
 | .load _ _ _ n agg=>agg||decide (0<n)
 | _=>true
theorem Hq {α:Type}(l m:List α)(i:Nat)(d:α)(h:i<l.length):(l++m).getD i d=l.getD i d:=by rw[q_a,B6 h,<-q_a]
theorem IC {α:Type}(l:List α)(i:Nat)(d:α)(h:l.length<=i):l.getD i d=d:=by rw[q_a,C2 h];rfl
theorem v0r {r:Req}{s s1:PFS}{p:PV}{x:Tmp×List PV}(hf:r.flat=true)(h:r.run s=some (p,s1)):r.run (s.addBox x)=some (p,s1.addBox x):=by
 cases r with
 | val w=>cases h;rfl
 | newsl es=>cases h;rfl
 | fail=>cases h
 | box cs=>cases hf
 | mks cs len=>cases hf
 | need c w=>
  simp only[Req.run] at h⊢;split at h;rename_i hc;cases h;rw[BC hc];cases h
 | load gl i off n agg=>
  cases gl with
  | true=>
   simp only[Req.run,D4] at h⊢;show(if off+n<=((s.st).getD i []).length then some (_,s.addBox x) else none)=_;split at h;rename_i hc;cases h;rw[BC hc];rfl;cases h
  | false=>
   simp only[Req.run,B3,DT] at h⊢;show(if off+n<=((s.L++ [x.2]).getD i []).length then some (if agg=true then .agg ((((s.L++ [x.2]).getD i []).drop off).take n) else((s.L++ [x.2]).getD i []).getD off .junk,s.addBox x) else none)=_;split at h;rename_i hc;by_cases hi:i<s.L.length;rw[Hq _ _ _ _ hi,BC hc];cases h;rfl;rw[IC _ _ _ oG] at hc h;have hz:off=0/\n=0:=(by simp at hc;omega);obtain⟨rfl,rfl⟩:=hz;simp[Req.flat] at hf;subst hf;cases h;rw[BC oG];simp;cases h
 | store gl i off cs=>
  cases gl with
  | true=>
   simp only[Req.run,D4] at h⊢;show(if off+cs.length<=((s.st).getD i []).length/\0<((s.st).getD i []).length then some (PV.junk, { s.addBox x with st:=s.st.set i (Q4 (s.st.getD i []) off cs) }) else none)=_;split at h;rename_i hc;cases h;rw[BC hc];rfl;cases h
  | false=>
   simp only[Req.run,B3,DT] at h⊢;show(if off+cs.length<=((s.L++ [x.2]).getD i []).length/\0<((s.L++ [x.2]).getD i []).length then some (PV.junk, { s.addBox x with L:=(s.L++ [x.2]).set i (Q4 ((s.L++ [x.2]).getD i []) off cs) }) else none)=_;split at h;rename_i hc;by_cases hi:i<s.L.length;rw[Hq _ _ _ _ hi,BC hc,List.set_append_left _ _ hi];cases h;simp[PFS.addBox,PFS.put];rw[IC _ _ _ oG] at hc;simp at hc;cases h
 | app t es ys e=>
  simp only[Req.run] at h⊢;split at h;rename_i hc;rw[BC hc];cases t with
  | own k=>
   simp only at h⊢;by_cases hT:s.T.getD k (0,0)=(es.length,e.sz);rw[BC hT] at h;have hT':(s.addBox x).T.getD k (0,0)=(es.length,e.sz):=hT;rw[BC hT'];cases h;rfl;rw[BA hT] at h;cases h
  | full=>
   simp only at h⊢;by_cases hT:es.length=0\/0<ys.length;rw[BC hT] at h⊢;cases h;rfl;rw[BA hT] at h;cases h
  | _=>cases h
  cases h
def Hs :Op->Bool
 | .alloc _ | .box _ _ | .makeSlice _ _ _=>false
 | _=>true
theorem Vj {r:Req}(h:r.q=true):r.flat=true:=by cases r<;>first | rfl | cases h
theorem U1b (T:Pu)(x:PV):(VY T x).flat=true:=by
 unfold VY;split
 all_goals first | rfl | skip
 all_goals
  rename_i T _ _;simp only[Req.flat];cases T.agg<;>rfl
theorem x0z (T:Pu)(x y:PV):(Um T x y).flat=true:=by
 unfold Um;split
 all_goals first | rfl | (split<;>rfl)
theorem w1s (P:Pg)(b:Builtin)(ts:List TypeId)(as:Lp):(Yl P b ts as).flat=true:=by
 unfold Yl;split;exact Vj (X0v _ _)
 all_goals first | rfl | skip
 all_goals first | unfold qx | unfold IV | skip
 all_goals (repeat' split)
 all_goals rfl
theorem y0d {P:Pg}{op:Op}{ty:Lt}{r:Operand->PV}(h:Hs op=true):(req P op ty r).flat=true:=by
 cases op
 case load t x=>exact U1b _ _
 case store t x y=>exact x0z _ _ _
 case move=>rfl
 case assign=>rfl
 case pick=>exact Vj (Sy _ _ _)
 case build=>exact Vj (Y0l _ _)
 case buildSlice=>exact Vj (Y0m _ _ _)
 case nilCheck=>exact Vj (Z0d _)
 case unOp=>exact Vj (Ci _ _)
 case convert=>exact Vj (W0r _ _ _)
 case fieldAddr=>exact Vj (V0c _ _ _)
 case field=>exact Vj (V0b _ _ _)
 case indexAddr=>exact Vj (J0l _ _ _)
 case index=>exact Vj (J0k _ _ _)
 case slice=>exact Vj (Eu _ _ _ _ _)
 case makeFunc=>rfl
 case binOp=>exact Vj (U0e _ _ _ _)
 case extract x i=>
  show Req.flat (match r x with | .tup vs=>if i<vs.length then Req.val (vs.getD i .junk) else .fail | _=> .fail)=true;split;split<;>rfl;rfl
 case call c=>
  obtain⟨cal,as,ts⟩:=c;cases cal with
  | value f=>rfl
  | invoke a b=>rfl
  | builtin b=>exact w1s _ _ _ _
 case alloc=>cases h
 case box=>cases h
 case makeSlice=>cases h
 all_goals rfl
theorem qz (s:PFS)(x:Tmp×List PV)(d:Po)(v:PV)(h:d≠some x.1):(s.addBox x).put d v=(s.put d v).addBox x:=by
 cases d with
 | none=>rfl
 | some d=>
  have hne:x.1≠d:=fun e=>h (by rw[e]);simp[PFS.addBox,PFS.put,List.set_comm _ _ hne]
theorem Z2n (s:PFS)(x:Tmp×List PV)(d:Po)(r:PV)(st:Qc)(h:d≠some x.1):(s.addBox x).recv d r st=(s.recv d r st).addBox x:=by unfold PFS.recv;split;rename_i sz es;exact qz { s with st:=st,T:=s.T++ [(es.length,sz)] } x d _ h;exact qz { s with st:=st } x d _ h
section
variable {P:Program} {ops:Array Oper} {o:Oper} {K:PFS->Prop} {s:PFS}
theorem U0s {x:Tmp×List PV}(h1:x.1∉o.looksAt ops): ∀d∈o.looksAt ops,(s.addBox x).pa.getD d .junk=s.pa.getD d .junk:=fun d hd=>by show(PFS.put _ (some x.1) _).pa.getD d .junk=_;exact Vz (s:= { s with L:=s.L++ [x.2] }) fun e=>by cases e;exact h1 hd
theorem G0f {x:Tmp×List PV}(hf:Hs o.op=true)(h1:x.1∉o.looksAt ops)(h2:o.dst≠some x.1)(h:PO P o K s):PO P o (fun s'=> ∃s0,K s0/\s'=s0.addBox x) (s.addBox x):=by
 have he: ∀y∈o.op.operands,(s.addBox x).ev y=s.ev y:=x9 (ops:=ops) (U0s h1);unfold PO at h⊢;rw[Z0e he,Y0j he];split;rename_i hn;rw[hn] at h;intro b hb;exact⟨_,h b hb,qz _ _ _ _ h2⟩;rename_i hn;rw[hn] at h;simp only at h;split;rename_i hc;rw[hc] at h;exact⟨h.1,h.2.mono fun r st q=>⟨_,q,Z2n _ _ _ _ _ h2⟩⟩;rename_i hc;rw[hc] at h;simp only[KB] at h⊢;rw[jU he];cases hr:(req P o.op o.type s.ev).run s with
 | none=>rw[hr] at h;exact h.elim
 | some y=>
  obtain⟨p,s1⟩:=y;rw[hr] at h;rw[v0r (y0d hf) hr];exact⟨_,h,qz _ _ _ _ h2⟩
theorem X2e {x:Tmp×List PV}(hf:Hs o.op=true)(h1:x.1∉o.looksAt ops)(h2:o.dst≠some x.1)(h:POg P ops o K s):POg P ops o (fun s'=> ∃s0,K s0/\s'=s0.addBox x) (s.addBox x):=by unfold POg at h⊢;split;rename_i hg;rw[hg] at h;exact G0f hf h1 h2 h;rename_i j want hg;rw[hg] at h;simp only at h;rw[vQ hg (U0s h1)];split;rename_i b hb;rw[hb] at h;simp only at h;split;rename_i e;rw[BC e] at h;exact G0f hf h1 h2 h;rename_i e;rw[BA e] at h;exact⟨_,h,qz _ _ _ _ h2⟩;rename_i hb;rw[hb] at h;exact h
theorem G0a (hf:Hs o.op=true): ∀(X:List (Tmp×List PV)) (s:PFS) (K:Pf),(∀x∈X,x.1∉o.looksAt ops/\o.dst≠some x.1)->POg P ops o K s->POg P ops o (fun s'=> ∃s0,K s0/\s'=s0.exts X) (s.exts X)
 | [],s,K,hX,h=>HC h fun s' k=>⟨s',k,rfl⟩
 | x::X,s,K,hX,h=>by have h0:=hX x (DG ..);have h1:=X2e hf h0.1 h0.2 h;have h2:=G0a hf X (s.addBox x) _ (fun y hy=>hX y (DL _ hy)) h1;exact HC h2 fun s' ⟨s0,⟨s1,k,e⟩,e2⟩=>⟨s1,k,by rw[e2,e];rfl⟩
end
def sw (n i:Nat):Nat:=if i=n then n+1 else if i=n+1 then n else i
theorem j7 (n i:Nat):sw n (sw n i)=i:=by unfold sw;by_cases h1:i=n;subst h1;simp;by_cases h2:i=n+1;subst h2;simp;simp[h1,h2]
theorem x0c {n i j:Nat}(h:sw n i=sw n j):i=j:=by rw[<-j7 n i,h,j7]
theorem Du {n i:Nat}(h:i<n):sw n i=i:=by unfold sw;rw[BA oG,BA oG]
theorem Dv {n i:Nat}(h:n+1<i):sw n i=i:=by unfold sw;rw[BA oG,BA oG]
def Fr.sw (F:Fr)(n:Nat):Fr:= { F with lmu:=fun i=>F.lmu (Go.Pv.sw n i) }
theorem I3 {a b t:Nat}(h:a<=b){p:PV}(hp:p.lim1 a t=true):p.lim1 b t=true:=by unfold PV.lim1 at hp⊢;split at hp;simp at hp⊢;omega;simp at hp⊢;omega;simp at hp⊢;omega;exact hp;cases hp;cases hp;cases hp;rfl
theorem X0r {a b t:Nat}(h:a<=b){p:PV}(hp:p.lim a t=true):p.lim b t=true:=by
 have all: ∀cs:List PV,cs.all (PV.lim1 a t)=true->cs.all (PV.lim1 b t)=true:=fun cs hc=>List.all_eq_true.2 fun q hq=>I3 h (List.all_eq_true.1 hc q hq);cases p with
 | agg cs=>exact all cs hp
 | tup cs=>exact all cs hp
 | fn f bs cs=>exact CR.2 ⟨all bs (CR.1 hp).1,all cs (CR.1 hp).2⟩
 | junk=>rfl
 | sc v=>rfl
 | sl t es=>exact I3 (t:=_) (p:= .sl t es) h hp
 | ms g i o l=>exact I3 (p:= .ms g i o l) h hp
 | mr i n c=>exact I3 (t:=t) (p:= .mr i n c) h hp
 | lp i o=>exact I3 (t:=t) (p:= .lp i o) h hp
 | gp i o=>rfl
 | ep cs o=>rfl
 | pre al n=>rfl
 | gr i n c=>rfl
theorem RepF.lim_sw {w:Lw}{g:Gh}{F:Fr}{T:Lv}{v:Value}{p:PV}{n:Nat}(h:RepF w g F T v p)(hp:p.lim n T.length=true):RepF w g (F.sw n) T v p:=by have:=h.lim hp (F':=F.sw n) (fun i hi hin=>⟨hi,by show F.lmu (Go.Pv.sw n i)=_;rw[Du hin]⟩) rfl;rwa [B0] at this
theorem q1n {E:Ent}{a:Act}{w:Lw}{g:Gh}{F:Fr}{u u':PFS}{n:Nat}(h:FSRep E a w g F u)(hn:n+1<u.L.length)(hT:u'.T=u.T)(hst:u'.st=u.st)(hpl:u'.pa.length=u.pa.length)(hLl:u'.L.length=u.L.length)
 (hL: ∀i,u'.L.getD i []=u.L.getD (Go.Pv.sw n i) []) (hLc: ∀i,∀p∈u.L.getD i [],p.lim n u.T.length=true)
 (hpa: ∀t,t<u.pa.length->(u'.pa.getD t .junk=u.pa.getD t .junk/\(u.pa.getD t .junk).lim n u.T.length=true)\/(∃i off,u.pa.getD t .junk= .lp i off/\u'.pa.getD t .junk= .lp (Go.Pv.sw n i) off)):
 FSRep E a w g (F.sw n) u':=by
 have hf:=h.frame;refine⟨h.ext,by rw[hst];exact h.store,?_,h.defers,by rw[hpl];exact h.len,fun t ht=> ?_⟩;rw[hT];refine⟨by rw[hLl];exact hf.nl,fun i hi=> ?_,fun i hi=> ?_,fun i j hi hj e=> ?_,fun i hi=> ?_,hf.tlo,fun k b hk hb=>⟨(hf.tapart k b hk hb).1,fun i hi=> ?_⟩,hf.tinj⟩;rw[hL] at hi;exact hf.lo _ hi;rw[hL] at hi;exact hf.apart _ hi;rw[hL] at hi hj;exact x0c (hf.inj _ _ hi hj e);rw[hL] at hi;have hh:=hf.holds _ hi;rw[hL];intro j hj;obtain⟨q1,c,q2,q3⟩:=hh j hj;exact⟨q1,c,q2,q3.lim_sw (hLc _ _ (QE _ _ _ hj))⟩;rw[hL] at hi;exact(hf.tapart k b hk hb).2 _ hi;rw[hpl] at ht;have hr:=h.tmps t ht;rw[hT];rcases hpa t ht with ⟨e,hl⟩ | ⟨i,off,e1,e2⟩;rw[e];exact hr.lim_sw hl;rw[e1] at hr;rw[e2];generalize a.tmps.getD t undef=v at hr⊢;cases hr with
 | base _ _ hb=>cases hb
 | lp _ _ hi=>
  have hz:Go.Pv.sw n i<(F.sw n).nl:=by show Go.Pv.sw n i<F.nl;rw[hf.nl] at hi⊢;unfold Go.Pv.sw;split;omega;split<;>omega
  have:=RepF.lp (w:=w) (g:=g) (F:=F.sw n) (T:=u.T) (Go.Pv.sw n i) off hz;have e:(F.sw n).lmu (Go.Pv.sw n i)=F.lmu i:=(by show F.lmu (Go.Pv.sw n (Go.Pv.sw n i))=_;rw[j7]);rw[e] at this;exact this
def PFS.inScope (s:PFS):Prop:=(∀t,t<s.pa.length->(s.pa.getD t .junk).lim s.L.length s.T.length=true)/\ ∀i,∀p∈s.L.getD i [],p.lim s.L.length s.T.length=true
theorem wG (X:List (Tmp×List PV)): ∀s:PFS,(s.exts X).L=s.L++X.map (·.2)/\(s.exts X).T=s.T/\(s.exts X).st=s.st/\(s.exts X).pa.length=s.pa.length:=by
 induction X with
 | nil=>intro s;exact⟨by simp[PFS.exts],rfl,rfl,rfl⟩
 | cons x X ih=>
  intro s;obtain⟨h1,h2,h3,h4⟩:=ih (s.addBox x);refine⟨?_,h2,h3,?_⟩;show(PFS.exts (s.addBox x) X).L=_;rw[h1];simp[PFS.addBox,PFS.put];show(PFS.exts (s.addBox x) X).pa.length=_;rw[h4];simp[PFS.addBox,PFS.put]
theorem U0r (s:PFS)(x:Tmp×List PV)(t:Nat)(ht:t<s.pa.length):(s.addBox x).pa.getD t .junk=if x.1=t then .lp s.L.length 0 else s.pa.getD t .junk:=by show(s.pa.set x.1 (.lp s.L.length 0)).getD t .junk=_;by_cases e:x.1=t;rw[BC e,e,Z0 _ _ _ _ ht];rw[BA e,Z3 _ _ _ _ _ e]
theorem k0z {s:PFS}{x:Tmp×List PV}(h:s.inScope)(hx:x.2.all (PV.lim 0 0)=true):(s.addBox x).inScope:=by
 have hLl:(s.addBox x).L.length=s.L.length+1:=(by simp[PFS.addBox,PFS.put]);have hT:(s.addBox x).T=s.T:=rfl;have hp:(s.addBox x).pa.length=s.pa.length:=(by simp[PFS.addBox,PFS.put]);refine⟨fun t ht=> ?_,fun i p hi=> ?_⟩;rw[hp] at ht;rw[U0r s x t ht,hLl,hT];split;show decide (s.L.length<s.L.length+1)=true;simp;exact X0r oG (h.1 t ht);rw[hLl,hT];have e:(s.addBox x).L=s.L++ [x.2]:=rfl;rw[e] at hi;by_cases hl:i<s.L.length;rw[Hq _ _ _ _ hl] at hi;exact X0r oG (h.2 i p hi);by_cases he:i=s.L.length;subst he;rw[q_a,CA (BD _)] at hi;simp at hi;have h0:=List.all_eq_true.1 hx p hi;have key: ∀q:PV,q.lim1 0 0=true->q.lim1 (s.L.length+1) s.T.length=true:=fun q hq=>by unfold PV.lim1 at hq⊢;split at hq;simp at hq;simp at hq;simp at hq;simp at hq;cases hq;cases hq;cases hq;rfl
 have all: ∀cs:List PV,cs.all (PV.lim1 0 0)=true->cs.all (PV.lim1 (s.L.length+1) s.T.length)=true:=fun cs hc=>List.all_eq_true.2 fun q hq=>key q (List.all_eq_true.1 hc q hq);cases p with
 | agg cs=>exact all cs h0
 | tup cs=>exact all cs h0
 | fn f bs cs=>exact CR.2 ⟨all bs (CR.1 h0).1,all cs (CR.1 h0).2⟩
 | junk=>rfl
 | sc v=>rfl
 | sl t es=>exact key (.sl t es) h0
 | ms g i o l=>exact key (.ms g i o l) h0
 | mr i n c=>exact key (.mr i n c) h0
 | lp i o=>exact key (.lp i o) h0
 | gp i o=>rfl
 | ep cs o=>rfl
 | pre al n=>rfl
 | gr i n c=>rfl
 rw[IC _ _ _ (by simp;omega)] at hi;cases hi
theorem U1e {a t:Nat}{p:PV}(h0:p.lim 0 0=true):p.lim a t=true:=by
 have key: ∀q:PV,q.lim1 0 0=true->q.lim1 a t=true:=fun q hq=>by unfold PV.lim1 at hq⊢;split at hq;simp at hq;simp at hq;simp at hq;simp at hq;cases hq;cases hq;cases hq;rfl
 have all: ∀cs:List PV,cs.all (PV.lim1 0 0)=true->cs.all (PV.lim1 a t)=true:=fun cs hc=>List.all_eq_true.2 fun q hq=>key q (List.all_eq_true.1 hc q hq);cases p with
 | agg cs=>exact all cs h0
 | tup cs=>exact all cs h0
 | fn f bs cs=>exact CR.2 ⟨all bs (CR.1 h0).1,all cs (CR.1 h0).2⟩
 | junk=>rfl
 | sc v=>rfl
 | sl t es=>exact key (.sl t es) h0
 | ms g i o l=>exact key (.ms g i o l) h0
 | mr i n c=>exact key (.mr i n c) h0
 | lp i o=>exact key (.lp i o) h0
 | gp i o=>rfl
 | ep cs o=>rfl
 | pre al n=>rfl
 | gr i n c=>rfl
def J4 (X:List (Tmp×List PV))(t:Nat):Option Nat:=
 match X with
 | []=>none
 | x::X=>if x.1=t then some 0 else(J4 X t).map (· +1)
theorem k8 (x:Tmp×List PV)(X:List (Tmp×List PV))(t:Nat):J4 (x::X) t=if x.1=t then some 0 else(J4 X t).map (· +1):=rfl
theorem X1p {X:List (Tmp×List PV)}{t:Nat}(h: ∀x∈X,x.1≠t):J4 X t=none:=by
 induction X with
 | nil=>rfl
 | cons x X ih=>
  rw[k8,BA (h x (DG ..)),ih fun y hy=>h y (DL _ hy)];rfl
theorem wE : ∀(X:List (Tmp×List PV)) (s:PFS) (t:Nat),t<s.pa.length->(X.map (·.1)).Nodup->(s.exts X).pa.getD t .junk=match J4 X t with | some q=> .lp (s.L.length+q) 0 | none=>s.pa.getD t .junk
 | [],s,t,ht,hd=>rfl
 | x::X,s,t,ht,hd=>by
  have hd':=LA.1 hd;have hp:(s.addBox x).pa.length=s.pa.length:=(by simp[PFS.addBox,PFS.put]);have hLl:(s.addBox x).L.length=s.L.length+1:=(by simp[PFS.addBox,PFS.put]);have ih:=wE X (s.addBox x) t (by rw[hp];exact ht) hd'.2;show((s.addBox x).exts X).pa.getD t .junk=_;rw[ih,U0r s x t ht,hLl,k8];by_cases e:x.1=t;have hn:J4 X t=none:=X1p fun y hy e2=>hd'.1 (CF.2 ⟨y,hy,e2.trans e.symm⟩);rw[BC e,BC e,hn];rfl;rw[BA e,BA e];cases J4 X t with
  | none=>rfl
  | some q=>simp only[FT];congr 1;omega
theorem q1o {E:Ent}{a:Act}{w:Lw}{g:Gh}{X Y:List (Tmp×List PV)}(hp:X.Perm Y): ∀(F:Fr) (s:PFS),s.inScope->(X.map (·.1)).Nodup->(∀x∈X,x.2.all (PV.lim 0 0)=true)->
 FSRep E a w g F (s.exts X)-> ∃F',FSRep E a w g F' (s.exts Y):=by
 induction hp with
 | nil=>exact fun F s _ _ _ h=>⟨F,h⟩
 | cons x _ ih=>
  intro F s hs hd hz h;exact ih F (s.addBox x) (k0z hs (hz x (DG ..))) (LA.1 hd).2 (fun y hy=>hz y (DL _ hy)) h
 | trans h1 h2 ih1 ih2=>
  intro F s hs hd hz h;obtain⟨F1,k⟩:=ih1 F s hs hd hz h;exact ih2 F1 s hs ((h1.map _).nodup_iff.1 hd) (fun x hx=>hz x (h1.mem_iff.2 hx)) k
 | swap x y l=>
  intro F s hs hd hz h;have hd1:((x::y::l).map (·.1)).Nodup:=((List.Perm.swap y x l).map (·.1)).nodup_iff.2 hd;obtain⟨a1,a2,a3,a4⟩:=wG (y::x::l) s;obtain⟨b1,b2,b3,b4⟩:=wG (x::y::l) s;have hne:y.1≠x.1:=fun e=>(LA.1 hd).1 (CF.2 ⟨x,DG ..,e.symm⟩);refine⟨F.sw s.L.length,q1n (n:=s.L.length) h (by rw[a1];simp) (by rw[a2,b2]) (by rw[a3,b3]) (by rw[a4,b4]) (by rw[a1,b1];simp) (fun i=> ?_) (fun i p hi=> ?_) (fun t ht=> ?_)⟩;rw[a1,b1];by_cases h1:i<s.L.length;rw[Du h1,Hq _ _ _ _ h1,Hq _ _ _ _ h1];obtain⟨k,rfl⟩: ∃k,i=s.L.length+k:=⟨i-s.L.length,oG⟩;have g: ∀(M:List (List PV)) (q:Nat),(s.L++M).getD (s.L.length+q) []=M.getD q []:=fun M q=>by rw[q_a,CA oG,DY,<-q_a]
  match k with
  | 0=>
   have:Go.Pv.sw s.L.length (s.L.length+0)=s.L.length+1:=by unfold Go.Pv.sw;simp
   rw[this,g,g];rfl
  | 1=>
   have:Go.Pv.sw s.L.length (s.L.length+1)=s.L.length+0:=by unfold Go.Pv.sw;simp
   rw[this,g,g];rfl
  | k+2=>
   rw[Dv oG,g,g];rfl
  rw[a2];rw[a1] at hi;by_cases h1:i<s.L.length;rw[Hq _ _ _ _ h1] at hi;exact hs.2 i p hi;by_cases h2:i<s.L.length+(y::x::l).length;have hm:(s.L++(y::x::l).map (·.2)).getD i []∈(y::x::l).map (·.2):=by rw[q_a,CA oG,<-q_a];exact QE _ _ _ (by simp at h2⊢;omega)
  obtain⟨z,hz1,hz2⟩:=CF.1 hm;rw[<-hz2] at hi;exact U1e (List.all_eq_true.1 (hz z hz1) p hi);rw[IC _ _ _ (by simp at h2⊢;omega)] at hi;cases hi;rw[a4] at ht;rw[wE _ s t ht hd,wE _ s t ht hd1,a2];simp only[k8];by_cases e1:y.1=t;have e2:x.1≠t:=fun e=>hne (by rw[e1,e]);right;refine⟨s.L.length,0,?_,?_⟩;simp[e1];simp[e1,e2];unfold Go.Pv.sw;simp;by_cases e2:x.1=t;right;refine⟨s.L.length+1,0,?_,?_⟩;simp[e1,e2];simp[e2];unfold Go.Pv.sw;simp;cases hq:J4 l t with
  | none=>
   left;simp[e1,e2,hq];exact hs.1 t ht
  | some q=>
   right;refine⟨s.L.length+(q+1+1),0,?_,?_⟩;simp[e1,e2,hq];simp[e1,e2,hq];rw[Dv oG]
theorem kY {l m:Ln}(hd:l.Nodup)(h: ∀i∈l,i∈m):l.length<=m.length:=by
 induction l generalizing m with
 | nil=>exact CX _
 | cons i l ih=>
  have hd':=LA.1 hd;have him:=h i (DG ..);have:l.length<=(m.erase i).length:=ih hd'.2 fun j hj=>(List.mem_erase_of_ne (fun e:j=i=>hd'.1 (e▸hj))).2 (h j (DL _ hj));rw[List.length_erase_of_mem him] at this;have:0<m.length:=List.length_pos_of_mem him;simp only[C1];omega
theorem List.perm_of_nodup_nodup_toFinset_eq' {l m:Ln}(hl:l.Nodup)(hm:m.Nodup)(h: ∀i∈l,i∈m)(hlen:m.length<=l.length):l.Perm m:=by
 induction l generalizing m with
 | nil=>
  have:m= []:=BZ.1 (by simpa using hlen);subst this;exact .nil
 | cons i l ih=>
  have hd':=LA.1 hl;have him:=h i (DG ..);have:=ih (m:=m.erase i) hd'.2 (hm.erase i) (fun j hj=>(List.mem_erase_of_ne (fun e:j=i=>hd'.1 (e▸hj))).2 (h j (DL _ hj))) (by rw[List.length_erase_of_mem him];simp only[C1] at hlen;omega);exact(this.cons i).trans (List.perm_cons_erase him).symm
section
variable {P:Program} {ops:Array Oper} {K:PFS->Prop}
def UN (P:Program)(ops:Array Oper)(i:Nat):Option (Tmp×List PV):=
 match ops[i]? with
 | some ⟨some d,.alloc t,_,_,_,none⟩=>match Gl (ti P t) with
  | .box cs=>if cs.all (PV.lim 0 0)=true then some (d,cs) else none
  | _=>none
 | _=>none
def bx (P:Program)(ops:Array Oper)(i:Nat):Tmp×List PV:=(UN P ops i).getD (0,[])
def zZ (ops:Array Oper)(i:Nat):Bool:=match ops[i]? with | some o=>o.after.all fun e=> !Region.binds .any e | none=>false
def Zg (ops:Array Oper)(ph1:List Nat):Array Oper:=ops.mapIdx fun k o=>if ph1.contains k then o else { o with after:=o.after.push ⟨k,.data⟩ }
def Zh (l:Array Bool)(π:List Nat):Array Bool:=π.foldl (fun l i=>l.setIfInBounds i true) l
structure Late (P:Program) (ops:Array Oper) (ph1 as ph2:List Nat):Prop where
 all: ∀i,i<ops.size->i∈ph1\/i∈as\/i∈ph2
 lt: ∀i,i∈ph1\/i∈as->i<ops.size
 apart: ∀i∈ph1,i∉as
 nodup:as.Nodup
 slots:((as.map (bx P ops)).map (·.1)).Nodup
 alloc: ∀i∈as,(UN P ops i).isSome=true/\zZ ops i=true
 first: ∀i∈ph1,∀o,ops[i]?=some o->(∀e∈o.after,Region.binds .any e=true->e.on<i/\e.on∈ph1)/\Hs o.op=true/\ ∀j∈as,(bx P ops j).1∉o.looksAt ops/\o.dst≠some (bx P ops j).1
 last: ∀k∈ph2,∀j,j∈ph1\/j∈as->U2 ops j 12 k=true
theorem YA (l:Lc)(π:Ln):(Zh l π).size=l.size:=by
 induction π generalizing l with
 | nil=>rfl
 | cons i π ih=>exact(ih _).trans (by simp)
theorem Kz {l:Lc}{π:Ln}{k:Nat}(d:Bool):k<l.size->((Zh l π).getD k d=true<->l.getD k d=true\/k∈π):=by
 induction π generalizing l with
 | nil=>intro h;simp[Zh]
 | cons i π ih=>
  intro h;show(Zh (l.setIfInBounds i true) π).getD k d=true<->_;rw[ih (by simpa using h)];by_cases e:i=k;subst e;simp[h];rw[getD_set_ne d e];simp only[D8];constructor;rintro(h | h);exact .inl h;exact .inr (.inr h);rintro(h | h | h);exact .inl h;exact absurd h.symm e;exact .inr h
theorem Y1n (l:Lc)(π:Ln)(j:Nat)(h:j∉π):(Zh l π).setIfInBounds j true=Zh (l.setIfInBounds j true) π:=by
 induction π generalizing l with
 | nil=>rfl
 | cons i π ih=>
  have hn: ¬(j=i\/j∈π):=fun hh=>h (D8.2 hh);have h1:j≠i:=fun e=>hn (.inl e);show(Zh (l.setIfInBounds i true) π).setIfInBounds j true=Zh ((l.setIfInBounds j true).setIfInBounds i true) π;rw[ih _ (fun hh=>hn (.inr hh)),Array.setIfInBounds_comm _ _ (Ne.symm h1)]
theorem Y1m (l:Lc)(π:Ln)(j:Nat):Zh l (π++ [j])=(Zh l π).setIfInBounds j true:=by unfold Zh;rw[List.foldl_append];rfl
theorem x1b (s:PFS)(X:List (Tmp×List PV))(x:Tmp×List PV):s.exts (X++ [x])=(s.exts X).addBox x:=by unfold PFS.exts;rw[List.foldl_append];rfl
theorem wg (ph1:Ln)(k:Nat):(Zg ops ph1)[k]?=(ops[k]?).map fun o=>if ph1.contains k then o else { o with after:=o.after.push ⟨k,.data⟩ } :=by unfold Zg;simp
theorem IE {ph1:Ln}{k:Nat}(h:k∈ph1):(Zg ops ph1)[k]?=ops[k]?:=by rw[wg,EQ.2 h];cases ops[k]?<;>rfl
theorem vZ {ph1:Ln}{s:PFS}{j:Nat}{want:Bool} :ZA (Zg ops ph1).toList s j want=ZA ops.toList s j want:=by
 unfold ZA;have e1:(Zg ops ph1).toList[j]?=(Zg ops ph1)[j]?:=(by simp);have e2:ops.toList[j]?=ops[j]?:=(by simp);rw[e1,e2,wg];cases ops[j]? with
 | none=>rfl
 | some o=>simp only[FT];cases ph1.contains j<;>rfl
theorem K0e {ph1:Ln}{i:Nat}(h:i∈ph1){s:PFS} :POp P (Zg ops ph1) i K s=POp P ops i K s:=by unfold POp;rw[IE h];split;rfl;unfold POg;split;rfl;simp only[vZ]
theorem xr {ph1:Ln}{k:Nat}{listed:Lc}(h:k∈Region.ready .any (Zg ops ph1) listed):k∈ph1:=by
 obtain⟨h0,o,ho,hall⟩:=mem_ready.1 h;rw[wg] at ho;refine BE fun hn=> ?_;have hc:ph1.contains k=false:=by
  cases hb:ph1.contains k with
  | false=>rfl
  | true=>exact absurd (EQ.1 hb) hn
 rw[hc] at ho;cases hk:ops[k]? with
 | none=>rw[hk] at ho;cases ho
 | some o'=>
  rw[hk] at ho;simp at ho;subst ho;have:=hall ⟨k,.data⟩ (by simp) rfl;rw[Hn h0] at this;cases this
variable {ph1 as ph2:List Nat} (C:Late P ops ph1 as ph2)
include C
theorem Late.ready {k:Nat}{listed:Lc}{π:Ln}(hsz:listed.size=ops.size)(hk:k∈ph1)(hπ: ∀i∈π,i∈as):
 k∈Region.ready .any (Zg ops ph1) listed<->k∈Region.ready .any ops (Zh listed π):=by
 have hlt:k<listed.size:=by rw[hsz];exact C.lt k (.inl hk)
 have hkp:k∉π:=fun h=>C.apart k hk (hπ k h);rw[mem_ready,mem_ready,IE hk];have e0:(Zh listed π).getD k true=false<->listed.getD k true=false:=by
  have:=Kz (l:=listed) (π:=π) (k:=k) true hlt;constructor;intro h;cases hb:listed.getD k true with
  | false=>rfl
  | true=>rw[this.2 (.inl hb)] at h;cases h
  intro h;cases hb:(Zh listed π).getD k true with
  | false=>rfl
  | true=>
   rcases this.1 hb with h1 | h1;rw[h] at h1;cases h1;exact absurd h1 hkp
 rw[e0];refine and_congr_right fun _=> ?_;constructor;rintro⟨o,ho,h⟩;refine⟨o,ho,fun e he hb=> ?_⟩;obtain⟨h1,h2⟩:=(C.first k hk o ho).1 e he hb;exact(Kz (l:=listed) (π:=π) false (by rw[hsz];exact C.lt _ (.inl h2))).2 (.inl (h e he hb));rintro⟨o,ho,h⟩;refine⟨o,ho,fun e he hb=> ?_⟩;obtain⟨h1,h2⟩:=(C.first k hk o ho).1 e he hb;rcases (Kz (l:=listed) (π:=π) false (by rw[hsz];exact C.lt _ (.inl h2))).1 (h e he hb) with h3 | h3;exact h3;exact absurd (hπ _ h3) (C.apart _ h2)
theorem Late.done {listed:Lc}(hsz:listed.size=ops.size)(hr:Region.ready .any (Zg ops ph1) listed= []): ∀n k,k<n->k∈ph1->listed.getD k false=true:=by
 intro n
 induction n with
 | zero=>intro k h;omega
 | succ n ih=>
  intro k hkn hk;by_cases hlt:k<n;exact ih k hlt hk;have hkn:k=n:=oG;subst hkn;cases hb:listed.getD k false with
  | true=>rfl
  | false=>
   have hks:k<ops.size:=C.lt k (.inl hk);have:k∈Region.ready .any (Zg ops ph1) listed:=by rw[mem_ready,IE hk];refine⟨?_,ops[k],by simp[hks],fun e he hbd=> ?_⟩;have:k<listed.size:=(by rw[hsz];exact hks);simpa[this] using hb;obtain⟨h1,h2⟩:=(C.first k hk ops[k] (by simp[hks])).1 e he hbd;exact ih _ h1 h2
   rw[hr] at this;cases this
theorem Late.closed {listed:Lc}{π:Ln}(hsz:listed.size=ops.size)(hl: ∀k,listed.getD k false=true->k∈ph1)(hcl:XN (Zg ops ph1) listed)(hπ: ∀i∈π,i∈as):XN ops (Zh listed π):=by intro k o e ho hk he hb;have hks:k<listed.size:=(by rw[hsz];exact(C3.1 ho).1);rcases (Kz (l:=listed) (π:=π) false hks).1 hk with h | h;have h1:=hl k h;have:=hcl k o e (by rw[IE h1];exact ho) h he hb;obtain⟨_,h3⟩:=(C.first k h1 o ho).1 e he hb;exact(Kz (l:=listed) (π:=π) false (by rw[hsz];exact C.lt _ (.inl h3))).2 (.inl this);have:=(C.alloc k (hπ k h)).2;unfold zZ at this;rw[ho] at this;simp only at this;rw[Array.all_eq_true'] at this;have:=this e he;rw[hb] at this;cases this
omit C
theorem J0h {i:Nat}(h:(UN P ops i).isSome=true): ∃d t ty pos af,ops[i]?=some ⟨some d,.alloc t,ty,pos,af,none⟩/\Gl (ti P t)= .box (bx P ops i).2/\d=(bx P ops i).1/\(bx P ops i).2.all (PV.lim 0 0)=true:=by unfold bx;unfold UN at h⊢;split at h;rename_i d t ty pos af ho;split at h;rename_i cs hcs;split at h;rename_i hc;refine⟨d,t,ty,pos,af,ho,?_,?_,?_⟩;simp only[hcs,BC hc];rfl;simp only[hcs,BC hc];rfl;simp only[hcs,BC hc];exact hc;cases h;cases h;cases h
theorem yN {i:Nat}(h:(UN P ops i).isSome=true){s:PFS} : ∃o,ops[i]?=some o/\o.guard=none/\ ∀K:PFS->Prop,PO P o K s<->K (s.addBox (bx P ops i)):=by obtain⟨d,t,ty,pos,af,ho,hb,hd,_⟩:=J0h h;refine⟨_,ho,rfl,fun K=> ?_⟩;unfold PO;have e1:JR P (.alloc t) s.ev=none:=rfl;have e2:JZ (.alloc t) s.ev=none:=rfl;simp only[e1,e2,KB];have e3:req P (.alloc t) ty s.ev= .box (bx P ops i).2:=hb;rw[e3,hd];exact Iff.rfl
theorem Bd {rd:Option Nat}{Q:Pt} : ∀(f:Nat) (listed:Lc) (a:Act) (w:Lw),wpAnyIn (fen rd) 0 P .any ops Q f listed a w->wpAnyIn (fen rd) 0 P .any ops Q (f+1) listed a w
 | 0,listed,a,w,h=>⟨fun _=>h.2,fun i hi=>by rw[h.1] at hi;cases hi⟩
 | f+1,listed,a,w,h=>⟨h.1,fun i hi=>wpOpIn_mono (fun a' w' h'=>Bd f _ a' w' h') (h.2 i hi)⟩
theorem Bg {rd:Option Nat}{Q:Pt}{f f':Nat}(hle:f<=f'){listed:Lc}{a:Act}{w:Lw}(h:wpAnyIn (fen rd) 0 P .any ops Q f listed a w):wpAnyIn (fen rd) 0 P .any ops Q f' listed a w:=by
 obtain⟨k,rfl⟩: ∃k,f'=f+k:=⟨f'-f,oG⟩;clear hle
 induction k with
 | zero=>exact h
 | succ k ih=>exact Bd _ _ _ _ ih
def OA0 (P:Program)(ops:List Oper)(as:List Nat)(K:PFS->Prop):PFS->Prop:=
 match as with
 | []=>K
 | i::as=>fun s=>OS0 P ops (ops[i]?) (OA0 P ops as K) s
theorem X2w {as:Ln}(h: ∀i∈as,(UN P ops i).isSome=true): ∀ {s:PFS},OA0 P ops.toList as K s->K (s.exts (as.map (bx P ops))):=by
 induction as with
 | nil=>exact fun h=>h
 | cons i as ih=>
  intro s hs;have h1:=G0j (P:=P) (ops:=ops) (i:=i) hs;obtain⟨o,ho,hg,hk⟩:=yN (h i (DG ..)) (s:=s);unfold POp at h1;rw[ho] at h1;simp only at h1;unfold POg at h1;rw[hg] at h1;exact ih (fun j hj=>h j (DL _ hj)) ((hk _).1 h1)
def PFS.scopedB (s:PFS):Prop:=s.pa.all (PV.lim s.L.length s.T.length)=true/\s.L.all (fun o=>o.all (PV.lim s.L.length s.T.length))=true
theorem k0y {s:PFS}(h:s.scopedB):s.inScope:=by refine⟨fun t ht=>List.all_eq_true.1 h.1 _ (QE _ _ _ ht),fun i p hi=> ?_⟩;by_cases hl:i<s.L.length;exact List.all_eq_true.1 (List.all_eq_true.1 h.2 _ (QE _ _ _ hl)) p hi;rw[IC _ _ _ oG] at hi;cases hi
def KL (P:Program)(ops:Array Oper)(as:List Nat)(p2:Plan)(K:PFS->Prop)(s:PFS):Prop:=s.scopedB/\OA0 P ops.toList as (OW0 P ops.toList p2 K) s
section
variable {E:Ent} {Q:Exit->Act->World->Prop} {N f2:Nat} {p2:Plan}
 (h2:X3 ops N p2 f2 (Zh (Zh (Array.replicate ops.size false) ph1) as)=true) (h2':V4 ops N (Zh (Zh (Array.replicate ops.size false) ph1) as) p2=true)
 (hK: ∀a' w' g' F' s',FSRep E a' w' g' F' s'->K s'->Q .normal a' w')
include C h2 h2' hK
theorem U1m {listed:Lc}{π:Ln}(hsz:listed.size=ops.size)(hl: ∀k,listed.getD k false=true->k∈ph1)(hcl:XN (Zg ops ph1) listed)(hr:Region.ready .any (Zg ops ph1) listed= [])
 (hnd:π.Nodup) (hπ: ∀i∈π,i∈as) (hlen:as.length<=π.length) {s:PFS} (hN:N<=s.pa.length) (hk:KL P ops as p2 K s) {a:Act} {w:Lw} {g:Gh} {F:Fr} (hrep:FSRep E a w g F (s.exts (π.map (bx P ops)))):
 wpAnyIn (fen E.rd) 0 P .any ops Q f2 (Zh listed π) a w:=by
 have hperm:π.Perm as:=List.perm_of_nodup_nodup_toFinset_eq' hnd C.nodup hπ hlen;have hsc:=k0y hk.1;have hsl:((π.map (bx P ops)).map (·.1)).Nodup:=(((hperm.map (bx P ops)).map (·.1)).nodup_iff).2 C.slots;obtain⟨F',hrep'⟩:=q1o (hperm.map (bx P ops)) F s hsc hsl (fun x hx=>by obtain⟨i,hi,rfl⟩:=CF.1 hx;obtain⟨_,_,_,_,_,_,_,_,hz⟩:=J0h (C.alloc i (hπ i hi)).1;exact hz) hrep;have hfull:Zh listed π=Zh (Zh (Array.replicate ops.size false) ph1) as:=(by refine Array.ext (by rw[YA,YA,YA,hsz];simp) fun i h1 h3=> ?_;have hi:i<listed.size:=(by rwa [YA] at h1);have hi2:i<(Zh (Array.replicate ops.size false) ph1).size:=(by rw[YA] at h3;exact h3);have hi3:i<(Array.replicate ops.size false).size:=(by rw[YA] at hi2;exact hi2);have e1:=Kz (l:=listed) (π:=π) false hi;have e2:=Kz (l:=Zh (Array.replicate ops.size false) ph1) (π:=as) false hi2;have e3:=Kz (l:=Array.replicate ops.size false) (π:=ph1) false hi3;have z: ∀(A:Lc) (h:i<A.size),A[i]=A.getD i false:=fun A h=>(by simp[h]);rw[z _ h1,z _ h3,E3,e1,e2,e3];constructor;rintro(h | h);exact .inl (.inr (hl i h));exact .inr (hπ i h);rintro((h | h) | h);simp[E9] at h;split at h<;>simp at h;exact .inl (C.done hsz hr (i+1) i oG h);exact .inr (hperm.mem_iff.2 h));have hO:=X2w (fun i hi=>(C.alloc i hi).1) hk.2;have hcl2:XN ops (Zh listed π):=C.closed hsz hl hcl hπ;rw[hfull] at hcl2⊢;have hP:=(GW (P:=P) (K:=K) p2 f2 _ h2 hcl2).2 h2' (s.exts (as.map (bx P ops))) (by rw[(wG _ s).2.2.2];exact hN) hO;exact qC hK _ _ _ _ _ _ _ hrep' hP
theorem U1n : ∀(fu f:Nat) (listed:Lc) (s:PFS) (π:Ln),f+(as.length-π.length)+f2<=fu->Je P (Zg ops ph1) (KL P ops as p2 K) f listed s->listed.size=ops.size->(∀k,listed.getD k false=true->k∈ph1)->
 XN (Zg ops ph1) listed->π.Nodup->(∀i∈π,i∈as)->N<=s.pa.length-> ∀(a:Act) (w:Lw) (g:Gh) (F:Fr),FSRep E a w g F (s.exts (π.map (bx P ops)))->wpAnyIn (fen E.rd) 0 P .any ops Q fu (Zh listed π) a w:=by
 have last: ∀(fu f:Nat) (listed:Lc) (s:PFS) (π:Ln),f2<=fu->Je P (Zg ops ph1) (KL P ops as p2 K) f listed s->listed.size=ops.size->(∀k,listed.getD k false=true->k∈ph1)->
  XN (Zg ops ph1) listed->π.Nodup->(∀i∈π,i∈as)->N<=s.pa.length->Region.ready .any (Zg ops ph1) listed= []->as.length<=π.length-> ∀(a:Act) (w:Lw) (g:Gh) (F:Fr),FSRep E a w g F (s.exts (π.map (bx P ops)))->wpAnyIn (fen E.rd) 0 P .any ops Q fu (Zh listed π) a w:=by
  intro fu f listed s π hfu hP hsz hl hcl hnd hπ hN hr hlen a w g F hrep;have hk:KL P ops as p2 K s:=by
   cases f with
   | zero=>exact hP.2
   | succ f=>exact hP.1 hr
  exact Bg hfu (U1m C h2 h2' hK hsz hl hcl hr hnd hπ hlen hN hk hrep)
 intro fu
 induction fu with
 | zero=>
  intro f listed s π hfu hP hsz hl hcl hnd hπ hN a w g F hrep;have hf:f=0:=oG;subst hf;exact last 0 0 listed s π oG hP hsz hl hcl hnd hπ hN hP.1 oG a w g F hrep
 | succ fu ih=>
  intro f listed s π hfu hP hsz hl hcl hnd hπ hN a w g F hrep;by_cases hA:Region.ready .any (Zg ops ph1) listed= []/\as.length<=π.length;exact last (fu+1) f listed s π oG hP hsz hl hcl hnd hπ hN hA.1 hA.2 a w g F hrep;have hclo:=C.closed hsz hl hcl hπ;have hunl: ∀i∈as,i∉π->(Zh listed π).getD i true=false:=fun i hi hn=>by
   have hlt:i<listed.size:=by rw[hsz];exact C.lt i (.inr hi)
   cases hb:(Zh listed π).getD i true with
   | false=>rfl
   | true=>
    rcases (Kz (l:=listed) (π:=π) true hlt).1 hb with h | h;have:listed.getD i false=true:=(by simpa[hlt] using h);exact absurd hi (C.apart i (hl i this));exact absurd h hn
  refine⟨fun h0=> ?_,fun j hj=> ?_⟩;exfalso;by_cases hr:Region.ready .any (Zg ops ph1) listed= [];have hlen: ¬as.length<=π.length:=fun h=>hA ⟨hr,h⟩;have: ∃i∈as,i∉π:=by refine BE fun hne=>hlen ?_;exact kY C.nodup fun i hi=>BE fun hn=>hne ⟨i,hi,hn⟩
  obtain⟨i,hi,hn⟩:=this;obtain⟨o,ho,_,_⟩:=yN (C.alloc i hi).1 (s:=s);have:i∈Region.ready .any ops (Zh listed π):=by rw[mem_ready];refine⟨hunl i hi hn,o,ho,fun e he hb=> ?_⟩;have:=(C.alloc i hi).2;unfold zZ at this;rw[ho] at this;simp only at this;rw[Array.all_eq_true'] at this;have:=this e he;rw[hb] at this;cases this
  rw[h0] at this;cases this;obtain⟨k,hk⟩:=List.exists_mem_of_ne_nil _ hr;have:=(C.ready hsz (xr hk) hπ).1 hk;rw[h0] at this;cases this
  . obtain⟨hju,oj,hoj,hall⟩:=mem_ready.1 hj;have hjlt:=(C3.1 hoj).1;rcases C.all j hjlt with h1 | h1 | h1
    . --one of the first
      have hjr:=(C.ready hsz h1 hπ).2 hj;cases f with
      | zero=>rw[hP.1] at hjr;cases hjr
      | succ f=>
       have hp:=hP.2 j hjr;rw[K0e h1] at hp;have hp:=yK hp;unfold POp at hp;rw[hoj] at hp;simp only at hp;obtain⟨_,hflat,hsl⟩:=C.first j h1 oj hoj;have hx:=G0a (ops:=ops) hflat (π.map (bx P ops)) s _ (fun x hx=>by obtain⟨i,hi,rfl⟩:=CF.1 hx;exact hsl i (hπ i hi)) hp;have next: ∀(a':Act) (w':Lw) (g':Gh) (F':Fr) (s':PFS),FSRep E a' w' g' F' s'->(∃s0,(((Xq (Zg ops ph1) j=true->Js P (Zg ops ph1) listed j s0)/\Je P (Zg ops ph1) (KL P ops as p2 K) f (listed.setIfInBounds j true) s0)/\s0.pa.length=s.pa.length)/\s'=s0.exts (π.map (bx P ops)))->
        wpAnyIn (fen E.rd) 0 P .any ops Q fu ((Zh listed π).setIfInBounds j true) a' w':=by
        rintro a' w' g' F' s' hr' ⟨s0,⟨⟨_,hpa⟩,hlen⟩,rfl⟩;rw[Y1n _ _ _ (fun h=>C.apart j h1 (hπ j h))];refine ih f (listed.setIfInBounds j true) s0 π oG hpa (by simpa using hsz) (fun k hk=> ?_) (Ge hcl hjr) hnd hπ oG a' w' g' F' hr';by_cases e:j=k;subst e;exact h1;rw[getD_set_ne false e] at hk;exact hl k hk
       unfold wpOpIn;rw[hoj];simp only;unfold POg at hx;split at hx
       . rename_i hg;rw[BC (by simp[Region.wanted,hg])];exact Jt hrep hx next
       . rename_i jj want hg;split at hx
         . rename_i b hb;have hy:=W9 hrep hb;split at hx
           . rename_i he;subst he;rw[BC (by unfold Region.wanted;rw[hg];simp only;rw[hy];simp)];exact Jt hrep hx next
           . rename_i he;rw[BA (by unfold Region.wanted;rw[hg];simp only;rw[hy];simp[he])];exact⟨V7,next _ w g F _ (hrep.put oj.dst (.base _ _ (Wz _ _))) hx⟩
         exact hx.elim
    --a box
    have hjn:j∉π:=fun h=>by have:=(Kz (l:=listed) (π:=π) true (by rw[hsz];exact hjlt)).2 (.inr h);rw[hju] at this;cases this
    obtain⟨o,ho,hg,hk⟩:=yN (C.alloc j h1).1 (s:=s.exts (π.map (bx P ops)));unfold wpOpIn;rw[ho];simp only;rw[BC (by simp[Region.wanted,hg])];refine Jt hrep ((hk (fun s'=>s'=(s.exts (π.map (bx P ops))).addBox (bx P ops j))).2 rfl) ?_;rintro a' w' g' F' s' hr' rfl;rw[<-Y1m];have hnd':(π++ [j]).Nodup:=by rw[List.nodup_append];exact⟨hnd,by simp,fun a ha b hb=>by simp at hb;subst hb;exact fun e=>hjn (e▸ha)⟩
    have hsub: ∀i∈π++ [j],i∈as:=fun i hi=>by rcases DN.1 hi with h | h;exact hπ i h;simp at h;subst h;exact h1
    have hlen':=kY hnd' hsub;refine ih f listed s (π++ [j]) (by simp at hlen'⊢;omega) hP hsz hl hcl hnd' hsub hN a' w' g' F' ?_;rw[E2];show FSRep E a' w' g' F' (s.exts (π.map (bx P ops)++ [bx P ops j]));rw[x1b];exact hr'
    --one of the last
    exfalso;have hreach: ∀i,i∈ph1\/i∈as->(Zh listed π).getD i false=true:=fun i hi=>z9 hclo 12 j oj hoj hall (C.last j h1 i hi);refine hA ⟨?_,?_⟩;refine List.eq_nil_iff_forall_not_mem.2 fun k hk=> ?_;have hkp:=xr hk;have hkl:k<listed.size:=(by rw[hsz];exact C.lt k (.inl hkp));have h3:=hreach k (.inl hkp);rcases (Kz (l:=listed) (π:=π) false hkl).1 h3 with h | h;have:=(mem_ready.1 hk).1;rw[Hn this] at h;cases h;exact C.apart k hkp (hπ k h);refine kY C.nodup fun i hi=> ?_;have hil:i<listed.size:=(by rw[hsz];exact C.lt i (.inr hi));rcases (Kz (l:=listed) (π:=π) false hil).1 (hreach i (.inr hi)) with h | h;exact absurd hi (C.apart i (hl i h));exact h
end
end
def Plan.inB (ph1:List Nat):Plan->Bool
 | .done=>true
 | .step i ws rest=>ph1.contains i&&(ws.all ph1.contains&&rest.inB ph1)
 | .alt a b=>a.inB ph1&&b.inB ph1
section
variable {P:Program} {ops:Array Oper} {ph1:List Nat}
theorem X2s {o:Oper}{K:Pf}{s:PFS} :OG P (Zg ops ph1).toList o K s=OG P ops.toList o K s:=by simp only[OG,vZ]
theorem Z2r {o:Oper}{s:PFS} :WG P (Zg ops ph1).toList o s=WG P ops.toList o s:=by simp only[WG,vZ]
theorem K0d {i:Nat}(h:i∈ph1):(Zg ops ph1).toList[i]?=ops.toList[i]?:=by have:=IE (ops:=ops) h;simpa using this
theorem U0w : ∀ {ws:Ln} {s:PFS},(∀i∈ws,i∈ph1)->WL0 P (Zg ops ph1).toList ws s=WL0 P ops.toList ws s
 | [],s,h=>rfl
 | i::ws,s,h=>by unfold WL0;rw[K0d (h i (DG ..)),U0w fun j hj=>h j (DL _ hj)];simp only[Z2r]
theorem qA : ∀(p:Plan) (K:Pf),p.inB ph1=true->OW0 P (Zg ops ph1).toList p K=OW0 P ops.toList p K
 | .done,K,h=>rfl
 | .step i ws rest,K,h=>by simp only[Plan.inB,q_i] at h;obtain⟨h1,h2,h3⟩:=h;have hi:i∈ph1:=EQ.1 h1;have hw: ∀j∈ws,j∈ph1:=fun j hj=>EQ.1 (List.all_eq_true.1 h2 j hj);funext s;unfold OW0;rw[K0d hi,qA rest K h3];have e:(fun s'=>WL0 P (Zg ops ph1).toList ws s'/\OW0 P ops.toList rest K s')=(fun s'=>WL0 P ops.toList ws s'/\OW0 P ops.toList rest K s'):=funext fun s'=>(by rw[U0w hw]);rw[e];unfold OS0;split;exact X2s;rfl
 | .alt a b,K,h=>by simp only[Plan.inB,q_i] at h;funext s;unfold OW0;rw[qA a K h.1,qA b K h.2]
end
def UJ (P:Program)(ops:Array Oper)(N:Nat)(ph1 as ph2:List Nat)(p1 p2:Plan):Bool:=
 (List.range ops.size).all (fun i=>ph1.contains i||(as.contains i||ph2.contains i))&&
 ((ph1++as).all (fun i=>decide (i<ops.size))&&
 (ph1.all (fun i=> !as.contains i)&&
 (decide as.Nodup&&
 (decide ((as.map (bx P ops)).map (·.1)).Nodup&&
 (as.all (fun i=>(UN P ops i).isSome&&zZ ops i)&&
 (ph1.all (fun i=>match ops[i]? with
  | none=>true
  | some o=>o.after.all (fun e=> !Region.binds .any e||(decide (e.on<i)&&ph1.contains e.on))&&(Hs o.op&&as.all fun j=> !(o.looksAt ops).contains (bx P ops j).1&&o.dst !=some (bx P ops j).1))&&
 (ph2.all (fun k=>(ph1++as).all fun j=>U2 ops j 12 k)&&
 (decide (ph1.length+as.length+ph2.length<=ops.size)&&
 (p1.inB ph1&&
 (X3 (Zg ops ph1) N p1 ph1.length (Array.replicate ops.size false)&&
 (V4 (Zg ops ph1) N (Array.replicate ops.size false) p1&&
 (X3 ops N p2 ph2.length (Zh (Zh (Array.replicate ops.size false) ph1) as)&&
 V4 ops N (Zh (Zh (Array.replicate ops.size false) ph1) as) p2))))))))))))
theorem X0y {P:Pg}{ops:La}{N:Nat}{ph1 as ph2:Ln}{p1 p2:Plan}(h:UJ P ops N ph1 as ph2 p1 p2=true):Late P ops ph1 as ph2:=by simp only[UJ,q_i] at h;obtain⟨h1,h2,h3,h4,h5,h6,h7,h8,_⟩:=h;refine⟨fun i hi=> ?_,fun i hi=> ?_,fun i hi hn=> ?_,q_b h4,q_b h5,fun i hi=>CR.1 (List.all_eq_true.1 h6 i hi),fun i hi o ho=> ?_,fun k hk j hj=> ?_⟩;have:=List.all_eq_true.1 h1 i (EX.2 hi);simp only[DF,EQ] at this;exact this;exact q_b (List.all_eq_true.1 h2 i (DN.2 hi));have:=List.all_eq_true.1 h3 i hi;rw[EQ.2 hn] at this;cases this;have:=List.all_eq_true.1 h7 i hi;rw[ho] at this;simp only[q_i] at this;obtain⟨a1,a2,a3⟩:=this;refine⟨fun e he hb=> ?_,a2,fun j hj=> ?_⟩;rw[Array.all_eq_true'] at a1;have:=a1 e he;rw[hb] at this;simp at this;exact this;have:=List.all_eq_true.1 a3 j hj;simp only[q_i,EK,BV,ne_eq] at this;refine⟨fun hm=> ?_,this.2⟩;rw[EQ.2 hm] at this;cases this.1;exact List.all_eq_true.1 (List.all_eq_true.1 h8 k hk) j (DN.2 hj)
theorem Q1z {P:Pg}{E:Ent}{id:Nat}{l:Lo}{Q:Pe}{s:PFS}(hm:P.follows .mixedOrders=true)(N:Nat)(ph1 as ph2:Ln)(p1 p2:Plan)(hB:UJ P l.toArray N ph1 as ph2 p1 p2=true)(hl:N<=s.pa.length)
 (h:OW0 P l p1 (fun s=>s.scopedB/\OA0 P l as (OW0 P l p2 (Q .normal)) s) s):PWP P E (.region id l.toArray true) Q s:=by
 intro a w g F hr;have C:=X0y hB;simp only[UJ,q_i] at hB;obtain⟨_,_,_,_,_,_,_,_,c1,c2,c3,c4,c5,c6⟩:=hB;have hfs:(Zg l.toArray ph1).size=l.toArray.size:=(by simp[Zg]);have hcl:XN (Zg l.toArray ph1) (Array.replicate l.toArray.size false):=fun k ok e hk hkl he hb=>by by_cases hkk:k<l.length<;>simp[hkk,q_f,E9] at hkl
 have h':OW0 P (Zg l.toArray ph1).toList p1 (KL P l.toArray as p2 (Q .normal)) s:=by rw[qA p1 _ c2];exact h
 have hP:=(GW (P:=P) (K:=KL P l.toArray as p2 (Q .normal)) p1 _ _ c3 hcl).2 c4 s hl h';have:=U1n C (Q:=fun e a w=>post E Q e a w) c5 c6 (fun a' w' g' F' s' hr' hk=>⟨g',F',s',hr',hk⟩) l.toArray.size ph1.length (Array.replicate l.toArray.size false) s []
  (by have:=q_b c1;simpa using this) hP (by simp) (fun k hk=>by by_cases hkk:k<l.length<;>simp[hkk,q_f,E9] at hk) hcl List.nodup_nil (fun i hi=>by cases hi) hl
 exact wpIn_region_any hm (this _ _ g F hr.drew.1)
section
variable {P:Program} {s:PFS} {K:PFS->Prop}
def OA (P:Program)(ops:List Oper)(as:List Nat)(K:PFS->Prop)[Stop ops][Stop K](s:PFS):Prop:=OA0 P ops as K s
@[go_sem] theorem v2j {ops:Lo} :OA P ops [] K s=K s:=(rfl)
@[go_sem] theorem v2k {ops:Lo}{i:Nat}{as:Ln} :OA P ops (i::as) K s=OS P ops (ops[i]?) (OA P ops as K) s:=(rfl)
@[go_sem] theorem K2c {pa:Lp}{L st:Qc}{T:Lv} :(PFS.mk pa L T st).scopedB=(pa.all (PV.lim L.length T.length)=true/\L.all (fun o=>o.all (PV.lim L.length T.length))=true):=(rfl)
end
theorem Z1a {P:Pg}{E:Ent}{id:Nat}{l:Lo}{Q:Pe}{s:PFS}(hm:P.follows .mixedOrders=true)(N:Nat)(ph1 as ph2:Ln)(p1 p2:Plan)(hB:UJ P l.toArray N ph1 as ph2 p1 p2=true)(hl:N<=s.pa.length)
 (h:OW P l p1 (fun s=>s.scopedB/\OA P l as (OW P l p2 (Q .normal)) s) s):PWP P E (.region id l.toArray true) Q s:=Q1z hm N ph1 as ph2 p1 p2 hB hl h
end Go.Pv
end
