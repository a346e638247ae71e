/- Parts of the walk: PvQ, PvR, PvS, PvT, PvU, PvV, PvW. -/
import Derived.Test.YtldalepagmhnmaaGreatDoorZB
import Derived.Scope
import Derived.Orders
set_option linter.unusedVariables false
set_option linter.unusedSimpArgs false
section
namespace Go.Pv
def J1l (s:PFS)(K:PV->PFS->Prop):Req->Prop
 | .val v=>K v s
 | .need c v=>c=true/\K v s
 | .load gl i off n agg=>
  off+n<=((if gl then s.st else s.L).getD i []).length/\K (if agg then .agg ((((if gl then s.st else s.L).getD i []).drop off).take n) else((if gl then s.st else s.L).getD i []).getD off .junk) s
 | .store gl i off cs=>
  (off+cs.length<=((if gl then s.st else s.L).getD i []).length/\0<((if gl then s.st else s.L).getD i []).length)/\
   K .junk (if gl then { s with st:=s.st.set i (over ((if gl then s.st else s.L).getD i []) off cs) } else { s with L:=s.L.set i (over ((if gl then s.st else s.L).getD i []) off cs) })
 | .box cs=>K (.lp s.L.length 0) { s with L:=s.L++ [cs] }
 | .mks cs len=>K (.ms false s.L.length 0 len) { s with L:=s.L++ [cs] }
 | .newsl es=>K (.sl .full es) s
 | .app t es ys e=>
  (e.zok=true/\es.length+ys.length<=1152921504606846976/\(es.length+ys.length)*e.by_<=140737488355328/\
   es.all (fun x=>x.cells.length==e.sz)=true/\ys.all (fun x=>(x.cells.length==e.sz)&&x.cells.all PV.cellOK)=true)/\
   match t with
   | .own k=>s.T.getD k (0,0)=(es.length,e.sz)/\K (.sl (.own k) (es++ys)) { s with T:=s.T.set k (es.length+ys.length,e.sz) }
   | .full=>(es.length=0\/0<ys.length)/\K (.sl (.own s.T.length) (es++ys)) { s with T:=s.T++ [(es.length+ys.length,e.sz)] }
   | _=>False
 | .fail=>False
theorem Z1n {s:PFS}{K:PV->PFS->Prop}{r:Req}(h:J1l s K r): ∃p s',r.run s=some (p,s')/\K p s':=by
 cases r with
 | val v=>exact⟨_,_,rfl,h⟩
 | need c v=>exact⟨_,_,by simp[Req.run,h.1],h.2⟩
 | load gl i off n agg=>exact⟨_,_,if_pos h.1,h.2⟩
 | store gl i off cs=>exact⟨_,_,if_pos h.1,h.2⟩
 | box cs=>exact⟨_,_,rfl,h⟩
 | mks cs len=>exact⟨_,_,rfl,h⟩
 | newsl es=>exact⟨_,_,rfl,h⟩
 | app t es ys e=>
  obtain⟨h1,h2⟩:=h;cases t with
  | own k=>exact⟨_,_,by simp only[Req.run];rw[if_pos h1,if_pos h2.1],h2.2⟩
  | full=>exact⟨_,_,by simp only[Req.run];rw[if_pos h1,if_pos h2.1],h2.2⟩
  | _=>exact h2.elim
 | fail=>exact h.elim
def V1j :Op->Bool
 | .binOp .eql _ _ _ _ | .binOp .neq _ _ _ _=>false
 | .call { callee:= .builtin _,.. } =>true
 | .call _=>false
 | _=>true
theorem Q3t {P:Program}{o:Oper}{K:PFS->Prop}{s:PFS}(hp:V1j o.op=true)(h:J1l s (fun p s'=>K (s'.put o.dst p)) (req P o.op o.type s.ev)):PO P o K s:=by
 obtain⟨p,s',hr,hk⟩:=Z1n h;have e1:U0y P o.op s.ev=none:=by unfold U0y;split;rename_i heq;rw[heq] at hp;cases hp;rename_i heq;rw[heq] at hp;cases hp;rfl
 have e2:K0h o.op s.ev=none:=by unfold K0h;split;rename_i heq;rw[heq] at hp;cases hp;rfl
 unfold PO;rw[e1,e2];simp only[w0y,hr];exact hk
def OC0 (P:Program)(o:Oper)(K:PFS->Prop)(s:PFS):Prop:=
 match V1j o.op with
 | true=>J1l s (fun p s'=>K (s'.put o.dst p)) (req P o.op o.type s.ev)
 | false=>PO P o K s
theorem q0j {P:Program}{o:Oper}{K:PFS->Prop}{s:PFS}(h:OC0 P o K s):PO P o K s:=by unfold OC0 at h;split at h;rename_i hp;exact Q3t hp h;exact h
def GK0 (b:Option Bool)(want:Bool)(x y:Prop):Prop:=match b with | some b=>(b=want->x)/\(b≠want->y) | none=>False
def CK0 (p:PV)(x y:Prop):Prop:=match p with | .sc (.bool b)=>(b=true->x)/\(b=false->y) | _=>False
def OL0 (P:Program)(ops:List Oper):List Oper->(PFS->Prop)->PFS->Prop
 | [],K,s=>K s
 | o::rest,K,s=>
  match o.guard with
  | none=>OC0 P o (OL0 P ops rest K) s
  | some (j,want)=>GK0 (X0d ops s j want) want (OC0 P o (OL0 P ops rest K) s) (OL0 P ops rest K (s.put o.dst (.tup [])))
theorem w2i {P:Program}{o:Oper}{K K':PFS->Prop}{s:PFS}(h:OC0 P o K s)(hk: ∀s,K s->K' s):OC0 P o K' s:=by
 have mono: ∀r,J1l s (fun p s'=>K (s'.put o.dst p)) r->J1l s (fun p s'=>K' (s'.put o.dst p)) r:=by
  intro r hr;cases r with
  | app t es ys e=>
   refine⟨hr.1,?_⟩;have h2:=hr.2;cases t with
   | own k=>exact⟨h2.1,hk _ h2.2⟩
   | full=>exact⟨h2.1,hk _ h2.2⟩
   | _=>exact h2
  | val v=>exact hk _ hr
  | need c v=>exact⟨hr.1,hk _ hr.2⟩
  | load gl i off n agg=>exact⟨hr.1,hk _ hr.2⟩
  | store gl i off cs=>exact⟨hr.1,hk _ hr.2⟩
  | box cs=>exact hk _ hr
  | mks cs len=>exact hk _ hr
  | newsl es=>exact hk _ hr
  | fail=>exact hr
 unfold OC0 at h⊢;cases hp:V1j o.op with
 | true=>rw[hp] at h;exact mono _ h
 | false=>
  rw[hp] at h;simp only at h⊢;unfold PO at h⊢;split;rename_i hn;rw[hn] at h;exact fun b hb=>hk _ (h b hb);rename_i hn;rw[hn] at h;simp only at h;split;rename_i hc;rw[hc] at h;exact⟨h.1,h.2.mono fun r st q=>hk _ q⟩;rename_i hc;rw[hc] at h;simp only at h;split;rename_i hs;rw[hs] at h;exact hk _ h;rename_i hs;rw[hs] at h;exact h
theorem K1f {P:Program}{ops:List Oper}{K:PFS->Prop} : ∀ {rest:List Oper} {s:PFS},OL0 P ops rest K s->PLc P ops rest K s
 | [],s,h=>h
 | o::rest,s,h=>by
  have ih:=fun s=> @K1f P ops K rest s;unfold OL0 at h;unfold PLc;split;rename_i hg;rw[hg] at h;exact q0j (w2i h ih);rename_i j want hg;rw[hg] at h;simp only at h;cases hb:X0d ops s j want with
  | none=>rw[hb] at h;exact h.elim
  | some b=>
   rw[hb] at h;simp only;obtain⟨h1,h2⟩:=h;split;rename_i e;exact q0j (w2i (h1 e) ih);rename_i e;exact ih _ (h2 e)
def K2q (Q:Exit->PFS->Prop):Exit->PFS->Prop:=fun e s=>match e with | .goto _=>False | e=>Q e s
def Z0r :Code->Bool
 | .seq x y=>Z0r x||Z0r y
 | .cond _ x y=>Z0r x||Z0r y
 | .block _ x=>Z0r x
 | .scope x=>Z0r x
 | .loop _=>true
 | _=>false
def x2r (c:Code):Bool:=Z0r c
def VC0 (P:Program)(E:Ent):Code->(Exit->PFS->Prop)->PFS->Prop
 | .skip,Q,s=>Q .normal s
 | .label _,Q,s=>Q .normal s
 | .seq x y,Q,s=>VC0 P E x (x0s (if x2r x then PWP P E y Q else VC0 P E y Q) Q) s
 | .region id ops false,Q,s=>OL0 P ops.toList ops.toList (Q .normal) s
 | .region id ops true,Q,s=>PWP P E (.region id ops true) Q s
 | .cond c x y,Q,s=>CK0 (s.ev c) (VC0 P E x Q s) (VC0 P E y Q s)
 | .block id c,Q,s=>VC0 P E c (eblk id Q) s
 | .exit id,Q,s=>Q (.exit id) s
 | .ret,Q,s=>Q .ret s
 | .scope c,Q,s=>VC0 P E c (K2q Q) s
 | .loop c,Q,s=>PWP P E (.loop c) Q s
 | c,Q,s=>PWP P E c Q s
theorem Y0y {P:Program}{b:Frame}{a:Act}{k:List Item}{cs:List Frame}{w:World}{c:Code} :step P (lone (b.atR a (.code (.scope c)::k)) cs w)= .next (lone (b.atR a (.code c:: .inScope c::k)) cs w):=
 step_lone_go (by simp[stepG,stepG.exec,Frame.atR])
theorem H1p {P:Program}{b:Frame}{a:Act}{k:List Item}{cs:List Frame}{w:World}{c:Code} :step P (lone (b.atR a (.inScope c::k)) cs w)= .next (lone (b.atR a k) cs w):=
 step_lone_go (by simp[stepG,stepG.exec,Frame.atR])
theorem V1g {P:Program}{E:Ent}{c:Code}{Q:Exit->PFS->Prop}{s:PFS}(h:PWP P E c (K2q Q) s):PWP P E (.scope c) Q s:=by
 intro a w g F hr b k cs hro hbf hrm;obtain⟨e,a₁,w₁,⟨g1,F1,s1,hr1,hq⟩,harr⟩:=h a w g F hr b (.inScope c::k) cs hro hbf hrm;have h0:(lone (b.atR a (.code (.scope c)::k)) cs w).fenced P (fen E.rd):=fenced_calm hbf hrm rfl;cases e with
 | normal=>exact⟨.normal,a₁,w₁,⟨g1,F1,s1,hr1,hq⟩,.head h0 Y0y (StepsIn.trans harr (.one (fenced_calm hbf hrm rfl) H1p))⟩
 | exit id=>exact⟨.exit id,a₁,w₁,⟨g1,F1,s1,hr1,hq⟩,fun k' hk=> .head h0 Y0y (harr.1 k' (by simp[exitTo,hk])),
  fun hr' hk=>let ⟨k₁,h1,h2⟩:=harr.2 hr' (by simp[exitTo,hk]);⟨k₁,h1,.head h0 Y0y h2⟩⟩
 | goto l=>exact hq.elim
 | ret=>exact⟨_,a₁,w₁,⟨g1,F1,s1,hr1,hq⟩,.of_steps (.one h0 Y0y) harr⟩
 | panic ch=>exact⟨_,a₁,w₁,⟨g1,F1,s1,hr1,hq⟩,.of_steps (.one h0 Y0y) harr⟩
 | outgrown=>exact⟨_,a₁,w₁,⟨g1,F1,s1,hr1,hq⟩,.of_steps (.one h0 Y0y) harr⟩
theorem W2v {P:Program}{E:Ent}{c:Code} : ∀ {Q:Exit->PFS->Prop} {s:PFS},VC0 P E c Q s->PWP P E c Q s:=by
 induction c with
 | skip=>exact fun h=>Q3m h
 | label l=>exact fun h=>q2j h
 | region id ops d=>
  cases d with
  | false=>exact fun h=>W2u (K1f h)
  | true=>exact fun h=>h
 | seq x y ihx ihy=>
  intro Q s h;refine Q0d (J1r (ihx h) ?_);intro e s hq;cases e with
  | normal=>
   simp only[x0s] at hq;cases hb:x2r x with
   | true=>rw[hb] at hq;exact hq
   | false=>rw[hb] at hq;exact ihy hq
  | _=>exact hq
 | cond c x y ihx ihy=>
  intro Q s h;simp only[VC0,CK0] at h;split at h;rename_i b hb;exact Q3q hb (fun e=>ihx (h.1 e)) (fun e=>ihy (h.2 e));exact h.elim
 | block id c ih=>exact fun h=>X0b (ih h)
 | exit id=>exact fun h=>Q3p h
 | ret=>exact fun h=>G3x h
 | scope c ih=>exact fun h=>V1g (ih h)
 | _=>exact fun h=>h
def k0z (P:Program)(E:Ent)(b:Bool)(y:Code)(Q:Exit->PFS->Prop)(s:PFS):Prop:=if b then PWP P E y Q s else VC0 P E y Q s
class Stop.{u} {α:Sort u} (a:α):Type where
instance instStop.{u} {α:Sort u} (a:α):Stop a:=⟨⟩
def ReqK (s:PFS)(K:PV->PFS->Prop)[Stop K](r:Req):Prop:=J1l s K r
def GK (b:Option Bool)(want:Bool)(x y:Prop)[Stop x][Stop y]:Prop:=GK0 b want x y
def CK (p:PV)(x y:Prop)[Stop x][Stop y]:Prop:=CK0 p x y
def OC (P:Program)(o:Oper)(K:PFS->Prop)[Stop o][Stop K](s:PFS):Prop:=OC0 P o K s
def OL (P:Program)(ops rest:List Oper)(K:PFS->Prop)[Stop ops][Stop rest][Stop K](s:PFS):Prop:=OL0 P ops rest K s
def VC (P:Program)(E:Ent)(c:Code)(Q:Exit->PFS->Prop)[Stop c][Stop Q](s:PFS):Prop:=VC0 P E c Q s
def PW (P:Program)(E:Ent)(c:Code)(Q:Exit->PFS->Prop)[Stop c][Stop Q](s:PFS):Prop:=PWP P E c Q s
def seqB (P:Program)(E:Ent)(b:Bool)(y:Code)(Q:Exit->PFS->Prop)[Stop y][Stop Q](s:PFS):Prop:=k0z P E b y Q s
def eth (K:PFS->Prop)(Q:Exit->PFS->Prop)[Stop K][Stop Q](e:Exit)(s:PFS):Prop:=x0s K Q e s
def ebl (id:Nat)(Q:Exit->PFS->Prop)[Stop Q](e:Exit)(s:PFS):Prop:=eblk id Q e s
def esc (Q:Exit->PFS->Prop)[Stop Q](e:Exit)(s:PFS):Prop:=K2q Q e s
def bQ (P:Program)(fz:Option Nat)(fn:Func)(Q:PV->Q0f->Prop)[Stop Q](e:Exit)(s:PFS):Prop:=v2f P fz fn Q e s
def EC (P:Program)(f:FuncId)(as:List PV)(st:Q0f)(Q:PV->Q0f->Prop)[Stop Q]:Prop:=ExtCalls P f as st Q
def PC (P:Program)(f:FuncId)(as:List PV)(st:Q0f)(Q:PV->Q0f->Prop)[Stop Q]:Prop:=PCalls P f as st Q
theorem Q0a {P:Program}{E:Ent}{c:Code}{Q:Exit->PFS->Prop}{s:PFS}(h:VC P E c Q s):PWP P E c Q s:=W2v h
theorem ck {b:Bool}{x y:Prop}(h1:b=true->x)(h2:b=false->y):CK (.sc (.bool b)) x y:=⟨h1,h2⟩
theorem W4u {P:Program}{E:Ent}{c:Code}{Q:Exit->PFS->Prop}{s:PFS}{B:Prop}(k:B)(e:VC P E c Q s=B:=by simp-dsimp only[go_sem];exact rfl):PWP P E c Q s:=Q0a (e.mpr k)
theorem W4t {P:Program}{E:Ent}{x y:Code}{Q:Exit->PFS->Prop}{s:PFS}{B:Prop}(k:B)(e:VC P E x (x0s (PWP P E y Q) Q) s=B:=by simp-dsimp only[go_sem];exact rfl):PWP P E (.seq x y) Q s:=Q0d (Q0a (e.mpr k))
theorem W4y {P:Program}{f:FuncId}{fn:Func}{c:Code}{args:List PV}{st:Q0f}{Q:PV->Q0f->Prop}{B:Ent->Prop}(hf:P.funcs[f]?=some fn)(h: ∀E,B E)(hb:fn.body=some c:=by exact rfl)
 (e: ∀E,VC P E c (v2f P none fn Q) (Z1h fn args st)=B E:=by intro E;simp-dsimp only[go_sem];exact rfl):PCalls P f args st Q:=Q0b none hf hb fun E=>Q0a ((e E).mpr (h E))
theorem W4z {A:Prop}{b:Bool}{x y:Prop}(h1:b=true->x)(h2:b=false->y)(e:A=CK (.sc (.bool b)) x y:=by simp-dsimp only[go_sem];exact rfl):A:=e.mpr ⟨h1,h2⟩
theorem Y4w {A B:Prop}(k:B)(e:A=B:=by simp-dsimp only[go_sem];exact rfl):A:=e.mpr k
theorem Y4v {A:Prop}(k:A:=by simp-dsimp only[go_sem]):A:=k
theorem W4x {A B p:Prop}(x:p)(k:B)(e:p->A=B:=by intro h;simp-dsimp only[go_sem,h];exact rfl):A:=(e x).mpr k
theorem W4w {A B p q:Prop}(x:p)(y:q)(k:B)(e:p->q->A=B:=by intro h i;simp-dsimp only[go_sem,h,i];exact rfl):A:=(e x y).mpr k
theorem W4v {A B p q r:Prop}(x:p)(y:q)(z:r)(k:B)(e:p->q->r->A=B:=by intro h i j;simp-dsimp only[go_sem,h,i,j];exact rfl):A:=(e x y z).mpr k
theorem gkT {b:Bool}{x y:Prop}(h1:b=true->x)(h2:b=false->y):GK (some b) true x y:=by cases b<;>simp_all [GK,GK0]
theorem gkF {b:Bool}{x y:Prop}(h1:b=false->x)(h2:b=true->y):GK (some b) false x y:=by cases b<;>simp_all [GK,GK0]
section
variable {P:Program} {E:Ent} {Q:Exit->PFS->Prop} {s:PFS} {K:PFS->Prop} {d:Option Tmp} {ty:TypeId} {pos:String} {af:Array Edge} {gd:Option (Nat×Bool)}
@[go_sem] theorem X4s :VC P E .skip Q s=Q .normal s:=(rfl)
@[go_sem] theorem Q4a {l:Nat} :VC P E (.label l) Q s=Q .normal s:=(rfl)
@[go_sem] theorem w2r {id:Nat}{ops:Array Oper}{d:Bool}{y:Code} :VC P E (.seq (.region id ops d) y) Q s=VC P E (.region id ops d) (eth (VC P E y Q) Q) s:=(rfl)
@[go_sem] theorem x3u {x z:Code}{y:Code} :VC P E (.seq (.seq x z) y) Q s=VC P E (.seq x z) (eth (seqB P E (Z0r (.seq x z)) y Q) Q) s:=by
 have e:k0z P E (Z0r (.seq x z)) y Q=if Z0r (.seq x z) then PWP P E y Q else VC0 P E y Q:=by funext s;unfold k0z;split<;>rfl
 show VC0 P E (.seq (.seq x z) y) Q s=VC0 P E (.seq x z) (x0s (k0z P E (Z0r (.seq x z)) y Q) Q) s;rw[e];rfl
@[go_sem] theorem U3q {c:Operand}{x z:Code}{y:Code} :VC P E (.seq (.cond c x z) y) Q s=VC P E (.cond c x z) (eth (seqB P E (Z0r (.cond c x z)) y Q) Q) s:=by
 have e:k0z P E (Z0r (.cond c x z)) y Q=if Z0r (.cond c x z) then PWP P E y Q else VC0 P E y Q:=by funext s;unfold k0z;split<;>rfl
 show VC0 P E (.seq (.cond c x z) y) Q s=VC0 P E (.cond c x z) (x0s (k0z P E (Z0r (.cond c x z)) y Q) Q) s;rw[e];rfl
@[go_sem] theorem W3c {x:Code}{y:Code} :VC P E (.seq (.scope x) y) Q s=VC P E (.scope x) (eth (seqB P E (Z0r (.scope x)) y Q) Q) s:=by
 have e:k0z P E (Z0r (.scope x)) y Q=if Z0r (.scope x) then PWP P E y Q else VC0 P E y Q:=by funext s;unfold k0z;split<;>rfl
 show VC0 P E (.seq (.scope x) y) Q s=VC0 P E (.scope x) (x0s (k0z P E (Z0r (.scope x)) y Q) Q) s;rw[e];rfl
@[go_sem] theorem U3o {x:Code}{y:Code} :VC P E (.seq (.loop x) y) Q s=VC P E (.loop x) (eth (seqB P E (Z0r (.loop x)) y Q) Q) s:=by
 have e:k0z P E (Z0r (.loop x)) y Q=if Z0r (.loop x) then PWP P E y Q else VC0 P E y Q:=by funext s;unfold k0z;split<;>rfl
 show VC0 P E (.seq (.loop x) y) Q s=VC0 P E (.loop x) (x0s (k0z P E (Z0r (.loop x)) y Q) Q) s;rw[e];rfl
@[go_sem] theorem W3e {id:Nat}{x y:Code} :VC P E (.seq (.block id x) y) Q s=VC P E (.block id x) (eth (seqB P E (Z0r x) y Q) Q) s:=by
 have e:k0z P E (Z0r x) y Q=if Z0r x then PWP P E y Q else VC0 P E y Q:=by funext s;unfold k0z;split<;>rfl
 show VC0 P E (.seq (.block id x) y) Q s=VC0 P E (.block id x) (x0s (k0z P E (Z0r x) y Q) Q) s;rw[e];rfl
@[go_sem] theorem k3h {y:Code} :seqB P E true y Q s=PW P E y Q s:=(rfl)
@[go_sem] theorem x3w {y:Code} :seqB P E false y Q s=VC P E y Q s:=(rfl)
@[go_sem] theorem q3n {x y:Code} :Z0r (.seq x y)=(Z0r x||Z0r y):=(rfl)
@[go_sem] theorem Y3g {c:Operand}{x y:Code} :Z0r (.cond c x y)=(Z0r x||Z0r y):=(rfl)
@[go_sem] theorem J3h {id:Nat}{x:Code} :Z0r (.block id x)=Z0r x:=(rfl)
@[go_sem] theorem J3f {x:Code} :Z0r (.scope x)=Z0r x:=(rfl)
@[go_sem] theorem Y3e {x:Code} :Z0r (.loop x)=true:=(rfl)
@[go_sem] theorem w2l {id:Nat}{ops:Array Oper}{d:Bool} :Z0r (.region id ops d)=false:=(rfl)
@[go_sem] theorem Y3d :Z0r .skip=false:=(rfl)
@[go_sem] theorem q3o :Z0r .ret=false:=(rfl)
@[go_sem] theorem Y3f {id:Nat} :Z0r (.exit id)=false:=(rfl)
@[go_sem] theorem J3g {l:Nat} :Z0r (.label l)=false:=(rfl)
attribute [go_sem] Bool.or_false Bool.false_or Bool.or_true Bool.true_or
@[go_sem] theorem U3n {y:Code} :VC P E (.seq .skip y) Q s=VC P E .skip (eth (VC P E y Q) Q) s:=(rfl)
@[go_sem] theorem W3d {l:Nat}{y:Code} :VC P E (.seq (.label l) y) Q s=VC P E (.label l) (eth (VC P E y Q) Q) s:=(rfl)
@[go_sem] theorem U3p {id:Nat}{y:Code} :VC P E (.seq (.exit id) y) Q s=VC P E (.exit id) (eth (VC P E y Q) Q) s:=(rfl)
@[go_sem] theorem x3v {y:Code} :VC P E (.seq .ret y) Q s=VC P E .ret (eth (VC P E y Q) Q) s:=(rfl)
@[go_sem] theorem y3z {x:Code} :VC P E (.scope x) Q s=VC P E x (esc Q) s:=(rfl)
@[go_sem] theorem j3t {id:Nat}{l:List Oper} :VC P E (.region id l.toArray false) Q s=OL P l l (Q .normal) s:=(rfl)
@[go_sem] theorem X4v {id:Nat}{ops:Array Oper} :VC P E (.region id ops true) Q s=PW P E (.region id ops true) Q s:=(rfl)
@[go_sem] theorem X4w {c:Operand}{x y:Code} :VC P E (.cond c x y) Q s=CK (s.ev c) (VC P E x Q s) (VC P E y Q s):=(rfl)
@[go_sem] theorem Q4b {id:Nat}{c:Code} :VC P E (.block id c) Q s=VC P E c (ebl id Q) s:=(rfl)
@[go_sem] theorem X4u {id:Nat} :VC P E (.exit id) Q s=Q (.exit id) s:=(rfl)
@[go_sem] theorem W4s :VC P E .ret Q s=Q .ret s:=(rfl)
@[go_sem] theorem X4t {c:Code} :VC P E (.loop c) Q s=PW P E (.loop c) Q s:=(rfl)
@[go_sem] theorem Y3o {K:PFS->Prop} :eth K Q .normal s=K s:=(rfl)
@[go_sem] theorem w3f {K:PFS->Prop} :eth K Q .ret s=Q .ret s:=(rfl)
@[go_sem] theorem j3d {K:PFS->Prop}{id:Nat} :eth K Q (.exit id) s=Q (.exit id) s:=(rfl)
@[go_sem] theorem K3f {K:PFS->Prop} :x0s K Q .normal s=K s:=(rfl)
@[go_sem] theorem j3c {K:PFS->Prop} :x0s K Q .ret s=Q .ret s:=(rfl)
@[go_sem] theorem z3a {K:PFS->Prop}{id:Nat} :x0s K Q (.exit id) s=Q (.exit id) s:=(rfl)
@[go_sem] theorem K3g :esc Q .normal s=Q .normal s:=(rfl)
@[go_sem] theorem j3e :esc Q .ret s=Q .ret s:=(rfl)
@[go_sem] theorem z3b {id:Nat} :esc Q (.exit id) s=Q (.exit id) s:=(rfl)
@[go_sem] theorem z3i {id:Nat} :ebl id Q .normal s=Q .normal s:=(rfl)
@[go_sem] theorem Z4h {id:Nat} :ebl id Q .ret s=Q .ret s:=(rfl)
@[go_sem] theorem w3r {id:Nat} :ebl id Q (.exit id) s=Q .normal s:=by simp[ebl,eblk]
theorem v1l {id id':Nat}(h:id'≠id):ebl id Q (.exit id') s=Q (.exit id') s:=by simp[ebl,eblk,h]
attribute [go_sem] v1l
@[go_sem] theorem W4r {x y:Prop} :CK (.sc (.bool true)) x y=x:=by simp[CK,CK0]
@[go_sem] theorem X4r {x y:Prop} :CK (.sc (.bool false)) x y=y:=by simp[CK,CK0]
@[go_sem] theorem U4e {x y:Prop} :GK (some true) true x y=x:=by simp[GK,GK0]
@[go_sem] theorem U4f {x y:Prop} :GK (some true) false x y=y:=by simp[GK,GK0]
@[go_sem] theorem U4g {x y:Prop} :GK (some false) true x y=y:=by simp[GK,GK0]
@[go_sem] theorem U4h {x y:Prop} :GK (some false) false x y=x:=by simp[GK,GK0]
@[go_sem] theorem Y4p {ops:List Oper} :OL P ops [] K s=K s:=(rfl)
@[go_sem] theorem W4l {ops rest:List Oper}{op:Op} :OL P ops (⟨d,op,ty,pos,af,none⟩::rest) K s=OC P ⟨d,op,ty,pos,af,none⟩ (OL P ops rest K) s:=(rfl)
@[go_sem] theorem W4k {ops rest:List Oper}{op:Op}{j:Nat}{want:Bool} :OL P ops (⟨d,op,ty,pos,af,some (j,want)⟩::rest) K s=
 GK (X0d ops s j want) want (OC P ⟨d,op,ty,pos,af,some (j,want)⟩ (OL P ops rest K) s) (OL P ops rest K (s.put d (.tup []))):=rfl
def Y4z (ops:List Oper)(j:Nat):Option Tmp:=(ops[j]?).bind (·.dst)
@[go_sem] theorem q3q {ops:List Oper}{j:Nat}{want:Bool} :X0d ops s j want=match (ops[j]?).bind (·.dst) with | some t=>gv (s.pa.getD t .junk) want | none=>none:=by
 unfold X0d;cases h:ops[j]? with
 | none=>rfl
 | some o=>cases h2:o.dst with
  | none=>simp only[Option.bind_some,h2]
  | some t=>simp only[Option.bind_some,h2]
@[go_sem] theorem K4b {b want:Bool} :gv (.sc (.bool b)) want=some b:=(rfl)
@[go_sem] theorem Q4q {want:Bool} :gv (.tup []) want=some (!want):=(rfl)
@[go_sem] theorem W4o {x:Operand} :OC P ⟨d,.move x,ty,pos,af,gd⟩ K s=K (s.put d (s.ev x)):=(rfl)
@[go_sem] theorem y3v {x:Operand} :OC P ⟨d,.assign x,ty,pos,af,gd⟩ K s=K (s.put d (s.ev x)):=(rfl)
@[go_sem] theorem W4n {c x y:Operand} :OC P ⟨d,.pick c x y,ty,pos,af,gd⟩ K s=ReqK s (fun p s'=>K (s'.put d p)) (V1l (s.ev c) (s.ev x) (s.ev y)):=(rfl)
@[go_sem] theorem X4p {t:TypeId} :OC P ⟨d,.alloc t,ty,pos,af,gd⟩ K s=ReqK s (fun p s'=>K (s'.put d p)) (w0l (ti P t)):=(rfl)
@[go_sem] theorem Y4q {t:TypeId}{x:Operand} :OC P ⟨d,.box t x,ty,pos,af,gd⟩ K s=ReqK s (fun p s'=>K (s'.put d p)) (v2c (s.ev x)):=(rfl)
@[go_sem] theorem X4o {t:TypeId}{l:List (Nat×Operand)} :OC P ⟨d,.build t l.toArray,ty,pos,af,gd⟩ K s=ReqK s (fun p s'=>K (s'.put d p)) (w0k (ti P t) (l.map fun x=>(x.1,s.ev x.2))):=(rfl)
@[go_sem] theorem V3y {t:TypeId}{n:Nat}{l:List (Nat×Operand)} :OC P ⟨d,.buildSlice t n l.toArray,ty,pos,af,gd⟩ K s=ReqK s (fun p s'=>K (s'.put d p)) (V0w (ti P t) n (l.map fun x=>(x.1,s.ev x.2))):=(rfl)
@[go_sem] theorem W4p {t:TypeId}{x:Operand} :OC P ⟨d,.load t x,ty,pos,af,gd⟩ K s=ReqK s (fun p s'=>K (s'.put d p)) (j0o (ti P t) (s.ev x)):=(rfl)
@[go_sem] theorem X4k {t:TypeId}{x y:Operand} :OC P ⟨d,.store t x y,ty,pos,af,gd⟩ K s=ReqK s (fun p s'=>K (s'.put d p)) (v0o (ti P t) (s.ev x) (s.ev y)):=(rfl)
@[go_sem] theorem x3p {x:Operand} :OC P ⟨d,.nilCheck x,ty,pos,af,gd⟩ K s=ReqK s (fun p s'=>K (s'.put d p)) (Q2f (s.ev x)):=(rfl)
@[go_sem] theorem W4m {op:UnOp}{t:TypeId}{x:Operand} :OC P ⟨d,.unOp op t x,ty,pos,af,gd⟩ K s=ReqK s (fun p s'=>K (s'.put d p)) (unPV op (s.ev x)):=(rfl)
@[go_sem] theorem j3m {t u:TypeId}{x:Operand} :OC P ⟨d,.convert t u x,ty,pos,af,gd⟩ K s=ReqK s (fun p s'=>K (s'.put d p)) (Y1d (ti P t) (ti P u) (s.ev x)):=(rfl)
@[go_sem] theorem U3e {t:TypeId}{x:Operand}{f:Nat} :OC P ⟨d,.fieldAddr t x f,ty,pos,af,gd⟩ K s=ReqK s (fun p s'=>K (s'.put d p)) (J0j (ti P t) (s.ev x) f):=(rfl)
@[go_sem] theorem X4n {t:TypeId}{x:Operand}{f:Nat} :OC P ⟨d,.field t x f,ty,pos,af,gd⟩ K s=ReqK s (fun p s'=>K (s'.put d p)) (w0i (ti P t) (s.ev x) f):=(rfl)
@[go_sem] theorem U3d {t:TypeId}{x i:Operand} :OC P ⟨d,.indexAddr t x i,ty,pos,af,gd⟩ K s=ReqK s (fun p s'=>K (s'.put d p)) (W0u (ti P t) (s.ev x) (s.ev i)):=(rfl)
@[go_sem] theorem X4m {t:TypeId}{x i:Operand} :OC P ⟨d,.index t x i,ty,pos,af,gd⟩ K s=ReqK s (fun p s'=>K (s'.put d p)) (w0c (ti P t) (s.ev x) (s.ev i)):=(rfl)
@[go_sem] theorem X4l {t:TypeId}{x:Operand}{lo hi mx:Option Operand} :OC P ⟨d,.slice t x lo hi mx,ty,pos,af,gd⟩ K s=ReqK s (fun p s'=>K (s'.put d p)) (v0p (ti P t) (s.ev x) (lo.map s.ev) (hi.map s.ev) (mx.map s.ev)):=(rfl)
@[go_sem] theorem x3q {f:Fn}{bs cs:List Operand} :OC P ⟨d,.makeFunc f bs.toArray cs.toArray,ty,pos,af,gd⟩ K s=K (s.put d (.fn f (bs.map s.ev) (cs.map s.ev))):=(rfl)
@[go_sem] theorem U3c {t:TypeId}{x y:Operand} :OC P ⟨d,.makeSlice t x y,ty,pos,af,gd⟩ K s=ReqK s (fun p s'=>K (s'.put d p)) (H0c P t (s.ev x) (s.ev y)):=(rfl)
def v1g (x:PV)(i:Nat):Req:=match x with | .tup vs=>if i<vs.length then .val (vs.getD i .junk) else .fail | _=> .fail
@[go_sem] theorem j3l {x:Operand}{i:Nat} :OC P ⟨d,.extract x i,ty,pos,af,gd⟩ K s=ReqK s (fun p s'=>K (s'.put d p)) (v1g (s.ev x) i):=(rfl)
@[go_sem] theorem j3o {b:Builtin}{l:List Operand}{ts:List TypeId} :OC P ⟨d,.call ⟨.builtin b,l.toArray,ts.toArray⟩,ty,pos,af,gd⟩ K s=ReqK s (fun p s'=>K (s'.put d p)) (Y0r P b ts (l.map s.ev)):=(rfl)
def BK0 (P:Program)(op:BinOp)(t:TypeId)(x y:Operand)(ty:TypeId)(s:PFS)(K:PV->PFS->Prop):Prop:=
 match U0y P (.binOp op t x y ty) s.ev with
 | some (ne,es)=> ∀b:Bool,(b=true->es= [])->K (.sc (.bool (b !=ne))) s
 | none=>J1l s K (J0s op (ti P t) (s.ev x) (s.ev y))
theorem y1n {K:PV->PFS->Prop}{r:Req}{p:PV}{s':PFS}(h:r.run s=some (p,s'))(hk:K p s'):J1l s K r:=by
 cases r with
 | val v=>cases h;exact hk
 | need c v=>
  simp only[Req.run] at h;by_cases hc:c=true;rw[if_pos hc] at h;cases h;exact⟨hc,hk⟩;rw[if_neg hc] at h;cases h
 | load gl i off n agg=>
  simp only[Req.run] at h;by_cases hc:off+n<=((if gl then s.st else s.L).getD i []).length;rw[if_pos hc] at h;cases h;exact⟨hc,hk⟩;rw[if_neg hc] at h;cases h
 | store gl i off cs=>
  simp only[Req.run] at h;by_cases hc:off+cs.length<=((if gl then s.st else s.L).getD i []).length/\0<((if gl then s.st else s.L).getD i []).length;rw[if_pos hc] at h;cases h;exact⟨hc,hk⟩;rw[if_neg hc] at h;cases h
 | box cs=>cases h;exact hk
 | mks cs len=>cases h;exact hk
 | newsl es=>cases h;exact hk
 | app t es ys e=>
  simp only[Req.run] at h;split at h;rename_i hc;refine⟨hc,?_⟩;cases t with
  | own k=>
   simp only at h;by_cases hT:s.T.getD k (0,0)=(es.length,e.sz);rw[if_pos hT] at h;cases h;exact⟨hT,hk⟩;rw[if_neg hT] at h;cases h
  | full=>
   simp only at h;by_cases hT:es.length=0\/0<ys.length;rw[if_pos hT] at h;cases h;exact⟨hT,hk⟩;rw[if_neg hT] at h;cases h
  | _=>cases h
  cases h
 | fail=>cases h
theorem y3s {op:BinOp}{t u:TypeId}{x y:Operand}(h:BK0 P op t x y u s (fun p s'=>K (s'.put d p))):PO P ⟨d,.binOp op t x y u,ty,pos,af,gd⟩ K s:=by unfold BK0 at h;unfold PO;simp only;split;rename_i hn;rw[hn] at h;exact h;rename_i hn;rw[hn] at h;obtain⟨p,s',hr,hk⟩:=Z1n h;have e2:K0h (.binOp op t x y u) s.ev=none:=rfl;simp only[e2,w0y,req,hr];exact hk
theorem y3g {op:BinOp}{t u:TypeId}{x y:Operand}(h:PO P ⟨d,.binOp op t x y u,ty,pos,af,gd⟩ K s):BK0 P op t x y u s (fun p s'=>K (s'.put d p)):=by unfold PO at h;unfold BK0;simp only at h;split;rename_i hn;rw[hn] at h;exact h;rename_i hn;rw[hn] at h;have e2:K0h (.binOp op t x y u) s.ev=none:=rfl;simp only[e2,w0y,req] at h;split at h;rename_i s' hs;split at hs;rename_i p s1 hr;cases hs;exact y1n hr h;cases hs;exact h.elim
theorem x3s {op:BinOp}{t u:TypeId}{x y:Operand} :OC0 P ⟨d,.binOp op t x y u,ty,pos,af,gd⟩ K s=BK0 P op t x y u s (fun p s'=>K (s'.put d p)):=by cases op<;>first | rfl | exact propext ⟨y3g,y3s⟩
def CC0 (P:Program)(f:PV)(as:List PV)(s:PFS)(K:PV->Q0f->Prop):Prop:=
 match f with
 | .fn (.func g) bs cs=>(bs++as++cs).all PV.closed2=true/\CallsOr P g ((bs++as++cs).map PV.forget2) s.st K
 | _=>False
theorem x3r {f:Operand}{l:List Operand}{ts:Array TypeId}(h:CC0 P (s.ev f) (l.map s.ev) s (fun r st=>K (s.recv d r st))):OC0 P ⟨d,.call ⟨.value f,l.toArray,ts⟩,ty,pos,af,gd⟩ K s:=by unfold OC0;simp only[V1j];unfold PO;have e1:U0y P (.call ⟨.value f,l.toArray,ts⟩) s.ev=none:=rfl;simp only[e1,K0h];unfold CC0 at h;split at h;rename_i g bs cs hf;simp only[hf];exact h;exact h.elim
theorem x3d {f:Operand}{l:List Operand}{ts:Array TypeId}(h:OC0 P ⟨d,.call ⟨.value f,l.toArray,ts⟩,ty,pos,af,gd⟩ K s):CC0 P (s.ev f) (l.map s.ev) s (fun r st=>K (s.recv d r st)):=by unfold OC0 at h;simp only[V1j] at h;unfold PO at h;have e1:U0y P (.call ⟨.value f,l.toArray,ts⟩) s.ev=none:=rfl;simp only[e1,K0h] at h;unfold CC0;split;rename_i g bs cs hf;simp only[hf] at h;exact h;rename_i hn;split at h;rename_i g' bs cs hf;split at hf;rename_i f' bs' cs' hf';exact absurd hf' (hn _ _ _);cases hf;simp only[w0y,req,Req.run] at h
theorem Z2z {f:Operand}{l:List Operand}{ts:Array TypeId} :OC0 P ⟨d,.call ⟨.value f,l.toArray,ts⟩,ty,pos,af,gd⟩ K s=CC0 P (s.ev f) (l.map s.ev) s (fun r st=>K (s.recv d r st)):=propext ⟨x3d,x3r⟩
theorem U3f {g:FuncId}{bs cs as:List PV}{K:PV->Q0f->Prop} :CC0 P (.fn (.func g) bs cs) as s K=((bs++as++cs).all PV.closed2=true/\CallsOr P g ((bs++as++cs).map PV.forget2) s.st K):=(rfl)
def BK (P:Program)(op:BinOp)(t:TypeId)(x y:Operand)(ty:TypeId)(s:PFS)(K:PV->PFS->Prop)[Stop K]:Prop:=
 match U0y P (.binOp op t x y ty) s.ev with
 | some (ne,es)=> ∀b:Bool,(b=true->es= [])->K (.sc (.bool (b !=ne))) s
 | none=>ReqK s K (J0s op (ti P t) (s.ev x) (s.ev y))
def CC (P:Program)(f:PV)(as:List PV)(s:PFS)(K:PV->Q0f->Prop)[Stop K]:Prop:=CC0 P f as s K
@[go_sem] theorem Y4r {op:BinOp}{t u:TypeId}{x y:Operand} :OC P ⟨d,.binOp op t x y u,ty,pos,af,gd⟩ K s=BK P op t x y u s (fun p s'=>K (s'.put d p)):=x3s
@[go_sem] theorem j3n {f:Operand}{l:List Operand}{ts:Array TypeId} :OC P ⟨d,.call ⟨.value f,l.toArray,ts⟩,ty,pos,af,gd⟩ K s=CC P (s.ev f) (l.map s.ev) s (fun r st=>K (s.recv d r st)):=Z2z
@[go_sem] theorem U4i {g:FuncId}{bs cs as:List PV}{K:PV->Q0f->Prop}(hc:Q0c P g=true):CC P (.fn (.func g) bs cs) as s K=((bs++as++cs).all PV.closed2=true/\PC P g ((bs++as++cs).map PV.forget2) s.st K):=by show CC0 P _ _ _ _=_;rw[U3f,CallsOr,if_pos hc];rfl
@[go_sem] theorem Y4t {g:FuncId}{bs cs as:List PV}{K:PV->Q0f->Prop}(hc:Q0c P g=false):CC P (.fn (.func g) bs cs) as s K=((bs++as++cs).all PV.closed2=true/\EC P g ((bs++as++cs).map PV.forget2) s.st K):=by show CC0 P _ _ _ _=_;rw[U3f,CallsOr,if_neg (by rw[hc];decide)];rfl
section
variable {K:PV->PFS->Prop}
@[go_sem] theorem Y4j {v:PV} :ReqK s K (.val v)=K v s:=(rfl)
@[go_sem] theorem V4v {c:Bool}{v:PV} :ReqK s K (.need c v)=(c=true/\K v s):=(rfl)
@[go_sem] theorem X4c {i off n:Nat}{agg:Bool} :ReqK s K (.load false i off n agg)=(off+n<=(s.L.getD i []).length/\K (if agg then .agg (((s.L.getD i []).drop off).take n) else(s.L.getD i []).getD off .junk) s):=(rfl)
@[go_sem] theorem X4d {i off n:Nat}{agg:Bool} :ReqK s K (.load true i off n agg)=(off+n<=(s.st.getD i []).length/\K (if agg then .agg (((s.st.getD i []).drop off).take n) else(s.st.getD i []).getD off .junk) s):=(rfl)
@[go_sem] theorem y3m {i off:Nat}{cs:List PV} :ReqK s K (.store false i off cs)=((off+cs.length<=(s.L.getD i []).length/\0<(s.L.getD i []).length)/\K .junk { s with L:=s.L.set i (over (s.L.getD i []) off cs) }):=(rfl)
@[go_sem] theorem y3n {i off:Nat}{cs:List PV} :ReqK s K (.store true i off cs)=((off+cs.length<=(s.st.getD i []).length/\0<(s.st.getD i []).length)/\K .junk { s with st:=s.st.set i (over (s.st.getD i []) off cs) }):=(rfl)
@[go_sem] theorem Y4l {cs:List PV} :ReqK s K (.box cs)=K (.lp s.L.length 0) { s with L:=s.L++ [cs] } :=(rfl)
@[go_sem] theorem Y4k {cs:List PV}{len:Nat} :ReqK s K (.mks cs len)=K (.ms false s.L.length 0 len) { s with L:=s.L++ [cs] } :=(rfl)
@[go_sem] theorem X4b {es:List PV} :ReqK s K (.newsl es)=K (.sl .full es) s:=(rfl)
def X2a (es ys:List PV)(e:EI):Prop:=e.zok=true/\es.length+ys.length<=1152921504606846976/\(es.length+ys.length)*e.by_<=140737488355328/\
 es.all (fun x=>x.cells.length==e.sz)=true/\ys.all (fun x=>(x.cells.length==e.sz)&&x.cells.all PV.cellOK)=true
@[go_sem] theorem V4w {k:Nat}{es ys:List PV}{e:EI} :ReqK s K (.app (.own k) es ys e)=(X2a es ys e/\s.T.getD k (0,0)=(es.length,e.sz)/\K (.sl (.own k) (es++ys)) { s with T:=s.T.set k (es.length+ys.length,e.sz) }):=(rfl)
@[go_sem] theorem V4x {es ys:List PV}{e:EI} :ReqK s K (.app .full es ys e)=(X2a es ys e/\(es.length=0\/0<ys.length)/\K (.sl (.own s.T.length) (es++ys)) { s with T:=s.T++ [(es.length+ys.length,e.sz)] }):=(rfl)
@[go_sem high] theorem X4f {ys:List PV}{e:EI} :ReqK s K (.app .full [] ys e)=(X2a [] ys e/\K (.sl (.own s.T.length) ([]++ys)) { s with T:=s.T++ [(([]:List PV).length+ys.length,e.sz)] }):=by show(X2a [] ys e/\(([]:List PV).length=0\/0<ys.length)/\_)=_;simp only[List.length_nil,true_or,true_and]
@[go_sem high] theorem X4e {es ys:List PV}{y:PV}{e:EI} :ReqK s K (.app .full es (y::ys) e)=(X2a es (y::ys) e/\K (.sl (.own s.T.length) (es++y::ys)) { s with T:=s.T++ [(es.length+(y::ys).length,e.sz)] }):=by show(X2a es (y::ys) e/\(es.length=0\/0<(y::ys).length)/\_)=_;simp only[List.length_cons,Nat.succ_pos,or_true,true_and]
theorem y3o {c:Prop}[Decidable c]{r:Req} :ReqK s K (if c then r else .fail)=(c/\ReqK s K r):=by by_cases h:c;rw[if_pos h];simp[h];rw[if_neg h];simp only[ReqK,J1l,h,false_and]
attribute [go_sem] y3o
end
section
variable {pa:List PV} {L st:Q0f} {T:List (Nat×Nat)}
@[go_sem] theorem Q4i {t:Tmp}{v:PV} :(PFS.mk pa L T st).put (some t) v=⟨pa.set t v,L,T,st⟩:=(rfl)
@[go_sem] theorem Q4j {v:PV} :(PFS.mk pa L T st).put none v=⟨pa,L,T,st⟩:=(rfl)
@[go_sem] theorem Y4c {t:Tmp} :(PFS.mk pa L T st).ev (.tmp t)=pa.getD t .junk:=(rfl)
@[go_sem] theorem Q4v {v:Value} :(PFS.mk pa L T st).ev (.const v)=pvOf v:=(rfl)
@[go_sem] theorem K4m {f:FuncId} :(PFS.mk pa L T st).ev (.func f)= .fn (.func f) [] []:=(rfl)
@[go_sem] theorem x3x {d:Option Tmp}{sz:Nat}{es:List PV}{st':Q0f} :(PFS.mk pa L T st).recv d (.sl (.fresh sz) es) st'=(PFS.mk pa L (T++ [(es.length,sz)]) st').put d (.sl (.own T.length) es):=(rfl)
@[go_sem] theorem J4e {d:Option Tmp}{es:List PV}{st':Q0f} :(PFS.mk pa L T st).recv d (.sl .no es) st'=(PFS.mk pa L T st').put d (.sl .no es):=(rfl)
@[go_sem] theorem J4d {d:Option Tmp}{v:Value}{st':Q0f} :(PFS.mk pa L T st).recv d (.sc v) st'=(PFS.mk pa L T st').put d (.sc v):=(rfl)
@[go_sem] theorem Q4d {d:Option Tmp}{v:List PV}{st':Q0f} :(PFS.mk pa L T st).recv d (.agg v) st'=(PFS.mk pa L T st').put d (.agg v):=(rfl)
@[go_sem] theorem Q4c {d:Option Tmp}{v:List PV}{st':Q0f} :(PFS.mk pa L T st).recv d (.tup v) st'=(PFS.mk pa L T st').put d (.tup v):=(rfl)
@[go_sem] theorem J4h {d:Option Tmp}{i o:Nat}{st':Q0f} :(PFS.mk pa L T st).recv d (.gp i o) st'=(PFS.mk pa L T st').put d (.gp i o):=(rfl)
end
end
@[go_sem] theorem k3v {b:Bool} :pvOf (.bool b)= .sc (.bool b):=(rfl)
@[go_sem] theorem Q4g {k:IntKind}{n:Int} :pvOf (.int k n)= .sc (.int k n):=(rfl)
@[go_sem] theorem G3z {s:ByteArray} :pvOf (.string s)= .sc (.string s):=(rfl)
@[go_sem] theorem Q4e {a:Option Addr} :pvOf (.pointer a)= .sc (.pointer a):=(rfl)
@[go_sem] theorem Q4f :pvOf (.slice none 0 0)= .sl .full []:=(rfl)
@[go_sem] theorem W3r :pvOf .nilFunc= .sc .nilFunc:=(rfl)
@[go_sem] theorem Q4h {l:List Value} :pvOf (.agg l.toArray)= .agg (l.map v0a):=by simp[pvOf]
@[go_sem] theorem x3y {b:Bool} :v0a (.bool b)= .sc (.bool b):=(rfl)
@[go_sem] theorem k3y {k:IntKind}{n:Int} :v0a (.int k n)= .sc (.int k n):=(rfl)
@[go_sem] theorem W3s {s:ByteArray} :v0a (.string s)= .sc (.string s):=(rfl)
@[go_sem] theorem k3w {a:Option Addr} :v0a (.pointer a)= .sc (.pointer a):=(rfl)
@[go_sem] theorem k3x :v0a (.slice none 0 0)= .sl .full []:=(rfl)
@[go_sem] theorem Q3r :v0a .nilFunc= .sc .nilFunc:=(rfl)
@[go_sem] theorem y3d {cs:List PV} :(PV.agg cs).cells=cs:=(rfl)
@[go_sem] theorem Z4l {v:Value} :(PV.sc v).cells= [.sc v]:=(rfl)
@[go_sem] theorem Z4k {t:Tag}{es:List PV} :(PV.sl t es).cells= [.sl t es]:=(rfl)
@[go_sem] theorem Z4m {g:Bool}{i o n:Nat} :(PV.ms g i o n).cells= [.ms g i o n]:=(rfl)
@[go_sem] theorem Z4n {i o:Nat} :(PV.lp i o).cells= [.lp i o]:=(rfl)
@[go_sem] theorem Z4p {i o:Nat} :(PV.gp i o).cells= [.gp i o]:=(rfl)
@[go_sem] theorem Z4r {cs:List PV}{o:Nat} :(PV.ep cs o).cells= [.ep cs o]:=(rfl)
@[go_sem] theorem Z4q {f:Fn}{bs cs:List PV} :(PV.fn f bs cs).cells= [.fn f bs cs]:=(rfl)
@[go_sem] theorem y3c {es:List PV}{n:Nat} :(PV.pre es n).cells= [.pre es n]:=(rfl)
@[go_sem] theorem j3i :PV.junk.cells= [.junk]:=(rfl)
@[go_sem] theorem y3a {vs:List PV} :(PV.tup vs).cells= [.tup vs]:=(rfl)
attribute [go_sem] PV.cellOK Value.oneCell' PV.closed2 PV.closed1 PV.closed PV.forget2 PV.forget1 PV.forgetAll
@[go_sem] theorem V4r {T:Option TI}{k:IntKind}{a b:Int} :J0s .add T (.sc (.int k a)) (.sc (.int k b))= .val (.sc (.int k (k.wrap (a+b)))):=by simp[J0s,Y0f]
@[go_sem] theorem V4e {T:Option TI}{k:IntKind}{a b:Int} :J0s .sub T (.sc (.int k a)) (.sc (.int k b))= .val (.sc (.int k (k.wrap (a-b)))):=by simp[J0s,Y0f]
@[go_sem] theorem V4k {T:Option TI}{k:IntKind}{a b:Int} :J0s .mul T (.sc (.int k a)) (.sc (.int k b))= .val (.sc (.int k (k.wrap (a*b)))):=by simp[J0s,Y0f]
@[go_sem] theorem V4i {T:Option TI}{k:IntKind}{a b:Int} :J0s .quo T (.sc (.int k a)) (.sc (.int k b))= .need (b !=0) (.sc (.int k (k.wrap (a.tdiv b)))):=by simp[J0s,Y0f]
@[go_sem] theorem V4h {T:Option TI}{k:IntKind}{a b:Int} :J0s .rem T (.sc (.int k a)) (.sc (.int k b))= .need (b !=0) (.sc (.int k (a.tmod b))):=by simp[J0s,Y0f]
@[go_sem] theorem V4q {T:Option TI}{k:IntKind}{a b:Int} :J0s .and T (.sc (.int k a)) (.sc (.int k b))= .val (.sc (.int k (bAnd k a b))):=by simp[J0s,Y0f]
@[go_sem] theorem Y4h {T:Option TI}{k:IntKind}{a b:Int} :J0s .or T (.sc (.int k a)) (.sc (.int k b))= .val (.sc (.int k (bOr k a b))):=by simp[J0s,Y0f]
@[go_sem] theorem V4d {T:Option TI}{k:IntKind}{a b:Int} :J0s .xor T (.sc (.int k a)) (.sc (.int k b))= .val (.sc (.int k (bXor k a b))):=by simp[J0s,Y0f]
@[go_sem] theorem j3j {T:Option TI}{k:IntKind}{a b:Int} :J0s .andNot T (.sc (.int k a)) (.sc (.int k b))= .val (.sc (.int k (Z2u k a b))):=by simp[J0s,Y0f]
@[go_sem] theorem V4p {T:Option TI}{k:IntKind}{a b:Int} :J0s .eql T (.sc (.int k a)) (.sc (.int k b))= .val (.sc (.bool (a==b))):=by simp[J0s,Y0f]
@[go_sem] theorem V4j {T:Option TI}{k:IntKind}{a b:Int} :J0s .neq T (.sc (.int k a)) (.sc (.int k b))= .val (.sc (.bool (a !=b))):=by simp[J0s,Y0f]
@[go_sem] theorem V4l {T:Option TI}{k:IntKind}{a b:Int} :J0s .lss T (.sc (.int k a)) (.sc (.int k b))= .val (.sc (.bool (decide (a<b)))):=by simp[J0s,Y0f]
@[go_sem] theorem V4m {T:Option TI}{k:IntKind}{a b:Int} :J0s .leq T (.sc (.int k a)) (.sc (.int k b))= .val (.sc (.bool (decide (a<=b)))):=by simp[J0s,Y0f]
@[go_sem] theorem V4n {T:Option TI}{k:IntKind}{a b:Int} :J0s .gtr T (.sc (.int k a)) (.sc (.int k b))= .val (.sc (.bool (decide (a>b)))):=by simp[J0s,Y0f]
@[go_sem] theorem V4o {T:Option TI}{k:IntKind}{a b:Int} :J0s .geq T (.sc (.int k a)) (.sc (.int k b))= .val (.sc (.bool (decide (a>=b)))):=by simp[J0s,Y0f]
@[go_sem] theorem V4g {T:Option TI}{k k':IntKind}{a b:Int} :J0s .shl T (.sc (.int k a)) (.sc (.int k' b))= .need (decide (0<=b)) (.sc (.int k (bShl k a b))):=(rfl)
@[go_sem] theorem V4f {T:Option TI}{k k':IntKind}{a b:Int} :J0s .shr T (.sc (.int k a)) (.sc (.int k' b))= .need (decide (0<=b)) (.sc (.int k (bShr k a b))):=(rfl)
@[go_sem] theorem Z4t {T:Option TI}{a b:ByteArray} :J0s .eql T (.sc (.string a)) (.sc (.string b))= .val (.sc (.bool (a.toList==b.toList))):=(rfl)
@[go_sem] theorem Z4s {T:Option TI}{a b:ByteArray} :J0s .neq T (.sc (.string a)) (.sc (.string b))= .val (.sc (.bool (!(a.toList==b.toList)))):=(rfl)
@[go_sem] theorem Z4u {T:Option TI}{a b:ByteArray} :J0s .add T (.sc (.string a)) (.sc (.string b))= .need (decide (a.size+b.size<=9223372036854775807)) (.sc (.string (a++b))):=(rfl)
@[go_sem] theorem X4a {x:Bool}{n:Nat}{z:Option Value}{a b:Bool} :J0s .eql (some ⟨x,n,.bool,z⟩) (.sc (.bool a)) (.sc (.bool b))= .val (.sc (.bool (a==b))):=(rfl)
@[go_sem] theorem Z4z {x:Bool}{n:Nat}{z:Option Value}{a b:Bool} :J0s .neq (some ⟨x,n,.bool,z⟩) (.sc (.bool a)) (.sc (.bool b))= .val (.sc (.bool (!(a==b)))):=(rfl)
@[go_sem] theorem Z4w {x:Bool}{n:Nat}{z:Option Value}{i o:Nat} :J0s .eql (some ⟨x,n,.ptr,z⟩) (.gp i o) (.sc (.pointer none))= .val (.sc (.bool false)):=(rfl)
@[go_sem] theorem Z4v {x:Bool}{n:Nat}{z:Option Value}{i o:Nat} :J0s .neq (some ⟨x,n,.ptr,z⟩) (.gp i o) (.sc (.pointer none))= .val (.sc (.bool true)):=(rfl)
@[go_sem] theorem Z4y {x:Bool}{n:Nat}{z:Option Value} :J0s .eql (some ⟨x,n,.ptr,z⟩) (.sc (.pointer none)) (.sc (.pointer none))= .val (.sc (.bool true)):=(rfl)
@[go_sem] theorem Z4x {x:Bool}{n:Nat}{z:Option Value} :J0s .neq (some ⟨x,n,.ptr,z⟩) (.sc (.pointer none)) (.sc (.pointer none))= .val (.sc (.bool false)):=(rfl)
attribute [go_sem] unPV Y1d w0i W0u w0c x0p k0j k0i k0g k0h z3n z3o v0p v1f w0k V0w Y2j v2s w1a PV.scal Y0r j0o v0o V1l Q2f w0l v2c H0c v1g U0y
def fld (x:Option (Nat×EI))(k:Nat->PV):Req:=match x with | some (o,e)=>if e.sz=0 then .fail else .val (k o) | none=> .fail
@[congr] theorem w3b {x x':Option (Nat×EI)}{k:Nat->PV}(h:x=x'):fld x k=fld x' k:=by rw[h]
@[go_sem] theorem Q4t {o i:Nat}{sz b:Nat}{a z u:Bool}{k:Nat->PV} :fld (some (o,⟨i,sz+1,b,a,z,u⟩)) k= .val (k o):=by simp[fld]
@[go_sem] theorem Y3l {a:Bool}{n f i off:Nat}{fs:List (Nat×EI)}{z:Option Value} :J0j (some ⟨a,n,.struct fs,z⟩) (.lp i off) f=fld fs[f]? (fun o=> .lp i (off+o)):=by unfold J0j fld;rfl
@[go_sem] theorem Y3m {a:Bool}{n f i off:Nat}{fs:List (Nat×EI)}{z:Option Value} :J0j (some ⟨a,n,.struct fs,z⟩) (.gp i off) f=fld fs[f]? (fun o=> .gp i (off+o)):=by unfold J0j fld;rfl
@[go_sem] theorem Y3n {a:Bool}{n f off:Nat}{cs:List PV}{fs:List (Nat×EI)}{z:Option Value} :J0j (some ⟨a,n,.struct fs,z⟩) (.ep cs off) f=fld fs[f]? (fun o=> .ep cs (off+o)):=by unfold J0j fld;rfl
attribute [go_sem] List.set_cons_succ List.set_cons_zero List.getD_cons_succ List.getD_cons_zero List.getD_nil List.drop_succ_cons List.drop_zero List.take_succ_cons List.take_zero List.length_cons List.length_nil List.cons_append List.nil_append
attribute [go_sem] List.getElem?_cons_succ List.getElem?_cons_zero List.map_cons List.map_nil List.all_cons List.all_nil BK Z1h List.replicate_succ List.replicate_zero Option.map_some Option.map_none Option.bind_some
@[go_sem] theorem Q4l {α:Type}{l:List α}{n:Nat} :over l n []=l:=by simp[over]
@[go_sem] theorem w2j {α:Type}{x y:α}{l r:List α} :over (x::l) 0 (y::r)=y::over l 0 r:=by simp[over]
@[go_sem] theorem w2k {α:Type}{x:α}{l r:List α}{n:Nat} :over (x::l) (n+1) r=x::over l n r:=by simp only[over,List.take_succ_cons,List.cons_append];rw[show n+1+r.length=(n+r.length)+1 from oG,List.drop_succ_cons]
@[go_sem] theorem y3e {P:Program}{fz:Option Nat}{fn:Func}{Q:PV->Q0f->Prop}{s:PFS} :v2f P fz fn Q .ret s= ∃r,W2p P fz s fn.results.toList=some r/\Q r s.st:=(rfl)
@[go_sem] theorem Y3w {P:Program}{fz:Option Nat}{fn:Func}{Q:PV->Q0f->Prop}{s:PFS} :v2f P fz fn Q .normal s= ∃r,W2p P fz s fn.results.toList=some r/\Q r s.st:=(rfl)
attribute [go_sem] W2p U1w j1l y0l X2a
attribute [go_sem] Option.some.injEq exists_eq_left' exists_eq_left true_and and_true q_i decide_eq_true_eq Nat.zero_add Nat.add_zero Nat.zero_mul ne_eq not_true_eq_false not_false_eq_true Bool.true_and Bool.and_true List.range_eq_range' List.range'_succ List.range'_zero List.append_nil
attribute [go_sem] Bool.not_true Bool.not_false List.length_append List.length_map Int.toNat_natCast if_true if_false Bool.false_eq_true and_self decide_true decide_false beq_self_eq_true bne_self_eq_false Nat.le_refl
theorem Q2u {α β:Type}[Inhabited α](f:α->β)(l:List α)(k:Nat)(d:β)(h:k<l.length):(l.map f).getD k d=f (l.getD k default):=by simp[q_a,h]
attribute [go_sem] Q2u
def PV.lim1 (nL nT:Nat):PV->Bool
 | .lp i _=>decide (i<nL)
 | .ms false i _ _=>decide (i<nL)
 | .mr i _ _=>decide (i<nL)
 | .sl (.own k) _=>decide (k<nT)
 | .agg _ | .tup _ | .fn _ _ _=>false
 | _=>true
def PV.lim (nL nT:Nat):PV->Bool
 | .agg cs=>cs.all (PV.lim1 nL nT)
 | .tup cs=>cs.all (PV.lim1 nL nT)
 | .fn _ bs cs=>bs.all (PV.lim1 nL nT)&&cs.all (PV.lim1 nL nT)
 | p=>p.lim1 nL nT
theorem RepF.lim1 {w g F T v p nL nT}(h:RepF w g F T v p)(hp:p.lim1 nL nT=true){F':Fr}(h1: ∀i,i<F.nl->i<nL->i<F'.nl/\F'.lmu i=F.lmu i)(h2:F'.tb=F.tb):RepF w g F' (T.take nT) v p:=by
 cases h with
 | base _ _ h=>exact .base _ _ h
 | lp i off hi=>
  obtain⟨a,b⟩:=h1 i hi (q_b hp);rw[<-b];exact .lp i off a
 | lms i off len cap hi hcap=>
  obtain⟨a,b⟩:=h1 i hi (q_b hp);rw[<-b];exact .lms i off len cap a hcap
 | lmr i len cap hi hcap=>
  obtain⟨a,b⟩:=h1 i hi (q_b hp);rw[<-b];exact .lmr i len cap a hcap
 | lmr0 i ad hi=>exact .lmr0 i ad (h1 i hi (q_b hp)).1
 | own k es v h hk hle hr=>
  have hn:k<nT:=q_b hp;have e:(T.take nT).getD k (0,0)=T.getD k (0,0):=G0a _ _ _ _ hn;exact .own k es v h (by simp;omega) (by rw[e];exact hle) (fun he=>by rw[e] at he⊢;rw[h2];exact hr he)
 | agg=>cases hp
 | tup=>cases hp
 | fn=>cases hp
theorem RepF.lim {w g F T v p nL nT}(h:RepF w g F T v p)(hp:p.lim nL nT=true){F':Fr}(h1: ∀i,i<F.nl->i<nL->i<F'.nl/\F'.lmu i=F.lmu i)(h2:F'.tb=F.tb):RepF w g F' (T.take nT) v p:=by
 cases h with
 | base _ _ h=>exact .base _ _ h
 | agg vs cs hl h=>exact .agg vs cs hl fun j hj=>(h j hj).lim1 (List.all_eq_true.1 hp _ (Q0r _ _ _ hj)) h1 h2
 | tup vs cs hl h=>exact .tup vs cs hl fun j hj=>(h j hj).lim1 (List.all_eq_true.1 hp _ (Q0r _ _ _ hj)) h1 h2
 | fn f us vs bs cs hk hl h0 h=>
  have hp:=Bool.and_eq_true_iff.1 hp;exact .fn f us vs bs cs hk hl (fun j hj=>(h0 j hj).lim1 (List.all_eq_true.1 hp.1 _ (Q0r _ _ _ hj)) h1 h2) (fun j hj=>(h j hj).lim1 (List.all_eq_true.1 hp.2 _ (Q0r _ _ _ hj)) h1 h2)
 | lp i off hi=>exact(RepF.lp (T:=T) i off hi).lim1 hp h1 h2
 | lms i off len cap hi hcap=>exact(RepF.lms (T:=T) i off len cap hi hcap).lim1 hp h1 h2
 | lmr i len cap hi hcap=>exact(RepF.lmr (T:=T) i len cap hi hcap).lim1 hp h1 h2
 | lmr0 i ad hi=>exact(RepF.lmr0 (T:=T) i ad hi).lim1 hp h1 h2
 | own k es v h hk hle hr=>exact(RepF.own k es v h hk hle hr).lim1 hp h1 h2
def z0d :List Bool->List PV->List PV
 | b::bs,p::ps=>(if b then p else .junk)::z0d bs ps
 | [],ps=>ps.map fun _=> .junk
 | _,[]=> []
theorem q0a : ∀(bs:List Bool) (ps:List PV),(z0d bs ps).length=ps.length
 | [],[]=>rfl
 | [],p::ps=>by simp[z0d]
 | b::bs,[]=>rfl
 | b::bs,p::ps=>by simp[z0d,q0a bs ps]
theorem G1d : ∀(bs:List Bool) (ps:List PV) (j:Nat),(z0d bs ps).getD j .junk=ps.getD j .junk\/(z0d bs ps).getD j .junk= .junk
 | [],ps,j=>by refine .inr ?_;simp only[z0d,q_a,List.getElem?_map];cases ps[j]?<;>rfl
 | b::bs,[],j=> .inl rfl
 | b::bs,p::ps,j=>by
  cases j with
  | zero=>cases b with
   | true=>exact .inl rfl
   | false=>exact .inr rfl
  | succ j=>simpa[z0d] using G1d bs ps j
def PFS.mask (bs:List Bool)(nL nT:Nat)(s:PFS):PFS:=⟨z0d bs s.pa,s.L.take nL,s.T.take nT,s.st⟩
def PFS.maskOK (bs:List Bool)(nL nT:Nat)(s:PFS):Prop:=(z0d bs s.pa).all (PV.lim nL nT)=true/\(s.L.take nL).all (fun o=>o.all (PV.lim nL nT))=true
theorem U0f {L:Q0f}{nL i:Nat}(h:(L.take nL).getD i []≠ []):i<nL/\(L.take nL).getD i []=L.getD i []:=by by_cases hi:i<nL;exact⟨hi,G0a _ _ _ _ hi⟩;exfalso;apply h;rw[q_a,List.getElem?_eq_none (by simp;omega)];rfl
theorem K1g {E:Ent}{bs:List Bool}{nL nT:Nat}{s:PFS}(hm:s.maskOK bs nL nT):Weak E s (s.mask bs nL nT):=by
 intro a w g F h
 let F':Fr:=⟨min nL F.nl,F.lmu,F.tb⟩
 have hnl:=h.frame.nl;have h1: ∀i,i<F.nl->i<nL->i<F'.nl/\F'.lmu i=F.lmu i:=fun i a b=>⟨by simp only[F'];omega,rfl⟩;refine⟨g,F',h.ext,h.store,⟨by simp[F',PFS.mask,hnl],fun i hi=> ?_,fun i hi=> ?_,fun i j hi hj=> ?_,fun i hi=> ?_,fun k b hk hb=> ?_,fun k b hk hb=> ?_,fun k k' b hk hk'=> ?_⟩,h.defers,by simp only[PFS.mask];rw[q0a];exact h.len,fun t ht=> ?_⟩;have:=U0f hi;simp only[PFS.mask] at hi;rw[this.2] at hi;exact h.frame.lo i hi;have:=U0f hi;simp only[PFS.mask] at hi;rw[this.2] at hi;exact h.frame.apart i hi;have e1:=U0f hi;have e2:=U0f hj;simp only[PFS.mask] at hi hj;rw[e1.2] at hi;rw[e2.2] at hj;exact h.frame.inj i j hi hj;have e1:=U0f hi;simp only[PFS.mask] at hi⊢;have hi':=hi;rw[e1.2] at hi⊢;intro j hj;obtain⟨q1,c,q2,q3⟩:=h.frame.holds i hi j hj;refine⟨q1,c,q2,q3.lim ?_ h1 rfl⟩;have hmem:s.L.getD i []∈s.L.take nL:=by rw[<-e1.2];apply Q0r;apply Nat.lt_of_not_le;intro hle;apply hi';rw[q_a,List.getElem?_eq_none hle];rfl
 exact List.all_eq_true.1 (List.all_eq_true.1 hm.2 _ hmem) _ (Q0r _ _ _ hj);simp only[PFS.mask,List.length_take] at hk;exact h.frame.tlo k b oG hb;simp only[PFS.mask,List.length_take] at hk;obtain⟨a1,a2⟩:=h.frame.tapart k b oG hb;refine⟨a1,fun i hi=> ?_⟩;have:=U0f hi;simp only[PFS.mask] at hi;rw[this.2] at hi;exact a2 i hi;simp only[PFS.mask,List.length_take] at hk hk';exact h.frame.tinj k k' b oG oG;simp only[PFS.mask] at ht⊢;rw[q0a] at ht;have hlim:=List.all_eq_true.1 hm.1 _ (Q0r (z0d bs s.pa) t .junk (by rw[q0a];exact ht));rcases G1d bs s.pa t with e | e;rw[e] at hlim⊢;exact(h.tmps t ht).lim hlim h1 rfl;rw[e];exact .base _ _ (.junk _)
theorem Q0e {P:Program}{E:Ent}{c:Code}{Q:Exit->PFS->Prop}{s:PFS}(bs:List Bool)(nL nT:Nat)(I:Nat->PFS->Prop)(n:Nat)(h0:s.maskOK bs nL nT/\I n (s.mask bs nL nT))
 (round: ∀n s,I n s->VC P E c (x0s (fun s'=>s'.maskOK bs nL nT/\ ∃m,m<n/\I m (s'.mask bs nL nT)) Q) s):PWP P E (.loop c) Q s:=by
 refine J2i (fun n s=>s.maskOK bs nL nT/\I n (s.mask bs nL nT)) n h0 fun n s ⟨hm,hI⟩=> ?_;refine K0l (K1g hm) (J1r (Q0a (round n _ hI)) ?_);intro e s hq;cases e with
 | normal=>obtain⟨h1,m,h2,h3⟩:=hq;exact⟨m,h2,h1,h3⟩
 | _=>exact hq
@[go_sem] theorem J4t {bs:List Bool}{nL nT:Nat}{pa:List PV}{L st:Q0f}{T:List (Nat×Nat)} :(PFS.mk pa L T st).mask bs nL nT=⟨z0d bs pa,L.take nL,T.take nT,st⟩:=(rfl)
@[go_sem] theorem v3q {bs:List Bool}{nL nT:Nat}{pa:List PV}{L st:Q0f}{T:List (Nat×Nat)} :(PFS.mk pa L T st).maskOK bs nL nT=((z0d bs pa).all (PV.lim nL nT)=true/\(L.take nL).all (fun o=>o.all (PV.lim nL nT))=true):=(rfl)
@[go_sem] theorem J4u {bs:List Bool}{p:PV}{ps:List PV} :z0d (true::bs) (p::ps)=p::z0d bs ps:=(rfl)
@[go_sem] theorem J4v {bs:List Bool}{p:PV}{ps:List PV} :z0d (false::bs) (p::ps)= .junk::z0d bs ps:=(rfl)
@[go_sem] theorem Q4o :z0d [] []= []:=(rfl)
@[go_sem] theorem Q4p {p:PV}{ps:List PV} :z0d [] (p::ps)= .junk::z0d [] ps:=(rfl)
attribute [go_sem] PV.lim PV.lim1
def PV.frz1 (i:Nat)(cs:List PV):PV->PV
 | .lp k off=>if k=i then .ep cs off else .lp k off
 | .ms false k off len=>if k=i then(if off+len<=cs.length then .sl .no ((cs.drop off).take len) else .junk) else .ms false k off len
 | p=>p
def PV.frz (i:Nat)(cs:List PV):PV->PV
 | .agg l=> .agg (l.map (PV.frz1 i cs))
 | .tup l=> .tup (l.map (PV.frz1 i cs))
 | .fn f l m=> .fn f (l.map (PV.frz1 i cs)) (m.map (PV.frz1 i cs))
 | p=>p.frz1 i cs
def PFS.freeze (i:Nat)(s:PFS):PFS:=
 let cs:=(s.L.getD i []).map PV.forget2
 ⟨s.pa.map (PV.frz i cs),(s.L.map fun l=>l.map (PV.frz i cs)).set i [],s.T,s.st⟩
theorem Z0v {f:PV->PV}(h:f .junk= .junk)(l:List PV)(t:Nat):(l.map f).getD t .junk=f (l.getD t .junk):=by simp only[q_a,List.getElem?_map];cases l[t]?<;>simp[h]
theorem Y0g {f:List PV->List PV}(h:f []= [])(l:Q0f)(t:Nat):(l.map f).getD t []=f (l.getD t []):=by simp only[q_a,List.getElem?_map];cases l[t]?<;>simp[h]
theorem J0r (l:Q0f)(i:Nat):(l.set i []).getD i []= []:=by simp only[q_a,List.getElem?_set,if_true];split<;>rfl
section
variable {w:World} {g g':Gh} {F:Fr} {T:List (Nat×Nat)} {i:Nat} {cs:List PV}
structure Frozen (w:World) (g':Gh) (b:Nat) (cs:List PV):Prop where
 vis:cs.length<=g'.vis b
 one: ∀p∈cs,p.cells.length=1/\p.cells= [p]
 cf: ∃cf:Nat->Value,∀j,j<cs.length->w.cell? ⟨b,j,none⟩=some (cf j)/\Rep w g' (cf j) (cs.getD j .junk)
theorem RepF.frz1 {v:Value}{p:PV}(hm: ∀v p,RepF w g F T v p->RepF w g' F T v p)(hz:Frozen w g' (F.lmu i) cs)(h:RepF w g F T v p):RepF w g' F T v (p.frz1 i cs):=by
 obtain⟨cf,hcf⟩:=hz.cf;have h':=hm _ _ h;cases p with
 | lp k off=>
  simp only[PV.frz1];split;rename_i e;subst e;cases h' with
  | base _ _ h'=>cases h'
  | lp k off hi=>
   have:=Rep.ep (w:=w) (g:=g') cs off (F.lmu k) 0 cf (by simpa using hz.vis) (fun j hj=>by simpa using(hcf j hj).1) (fun j hj=>(hcf j hj).2);rw[Nat.zero_add] at this;exact .base _ _ this
  exact h'
 | ms gl k off len=>
  cases gl with
  | true=>exact h'
  | false=>
   simp only[PV.frz1];split;rename_i e;subst e;split;rename_i hle;cases h' with
   | base _ _ h'=>cases h'
   | lms k off len cap hi hcap=>
    have hl:((cs.drop off).take len).length=len:=by simp;omega
    have hg: ∀j,j<len->((cs.drop off).take len).getD j .junk=cs.getD (off+j) .junk:=fun j hj=>(by simp[q_a,List.getElem?_take,hj,List.getElem?_drop]);have hone: ∀j,j<len->(cs.getD (off+j) .junk).cells= [cs.getD (off+j) .junk]:=fun j hj=>(hz.one _ (Q0r _ _ _ oG)).2;have:=Rep.sl (w:=w) (g:=g') .no ((cs.drop off).take len) (F.lmu k) off 1 cap (fun a b=>cf (off+a)) rfl (fun h=>by cases h) oG
     (fun j hj=>by rw[hg j oG,hone j oG];rfl) (fun _=>by have:=hz.vis;omega)
     (fun j k' hj hk=>by have:k'=0:=oG;subst this;simpa using(hcf (off+j) oG).1)
     (fun j k' hj hk=>by have:k'=0:=oG;subst this;rw[hg j oG,hone j oG];simpa using(hcf (off+j) oG).2)
    rw[hl] at this;exact .base _ _ this
   exact .base _ _ (.junk _);exact h'
 | _=>exact h'
theorem RepF.frz {v:Value}{p:PV}(hm: ∀v p,RepF w g F T v p->RepF w g' F T v p)(hz:Frozen w g' (F.lmu i) cs)(h:RepF w g F T v p):RepF w g' F T v (p.frz i cs):=by
 have gm: ∀(l:List PV) (j:Nat),(l.map (PV.frz1 i cs)).getD j .junk=(l.getD j .junk).frz1 i cs:=fun l j=>Z0v rfl l j;cases p with
 | agg l=>
  cases h with
  | base _ _ h=>
   cases h with
   | agg vs cs' hl h=>exact .agg vs _ (by simpa using hl) fun j hj=>by rw[gm];exact RepF.frz1 hm hz (.base _ _ (h j (by simpa using hj)))
  | agg vs cs' hl h=>exact .agg vs _ (by simpa using hl) fun j hj=>by rw[gm];exact RepF.frz1 hm hz (h j (by simpa using hj))
 | tup l=>
  cases h with
  | base _ _ h=>
   cases h with
   | tup vs cs' hl h=>exact .tup vs _ (by simpa using hl) fun j hj=>by rw[gm];exact RepF.frz1 hm hz (.base _ _ (h j (by simpa using hj)))
  | tup vs cs' hl h=>exact .tup vs _ (by simpa using hl) fun j hj=>by rw[gm];exact RepF.frz1 hm hz (h j (by simpa using hj))
 | fn f l m=>
  cases h with
  | base _ _ h=>
   cases h with
   | fn f us vs bs cs' hk hl h0 h=>
    exact .fn f us vs _ _ (by simpa using hk) (by simpa using hl) (fun j hj=>by rw[gm];exact RepF.frz1 hm hz (.base _ _ (h0 j (by simpa using hj)))) fun j hj=>by rw[gm];exact RepF.frz1 hm hz (.base _ _ (h j (by simpa using hj)))
  | fn f us vs bs cs' hk hl h0 h=>
   exact .fn f us vs _ _ (by simpa using hk) (by simpa using hl) (fun j hj=>by rw[gm];exact RepF.frz1 hm hz (h0 j (by simpa using hj))) fun j hj=>by rw[gm];exact RepF.frz1 hm hz (h j (by simpa using hj))
 | _=>exact RepF.frz1 hm hz h
end
def PFS.freezeOK (i:Nat)(s:PFS):Prop:=(s.L.getD i []).all (fun p=>p.closed2&&(match p with | .agg _=>false | _=>true))=true
theorem W1q {p:PV}(h:(match p with | .agg _=>false | _=>true)=true):p.forget2.cells= [p.forget2]:=by cases p<;>first | rfl | cases h
theorem z1o (w:World)(g:Gh)(b n:Nat)(hb:b<w.heap.size\/n=0)(hz: ∀b,w.heap.size<=b->g.vis b=0):
 Chg w g w { g with vis:=fun c=>if c=b then max n (g.vis c) else g.vis c } (fun c=>c=b)/\ ∀c,w.heap.size<=c->(if c=b then max n (g.vis c) else g.vis c)=0:=by
 refine⟨⟨⟨Nat.le_refl _,fun _ _=>rfl,fun c=> ?_,fun c o v ho hc=>hc⟩,rfl,rfl,rfl,Nat.le_refl _,fun c hc hx=>⟨rfl,if_neg hx⟩,fun i h1 h2=>by simp at h2;omega⟩,fun c hc=> ?_⟩;simp only;split;exact Nat.le_max_right _ _;exact Nat.le_refl _;split;rename_i e;subst e;rcases hb with hb | hb;omega;rw[hb,hz c hc];rfl;exact hz c hc
theorem y1a {E:Ent}{s:PFS}(i:Nat)(hi:s.freezeOK i):Weak E s (s.freeze i):=by
 intro a w g F h;by_cases hne:s.L.getD i []= []
 --a box without cells
 have hz:Frozen w g (F.lmu i) []:=⟨Nat.zero_le _,(fun p hp=>by cases hp),⟨fun _=>undef,fun j hj=>by simp at hj⟩⟩;have hf: ∀v p,RepF w g F s.T v p->RepF w g F s.T v (p.frz i []):=fun v p hp=>RepF.frz (fun _ _ h=>h) hz hp;have hL: ∀k,((s.L.map fun l=>l.map (PV.frz i [])).set i []).getD k []≠ []->s.L.getD k []≠ []/\((s.L.map fun l=>l.map (PV.frz i [])).set i []).getD k []=(s.L.getD k []).map (PV.frz i []):=fun k hk=>by
  by_cases hki:i=k;subst hki;exfalso;apply hk;exact J0r _ _;have e:((s.L.map fun l=>l.map (PV.frz i [])).set i []).getD k []=(s.L.getD k []).map (PV.frz i []):=by rw[<-Y0g (f:=fun l=>l.map (PV.frz i [])) rfl];simp[q_a,List.getElem?_set_ne hki]
  refine⟨fun e0=>hk (by rw[e,e0];rfl),e⟩
 have hcs:(s.L.getD i []).map PV.forget2= []:=by rw[hne];rfl
 refine⟨g,F,?_⟩;unfold PFS.freeze;rw[hcs];refine⟨h.ext,h.store,⟨by simp[h.frame.nl],fun k hk=>h.frame.lo k (hL k hk).1,fun k hk=>h.frame.apart k (hL k hk).1,fun k j hk hj=>h.frame.inj k j (hL k hk).1 (hL j hj).1,fun k hk=> ?_,h.frame.tlo,fun k b hk hb=>⟨(h.frame.tapart k b hk hb).1,fun j hj=>(h.frame.tapart k b hk hb).2 j (hL j hj).1⟩,h.frame.tinj⟩,h.defers,by simp[h.len],fun t ht=> ?_⟩;obtain⟨h1,h2⟩:=hL k hk;simp only at hk⊢;rw[h2];intro j hj;obtain⟨q1,c,q2,q3⟩:=h.frame.holds k h1 j (by simpa using hj);exact⟨q1,c,q2,by rw[Z0v (f:=PV.frz i []) rfl];exact hf _ _ q3⟩;simp only at ht⊢;rw[Z0v (f:=PV.frz i []) rfl];exact hf _ _ (h.tmps t (by simpa using ht))
 let cs:=(s.L.getD i []).map PV.forget2
 obtain⟨l1,l2,l3⟩:=h.frame.lo i hne;obtain⟨k1,k2⟩:=z1o w g (F.lmu i) cs.length (.inl l2) h.store.none;have hall:=List.all_eq_true.1 hi
 --all but the box
 have hLe:=k1.le
 let g':Gh:= { g with vis:=fun c=>if c=F.lmu i then max cs.length (g.vis c) else g.vis c }
 have htok:Q1x w g F s.T w g' F s.T:=⟨Nat.le_refl _,fun k hk=>⟨Nat.le_refl _,fun _ v es hR=>hR.mono fun b hb=>⟨rfl,if_neg fun e=>(h.frame.tapart k b hk hb).2 i hne e.symm⟩⟩⟩;have hm: ∀v p,RepF w g F s.T v p->RepF w g' F s.T v p:=fun v p hr=>hr.mono hLe (Nat.le_refl _) (fun _ _=>rfl) htok;have hcell: ∀j,j<cs.length-> ∃c,w.cell? ⟨F.lmu i,j,none⟩=some c/\Rep w g' c (cs.getD j .junk):=fun j hj=>by have hj':j<(s.L.getD i []).length:=(by simpa[cs] using hj);obtain⟨q1,c,q2,q3⟩:=h.frame.holds i hne j hj';refine⟨c,q2,?_⟩;have e:cs.getD j .junk=((s.L.getD i []).getD j .junk).forget2:=Z0v (f:=PV.forget2) rfl _ _;rw[e];exact(hm _ _ q3).forget2 (Bool.and_eq_true_iff.1 (hall _ (Q0r _ _ _ hj'))).1
 have hz:Frozen w g' (F.lmu i) cs:=by refine⟨?_,fun p hp=> ?_,⟨fun j=>if h:j<cs.length then(hcell j h).choose else undef,fun j hj=> ?_⟩⟩;show cs.length<=(if F.lmu i=F.lmu i then max cs.length (g.vis (F.lmu i)) else _);rw[if_pos rfl];exact Nat.le_max_left _ _;simp only[cs,List.mem_map] at hp;obtain⟨q,hq,rfl⟩:=hp;have:=W1q (Bool.and_eq_true_iff.1 (hall _ hq)).2;exact⟨by rw[this];rfl,this⟩;simp only[dif_pos hj];exact(hcell j hj).choose_spec
 have hf: ∀v p,RepF w g F s.T v p->RepF w g' F s.T v (p.frz i cs):=fun v p hp=>RepF.frz hm hz hp;have hL: ∀k,((s.L.map fun l=>l.map (PV.frz i cs)).set i []).getD k []≠ []->k≠i/\s.L.getD k []≠ []/\((s.L.map fun l=>l.map (PV.frz i cs)).set i []).getD k []=(s.L.getD k []).map (PV.frz i cs):=fun k hk=>by
  by_cases hki:i=k;subst hki;exfalso;apply hk;exact J0r _ _;have e:((s.L.map fun l=>l.map (PV.frz i cs)).set i []).getD k []=(s.L.getD k []).map (PV.frz i cs):=by rw[<-Y0g (f:=fun l=>l.map (PV.frz i cs)) rfl];simp[q_a,List.getElem?_set_ne hki]
  exact⟨fun e=>hki e.symm,fun e0=>hk (by rw[e,e0];rfl),e⟩
 have hvis: ∀k,k≠i->s.L.getD k []≠ []->g'.vis (F.lmu k)=g.vis (F.lmu k):=fun k hk hk0=>if_neg fun e=>hk (h.frame.inj k i hk0 hne e);have hst:StoreOK w g' s.st:=by refine⟨h.store.n,h.store.inj,h.store.lt,fun j hj hj0=> ?_,fun j hj=> ?_,k2,h.store.tab.mono hLe⟩;have:g'.vis (g.mu j)=g.vis (g.mu j):=if_neg fun e=>h.frame.apart i hne j hj e;exact this.trans (h.store.vis j hj hj0);exact(h.store.holds j hj).mono rfl fun v p hr=>hr.mono hLe
 refine⟨g',F,⟨h.ext.step k1 (fun b hb=> .inl (by rw[hb];exact l1)),hst,⟨by simp[PFS.freeze,h.frame.nl],fun k hk=> ?_,fun k hk=> ?_,fun k j hk hj=> ?_,fun k hk=> ?_,h.frame.tlo,fun k b hk hb=>⟨(h.frame.tapart k b hk hb).1,fun j hj=> ?_⟩,h.frame.tinj⟩,h.defers,by simp[PFS.freeze,h.len],fun t ht=> ?_⟩⟩;obtain⟨h1,h2,h3⟩:=hL k hk;obtain⟨a1,a2,a3⟩:=h.frame.lo k h2;exact⟨a1,a2,(hvis k h1 h2).trans a3⟩;exact h.frame.apart k (hL k hk).2.1;exact h.frame.inj k j (hL k hk).2.1 (hL j hj).2.1;obtain⟨h1,h2,h3⟩:=hL k hk;simp only[PFS.freeze] at hk⊢;show Holds w _ _ (((s.L.map fun l=>l.map (PV.frz i cs)).set i []).getD k []);rw[h3];intro j hj;obtain⟨q1,c,q2,q3⟩:=h.frame.holds k h2 j (by simpa using hj);exact⟨q1,c,q2,by rw[Z0v (f:=PV.frz i cs) rfl];exact hf _ _ q3⟩;exact(h.frame.tapart k b hk hb).2 j (hL j hj).2.1;simp only[PFS.freeze] at ht⊢;show RepF w g' F s.T _ ((s.pa.map (PV.frz i cs)).getD t .junk);rw[Z0v (f:=PV.frz i cs) rfl];exact hf _ _ (h.tmps t (by simpa using ht))
@[go_sem] theorem w3a {i:Nat}{pa:List PV}{L st:Q0f}{T:List (Nat×Nat)} :(PFS.mk pa L T st).freeze i=⟨pa.map (PV.frz i ((L.getD i []).map PV.forget2)),(L.map fun l=>l.map (PV.frz i ((L.getD i []).map PV.forget2))).set i [],T,st⟩:=(rfl)
def fzOK (l:List PV):Bool:=l.all fun p=>p.closed2&&(match p with | .agg _=>false | _=>true)
@[go_sem] theorem Q4s :fzOK []=true:=(rfl)
@[go_sem] theorem K4f {v:Value}{l:List PV} :fzOK (.sc v::l)=fzOK l:=by simp[fzOK,PV.closed2,PV.closed1]
@[go_sem] theorem K4g {es l:List PV} :fzOK (.sl .no es::l)=fzOK l:=by simp[fzOK,PV.closed2,PV.closed1]
@[go_sem] theorem v3z {es l:List PV} :fzOK (.sl .full es::l)=fzOK l:=by simp[fzOK,PV.closed2,PV.closed1]
@[go_sem] theorem Q4r {k:Nat}{es l:List PV} :fzOK (.sl (.own k) es::l)=fzOK l:=by simp[fzOK,PV.closed2,PV.closed1]
@[go_sem] theorem K4i {f:Fn}{bs cs l:List PV} :fzOK (.fn f bs cs::l)=(bs.all PV.closed1&&cs.all PV.closed1&&fzOK l):=by simp[fzOK,PV.closed2]
@[go_sem] theorem K4h {i o:Nat}{l:List PV} :fzOK (.gp i o::l)=fzOK l:=by simp[fzOK,PV.closed2,PV.closed1]
@[go_sem] theorem K4j {cs:List PV}{o:Nat}{l:List PV} :fzOK (.ep cs o::l)=fzOK l:=by simp[fzOK,PV.closed2,PV.closed1]
@[go_sem] theorem Q2v {i:Nat}{pa:List PV}{L st:Q0f}{T:List (Nat×Nat)} :(PFS.mk pa L T st).freezeOK i=(fzOK (L.getD i [])=true):=(rfl)
attribute [go_sem] PV.frz PV.frz1
theorem Z0j {P:Program}{E:Ent}{c:Code}{Q:Exit->PFS->Prop}{s:PFS}(i:Nat)(hi:s.freezeOK i)(h:PWP P E c Q (s.freeze i)):PWP P E c Q s:=K0l (y1a i hi) h
def X0q :Op->Bool
 | .move _ | .assign _ | .pick .. | .build .. | .buildSlice .. | .load .. | .nilCheck _ | .unOp .. | .convert .. | .fieldAddr .. | .field .. | .indexAddr .. | .index .. | .slice .. | .makeFunc .. | .extract .. =>true
 | .binOp _ _ _ (.const (.slice _ _ _)) _=>false
 | .binOp .. =>true
 | .call ⟨.builtin .len,_,_⟩ | .call ⟨.builtin .min,_,_⟩ | .call ⟨.builtin .max,_,_⟩=>true
 | _=>false
def H0d :Op->Bool
 | .load .. =>true
 | _=>false
def Req.q :Req->Bool
 | .val _ | .need _ _ | .newsl _ | .fail=>true
 | _=>false
def Req.lq :Req->Bool
 | .val _ | .need _ _ | .newsl _ | .fail | .load .. =>true
 | _=>false
theorem j1t {P:Program}{op:Op}{r:Operand->PV}(h:X0q op=true):U0y P op r=none:=by unfold U0y;split;cases h;cases h;rfl
theorem X1u {op:Op}{r:Operand->PV}(h:X0q op=true):K0h op r=none:=by unfold K0h;split;cases h;rfl
theorem W3t (c a b:PV):(V1l c a b).q=true:=by unfold V1l;split<;>rfl
theorem v2a (T:Option TI)(ps:List (Nat×PV)):(w0k T ps).q=true:=by unfold w0k;split<;>try split<;>rfl
                                                                  rfl
theorem J1d (T:Option TI)(n:Nat)(ps:List (Nat×PV)):(V0w T n ps).q=true:=by unfold V0w;split<;>try split<;>rfl
                                                                           rfl
theorem q3b (T:Option TI)(x:PV):(j0o T x).lq=true:=by unfold j0o;split<;>rfl
theorem v3i (x:PV):(Q2f x).q=true:=by unfold Q2f;split<;>rfl
theorem un_q (op:UnOp)(x:PV):(unPV op x).q=true:=by unfold unPV;split<;>rfl
theorem Y3v (S D:Option TI)(x:PV):(Y1d S D x).q=true:=by unfold Y1d;split;rfl;split;split<;>rfl;rfl;split;split<;>rfl;rfl;rfl;rfl
theorem W1t (T:Option TI)(x:PV)(f:Nat):(J0j T x f).q=true:=by unfold J0j;split;split;split;rfl;split<;>rfl;rfl;rfl
theorem j2l (T:Option TI)(x:PV)(f:Nat):(w0i T x f).q=true:=by unfold w0i;split;split;split;split<;>rfl;split<;>rfl;rfl;rfl
theorem V1z (T:Option TI)(x i:PV):(W0u T x i).q=true:=by unfold W0u;split<;>rfl
theorem x2w (T:Option TI)(x i:PV):(w0c T x i).q=true:=by unfold w0c;split<;>rfl
theorem y2l (e:EI)(t:Tag)(es:List PV)(lo hi:Option PV):(k0j e t es lo hi).q=true:=by unfold k0j;split<;>rfl
theorem y2k (e:EI)(es:List PV)(lo hi:Option PV)(m:Int):(k0i e es lo hi m).q=true:=by unfold k0i;split<;>rfl
theorem y2i (s:ByteArray)(lo hi:Option PV):(k0g s lo hi).q=true:=by unfold k0g;split<;>rfl
theorem y2j (e:EI)(gl:Bool)(o off len:Nat)(lo hi:Option PV):(k0h e gl o off len lo hi).q=true:=by unfold k0h;split<;>rfl
theorem G2v (T:Option TI)(x:PV)(lo hi mx:Option PV):(v0p T x lo hi mx).q=true:=by unfold v0p;split;exact y2l _ _ _ _ _;exact y2k _ _ _ _ _;rfl;exact y2i _ _ _;exact y2j _ _ _ _ _ _ _;rfl
theorem J3b (op:BinOp)(k:IntKind)(a b:Int):(Y0f op k a b).q=true:=by unfold Y0f;split<;>rfl
theorem y3f (op:BinOp)(T:Option TI)(x y:PV):(J0s op T x y).q=true:=by
 unfold J0s;split;rfl;rfl;split;exact J3b _ _ _ _;rfl;rfl;rfl;rfl
 all_goals first | rfl | (split<;>rfl)
theorem v3u (T:Option TI)(x:PV):(Y2j T x).q=true:=by unfold Y2j;split<;>rfl
theorem X2v {P:Program}{op:Op}{ty:TypeId}{r:Operand->PV}(h:X0q op=true):(req P op ty r).lq=true/\(H0d op=false->(req P op ty r).q=true):=by
 have hq: ∀x:Req,x.q=true->x.lq=true:=fun x hx=>by cases x<;>first | rfl | cases hx
 have both: ∀x:Req,x.q=true->x.lq=true/\(H0d op=false->x.q=true):=fun x hx=>⟨hq x hx,fun _=>hx⟩;cases op
 case load t x=>exact⟨q3b _ _,fun h=>by cases h⟩
 case move=>exact both _ rfl
 case assign=>exact both _ rfl
 case pick=>exact both _ (W3t _ _ _)
 case build=>exact both _ (v2a _ _)
 case buildSlice=>exact both _ (J1d _ _ _)
 case nilCheck=>exact both _ (v3i _)
 case unOp=>exact both _ (un_q _ _)
 case convert=>exact both _ (Y3v _ _ _)
 case fieldAddr=>exact both _ (W1t _ _ _)
 case field=>exact both _ (j2l _ _ _)
 case indexAddr=>exact both _ (V1z _ _ _)
 case index=>exact both _ (x2w _ _ _)
 case slice=>exact both _ (G2v _ _ _ _ _)
 case makeFunc=>exact both _ rfl
 case binOp=>exact both _ (y3f _ _ _ _)
 case extract x i=>
  refine both _ ?_;show(Req.q (match r x with | .tup vs=>if i<vs.length then Req.val (vs.getD i .junk) else .fail | _=> .fail))=true;split;split<;>rfl;rfl
 case call c=>
  obtain⟨cal,as,ts⟩:=c;cases cal with
  | value f=>cases h
  | invoke a b=>cases h
  | builtin b=>
   refine both _ ?_;show Req.q (Y0r P b ts.toList (as.toList.map r))=true;unfold Y0r;split;exact v3u _ _;cases h;cases h;split<;>rfl;split<;>rfl;rfl
 all_goals cases h
theorem W3o {r:Req}{s s' s1:PFS}{v:PV}(h:r.lq=true)(hr:r.run s=some (v,s1)):s1=s:=by
 cases r with
 | val x=>cases hr;rfl
 | need c x=>simp only[Req.run] at hr;split at hr<;>cases hr;rfl
 | newsl es=>cases hr;rfl
 | fail=>cases hr
 | load gl i off n agg=>
  simp only[Req.run] at hr;by_cases hc:off+n<=((if gl then s.st else s.L).getD i []).length;rw[if_pos hc] at hr;cases hr;rfl;rw[if_neg hc] at hr;cases hr
 | _=>cases h
theorem y2s {r:Req}{s s':PFS}{v:PV}(h:r.lq=true)(hs:r.q=true\/(s.L=s'.L/\s.st=s'.st))(hr:r.run s=some (v,s)):r.run s'=some (v,s'):=by
 cases r with
 | val x=>cases hr;rfl
 | need c x=>simp only[Req.run] at hr⊢;split at hr<;>simp_all
 | newsl es=>cases hr;rfl
 | fail=>cases hr
 | load gl i off n agg=>
  rcases hs with hs | ⟨h1,h2⟩;cases hs;simp only[Req.run] at hr⊢;rw[<-h1,<-h2];split at hr<;>simp_all
 | _=>cases h
theorem K3e {s s':PFS}{x:Operand}(h: ∀t,x= .tmp t->s.pa.getD t .junk=s'.pa.getD t .junk):s.ev x=s'.ev x:=by
 cases x with
 | tmp t=>exact h t rfl
 | _=>rfl
theorem V1a {P:Program}{op:Op}{ty:TypeId}{r r':Operand->PV}(h: ∀x∈op.operands,r x=r' x):req P op ty r=req P op ty r':=by
 have pairs: ∀ps:Array (Nat×Operand),(∀x∈ps.map (·.2),r x=r' x)->(ps.toList.map fun x=>(x.1,r x.2))=(ps.toList.map fun x=>(x.1,r' x.2)):=fun ps hp=>
  List.map_congr_left fun p hm=>by obtain⟨i,x⟩:=p;simp only[hp x (Array.mem_map.2 ⟨(i,x),Array.mem_def.2 hm,rfl⟩)]
 have lst: ∀ps:Array Operand,(∀x∈ps,r x=r' x)->ps.toList.map r=ps.toList.map r':=fun ps hp=>List.map_congr_left fun p hm=>hp p (Array.mem_def.2 hm);cases op<;>simp only[Op.operands] at h<;>simp only[req]
 case build t ps=>rw[pairs ps fun x hx=>h x (by simpa using hx)]
 case buildSlice t n ps=>rw[pairs ps fun x hx=>h x (by simpa using hx)]
 case makeFunc fn first captured=>rw[lst first fun x hx=>h x (by simp[hx]),lst captured fun x hx=>h x (by simp[hx])]
 case call c=>
  obtain⟨cal,as,ts⟩:=c;cases cal with
  | builtin b=>simp only[req];rw[lst as fun x hx=>h x (by simp[Call.operands,hx])]
  | _=>rfl
 case slice t x lo hi mx=>cases lo<;>cases hi<;>cases mx<;>simp_all
 all_goals (first | rfl | (simp_all;done))
theorem J1b {P:Program}{op:Op}{r r':Operand->PV}(h: ∀x∈op.operands,r x=r' x):U0y P op r=U0y P op r':=by unfold U0y;split;rw[h _ (by simp[Op.operands])];rw[h _ (by simp[Op.operands])];rfl
theorem v0m {op:Op}{r r':Operand->PV}(h: ∀x∈op.operands,r x=r' x):K0h op r=K0h op r':=by unfold K0h;split;rename_i f args ts;have e1:args.toList.map r=args.toList.map r':=List.map_congr_left fun p hm=>h p (by simp[Op.operands,Call.operands,Array.mem_def,hm]);rw[h f (by simp[Op.operands,Call.operands]),e1];rfl
theorem X3n {ops:Array Oper}{o:Oper}{t:Tmp}(h:Operand.tmp t∈o.op.operands):t∈o.looksAt ops:=
 List.mem_append_left _ (List.mem_filterMap.2 ⟨.tmp t,by simpa using h,rfl⟩)
theorem Q1p {ops:Array Oper}{o:Oper}{s s':PFS}(h: ∀d∈o.looksAt ops,s.pa.getD d .junk=s'.pa.getD d .junk): ∀x∈o.op.operands,s.ev x=s'.ev x:=
 fun x hx=>K3e fun t ht=>h t (X3n (ht▸hx))
theorem q0n {ops:Array Oper}{o:Oper}{s s':PFS}{j:Nat}{want:Bool}(hg:o.guard=some (j,want))(h: ∀d∈o.looksAt ops,s.pa.getD d .junk=s'.pa.getD d .junk):X0d ops.toList s j want=X0d ops.toList s' j want:=by unfold X0d;split;rename_i oj hj;split;rename_i d hd;rw[h d];refine List.mem_append_right _ ?_;simp only[hg];have:ops[j]?=some oj:=(by simpa using hj);simp[this,hd];rfl;rfl
theorem J0h {s:PFS}{dst:Option Tmp}{v:PV}{d:Tmp}(h:dst≠some d):(s.put dst v).pa.getD d .junk=s.pa.getD d .junk:=by
 cases dst with
 | none=>rfl
 | some e=>
  have:e≠d:=fun x=>h (by rw[x]);simp[PFS.put,q_a,List.getElem?_set_ne this]
theorem V1i {s:PFS}{v:PV}{d:Tmp}(h:d<s.pa.length):(s.put (some d) v).pa.getD d .junk=v:=by simp[PFS.put,q_a,h]
theorem k0n {s:PFS}{x y:Option Tmp}(v u:PV)(h: ∀d,x=some d->y≠some d):(s.put x v).put y u=(s.put y u).put x v:=by
 cases x with
 | none=>rfl
 | some d=>cases y with
  | none=>rfl
  | some e=>
   have hne:d≠e:=fun he=>h d rfl (he▸rfl);simp[PFS.put,List.set_comm _ _ hne]
theorem Y0m (s:PFS)(x:Option Tmp)(v:PV):(s.put x v).L=s.L/\(s.put x v).T=s.T/\(s.put x v).st=s.st/\(s.put x v).pa.length=s.pa.length:=by cases x<;>simp[PFS.put]
theorem W2i (r:Req)(s:PFS)(v:PV)(x:Option Tmp):r.run (s.put x v)=(r.run s).map fun q=>(q.1,q.2.put x v):=by
 cases x with
 | none=>show r.run s=_;cases r.run s<;>rfl
 | some d=>
  cases r with
  | val w=>rfl
  | newsl es=>rfl
  | fail=>rfl
  | box cs=>rfl
  | mks cs len=>rfl
  | need c w=>cases c<;>rfl
  | load gl i off n agg=>
   cases gl;by_cases hc:off+n<=(s.L.getD i []).length<;>simp only[Req.run,PFS.put,Bool.false_eq_true,if_false,hc,if_true]<;>rfl;by_cases hc:off+n<=(s.st.getD i []).length<;>simp only[Req.run,PFS.put,if_false,hc,if_true]<;>rfl
  | store gl i off cs=>
   cases gl;by_cases hc:off+cs.length<=(s.L.getD i []).length/\0<(s.L.getD i []).length<;>simp only[Req.run,PFS.put,Bool.false_eq_true,if_false,hc,if_true]<;>rfl;by_cases hc:off+cs.length<=(s.st.getD i []).length/\0<(s.st.getD i []).length<;>simp only[Req.run,PFS.put,if_false,hc,if_true]<;>rfl
  | app t es ys e=>
   by_cases hc:(e.zok=true/\es.length+ys.length<=1152921504606846976/\(es.length+ys.length)*e.by_<=140737488355328/\
    es.all (fun x=>x.cells.length==e.sz)=true/\ys.all (fun x=>(x.cells.length==e.sz)&&x.cells.all PV.cellOK)=true)
   cases t with
   | own k=>by_cases hT:s.T.getD k (0,0)=(es.length,e.sz)<;>simp only[Req.run,PFS.put,hc,hT,if_true,if_false,and_self]<;>rfl
   | full=>
    by_cases hT:es.length=0\/0<ys.length;simp only[Req.run,PFS.put,if_pos hc,if_pos hT]<;>rfl;simp only[Req.run,PFS.put,if_pos hc,if_neg hT]<;>rfl
   | _=>simp only[Req.run,PFS.put,hc,if_true,and_self]<;>rfl
   simp only[Req.run,PFS.put,hc,if_false]<;>rfl
theorem G3k {r:Req}{s s1:PFS}{v p:PV}{x:Option Tmp}(h:r.run (s.put x v)=some (p,s1)): ∃s2,r.run s=some (p,s2)/\s1=s2.put x v:=by
 rw[W2i] at h;cases hr:r.run s with
 | none=>rw[hr] at h;cases h
 | some q=>rw[hr] at h;cases h;exact⟨_,rfl,rfl⟩
theorem k3j {r:Req}{s s1:PFS}{p:PV}(h:r.run s=some (p,s1)):s1.pa=s.pa:=by
 cases r with
 | val w=>cases h;rfl
 | newsl es=>cases h;rfl
 | fail=>cases h
 | box cs=>cases h;rfl
 | mks cs len=>cases h;rfl
 | need c w=>simp only[Req.run] at h;split at h<;>cases h;rfl
 | load gl i off n agg=>
  simp only[Req.run] at h;by_cases hc:off+n<=((if gl then s.st else s.L).getD i []).length;rw[if_pos hc] at h;cases h;rfl;rw[if_neg hc] at h;cases h
 | store gl i off cs=>
  simp only[Req.run] at h;by_cases hc:off+cs.length<=((if gl then s.st else s.L).getD i []).length/\0<((if gl then s.st else s.L).getD i []).length;rw[if_pos hc] at h;cases gl<;>cases h<;>rfl;rw[if_neg hc] at h;cases h
 | app t es ys e=>
  simp only[Req.run] at h;split at h;cases t with
  | own k=>
   simp only at h;by_cases hT:s.T.getD k (0,0)=(es.length,e.sz);rw[if_pos hT] at h;cases h;rfl;rw[if_neg hT] at h;cases h
  | full=>
   simp only at h;by_cases hT:es.length=0\/0<ys.length;rw[if_pos hT] at h;cases h;rfl;rw[if_neg hT] at h;cases h
  | _=>cases h
  cases h
theorem Q3g {s:PFS}{x y:Option Tmp}{v r:PV}{st:Q0f}(h: ∀d,x=some d->y≠some d):(s.put x v).recv y r st=(s.recv y r st).put x v:=by
 have e: ∀T',({ s.put x v with st:=st,T:=T' } :PFS)=({ s with st:=st,T:=T' } :PFS).put x v:=fun T'=>by cases x<;>rfl
 have e2:({ s.put x v with st:=st } :PFS)=({ s with st:=st } :PFS).put x v:=by cases x<;>rfl
 have eT:(s.put x v).T=s.T:=(Y0m s x v).2.1;unfold PFS.recv;split;simp only[eT,e];exact k0n _ _ h;rw[e2];exact k0n _ _ h
theorem G3p {s:PFS}{y:Option Tmp}{r:PV}{st:Q0f} : ∃u,(s.recv y r st).pa=(s.put y u).pa:=by unfold PFS.recv;split;exact⟨_,by cases y<;>rfl⟩;exact⟨_,by cases y<;>rfl⟩
section
variable {P:Program} {ops:Array Oper} {o:Oper} {K K':PFS->Prop} {s:PFS}
theorem w2e (h:PO P o K s)(hk: ∀s,K s->K' s):PO P o K' s:=by unfold PO at h⊢;split;rename_i hn;rw[hn] at h;exact fun b hb=>hk _ (h b hb);rename_i hn;rw[hn] at h;simp only at h;split;rename_i hc;rw[hc] at h;exact⟨h.1,h.2.mono fun r st q=>hk _ q⟩;rename_i hc;rw[hc] at h;simp only at h;split;rename_i hs;rw[hs] at h;exact hk _ h;rename_i hs;rw[hs] at h;exact h
theorem Y3z {dst:Option Tmp}{v:PV}(h1: ∀d,dst=some d->d∉o.looksAt ops)(h2: ∀d,dst=some d->o.dst≠some d)(h:PO P o K (s.put dst v)):PO P o (fun s'=>K (s'.put dst v)) s:=by
 have he: ∀x∈o.op.operands,(s.put dst v).ev x=s.ev x:=Q1p (ops:=ops) fun d hd=>J0h fun e=>h1 d e hd;unfold PO at h⊢;rw[J1b he,v0m he] at h;split;rename_i hn;rw[hn] at h;intro b hb;have:=h b hb;rw[k0n _ _ h2] at this;exact this;rename_i hn;rw[hn] at h;simp only at h;split;rename_i hc;rw[hc] at h;refine⟨h.1,?_⟩;have:=h.2;rw[(Y0m s dst v).2.2.1] at this;exact this.mono fun r st q=>(by rw[Q3g h2] at q;exact q);rename_i hc;rw[hc] at h;simp only[w0y,V1a he] at h;unfold w0y;cases hr:(req P o.op o.type s.ev).run (s.put dst v) with
 | none=>rw[hr] at h;exact h.elim
 | some x=>
  obtain⟨p,s1⟩:=x;rw[hr] at h;obtain⟨s2,hs2,rfl⟩:=G3k hr;rw[hs2];simp only at h⊢;rw[k0n _ _ h2] at h;exact h
theorem y3r (h:PO P o K s):PO P o (fun s'=>K s'/\ ∃u,s'.pa=(s.put o.dst u).pa) s:=by
 unfold PO at h⊢;split;rename_i hn;rw[hn] at h;exact fun b hb=>⟨h b hb,_,rfl⟩;rename_i hn;rw[hn] at h;simp only at h;split;rename_i hc;rw[hc] at h;exact⟨h.1,h.2.mono fun r st q=>⟨q,G3p⟩⟩;rename_i hc;rw[hc] at h;simp only at h;unfold w0y at h⊢;cases hr:(req P o.op o.type s.ev).run s with
 | none=>rw[hr] at h;exact h.elim
 | some x=>
  obtain⟨p,s1⟩:=x;rw[hr] at h;refine⟨h,p,?_⟩;have:=k3j hr;cases hd:o.dst with
  | none=>exact this
  | some d=>simp only[PFS.put,this]
theorem V2m (hq:X0q o.op=true)(h:PO P o K s): ∃u,(req P o.op o.type s.ev).run s=some (u,s)/\K (s.put o.dst u):=by
 unfold PO at h;rw[j1t hq,X1u hq] at h;simp only[w0y] at h;cases hr:(req P o.op o.type s.ev).run s with
 | none=>rw[hr] at h;exact h.elim
 | some x=>
  obtain⟨p,s1⟩:=x;rw[hr] at h;have:=W3o (s':=s) (X2v hq).1 hr;subst this;exact⟨p,rfl,h⟩
theorem J2e (hq:X0q o.op=true){u:PV}(h1:(req P o.op o.type s.ev).run s=some (u,s))(h2:K (s.put o.dst u)):PO P o K s:=by unfold PO;rw[j1t hq,X1u hq];simp only[w0y,h1];exact h2
def POg (P:Program)(ops:Array Oper)(o:Oper)(K:PFS->Prop)(s:PFS):Prop:=
 match o.guard with
 | none=>PO P o K s
 | some (j,want)=>match X0d ops.toList s j want with
  | some b=>if b=want then PO P o K s else K (s.put o.dst (.tup []))
  | none=>False
def POp (P:Program)(ops:Array Oper)(i:Nat)(K:PFS->Prop)(s:PFS):Prop:=
 match ops[i]? with
 | none=>False
 | some o=>POg P ops o K s
def QY (P:Program)(ops:Array Oper)(o:Oper)(v:PV)(s:PFS):Prop:=
 match o.guard with
 | none=>(req P o.op o.type s.ev).run s=some (v,s)
 | some (j,want)=>match X0d ops.toList s j want with
  | some b=>if b=want then(req P o.op o.type s.ev).run s=some (v,s) else v= .tup []
  | none=>False
theorem k0y (h:POg P ops o K s)(hk: ∀s,K s->K' s):POg P ops o K' s:=by unfold POg at h⊢;split;rename_i hg;rw[hg] at h;exact w2e h hk;rename_i hg;rw[hg] at h;simp only at h;split;rename_i hb;rw[hb] at h;simp only at h;split;rename_i e;rw[if_pos e] at h;exact w2e h hk;rename_i e;rw[if_neg e] at h;exact hk _ h;rename_i hb;rw[hb] at h;exact h
theorem w2b {dst:Option Tmp}{v:PV}(h1: ∀d,dst=some d->d∉o.looksAt ops)(h2: ∀d,dst=some d->o.dst≠some d)(h:POg P ops o K (s.put dst v)):POg P ops o (fun s'=>K (s'.put dst v)) s:=by unfold POg at h⊢;split;rename_i hg;rw[hg] at h;exact Y3z h1 h2 h;rename_i j want hg;rw[hg] at h;simp only at h;rw[q0n (s':=s) hg fun d hd=>J0h fun e=>h1 d e hd] at h;split;rename_i hb;rw[hb] at h;simp only at h;split;rename_i e;rw[if_pos e] at h;exact Y3z h1 h2 h;rename_i e;rw[if_neg e] at h;rw[k0n _ _ h2] at h;exact h;rename_i hb;rw[hb] at h;exact h
theorem w2c (h:POg P ops o K s):POg P ops o (fun s'=>K s'/\ ∃u,s'.pa=(s.put o.dst u).pa) s:=by unfold POg at h⊢;split;rename_i hg;rw[hg] at h;exact y3r h;rename_i hg;rw[hg] at h;simp only at h;split;rename_i hb;rw[hb] at h;simp only at h;split;rename_i e;rw[if_pos e] at h;exact y3r h;rename_i e;rw[if_neg e] at h;exact⟨h,_,rfl⟩;rename_i hb;rw[hb] at h;exact h
theorem Y1o (hq:X0q o.op=true)(h:POg P ops o K s): ∃u,QY P ops o u s/\K (s.put o.dst u):=by unfold POg at h;unfold QY;split at h;rename_i hg;obtain⟨u,h1,h2⟩:=V2m hq h;exact⟨u,by first | exact h1 | (simp only[hg];exact h1),h2⟩;rename_i j want hg;split at h;rename_i b hb;split at h;rename_i e;obtain⟨u,h1,h2⟩:=V2m hq h;exact⟨u,by simp only[hg,hb,if_pos e];exact h1,h2⟩;rename_i e;exact⟨.tup [],by simp only[hg,hb,if_neg e],h⟩;exact h.elim
theorem V1f (hq:X0q o.op=true){u:PV}(h1:QY P ops o u s)(h2:K (s.put o.dst u)):POg P ops o K s:=by unfold POg;unfold QY at h1;split;rename_i hg;rw[hg] at h1;exact J2e hq h1 h2;rename_i j want hg;rw[hg] at h1;simp only at h1;split;rename_i b hb;rw[hb] at h1;simp only at h1;split;rename_i e;rw[if_pos e] at h1;exact J2e hq h1 h2;rename_i e;rw[if_neg e] at h1;subst h1;exact h2;rename_i hb;rw[hb] at h1;exact h1
theorem k0d {s':PFS}{v:PV}(hq:X0q o.op=true)(hpa: ∀d∈o.looksAt ops,s.pa.getD d .junk=s'.pa.getD d .junk)(hs:H0d o.op=false\/(s.L=s'.L/\s.st=s'.st))(h:QY P ops o v s):QY P ops o v s':=by
 have run:(req P o.op o.type s.ev).run s=some (v,s)->(req P o.op o.type s'.ev).run s'=some (v,s'):=fun hr=>by have e:req P o.op o.type s'.ev=req P o.op o.type s.ev:=(V1a (Q1p hpa)).symm;rw[e];exact y2s (X2v hq).1 (hs.imp (X2v hq).2 id) hr
 unfold QY at h⊢;split;rename_i hg;rw[hg] at h;exact run h;rename_i j want hg;rw[hg] at h;simp only at h;rw[q0n hg hpa] at h;split;rename_i b hb;rw[hb] at h;simp only at h;split;rename_i e;rw[if_pos e] at h;exact run h;rename_i e;rw[if_neg e] at h;exact h;rename_i hb;rw[hb] at h;exact h
end
def V1e (ops:Array Oper)(i:Nat):Nat->Nat->Bool
 | 0,_=>false
 | f+1,j=>match ops[j]? with
  | some o=>o.after.any fun e=>Region.binds .any e&&(e.on==i||V1e ops i f e.on)
  | none=>false
def j1s (ops:Array Oper)(i j:Nat):Bool:=V1e ops i 3 j
def x3t (P:Program)(ops:Array Oper)(o:Oper)(s:PFS):Prop:= ∀d,o.dst=some d->QY P ops o (s.pa.getD d .junk) s
def K0u (P:Program)(ops:Array Oper)(listed:Array Bool)(j:Nat)(s:PFS):Prop:=
 ∀i o,listed.getD i false=true->ops[i]?=some o->X0q o.op=true->H0d o.op=true->j1s ops i j=false->x3t P ops o s
def U0c (ops:Array Oper)(j:Nat):Bool:=match ops[j]? with | some o=> !X0q o.op | none=>false
def PAny (P:Program)(ops:Array Oper)(K:PFS->Prop):Nat->Array Bool->PFS->Prop
 | 0,listed,s=>Region.ready .any ops listed= []/\K s
 | fuel+1,listed,s=>
  (Region.ready .any ops listed= []->K s)/\
  ∀i∈Region.ready .any ops listed,POp P ops i (fun s'=>(U0c ops i=true->K0u P ops listed i s')/\PAny P ops K fuel (listed.setIfInBounds i true) s') s
section
variable {P:Program} {ops:Array Oper} {K:PFS->Prop}
def Y0u (ops:Array Oper)(listed:Array Bool):Prop:= ∀k ok e,ops[k]?=some ok->listed.getD k false=true->e∈ok.after->Region.binds .any e=true->listed.getD e.on false=true
theorem z0v {listed:Array Bool}(hc:Y0u ops listed){i:Nat} : ∀f j oj,ops[j]?=some oj->(∀e∈oj.after,Region.binds .any e=true->listed.getD e.on false=true)->V1e ops i f j=true->listed.getD i false=true
 | 0,j,oj,h,hp,hr=>by cases hr
 | f+1,j,oj,h,hp,hr=>by
  simp only[V1e,h] at hr;obtain⟨e,he,hb⟩:=Array.any_eq_true'.1 hr;simp only[q_i,Bool.or_eq_true,beq_iff_eq] at hb;obtain⟨h1,h2⟩:=hb;have hl:=hp e he h1;rcases h2 with h2 | h2;rw[<-h2];exact hl;cases hoe:ops[e.on]? with
  | none=>cases f with
   | zero=>cases h2
   | succ f=>simp only[V1e,hoe] at h2;cases h2
  | some oe=>exact z0v hc f e.on oe hoe (fun e' he' hb'=>hc e.on oe e' hoe hl he' hb') h2
theorem W1i {listed:Array Bool}{i:Nat}(h:listed.getD i true=false):listed.getD i false=false:=by rcases Nat.lt_or_ge i listed.size with h' | h';simpa[h'] using h;simp[Array.getElem?_eq_none h'] at h
theorem z0l {listed:Array Bool}{j:Nat}(hc:Y0u ops listed)(hj:j∈Region.ready .any ops listed):Y0u ops (listed.setIfInBounds j true):=by intro k ok e hk hl he hb;obtain⟨h0,oj,hoj,hall⟩:=mem_ready.1 hj;by_cases hkj:j=k;subst hkj;rw[hoj] at hk;cases hk;exact getD_set_true (hall e he hb);rw[getD_set_ne false hkj] at hl;exact getD_set_true (hc k ok e hk hl he hb)
theorem j0k {listed:Array Bool}{i j:Nat}(hc:Y0u ops listed)(hj:j∈Region.ready .any ops listed)(hi:listed.getD i true=false):j1s ops i j=false:=by
 obtain⟨h0,oj,hoj,hall⟩:=mem_ready.1 hj;cases hr:j1s ops i j with
 | false=>rfl
 | true=>
  have:=z0v hc 3 j oj hoj hall hr;rw[W1i hi] at this;cases this
theorem Y2a {N i:Nat}{oi:Oper}{di:Tmp}{v:PV}(hi:ops[i]?=some oi)(hq:X0q oi.op=true)(hdi:oi.dst=some di)(hown:di∉oi.looksAt ops)(hN:di<N):
 ∀(fuel:Nat) (listed:Array Bool) (s:PFS),N<=s.pa.length->Y0u ops listed->
  (∀j oj,ops[j]?=some oj->j≠i->listed.getD j true=false->j1s ops i j=false->oi.apart ops oj=true)->
  (∀k ok,ops[k]?=some ok->listed.getD k false=true->H0d ok.op=true->di∉ok.looksAt ops/\ok.dst≠some di)->
  i∈Region.ready .any ops listed->QY P ops oi v s->
  PAny P ops K fuel (listed.setIfInBounds i true) (s.put oi.dst v)->PAny P ops K (fuel+1) listed s:=by
 have self: ∀(fuel:Nat) (listed:Array Bool) (s:PFS),QY P ops oi v s->PAny P ops K fuel (listed.setIfInBounds i true) (s.put oi.dst v)->
  POp P ops i (fun s'=>(U0c ops i=true->K0u P ops listed i s')/\PAny P ops K fuel (listed.setIfInBounds i true) s') s:=by
  intro fuel listed s hy H;unfold POp;rw[hi];exact V1f hq hy ⟨fun he=>by simp[U0c,hi,hq] at he,H⟩
 intro fuel
 induction fuel with
 | zero=>
  intro listed s hl hc h1 h2 hr hy H;refine⟨fun h=>(by rw[h] at hr;cases hr),fun j hj=> ?_⟩;by_cases hji:j=i;subst hji;exact self 0 listed s hy H;have:=ready_mono hj hji;rw[H.1] at this;cases this
 | succ fuel ih=>
  intro listed s hl hc h1 h2 hr hy H;refine⟨fun h=>(by rw[h] at hr;cases hr),fun j hj=> ?_⟩;by_cases hji:j=i;subst hji;exact self _ listed s hy H;have hp:=H.2 j (ready_mono hj hji);obtain⟨hjun,oj,hoj,hall⟩:=mem_ready.1 hj;have hiun:=(mem_ready.1 hr).1;have hnr:=j0k hc hj hiun;obtain⟨a1,a2,a3⟩:=Oper.apart_spec (h1 j oj hoj hji hjun hnr);unfold POp at hp⊢;rw[hoj] at hp⊢;simp only at hp⊢;have hp':=w2c (w2b a1 a2 hp);have key: ∀s'':PFS,(∃u,s''.pa=(s.put oj.dst u).pa)->(X0q oj.op=true->s''.L=s.L/\s''.st=s.st)->
   ((U0c ops j=true->K0u P ops (listed.setIfInBounds i true) j (s''.put oi.dst v))/\PAny P ops K fuel ((listed.setIfInBounds i true).setIfInBounds j true) (s''.put oi.dst v))->
   (U0c ops j=true->K0u P ops listed j s'')/\PAny P ops K (fuel+1) (listed.setIfInBounds j true) s'':=by
   rintro s'' ⟨u,hpa⟩ hqs ⟨hw,hrest⟩;have hlen:s''.pa.length=s.pa.length:=(by rw[hpa];exact(Y0m s oj.dst u).2.2.2);have hsame: ∀d∈oi.looksAt ops,s.pa.getD d .junk=s''.pa.getD d .junk:=fun d hd=>by rw[hpa];exact(J0h fun e=>a3 d e hd).symm
   have hown': ∀d∈oi.looksAt ops,(s''.put oi.dst v).pa.getD d .junk=s''.pa.getD d .junk:=fun d hd=>J0h fun e=>by rw[hdi] at e;cases e;exact hown hd
   have hil:(listed.setIfInBounds i true).getD i false=true:=by
    have hlt:i<listed.size:=by rcases Nat.lt_or_ge i listed.size with h' | h';exact h';simp[Array.getElem?_eq_none h'] at hiun
    simp[hlt]
   have hy':QY P ops oi v s'':=by
    cases hlo:H0d oi.op with
    | false=>exact k0d hq hsame (.inl hlo) hy
    | true=>
     cases hqj:X0q oj.op with
     | true=>obtain⟨e1,e2⟩:=hqs hqj;exact k0d hq hsame (.inr ⟨e1.symm,e2.symm⟩) hy
     | false=>
      have heff:U0c ops j=true:=(by simp[U0c,hoj,hqj]);have:=hw heff i oi hil hi hq hlo hnr di hdi;have e:(s''.put oi.dst v).pa.getD di .junk=v:=by rw[hdi];exact V1i (by rw[hlen];exact q_e hN hl)
      rw[e] at this;exact k0d hq hown' (.inr ⟨(Y0m s'' oi.dst v).1,(Y0m s'' oi.dst v).2.2.1⟩) this
   refine⟨fun heff k ok hk hok hkq hkl hkr d hd=> ?_,?_⟩;obtain⟨b1,b2⟩:=h2 k ok hok hk hkl;have:=hw heff k ok (getD_set_true hk) hok hkq hkl hkr d hd;have e:(s''.put oi.dst v).pa.getD d .junk=s''.pa.getD d .junk:=J0h fun e=>by rw[hdi] at e;cases e;exact b2 hd
   rw[e] at this;exact k0d hkq (fun x hx=>J0h fun e=>by rw[hdi] at e;cases e;exact b1 hx) (.inr ⟨(Y0m s'' oi.dst v).1,(Y0m s'' oi.dst v).2.2.1⟩) this;refine ih (listed.setIfInBounds j true) s'' oG (z0l hc hj) (fun k ok hk hki hun hno=> ?_) (fun k ok hk hkl hlo=> ?_) (ready_mono hr (Ne.symm hji)) hy' ?_;refine h1 k ok hk hki ?_ hno;by_cases hjk:j=k;subst hjk;exact hjun;rw[getD_set_ne true hjk] at hun;exact hun;by_cases hjk:j=k;subst hjk;rw[hoj] at hk;cases hk;exact⟨a1 di hdi,fun e=>a2 di hdi e⟩;rw[getD_set_ne false hjk] at hkl;exact h2 k ok hk hkl hlo;rw[Array.setIfInBounds_comm _ _ hji];exact hrest
  cases hqj:X0q oj.op with
  | true=>
   obtain⟨u,q1,q2,q3⟩:=Y1o hqj hp';exact V1f hqj q1 (key _ ⟨u,rfl⟩ (fun _=>⟨(Y0m s oj.dst u).1,(Y0m s oj.dst u).2.2.1⟩) q2)
  | false=>exact k0y hp' fun s'' ⟨q2,q3⟩=>key s'' q3 (fun h=>by rw[hqj] at h;cases h) q2
inductive Plan where
 | done
 | step (i:Nat) (ws:List Nat) (rest:Plan)
 | alt (a b:Plan)
def Plan.heads :Plan->List Nat
 | .done=> []
 | .step i _ _=> [i]
 | .alt a b=>a.heads++b.heads
def J3q (ops:Array Oper)(N:Nat)(listed:Array Bool)(i:Nat):Bool:=
 match ops[i]? with
 | none=>false
 | some oi=>match oi.dst with
  | none=>false
  | some di=>X0q oi.op&& !(oi.looksAt ops).contains di&&decide (di<N)&&
   (List.range ops.size).all fun j=>j==i||match ops[j]? with
    | none=>true
    | some oj=>
     (listed.getD j true||j1s ops i j||oi.apart ops oj)&&
     (!listed.getD j false|| !H0d oj.op||(!(oj.looksAt ops).contains di&&oj.dst !=some di))
def W2c (ops:Array Oper)(listed:Array Bool)(i:Nat)(ws:List Nat):Bool:=
 (Region.ready .any ops listed).contains i&&
  (!U0c ops i||(List.range ops.size).all fun k=> !listed.getD k false||ws.contains k||j1s ops k i||match ops[k]? with | none=>true | some ok=> !H0d ok.op)
def X1d (ops:Array Oper)(N:Nat)(listed:Array Bool)(p:Plan):Bool:=
 (match p with | .step i _ _=>J3q ops N listed i | _=>false)||(Region.ready .any ops listed).all (p.heads.contains ·)
def Y0v (ops:Array Oper)(N:Nat):Plan->Nat->Array Bool->Bool
 | .done,_,_=>true
 | .step _ _ _,0,_=>false
 | .step i ws rest,f+1,listed=>W2c ops listed i ws&&(Y0v ops N rest f (listed.setIfInBounds i true)&&X1d ops N (listed.setIfInBounds i true) rest)
 | .alt a b,f,listed=>Y0v ops N a f listed&&Y0v ops N b f listed
def v1p (ops:Array Oper)(N:Nat)(p:Plan):Bool:=Y0v ops N p ops.size (Array.replicate ops.size false)&&X1d ops N (Array.replicate ops.size false) p
def WG (P:Program)(ops:List Oper)(o:Oper)(s:PFS):Prop:=
 match o.dst with
 | none=>True
 | some d=>match o.guard with
  | none=>J1l s (fun p _=>s.pa.getD d .junk=p) (req P o.op o.type s.ev)
  | some (j,want)=>GK0 (X0d ops s j want) want (J1l s (fun p _=>s.pa.getD d .junk=p) (req P o.op o.type s.ev)) (s.pa.getD d .junk= .tup [])
def WL0 (P:Program)(ops:List Oper):List Nat->PFS->Prop
 | [],s=>True
 | i::ws,s=>(match ops[i]? with | some o=>WG P ops o s | none=>False)/\WL0 P ops ws s
def OG (P:Program)(ops:List Oper)(o:Oper)(K:PFS->Prop)(s:PFS):Prop:=
 match o.guard with
 | none=>OC0 P o K s
 | some (j,want)=>GK0 (X0d ops s j want) want (OC0 P o K s) (K (s.put o.dst (.tup [])))
def OS0 (P:Program)(ops:List Oper)(o:Option Oper)(K:PFS->Prop)(s:PFS):Prop:=match o with | some o=>OG P ops o K s | none=>False
def OW0 (P:Program)(ops:List Oper):Plan->(PFS->Prop)->PFS->Prop
 | .done,K,s=>K s
 | .step i ws rest,K,s=>OS0 P ops (ops[i]?) (fun s'=>WL0 P ops ws s'/\OW0 P ops rest K s') s
 | .alt a b,K,s=>OW0 P ops a K s/\OW0 P ops b K s
theorem V2o {o:Oper}{K:PFS->Prop}{s:PFS}(h:OG P ops.toList o K s):POg P ops o K s:=by
 unfold OG at h;unfold POg;split;rename_i hg;rw[hg] at h;exact q0j h;rename_i j want hg;rw[hg] at h;simp only at h;cases hb:X0d ops.toList s j want with
 | none=>rw[hb] at h;exact h.elim
 | some b=>
  rw[hb] at h;simp only;by_cases e:b=want;rw[if_pos e];exact q0j (h.1 e);rw[if_neg e];exact h.2 e
theorem V2n {i:Nat}{K:PFS->Prop}{s:PFS}(h:OS0 P ops.toList (ops.toList[i]?) K s):POp P ops i K s:=by unfold OS0 at h;unfold POp;have e:ops.toList[i]?=ops[i]?:=(by simp);rw[e] at h;split at h;rename_i o ho;rw[ho];exact V2o h;exact h.elim
theorem V3r {o:Oper}{s:PFS}(hq:X0q o.op=true)(h:WG P ops.toList o s):x3t P ops o s:=by
 intro d hd;unfold WG at h;unfold QY;rw[hd] at h;simp only at h;have run:J1l s (fun p _=>s.pa.getD d .junk=p) (req P o.op o.type s.ev)->(req P o.op o.type s.ev).run s=some (s.pa.getD d .junk,s):=fun h=>by obtain⟨p,s',hr,rfl⟩:=Z1n h;have:=W3o (s':=s) (X2v hq).1 hr;subst this;exact hr
 split;rename_i hg;rw[hg] at h;exact run h;rename_i j want hg;rw[hg] at h;simp only at h;cases hb:X0d ops.toList s j want with
 | none=>rw[hb] at h;exact h.elim
 | some b=>
  rw[hb] at h;simp only;by_cases e:b=want;rw[if_pos e];exact run (h.1 e);rw[if_neg e];exact h.2 e
theorem x1b {s:PFS} : ∀ {ws:List Nat},WL0 P ops.toList ws s-> ∀i∈ws,∀o,ops[i]?=some o->X0q o.op=true->x3t P ops o s
 | [],h,i,hi,o,ho,hq=>by cases hi
 | k::ws,h,i,hi,o,ho,hq=>by obtain⟨h1,h2⟩:=h;rcases List.mem_cons.1 hi with rfl | hi;have e:ops.toList[i]?=some o:=(by simpa using ho);rw[e] at h1;exact V3r hq h1;exact x1b h2 i hi o ho hq
theorem V3u {i:Nat}{K K':PFS->Prop}{s:PFS}(h:POp P ops i K s)(hk: ∀s,K s->K' s):POp P ops i K' s:=by unfold POp at h⊢;split;rename_i ho;rw[ho] at h;exact h;rename_i o ho;rw[ho] at h;exact k0y h hk
theorem w2a {i:Nat}{K:PFS->Prop}{s:PFS}(h:POp P ops i K s):POp P ops i (fun s'=>K s'/\s'.pa.length=s.pa.length) s:=by unfold POp at h⊢;split;rename_i ho;rw[ho] at h;exact h;rename_i o ho;rw[ho] at h;refine k0y (w2c h) fun s' ⟨h1,u,h2⟩=>⟨h1,by rw[h2];exact(Y0m s o.dst u).2.2.2⟩
theorem Y2q {p:Plan}{s:PFS}(h:p.heads= []):OW0 P ops.toList p K s->K s:=by
 induction p with
 | done=>exact id
 | step i ws rest=>cases h
 | alt a b iha ihb=>exact fun hw=>iha (by simp only[Plan.heads,List.append_eq_nil_iff] at h;exact h.1) hw.1
theorem V0t {N:Nat}{p:Plan} : ∀ {f:Nat} {listed:Array Bool},Y0v ops N p f listed=true-> ∀i∈p.heads,i∈Region.ready .any ops listed/\f≠0:=by
 induction p with
 | done=>intro f listed h i hi;cases hi
 | step k ws rest ih=>
  intro f listed h i hi;cases f with
  | zero=>cases h
  | succ f=>
   simp only[Plan.heads,List.mem_singleton] at hi;subst hi;simp only[Y0v,W2c,q_i] at h;exact⟨by simpa using h.1.1,by simp⟩
 | alt a b iha ihb=>
  intro f listed h i hi;have hab:Y0v ops N a f listed=true/\Y0v ops N b f listed=true:=(by cases f<;>simpa[Y0v] using h);simp only[Plan.heads,List.mem_append] at hi;exact hi.elim (iha hab.1 i) (ihb hab.2 i)
theorem Z1p {N:Nat} : ∀(p:Plan) (f:Nat) (listed:Array Bool),Y0v ops N p f listed=true->Y0u ops listed->
 (∀s,N<=s.pa.length->OW0 P ops.toList p K s-> ∀i∈p.heads,POp P ops i (fun s'=>(U0c ops i=true->K0u P ops listed i s')/\PAny P ops K (f-1) (listed.setIfInBounds i true) s') s)/\
 (X1d ops N listed p=true-> ∀s,N<=s.pa.length->OW0 P ops.toList p K s->PAny P ops K f listed s):=by
 have full: ∀(p:Plan) (f:Nat) (listed:Array Bool),Y0v ops N p f listed=true->Y0u ops listed->
  (∀s,N<=s.pa.length->OW0 P ops.toList p K s-> ∀i∈p.heads,POp P ops i (fun s'=>(U0c ops i=true->K0u P ops listed i s')/\PAny P ops K (f-1) (listed.setIfInBounds i true) s') s)->
  X1d ops N listed p=true-> ∀s,N<=s.pa.length->OW0 P ops.toList p K s->PAny P ops K f listed s:=by
  intro p f listed hB hcl hh hf s hl hw;simp only[X1d,Bool.or_eq_true] at hf;rcases hf with hf | hf;cases p with
  | step i ws rest=>
   simp only[J3q] at hf;cases hoi:ops[i]? with
   | none=>rw[hoi] at hf;cases hf
   | some oi=>
    rw[hoi] at hf;simp only at hf;cases hdi:oi.dst with
    | none=>rw[hdi] at hf;cases hf
    | some di=>
     rw[hdi] at hf;simp only[q_i,Bool.not_eq_true',decide_eq_true_eq,q_d,List.mem_range] at hf;obtain⟨⟨⟨hq,hown⟩,hN⟩,hall⟩:=hf;have hready:=V0t hB i (by simp[Plan.heads]);have hp:=hh s hl hw i (by simp[Plan.heads]);cases f with
     | zero=>exact absurd rfl hready.2
     | succ f=>
      unfold POp at hp;rw[hoi] at hp;obtain⟨u,hy,_,hrest⟩:=Y1o hq hp;refine Y2a (di:=di) hoi hq hdi (by simpa using hown) hN f listed s hl hcl (fun j oj hj hji hun hnr=> ?_) (fun k ok hk hkl hlo=> ?_) hready.1 hy (by simpa using hrest);have hlt:=(Array.getElem?_eq_some_iff.1 hj).1;have:=hall j hlt;simp only[hj,beq_iff_eq,hji,Bool.or_eq_true,q_i,hun,hnr,Bool.false_eq_true,false_or] at this;exact this.1;by_cases hki:k=i;subst hki;have:=(mem_ready.1 hready.1).1;rw[W1i this] at hkl;cases hkl;have hlt:=(Array.getElem?_eq_some_iff.1 hk).1;have:=hall k hlt;simp only[hk,beq_iff_eq,hki,Bool.or_eq_true,q_i,hkl,hlo,Bool.not_true,Bool.false_eq_true,false_or] at this;have h2:=this.2;simp only[Bool.not_eq_true',bne_iff_ne,ne_eq] at h2;exact⟨by simpa using h2.1,h2.2⟩
  | done=>cases hf
  | alt a b=>cases hf
  have hcov: ∀i∈Region.ready .any ops listed,i∈p.heads:=fun i hi=>by have:=List.all_eq_true.1 hf i hi;simpa using this
  have hnil:Region.ready .any ops listed= []->K s:=fun h0=>Y2q (by
   cases hp:p.heads with
   | nil=>rfl
   | cons i l=>
    have:=(V0t hB i (by rw[hp];simp)).1;rw[h0] at this;cases this) hw
  cases f with
  | zero=>
   have h0:Region.ready .any ops listed= []:=by
    cases hr:Region.ready .any ops listed with
    | nil=>rfl
    | cons i l=>exact absurd rfl (V0t hB i (hcov i (by rw[hr];simp))).2
   exact⟨h0,hnil h0⟩
  | succ f=>exact⟨hnil,fun i hi=>hh s hl hw i (hcov i hi)⟩
 intro p
 induction p with
 | done=>
  intro f listed hB hcl;have h1: ∀s,N<=s.pa.length->OW0 P ops.toList .done K s-> ∀i∈Plan.done.heads,POp P ops i (fun s'=>(U0c ops i=true->K0u P ops listed i s')/\PAny P ops K (f-1) (listed.setIfInBounds i true) s') s:=fun s hl hw i hi=>(by cases hi);exact⟨h1,full .done f listed hB hcl h1⟩
 | step k ws rest ih=>
  intro f listed hB hcl;have h1: ∀s,N<=s.pa.length->OW0 P ops.toList (.step k ws rest) K s-> ∀i∈(Plan.step k ws rest).heads,POp P ops i (fun s'=>(U0c ops i=true->K0u P ops listed i s')/\PAny P ops K (f-1) (listed.setIfInBounds i true) s') s:=by
   intro s hl hw i hi;have hready:=V0t hB i hi;simp only[Plan.heads,List.mem_singleton] at hi;subst hi;cases f with
   | zero=>exact absurd rfl hready.2
   | succ f=>
    simp only[Y0v,W2c,q_i,Bool.or_eq_true,q_d,List.mem_range] at hB;obtain⟨⟨_,hws⟩,hrB,hrF⟩:=hB;obtain⟨_,ih2⟩:=ih f (listed.setIfInBounds i true) hrB (z0l hcl hready.1);refine V3u (w2a (V2n hw)) ?_;rintro s' ⟨⟨hW,hO⟩,hlen⟩;refine⟨fun heff k ok hkl hok hkq hkl' hkr=> ?_,ih2 hrF s' oG hO⟩;rcases hws with hws | hws;rw[heff] at hws;cases hws;have:=hws k (Array.getElem?_eq_some_iff.1 hok).1;simp only[hkl,hkr,hok,hkl',Bool.not_true,Bool.false_eq_true,false_or,or_false] at this;exact x1b hW k (by simpa using this) ok hok hkq
  exact⟨h1,full _ f listed hB hcl h1⟩
 | alt a b iha ihb=>
  intro f listed hB hcl;have hab:Y0v ops N a f listed=true/\Y0v ops N b f listed=true:=(by cases f<;>simpa[Y0v] using hB);have h1: ∀s,N<=s.pa.length->OW0 P ops.toList (.alt a b) K s-> ∀i∈(Plan.alt a b).heads,POp P ops i (fun s'=>(U0c ops i=true->K0u P ops listed i s')/\PAny P ops K (f-1) (listed.setIfInBounds i true) s') s:=by intro s hl hw i hi;simp only[Plan.heads,List.mem_append] at hi;exact hi.elim ((iha f listed hab.1 hcl).1 s hl hw.1 i) ((ihb f listed hab.2 hcl).1 s hl hw.2 i)
  exact⟨h1,full _ f listed hB hcl h1⟩
theorem w0o {E:Ent}{Q:Exit->Act->World->Prop}(hK: ∀a' w' g' F' s',FSRep E a' w' g' F' s'->K s'->Q .normal a' w'): ∀(f:Nat) (listed:Array Bool) (a:Act) (w:World) (g:Gh) (F:Fr) (s:PFS),
 FSRep E a w g F s->PAny P ops K f listed s->wpAnyIn (fen E.rd) 0 P .any ops Q f listed a w:=by
 intro f
 induction f with
 | zero=>exact fun listed a w g F s hr h=>⟨h.1,hK a w g F s hr h.2⟩
 | succ f ih=>
  intro listed a w g F s hr h;refine⟨fun h0=>hK a w g F s hr (h.1 h0),fun i hi=> ?_⟩;have hp:=h.2 i hi;unfold POp at hp;unfold wpOpIn;cases hoi:ops[i]? with
  | none=>rw[hoi] at hp;exact hp.elim
  | some o=>
   rw[hoi] at hp;simp only at hp⊢;unfold POg at hp;split at hp;rename_i hg;rw[if_pos (by simp[Region.wanted,hg])];exact W0f hr hp fun a' w' g' F' s' hr' hk=>ih _ a' w' g' F' s' hr' hk.2;rename_i j want hg;split at hp;rename_i b hb;have hy:=U0e hr hb;split at hp;rename_i he;subst he;rw[if_pos (by unfold Region.wanted;rw[hg];simp only;rw[hy];simp)];exact W0f hr hp fun a' w' g' F' s' hr' hk=>ih _ a' w' g' F' s' hr' hk.2;rename_i he;rw[if_neg (by unfold Region.wanted;rw[hg];simp only;rw[hy];simp[he])];exact⟨H0i,ih _ _ w g F _ (hr.put o.dst (.base _ _ (q0z _ _))) hp.2⟩;exact hp.elim
end
theorem q2k {P:Program}{E:Ent}{id:Nat}{l:List Oper}{Q:Exit->PFS->Prop}{s:PFS}(hm:P.follows .mixedOrders=true)(N:Nat)(p:Plan)(hB:v1p l.toArray N p=true)(hl:N<=s.pa.length)
 (h:OW0 P l p (Q .normal) s):PWP P E (.region id l.toArray true) Q s:=by
 intro a w g F hr;simp only[v1p,q_i] at hB;have hcl:Y0u l.toArray (Array.replicate l.toArray.size false):=fun k ok e hk hkl he hb=>by by_cases hkk:k<l.length<;>simp[hkk,q_f,Array.getElem?_replicate] at hkl
 have:=(Z1p (P:=P) (K:=Q .normal) p _ _ hB.1 hcl).2 hB.2 s hl (by simpa using h);exact wpIn_region_any hm (w0o (fun a' w' g' F' s' hr' hk=>⟨g',F',s',hr',hk⟩) _ _ _ _ g F s hr.drew.1 this)
section
variable {P:Program} {s:PFS} {K:PFS->Prop} {d:Option Tmp} {ty:TypeId} {pos:String} {af:Array Edge}
def OW (P:Program)(ops:List Oper)(p:Plan)(K:PFS->Prop)[Stop ops][Stop p][Stop K](s:PFS):Prop:=OW0 P ops p K s
def OS (P:Program)(ops:List Oper)(o:Option Oper)(K:PFS->Prop)[Stop ops][Stop K](s:PFS):Prop:=OS0 P ops o K s
def WL (P:Program)(ops:List Oper)(ws:List Nat)[Stop ops](s:PFS):Prop:=WL0 P ops ws s
def WO (P:Program)(ops:List Oper)(o:Option Oper)[Stop ops](s:PFS):Prop:=match o with | some o=>WG P ops o s | none=>False
@[go_sem] theorem W4e {ops:List Oper} :OW P ops .done K s=K s:=(rfl)
@[go_sem] theorem x3o {ops:List Oper}{i:Nat}{rest:Plan} :OW P ops (.step i [] rest) K s=OS P ops (ops[i]?) (OW P ops rest K) s:=by simp only[OW,OW0,OS,WL0,true_and];rfl
@[go_sem] theorem X4h {ops:List Oper}{i k:Nat}{ws:List Nat}{rest:Plan} :OW P ops (.step i (k::ws) rest) K s=OS P ops (ops[i]?) (fun s'=>WL P ops (k::ws) s'/\OW P ops rest K s') s:=(rfl)
@[go_sem] theorem Y4m {ops:List Oper}{a b:Plan} :OW P ops (.alt a b) K s=(OW P ops a K s/\OW P ops b K s):=(rfl)
@[go_sem] theorem W4g {ops:List Oper}{op:Op} :OS P ops (some ⟨d,op,ty,pos,af,none⟩) K s=OC P ⟨d,op,ty,pos,af,none⟩ K s:=(rfl)
@[go_sem] theorem W4f {ops:List Oper}{op:Op}{j:Nat}{want:Bool} :OS P ops (some ⟨d,op,ty,pos,af,some (j,want)⟩) K s=GK (X0d ops s j want) want (OC P ⟨d,op,ty,pos,af,some (j,want)⟩ K s) (K (s.put d (.tup []))):=(rfl)
@[go_sem] theorem Y4i {ops:List Oper} :WL P ops [] s=True:=(rfl)
@[go_sem] theorem V4u {ops:List Oper}{i:Nat}{ws:List Nat} :WL P ops (i::ws) s=(WO P ops (ops[i]?) s/\WL P ops ws s):=(rfl)
@[go_sem] theorem V4t {ops:List Oper}{d:Tmp}{t:TypeId}{x:Operand} :WO P ops (some ⟨some d,.load t x,ty,pos,af,none⟩) s=ReqK s (fun p _=>s.pa.getD d .junk=p) (j0o (ti P t) (s.ev x)):=(rfl)
@[go_sem] theorem V4s {ops:List Oper}{d:Tmp}{t:TypeId}{x:Operand}{j:Nat}{want:Bool} :WO P ops (some ⟨some d,.load t x,ty,pos,af,some (j,want)⟩) s=GK (X0d ops s j want) want (ReqK s (fun p _=>s.pa.getD d .junk=p) (j0o (ti P t) (s.ev x))) (s.pa.getD d .junk= .tup []):=(rfl)
end
theorem Q0k {P:Program}{E:Ent}{id:Nat}{l:List Oper}{Q:Exit->PFS->Prop}{s:PFS}(hm:P.follows .mixedOrders=true)(N:Nat)(p:Plan)(hB:v1p l.toArray N p=true)(hl:N<=s.pa.length)
 (h:OW P l p (Q .normal) s):PWP P E (.region id l.toArray true) Q s:=q2k hm N p hB hl h
def X2p :List Nat->Plan->Plan
 | [],p=>p
 | i::l,p=> .step i [] (X2p l p)
@[go_sem] theorem Y4u {P:Program}{ops:List Oper}{K:PFS->Prop}{s:PFS}{p:Plan} :OW P ops (X2p [] p) K s=OW P ops p K s:=rfl
@[go_sem] theorem Y4x {P:Program}{ops:List Oper}{K:PFS->Prop}{s:PFS}{i:Nat}{l:List Nat}{p:Plan} :OW P ops (X2p (i::l) p) K s=OS P ops (ops[i]?) (OW P ops (X2p l p) K) s:=x3o
attribute [go_sem] Nat.reduceAdd Nat.reduceSub Nat.reduceMul Nat.reduceLeDiff Nat.reduceLT Nat.reduceEqDiff Nat.reduceBEq Nat.reduceBNe reduceIte Int.reduceToNat Int.reduceLT Int.reduceLE Int.reduceAdd Int.reduceSub
attribute [go_sem] Nat.mul_one Nat.one_mul Nat.lt_add_one Nat.zero_lt_succ
@[go_sem] theorem Y4e :(true !=false)=true:=(rfl)
@[go_sem] theorem Y4g :(false !=false)=false:=(rfl)
@[go_sem] theorem Y4d :(true !=true)=false:=(rfl)
@[go_sem] theorem Y4f :(false !=true)=true:=(rfl)
theorem U3h (n:Nat):IntKind.u8.wrap (n:Int)=((n % 256:Nat):Int):=by simp[IntKind.wrap,IntKind.bits,IntKind.signed]
theorem K0k (n:Nat)(h:n<18446744073709551616):IntKind.u64.wrap (n:Int)=(n:Int):=by simp[IntKind.wrap,IntKind.bits,IntKind.signed];omega
theorem Q0q (n:Int)(h: -9223372036854775808<=n)(h2:n<9223372036854775808):IntKind.i64.wrap n=n:=by have e:IntKind.i64.wrap n=if n % 2^64>=2^(64-1) then n % 2^64-2^64 else n % 2^64:=(by simp[IntKind.wrap,IntKind.bits,IntKind.signed]);rw[e];split<;>omega
theorem Q1u (k:IntKind)(v c:Nat)(h:c<=k.bits):bShr k (v:Int) (c:Int)=((v/2^c:Nat):Int):=by unfold bShr;rw[Int.toNat_natCast,Nat.min_eq_left h];rw[show((2:Int)^c)=((2^c:Nat):Int) from by simp];exact(Int.ofNat_fdiv v (2^c)).symm
def encB (l:List UInt8):List PV:=l.map fun c=> .sc (.int .u8 c.toNat)
@[go_sem] theorem z3h (l:List UInt8):(encB l).length=l.length:=by simp[encB]
@[go_sem] theorem Z4g :encB []= []:=(rfl)
@[go_sem] theorem K4z (l:List UInt8):(encB l).all (fun x=>x.cells.length==1)=true:=by simp[encB,PV.cells]
@[go_sem] theorem V4a (l:List UInt8):(encB l).all (fun x=>(x.cells.length==1)&&x.cells.all PV.cellOK)=true:=by simp[encB,PV.cells,PV.cellOK,Value.oneCell']
theorem K3j (l m:List UInt8):encB l++encB m=encB (l++m):=by simp[encB]
theorem j2x (l:List UInt8)(c:UInt8):encB l++ [.sc (.int .u8 c.toNat)]=encB (l++ [c]):=by simp[encB]
end Go.Pv
end
