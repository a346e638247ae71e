/- Walk. -/
import Derived.Test.YtpfladficeildaaGreatDoorZBD
import Derived.RangeFuncRecord
set_option linter.all false
set_option maxHeartbeats 160000000
section
namespace Go.Pv
def UC :Obj->Bool
 | .cells .. =>false
 | _=>true
structure Live (l:Nat) (o:Obj) (w:World) (g:Gh):Prop where
 is:w.heap[l]?=some o
 apart: ∀i,i<g.n->g.mu i≠l
section
variable {P:Program} {l:Nat} {o:Obj} {w w':World} {g g':Gh}
theorem Live.lt (h:Live l o w g):l<w.heap.size:=(C3.1 h.is).1
theorem Live.ext (h:Live l o w g)(x:Ext w g w' g'):Live l o w' g':=by refine⟨(x.old l h.lt h.apart).1.trans h.is,fun i hi e=> ?_⟩;by_cases hin:i<g.n;rw[x.le.mu i hin] at e;exact h.apart i hin e;have:=x.new i oG hi;have:=h.lt;omega
theorem Live.turn (h:Live l o w g)(o':Obj):Live l o' (w.putObj l o') g:=⟨World.putObj_heap_same h.lt,h.apart⟩
theorem Y0f (h:w.heap[l]?=some o)(hc:UC o=true)(j:Nat):w.cell? ⟨l,j,none⟩=none:=by simp only[World.cell?,h];cases o<;>first | rfl | simp_all [UC]
theorem Y0e {b j:Nat}(h:b≠l):(w.putObj l o).cell? ⟨b,j,none⟩=w.cell? ⟨b,j,none⟩:=World.cell?_of_block (w:=w) (w':=w.putObj l o) (a:=⟨b,j,none⟩) (World.putObj_heap_other h)
theorem IZ (o':Obj)(h:w.heap[l]?=some o)(hc:UC o=true):Chg w g (w.putObj l o') g (fun b=>b=l):=
 ⟨⟨BD _,fun _ _=>rfl,fun _=>BD _,fun b j c hj hx=>by by_cases e:b=l;subst e;rw[Y0f h hc] at hx;cases hx;rw[Y0e e];exact hx⟩,rfl,rfl,rfl,by simp,fun b hb hn=>⟨World.putObj_heap_other hn,rfl⟩,fun i hi hi'=>oG⟩
theorem Ext.turn (o':Obj)(x:Ext w g w' g')(h:Live l o w g)(hc':UC o'=true):Ext (w.putObj l o') g (w'.putObj l o') g':=by have h':=h.ext x;refine⟨⟨x.le.n,x.le.mu,x.le.vis,fun b j c hj hx=> ?_⟩,x.os,x.tape,x.output,by simpa using x.size,fun b hb hn=> ?_,fun i hi hi'=>by simpa using x.new i hi hi'⟩;by_cases e:b=l;subst e;rw[Y0f (World.putObj_heap_same h.lt) hc'] at hx;cases hx;rw[Y0e e] at hx⊢;exact x.le.cell b j c hj hx;have hb1:b<w.heap.size:=(by simpa using hb);by_cases e:b=l;subst e;exact⟨(World.putObj_heap_same h'.lt).trans (World.putObj_heap_same h.lt).symm,(x.old b hb1 hn).2⟩;rw[World.putObj_heap_other e,World.putObj_heap_other e];exact x.old b hb1 hn
theorem Sb (o':Obj):(w.putObj l o).putObj l o'=w.putObj l o':=by simp[World.putObj]
theorem Z1n (h:w.heap[l]?=some o):w.putObj l o=w:=by
 obtain⟨hlt,he⟩:=C3.1 h;have:w.heap.setIfInBounds l o=w.heap:=by refine Array.ext (by simp) fun i h1 h2=> ?_;by_cases e:l=i;subst e;simp[he];rw[Array.getElem_setIfInBounds_ne (by simpa using h1) e]
 show { w with heap:=w.heap.setIfInBounds l o } =w;rw[this]
theorem StoreOK.turn {st:Qc}(h:StoreOK w g st)(o':Obj)(hl:Live l o w g)(hc:UC o=true):StoreOK (w.putObj l o') g st:=
 h.step (IZ o' hl.is hc) rfl (fun i hi e=>hl.apart i hi e) (fun b hb=>h.none b (by simpa using hb))
def Ent.turn (E:Ent)(l:Nat)(o:Obj):Ent:= { E with w:=E.w.putObj l o }
theorem FSRep.turn {E:Ent}{a:Act}{F:Fr}{s:PFS}(o':Obj)(h:FSRep E a w g F s)(hl:Live l o E.w E.g)(hc:UC o=true)(hc':UC o'=true):
 FSRep (E.turn l o') a (w.putObj l o') g F s:=by
 have hl':=hl.ext h.ext;have k:=IZ (g:=g) o' hl'.is hc;obtain⟨f1,f2⟩:=h.frame.step k (fun i hi e=>by have:=(h.frame.lo i hi).1;have:=hl.lt;omega) (fun i b hi hb e=>by have:=(h.frame.tlo i b hi hb).1;have:=hl.lt;omega);refine⟨h.ext.turn o' hl hc',h.store.turn o' hl' hc,?_,h.defers,h.len,fun t ht=>f2 _ _ (h.tmps t ht)⟩;have e:(E.turn l o').w.heap.size=E.w.heap.size:=World.putObj_size;rw[e];exact f1
end
def Jw (r:Loop)(c:Code):Obj:= .loop { r with state:= .done,pending:=some c }
def U0v (l:Nat)(r:Loop)(Q:Qc->Prop)(Qx:Code->Qc->Prop)(w:World)(g:Gh)(e:Ending)(w':World):Prop:=
 ∃g' st',StoreOK w' g' st'/\((e= .returned (.bool true)/\Ext w g w' g'/\Q st')\/ ∃c,e= .returned (.bool false)/\Ext (w.putObj l (Jw r c)) g w' g'/\Qx c st')
def PYields (P:Program)(l:Nat)(r:Loop)(w0:World)(g0:Gh)(args:List PV)(st:Qc)(Q:Qc->Prop)(Qx:Code->Qc->Prop):Prop:=
 ∀w g vs,Ext w0 g0 w g->StoreOK w g st->WI w g vs args->Live l (.loop r) w g->
  ∃fn tmps assign body,(Instr.yield l vs).run P w= .ok (.round l fn tmps assign body) w/\RoundIn Fence.wide 0 P l fn tmps assign body w (U0v l r Q Qx w g)
def xV (P:Program)(f:FuncId)(l:Nat)(r:Loop)(w:World)(g:Gh)(args:List PV)(st:Qc)(Q:Qc->Prop)(Qx:Code->Qc->Prop):Prop:=
 ∀vs,StoreOK w g st->WI w g vs args->Live l (.loop r) w g->
  Calls P f vs w fun e w'=> ∃v g' st',e= .returned v/\StoreOK w' g' st'/\((Ext w g w' g'/\Q st')\/ ∃c,Ext (w.putObj l (Jw r c)) g w' g'/\Qx c st')
theorem PYields.mono {P:Pg}{l:Nat}{r:Loop}{w0:Lw}{g0:Gh}{args:Lp}{st:Qc}{Q Q':Qc->Prop}{Qx Qx':Code->Qc->Prop}(h:PYields P l r w0 g0 args st Q Qx)(hq: ∀st,Q st->Q' st)(hx: ∀c st,Qx c st->Qx' c st):
 PYields P l r w0 g0 args st Q' Qx':=fun w g vs hb hs hr hl=>by
 obtain⟨fn,tmps,assign,body,h1,h2⟩:=h w g vs hb hs hr hl;refine⟨fn,tmps,assign,body,h1,h2.mono ?_⟩;rintro e w' ⟨g',st',hs,⟨h1,h2,h3⟩ | ⟨c,h1,h2,h3⟩⟩;exact⟨g',st',hs,.inl ⟨h1,h2,hq _ h3⟩⟩;exact⟨g',st',hs,.inr ⟨c,h1,h2,hx _ _ h3⟩⟩
def Ir (E:Ent)(l:Nat)(r:Loop)(Q:Exit->PFS->Prop)(Qx:Code->Exit->PFS->Prop)(e:Exit)(a:Act)(w:World):Prop:=
 post E Q e a w\/ ∃c,post (E.turn l (Jw r c)) (Qx c) e a w
def PW2 (P:Program)(E:Ent)(l:Nat)(r:Loop)(c:Code)(Q:Exit->PFS->Prop)(Qx:Code->Exit->PFS->Prop)(s:PFS):Prop:=
 ∀a w g F,FSRep E a w g F s->c.wpIn (fen E.rd) 0 P (Ir E l r Q Qx) a w
section
variable {P:Program} {E:Ent} {l:Nat} {r:Loop} {Q Q':Exit->PFS->Prop} {Qx Qx':Code->Exit->PFS->Prop} {s:PFS}
theorem XJ {c:Code}(h:PWP P E c Q s):PW2 P E l r c Q Qx s:=fun a w g F hr=>wpIn_mono (h a w g F hr) fun _ _ _ h=> .inl h
theorem Z1l {c:Code}{s':PFS}(hw:Weak E s s')(h:PW2 P E l r c Q Qx s'):PW2 P E l r c Q Qx s:=fun a w g F hr=>by obtain⟨g1,F1,h1⟩:=hw a w g F hr;exact h a w g1 F1 h1
theorem J1 {x y:Code}(h:PW2 P E l r x (ZO (PW2 P E l r y Q Qx) Q) (fun c=>ZO (PWP P (E.turn l (Jw r c)) y (Qx c)) (Qx c)) s):PW2 P E l r (.seq x y) Q Qx s:=by
 intro a w g F hr;refine wpIn_seq (wpIn_mono (h a w g F hr) ?_);rintro e a w (⟨g,F,s,hr,hq⟩ | ⟨c,g,F,s,hr,hq⟩);cases e with
 | normal=>exact hq a w g F hr
 | _=>exact .inl ⟨g,F,s,hr,hq⟩
 cases e with
 | normal=>exact wpIn_mono (hq a w g F hr) fun _ _ _ h=> .inr ⟨c,h⟩
 | _=>exact .inr ⟨c,g,F,s,hr,hq⟩
theorem zG {id:Nat}{c:Code}(h:PW2 P E l r c (XL id Q) (fun c=>XL id (Qx c)) s):PW2 P E l r (.block id c) Q Qx s:=by
 have key: ∀ {E:Ent} {Q:Pe} {g:Gh} {F:Fr} {s:PFS} {e:Exit} {a:Act} {w:Lw} {R:Pt},FSRep E a w g F s->XL id Q e s->(∀e,post E Q e a w->R e a w)->Exit.inBlock id R e a w:=by
  intro E Q g F s e a w R hr hq hR;cases e with
  | exit id'=>
   simp only[Exit.inBlock,XL] at hq⊢;split;rename_i h;rw[BC h] at hq;exact hR _ ⟨g,F,s,hr,hq⟩;rename_i h;rw[BA h] at hq;exact hR _ ⟨g,F,s,hr,hq⟩
  | _=>exact hR _ ⟨g,F,s,hr,hq⟩
 intro a w g F hr;refine wpIn_block (wpIn_mono (h a w g F hr) ?_);rintro e a w (⟨g,F,s,hr,hq⟩ | ⟨c,g,F,s,hr,hq⟩);exact key hr hq fun e h=> .inl h;exact key hr hq fun e h=> .inr ⟨c,h⟩
theorem Z1m {c:Code}(I:Nat->PFS->Prop)(n:Nat)(h0:I n s)
 (round: ∀n s,I n s->PW2 P E l r c (ZO (fun s'=> ∃m,m<n/\I m s') Q) (fun c=>ZO (fun _=>False) (Qx c)) s):PW2 P E l r (.loop c) Q Qx s:=by
 intro a w g F hr b k cs hro hbf hrm;have key: ∀n s a w g F,I n s->FSRep E a w g F s->
  ∃e a' w',Ir E l r Q Qx e a' w'/\ArrivesIn (Machine.fenced P (fen E.rd)) P (lone (b.atR a (.code c:: .inLoop c::k)) cs w) b k cs e a' w':=by
  intro n
  induction n using Nat.strongRecOn with
  | _ n ih=>
   intro s a w g F hI hr;obtain⟨e,a₁,w₁,hp,harr⟩:=round n s hI a w g F hr b (.inLoop c::k) cs hro hbf hrm;by_cases hn:e= .normal;subst hn;rcases hp with ⟨g1,F1,s1,hr1,hq⟩ | ⟨c',g1,F1,s1,hr1,hq⟩;obtain⟨m,hm,hI₁⟩:=hq;obtain⟨e₂,a₂,w₂,hq₂,harr₂⟩:=ih m hm s1 a₁ w₁ g1 F1 hI₁ hr1;exact⟨e₂,a₂,w₂,hq₂,.of_steps (StepsIn.trans harr (.one (fenced_calm hbf hrm rfl) stepR_inLoop)) harr₂⟩;exact hq.elim;have hp':Ir E l r Q Qx e a₁ w₁:=by rcases hp with ⟨g1,F1,s1,hr1,hq⟩ | ⟨c',g1,F1,s1,hr1,hq⟩;exact .inl ⟨g1,F1,s1,hr1,by cases e<;>first | exact hq | exact absurd rfl hn⟩;exact .inr ⟨c',g1,F1,s1,hr1,by cases e<;>first | exact hq | exact absurd rfl hn⟩
   exact⟨e,a₁,w₁,hp',.pass (x:= .inLoop c) rfl (fun _ _=> .inl hn) harr⟩
 obtain⟨e,a',w',hq,harr⟩:=key n s a w g F h0 hr;exact⟨e,a',w',hq,.of_steps (.one (fenced_calm hbf hrm rfl) stepR_loop) harr⟩
end
def HG (op:Op)(r:Operand->PV):Option (Nat×List PV):=
 match op with
 | .call { callee:= .value f,args,.. } =>
  match r f with
  | .fn (.yield l) [] []=>some (l,args.toList.map r)
  | _=>none
 | _=>none
theorem q1z {w:Lw}{g:Gh}{F:Fr}{T:Lv}{v:Value}{l:Nat}(h:RepF w g F T v (.fn (.yield l) [] [])):v= .func (.yield l) #[] #[]:=by
 have z: ∀ {us:Lb},us.size=([]:Lp).length->us= #[]:=fun h=>Array.eq_empty_of_size_eq_zero h;cases h with
 | base _ _ h=>cases h with | fn f us vs bs cs hk hl h0 h=>rw[z hk,z hl]
 | fn f us vs bs cs hk hl h0 h=>rw[z hk,z hl]
section
variable {P:Program} {E:Ent} {l:Nat} {r:Loop} {a:Act} {w:World} {g:Gh} {F:Fr} {s:PFS}
theorem x1c {o:Oper}{xs:Lp}(h:FSRep E a w g F s)(hc:HG o.op s.ev=some (l,xs)):
 (∀c,o.op≠ .defer c)/\ ∃vs:Array Value,vs.size=xs.length/\(∀j,j<xs.length->RepF w g F s.T (vs.getD j undef) (xs.getD j .junk))/\(execOp a.eval o).run P w=(Instr.yield l vs).run P w:=by
 unfold HG at hc;split at hc;rename_i fo args ts heq;split at hc;rename_i l' hfo;simp only[BU,CZ] at hc;obtain⟨rfl,rfl⟩:=hc;have hv:=h.ev fo;rw[hfo] at hv;have hv:=q1z hv;have hm:=evs h (args:=args.toList);refine⟨fun c e=>(by rw[heq] at e;cases e),args.map a.eval,by simp,fun j hj=> ?_,?_⟩;have:=hm j (by simpa using hj);rw[<-Vh] at this;simpa using this;unfold execOp;simp only[heq,resolve,hv,Deferred.ofValue,invoke,Sem.run_bind,Sem.run_pure,Result.andThen_ok];simp;cases hc;cases hc
theorem yZ {o:Oper}{xs:Lp}{K:Pf}{Kx:Code->PFS->Prop}{next:Act->World->Prop}{Q:Pt}(h:FSRep E a w g F s)(hE:Live l (.loop r) E.w E.g)(hrd:E.rd=none)
 (hc:HG o.op s.ev=some (l,xs)) (hcl:xs.all PV.closed2=true)
 (hy:PYields P l r E.w E.g (xs.map PV.forget2) s.st (fun st=>K (({ s with st:=st } :PFS).put o.dst (.sc (.bool true)))) (fun c st=>Kx c (({ s with st:=st } :PFS).put o.dst (.sc (.bool false)))))
 (hn: ∀a' w' g' F' s',FSRep E a' w' g' F' s'->K s'->next a' w')
 (hx: ∀c a' w' g' F' s',FSRep (E.turn l (Jw r c)) a' w' g' F' s'->Kx c s'->next a' w'):o.wpIn (fen E.rd) 0 P a w next Q:=by
 obtain⟨hd,vs,v1,v2,v3⟩:=x1c (P:=P) h hc;refine⟨V7,?_⟩;rw[V0d,Oper.semAt_eq _ _ _ hd,v3];have hl:=hE.ext h.ext;obtain⟨fn,tmps,assign,body,hrun,hround⟩:=hy w g vs h.ext h.store (jW v1 v2 hcl) hl;rw[hrun,hrd];refine⟨fun e=>(by cases e),hround.mono ?_⟩;rintro e w' ⟨g',st',hs,⟨rfl,hext,hK⟩ | ⟨c,rfl,hext,hK⟩⟩;obtain⟨h1,_⟩:=h.called hext hs;exact hn _ _ _ _ _ (h1.put o.dst (.base _ _ (.sc _))) hK;have ht:=h.turn (Jw r c) hE rfl rfl;obtain⟨h1,_⟩:=ht.called hext hs;exact hx c _ _ _ _ _ (h1.put o.dst (.base _ _ (.sc _))) hK
end
def WJ (P:Program)(E:Ent)(l:Nat)(r:Loop)(o:Oper)(K:PFS->Prop)(Kx:Code->PFS->Prop)(s:PFS):Prop:=
 match HG o.op s.ev with
 | some (l',xs)=>l'=l/\xs.all PV.closed2=true/\PYields P l r E.w E.g (xs.map PV.forget2) s.st (fun st=>K (({ s with st:=st } :PFS).put o.dst (.sc (.bool true)))) (fun c st=>Kx c (({ s with st:=st } :PFS).put o.dst (.sc (.bool false))))
 | none=>False
def YU (P:Program)(E:Ent)(l:Nat)(r:Loop)(ops:List Oper):Nat->List Oper->(PFS->Prop)->(Code->PFS->Prop)->PFS->Prop
 | _,[],K,_,s=>K s
 | 0,o::rest,K,Kx,s=>
  match o.guard with
  | none=>WJ P E l r o (OL0 P ops rest K) (fun c=>OL0 P ops rest (Kx c)) s
  | some (j,want)=>GK0 (ZA ops s j want) want (WJ P E l r o (OL0 P ops rest K) (fun c=>OL0 P ops rest (Kx c)) s) (OL0 P ops rest K (s.put o.dst (.tup [])))
 | n+1,o::rest,K,Kx,s=>
  match o.guard with
  | none=>OC0 P o (YU P E l r ops n rest K Kx) s
  | some (j,want)=>GK0 (ZA ops s j want) want (OC0 P o (YU P E l r ops n rest K Kx) s) (YU P E l r ops n rest K Kx (s.put o.dst (.tup [])))
section
variable {P:Program} {E:Ent} {l:Nat} {r:Loop}
theorem U0x {o:Oper}{a:Act}{w:Lw}{g:Gh}{F:Fr}{s:PFS}{K:Pf}{Kx:Code->PFS->Prop}{next:Act->World->Prop}{Q:Pt}(hE:Live l (.loop r) E.w E.g)(hrd:E.rd=none)(h:FSRep E a w g F s)(hp:WJ P E l r o K Kx s)
 (hn: ∀a' w' g' F' s',FSRep E a' w' g' F' s'->K s'->next a' w')
 (hx: ∀c a' w' g' F' s',FSRep (E.turn l (Jw r c)) a' w' g' F' s'->Kx c s'->next a' w'):o.wpIn (fen E.rd) 0 P a w next Q:=by
 unfold WJ at hp;split at hp;rename_i l' xs hc;obtain⟨rfl,hcl,hy⟩:=hp;exact yZ h hE hrd hc hcl hy hn hx;exact hp.elim
theorem G0k {ops:La}{Q:Pt}{K:Pf}{Kx:Code->PFS->Prop}(hE:Live l (.loop r) E.w E.g)(hrd:E.rd=none)(hK: ∀a' w' g' F' s',FSRep E a' w' g' F' s'->K s'->Q .normal a' w')
 (hX: ∀c a' w' g' F' s',FSRep (E.turn l (Jw r c)) a' w' g' F' s'->Kx c s'->Q .normal a' w'):
 ∀(n:Nat) (rest:Lo) (a:Act) (w:Lw) (g:Gh) (F:Fr) (s:PFS),FSRep E a w g F s->YU P E l r ops.toList n rest K Kx s->wpListIn (fen E.rd) 0 P ops Q rest a w
 | n,[],a,w,g,F,s,h,hp=>hK a w g F s h (by unfold YU at hp;exact hp)
 | 0,o::rest,a,w,g,F,s,h,hp=>by
  have lv: ∀ {a' w' g' F' s'},FSRep E a' w' g' F' s'->OL0 P ops.toList rest K s'->wpListIn (fen E.rd) 0 P ops Q rest a' w':=fun hr hk=>YT hK rest _ _ _ _ _ hr (YZ hk);have dd: ∀c a' w' g' F' s',FSRep (E.turn l (Jw r c)) a' w' g' F' s'->OL0 P ops.toList rest (Kx c) s'->wpListIn (fen E.rd) 0 P ops Q rest a' w':=fun c a' w' g' F' s' hr hk=>
   YT (E:=E.turn l (Jw r c)) (hX c) rest _ _ _ _ _ hr (YZ hk)
  unfold YU at hp;unfold wpListIn;cases hg:o.guard with
  | none=>
   rw[hg] at hp;rw[BC (by simp[Region.wanted,hg])];exact U0x hE hrd h hp (fun _ _ _ _ _ hr hk=>lv hr hk) dd
  | some x=>
   obtain⟨j,want⟩:=x;rw[hg] at hp;simp only at hp;cases hb:ZA ops.toList s j want with
   | none=>rw[hb] at hp;exact hp.elim
   | some b=>
    rw[hb] at hp;obtain⟨h1,h2⟩:=hp;have hy:=W9 h hb;by_cases e:b=want;have hx:=h1 e;subst e;rw[BC (by unfold Region.wanted;rw[hg];simp only;rw[hy];simp)];exact U0x hE hrd h hx (fun _ _ _ _ _ hr hk=>lv hr hk) dd;rw[BA (by unfold Region.wanted;rw[hg];simp only;rw[hy];simp[e])];exact⟨V7,lv (h.put o.dst (.base _ _ (Wz _ _))) (h2 e)⟩
 | n+1,o::rest,a,w,g,F,s,h,hp=>by
  have ih:=G0k (ops:=ops) hE hrd hK hX n rest;unfold YU at hp;unfold wpListIn;cases hg:o.guard with
  | none=>
   rw[hg] at hp;rw[BC (by simp[Region.wanted,hg])];exact Jt h (Vs hp) fun a' w' g' F' s' hr hk=>ih a' w' g' F' s' hr hk
  | some x=>
   obtain⟨j,want⟩:=x;rw[hg] at hp;simp only at hp;cases hb:ZA ops.toList s j want with
   | none=>rw[hb] at hp;exact hp.elim
   | some b=>
    rw[hb] at hp;obtain⟨h1,h2⟩:=hp;have hy:=W9 h hb;by_cases e:b=want;have hx:=h1 e;subst e;rw[BC (by unfold Region.wanted;rw[hg];simp only;rw[hy];simp)];exact Jt h (Vs hx) fun a' w' g' F' s' hr hk=>ih a' w' g' F' s' hr hk;rw[BA (by unfold Region.wanted;rw[hg];simp only;rw[hy];simp[e])];exact⟨V7,ih _ w g F _ (h.put o.dst (.base _ _ (Wz _ _))) (h2 e)⟩
end
def OLy (P:Program)(E:Ent)(l:Nat)(r:Loop)(ops:List Oper)(n:Nat)(rest:List Oper)(K:PFS->Prop)(Kx:Code->PFS->Prop)[Stop ops][Stop rest][Stop K][Stop Kx](s:PFS):Prop:=YU P E l r ops n rest K Kx s
def POy (P:Program)(E:Ent)(l:Nat)(r:Loop)(o:Oper)(K:PFS->Prop)(Kx:Code->PFS->Prop)[Stop o][Stop K][Stop Kx](s:PFS):Prop:=WJ P E l r o K Kx s
def YK (P:Program)(E:Ent)(l:Nat)(r:Loop)(p:PV)(xs:List PV)(d:Option Tmp)(K:PFS->Prop)(Kx:Code->PFS->Prop)[Stop K][Stop Kx](s:PFS):Prop:=
 match (match p with | .fn (.yield l) [] []=>some (l,xs) | _=>none:Option (Nat×List PV)) with
 | some (l',xs)=>l'=l/\xs.all PV.closed2=true/\PYields P l r E.w E.g (xs.map PV.forget2) s.st (fun st=>K (({ s with st:=st } :PFS).put d (.sc (.bool true)))) (fun c st=>Kx c (({ s with st:=st } :PFS).put d (.sc (.bool false))))
 | none=>False
def U0u (P:Program)(E:Ent)(l:Nat)(r:Loop)(xs:List PV)(st:Qc)(K:Qc->Prop)(Kx:Code->Qc->Prop)[Stop K][Stop Kx]:Prop:=PYields P l r E.w E.g xs st K Kx
theorem yY {P:Pg}{E:Ent}{l:Nat}{r:Loop}{xs:Lp}{st:Qc}{Q K:Qc->Prop}{Qx Kx:Code->Qc->Prop}(h:PYields P l r E.w E.g xs st Q Qx)(hq: ∀st,Q st->K st)(hx: ∀c st,Qx c st->Kx c st):U0u P E l r xs st K Kx:=h.mono hq hx
theorem Z1i {P:Pg}{E:Ent}{l:Nat}{r:Loop}{id:Nat}{ops:Lo}{Q:Pe}{Qx:Code->Exit->PFS->Prop}{s:PFS}(hE:Live l (.loop r) E.w E.g)(hrd:E.rd=none)(n:Nat)
 (h:OLy P E l r ops n ops (Q .normal) (fun c=>Qx c .normal) s):PW2 P E l r (.region id ops.toArray false) Q Qx s:=fun a w g F hr=>
 wpIn_region_list (G0k hE hrd (fun a' w' g' F' s' hr' hk=> .inl ⟨g',F',s',hr',hk⟩) (fun c a' w' g' F' s' hr' hk=> .inr ⟨c,g',F',s',hr',hk⟩) n ops a w g F s hr h)
section
variable {P:Program} {E:Ent} {l:Nat} {r:Loop} {s:PFS} {K:PFS->Prop} {Kx:Code->PFS->Prop} {d:Option Tmp} {ty:TypeId} {pos:String} {af:Array Edge}
@[go_sem] theorem j2p {ops rest:Lo}{op:Op}{j:Nat}{want:Bool} :OLy P E l r ops 0 (⟨d,op,ty,pos,af,some (j,want)⟩::rest) K Kx s=
 GK (ZA ops s j want) want (POy P E l r ⟨d,op,ty,pos,af,some (j,want)⟩ (OL P ops rest K) (fun c=>OL P ops rest (Kx c)) s) (OL P ops rest K (s.put d (.tup []))):=(rfl)
@[go_sem] theorem j2r {ops rest:Lo}{n:Nat}{op:Op} :OLy P E l r ops (n+1) (⟨d,op,ty,pos,af,none⟩::rest) K Kx s=OC P ⟨d,op,ty,pos,af,none⟩ (OLy P E l r ops n rest K Kx) s:=(rfl)
@[go_sem] theorem j2q {ops rest:Lo}{n:Nat}{op:Op}{j:Nat}{want:Bool} :OLy P E l r ops (n+1) (⟨d,op,ty,pos,af,some (j,want)⟩::rest) K Kx s=
 GK (ZA ops s j want) want (OC P ⟨d,op,ty,pos,af,some (j,want)⟩ (OLy P E l r ops n rest K Kx) s) (OLy P E l r ops n rest K Kx (s.put d (.tup []))):=(rfl)
@[go_sem] theorem x2x {f:Operand}{xs:List Operand}{ts:Array TypeId}{gd:Option (Nat×Bool)} :POy P E l r ⟨d,.call ⟨.value f,xs.toArray,ts⟩,ty,pos,af,gd⟩ K Kx s=YK P E l r (s.ev f) (xs.map s.ev) d K Kx s:=by show WJ _ _ _ _ _ _ _ _=_;unfold WJ HG YK;simp only
@[go_sem] theorem x2f {xs:Lp}{l':Nat} :YK P E l r (.fn (.yield l') [] []) xs d K Kx s=(l'=l/\xs.all PV.closed2=true/\U0u P E l r (xs.map PV.forget2) s.st (fun st=>K (({ s with st:=st } :PFS).put d (.sc (.bool true)))) (fun c st=>Kx c (({ s with st:=st } :PFS).put d (.sc (.bool false))))):=(rfl)
end
theorem Ej {fn:Func}{args:Lp}{st:Qc}{w:Lw}{g:Gh}{vs:Lb}(hs:StoreOK w g st)(hr:WI w g vs args):
 FSRep ⟨w,g,none,[]⟩ { tmps:=vs++Array.replicate (fn.ntmps-vs.size) undef,defers:= [] } w g ⟨0,fun _=>0,fun _=>none⟩ (Vx fn args st):=by
 refine⟨.refl _ _,hs,?_,rfl,by simp[Vx,hr.1],fun t ht=> ?_⟩;constructor<;>intros<;>simp_all [Vx];simp only[Vx];by_cases hlt:t<args.length;have e1:(args++List.replicate (fn.ntmps-args.length) PV.junk).getD t .junk=args.getD t .junk:=by simp[q_a,B6 hlt]
 have e2:(vs++Array.replicate (fn.ntmps-vs.size) undef).getD t undef=vs.getD t undef:=by
  have:t<vs.size:=by rw[hr.1];exact hlt
  simp[q_f,Array.getElem?_append_left this]
 rw[e1,e2];exact .base _ _ (hr.2 t hlt);have e1:(args++List.replicate (fn.ntmps-args.length) PV.junk).getD t .junk= .junk:=by rw[q_a,CA oG,List.getElem?_replicate];split<;>rfl
 rw[e1];exact .base _ _ (.junk _)
def UM (Q:Qc->Prop):Exit->PFS->Prop
 | .normal,s | .ret,s=>Q s.st
 | _,_=>False
theorem Sw {P:Pg}{f:FuncId}{fn:Func}{c:Code}{l:Nat}{r:Loop}{w:Lw}{g:Gh}{args:Lp}{st:Qc}{Q:Qc->Prop}{Qx:Code->Qc->Prop}
 (hf:P.funcs[f]?=some fn) (hb:fn.body=some c) (hres:fn.results= #[])
 (h: ∀E,E.rd=none->E.w=w->E.g=g->Live l (.loop r) E.w E.g->PW2 P E l r c (UM Q) (fun c=>UM (Qx c)) (Vx fn args st)):xV P f l r w g args st Q Qx:=by
 intro vs hs hr hl;have hrun: ∀(tmps:Lb) (w:Lw),(results fn tmps).run P w= .ok (.tuple #[]) w:=fun tmps w=>by unfold results;simp[hres,Sem.run_bind,Result.andThen]
 refine calls_of_wp hf hb ((wpIn_wide (n:=0)).1 (wpIn_mono (F:=Fence.wide) (h ⟨w,g,none,[]⟩ rfl rfl rfl hl _ w g _ (Ej hs hr)) ?_));rintro e a w' (⟨g',F,s,hrep,hq⟩ | ⟨c,g',F,s,hrep,hq⟩);have fin:Q s.st-> ∃v g' st',Ending.returned (Value.tuple #[])= .returned v/\StoreOK w' g' st'/\((Ext w g w' g'/\Q st')\/ ∃c,Ext (w.putObj l (Jw r c)) g w' g'/\Qx c st'):=fun hq=>⟨_,g',s.st,rfl,hrep.store,.inl ⟨hrep.ext,hq⟩⟩;cases e with
 | normal=>exact⟨hrep.defers,_,hrun _ _,fin hq⟩
 | ret=>exact⟨hrep.defers,_,hrun _ _,fin hq⟩
 | _=>exact hq.elim
 have fin:Qx c s.st-> ∃v g' st',Ending.returned (Value.tuple #[])= .returned v/\StoreOK w' g' st'/\((Ext w g w' g'/\Q st')\/ ∃c,Ext (w.putObj l (Jw r c)) g w' g'/\Qx c st'):=fun hq=>⟨_,g',s.st,rfl,hrep.store,.inr ⟨c,hrep.ext,hq⟩⟩;cases e with
 | normal=>exact⟨hrep.defers,_,hrun _ _,fin hq⟩
 | ret=>exact⟨hrep.defers,_,hrun _ _,fin hq⟩
 | _=>exact hq.elim
def Hg (D:Nat):Deferred:= { target:= .collected D,args:= #[] }
def Lat (E E':Ent):Prop:=
 E'=E\/ ∃D,E'.rd=none/\E'.df= [Hg D]/\Ext E.w E.g E'.w E'.g/\E.w.heap.size<=D/\Live D (.deferred (some [])) E'.w E'.g
def Z1x (E:Ent)(Q:Exit->PFS->Prop)(e:Exit)(a:Act)(w:World):Prop:= ∃E' g F s,Lat E E'/\FSRep E' a w g F s/\Q e s
def PWD (P:Program)(E:Ent)(c:Code)(Q:Exit->PFS->Prop)(s:PFS):Prop:=
 E.rd=none->E.df= []-> ∀a w g F,FSRep E a w g F s->c.wpIn Fence.wide 0 P (Z1x E Q) a w
section
variable {P:Program} {E:Ent} {Q Q':Exit->PFS->Prop} {s:PFS}
theorem V0e {E:Ent}(h:E.rd=none):fen E.rd=Fence.wide:=by rw[h];rfl
theorem Ke {c:Code}{s':PFS}(hw:Weak E s s')(h:PWD P E c Q s'):PWD P E c Q s:=fun hrd hdf a w g F hr=>by obtain⟨g1,F1,h1⟩:=hw a w g F hr;exact h hrd hdf a w g1 F1 h1
theorem W5 {x y:Code}(h:PWP P E x (ZO (PWD P E y Q) Q) s):PWD P E (.seq x y) Q s:=by
 intro hrd hdf a w g F hr;have h1:=h a w g F hr;rw[V0e hrd] at h1;refine wpIn_seq (wpIn_mono h1 ?_);rintro e a w ⟨g,F,s,hr,hq⟩;cases e with
 | normal=>exact hq hrd hdf a w g F hr
 | _=>exact⟨E,g,F,s,.inl rfl,hr,hq⟩
theorem Ru {x y:Code}(h:PWD P E x (ZO (fun s=> ∀E',PWP P E' y Q s) Q) s):PWD P E (.seq x y) Q s:=by
 intro hrd hdf a w g F hr;refine wpIn_seq (wpIn_mono (h hrd hdf a w g F hr) ?_);rintro e a w ⟨E',g,F,s,hL,hr,hq⟩;cases e with
 | normal=>
  have hrd':E'.rd=none:=by rcases hL with rfl | ⟨D,h1,_⟩<;>assumption
  have h1:=hq E' a w g F hr;rw[V0e hrd'] at h1;exact wpIn_mono h1 fun e a w ⟨g,F,s,hr,hq⟩=>⟨E',g,F,s,hL,hr,hq⟩
 | _=>exact⟨E',g,F,s,hL,hr,hq⟩
theorem Rx {id:Nat}{c:Code}(h:PWD P E c (XL id Q) s):PWD P E (.block id c) Q s:=by
 intro hrd hdf a w g F hr;refine wpIn_block (wpIn_mono (h hrd hdf a w g F hr) ?_);rintro e a w ⟨E',g,F,s,hL,hr,hq⟩;cases e with
 | exit id'=>
  simp only[Exit.inBlock,XL] at hq⊢;split;rename_i h;rw[BC h] at hq;exact⟨E',g,F,s,hL,hr,hq⟩;rename_i h;rw[BA h] at hq;exact⟨E',g,F,s,hL,hr,hq⟩
 | _=>exact⟨E',g,F,s,hL,hr,hq⟩
end
theorem K0f (w:Lw)(g:Gh)(B:Nat):FrameOK w g ⟨0,fun _=>0,fun _=>none⟩ [] [] B:=by constructor<;>intros<;>simp_all
theorem Y0c (w:Lw)(g:Gh)(o:Obj)(hz: ∀b,w.heap.size<=b->g.vis b=0):Chg w g (w.alloc o) g (fun _=>False)/\ ∀b,(w.alloc o).heap.size<=b->g.vis b=0:=by
 have e:({ g with vis:=fun b=>if b=w.heap.size then 0 else g.vis b } :Gh)=g:=by
  have:(fun b=>if b=w.heap.size then 0 else g.vis b)=g.vis:=by funext b;split;rename_i h;rw[hz b oG];rfl
  rw[this]
 have:=qb w g o 0 hz;rw[e] at this;exact⟨this.1,fun b hb=>hz b (by simp at hb;omega)⟩
theorem K0m {w:Lw}{g:Gh} : ∀(ts:List Tmp) (vs:Ps) (xs:Lp) (tm:Lb) (pa:Lp),vs.length=xs.length->(∀j,j<xs.length->Rep w g (vs.getD j undef) (xs.getD j .junk))->tm.size=pa.length->
 (∀t,t<pa.length->Rep w g (tm.getD t undef) (pa.getD t .junk))->
 ((ts.zip vs).foldl (fun t x=>t.setIfInBounds x.1 x.2) tm).size=((ts.zip xs).foldl (fun p x=>p.set x.1 x.2) pa).length/\
 ∀t,t<((ts.zip xs).foldl (fun p x=>p.set x.1 x.2) pa).length->Rep w g (((ts.zip vs).foldl (fun t x=>t.setIfInBounds x.1 x.2) tm).getD t undef) (((ts.zip xs).foldl (fun p x=>p.set x.1 x.2) pa).getD t .junk)
 | [],vs,xs,tm,pa,hl,hr,hs,ht=>⟨hs,ht⟩
 | d::ts,[],[],tm,pa,hl,hr,hs,ht=>⟨hs,ht⟩
 | d::ts,v::vs,x::xs,tm,pa,hl,hr,hs,ht=>by refine K0m ts vs xs (tm.setIfInBounds d v) (pa.set d x) (by simpa using hl) (fun j hj=>by simpa using hr (j+1) (by simpa using hj)) (by simpa using hs) fun t h=> ?_;have h':t<pa.length:=(by simpa using h);by_cases e:d=t;subst e;rw[Z0 _ _ _ _ h'];have:(tm.setIfInBounds d v).getD d undef=v:=(by simp[q_f,hs,h']);rw[this];simpa using hr 0 (by simp);rw[Z3 _ _ _ _ _ e];have:(tm.setIfInBounds d v).getD t undef=tm.getD t undef:=(by simp[q_f,Array.getElem?_setIfInBounds_ne e]);rw[this];exact ht t h'
 | d::ts,[],x::xs,tm,pa,hl,hr,hs,ht=>by cases hl
 | d::ts,v::vs,[],tm,pa,hl,hr,hs,ht=>by cases hl
def Ni (J:Qc->Prop)(Jx:Code->Qc->Prop):Exit->PFS->Prop
 | .normal,s=>J s.st
 | .ret,s=>Jx .ret s.st
 | .exit id,s=>Jx (.exit id) s.st
 | _,_=>False
def vL (Q:Exit->PFS->Prop):Code->PFS->Prop
 | .ret,s=>Q .ret s
 | .exit id,s=>Q (.exit id) s
 | _,_=>False
theorem w0d {P:Pg}{l:Nat}{rec:Loop}{W1 w:Lw}{g0 g:Gh}{tm:Lb}{pa xs:Lp}{st:Qc}{J:Qc->Prop}{Jx:Code->Qc->Prop}
 (h1:rec.state= .ready) (h2:rec.pending=none) (h3:rec.tmps=tm) (hx0:Le w g W1 g0) (hlen:tm.size=pa.length) (hpa: ∀t,t<pa.length->Rep w g (tm.getD t undef) (pa.getD t .junk))
 (hps:xs.length=rec.params.size)
 (round: ∀E,PWP P E rec.assign (ZO (fun s=> ∀E,PWP P E rec.body (Ni J Jx) s) (fun _ _=>False)) ⟨(rec.params.toList.zip xs).foldl (fun p x=>p.set x.1 x.2) pa,[],[],st⟩):
 PYields P l rec W1 g0 xs st J Jx:=by
 intro w1 g1 vs hb hs hr hl;have hy:=run_yield (P:=P) hl.is (args:=vs) (by rw[hr.1,hps]);refine⟨_,_,_,_,hy,roundIn_of_wpIn trivial ?_⟩;obtain⟨z1,z2⟩:=K0m (w:=w1) (g:=g1) rec.params.toList vs.toList xs tm pa (by simpa using hr.1) (fun j hj=>by have:=hr.2 j hj;have e:vs.toList.getD j undef=vs.getD j undef:=(by simp[q_a,q_f]);rw[e];exact this) hlen (fun t ht=>((hpa t ht).mono hx0).mono hb.le);have etm:(rec.params.zip vs).foldl (fun tmps (t,a)=>tmps.setIfInBounds t a) rec.tmps=(rec.params.toList.zip vs.toList).foldl (fun t x=>t.setIfInBounds x.1 x.2) tm:=(by rw[h3,<-Array.toList_zip,Array.foldl_toList]);rw[etm];have hF0:FSRep ⟨w1,g1,some l,[]⟩ { tmps:=(rec.params.toList.zip vs.toList).foldl (fun t x=>t.setIfInBounds x.1 x.2) tm,defers:= [] } w1 g1 ⟨0,fun _=>0,fun _=>none⟩ ⟨(rec.params.toList.zip xs).foldl (fun p x=>p.set x.1 x.2) pa,[],[],st⟩:=(by exact⟨.refl _ _,hs,K0f _ _ _,rfl,z1,fun t ht=> .base _ _ (z2 t ht)⟩);refine wpIn_mono (F:=Fence.wide.inRound l) (round ⟨w1,g1,some l,[]⟩ _ w1 g1 _ hF0) ?_;rintro e a2 w2 ⟨g2,F2,s2,hr2,hq⟩;cases e with
 | normal=>
  have hl2:Live l (.loop rec) w2 g2:=hl.ext hr2.ext;refine⟨_,run_beginRound hl2.is h1,?_⟩;have hb2:=hr2.turn (l:=l) (o:= .loop rec) (.loop { rec with state:= .busy }) hl rfl rfl;refine wpIn_mono (F:=Fence.wide.inRound l) (hq _ a2 _ g2 F2 hb2) ?_;rintro e a3 w3 ⟨g3,F3,s3,hr3,hq3⟩;have hlb:Live l (.loop { rec with state:= .busy }) (w1.putObj l (.loop { rec with state:= .busy })) g1:=hl.turn _;have hl3:Live l (.loop { rec with state:= .busy }) w3 g3:=hlb.ext hr3.ext;have stp: ∀c,Jx c s3.st-> ∃v w',(Instr.endRound l (some c)).run P w3= .ok v w'/\U0v l rec J Jx w1 g1 (.returned v) w':=fun c hj=>by have hx:=hr3.ext.turn (Jw rec c) hlb rfl;have e:(w1.putObj l (.loop { rec with state:= .busy })).putObj l (Jw rec c)=w1.putObj l (Jw rec c):=Sb _;refine⟨_,_,run_endRound (some c) hl3.is,g3,s3.st,hr3.store.turn _ hl3 rfl,.inr ⟨c,rfl,?_,hj⟩⟩;rw[<-e];exact hx
  cases e with
  | normal=>
   have hx:=hr3.ext.turn (.loop rec) hlb rfl;have e:(w1.putObj l (.loop { rec with state:= .busy })).putObj l (.loop rec)=w1:=(Sb _).trans (Z1n hl.is);have er:({ { rec with state:= .busy } with state:=if (none:Option Code).isNone=true then .ready else .done,pending:=none } :Loop)=rec:=by cases rec;simp only at h1 h2;subst h1 h2;rfl
   refine⟨_,_,run_endRound none hl3.is,g3,s3.st,hr3.store.turn _ hl3 rfl,.inl ⟨rfl,?_,hq3⟩⟩;rw[er];have hx':Ext ((w1.putObj l (.loop { rec with state:= .busy })).putObj l (.loop rec)) g1 (w3.putObj l (.loop rec)) g3:=hx;rw[e] at hx';exact hx'
  | ret=>exact stp .ret hq3
  | exit id=>exact stp (.exit id) hq3
  | goto t=>exact hq3.elim
  | panic ch=>exact hq3.elim
  | outgrown=>exact hq3.elim
 | _=>exact hq.elim
theorem Rv {P:Pg}{E:Ent}{Q:Pe}{gop:Operand}{ps:Array Tmp}{assign body:Code}{gf:FuncId}{caps pa:Lp}{st:Qc}(hg:PFS.ev ⟨pa,[],[],st⟩ gop= .fn (.func gf) [] caps)(hcaps:caps.all PV.closed2=true)
 (hpa:pa.all PV.closed=true) (hcall:QH P gf=true) (es:List (List PV)) (hps: ∀i,i<es.length->(es.getD i []).length=ps.size) (J:Nat->Qc->Prop) (Jx:Code->Qc->Prop) (h0:J 0 st)
 (iter: ∀l r w g,(∀i,i<es.length-> ∀st,J i st->PYields P l r w g (es.getD i []) st (J (i+1)) Jx)->xV P gf l r w g (.fn (.yield l) [] []::caps.map PV.forget2) st (J es.length) Jx)
 (round: ∀i st,i<es.length->J i st-> ∀E,PWP P E assign (ZO (fun s=> ∀E,PWP P E body (Ni (J (i+1)) Jx) s) (fun _ _=>False)) ⟨(ps.toList.zip (es.getD i [])).foldl (fun p x=>p.set x.1 x.2) (pa.map PV.forgetAll),[],[],st⟩)
 (done: ∀st,J es.length st->Q .normal ⟨pa.map PV.forgetAll,[],[],st⟩) (stop: ∀c st,Jx c st->vL Q c ⟨pa.map PV.forgetAll,[],[],st⟩):
 PWD P E (.rangeFunc gop ps assign body) Q ⟨pa,[],[],st⟩:=by
 intro hrd hdf a w g F hr;have hv:=hr.ev gop;rw[hg] at hv;obtain⟨lb,hval,hl1,hrl⟩: ∃lb:Array Value,a.eval gop= .func (.func gf) #[] lb/\lb.size=caps.length/\ ∀j,j<caps.length->RepF w g F [] (lb.getD j undef) (caps.getD j .junk):=by
  have z: ∀ {us:Lb},us.size=([]:Lp).length->us= #[]:=fun h=>Array.eq_empty_of_size_eq_zero h;generalize a.eval gop=v at hv;cases hv with
  | base _ _ hv=>cases hv with | fn f us vs bs cs hk hl h0 h=>exact⟨vs,by rw[z hk],hl,fun j hj=> .base _ _ (h j hj)⟩
  | fn f us vs bs cs hk hl h0 h=>exact⟨vs,by rw[z hk],hl,h⟩
 refine wpIn_rangeFunc (fun fn _=> ?_);obtain⟨rec,hrec⟩: ∃rec:Loop,rec= { state:= .ready,pending:=none,fn,tmps:=a.tmps,params:=ps,assign,body,defers:=w.heap.size } :=⟨_,rfl⟩;obtain⟨k1,z1⟩:=Y0c w g (.deferred (some [])) hr.store.none;obtain⟨k2,z2⟩:=Y0c (w.alloc (.deferred (some []))) g (.loop rec) z1;obtain⟨W1,hW1⟩: ∃W1,(w.alloc (.deferred (some []))).alloc (.loop rec)=W1:=⟨_,rfl⟩;have hsz1:(w.alloc (.deferred (some []))).heap.size=w.heap.size+1:=(by simp);have hL1:W1.heap[w.heap.size+1]?=some (.loop rec):=by rw[<-hW1];have:=World.alloc_heap_new (w.alloc (.deferred (some []))) (.loop rec);rwa [hsz1] at this
 have hK1:W1.heap[w.heap.size]?=some (.deferred (some [])):=by rw[<-hW1];exact(k2.old w.heap.size oG (fun h=>h)).1.trans (World.alloc_heap_new w _)
 have hx1:Ext w g W1 g:=by rw[<-hW1];exact((Ext.refl w g).step k1 (fun _ h=>h.elim)).step k2 (fun _ h=>h.elim)
 have hst1:StoreOK W1 g st:=by rw[<-hW1];exact(hr.store.step k1 rfl (fun _ _ h=>h) z1).step k2 rfl (fun _ _ h=>h) z2
 have hlv:Live (w.heap.size+1) (.loop rec) W1 g:=⟨hL1,fun i hi e=>by have:=hr.store.lt i hi;omega⟩;have hdv:Live w.heap.size (.deferred (some [])) W1 g:=⟨hK1,fun i hi e=>by have:=hr.store.lt i hi;omega⟩;have hB:E.w.heap.size<=w.heap.size:=hr.ext.size;have hpaR: ∀t,t<(pa.map PV.forgetAll).length->Rep w g (a.tmps.getD t undef) ((pa.map PV.forgetAll).getD t .junk):=fun t ht=>by have ht':t<pa.length:=(by simpa using ht);rw[Jb _ _ _ _ .junk ht'];exact(hr.tmps t ht').forgetAll (List.all_eq_true.1 hpa _ (QE _ _ _ ht'))
 have hlen:a.tmps.size=(pa.map PV.forgetAll).length:=by rw[hr.len];simp
 have hit:=iter (w.heap.size+1) rec W1 g (fun i hi st hj=>w0d (w:=w) (g:=g) (tm:=a.tmps) (pa:=pa.map PV.forgetAll) (by rw[hrec]) (by rw[hrec]) (by rw[hrec]) hx1.le hlen hpaR (by rw[hps i hi,hrec]) (by have:=round i st hi hj;rw[hrec];exact this));have hreps:WI W1 g (#[.func (.yield (w.heap.size+1)) #[] #[]]++lb) (.fn (.yield (w.heap.size+1)) [] []::caps.map PV.forget2):=by
  refine⟨by simp[hl1];omega,fun j hj=> ?_⟩;cases j with
  | zero=>
   have e:(#[Value.func (.yield (w.heap.size+1)) #[] #[]]++lb).getD 0 undef= .func (.yield (w.heap.size+1)) #[] #[]:=(Array.getD_append_left' _ _ 0 undef (by simp)).trans rfl;rw[e];exact .fn _ #[] #[] [] [] rfl rfl (fun j hj=>by cases hj) (fun j hj=>by cases hj)
  | succ j=>
   have hj':j<caps.length:=(by simpa using hj);have e:(#[Value.func (.yield (w.heap.size+1)) #[] #[]]++lb).getD (j+1) undef=lb.getD j undef:=(by simp[q_f,Array.getElem?_append_right]);rw[e];show Rep W1 g _ ((caps.map PV.forget2).getD j .junk);rw[Jb _ _ _ _ .junk hj'];exact((hrl j hj').forget2 (List.all_eq_true.1 hcaps _ (QE _ _ _ hj'))).mono hx1.le
 have eg: ∀(args:Lb) (w:Lw),(callFunc gf args).run P w= .ok (.enter gf args) w:=fun args w=>by unfold QH at hcall;split at hcall;rename_i f1 hfn;simp only[q_i,EK,Option.isSome_iff_exists] at hcall;obtain⟨⟨c,hc⟩,hn⟩:=hcall;have hb:f1.body.isNone=false:=(by simp[hc]);simp only[callFunc,Sem.run_bind,Sem.run_pure,Result.andThen_ok,run_program,hfn,hn,hb,B3,DT,Sem.run_ite];cases hcall
 have hdf':a.defers= []:=by rw[hr.defers,hdf]
 --behind the loop
 have behind: ∀(g':Gh) (st':Qc) (w':Lw) (o:Loop),Ext w g w' g'->StoreOK w' g' st'->Live (w.heap.size+1) (.loop o) w' g'->Live w.heap.size (.deferred (some [])) w' g'-> ∀o',
  ∃E' F',Lat E E'/\FSRep E' { a with defers:= [Hg w.heap.size]++a.defers } (w'.putObj (w.heap.size+1) (.loop o')) g' F' ⟨pa.map PV.forgetAll,[],[],st'⟩:=by
  intro g' st' w' o hx hs hl hd o';have k:=IZ (g:=g') (.loop o') hl.is rfl;refine⟨⟨w'.putObj (w.heap.size+1) (.loop o'),g',none,[Hg w.heap.size]⟩,⟨0,fun _=>0,fun _=>none⟩,.inr ⟨w.heap.size,rfl,rfl,?_,hB,?_⟩,⟨.refl _ _,hs.turn _ hl rfl,K0f _ _ _,?_,?_,fun t ht=> .base _ _ ?_⟩⟩;exact(hr.ext.trans hx).step k (fun b hb=> .inl (by rw[hb];omega));exact⟨(World.putObj_heap_other oG).trans hd.is,hd.apart⟩;show [Hg w.heap.size]++a.defers=_;rw[hdf'];rfl;exact hlen;exact((hpaR t ht).mono hx.le).mono k.le
 refine⟨w.heap.size+1,[Hg w.heap.size],W1, { target:= .fn (.func gf) lb,args:= #[.func (.yield (w.heap.size+1)) #[] #[]] },W1,gf,#[.func (.yield (w.heap.size+1)) #[] #[]]++lb,W1,?_,?_,fun _ _=>trivial,?_,?_,?_⟩;rw[<-hW1,hrec];exact run_enterLoop_outer _ _ _ _ _;simp only[resolve,hval];simp[go_sem];simp[invoke,go_sem,eg];intro e;cases e;refine callsIn_wide.2 ?_;refine Calls.mono (hit _ hst1 hreps hlv) ?_;rintro e w' ⟨v,g',st',rfl,hs,⟨hx,hj⟩ | ⟨c,hx,hj⟩⟩;have hl:=hlv.ext hx;have ep:rec.pending=none:=(by rw[hrec]);have hrun:=run_endLoop (P:=P) hl.is (by rw[hrec];simp);rw[ep] at hrun;refine⟨none,_,hrun,?_⟩;obtain⟨E',F',hL,hF⟩:=behind g' st' w' _ (hx1.trans hx) hs hl (hdv.ext hx) { rec with state:= .exhausted };rw[ep] at hF;exact⟨E',g',F',_,hL,hF,done st' hj⟩;have hl:Live (w.heap.size+1) (Jw rec c) w' g':=(hlv.turn _).ext hx;have hx2:Ext w g w' g':=by have:=hx1.step (IZ (g:=g) (Jw rec c) hL1 rfl) (fun b hb=> .inl (by rw[hb];omega));exact this.trans hx
 have hd2:Live w.heap.size (.deferred (some [])) w' g':=by have:Live w.heap.size (.deferred (some [])) (W1.putObj (w.heap.size+1) (Jw rec c)) g:=⟨(World.putObj_heap_other oG).trans hdv.is,hdv.apart⟩;exact this.ext hx
 refine⟨some c,_,run_endLoop (P:=P) hl.is (by simp),?_⟩;obtain⟨E',F',hL,hF⟩:=behind g' st' w' _ hx2 hs hl hd2 { rec with state:= .exhausted,pending:=some c };have hq:=stop c st' hj;cases c with
 | ret=>exact wpIn_ret ⟨E',g',F',_,hL,hF,hq⟩
 | exit id=>exact wpIn_exit ⟨E',g',F',_,hL,hF,hq⟩
 | _=>exact hq.elim
theorem Td (fz:Option Nat){P:Pg}{f:FuncId}{fn:Func}{c:Code}{args:Lp}{st:Qc}{Q:PV->Qc->Prop}
 (hf:P.funcs[f]?=some fn) (hb:fn.body=some c) (h: ∀E,PWD P E c (Gk P fz fn Q) (Vx fn args st)):PCalls P f args st Q:=by
 intro w g vs hs hr;refine(callsIn_wide (n:=0)).1 (callsIn_of_wp_marks hf hb trivial (wpIn_mono (h ⟨w,g,none,[]⟩ rfl rfl _ w g _ (Ej hs hr)) ?_));have key: ∀ {a:Act} {w':Lw} {E':Ent} {g':Gh} {F:Fr} {s:PFS},Lat ⟨w,g,none,[]⟩ E'->FSRep E' a w' g' F s->(∃r,U1 P fz s fn.results.toList=some r/\Q r s.st)->
  LeavesInM Fence.wide 0 P fn a.tmps (G0o w g Q) a.defers .returning w':=by
  rintro a w' E' g' F s hL hrep ⟨r,hr1,hq⟩;rcases hL with rfl | ⟨D,h1,h2,h3,h4,h5⟩;have hd:a.defers= []:=hrep.defers;rw[hd];obtain⟨v,hv,hres⟩:=zx hrep hr1;exact⟨v,hv,v,g',r,s.st,rfl,hrep.ext,hrep.store,hres,hq⟩;have hd:a.defers= [Hg D]:=hrep.defers.trans h2;rw[hd];have hlv:=h5.ext hrep.ext;refine⟨by simp,.inl ⟨D,_,rfl,run_takeDeferred hlv.is,?_⟩⟩;have ht:=hrep.turn (.deferred none) h5 rfl rfl;obtain⟨v,hv,hres⟩:=zx ht hr1;refine⟨v,hv,v,g',r,s.st,rfl,?_,ht.store,?_,hq⟩;exact(h3.trans hrep.ext).step (IZ (g:=g') (.deferred none) hlv.is rfl) (fun b hb=> .inl (by rw[hb];exact h4));have e:(E'.turn D (.deferred none)).w.heap.size=E'.w.heap.size:=World.putObj_size;rw[e] at hres;have hle:w.heap.size<=E'.w.heap.size:=h3.size;cases r with
  | sl t es=>
   cases t with
   | fresh sz=>
    obtain⟨q1,q2⟩:=hres;refine⟨q1,?_⟩;rcases q2 with ⟨b,b1,b2,b3⟩ | q2;exact .inl ⟨b,b1,B7 hle b2,b3⟩;exact .inr q2
   | _=>exact hres
  | _=>exact hres
 rintro e a w' ⟨E',g',F,s,hL,hrep,hq⟩;cases e with
 | normal=>exact key hL hrep hq
 | ret=>exact key hL hrep hq
 | _=>exact hq.elim
section
variable {P:Program} {ops:Array Oper} {ph1 ph2:List Nat} (C:Late P ops ph1 [] ph2)
include C
theorem U1l {listed:Lc}(hsz:listed.size=ops.size)(hl: ∀k,listed.getD k false=true->k∈ph1)(hr:Region.ready .any (Zg ops ph1) listed= []):listed=Zh (Array.replicate ops.size false) ph1:=by refine Array.ext (by rw[YA,hsz];simp) fun i h1 h3=> ?_;have hi3:i<(Array.replicate ops.size false).size:=(by rw[YA] at h3;exact h3);have e3:=Kz (l:=Array.replicate ops.size false) (π:=ph1) false hi3;have z: ∀(A:Lc) (h:i<A.size),A[i]=A.getD i false:=fun A h=>(by simp[h]);rw[z _ h1,z _ h3,E3,e3];constructor;exact fun h=> .inr (hl i h);rintro(h | h);simp[E9] at h;split at h<;>simp at h;exact C.done hsz hr (i+1) i oG h
theorem q1p {E:Ent}{Q:Pt}{N f2:Nat}{KE:Pf}
 (hend: ∀a w g F s,FSRep E a w g F s->KE s->N<=s.pa.length->wpAnyIn (fen E.rd) 0 P .any ops Q f2 (Zh (Array.replicate ops.size false) ph1) a w):
 ∀(fu f:Nat) (listed:Lc) (s:PFS),f+f2<=fu->Je P (Zg ops ph1) KE f listed s->listed.size=ops.size->(∀k,listed.getD k false=true->k∈ph1)->
  XN (Zg ops ph1) listed->N<=s.pa.length-> ∀(a:Act) (w:Lw) (g:Gh) (F:Fr),FSRep E a w g F s->wpAnyIn (fen E.rd) 0 P .any ops Q fu listed a w:=by
 have last: ∀(fu f:Nat) (listed:Lc) (s:PFS),f2<=fu->Je P (Zg ops ph1) KE f listed s->listed.size=ops.size->(∀k,listed.getD k false=true->k∈ph1)->
  N<=s.pa.length->Region.ready .any (Zg ops ph1) listed= []-> ∀(a:Act) (w:Lw) (g:Gh) (F:Fr),FSRep E a w g F s->wpAnyIn (fen E.rd) 0 P .any ops Q fu listed a w:=by
  intro fu f listed s hfu hP hsz hl hN hr a w g F hrep;have hk:KE s:=by
   cases f with
   | zero=>exact hP.2
   | succ f=>exact hP.1 hr
  rw[U1l C hsz hl hr];exact Bg hfu (hend a w g F s hrep hk hN)
 have hπ: ∀i∈([]:Ln),i∈([]:Ln):=fun i hi=>hi;intro fu
 induction fu with
 | zero=>
  intro f listed s hfu hP hsz hl hcl hN a w g F hrep;have hf:f=0:=oG;subst hf;exact last 0 0 listed s oG hP hsz hl hN hP.1 a w g F hrep
 | succ fu ih=>
  intro f listed s hfu hP hsz hl hcl hN a w g F hrep;by_cases hA:Region.ready .any (Zg ops ph1) listed= [];exact last (fu+1) f listed s oG hP hsz hl hN hA a w g F hrep;have hclo:=C.closed hsz hl hcl hπ;refine⟨fun h0=> ?_,fun j hj=> ?_⟩;exfalso;obtain⟨k,hk⟩:=List.exists_mem_of_ne_nil _ hA;have:=(C.ready hsz (xr hk) hπ).1 hk;rw[show Zh listed []=listed from rfl,h0] at this;cases this
  . obtain⟨hju,oj,hoj,hall⟩:=mem_ready.1 hj;have hjlt:=(C3.1 hoj).1;rcases C.all j hjlt with h1 | h1 | h1
    . have hjr:=(C.ready hsz h1 hπ).2 hj;cases f with
      | zero=>rw[hP.1] at hjr;cases hjr
      | succ f=>
       have hp:=hP.2 j hjr;rw[K0e h1] at hp;have hp:=yK hp;unfold POp at hp;rw[hoj] at hp;simp only at hp;have next: ∀(a':Act) (w':Lw) (g':Gh) (F':Fr) (s':PFS),FSRep E a' w' g' F' s'->(((Xq (Zg ops ph1) j=true->Js P (Zg ops ph1) listed j s')/\Je P (Zg ops ph1) KE f (listed.setIfInBounds j true) s')/\s'.pa.length=s.pa.length)->
        wpAnyIn (fen E.rd) 0 P .any ops Q fu (listed.setIfInBounds j true) a' w':=by
        rintro a' w' g' F' s' hr' ⟨⟨_,hpa⟩,hlen⟩;refine ih f (listed.setIfInBounds j true) s' oG hpa (by simpa using hsz) (fun k hk=> ?_) (Ge hcl hjr) oG a' w' g' F' hr';by_cases e:j=k;subst e;exact h1;rw[getD_set_ne false e] at hk;exact hl k hk
       unfold wpOpIn;rw[hoj];simp only;unfold POg at hp;split at hp
       . rename_i hg;rw[BC (by simp[Region.wanted,hg])];exact Jt hrep hp next
       . rename_i jj want hg;split at hp
         . rename_i b hb;have hy:=W9 hrep hb;split at hp
           . rename_i he;subst he;rw[BC (by unfold Region.wanted;rw[hg];simp only;rw[hy];simp)];exact Jt hrep hp next
           . rename_i he;rw[BA (by unfold Region.wanted;rw[hg];simp only;rw[hy];simp[he])];exact⟨V7,next _ w g F _ (hrep.put oj.dst (.base _ _ (Wz _ _))) hp⟩
         exact hp.elim
    cases h1;exfalso;have hreach: ∀i,i∈ph1->listed.getD i false=true:=fun i hi=>z9 hclo 12 j oj hoj hall (C.last j h1 i (.inl hi));refine hA (List.eq_nil_iff_forall_not_mem.2 fun k hk=> ?_);have h:=hreach k (xr hk);have:=(mem_ready.1 hk).1;rw[Hn this] at h;cases h
end
def YW0 (P:Program)(E:Ent)(l:Nat)(r:Loop)(ops:List Oper)(y:Nat)(p3:Plan)(K:PFS->Prop)(Kx:Code->PFS->Prop)(s:PFS):Prop:=
 match ops[y]? with
 | some o=>o.guard=none/\WJ P E l r o (OW0 P ops p3 K) (fun c=>OW0 P ops p3 (Kx c)) s
 | none=>False
def ja (P:Program)(ops:Array Oper)(N:Nat)(ph1:List Nat)(y:Nat)(ph3:List Nat)(p1 p2 p3:Plan):Bool:=
 UJ P ops N ph1 [] (y::ph3) p1 p2&&(decide (Region.ready .any ops (Zh (Array.replicate ops.size false) ph1)= [y])&&
 (X3 ops N p3 ph3.length ((Zh (Array.replicate ops.size false) ph1).setIfInBounds y true)&&V4 ops N ((Zh (Array.replicate ops.size false) ph1).setIfInBounds y true) p3))
theorem Z1j {P:Pg}{E:Ent}{lp:Nat}{r:Loop}{id:Nat}{l:Lo}{Q:Pe}{Qx:Code->Exit->PFS->Prop}{s:PFS}(hE:Live lp (.loop r) E.w E.g)(hrd:E.rd=none)(hm:P.follows .mixedOrders=true)(N:Nat)(ph1:Ln)(y:Nat)(ph3:Ln)(p1 p2 p3:Plan)
 (hB:ja P l.toArray N ph1 y ph3 p1 p2 p3=true) (hl:N<=s.pa.length) (h:OW0 P l p1 (YW0 P E lp r l y p3 (Q .normal) (fun c=>Qx c .normal)) s):PW2 P E lp r (.region id l.toArray true) Q Qx s:=by
 intro a w g F hr;simp only[ja,q_i] at hB;obtain⟨hB1,hB2,hB3,hB4⟩:=hB;have C:=X0y hB1;simp only[UJ,q_i] at hB1;obtain⟨_,_,_,_,_,_,_,_,c1,c2,c3,c4,c5,c6⟩:=hB1;have hready:=q_b hB2;have hcl:XN (Zg l.toArray ph1) (Array.replicate l.toArray.size false):=fun k ok e hk hkl he hb=>by by_cases hkk:k<l.length<;>simp[hkk,q_f,E9] at hkl
 have hcl0:XN l.toArray (Zh (Array.replicate l.toArray.size false) ph1):=by intro k o e ho hk he hb;have hks:k<(Array.replicate l.toArray.size false).size:=(by simp;have:=(C3.1 ho).1;simpa using this);rcases (Kz (l:=Array.replicate l.toArray.size false) (π:=ph1) false hks).1 hk with h | h;by_cases hkk:k<l.length<;>simp[hkk,q_f,E9] at h;obtain⟨_,h3⟩:=(C.first k h o ho).1 e he hb;exact(Kz (l:=Array.replicate l.toArray.size false) (π:=ph1) false (by have:=C.lt _ (.inl h3);simpa using this)).2 (.inr h3)
 have hy3:XN l.toArray ((Zh (Array.replicate l.toArray.size false) ph1).setIfInBounds y true):=Ge hcl0 (by rw[hready];simp);have h':OW0 P (Zg l.toArray ph1).toList p1 (YW0 P E lp r l y p3 (Q .normal) (fun c=>Qx c .normal)) s:=by rw[qA p1 _ c2];exact h
 have hP:=(GW (P:=P) (K:=YW0 P E lp r l y p3 (Q .normal) (fun c=>Qx c .normal)) p1 _ _ c3 hcl).2 c4 s hl h';have hend: ∀a w g F s,FSRep E a w g F s->YW0 P E lp r l y p3 (Q .normal) (fun c=>Qx c .normal) s->N<=s.pa.length->
  wpAnyIn (fen E.rd) 0 P .any l.toArray (Ir E lp r Q Qx) (ph3.length+1) (Zh (Array.replicate l.toArray.size false) ph1) a w:=by
  intro a w g F s hr hk hN;refine⟨fun h0=>(by rw[hready] at h0;cases h0),fun i hi=> ?_⟩;rw[hready] at hi;have hi:i=y:=(by simpa using hi);subst hi;unfold YW0 at hk;split at hk;rename_i o ho;obtain⟨hg,hk⟩:=hk;unfold wpOpIn;have ho':l.toArray[i]?=some o:=(by simpa using ho);rw[ho'];simp only;rw[BC (by simp[Region.wanted,hg])];unfold WJ at hk;split at hk;rename_i l' xs hc;obtain⟨rfl,hcl,hy⟩:=hk;refine yZ (K:=fun s'=>OW0 P l p3 (Q .normal) s'/\N<=s'.pa.length) (Kx:=fun c s'=>OW0 P l p3 (Qx c .normal) s'/\N<=s'.pa.length) hr hE hrd hc hcl
   (hy.mono (fun st h=>⟨h,?_⟩) (fun c st h=>⟨h,?_⟩)) ?_ ?_
  cases o.dst<;>simpa[PFS.put] using hN
  cases o.dst<;>simpa[PFS.put] using hN
  rintro a' w' g' F' s' hr' ⟨h1,h2⟩;have:=(GW (P:=P) (K:=Q .normal) p3 _ _ hB3 hy3).2 hB4 s' h2 (by simpa using h1);exact qC (E:=E) (fun a' w' g' F' s' hr' hk=> .inl ⟨g',F',s',hr',hk⟩) _ _ _ _ _ _ _ hr' this;rintro c a' w' g' F' s' hr' ⟨h1,h2⟩;have:=(GW (P:=P) (K:=Qx c .normal) p3 _ _ hB3 hy3).2 hB4 s' h2 (by simpa using h1);exact qC (E:=E.turn l' (Jw r c)) (fun a' w' g' F' s' hr' hk=> .inr ⟨c,g',F',s',hr',hk⟩) _ _ _ _ _ _ _ hr' this;exact hk.elim;exact hk.elim
 have:=q1p C (Q:=Ir E lp r Q Qx) hend l.toArray.size ph1.length (Array.replicate l.toArray.size false) s
  (by have:=q_b c1;simp at this⊢;omega) hP (by simp) (fun k hk=>by by_cases hkk:k<l.length<;>simp[hkk,q_f,E9] at hk) hcl hl
 exact wpIn_region_any hm (this _ _ g F hr.drew.1)
section
variable {P:Program} {E:Ent} {lp:Nat} {r:Loop} {s:PFS} {K:PFS->Prop} {Kx:Code->PFS->Prop} {d:Option Tmp} {ty:TypeId} {pos:String} {af:Array Edge}
def YW (P:Program)(E:Ent)(l:Nat)(r:Loop)(ops:List Oper)(y:Nat)(p3:Plan)(K:PFS->Prop)(Kx:Code->PFS->Prop)[Stop ops][Stop p3][Stop K][Stop Kx](s:PFS):Prop:=YW0 P E l r ops y p3 K Kx s
def YO (P:Program)(E:Ent)(l:Nat)(r:Loop)(o:Option Oper)(K:PFS->Prop)(Kx:Code->PFS->Prop)[Stop K][Stop Kx](s:PFS):Prop:=
 match o with
 | some o=>o.guard=none/\WJ P E l r o K Kx s
 | none=>False
@[go_sem] theorem x2d {ops:Lo}{y:Nat}{p3:Plan} :YW P E lp r ops y p3 K Kx s=YO P E lp r (ops[y]?) (OW P ops p3 K) (fun c=>OW P ops p3 (Kx c)) s:=(rfl)
@[go_sem] theorem x2e {op:Op} :YO P E lp r (some ⟨d,op,ty,pos,af,none⟩) K Kx s=POy P E lp r ⟨d,op,ty,pos,af,none⟩ K Kx s:=by show((none:Option (Nat×Bool))=none/\_)=_;simp only[F7];rfl
end
theorem Z1k {P:Pg}{E:Ent}{lp:Nat}{r:Loop}{id:Nat}{l:Lo}{Q:Pe}{Qx:Code->Exit->PFS->Prop}{s:PFS}(hE:Live lp (.loop r) E.w E.g)(hrd:E.rd=none)(hm:P.follows .mixedOrders=true)(N:Nat)(ph1:Ln)(y:Nat)(ph3:Ln)(p1 p2 p3:Plan)
 (hB:ja P l.toArray N ph1 y ph3 p1 p2 p3=true) (hl:N<=s.pa.length) (h:OW P l p1 (YW P E lp r l y p3 (Q .normal) (fun c=>Qx c .normal)) s):PW2 P E lp r (.region id l.toArray true) Q Qx s:=
 Z1j hE hrd hm N ph1 y ph3 p1 p2 p3 hB hl h
def Low (n:Nat)(p:PV):Prop:= ∀w g v,Rep w g v p->n<=g.n->Rep w { g with n:=n } v p
theorem X0i {w0:Lw}{g0:Gh}{v0:Value}{p:PV}(h:Rep w0 g0 v0 p):Low g0.n p:=by
 induction h with
 | junk v=>exact fun _ _ _ _ _=> .junk _
 | sc v=>intro w g v hr hn;cases hr;exact .sc _
 | agg vs cs hl h ih=>intro w g v hr hn;cases hr with | agg vs' _ hl' h'=>exact .agg vs' cs hl' fun j hj=>ih j hj _ _ _ (h' j hj) hn
 | tup vs cs hl h ih=>intro w g v hr hn;cases hr with | tup vs' _ hl' h'=>exact .tup vs' cs hl' fun j hj=>ih j hj _ _ _ (h' j hj) hn
 | nil t ad ht=>
  intro w g v hr hn;cases hr with
  | nil _ ad' ht'=>exact .nil t ad' ht'
  | sl _ _ b off sz cap cf ht' hfull hcap hsz hvis hc hr=>exact .sl t [] b off sz cap cf ht' hfull hcap hsz hvis hc fun i j hi hj=>(by simp at hi)
 | sl t es b off sz cap cf ht hfull hcap hsz hvis hc hr ih=>
  intro w g v hr hn;cases hr with
  | nil _ ad' ht'=>exact .nil t ad' ht'
  | sl _ _ b' off' sz' cap' cf' ht' hfull' hcap' hsz' hvis' hc' hr'=>
   exact .sl t es b' off' sz' cap' cf' ht' hfull' hcap' hsz' hvis' hc' fun i j hi hj=>ih i j hi (by rw[<-hsz i hi,hsz' i hi];exact hj) _ _ _ (hr' i j hi hj) hn
 | gms i off len cap hi hcap=>intro w g v hr hn;cases hr with | gms _ _ _ cap' hi' hcap'=>exact Rep.gms (g:= { g with n:=g0.n }) i off len cap' hi hcap'
 | gr i len cap hi hcap=>intro w g v hr hn;cases hr with | gr _ _ _ hi' hcap'=>exact Rep.gr (g:= { g with n:=g0.n }) i len cap hi hcap'
 | gp i off hi=>intro w g v hr hn;cases hr with | gp _ _ hi'=>exact Rep.gp (g:= { g with n:=g0.n }) i off hi
 | ep cs off b base cf hvis hc hr ih=>intro w g v hr hn;cases hr with | ep _ _ b' base' cf' hvis' hc' hr'=>exact Rep.ep (g:= { g with n:=g0.n }) cs off b' base' cf' hvis' hc' fun j hj=>ih j hj _ _ _ (hr' j hj) hn
 | fn f us vs bs cs hk hl h0 h ih0 ih=>intro w g v hr hn;cases hr with | fn _ us' vs' _ _ hk' hl' h0' h'=>exact .fn f us' vs' bs cs hk' hl' (fun j hj=>ih0 j hj _ _ _ (h0' j hj) hn) fun j hj=>ih j hj _ _ _ (h' j hj) hn
 | pre all n b off sz cap cf hn0 hcap hsz hvis hc hr ih=>
  intro w g v hr hn;cases hr with
  | pre _ _ b' off' sz' cap' cf' hn' hcap' hsz' hvis' hc' hr'=>
   exact Rep.pre (g:= { g with n:=g0.n }) all n b' off' sz' cap' cf' hn' hcap' hsz' hvis' hc' fun i j hi hj=>ih i j hi (by rw[<-hsz i hi,hsz' i hi];exact hj) _ _ _ (hr' i j hi hj) hn
theorem Y1x (n:Nat):Low n .junk:=fun _ _ _ _ _=> .junk _
theorem UI (n:Nat)(v:Value):Low n (.sc v):=fun w g v hr hn=>by cases hr;exact .sc _
theorem vE {n:Nat}{cs:Lp}(h: ∀c∈cs,Low n c)(j:Nat):Low n (cs.getD j .junk):=by by_cases hj:j<cs.length;exact h _ (QE _ _ _ hj);rw[q_a,C2 oG];exact Y1x n
theorem X0l {n:Nat}{cs:Lp}(h: ∀c∈cs,Low n c):Low n (.agg cs):=by intro w g v hr hn;cases hr with | agg vs _ hl h'=>exact .agg vs cs hl fun j hj=>vE h j _ _ _ (h' j hj) hn
theorem X0h {n:Nat}{cs:Lp}(h: ∀c∈cs,Low n c):Low n (.tup cs):=by intro w g v hr hn;cases hr with | tup vs _ hl h'=>exact .tup vs cs hl fun j hj=>vE h j _ _ _ (h' j hj) hn
theorem vD {n:Nat}{t:Tag}{es:Lp}(h: ∀e∈es,∀c∈e.cells,Low n c):Low n (.sl t es):=by
 intro w g v hr hn;cases hr with
 | nil _ ad ht=>exact .nil t ad ht
 | sl _ _ b off sz cap cf ht hfull hcap hsz hvis hc hr'=>
  exact .sl t es b off sz cap cf ht hfull hcap hsz hvis hc fun i j hi hj=>vE (h _ (QE _ _ _ hi)) j _ _ _ (hr' i j hi hj) hn
def yT (n:Nat):PV->Prop
 | .sl (.fresh _) es=>Low n (.sl .no es)
 | p=>Low n p
theorem kB {P:Pg}{f:FuncId}{args:Lp}{st:Qc}{Q:PV->Qc->Prop}(h:PCalls P f args st fun r st'=>(∃X,st'=st++X)/\yT st.length r/\Q r st):PCalls P f args st (fun r st'=>Q r st'/\st'=st):=by
 intro w g vs hs hr;refine(h w g vs hs hr).mono ?_;rintro e w' ⟨v,g',r,st',rfl,hx,ho,hv,⟨X,rfl⟩,hlow,hq⟩;have hn:st.length=g.n:=hs.n.symm;have hle:g.n<=g'.n:=hx.le.n;have hgd: ∀i,i<g.n->(st++X).getD i []=st.getD i []:=fun i hi=>(by rw[q_a,B6 oG,<-q_a]);refine⟨v, { g' with n:=g.n },r,st,rfl,⟨⟨BD _,hx.le.mu,hx.le.vis,hx.le.cell⟩,hx.os,hx.tape,hx.output,hx.size,hx.old,fun i hi hi'=>absurd hi (Nat.not_le_of_lt hi')⟩,⟨hs.n,fun i j hi hj=>ho.inj i j (q_e hi hle) (q_e hj hle),fun i hi=>ho.lt i (q_e hi hle),fun i hi hne=>ho.vis i (q_e hi hle) (by rw[hgd i hi];exact hne),fun i hi=> ?_,ho.none,ho.tab⟩,?_,hq,rfl⟩;have h1:=ho.holds i (q_e hi hle);rw[hgd i hi] at h1;intro j hj;obtain⟨z1,c,z2,z3⟩:=h1 j hj;obtain⟨_,c0,_,z4⟩:=hs.holds i hi j hj;exact⟨z1,c,z2,X0i z4 _ _ _ z3 hle⟩;have hl:Low g.n r->Rep w' g' v r->Rep w' { g' with n:=g.n } v r:=fun h hr=>h _ _ _ hr hle;rw[hn] at hlow;cases r with
 | sl t es=>
  cases t with
  | fresh sz=>
   obtain⟨q1,q2⟩:=hv;refine⟨hlow _ _ _ q1 hle,?_⟩;rcases q2 with ⟨b,b1,b2,b3,b4,b5⟩ | q2;exact .inl ⟨b,b1,b2,b3,fun i hi=>b4 i (q_e hi hle),b5⟩;exact .inr q2
  | _=>exact hl hlow hv
 | _=>exact hl hlow hv
theorem Ry {P:Pg}{E:Ent}{l:Nat}{r:Loop}{c:Code}{Q:Pe}{Qx:Code->Exit->PFS->Prop}{s:PFS}(bs:Ld)(nL nT:Nat)(I:Nat->PFS->Prop)(n:Nat)(h0:s.maskOK bs nL nT/\I n (s.mask bs nL nT))
 (round: ∀n s,I n s->PW2 P E l r c (ZO (fun s'=> ∃m,m<n/\s'.maskOK bs nL nT/\I m (s'.mask bs nL nT)) Q) (fun c=>ZO (fun _=>False) (Qx c)) s):PW2 P E l r (.loop c) Q Qx s:=by
 refine Z1m (fun n s=>s.maskOK bs nL nT/\I n (s.mask bs nL nT)) n h0 fun n s ⟨hm,hI⟩=> ?_;exact Z1l (Uc hm) (round n _ hI)
theorem Z1h {P:Pg}{E:Ent}{c:Code}{Q:Pe}{s:PFS}(h:PWD P E c (Hv Q) s):PWD P E (.scope c) Q s:=by
 intro hrd hdf a w g F hr b k cs hro hbf hrm;obtain⟨e,a₁,w₁,⟨E',g1,F1,s1,hL,hr1,hq⟩,harr⟩:=h hrd hdf a w g F hr b (.inScope c::k) cs hro hbf hrm;have h0:(lone (b.atR a (.code (.scope c)::k)) cs w).fenced P Fence.wide:=fenced_calm hbf hrm rfl;cases e with
 | normal=>exact⟨.normal,a₁,w₁,⟨E',g1,F1,s1,hL,hr1,hq⟩,.head h0 Vw (StepsIn.trans harr (.one (fenced_calm hbf hrm rfl) Eg))⟩
 | exit id=>exact⟨.exit id,a₁,w₁,⟨E',g1,F1,s1,hL,hr1,hq⟩,fun k' hk=> .head h0 Vw (harr.1 k' (by simp[exitTo,hk])),
  fun hr' hk=>let ⟨k₁,h1,h2⟩:=harr.2 hr' (by simp[exitTo,hk]);⟨k₁,h1,.head h0 Vw h2⟩⟩
 | goto l=>exact hq.elim
 | ret=>exact⟨_,a₁,w₁,⟨E',g1,F1,s1,hL,hr1,hq⟩,.of_steps (.one h0 Vw) harr⟩
 | panic ch=>exact⟨_,a₁,w₁,⟨E',g1,F1,s1,hL,hr1,hq⟩,.of_steps (.one h0 Vw) harr⟩
 | outgrown=>exact⟨_,a₁,w₁,⟨E',g1,F1,s1,hL,hr1,hq⟩,.of_steps (.one h0 Vw) harr⟩
end Go.Pv
end
