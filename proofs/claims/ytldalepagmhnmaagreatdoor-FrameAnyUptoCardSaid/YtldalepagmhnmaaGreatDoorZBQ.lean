/- Parts of the walk: PvAq, PvAr, PvAs, PvAt, PvAv, PvAw, PvAx. -/
import Derived.Test.YtldalepagmhnmaaGreatDoorZBD
import Derived.RangeFuncRecord
set_option linter.unusedVariables false
set_option linter.unusedSimpArgs false
section
namespace Go.Pv
structure Live (l:Nat) (o:Obj) (w:World) (g:Gh):Prop where
 is:w.heap[l]?=some o
 apart: ∀i,i<g.n->g.mu i≠l
section
variable {P:Program} {l:Nat} {o:Obj} {w w':World} {g g':Gh}
def Ent.turn (E:Ent)(l:Nat)(o:Obj):Ent:= { E with w:=E.w.putObj l o }
end
def Y3a (r:Loop)(c:Code):Obj:= .loop { r with state:= .done,pending:=some c }
def YRes (l:Nat)(r:Loop)(Q:Q0g->Prop)(Qx:Code->Q0g->Prop)(w:World)(g:Gh)(e:Ending)(w':World):Prop:=
 ∃g' st',StoreOK w' g' st'/\((e= .returned (.bool true)/\Ext w g w' g'/\Q st')\/ ∃c,e= .returned (.bool false)/\Ext (w.putObj l (Y3a r c)) g w' g'/\Qx c st')
def PYields (P:Program)(l:Nat)(r:Loop)(w0:World)(g0:Gh)(args:List PV)(st:Q0g)(Q:Q0g->Prop)(Qx:Code->Q0g->Prop):Prop:=
 ∀w g vs,Ext w0 g0 w g->StoreOK w g st->Reps w g vs args->Live l (.loop r) w g->
  ∃fn tmps assign body,(Instr.yield l vs).run P w= .ok (.round l fn tmps assign body) w/\RoundIn Fence.wide 0 P l fn tmps assign body w (YRes l r Q Qx w g)
theorem PYields.mono {P:Program}{l:Nat}{r:Loop}{w0:World}{g0:Gh}{args:List PV}{st:Q0g}{Q Q':Q0g->Prop}{Qx Qx':Code->Q0g->Prop}(h:PYields P l r w0 g0 args st Q Qx)(hq: ∀st,Q st->Q' st)(hx: ∀c st,Qx c st->Qx' c st):
 PYields P l r w0 g0 args st Q' Qx':=fun w g vs hb hs hr hl=>by
 obtain⟨fn,tmps,assign,body,h1,h2⟩:=h w g vs hb hs hr hl;refine⟨fn,tmps,assign,body,h1,h2.mono ?_⟩;rintro e w' ⟨g',st',hs,⟨h1,h2,h3⟩ | ⟨c,h1,h2,h3⟩⟩;exact⟨g',st',hs,.inl ⟨h1,h2,hq _ h3⟩⟩;exact⟨g',st',hs,.inr ⟨c,h1,h2,hx _ _ h3⟩⟩
section
variable {P:Program} {E:Ent} {l:Nat} {r:Loop} {Q Q':Exit->PFS->Prop} {Qx Qx':Code->Exit->PFS->Prop} {s:PFS}
end
section
variable {P:Program} {E:Ent} {l:Nat} {r:Loop} {a:Act} {w:World} {g:Gh} {F:Fr} {s:PFS}
end
section
variable {P:Program} {E:Ent} {l:Nat} {r:Loop}
end
section
variable {P:Program} {E:Ent} {l:Nat} {r:Loop} {s:PFS} {K:PFS->Prop} {Kx:Code->PFS->Prop} {d:Option Tmp} {ty:TypeId} {pos:String} {af:Array Edge}
end
section
variable {P:Program} {E:Ent} {Q Q':Exit->PFS->Prop} {s:PFS}
end
section
variable {P:Program} {ops:Array Oper} {ph1 ph2:List Nat} (C:Late P ops ph1 [] ph2)
include C
end
section
variable {P:Program} {E:Ent} {lp:Nat} {r:Loop} {s:PFS} {K:PFS->Prop} {Kx:Code->PFS->Prop} {d:Option Tmp} {ty:TypeId} {pos:String} {af:Array Edge}
end
def Low (n:Nat)(p:PV):Prop:= ∀w g v,Rep w g v p->n<=g.n->Rep w { g with n:=n } v p
theorem U1o {w0:World}{g0:Gh}{v0:Value}{p:PV}(h:Rep w0 g0 v0 p):Low g0.n p:=by
 induction h with
 | junk v=>exact fun _ _ _ _ _=> .junk _
 | sc v=>intro w g v hr hn;cases hr;exact .sc _
 | agg vs cs hl h ih=>intro w g v hr hn;cases hr with | agg vs' _ hl' h'=>exact .agg vs' cs hl' fun j hj=>ih j hj _ _ _ (h' j hj) hn
 | tup vs cs hl h ih=>intro w g v hr hn;cases hr with | tup vs' _ hl' h'=>exact .tup vs' cs hl' fun j hj=>ih j hj _ _ _ (h' j hj) hn
 | nil t ad ht=>
  intro w g v hr hn;cases hr with
  | nil _ ad' ht'=>exact .nil t ad' ht'
  | sl _ _ b off sz cap cf ht' hfull hcap hsz hvis hc hr=>exact .sl t [] b off sz cap cf ht' hfull hcap hsz hvis hc fun i j hi hj=>(by simp at hi)
 | sl t es b off sz cap cf ht hfull hcap hsz hvis hc hr ih=>
  intro w g v hr hn;cases hr with
  | nil _ ad' ht'=>exact .nil t ad' ht'
  | sl _ _ b' off' sz' cap' cf' ht' hfull' hcap' hsz' hvis' hc' hr'=>
   exact .sl t es b' off' sz' cap' cf' ht' hfull' hcap' hsz' hvis' hc' fun i j hi hj=>ih i j hi (by rw[<-hsz i hi,hsz' i hi];exact hj) _ _ _ (hr' i j hi hj) hn
 | gms i off len cap hi hcap=>intro w g v hr hn;cases hr with | gms _ _ _ cap' hi' hcap'=>exact Rep.gms (g:= { g with n:=g0.n }) i off len cap' hi hcap'
 | gr i len cap hi hcap=>intro w g v hr hn;cases hr with | gr _ _ _ hi' hcap'=>exact Rep.gr (g:= { g with n:=g0.n }) i len cap hi hcap'
 | gp i off hi=>intro w g v hr hn;cases hr with | gp _ _ hi'=>exact Rep.gp (g:= { g with n:=g0.n }) i off hi
 | ep cs off b base cf hvis hc hr ih=>intro w g v hr hn;cases hr with | ep _ _ b' base' cf' hvis' hc' hr'=>exact Rep.ep (g:= { g with n:=g0.n }) cs off b' base' cf' hvis' hc' fun j hj=>ih j hj _ _ _ (hr' j hj) hn
 | fn f us vs bs cs hk hl h0 h ih0 ih=>intro w g v hr hn;cases hr with | fn _ us' vs' _ _ hk' hl' h0' h'=>exact .fn f us' vs' bs cs hk' hl' (fun j hj=>ih0 j hj _ _ _ (h0' j hj) hn) fun j hj=>ih j hj _ _ _ (h' j hj) hn
 | pre all n b off sz cap cf hn0 hcap hsz hvis hc hr ih=>
  intro w g v hr hn;cases hr with
  | pre _ _ b' off' sz' cap' cf' hn' hcap' hsz' hvis' hc' hr'=>
   exact Rep.pre (g:= { g with n:=g0.n }) all n b' off' sz' cap' cf' hn' hcap' hsz' hvis' hc' fun i j hi hj=>ih i j hi (by rw[<-hsz i hi,hsz' i hi];exact hj) _ _ _ (hr' i j hi hj) hn
theorem Q3g (n:Nat):Low n .junk:=fun _ _ _ _ _=> .junk _
theorem K3t (n:Nat)(v:Value):Low n (.sc v):=fun w g v hr hn=>by cases hr;exact .sc _
theorem H1x {n:Nat}{cs:List PV}(h: ∀c∈cs,Low n c)(j:Nat):Low n (cs.getD j .junk):=by by_cases hj:j<cs.length;exact h _ (Q0q _ _ _ hj);rw[q_a,List.getElem?_eq_none oG];exact Q3g n
theorem U3v {n:Nat}{cs:List PV}(h: ∀c∈cs,Low n c):Low n (.agg cs):=by intro w g v hr hn;cases hr with | agg vs _ hl h'=>exact .agg vs cs hl fun j hj=>H1x h j _ _ _ (h' j hj) hn
theorem U3u {n:Nat}{cs:List PV}(h: ∀c∈cs,Low n c):Low n (.tup cs):=by intro w g v hr hn;cases hr with | tup vs _ hl h'=>exact .tup vs cs hl fun j hj=>H1x h j _ _ _ (h' j hj) hn
theorem j3k {n:Nat}{t:Tag}{es:List PV}(h: ∀e∈es,∀c∈e.cells,Low n c):Low n (.sl t es):=by
 intro w g v hr hn;cases hr with
 | nil _ ad ht=>exact .nil t ad ht
 | sl _ _ b off sz cap cf ht hfull hcap hsz hvis hc hr'=>
  exact .sl t es b off sz cap cf ht hfull hcap hsz hvis hc fun i j hi hj=>H1x (h _ (Q0q _ _ _ hi)) j _ _ _ (hr' i j hi hj) hn
def LowR (n:Nat):PV->Prop
 | .sl (.fresh _) es=>Low n (.sl .no es)
 | p=>Low n p
theorem w1t {P:Program}{f:FuncId}{args:List PV}{st:Q0g}{Q:PV->Q0g->Prop}(h:PCalls P f args st fun r st'=>(∃X,st'=st++X)/\LowR st.length r/\Q r st):PCalls P f args st (fun r st'=>Q r st'/\st'=st):=by
 intro w g vs hs hr;refine(h w g vs hs hr).mono ?_;rintro e w' ⟨v,g',r,st',rfl,hx,ho,hv,⟨X,rfl⟩,hlow,hq⟩;have hn:st.length=g.n:=hs.n.symm;have hle:g.n<=g'.n:=hx.le.n;have hgd: ∀i,i<g.n->(st++X).getD i []=st.getD i []:=fun i hi=>(by rw[q_a,List.getElem?_append_left oG,<-q_a]);refine⟨v, { g' with n:=g.n },r,st,rfl,⟨⟨Nat.le_refl _,hx.le.mu,hx.le.vis,hx.le.cell⟩,hx.os,hx.tape,hx.output,hx.size,hx.old,fun i hi hi'=>absurd hi (Nat.not_le_of_lt hi')⟩,⟨hs.n,fun i j hi hj=>ho.inj i j (q_e hi hle) (q_e hj hle),fun i hi=>ho.lt i (q_e hi hle),fun i hi hne=>ho.vis i (q_e hi hle) (by rw[hgd i hi];exact hne),fun i hi=> ?_,ho.none,ho.tab⟩,?_,hq,rfl⟩;have h1:=ho.holds i (q_e hi hle);rw[hgd i hi] at h1;intro j hj;obtain⟨z1,c,z2,z3⟩:=h1 j hj;obtain⟨_,c0,_,z4⟩:=hs.holds i hi j hj;exact⟨z1,c,z2,U1o z4 _ _ _ z3 hle⟩;have hl:Low g.n r->Rep w' g' v r->Rep w' { g' with n:=g.n } v r:=fun h hr=>h _ _ _ hr hle;rw[hn] at hlow;cases r with
 | sl t es=>
  cases t with
  | fresh sz=>
   obtain⟨q1,q2⟩:=hv;refine⟨hlow _ _ _ q1 hle,?_⟩;rcases q2 with ⟨b,b1,b2,b3,b4,b5⟩ | q2;exact .inl ⟨b,b1,b2,b3,fun i hi=>b4 i (q_e hi hle),b5⟩;exact .inr q2
  | _=>exact hl hlow hv
 | _=>exact hl hlow hv
def uwV (v:Value):Prop:= ∃x,v= .int .u64 x\/v= .int .u32 x
inductive Wordy :PV->Prop
 | sc (v:Value):Wordy (.sc v)
 | agg (cs:List PV) (h: ∀c∈cs,Wordy c):Wordy (.agg cs)
 | tup (cs:List PV) (h: ∀c∈cs,Wordy c):Wordy (.tup cs)
 | sl (es:List PV) (h: ∀j,j<es.length-> ∃x,uwV x/\es.getD j .junk= .sc x):Wordy (.sl .no es)
theorem Wordy.turn {w:World}{g g':Gh}(hv: ∀b off x,uwV x->off<g.vis b->w.cell? ⟨b,off,none⟩=some x->g'.vis b=g.vis b): ∀ {p:PV},Wordy p-> ∀ {v:Value},Rep w g v p->Rep w g' v p:=by
 intro p hp
 induction hp with
 | sc v=>intro v' h;cases h;exact .sc _
 | agg cs hc ih=>intro v h;cases h with | agg vs _ hl h=>exact .agg vs cs hl fun j hj=>ih _ (Q0q _ _ _ hj) (h j hj)
 | tup cs hc ih=>intro v h;cases h with | tup vs _ hl h=>exact .tup vs cs hl fun j hj=>ih _ (Q0q _ _ _ hj) (h j hj)
 | sl es hes=>
  intro v h;cases h with
  | nil t ad ht=>exact .nil _ _ rfl
  | sl t es b off sz cap cf ht hfull hcap hsz hvis hc hr=>
   by_cases h0:es= [];subst h0;exact .sl _ [] b off sz cap cf rfl hfull hcap hsz (fun h=>by simp at h) (fun i j hi=>by simp at hi) (fun i j hi=>by simp at hi);have hl:0<es.length:=List.length_pos_iff.2 h0;have hs:sz=1:=by have h1:=hsz 0 hl;obtain⟨x,_,hx⟩:=hes 0 hl;rw[hx] at h1;exact h1.symm
   subst hs;have hvb:g'.vis b=g.vis b:=by have h1:=hr 0 0 hl oG;have h2:=hc 0 0 hl oG;obtain⟨x,hxw,hx⟩:=hes 0 hl;rw[hx] at h1;rw[show cf 0 0=x from Rep.sc_inv h1] at h2;exact hv b (off+0*1+0) x hxw (by have:=hvis hl;omega) h2
   refine .sl _ es b off 1 cap cf rfl hfull hcap hsz (by rw[hvb];exact hvis) hc fun i j hi hj=> ?_;have h1:=hr i j hi hj;have h3:j=0:=oG;subst h3;obtain⟨x,_,hx⟩:=hes i hi;rw[hx] at h1⊢;rw[show cf i 0=x from Rep.sc_inv h1];exact .sc _
theorem Low.mk {p:PV}(h:Low 0 p){w:World}{g:Gh}{v:Value}(vis:Nat->Nat)(hv: ∀b,g.vis b<=vis b)(hr:Rep w g v p):Rep w ⟨0,fun _=>0,vis⟩ v p:=
 Rep.mono (w:=w) (g:= { g with n:=0 }) (w':=w) (g':=⟨0,fun _=>0,vis⟩) ⟨Nat.le_refl 0,fun i hi=>absurd hi (Nat.not_lt_zero _),hv,fun _ _ _ _ hc=>hc⟩ (h w g v hr (Nat.zero_le _))
section
variable {P:Program} {E:Ent} {a:Act} {w:World} {g:Gh} {F:Fr} {s:PFS} {e:List Nat}
theorem Wordy.res {B:Nat}{w:World}{g:Gh}{v:Value}{R:PV}(hw:Wordy R):RepRes B w g v R=Rep w g v R:=by cases hw<;>rfl
end
section
variable {P:Program} {E:Ent} {a:Act} {w:World} {g:Gh} {F:Fr} {s:PFS} {e:List Nat}
end
section
variable {P:Program} {s:PFS} {K:PFS->Prop} {d:Option Tmp} {ty:TypeId} {pos:String} {af:Array Edge} {e:List Nat}
end
section
variable {P:Program} {E:Ent} {a:Act} {w:World} {g:Gh} {F:Fr} {s:PFS}
end
section
variable {P:Program} {E:Ent} {a:Act} {w:World} {g:Gh} {F:Fr} {s:PFS}
end
section
variable {P:Program} {s:PFS} {K:PFS->Prop} {d:Option Tmp} {ty:TypeId} {pos:String} {af:Array Edge}
end
inductive Tame :PV->Prop
 | sc (v:Value):Tame (.sc v)
 | agg {cs:List PV} (h: ∀c∈cs,Tame c):Tame (.agg cs)
 | sl {t:Tag} {es:List PV} (h: ∀e∈es,Tame e):Tame (.sl t es)
theorem Tame.low {p:PV}(h:Tame p)(n:Nat):Low n p/\ ∀c∈p.cells,Low n c:=by
 induction h with
 | sc v=>exact⟨K3t n v,fun c hc=>by rw[List.mem_singleton.1 hc];exact K3t n v⟩
 | agg h ih=>exact⟨U3v fun c hc=>(ih c hc).1,fun c hc=>(ih c hc).1⟩
 | @sl t es h ih=>
  have:=j3k (n:=n) (t:=t) fun e he c hc=>(ih e he).2 c hc;exact⟨this,fun c hc=>by rw[List.mem_singleton.1 hc];exact this⟩
theorem Y2s (t:Tag)(w:List UInt64):Tame (.sl t (encW w)):= .sl fun e he=>by simp only[encW,List.mem_map] at he;obtain⟨x,_,rfl⟩:=he;exact .sc _
theorem Y1u (x:Nm): ∀c∈encN x,Tame c:=fun c hc=>by simp only[encN,List.mem_cons,List.not_mem_nil,or_false] at hc;rcases hc with rfl | rfl | rfl;exact .sc _;exact .sc _;exact Y2s _ _
theorem K3c (x:Ivl): ∀c∈encI x,Tame c:=fun c hc=>by have hc:c∈encN x.lo++encN x.hi:=hc;rcases List.mem_append.1 hc with hc | hc;exact Y1u _ _ hc;exact Y1u _ _ hc
theorem W3x (t:Tag)(l:List Ivl):Tame (.sl t (Q0z l)):= .sl fun e he=>by simp only[Q0z,List.mem_map] at he;obtain⟨x,_,rfl⟩:=he;exact .agg (K3c x)
theorem z3v (t:Tag)(l:List (List Ivl)):Tame (.sl t (encM l)):= .sl fun e he=>by simp only[encM,List.mem_map] at he;obtain⟨x,_,rfl⟩:=he;exact W3x _ x
theorem V3z (w:List UInt64):Wordy (.sl .no (encW w)):= .sl _ fun j hj=>by have hj':j<w.length:=(by simpa[encW] using hj);exact⟨_,⟨_,.inl rfl⟩,by simp only[encW,q_a,List.getElem?_map,List.getElem?_eq_getElem hj'];rfl⟩
theorem Y2e (x:Nm): ∀c∈encN x,Wordy c:=fun c hc=>by simp only[encN,List.mem_cons,List.not_mem_nil,or_false] at hc;rcases hc with rfl | rfl | rfl;exact .sc _;exact .sc _;exact V3z _
end Go.Pv
end
