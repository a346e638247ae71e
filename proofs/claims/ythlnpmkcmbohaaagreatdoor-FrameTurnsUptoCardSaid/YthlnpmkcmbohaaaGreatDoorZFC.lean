/- Parts of the walk: PvBh, PvBi, PvBj, PvBo, PvBr. -/
import Derived.Test.YthlnpmkcmbohaaaGreatDoorZEE
import Derived.Test.YthlnpmkcmbohaaaGreatDoorZEC
set_option linter.unusedVariables false
set_option linter.unusedSimpArgs false
section
namespace Go.Pv
inductive Seen (st:Qf) (e:List Nat):PV->PV->Prop
 | same {p:PV} (h:Tame p):Seen st e p p
 | agg {cs ds:List PV} (hl:cs.length=ds.length) (h: ∀j,j<ds.length->Seen st e (cs.getD j .junk) (ds.getD j .junk)):Seen st e (.agg cs) (.agg ds)
 | tup {cs ds:List PV} (hl:cs.length=ds.length) (h: ∀j,j<ds.length->Seen st e (cs.getD j .junk) (ds.getD j .junk)):Seen st e (.tup cs) (.tup ds)
 | ms {p:PV} {k n sz:Nat} {es:List PV} (hp:p= .ms true k 0 n\/ ∃cap,p= .gr k n cap) (hk:k<st.length) (hl:es.length=n) (hsz: ∀i,i<n->(es.getD i .junk).cells.length=sz) (he:n*sz<=e.getD k 0)
  (h: ∀i j,i<n->j<sz->Seen st e ((st.getD k []).getD (i*sz+j) .junk) ((es.getD i .junk).cells.getD j .junk)):Seen st e p (.sl .no es)
 | un {t:Tag} {es:List PV} (h:Tame (.sl t es)):Seen st e (.sl t es) (.sl .no es)
 | gp {k off:Nat} {cs:List PV} (hk:k<st.length) (he:cs.length<=e.getD k 0) (h: ∀j,j<cs.length->Seen st e ((st.getD k []).getD j .junk) (cs.getD j .junk)):Seen st e (.gp k off) (.ep cs off)
theorem Seen.rep {w:World}{g G:Gh}{st:Qf}{e:List Nat}(hs:StoreOK w g st)(hx: ∀k,k<st.length->e.getD k 0<=(st.getD k []).length)(hv: ∀b,g.vis b<=G.vis b)(hk: ∀k,k<st.length->e.getD k 0<=G.vis (g.mu k)){p q:PV}(h:Seen st e p q):
 ∀v,Rep w g v p->Rep w G v q:=by
 induction h with
 | @same p h=>
  intro v hr;have h1:=Low.mk (h.low 0).1 (g:=g) G.vis hv hr;exact Rep.mono (w:=w) (g:=⟨0,fun _=>0,G.vis⟩) (w':=w) (g':=G) ⟨CX _,fun i hi=>absurd hi (CD _),fun _=>BD _,fun _ _ _ _ hc=>hc⟩ h1
 | @un t es h=>
  intro v hr;have h1:=Low.mk (h.low 0).1 (g:=g) G.vis hv hr;have h2:=Rep.mono (w:=w) (g:=⟨0,fun _=>0,G.vis⟩) (w':=w) (g':=G) ⟨CX _,fun i hi=>absurd hi (CD _),fun _=>BD _,fun _ _ _ _ hc=>hc⟩ h1;exact(RepF.base (F:=⟨0,fun _=>0,fun _=>none⟩) (T:= []) _ _ h2).slNo
 | @gp k off cs hkl he h ih=>
  intro v hr;have hn:=hs.n;obtain rfl:v= .pointer (some ⟨g.mu k,off,none⟩):=(by cases hr with | gp _ _ _=>rfl);have hh:=hs.holds k oG;have hle:=hx k hkl;have:=Rep.ep (w:=w) (g:=G) cs off (g.mu k) 0 (fun j=>(w.cell? ⟨g.mu k,0+j,none⟩).getD undef) (by rw[CU];exact B7 he (hk k hkl))
   (fun j hj=>by obtain⟨_,c,q1,q2⟩:=hh j oG;rw[CU,q1];rfl)
   (fun j hj=>by obtain⟨_,c,q1,q2⟩:=hh j oG;rw[CU,q1];exact ih j hj _ q2)
  rwa [CU] at this
 | agg hl h ih=>
  intro v hr;cases hr with
  | agg vs _ hl' h'=>exact .agg vs _ oG fun j hj=>ih j hj _ (h' j oG)
 | tup hl h ih=>
  intro v hr;cases hr with
  | tup vs _ hl' h'=>exact .tup vs _ oG fun j hj=>ih j hj _ (h' j oG)
 | @ms p k n sz es hp hkl hl hsz he h ih=>
  intro v hr;have hn:=hs.n;obtain⟨cap,rfl,hcap⟩: ∃cap,v= .slice (some ⟨g.mu k,0,none⟩) n cap/\n<=cap:=by
   rcases hp with rfl | ⟨cap,rfl⟩;cases hr with | gms _ _ _ cap _ hcap=>exact⟨cap,rfl,hcap⟩
   cases hr with | gr _ _ _ _ hcap=>exact⟨cap,rfl,hcap⟩
  have hh:=hs.holds k oG;have hle:=hx k hkl;have:=Rep.sl (w:=w) (g:=G) .no es (g.mu k) 0 sz cap (fun i j=>(w.cell? ⟨g.mu k,0+i*sz+j,none⟩).getD undef) rfl (fun h=>by cases h) oG (fun i hi=>hsz i oG)
   (fun h0=>by rw[hl,CU];exact B7 he (hk k hkl))
   (fun i j hi hj=>by have:=ZY (show i<n by omega) hj;obtain⟨_,c,q1,q2⟩:=hh (i*sz+j) oG;rw[show 0+i*sz+j=i*sz+j by omega,q1];rfl)
   (fun i j hi hj=>by have:=ZY (show i<n by omega) hj;obtain⟨_,c,q1,q2⟩:=hh (i*sz+j) oG;rw[show 0+i*sz+j=i*sz+j by omega,q1];exact ih i j oG hj _ q2)
  rw[hl] at this;exact this
noncomputable def Jt (g:Gh)(lo:Nat)(e:List Nat)(b:Nat):Nat:=
 open Classical in if h: ∃k,lo<=k/\k<g.n/\g.mu k=b/\0<e.getD k 0 then e.getD h.choose 0 else g.vis b
section
variable {w:World} {g:Gh} {st:Qf} {e:List Nat} {lo:Nat}
theorem I4 (hs:StoreOK w g st)(k:Nat)(hlo:lo<=k)(hk:k<g.n):e.getD k 0<=Jt g lo e (g.mu k):=by unfold Jt;split;rename_i h;obtain⟨h1,h2,h3,h4⟩:=h.choose_spec;rw[hs.inj _ _ h2 hk h3];exact BD _;rename_i h;by_cases h0:0<e.getD k 0;exact absurd ⟨k,hlo,hk,rfl,h0⟩ h;omega
theorem zI (hs:StoreOK w g st)(hx: ∀k,k<st.length->e.getD k 0<=(st.getD k []).length)(b:Nat):g.vis b<=Jt g lo e b:=by unfold Jt;split;rename_i h;obtain⟨h1,h2,h3,h4⟩:=h.choose_spec;have h5:=hx _ (by rw[<-hs.n];exact h2);have:=hs.vis _ h2 (fun e=>by rw[e] at h5;exact absurd h5 (Nat.not_le_of_lt h4));rw[h3] at this;omega;exact BD _
theorem VG (b:Nat)(hb:Jt g lo e b≠g.vis b): ∃k,lo<=k/\k<g.n/\g.mu k=b/\Jt g lo e b=e.getD k 0:=by unfold Jt at hb⊢;split;rename_i h;obtain⟨h1,h2,h3,h4⟩:=h.choose_spec;exact⟨_,h1,h2,h3,rfl⟩;rename_i h;rw[dif_neg h] at hb;exact absurd rfl hb
end
def PV.stale :PV->Bool
 | .sl (.fresh _) _=>false
 | _=>true
theorem UF {p:PV}(h:p.stale=true)(B:Nat)(w:World)(g:Gh)(v:Value):RepRes B w g v p=Rep w g v p:=by
 cases p with
 | sl t es=>cases t<;>first | rfl | cases h
 | _=>rfl
theorem YU {P:Program}{f:FuncId}{args:List PV}{st:Qf}{Q:PV->Prop}(h:PCalls P f args st fun r st'=> ∃X q e,st'=st++X/\Seen st' e r q/\(∀k,k<st'.length->e.getD k 0<=(st'.getD k []).length)/\(∀k,k<st.length->e.getD k 0=0)/\r.stale=true/\q.stale=true/\Q q):
 PCalls P f args st (fun r st'=>Q r/\st'=st):=by
 intro w g vs hs hr;refine(h w g vs hs hr).mono ?_;rintro en w' ⟨v,g',r,st',rfl,hx,ho,hv,X,q,e,rfl,hsee,hle,hlo,sr,sq,hq⟩;rw[UF sr] at hv;have hn:st.length=g.n:=hs.n.symm;have hn':g.n<=g'.n:=hx.le.n;have hgd: ∀i,i<g.n->(st++X).getD i []=st.getD i []:=fun i hi=>by rw[q_a,B6 oG,<-q_a]
 let G:Gh:=⟨g.n,g'.mu,Jt g' g.n e⟩
 have hvle: ∀b,g'.vis b<=G.vis b:=zI ho hle;have hvold: ∀b,(∀k,g.n<=k->k<g'.n->g'.mu k≠b)->G.vis b=g'.vis b:=fun b hb=>by refine BE fun hne=> ?_;obtain⟨k,h1,h2,h3,_⟩:=VG b hne;exact hb k h1 h2 h3
 have hkv: ∀k,k<(st++X).length->e.getD k 0<=G.vis (g'.mu k):=fun k hk=>by by_cases hlt:k<g.n;rw[hlo k oG];exact CX _;exact I4 ho k oG (by rw[ho.n];exact hk)
 refine⟨v,G,q,st,rfl,⟨⟨BD _,hx.le.mu,fun b=>B7 (hx.le.vis b) (hvle b),hx.le.cell⟩,hx.os,hx.tape,hx.output,hx.size,fun b hb hnb=> ?_,fun i hi hi'=>absurd hi (Nat.not_le_of_lt hi')⟩,
  ⟨hs.n,fun i j hi hj=>ho.inj i j (q_e hi hn') (q_e hj hn'),fun i hi=>ho.lt i (q_e hi hn'),fun i hi hne=> ?_,fun i hi=> ?_,fun b hb=> ?_,fun t ht=>⟨B7 (ho.tab t ht).1 (hvle _),(ho.tab t ht).2⟩⟩,?_,hq,rfl⟩
 obtain⟨o1,o2⟩:=hx.old b hb hnb;refine⟨o1,?_⟩;rw[hvold b fun k h1 h2 h3=> ?_];exact o2;have:=hx.new k h1 h2;omega;have h1:=ho.vis i (q_e hi hn') (by rw[hgd i hi];exact hne);rw[hvold _ fun k h1 h2 h3=> ?_];exact h1;have:=ho.inj k i h2 (q_e hi hn') h3;have hi':i<g.n:=hi;omega;have h1:=ho.holds i (q_e hi hn');rw[hgd i hi] at h1;intro j hj;obtain⟨z1,c,z2,z3⟩:=h1 j hj;obtain⟨_,c0,_,z4⟩:=hs.holds i hi j hj;refine⟨z1,c,z2,?_⟩;have z5:=zZ z4 _ _ _ z3 hn';exact Rep.mono (w:=w') (g:= { g' with n:=g.n }) (w':=w') (g':=G) ⟨BD _,fun _ _=>rfl,hvle,fun _ _ _ _ hc=>hc⟩ z5;rw[hvold b fun k h1 h2 h3=> ?_];exact ho.none b hb;have:=ho.lt k h2;omega;rw[UF sq];exact hsee.rep ho hle hvle hkv v hv
def PV.notW :PV->Bool
 | .sl _ _ | .ms true _ _ _ | .gr _ _ _ | .sc (.bool _) | .sc (.int .i64 _)=>true
 | _=>false
theorem H1t {w:World}{g:Gh}{v:Value}{p:PV}(h:Rep w g v p)(hp:p.notW=true){y:Value}(hy:uwV y):v≠y:=by
 intro e;subst e;obtain⟨x,rfl | rfl⟩:=hy<;>
 cases h with
 | sc v=>cases hp
 | junk v=>cases hp
theorem PCalls.lendS {P:Program}{f:FuncId}{xs ys:List PV}{st:Qf}{R:PV}(e:List Nat)(h:PCalls P f ys [] (fun r st'=>r=R/\st'= []))(hw:Wordy R)(hl:xs.length=ys.length)(hsee: ∀j,j<ys.length->Seen st e (xs.getD j .junk) (ys.getD j .junk))
 (hle: ∀k,k<st.length->e.getD k 0<=(st.getD k []).length) (hnw: ∀k o,k<st.length->o<e.getD k 0->((st.getD k []).getD o .junk).notW=true):PCalls P f xs st (fun r st'=>r=R/\st'=st):=by
 intro w g vs hs hr;have hvle: ∀b,g.vis b<=Jt g 0 e b:=zI hs hle;have hn:=hs.n
 let g0:Gh:=⟨0,fun _=>0,Jt g 0 e⟩
 have hnone: ∀b,w.heap.size<=b->Jt g 0 e b=0:=fun b hb=>by by_cases hq:Jt g 0 e b=g.vis b;rw[hq];exact hs.none b hb;obtain⟨i,_,h1,h2,_⟩:=VG b hq;have:=hs.lt i h1;omega
 have hs0:StoreOK w g0 []:=(by refine⟨rfl,fun i j hi=>by simp[g0] at hi,fun i hi=>by simp[g0] at hi,fun i hi=>by simp[g0] at hi,fun i hi=>by simp[g0] at hi,hnone,fun t ht=>⟨B7 (hs.tab t ht).1 (hvle _),(hs.tab t ht).2⟩⟩);have hr0:x1w w g0 vs ys:=⟨by rw[hr.1,hl],fun j hj=>(hsee j hj).rep hs hle hvle (fun k hk=>I4 hs k (CX _) oG) _ (hr.2 j oG)⟩;refine(h w g0 vs hs0 hr0).mono ?_;rintro en w' ⟨v,g1,r,st1,rfl,hx,hoo,hrr,rfl,rfl⟩;rw[hw.res] at hrr;have hold: ∀c,c<w.heap.size->w'.heap[c]?=w.heap[c]?/\g1.vis c=Jt g 0 e c:=fun c hc=>hx.old c hc (fun i hi=>by simp[g0] at hi)
 let g2:Gh:=⟨g.n,g.mu,fun c=>if c<w.heap.size then g.vis c else g1.vis c⟩
 have hle2:Le w g w' g2:=by refine⟨BD _,fun _ _=>rfl,fun c=> ?_,fun c o v ho hc=>hx.le.cell c o v (q_e ho (hvle c)) hc⟩;show g.vis c<=if c<w.heap.size then g.vis c else g1.vis c;split;exact BD _;rename_i hn;rw[hs.none c oG];exact CX _
 have hext:Ext w g w' g2:=by refine⟨hle2,hx.os,hx.tape,hx.output,hx.size,fun c hc _=>⟨(hold c hc).1,BC hc⟩,fun i h1 h2=> ?_⟩;have h2':i<g.n:=h2;omega
 have hst:StoreOK w' g2 st:=by refine⟨hs.n,hs.inj,fun i hi=>q_e (hs.lt i hi) hx.size,fun i hi h0=> ?_,fun i hi=> ?_,fun c hc=> ?_,hs.tab.mono hle2⟩;show(if g.mu i<w.heap.size then g.vis (g.mu i) else _)=0;rw[BC (hs.lt i hi)];exact hs.vis i hi h0;exact(hs.holds i hi).mono (hold _ (hs.lt i hi)).1 fun v p hp=>hp.mono hle2;show(if c<w.heap.size then g.vis c else g1.vis c)=0;have:=hx.size;rw[BA oG];exact hoo.none c hc
 refine⟨v,g2,r,st,rfl,hext,hst,?_,rfl,rfl⟩;rw[hw.res];have:=Wordy.turn (g':=g2) (fun b off x hxw hoff hcell=> ?_) hw hrr;exact this;show(if b<w.heap.size then g.vis b else g1.vis b)=g1.vis b;split;rename_i hb;obtain⟨q1,q2⟩:=hold b hb;rw[q2] at hoff⊢;by_cases hq:Jt g 0 e b=g.vis b;exact hq.symm;obtain⟨i,_,h1,h2,h3⟩:=VG b hq;rw[h3] at hoff;have o1:=hle i oG;have o2:=hnw i off oG hoff;obtain⟨_,c,c1,c2⟩:=hs.holds i h1 off oG;rw[h2] at c1;have hcw:w'.cell? ⟨b,off,none⟩=w.cell? ⟨b,off,none⟩:=World.cell?_of_block (w:=w) (w':=w') (a:=⟨b,off,none⟩) q1;rw[hcw,c1] at hcell;exact absurd (Option.some.inj hcell) (H1t c2 o2 hxw);rfl
inductive Un :PV->PV->Prop
 | same (p:PV):Un p p
 | gr (k n c:Nat):Un (.gr k n c) (.ms true k 0 n)
theorem Un.rep {w:World}{g:Gh}{p q:PV}(h:Un p q){v:Value}(hr:Rep w g v p):Rep w g v q:=by
 cases h with
 | same=>exact hr
 | gr k n c=>cases hr with | gr _ _ _ hi hcap=>exact .gms _ 0 _ _ hi hcap
theorem PCalls.unGr {P:Program}{f:FuncId}{args:List PV}{st:Qf}{Q Q':PV->Qf->Prop}(h:PCalls P f args st Q)
 (hq: ∀r st',Q r st'-> ∃r' st'',st''.length=st'.length/\r.stale=true/\r'.stale=true/\Un r r'/\(∀k,k<st'.length->(st''.getD k []).length=(st'.getD k []).length/\ ∀o,o<(st'.getD k []).length->Un ((st'.getD k []).getD o .junk) ((st''.getD k []).getD o .junk))/\Q' r' st''):PCalls P f args st Q':=by
 intro w g vs hs hr;refine(h w g vs hs hr).mono ?_;rintro en w' ⟨v,g',r,st',rfl,hx,ho,hv,hQ⟩;obtain⟨r',st'',h1,sr,sr',h2,h3,h4⟩:=hq r st' hQ;rw[UF sr] at hv;have hn:=ho.n;refine⟨v,g',r',st'',rfl,hx,⟨by rw[hn,h1],ho.inj,ho.lt,fun i hi hne=>ho.vis i hi fun e=>hne ?_,fun i hi j hj=> ?_,ho.none,ho.tab⟩,by rw[UF sr'];exact h2.rep hv,h4⟩;have:=(h3 i oG).1;rw[e] at this;exact BY (by simpa using this);obtain⟨q1,q2⟩:=h3 i oG;rw[q1] at hj;obtain⟨z1,c,z2,z3⟩:=ho.holds i hi j hj;exact⟨z1,c,z2,(q2 j hj).rep z3⟩
def RowAt (st:Qf)(k:Nat)(cs:List PV):Prop:=k<st.length/\ ∃R,st.getD k []=cs++R
def Q2t (ids:List Nat):Prop:= ∀i j,i<ids.length->j<ids.length->i≠j->ids.getD i 0≠ids.getD j 0
structure MatO (st:Qf) (A:Nat) (ids:List Nat) (n:Nat) (rows:List (List PV)):Prop where
 lid:ids.length=n
 lrow:rows.length=n
 top:RowAt st A (ids.map fun i=>PV.ms true i 0 n)
 row: ∀j,j<n->RowAt st (ids.getD j 0) (rows.getD j [])
 na:A∉ids
 nd:Q2t ids
theorem RowAt.mono {st st':Qf}{k:Nat}{cs:List PV}(h:RowAt st k cs)(hl:st.length<=st'.length)(hg:st'.getD k []=st.getD k []):RowAt st' k cs:=⟨q_e h.1 hl,by rw[hg];exact h.2⟩
theorem RowAt.set {st:Qf}{k:Nat}{cs' R:List PV}(h:k<st.length):RowAt (st.set k (cs'++R)) k cs':=⟨by rw[BL];exact h,R,by rw[Qt _ _ _ _ h]⟩
theorem XM {ids:List Nat}{j:Nat}(h:j<ids.length):ids.getD j 0∈ids:=Qq _ _ _ h
theorem Z1n {ids:List Nat}(hn:Q2t ids){i j:Nat}(hi:i<ids.length)(hj:j<ids.length)(h:i≠j):ids.getD i 0≠ids.getD j 0:=hn i j hi hj h
theorem MatO.mono {st st':Qf}{A n:Nat}{ids:List Nat}{rows:List (List PV)}(h:MatO st A ids n rows)(hl:st.length<=st'.length)(hg: ∀k,k=A\/k∈ids->st'.getD k []=st.getD k []):MatO st' A ids n rows:=
 ⟨h.lid,h.lrow,h.top.mono hl (hg _ (.inl rfl)),fun j hj=>(h.row j hj).mono hl (hg _ (.inr (XM (by rw[h.lid];exact hj)))),h.na,h.nd⟩
theorem MatO.setRow {st:Qf}{A n:Nat}{ids:List Nat}{rows:List (List PV)}(h:MatO st A ids n rows){j:Nat}(hj:j<n)(cs R:List PV):MatO (st.set (ids.getD j 0) (cs++R)) A ids n (rows.set j cs):=by
 have hji:j<ids.length:=by rw[h.lid];exact hj
 refine⟨h.lid,by rw[BL];exact h.lrow,h.top.mono (by simp) (Qo _ _ _ _ _ fun e=>h.na (e▸XM hji)),fun i hi=> ?_,h.na,h.nd⟩;by_cases e:i=j;subst e;rw[Qt _ _ _ _ (by rw[h.lrow];exact hi)];exact RowAt.set (h.row i hi).1;rw[Qo _ _ _ _ _ (fun e2=>e e2.symm)];exact(h.row i hi).mono (by simp) (Qo _ _ _ _ _ (Z1n h.nd hji (by rw[h.lid];exact hi) (fun e2=>e e2.symm)))
def Zz {α:Type}(d:α)(l:List α)(i j:Nat):List α:=(l.set i (l.getD j d)).set j (l.getD i d)
theorem Jj {α:Type}(d:α)(l:List α)(i j:Nat):(Zz d l i j).length=l.length:=by simp[Zz]
theorem JB {α:Type}(d:α)(l:List α){i j k:Nat}(hi:i<l.length)(hj:j<l.length):(Zz d l i j).getD k d=if k=j then l.getD i d else if k=i then l.getD j d else l.getD k d:=by unfold Zz;by_cases e:k=j;subst e;rw[BC rfl,Qt _ _ _ _ (by rw[BL];exact hj)];rw[BA e,Qo _ _ _ _ _ (fun h=>e h.symm)];by_cases e2:k=i;subst e2;rw[BC rfl,Qt _ _ _ _ hi];rw[BA e2,Qo _ _ _ _ _ (fun h=>e2 h.symm)]
theorem yC {l:List Nat}(h:Q2t l){i j:Nat}(hi:i<l.length)(hj:j<l.length):Q2t (Zz 0 l i j):=by
 intro a b ha hb hab;rw[Jj] at ha hb;rw[JB 0 l hi hj,JB 0 l hi hj];split<;>split<;>(try split)<;>(try split)
 all_goals first
  | omega
  | (refine h _ _ ?_ ?_ ?_<;>omega)
theorem kw {l:List Nat}{i j:Nat}(hi:i<l.length)(hj:j<l.length){x:Nat}(h:x∈Zz 0 l i j):x∈l:=by unfold Zz at h;rcases EQ h with h | rfl;rcases EQ h with h | rfl;exact h;exact XM hj;exact XM hi
theorem z0t {α β:Type}(f:α->β)(d:α)(d':β)(l:List α){i j:Nat}(hi:i<l.length)(hj:j<l.length):(Zz d l i j).map f=Zz d' (l.map f) i j:=by
 unfold Zz;rw[FA,FA];have: ∀k,k<l.length->(l.map f).getD k d'=f (l.getD k d):=fun k hk=>by rw[q_a,B8,q_a,BB hk];rfl
 rw[this i hi,this j hj]
theorem HZ {cs R:List PV}{k:Nat}(h:k<cs.length)(x:PV):Zx (cs++R) k [x]=cs.set k x++R:=by unfold Zx;rw[FJ oG];have:(cs++R).drop (k+ [x].length)=cs.drop (k+1)++R:=(by rw[List.length_singleton,EW oG]);rw[this,DS,BC h];simp
theorem MatO.swap {st:Qf}{A n:Nat}{ids:List Nat}{rows:List (List PV)}(h:MatO st A ids n rows){i j:Nat}(hi:i<n)(hj:j<n)(R:List PV):
 MatO (st.set A ((Zz 0 ids i j).map (fun k=>PV.ms true k 0 n)++R)) A (Zz 0 ids i j) n (Zz [] rows i j):=by
 have hi':i<ids.length:=by rw[h.lid];exact hi
 have hj':j<ids.length:=by rw[h.lid];exact hj
 have key: ∀k,k<n->RowAt (st.set A ((Zz 0 ids i j).map (fun k=>PV.ms true k 0 n)++R)) (ids.getD k 0) (rows.getD k []):=fun k hk=>
  (h.row k hk).mono (by simp) (Qo _ _ _ _ _ fun e=>h.na (e▸XM (by rw[h.lid];exact hk)))
 refine⟨by rw[Jj];exact h.lid,by rw[Jj];exact h.lrow,RowAt.set h.top.1,fun k hk=> ?_,fun hm=>h.na (kw hi' hj' hm),yC h.nd hi' hj'⟩;rw[JB 0 ids hi' hj',JB [] rows (by rw[h.lrow];exact hi) (by rw[h.lrow];exact hj)];split;exact key i hi;split;exact key j hj;exact key k hk
def J4 (x:List Nm):List PV:=flat (Qy x)
theorem UN (a:Nm)(x:List Nm):J4 (a::x)=Q9 a++J4 x:=rfl
theorem Ja : ∀x:List Nm,(J4 x).length=x.length*3
 | []=>rfl
 | a::x=>by rw[UN,BH,Ja x,C1];show 3+_=_;omega
theorem Vj : ∀(x:List Nm) (j:Nat) (R:List PV),j<x.length->((J4 x++R).drop (j*3)).take 3=Q9 (x.getD j default)
 | [],j,R,h=>by simp at h
 | a::x,0,R,h=>rfl
 | a::x,j+1,R,h=>by rw[UN,BP,List.drop_append,E7 (by show 3<=_;omega),CQ,show(j+1)*3-(Q9 a).length=j*3 from by show(j+1)*3-3=_;omega];exact Vj x j R (by simpa using h)
theorem UM : ∀(x:List Nm) (j:Nat) (R:List PV) (y:Nm),j<x.length->Zx (J4 x++R) (j*3) (Q9 y)=J4 (x.set j y)++R
 | [],j,R,y,h=>by simp at h
 | a::x,0,R,y,h=>rfl
 | a::x,j+1,R,y,h=>by have ih:=UM x j R y (by simpa using h);rw[UN,LG,UN,BP,BP,<-ih];unfold Zx;have e:(j+1)*3=(Q9 a).length+j*3:=(by show _=3+_;omega);rw[e,List.take_length_add_append,DK,List.drop_length_add_append];simp
theorem v1b (x:List Nm)(j:Nat)(R:List PV)(h:j<x.length):(J4 x++R).getD (j*3+2) .junk= .sl .no (Q2 (x.getD j default).w):=by have h1:=Vj x j R h;have h2:(((J4 x++R).drop (j*3)).take 3).getD 2 .junk=(J4 x++R).getD (j*3+2) .junk:=(by simp[q_a,EF,DH]);rw[<-h2,h1];rfl
def QO (st:Qf)(A:Nat)(ids:List Nat)(x:List (List Nm)):Prop:=(∀r∈x,r.length=x.length)/\MatO st A ids x.length (x.map J4)
def Y0r (st:Qf)(A:Nat)(ids:List Nat)(n sz:Nat):List Nat:=(List.range st.length).map fun k=>if k=A then n else if k∈ids then n*sz else 0
theorem KO (st:Qf)(A:Nat)(ids:List Nat)(n sz k:Nat)(hk:k<st.length):(Y0r st A ids n sz).getD k 0=if k=A then n else if k∈ids then n*sz else 0:=by unfold Y0r;rw[q_a,B8,EE hk];rfl
theorem MatO.seen {st:Qf}{e:List Nat}{A n sz:Nat}{ids:List Nat}{els:List (List PV)}(h:MatO st A ids n (els.map flat))(hl: ∀r∈els,r.length=n)(hs: ∀r∈els,∀x∈r,x.cells.length=sz/\ ∀c∈x.cells,Tame c)(hA:n<=e.getD A 0)(hi: ∀i∈ids,n*sz<=e.getD i 0):
 Seen st e (.ms true A 0 n) (.sl .no (els.map (PV.sl .no))):=by
 have hel:els.length=n:=by have:=h.lrow;rwa [BR] at this
 have hrow: ∀i,i<n->els.getD i []∈els:=fun i hi=>Qq _ _ _ oG;have hfl: ∀i,i<n->(els.map flat).getD i []=flat (els.getD i []):=fun i hi=>by rw[q_a,B8,q_a,BB (show i<els.length by omega)];rfl
 have hms: ∀i,i<n->(els.map (PV.sl .no)).getD i .junk= .sl .no (els.getD i []):=fun i hi=>by rw[q_a,B8,q_a,BB (show i<els.length by omega)];rfl
 refine .ms (sz:=1) (.inl rfl) h.top.1 (by rw[BR];exact hel) (fun i hi=>by rw[hms i hi];rfl) (by rw[EK];exact hA) fun i j hin hj=> ?_;have hj0:j=0:=oG;subst hj0;obtain⟨R,hR⟩:=h.top.2;have h1:(st.getD A []).getD (i*1+0) .junk= .ms true (ids.getD i 0) 0 n:=by
  have hii:i<ids.length:=by rw[h.lid];exact hin
  rw[hR,EK,B1,Qk _ _ _ _ (by rw[BR];exact hii),q_a,B8,q_a,BB hii];rfl
 rw[h1,hms i hin];show Seen st e (.ms true (ids.getD i 0) 0 n) (.sl .no (els.getD i []));have hr:=h.row i hin;rw[hfl i hin] at hr;obtain⟨R2,hR2⟩:=hr.2;have hrl:=hl _ (hrow i hin);have hsz: ∀a,a<(els.getD i []).length->((els.getD i []).getD a .junk).cells.length=sz:=fun a ha=>(hs _ (hrow i hin) _ (Qq _ _ _ ha)).1;refine .ms (sz:=sz) (.inl rfl) hr.1 hrl (fun a ha=>hsz a oG) (hi _ (XM (by rw[h.lid];exact hin))) fun a b ha hb=> ?_;have hm:=ZY ha hb;have h2:(st.getD (ids.getD i 0) []).getD (a*sz+b) .junk=((els.getD i []).getD a .junk).cells.getD b .junk:=by rw[hR2,Qk _ _ _ _ (by rw[Z5 hsz,hrl];exact hm),XT hsz _ (by rw[hrl];exact hm)];have hd:(a*sz+b)/sz=a:=(by rw[BM,E4 oG,CP hb,B1]);have hmo:(a*sz+b) % sz=b:=(by rw[BM,E3,BJ hb]);rw[hd,hmo]
 rw[h2];refine .same ((hs _ (hrow i hin) _ (Qq _ _ _ oG)).2 _ (Qq _ _ _ ?_));rw[hsz a oG];exact hb
theorem MatO.eLe {st:Qf}{A n sz:Nat}{ids:List Nat}{els:List (List PV)}(h:MatO st A ids n (els.map flat))(hl: ∀r∈els,r.length=n)(hs: ∀r∈els,∀x∈r,x.cells.length=sz/\ ∀c∈x.cells,Tame c):
 ∀k,k<st.length->(Y0r st A ids n sz).getD k 0<=(st.getD k []).length:=by
 have hel:els.length=n:=by have:=h.lrow;rwa [BR] at this
 intro k hk;rw[KO _ _ _ _ _ _ hk];split;rename_i e;subst e;obtain⟨R,hR⟩:=h.top.2;rw[hR,BH,BR,h.lid];omega;split;rename_i hm;obtain⟨i,hi,he⟩:=CM.1 hm;have hin:i<n:=(by rw[<-h.lid];exact hi);have hr:=h.row i hin;have e1:ids.getD i 0=k:=(by rw[q_a,BB hi];exact he);rw[e1] at hr;obtain⟨R,hR⟩:=hr.2;have hrow:els.getD i []∈els:=Qq _ _ _ oG;have e2:(els.map flat).getD i []=flat (els.getD i []):=by rw[q_a,B8,q_a,BB (show i<els.length by omega)];rfl
 rw[hR,e2,BH,Z5 (sz:=sz) fun a ha=>(hs _ hrow _ (Qq _ _ _ ha)).1,hl _ hrow];omega;exact CX _
structure Built (st:Qf) (B n i:Nat) (out:PV) (ids:List Nat) (cs:List PV) (rows:List (List PV)):Prop where
 lid:ids.length=i
 lrow:rows.length=i
 lcs:cs.length=i
 un: ∀j,j<i->Un (cs.getD j .junk) (.ms true (ids.getD j 0) 0 n)
 row: ∀j,j<i->RowAt st (ids.getD j 0) (rows.getD j [])
 nd:Q2t ids
 ge: ∀k∈ids,B<=k
 le:B<=st.length
 out:(i=0/\out= .sl .full [])\/(0<i/\ ∃A cap R,out= .gr A i cap/\B<=A/\A<st.length/\A∉ids/\st.getD A []=cs++R/\R.length=cap-i/\i<=cap)
theorem Built.zero (st:Qf)(n:Nat):Built st st.length n 0 (.sl .full []) [] [] []:=
 ⟨rfl,rfl,rfl,fun j hj=>oG,fun j hj=>oG,fun i j hi=>by simp at hi,fun k hk=>by simp at hk,BD _,.inl ⟨rfl,rfl⟩⟩
theorem Vv {α:Type}(d:α)(l:List α)(x:α)(j:Nat):(l++ [x]).getD j d=if j=l.length then x else l.getD j d:=by by_cases h:j<l.length;rw[BA oG,Qk _ _ _ _ h];by_cases e:j=l.length;subst e;rw[BC rfl,Ql _ _ _ _ (BD _),DD];rfl;rw[BA e,q_a,C2 (by simp;omega),q_a,C2 oG]
theorem Built.next {st st':Qf}{B n i:Nat}{out c:PV}{ids:List Nat}{cs:List PV}{rows:List (List PV)}(h:Built st B n i out ids cs rows){k A cap:Nat}{row R:List PV}(hc:Un c (.ms true k 0 n))(hk:RowAt st' k row)(hkB:B<=k)(hkn:k∉ids)
 (hl:st.length<=st'.length) (hg: ∀x∈ids,st'.getD x []=st.getD x []) (hA:B<=A) (hAl:A<st'.length) (hAn:A∉ids) (hAk:A≠k) (hAc:st'.getD A []=cs++([c]++R)) (hR:R.length=cap-(i+1)) (hcap:i+1<=cap):
 Built st' B n (i+1) (.gr A (i+1) cap) (ids++ [k]) (cs++ [c]) (rows++ [row]):=by
 refine⟨by simp[h.lid],by simp[h.lrow],by simp[h.lcs],fun j hj=> ?_,fun j hj=> ?_,?_,fun x hx=> ?_,B7 h.le hl,.inr ⟨oG,A,cap,R,rfl,hA,hAl,fun hm=> ?_,by rw[hAc,BP],hR,hcap⟩⟩;rw[Vv,Vv,h.lcs,h.lid];split;exact hc;exact h.un j oG;rw[Vv,Vv,h.lid,h.lrow];split;exact hk;exact(h.row j oG).mono hl (hg _ (XM (by rw[h.lid];omega)));intro x y hx hy hxy;rw[BH,List.length_singleton] at hx hy;rw[Vv,Vv];split<;>split;omega;exact fun e=>hkn (e▸XM oG);exact fun e=>hkn (e▸XM oG);exact h.nd x y oG oG hxy;rcases DN.1 hx with hx | hx;exact h.ge x hx;rw[C0.1 hx];exact hkB;rcases DN.1 hm with hm | hm;exact hAn hm;exact hAk (C0.1 hm)
theorem Gy : ∀ {cs:List PV},(∀c∈cs,c.cells= [c])->flat cs=cs
 | [],_=>rfl
 | c::cs,h=>by rw[Gz,h c (by simp),Gy fun x hx=>h x (by simp[hx])];rfl
theorem Un.cells1 {c:PV}{k n:Nat}(h:Un c (.ms true k 0 n)):c.cells= [c]:=by cases h<;>rfl
theorem Built.flat_cs {st:Qf}{B n i:Nat}{out:PV}{ids:List Nat}{cs:List PV}{rows:List (List PV)}(h:Built st B n i out ids cs rows):flat cs=cs:=Gy fun c hc=>by obtain⟨j,hj,rfl⟩:=CM.1 hc;have h1:=h.un j (by rw[<-h.lcs];exact hj);rw[q_a,BB hj] at h1;exact h1.cells1
theorem Built.first {st Y:Qf}{B n:Nat}{out c:PV}{ids:List Nat}{cs:List PV}{rows:List (List PV)}(h:Built st B n 0 out ids cs rows){k cap:Nat}{row R:List PV}(hY:st.length<=Y.length)(hc:Un c (.ms true k 0 n))(hk:RowAt Y k row)(hkB:st.length<=k)(hcap:1<=cap)(hR:R.length=(cap-1)*1):
 Built (Y++ [flat [c]++R]) B n (0+1) (.gr Y.length (0+1) cap) (ids++ [k]) (cs++ [c]) (rows++ [row]):=by
 have e1:ids= []:=BY h.lid;have e2:cs= []:=BY h.lcs;have hfl:flat [c]= [c]:=Gy fun x hx=>(by rw[C0.1 hx];exact hc.cells1);have hB:=h.le;refine h.next (R:=R) hc (hk.mono (by simp) (by rw[Qk _ _ _ _ hk.1])) oG (by rw[e1];simp) (by simp;omega) (fun x hx=>by rw[e1] at hx;simp at hx) oG (by simp) (by rw[e1];simp) (fun e=>by have:=hk.1;omega) ?_ oG hcap;rw[Ql _ _ _ _ (BD _),DD,e2,hfl];rfl
theorem Built.grow {st Y st':Qf}{B n i:Nat}{c:PV}{A cap:Nat}{ids:List Nat}{cs:List PV}{rows:List (List PV)}(h:Built st B n i (.gr A i cap) ids cs rows)(hi:0<i){k A' cap':Nat}{row:List PV}(hY:st.length<=Y.length)(hYg: ∀x,x<st.length->Y.getD x []=st.getD x [])
 (hc:Un c (.ms true k 0 n)) (hk:RowAt Y k row) (hkB:st.length<=k) (hg:GrowTo Y A i cap [c] 1 A' cap' st'):Built st' B n (i+1) (.gr A' (i+1) cap') (ids++ [k]) (cs++ [c]) (rows++ [row]):=by
 rcases h.out with ⟨h0,_⟩ | ⟨_,A2,cap2,R,h1,h2,h3,h4,h5,h6,h7⟩;omega;simp only[PV.gr.injEq] at h1;obtain⟨rfl,_,rfl⟩:=h1;have hfl:flat [c]= [c]:=Gy fun x hx=>(by rw[C0.1 hx];exact hc.cells1);have hfc:=h.flat_cs;obtain⟨R',f1,f2,f3,f4,f5,f6,f7⟩:=GrowTo.facts (es:=cs) (R:=R) hg oG (by rw[hYg A h3,h5,hfc]) (by rw[hfc,h.lcs];omega) (by rw[hfl];rfl) (by rw[h6];omega) h7;have hid: ∀x∈ids,x<st.length:=fun x hx=>by obtain⟨j,hj,he⟩:=CM.1 hx;have:=(h.row j (by rw[<-h.lid];exact hj)).1;rw[q_a,BB hj] at this;rw[<-he];exact this
 have hB:=h.le;have hkl:=hk.1;refine h.next (R:=R') hc (hk.mono f6 (f7 k hk.1 oG)) oG (fun hm=>by have:=hid k hm;omega) oG (fun x hx=>by
  have h8:=hid x hx;rw[f7 x oG (fun e=>h4 (e▸hx)),hYg x h8]) oG f4 (fun hm=>by
  rcases f5 with rfl | rfl;exact h4 hm;have:=hid _ hm;omega) oG (by rw[f1,hfc,hfl]) (by
  have: [c].length=1:=rfl;rw[f2,this];omega) (by have: [c].length=1:=rfl;omega)
theorem GrowTo.app {st X st':Qf}{A len cap sz A' cap':Nat}{ys:List PV}(h:GrowTo (st++X) A len cap ys sz A' cap' st')(hA:st.length<=A): ∃X',st'=st++X':=by rcases h with ⟨_,_,_,rfl⟩ | ⟨_,_,_,R,_,rfl⟩;exact⟨_,CJ _ _ hA⟩;exact⟨_,BP _ _ _⟩
theorem Built.at {st:Qf}{B n i A cap:Nat}{ids:List Nat}{cs:List PV}{rows:List (List PV)}(h:Built st B n i (.gr A i cap) ids cs rows)(hi:0<i):B<=A/\A<st.length/\(st.getD A []).length=cap:=by rcases h.out with ⟨h0,_⟩ | ⟨_,A2,cap2,R,h1,h2,h3,h4,h5,h6,h7⟩;omega;simp only[PV.gr.injEq] at h1;obtain⟨rfl,_,rfl⟩:=h1;exact⟨h2,h3,by rw[h5,BH,h.lcs,h6];omega⟩
theorem Built.done {st:Qf}{B n:Nat}{out:PV}{ids:List Nat}{cs:List PV}{rows:List (List PV)}(h:Built st B n n out ids cs rows)(hn:0<n):
 ∃A cap R,out= .gr A n cap/\B<=A/\A<st.length/\st.getD A []=cs++R/\MatO (st.set A ((ids.map fun i=>PV.ms true i 0 n)++R)) A ids n rows/\
  ∀k,k<st.length->((st.set A ((ids.map fun i=>PV.ms true i 0 n)++R)).getD k []).length=(st.getD k []).length/\ ∀o,o<(st.getD k []).length->Un ((st.getD k []).getD o .junk) (((st.set A ((ids.map fun i=>PV.ms true i 0 n)++R)).getD k []).getD o .junk):=by
 rcases h.out with ⟨h0,_⟩ | ⟨_,A,cap,R,h1,h2,h3,h4,h5,h6,h7⟩;omega;refine⟨A,cap,R,h1,h2,h3,h5,⟨h.lid,h.lrow,RowAt.set h3,fun j hj=>(h.row j hj).mono (by simp) (Qo _ _ _ _ _ fun e=>h4 (e▸XM (by rw[h.lid];exact hj))),h4,h.nd⟩,fun k hk=> ?_⟩;by_cases e:k=A;subst e;rw[Qt _ _ _ _ h3,h5];refine⟨by simp[h.lid,h.lcs],fun o ho=> ?_⟩;by_cases hlt:o<n;rw[Qk _ _ _ _ (by rw[h.lcs];exact hlt),Qk _ _ _ _ (by simp[h.lid];exact hlt)];have:(ids.map fun i=>PV.ms true i 0 n).getD o .junk= .ms true (ids.getD o 0) 0 n:=by rw[q_a,B8,q_a,BB (show o<ids.length by rw[h.lid];exact hlt)];rfl
 rw[this];exact h.un o hlt;rw[Ql _ _ _ _ (by rw[h.lcs];omega),Ql _ _ _ _ (by simp[h.lid];omega),h.lcs,BR,h.lid];exact .same _;rw[Qo _ _ _ _ _ (fun e2=>e e2.symm)];exact⟨rfl,fun o _=> .same _⟩
def Below (base:Nat)(st st':Qf):Prop:=st'.length=st.length/\ ∀i,i<base->st'.getD i []=st.getD i []
theorem Below.refl (base:Nat)(st:Qf):Below base st st:=⟨rfl,fun _ _=>rfl⟩
theorem Below.trans {base:Nat}{st st' st'':Qf}(h:Below base st st')(h':Below base st' st''):Below base st st'':=⟨h'.1.trans h.1,fun i hi=>(h'.2 i hi).trans (h.2 i hi)⟩
theorem Below.set {base:Nat}{st:Qf}{k:Nat}(h:base<=k)(cs:List PV):Below base st (st.set k cs):=⟨by simp,fun i hi=>Qo _ _ _ _ _ oG⟩
theorem G0r {l m:Qf}(hl:l.length=m.length)(h: ∀i,i<l.length->l.getD i []=m.getD i []):l=m:=by refine C9 hl fun i h1 h2=> ?_;have:=h i h1;rwa [q_a,BB h1,q_a,BB h2] at this
theorem Below.app {st0 X st':Qf}(h:Below st0.length (st0++X) st'): ∃X',st'=st0++X':=by refine⟨st'.drop st0.length,G0r ?_ fun i hi=> ?_⟩;have:=h.1;rw[BH] at this⊢;rw[DM];omega;have hl:=h.1;rw[BH] at hl;by_cases e:i<st0.length;rw[h.2 i e,Qk _ _ _ _ e,Qk _ _ _ _ e];rw[Ql _ _ _ _ oG,q_a,q_a,DH,show st0.length+(i-st0.length)=i by omega]
structure PairO (base n:Nat) (st:Qf) (A:Nat) (ia:List Nat) (B:Nat) (ib:List Nat) (a r:List (List Nm)):Prop where
 qa:QO st A ia a
 qr:QO st B ib r
 la:a.length=n
 lr:r.length=n
 ab:A≠B
 aib:A∉ib
 bia:B∉ia
 ij: ∀x∈ia,x∉ib
 ga:base<=A
 gb:base<=B
 gia: ∀x∈ia,base<=x
 gib: ∀x∈ib,base<=x
theorem PairO.symm {base n:Nat}{st:Qf}{A B:Nat}{ia ib:List Nat}{a r:List (List Nm)}(h:PairO base n st A ia B ib a r):PairO base n st B ib A ia r a:=
 ⟨h.qr,h.qa,h.lr,h.la,fun e=>h.ab e.symm,h.bia,h.aib,fun x hx hx2=>h.ij x hx2 hx,h.gb,h.ga,h.gib,h.gia⟩
theorem QO.lid {st:Qf}{A:Nat}{ids:List Nat}{a:List (List Nm)}(h:QO st A ids a):ids.length=a.length:=h.2.lid
theorem QO.mono {st st':Qf}{A:Nat}{ids:List Nat}{a:List (List Nm)}(h:QO st A ids a)(hl:st.length<=st'.length)(hg: ∀k,k=A\/k∈ids->st'.getD k []=st.getD k []):QO st' A ids a:=⟨h.1,h.2.mono hl hg⟩
theorem QO.setRow {st:Qf}{A:Nat}{ids:List Nat}{a:List (List Nm)}(h:QO st A ids a){j:Nat}(hj:j<a.length){x:List Nm}(hx:x.length=a.length)(R:List PV):QO (st.set (ids.getD j 0) (J4 x++R)) A ids (a.set j x):=by refine⟨fun r hr=> ?_,?_⟩;rw[BL];rcases EQ hr with hr | rfl;exact h.1 r hr;exact hx;rw[BL,FA];exact h.2.setRow hj _ R
theorem PairO.setA {base n:Nat}{st:Qf}{A B:Nat}{ia ib:List Nat}{a r:List (List Nm)}(h:PairO base n st A ia B ib a r){j:Nat}(hj:j<n){x:List Nm}(hx:x.length=n)(R:List PV):
 PairO base n (st.set (ia.getD j 0) (J4 x++R)) A ia B ib (a.set j x) r/\Below base st (st.set (ia.getD j 0) (J4 x++R)):=by
 have hm:ia.getD j 0∈ia:=XM (by rw[h.qa.lid,h.la];exact hj);refine⟨⟨h.qa.setRow (by rw[h.la];exact hj) (by rw[h.la];exact hx) R,h.qr.mono (by simp) fun k hk=>Qo _ _ _ _ _ fun e=> ?_,by rw[BL];exact h.la,h.lr,h.ab,h.aib,h.bia,h.ij,h.ga,h.gb,h.gia,h.gib⟩,Below.set (h.gia _ hm) _⟩;rcases hk with rfl | hk;exact h.bia (e▸hm);exact h.ij _ hm (e▸hk)
theorem PairO.setR {base n:Nat}{st:Qf}{A B:Nat}{ia ib:List Nat}{a r:List (List Nm)}(h:PairO base n st A ia B ib a r){j:Nat}(hj:j<n){x:List Nm}(hx:x.length=n)(R:List PV):
 PairO base n (st.set (ib.getD j 0) (J4 x++R)) A ia B ib a (r.set j x)/\Below base st (st.set (ib.getD j 0) (J4 x++R)):=
 ⟨(h.symm.setA hj hx R).1.symm,(h.symm.setA hj hx R).2⟩
theorem QO.swap {st:Qf}{A:Nat}{ids:List Nat}{a:List (List Nm)}(h:QO st A ids a){i j:Nat}(hi:i<a.length)(hj:j<a.length)(R:List PV):
 QO (st.set A ((Zz 0 ids i j).map (fun k=>PV.ms true k 0 a.length)++R)) A (Zz 0 ids i j) (Zz [] a i j):=by
 refine⟨fun r hr=> ?_,?_⟩;rw[Jj];unfold Zz at hr;rcases EQ hr with hr | rfl;rcases EQ hr with hr | rfl;exact h.1 r hr;exact h.1 _ (Qq _ _ _ hj);exact h.1 _ (Qq _ _ _ hi);rw[Jj,z0t J4 [] [] a hi hj];exact h.2.swap hi hj R
theorem PairO.swapA {base n:Nat}{st:Qf}{A B:Nat}{ia ib:List Nat}{a r:List (List Nm)}(h:PairO base n st A ia B ib a r){i j:Nat}(hi:i<n)(hj:j<n)(R:List PV):
 PairO base n (st.set A ((Zz 0 ia i j).map (fun k=>PV.ms true k 0 n)++R)) A (Zz 0 ia i j) B ib (Zz [] a i j) r/\Below base st (st.set A ((Zz 0 ia i j).map (fun k=>PV.ms true k 0 n)++R)):=by
 have hla:=h.la;have hli:=h.qa.lid;have hs:=h.qa.swap (i:=i) (j:=j) oG oG R;rw[hla] at hs;have hmem: ∀x,x∈Zz 0 ia i j->x∈ia:=fun x hx=>kw oG oG hx;refine⟨⟨hs,h.qr.mono (by simp) fun k hk=>Qo _ _ _ _ _ fun e=> ?_,by rw[Jj];exact h.la,h.lr,h.ab,h.aib,fun hx=>h.bia (hmem _ hx),fun x hx=>h.ij x (hmem _ hx),h.ga,h.gb,fun x hx=>h.gia x (hmem _ hx),h.gib⟩,Below.set h.ga _⟩;rcases hk with rfl | hk;exact h.ab e;exact h.aib (e▸hk)
theorem PairO.swapR {base n:Nat}{st:Qf}{A B:Nat}{ia ib:List Nat}{a r:List (List Nm)}(h:PairO base n st A ia B ib a r){i j:Nat}(hi:i<n)(hj:j<n)(R:List PV):
 PairO base n (st.set B ((Zz 0 ib i j).map (fun k=>PV.ms true k 0 n)++R)) A ia B (Zz 0 ib i j) a (Zz [] r i j)/\Below base st (st.set B ((Zz 0 ib i j).map (fun k=>PV.ms true k 0 n)++R)):=
 ⟨(h.symm.swapA hi hj R).1.symm,(h.symm.swapA hi hj R).2⟩
theorem vk {ids:List Nat}{n:Nat}{R:List PV}{i j:Nat}(hi:i<ids.length)(hj:j<ids.length):
 Zx (Zx (ids.map (fun k=>PV.ms true k 0 n)++R) i [.ms true (ids.getD j 0) 0 n]) j [.ms true (ids.getD i 0) 0 n]=(Zz 0 ids i j).map (fun k=>PV.ms true k 0 n)++R:=by
 rw[HZ (by rw[BR];exact hi),HZ (by rw[BL,BR];exact hj)];unfold Zz;rw[FA,FA]
def SeenRet (st:Qf)(Q:PV->Prop)(r:PV)(st':Qf):Prop:= ∃X q e,st'=st++X/\Seen st' e r q/\(∀k,k<st'.length->e.getD k 0<=(st'.getD k []).length)/\(∀k,k<st.length->e.getD k 0=0)/\r.stale=true/\q.stale=true/\Q q
theorem zr {P:Program}{f:FuncId}{args:List PV}{st:Qf}{Q:PV->Prop}(h:PCalls P f args st fun r st'=>SeenRet st Q r st'):PCalls P f args st (fun r st'=>Q r/\st'=st):=YU h
theorem SeenRet.err {st X:Qf}{Q:PV->Prop}{t:Tag}{e:Value}(h:Q (.tup [.sl t [],.sc e])):SeenRet st Q (.tup [.sl t [],.sc e]) (st++X):=
 ⟨X,_,[],rfl,.tup rfl fun j hj=>by
  match j,hj with
  | 0,_=>exact .same (.sl fun e he=>by cases he)
  | 1,_=>exact .same (.sc e),fun k _=>by simp,fun k _=>by simp,rfl,rfl,h⟩
theorem SeenRet.err0 {st:Qf}{Q:PV->Prop}{t:Tag}{e:Value}(h:Q (.tup [.sl t [],.sc e])):SeenRet st Q (.tup [.sl t [],.sc e]) st:=by have:=SeenRet.err (st:=st) (X:= []) h;rwa [B9] at this
def Kept (st S:Qf):Prop:=st.length<=S.length/\ ∀x,x<st.length->S.getD x []=st.getD x []
theorem Kept.app {st S:Qf}(h:Kept st S): ∃X,S=st++X:=by obtain⟨h1,h2⟩:=h;refine⟨S.drop st.length,C9 (by simp;omega) fun i h3 h4=> ?_⟩;by_cases hi:i<st.length;rw[List.getElem_append_left hi];have:=h2 i hi;rw[q_a,BB h3,q_a,BB hi] at this;exact this;rw[List.getElem_append_right oG,List.getElem_drop];congr 1;omega
theorem Kept.step {st S S':Qf}(h:Kept st S)(hl:S.length<=S'.length)(hx: ∀x,x<st.length->S'.getD x []=S.getD x []):Kept st S':=⟨B7 h.1 hl,fun x hx'=>(hx x hx').trans (h.2 x hx')⟩
def GrwAt (B sz:Nat)(S:Qf)(y:PV)(es:List PV):Prop:=
 (es= []/\y= .sl .full [])\/(es≠ []/\ ∃K cap R,y= .gr K es.length cap/\B<=K/\K<S.length/\S.getD K []=flat es++R/\R.length=(cap-es.length)*sz/\es.length<=cap)
theorem x0u {B sz:Nat}{S:Qf}{a:PV}{cap:Nat}{R:List PV}(hB:B<=S.length)(hc:1<=cap)(hR:R.length=(cap-1)*sz):GrwAt B sz (S++ [flat [a]++R]) (.gr S.length 1 cap) [a]:=
 .inr ⟨by simp,S.length,cap,R,rfl,hB,by simp,by rw[Ql _ _ _ _ (BD _),DD];rfl,hR,hc⟩
theorem x0v {B sz K cap K' cap':Nat}{S S':Qf}{a:PV}{es R:List PV}(h1:B<=K)(h2:K<S.length)(h3:S.getD K []=flat es++R)(h4:R.length=(cap-es.length)*sz)(h5:es.length<=cap)(he:(flat es).length=es.length*sz)(ha:a.cells.length=sz)
 (hG:GrowTo S K es.length cap [a] sz K' cap' S'):GrwAt B sz S' (.gr K' (es.length+1) cap') (es++ [a])/\S.length<=S'.length/\(∀x,x<S.length->x≠K->S'.getD x []=S.getD x [])/\(K'=K\/K'=S.length):=by
 have hfa:(flat [a]).length= [a].length*sz:=by show(a.cells++ []).length=_;rw[B9,ha];simp
 obtain⟨R',f1,f2,f4,f5,f6,f7,f8⟩:=GrowTo.facts hG h2 h3 he hfa h4 h5;have e:flat (es++ [a])=flat es++flat [a]:=qD _ _;refine⟨.inr ⟨by simp,K',cap',R',by simp,?_,f5,by rw[f1,e,BP],by simpa using f2,by simpa using f4⟩,f7,f8,f6⟩;rcases f6 with rfl | rfl;exact h1;exact B7 h1 (F4 h2)
theorem GrwAt.keep {B sz:Nat}{S S':Qf}{y:PV}{es:List PV}(h:GrwAt B sz S y es)(hl:S.length<=S'.length)(hx: ∀K a c,y= .gr K a c->B<=K->K<S.length->S'.getD K []=S.getD K []):GrwAt B sz S' y es:=by rcases h with h | ⟨h0,K,cap,R,h1,h2,h3,h4,h5,h6⟩;exact .inl h;exact .inr ⟨h0,K,cap,R,h1,h2,q_e h3 hl,by rw[hx K _ _ h1 h2 h3];exact h4,h5,h6⟩
theorem WE (l:List Nm): ∀i,i<(Qy l).length->((Qy l).getD i .junk).cells.length=3:=fun i hi=>by rw[QT] at hi;rw[QG l i hi];rfl
theorem KY (l:List Nm):(flat (Qy l)).length=(Qy l).length*3:=Z5 (WE l)
structure OutO (st S:Qf) (O n:Nat) (cell:Nat->PV) (val:Nat->List Nm):Prop where
 old:Kept st S
 o:st.length<=O/\O<S.length/\n<=(S.getD O []).length/\ ∀i,i<n->(S.getD O []).getD i .junk=cell i
 r: ∀i,i<n->GrwAt (O+1) 3 S (cell i) (Qy (val i))
 d: ∀i j K a c a' c',i<n->j<n->cell i= .gr K a c->cell j= .gr K a' c'->i=j
def Q2x (cell:Nat->PV)(i:Nat)(y:PV):Nat->PV:=fun j=>if j=i then y else cell j
def k1o (val:Nat->List Nm)(i:Nat)(x:Nm):Nat->List Nm:=fun j=>if j=i then val i++ [x] else val j
theorem OutO.start (st:Qf)(n:Nat):OutO st (st++ [List.replicate n (.sl .full [])]) st.length n (fun _=> .sl .full []) (fun _=> []):=by
 have hg:(st++ [List.replicate n (PV.sl .full [])]).getD st.length []=List.replicate n (.sl .full []):=by rw[Ql _ _ _ _ (BD _),DD];rfl
 refine⟨⟨by simp,fun x hx=>Qk _ _ _ _ hx⟩,⟨BD _,by simp,by rw[hg];simp,fun i hi=>by rw[hg];simp[q_a,hi]⟩,fun i hi=> .inl ⟨rfl,rfl⟩,fun i j K a c a' c' _ _ h=>by cases h⟩
theorem K2u {l:List PV}{i:Nat}(h:i<l.length)(y:PV):Zx l i [y]=l.set i y:=by unfold Zx;rw[DS,BC h];simp
theorem OutO.ext {st S:Qf}{O n:Nat}{cell:Nat->PV}{val val':Nat->List Nm}(h:OutO st S O n cell val)(hv: ∀i,i<n->val i=val' i):OutO st S O n cell val':=
 ⟨h.old,h.o,fun i hi=>by rw[<-hv i hi];exact h.r i hi,h.d⟩
theorem OutO.put {st S S1:Qf}{O n i:Nat}{cell:Nat->PV}{val:Nat->List Nm}{y:PV}{x:Nm}(h:OutO st S O n cell val)(hi:i<n)(hl:S.length<=S1.length)(hx: ∀q,q<S.length->(∀a c,cell i≠ .gr q a c)->S1.getD q []=S.getD q [])
 (hy:GrwAt (O+1) 3 S1 y (Qy (val i++ [x]))) (hf: ∀K a c,y= .gr K a c->S.length<=K\/ ∃a' c',cell i= .gr K a' c'):OutO st (S1.set O (Zx (S1.getD O []) i [y])) O n (Q2x cell i y) (k1o val i x):=by
 obtain⟨o1,o2,o3,o4⟩:=h.o;have hrow: ∀j K a c,j<n->cell j= .gr K a c->O+1<=K/\K<S.length:=fun j K a c hj e=>by rcases h.r j hj with ⟨_,e0⟩ | ⟨_,K',cap,R,e0,k1,k2,_⟩;rw[e] at e0;cases e0;rw[e] at e0;injection e0 with e1;subst e1;exact⟨k1,k2⟩
 have hO:S1.getD O []=S.getD O []:=hx O o2 fun a c e=>by have:=(hrow i O a c hi e).1;omega
 have hov:Zx (S1.getD O []) i [y]=(S.getD O []).set i y:=by rw[hO];exact K2u oG y
 have hO1:O<S1.length:=oG;have hSO:(S1.set O (Zx (S1.getD O []) i [y])).getD O []=(S.getD O []).set i y:=(by rw[hov];exact Qt _ _ _ _ hO1);have hne: ∀K,K≠O->(S1.set O (Zx (S1.getD O []) i [y])).getD K []=S1.getD K []:=fun K e=>Qo _ _ _ _ _ (fun e'=>e e'.symm);refine⟨h.old.step (by rw[BL];exact hl) fun q hq=> ?_,⟨o1,by rw[BL];exact hO1,by rw[hSO,BL];exact o3,fun j hj=> ?_⟩,fun j hj=> ?_,fun a b K p c p' c' ha hb e1 e2=> ?_⟩;rw[hne q oG];exact hx q (by have:=h.old.1;omega) fun a c e=>(by have:=(hrow i q a c hi e).1;omega);rw[hSO];unfold Q2x;by_cases e:j=i;subst e;rw[BC rfl,Qt _ _ _ _ oG];rw[BA e,Qo _ _ _ _ _ (fun e'=>e e'.symm)];exact o4 j hj;unfold Q2x k1o;by_cases e:j=i;subst e;rw[BC rfl,BC rfl];exact hy.keep (by rw[BL];exact BD _) fun K a c _ h1 _=>hne K oG;rw[BA e,BA e];refine(h.r j hj).keep (by rw[BL];exact hl) fun K a c ec h1 h2=> ?_;rw[hne K oG];exact hx K h2 fun a' c' ei=>e (h.d j i K a c a' c' hj hi ec ei);unfold Q2x at e1 e2;by_cases ea:a=i;by_cases eb:b=i;omega;rw[BC ea] at e1;rw[BA eb] at e2;rcases hf K p c e1 with hk | ⟨p2,c2,hk⟩;have:=(hrow b K p' c' hb e2).2;omega;exact absurd (h.d b i K p' c' p2 c2 hb hi e2 hk) eb;rw[BA ea] at e1;by_cases eb:b=i;rw[BC eb] at e2;rcases hf K p' c' e2 with hk | ⟨p2,c2,hk⟩;have:=(hrow a K p c ha e1).2;omega;exact absurd (h.d a i K p c p2 c2 ha hi e1 hk) ea;rw[BA eb] at e2;exact h.d a b K p c p' c' ha hb e1 e2
theorem V0l (l:List Nm){i j:Nat}(hi:i<l.length)(hj:j<3):Tame (((Qy l).getD i .junk).cells.getD j .junk):=by rw[QG l i hi];exact ku (l.getD i default) _ (Qq _ _ _ (by simpa[PV.cells,Q9] using hj))
theorem J1s {S:Qf}{e:List Nat}{B:Nat}{y:PV}{l:List Nm}(h:GrwAt B 3 S y (Qy l))(hne:l≠ [])(he: ∀k a c,y= .gr k a c->B<=k->k<S.length->l.length*3<=(S.getD k []).length->l.length*3<=e.getD k 0):Seen S e y (.sl .no (Qy l)):=by rcases h with ⟨e0,_⟩ | ⟨_,K,cap,R,e0,k1,k2,k3,k4,k5⟩;exfalso;have:=B4 List.length e0;rw[QT] at this;exact hne (BZ.1 this);rw[QT] at e0 k4 k5;have hfl:=KY l;rw[QT] at hfl;have hee:=he K _ _ e0 k1 k2 (by rw[k3,BH,hfl];omega);rw[e0];refine .ms (sz:=3) (.inr ⟨cap,rfl⟩) k2 (QT l) (fun i hi=>WE l i (by rw[QT];exact hi)) hee fun i j hi hj=> ?_;have hm:i*3+j<l.length*3:=oG;have h2:(S.getD K []).getD (i*3+j) .junk=((Qy l).getD i .junk).cells.getD j .junk:=(by rw[k3,Qk _ _ _ _ (by rw[hfl];exact hm),XT (WE l) _ (by rw[QT];exact hm),show(i*3+j)/3=i by omega,show(i*3+j) % 3=j by omega]);rw[h2];exact .same (V0l l hi hj)
def y1n (st S:Qf):List Nat:=(List.range S.length).map fun k=>if k<st.length then 0 else(S.getD k []).length
theorem jK {st S:Qf}{k:Nat}(h:k<S.length):(y1n st S).getD k 0=if k<st.length then 0 else(S.getD k []).length:=by unfold y1n;simp[q_a,h]
theorem j0t (val:Nat->List Nm)(n:Nat):Z8 ((List.range n).map val)=(List.range n).map fun i=>PV.sl .no (Qy (val i)):=by unfold Z8;rw[DZ];rfl
theorem OutO.seen {st S:Qf}{O n:Nat}{cell:Nat->PV}{val:Nat->List Nm}(h:OutO st S O n cell val)(hne: ∀i,i<n->val i≠ []){Q:PV->Prop}{e:Value}(hQ:Q (.tup [.sl .no (Z8 ((List.range n).map val)),.sc e])):SeenRet st Q (.tup [.ms true O 0 n,.sc e]) S:=by
 obtain⟨X,hX⟩:=h.old.app;obtain⟨o1,o2,o3,o4⟩:=h.o;have he: ∀k,st.length<=k->k<S.length->(y1n st S).getD k 0=(S.getD k []).length:=fun k h1 h2=>(by rw[jK h2,BA oG]);refine⟨X,_,y1n st S,hX,.tup (ds:= [.sl .no (Z8 ((List.range n).map val)),.sc e]) rfl fun j hj=> ?_,fun k hk=> ?_,fun k hk=> ?_,rfl,rfl,hQ⟩
 match j,hj with
 | 1,_=>exact .same (.sc e)
 | 0,_=>
  show Seen S (y1n st S) (.ms true O 0 n) (.sl .no (Z8 ((List.range n).map val)));rw[j0t];refine .ms (sz:=1) (.inl rfl) o2 (by simp) (fun i hi=>by simp[q_a,hi,PV.cells]) (by rw[he O o1 o2];omega) fun i j hi hj=> ?_;have j0:j=0:=oG;subst j0;rw[EK,B1,o4 i hi];have:((((List.range n).map fun i=>PV.sl .no (Qy (val i))).getD i .junk).cells.getD 0 .junk)= .sl .no (Qy (val i)):=(by simp[q_a,hi,PV.cells]);rw[this];exact J1s (h.r i hi) (hne i hi) fun k a c _ h1 h2 h3=>by rw[he k oG h2];exact h3
 rw[jK hk];split<;>omega
 have:=h.old.1;rw[jK oG,BC hk]
end Go.Pv
end
