/- Parts of the walk: PvBh. -/
import Derived.Test.YtldalepagmhnmaaGreatDoorZEE
set_option linter.unusedVariables false
set_option linter.unusedSimpArgs false
section
namespace Go.Pv
inductive Seen (st:Q0f) (e:List Nat):PV->PV->Prop
 | same {p:PV} (h:Tame p):Seen st e p p
 | agg {cs ds:List PV} (hl:cs.length=ds.length) (h: ∀j,j<ds.length->Seen st e (cs.getD j .junk) (ds.getD j .junk)):Seen st e (.agg cs) (.agg ds)
 | tup {cs ds:List PV} (hl:cs.length=ds.length) (h: ∀j,j<ds.length->Seen st e (cs.getD j .junk) (ds.getD j .junk)):Seen st e (.tup cs) (.tup ds)
 | ms {p:PV} {k n sz:Nat} {es:List PV} (hp:p= .ms true k 0 n\/ ∃cap,p= .gr k n cap) (hk:k<st.length) (hl:es.length=n) (hsz: ∀i,i<n->(es.getD i .junk).cells.length=sz) (he:n*sz<=e.getD k 0)
  (h: ∀i j,i<n->j<sz->Seen st e ((st.getD k []).getD (i*sz+j) .junk) ((es.getD i .junk).cells.getD j .junk)):Seen st e p (.sl .no es)
theorem Seen.rep {w:World}{g G:Gh}{st:Q0f}{e:List Nat}(hs:StoreOK w g st)(hx: ∀k,k<st.length->e.getD k 0<=(st.getD k []).length)(hv: ∀b,g.vis b<=G.vis b)(hk: ∀k,k<st.length->e.getD k 0<=G.vis (g.mu k)){p q:PV}(h:Seen st e p q):
 ∀v,Rep w g v p->Rep w G v q:=by
 induction h with
 | @same p h=>
  intro v hr;have h1:=Low.mk (h.low 0).1 (g:=g) G.vis hv hr;exact Rep.mono (w:=w) (g:=⟨0,fun _=>0,G.vis⟩) (w':=w) (g':=G) ⟨Nat.zero_le _,fun i hi=>absurd hi (Nat.not_lt_zero _),fun _=>Nat.le_refl _,fun _ _ _ _ hc=>hc⟩ h1
 | agg hl h ih=>
  intro v hr;cases hr with
  | agg vs _ hl' h'=>exact .agg vs _ (by omega) fun j hj=>ih j hj _ (h' j (by omega))
 | tup hl h ih=>
  intro v hr;cases hr with
  | tup vs _ hl' h'=>exact .tup vs _ (by omega) fun j hj=>ih j hj _ (h' j (by omega))
 | @ms p k n sz es hp hkl hl hsz he h ih=>
  intro v hr;have hn:=hs.n;obtain⟨cap,rfl,hcap⟩: ∃cap,v= .slice (some ⟨g.mu k,0,none⟩) n cap/\n<=cap:=by
   rcases hp with rfl | ⟨cap,rfl⟩;cases hr with | gms _ _ _ cap _ hcap=>exact⟨cap,rfl,hcap⟩
   cases hr with | gr _ _ _ _ hcap=>exact⟨cap,rfl,hcap⟩
  have hh:=hs.holds k (by omega);have hle:=hx k hkl;have:=Rep.sl (w:=w) (g:=G) .no es (g.mu k) 0 sz cap (fun i j=>(w.cell? ⟨g.mu k,0+i*sz+j,none⟩).getD undef) rfl (fun h=>by cases h) (by omega) (fun i hi=>hsz i (by omega))
   (fun h0=>by rw[hl,Nat.zero_add];exact Nat.le_trans he (hk k hkl))
   (fun i j hi hj=>by have:=K0y (show i<n by omega) hj;obtain⟨_,c,q1,q2⟩:=hh (i*sz+j) (by omega);rw[show 0+i*sz+j=i*sz+j by omega,q1];rfl)
   (fun i j hi hj=>by have:=K0y (show i<n by omega) hj;obtain⟨_,c,q1,q2⟩:=hh (i*sz+j) (by omega);rw[show 0+i*sz+j=i*sz+j by omega,q1];exact ih i j (by omega) hj _ q2)
  rw[hl] at this;exact this
noncomputable def W0z (g:Gh)(lo:Nat)(e:List Nat)(b:Nat):Nat:=
 open Classical in if h: ∃k,lo<=k/\k<g.n/\g.mu k=b/\0<e.getD k 0 then e.getD h.choose 0 else g.vis b
section
variable {w:World} {g:Gh} {st:Q0f} {e:List Nat} {lo:Nat}
theorem X1u (hs:StoreOK w g st)(k:Nat)(hlo:lo<=k)(hk:k<g.n):e.getD k 0<=W0z g lo e (g.mu k):=by unfold W0z;split;rename_i h;obtain⟨h1,h2,h3,h4⟩:=h.choose_spec;rw[hs.inj _ _ h2 hk h3];exact Nat.le_refl _;rename_i h;by_cases h0:0<e.getD k 0;exact absurd ⟨k,hlo,hk,rfl,h0⟩ h;omega
theorem W1h (hs:StoreOK w g st)(hx: ∀k,k<st.length->e.getD k 0<=(st.getD k []).length)(b:Nat):g.vis b<=W0z g lo e b:=by unfold W0z;split;rename_i h;obtain⟨h1,h2,h3,h4⟩:=h.choose_spec;have h5:=hx _ (by rw[<-hs.n];exact h2);have:=hs.vis _ h2 (fun e=>by rw[e] at h5;exact absurd h5 (Nat.not_le_of_lt h4));rw[h3] at this;omega;exact Nat.le_refl _
theorem q0r (b:Nat)(hb:W0z g lo e b≠g.vis b): ∃k,lo<=k/\k<g.n/\g.mu k=b/\W0z g lo e b=e.getD k 0:=by unfold W0z at hb⊢;split;rename_i h;obtain⟨h1,h2,h3,h4⟩:=h.choose_spec;exact⟨_,h1,h2,h3,rfl⟩;rename_i h;rw[dif_neg h] at hb;exact absurd rfl hb
end
def PV.stale :PV->Bool
 | .sl (.fresh _) _=>false
 | _=>true
theorem H1n {p:PV}(h:p.stale=true)(B:Nat)(w:World)(g:Gh)(v:Value):RepRes B w g v p=Rep w g v p:=by
 cases p with
 | sl t es=>cases t<;>first | rfl | cases h
 | _=>rfl
theorem k1g {P:Program}{f:FuncId}{args:List PV}{st:Q0f}{Q:PV->Prop}(h:PCalls P f args st fun r st'=> ∃X q e,st'=st++X/\Seen st' e r q/\(∀k,k<st'.length->e.getD k 0<=(st'.getD k []).length)/\(∀k,k<st.length->e.getD k 0=0)/\r.stale=true/\q.stale=true/\Q q):
 PCalls P f args st (fun r st'=>Q r/\st'=st):=by
 intro w g vs hs hr;refine(h w g vs hs hr).mono ?_;rintro en w' ⟨v,g',r,st',rfl,hx,ho,hv,X,q,e,rfl,hsee,hle,hlo,sr,sq,hq⟩;rw[H1n sr] at hv;have hn:st.length=g.n:=hs.n.symm;have hn':g.n<=g'.n:=hx.le.n;have hgd: ∀i,i<g.n->(st++X).getD i []=st.getD i []:=fun i hi=>by rw[q_a,List.getElem?_append_left (by omega),<-q_a]
 let G:Gh:=⟨g.n,g'.mu,W0z g' g.n e⟩
 have hvle: ∀b,g'.vis b<=G.vis b:=W1h ho hle;have hvold: ∀b,(∀k,g.n<=k->k<g'.n->g'.mu k≠b)->G.vis b=g'.vis b:=fun b hb=>by refine Classical.byContradiction fun hne=> ?_;obtain⟨k,h1,h2,h3,_⟩:=q0r b hne;exact hb k h1 h2 h3
 have hkv: ∀k,k<(st++X).length->e.getD k 0<=G.vis (g'.mu k):=fun k hk=>by by_cases hlt:k<g.n;rw[hlo k (by omega)];exact Nat.zero_le _;exact X1u ho k (by omega) (by rw[ho.n];exact hk)
 refine⟨v,G,q,st,rfl,⟨⟨Nat.le_refl _,hx.le.mu,fun b=>Nat.le_trans (hx.le.vis b) (hvle b),hx.le.cell⟩,hx.os,hx.tape,hx.output,hx.size,fun b hb hnb=> ?_,fun i hi hi'=>absurd hi (Nat.not_le_of_lt hi')⟩,
  ⟨hs.n,fun i j hi hj=>ho.inj i j (q_e hi hn') (q_e hj hn'),fun i hi=>ho.lt i (q_e hi hn'),fun i hi hne=> ?_,fun i hi=> ?_,fun b hb=> ?_,fun t ht=>⟨Nat.le_trans (ho.tab t ht).1 (hvle _),(ho.tab t ht).2⟩⟩,?_,hq,rfl⟩
 obtain⟨o1,o2⟩:=hx.old b hb hnb;refine⟨o1,?_⟩;rw[hvold b fun k h1 h2 h3=> ?_];exact o2;have:=hx.new k h1 h2;omega;have h1:=ho.vis i (q_e hi hn') (by rw[hgd i hi];exact hne);rw[hvold _ fun k h1 h2 h3=> ?_];exact h1;have:=ho.inj k i h2 (q_e hi hn') h3;have hi':i<g.n:=hi;omega;have h1:=ho.holds i (q_e hi hn');rw[hgd i hi] at h1;intro j hj;obtain⟨z1,c,z2,z3⟩:=h1 j hj;obtain⟨_,c0,_,z4⟩:=hs.holds i hi j hj;refine⟨z1,c,z2,?_⟩;have z5:=W1t z4 _ _ _ z3 hn';exact Rep.mono (w:=w') (g:= { g' with n:=g.n }) (w':=w') (g':=G) ⟨Nat.le_refl _,fun _ _=>rfl,hvle,fun _ _ _ _ hc=>hc⟩ z5;rw[hvold b fun k h1 h2 h3=> ?_];exact ho.none b hb;have:=ho.lt k h2;omega;rw[H1n sq];exact hsee.rep ho hle hvle hkv v hv
def PV.notW :PV->Bool
 | .sl _ _ | .ms true _ _ _ | .gr _ _ _ | .sc (.bool _) | .sc (.int .i64 _)=>true
 | _=>false
theorem K3w {w:World}{g:Gh}{v:Value}{p:PV}(h:Rep w g v p)(hp:p.notW=true){y:Value}(hy:uwV y):v≠y:=by
 intro e;subst e;obtain⟨x,rfl | rfl⟩:=hy<;>
 cases h with
 | sc v=>cases hp
 | junk v=>cases hp
theorem PCalls.lendS {P:Program}{f:FuncId}{xs ys:List PV}{st:Q0f}{R:PV}(e:List Nat)(h:PCalls P f ys [] (fun r st'=>r=R/\st'= []))(hw:Wordy R)(hl:xs.length=ys.length)(hsee: ∀j,j<ys.length->Seen st e (xs.getD j .junk) (ys.getD j .junk))
 (hle: ∀k,k<st.length->e.getD k 0<=(st.getD k []).length) (hnw: ∀k o,k<st.length->o<e.getD k 0->((st.getD k []).getD o .junk).notW=true):PCalls P f xs st (fun r st'=>r=R/\st'=st):=by
 intro w g vs hs hr;have hvle: ∀b,g.vis b<=W0z g 0 e b:=W1h hs hle;have hn:=hs.n
 let g0:Gh:=⟨0,fun _=>0,W0z g 0 e⟩
 have hnone: ∀b,w.heap.size<=b->W0z g 0 e b=0:=fun b hb=>by by_cases hq:W0z g 0 e b=g.vis b;rw[hq];exact hs.none b hb;obtain⟨i,_,h1,h2,_⟩:=q0r b hq;have:=hs.lt i h1;omega
 have hs0:StoreOK w g0 []:=(by refine⟨rfl,fun i j hi=>by simp[g0] at hi,fun i hi=>by simp[g0] at hi,fun i hi=>by simp[g0] at hi,fun i hi=>by simp[g0] at hi,hnone,fun t ht=>⟨Nat.le_trans (hs.tab t ht).1 (hvle _),(hs.tab t ht).2⟩⟩);have hr0:Reps w g0 vs ys:=⟨by rw[hr.1,hl],fun j hj=>(hsee j hj).rep hs hle hvle (fun k hk=>X1u hs k (Nat.zero_le _) (by omega)) _ (hr.2 j (by omega))⟩;refine(h w g0 vs hs0 hr0).mono ?_;rintro en w' ⟨v,g1,r,st1,rfl,hx,hoo,hrr,rfl,rfl⟩;rw[hw.res] at hrr;have hold: ∀c,c<w.heap.size->w'.heap[c]?=w.heap[c]?/\g1.vis c=W0z g 0 e c:=fun c hc=>hx.old c hc (fun i hi=>by simp[g0] at hi)
 let g2:Gh:=⟨g.n,g.mu,fun c=>if c<w.heap.size then g.vis c else g1.vis c⟩
 have hle2:Le w g w' g2:=by refine⟨Nat.le_refl _,fun _ _=>rfl,fun c=> ?_,fun c o v ho hc=>hx.le.cell c o v (q_e ho (hvle c)) hc⟩;show g.vis c<=if c<w.heap.size then g.vis c else g1.vis c;split;exact Nat.le_refl _;rename_i hn;rw[hs.none c (by omega)];exact Nat.zero_le _
 have hext:Ext w g w' g2:=by refine⟨hle2,hx.os,hx.tape,hx.output,hx.size,fun c hc _=>⟨(hold c hc).1,if_pos hc⟩,fun i h1 h2=> ?_⟩;have h2':i<g.n:=h2;omega
 have hst:StoreOK w' g2 st:=by refine⟨hs.n,hs.inj,fun i hi=>q_e (hs.lt i hi) hx.size,fun i hi h0=> ?_,fun i hi=> ?_,fun c hc=> ?_,hs.tab.mono hle2⟩;show(if g.mu i<w.heap.size then g.vis (g.mu i) else _)=0;rw[if_pos (hs.lt i hi)];exact hs.vis i hi h0;exact(hs.holds i hi).mono (hold _ (hs.lt i hi)).1 fun v p hp=>hp.mono hle2;show(if c<w.heap.size then g.vis c else g1.vis c)=0;have:=hx.size;rw[if_neg (by omega)];exact hoo.none c hc
 refine⟨v,g2,r,st,rfl,hext,hst,?_,rfl,rfl⟩;rw[hw.res];have:=Wordy.turn (g':=g2) (fun b off x hxw hoff hcell=> ?_) hw hrr;exact this;show(if b<w.heap.size then g.vis b else g1.vis b)=g1.vis b;split;rename_i hb;obtain⟨q1,q2⟩:=hold b hb;rw[q2] at hoff⊢;by_cases hq:W0z g 0 e b=g.vis b;exact hq.symm;obtain⟨i,_,h1,h2,h3⟩:=q0r b hq;rw[h3] at hoff;have o1:=hle i (by omega);have o2:=hnw i off (by omega) hoff;obtain⟨_,c,c1,c2⟩:=hs.holds i h1 off (by omega);rw[h2] at c1;have hcw:w'.cell? ⟨b,off,none⟩=w.cell? ⟨b,off,none⟩:=World.cell?_of_block (w:=w) (w':=w') (a:=⟨b,off,none⟩) q1;rw[hcw,c1] at hcell;exact absurd (Option.some.inj hcell) (K3w c2 o2 hxw);rfl
end Go.Pv
end
