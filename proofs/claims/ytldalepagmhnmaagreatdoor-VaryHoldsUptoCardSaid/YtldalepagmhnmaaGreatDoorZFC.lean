/- Parts of the walk: PvBh. -/
import Derived.Test.YtldalepagmhnmaaGreatDoorZEE
set_option linter.unusedVariables false
set_option linter.unusedSimpArgs false
section
namespace Go.Pv
inductive Seen (st:Q0f) (e:List Nat):PV->PV->Prop
 | same {p:PV} (h:Tame p):Seen st e p p
 | agg {cs ds:List PV} (hl:cs.length=ds.length) (h: ∀j,j<ds.length->Seen st e (cs.getD j .junk) (ds.getD j .junk)):Seen st e (.agg cs) (.agg ds)
 | tup {cs ds:List PV} (hl:cs.length=ds.length) (h: ∀j,j<ds.length->Seen st e (cs.getD j .junk) (ds.getD j .junk)):Seen st e (.tup cs) (.tup ds)
 | ms {p:PV} {k n sz:Nat} {es:List PV} (hp:p= .ms true k 0 n\/ ∃cap,p= .gr k n cap) (hk:k<st.length) (hl:es.length=n) (hsz: ∀i,i<n->(es.getD i .junk).cells.length=sz) (he:n*sz<=e.getD k 0)
  (h: ∀i j,i<n->j<sz->Seen st e ((st.getD k []).getD (i*sz+j) .junk) ((es.getD i .junk).cells.getD j .junk)):Seen st e p (.sl .no es)
theorem Seen.rep {w:World}{g G:Gh}{st:Q0f}{e:List Nat}(hs:StoreOK w g st)(hx: ∀k,k<st.length->e.getD k 0<=(st.getD k []).length)(hv: ∀b,g.vis b<=G.vis b)(hk: ∀k,k<st.length->e.getD k 0<=G.vis (g.mu k)){p q:PV}(h:Seen st e p q):
 ∀v,Rep w g v p->Rep w G v q:=by
 induction h with
 | @same p h=>
  intro v hr;have h1:=Low.mk (h.low 0).1 (g:=g) G.vis hv hr;exact Rep.mono (w:=w) (g:=⟨0,fun _=>0,G.vis⟩) (w':=w) (g':=G) ⟨Nat.zero_le _,fun i hi=>absurd hi (Nat.not_lt_zero _),fun _=>Nat.le_refl _,fun _ _ _ _ hc=>hc⟩ h1
 | agg hl h ih=>
  intro v hr;cases hr with
  | agg vs _ hl' h'=>exact .agg vs _ (by omega) fun j hj=>ih j hj _ (h' j (by omega))
 | tup hl h ih=>
  intro v hr;cases hr with
  | tup vs _ hl' h'=>exact .tup vs _ (by omega) fun j hj=>ih j hj _ (h' j (by omega))
 | @ms p k n sz es hp hkl hl hsz he h ih=>
  intro v hr;have hn:=hs.n;obtain⟨cap,rfl,hcap⟩: ∃cap,v= .slice (some ⟨g.mu k,0,none⟩) n cap/\n<=cap:=by
   rcases hp with rfl | ⟨cap,rfl⟩;cases hr with | gms _ _ _ cap _ hcap=>exact⟨cap,rfl,hcap⟩
   cases hr with | gr _ _ _ _ hcap=>exact⟨cap,rfl,hcap⟩
  have hh:=hs.holds k (by omega);have hle:=hx k hkl;have:=Rep.sl (w:=w) (g:=G) .no es (g.mu k) 0 sz cap (fun i j=>(w.cell? ⟨g.mu k,0+i*sz+j,none⟩).getD undef) rfl (fun h=>by cases h) (by omega) (fun i hi=>hsz i (by omega))
   (fun h0=>by rw[hl,Nat.zero_add];exact Nat.le_trans he (hk k hkl))
   (fun i j hi hj=>by have:=K0i (show i<n by omega) hj;obtain⟨_,c,q1,q2⟩:=hh (i*sz+j) (by omega);rw[show 0+i*sz+j=i*sz+j by omega,q1];rfl)
   (fun i j hi hj=>by have:=K0i (show i<n by omega) hj;obtain⟨_,c,q1,q2⟩:=hh (i*sz+j) (by omega);rw[show 0+i*sz+j=i*sz+j by omega,q1];exact ih i j (by omega) hj _ q2)
  rw[hl] at this;exact this
noncomputable def z0z (g:Gh)(lo:Nat)(e:List Nat)(b:Nat):Nat:=
 open Classical in if h: ∃k,lo<=k/\k<g.n/\g.mu k=b/\0<e.getD k 0 then e.getD h.choose 0 else g.vis b
section
variable {w:World} {g:Gh} {st:Q0f} {e:List Nat} {lo:Nat}
theorem v1f (hs:StoreOK w g st)(k:Nat)(hlo:lo<=k)(hk:k<g.n):e.getD k 0<=z0z g lo e (g.mu k):=by unfold z0z;split;rename_i h;obtain⟨h1,h2,h3,h4⟩:=h.choose_spec;rw[hs.inj _ _ h2 hk h3];exact Nat.le_refl _;rename_i h;by_cases h0:0<e.getD k 0;exact absurd ⟨k,hlo,hk,rfl,h0⟩ h;omega
theorem K2a (hs:StoreOK w g st)(hx: ∀k,k<st.length->e.getD k 0<=(st.getD k []).length)(b:Nat):g.vis b<=z0z g lo e b:=by unfold z0z;split;rename_i h;obtain⟨h1,h2,h3,h4⟩:=h.choose_spec;have h5:=hx _ (by rw[<-hs.n];exact h2);have:=hs.vis _ h2 (fun e=>by rw[e] at h5;exact absurd h5 (Nat.not_le_of_lt h4));rw[h3] at this;omega;exact Nat.le_refl _
theorem U1w (b:Nat)(hb:z0z g lo e b≠g.vis b): ∃k,lo<=k/\k<g.n/\g.mu k=b/\z0z g lo e b=e.getD k 0:=by unfold z0z at hb⊢;split;rename_i h;obtain⟨h1,h2,h3,h4⟩:=h.choose_spec;exact⟨_,h1,h2,h3,rfl⟩;rename_i h;rw[dif_neg h] at hb;exact absurd rfl hb
end
def PV.stale :PV->Bool
 | .sl (.fresh _) _=>false
 | _=>true
theorem q1c {p:PV}(h:p.stale=true)(B:Nat)(w:World)(g:Gh)(v:Value):RepRes B w g v p=Rep w g v p:=by
 cases p with
 | sl t es=>cases t<;>first | rfl | cases h
 | _=>rfl
theorem v1w {P:Program}{f:FuncId}{args:List PV}{st:Q0f}{Q:PV->Prop}(h:PCalls P f args st fun r st'=> ∃X q e,st'=st++X/\Seen st' e r q/\(∀k,k<st'.length->e.getD k 0<=(st'.getD k []).length)/\(∀k,k<st.length->e.getD k 0=0)/\r.stale=true/\q.stale=true/\Q q):
 PCalls P f args st (fun r st'=>Q r/\st'=st):=by
 intro w g vs hs hr;refine(h w g vs hs hr).mono ?_;rintro en w' ⟨v,g',r,st',rfl,hx,ho,hv,X,q,e,rfl,hsee,hle,hlo,sr,sq,hq⟩;rw[q1c sr] at hv;have hn:st.length=g.n:=hs.n.symm;have hn':g.n<=g'.n:=hx.le.n;have hgd: ∀i,i<g.n->(st++X).getD i []=st.getD i []:=fun i hi=>by rw[q_a,List.getElem?_append_left (by omega),<-q_a]
 let G:Gh:=⟨g.n,g'.mu,z0z g' g.n e⟩
 have hvle: ∀b,g'.vis b<=G.vis b:=K2a ho hle;have hvold: ∀b,(∀k,g.n<=k->k<g'.n->g'.mu k≠b)->G.vis b=g'.vis b:=fun b hb=>by refine Classical.byContradiction fun hne=> ?_;obtain⟨k,h1,h2,h3,_⟩:=U1w b hne;exact hb k h1 h2 h3
 have hkv: ∀k,k<(st++X).length->e.getD k 0<=G.vis (g'.mu k):=fun k hk=>by by_cases hlt:k<g.n;rw[hlo k (by omega)];exact Nat.zero_le _;exact v1f ho k (by omega) (by rw[ho.n];exact hk)
 refine⟨v,G,q,st,rfl,⟨⟨Nat.le_refl _,hx.le.mu,fun b=>Nat.le_trans (hx.le.vis b) (hvle b),hx.le.cell⟩,hx.os,hx.tape,hx.output,hx.size,fun b hb hnb=> ?_,fun i hi hi'=>absurd hi (Nat.not_le_of_lt hi')⟩,
  ⟨hs.n,fun i j hi hj=>ho.inj i j (q_e hi hn') (q_e hj hn'),fun i hi=>ho.lt i (q_e hi hn'),fun i hi hne=> ?_,fun i hi=> ?_,fun b hb=> ?_,fun t ht=>⟨Nat.le_trans (ho.tab t ht).1 (hvle _),(ho.tab t ht).2⟩⟩,?_,hq,rfl⟩
 obtain⟨o1,o2⟩:=hx.old b hb hnb;refine⟨o1,?_⟩;rw[hvold b fun k h1 h2 h3=> ?_];exact o2;have:=hx.new k h1 h2;omega;have h1:=ho.vis i (q_e hi hn') (by rw[hgd i hi];exact hne);rw[hvold _ fun k h1 h2 h3=> ?_];exact h1;have:=ho.inj k i h2 (q_e hi hn') h3;have hi':i<g.n:=hi;omega;have h1:=ho.holds i (q_e hi hn');rw[hgd i hi] at h1;intro j hj;obtain⟨z1,c,z2,z3⟩:=h1 j hj;obtain⟨_,c0,_,z4⟩:=hs.holds i hi j hj;refine⟨z1,c,z2,?_⟩;have z5:=Y1h z4 _ _ _ z3 hn';exact Rep.mono (w:=w') (g:= { g' with n:=g.n }) (w':=w') (g':=G) ⟨Nat.le_refl _,fun _ _=>rfl,hvle,fun _ _ _ _ hc=>hc⟩ z5;rw[hvold b fun k h1 h2 h3=> ?_];exact ho.none b hb;have:=ho.lt k h2;omega;rw[q1c sq];exact hsee.rep ho hle hvle hkv v hv
end Go.Pv
end
