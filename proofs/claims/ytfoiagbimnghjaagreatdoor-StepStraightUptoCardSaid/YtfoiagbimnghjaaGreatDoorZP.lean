/- Walk. -/
import Derived.Test.YtfoiagbimnghjaaGreatDoorZK
import Derived.Test.YtfoiagbimnghjaaGreatDoorZF
set_option linter.all false
section
namespace Go.Pv
theorem Q1d {P:Pg}{E:Ent}{x y:Code}{Q:Pe}{s:PFS}(R:Pf)(h1:PWP P E x (ZI R Q) s)(h2: ∀s,R s->PWP P E y Q s):PWP P E (.seq x y) Q s:=
 Qe (zl h1 fun e s hq=>by
  cases e with
  | normal=>exact h2 s hq
  | _=>exact hq)
theorem VE {P:Pg}{E:Ent}{x y:Code}{Q:Pe}{s:PFS}(bs:Ld)(nL nT:Nat)(R:Pf)
 (h1:VC P E x (ZI (fun s=>s.maskOK bs nL nT/\R (s.mask bs nL nT)) Q) s) (h2: ∀s,R s->PWP P E y Q s):PWP P E (.seq x y) Q s:=
 Q1d _ (Qb h1) fun s h=>Kt (G0 h.1) (h2 _ h.2)
inductive NoG :PV->Prop
 | junk:NoG .junk
 | sc (v:Value):NoG (.sc v)
 | agg (cs:List PV) (h: ∀j,j<cs.length->NoG (cs.getD j .junk)):NoG (.agg cs)
 | sl (t:Tag) (es:List PV) (h: ∀i j,i<es.length->j<(es.getD i .junk).cells.length->NoG ((es.getD i .junk).cells.getD j .junk)):NoG (.sl t es)
theorem Rep.noG {w:Lw}{g g0:Gh}(hv: ∀b,g0.vis b=g.vis b){v:Value}{p:PV}(h:Rep w g v p):NoG p->Rep w g0 v p:=by
 induction h with
 | junk v=>exact fun _=> .junk v
 | sc v=>exact fun _=> .sc v
 | agg vs cs hl _ ih=>
  intro hn;cases hn with
  | agg _ h=>exact .agg vs cs hl fun j hj=>ih j hj (h j hj)
 | nil t ad ht=>exact fun _=> .nil t ad ht
 | sl t es b off sz cap cf ht hfull hcap hsz hvis hc hr ih=>
  intro hn;cases hn with
  | sl _ _ h=>exact .sl t es b off sz cap cf ht hfull hcap hsz (by rw[hv];exact hvis) hc fun i j hi hj=>ih i j hi hj (h i j hi (by rw[hsz i hi];exact hj))
 | tup vs cs hl _ _=>intro hn;cases hn
 | gms i off len cap hi hcap=>intro hn;cases hn
 | gr i len cap hi hcap=>intro hn;cases hn
 | gp i off hi=>intro hn;cases hn
 | ep cs off b base cf hvis hc hr _=>intro hn;cases hn
 | fn f us vs bs cs hk hl _ _ _ _=>intro hn;cases hn
 | pre all n b off sz cap cf hn hcap hsz hvis hc hr _=>intro hn;cases hn
theorem K1c (l:Lu)(t:Tag):NoG (.sl t (Qf l)):=by refine .sl _ _ fun i j hi hj=> ?_;rw[Jp] at hi;rw[Zs l i hi] at hj⊢;have:j=0:=(by simp[PV.cells] at hj;omega);subst this;exact .sc _
theorem PCalls.owned {P:Pg}{f:FuncId}{args es:Lp}(hne:0<es.length)(hsc: ∀j,j<es.length-> ∃v,es.getD j .junk= .sc v)(hargs: ∀p∈args,NoG p)
 (h:PCalls P f args [] (fun r st'=>r= .sl (.fresh 1) es/\st'= [])) (st:Qd):
 PCalls P f args st (fun r st'=> ∃off,r= .ms true st.length off es.length/\st'=st++ [List.replicate off PV.junk++es]):=by
 intro w g vs hs hr
 let g0:Gh:=⟨0,fun _=>0,g.vis⟩
 have hs0:StoreOK w g0 []:=⟨rfl,fun i j hi=>by simp[g0] at hi,fun i hi=>by simp[g0] at hi,fun i hi=>by simp[g0] at hi,fun i hi=>by simp[g0] at hi,hs.none,hs.tab⟩;have hr0:WY w g0 vs args:=⟨hr.1,fun j hj=>Rep.noG (g:=g) (g0:=g0) (fun _=>rfl) (hr.2 j hj) (hargs _ (Q8 _ _ _ hj))⟩;refine(h w g0 vs hs0 hr0).mono ?_;rintro e w' ⟨v,g1,r,st1,rfl,hx,ho,hrr,rfl,rfl⟩;obtain⟨hrep,hfr⟩:=hrr;rcases hfr with ⟨b,⟨off,cap,hv,hsz,hvis,hcap,hex⟩,hb1,hb2,_,c0,el,hblk⟩ | ⟨_,hz⟩;rotate_left;omega;have hold: ∀c,c<w.heap.size->w'.heap[c]?=w.heap[c]?/\g1.vis c=g.vis c:=fun c hc=>hx.old c hc (fun i hi=>by simp[g0] at hi);have hvb:g.vis b=0:=hs.none b hb1;have hne': ∀c,c<w.heap.size->c≠b:=fun c hc=>by omega
 let g2:Gh:=⟨g.n+1,fun i=>if i=g.n then b else g.mu i,fun c=>if c=b then 0 else g1.vis c⟩
 have hmu: ∀i,i<g.n->g2.mu i=g.mu i:=fun i hi=>BA oG;have hle:Le w g w' g2:=by refine⟨Nat.le_succ _,hmu,fun c=> ?_,fun c o v ho hc=>hx.le.cell c o v ho hc⟩;show g.vis c<=if c=b then 0 else g1.vis c;split;rename_i e;subst e;omega;exact hx.le.vis c
 have hext:Ext w g w' g2:=by refine⟨hle,hx.os,hx.tape,hx.output,hx.size,fun c hc hn=>⟨(hold c hc).1,?_⟩,fun i h1 h2=> ?_⟩;show(if c=b then 0 else g1.vis c)=g.vis c;rw[BA (hne' c hc)];exact(hold c hc).2;have:i=g.n:=(by simp[g2] at h2;omega);subst this;show w.heap.size<=if g.n=g.n then b else _;rw[BC rfl];exact hb1
 have hget1: ∀i,i<g.n->(st++ [List.replicate off PV.junk++es]).getD i []=st.getD i []:=fun i hi=>(by rw[q_a,B6 (by rw[<-hs.n];exact hi),<-q_a]);have hget2:(st++ [List.replicate off PV.junk++es]).getD g.n []=List.replicate off PV.junk++es:=(by rw[hs.n];simp[q_a]);have hst:StoreOK w' g2 (st++ [List.replicate off PV.junk++es]):=by
  refine⟨by simp[g2,hs.n],fun i j hi hj e=> ?_,fun i hi=> ?_,fun i hi hi0=> ?_,fun i hi=> ?_,fun c hc=> ?_,hs.tab.mono hle⟩;have hi':i<g.n+1:=hi;have hj':j<g.n+1:=hj;have e':(if i=g.n then b else g.mu i)=(if j=g.n then b else g.mu j):=e;by_cases h1:i=g.n<;>by_cases h2:j=g.n;omega;rw[BC h1,BA h2] at e';have:=hs.lt j oG;omega;rw[BA h1,BC h2] at e';have:=hs.lt i oG;omega;rw[BA h1,BA h2] at e';exact hs.inj i j oG oG e';have hi':i<g.n+1:=hi;show(if i=g.n then b else g.mu i)<_;split;exact hb2;exact q_e (hs.lt i oG) hx.size;have hi':i<g.n+1:=hi;show(if g2.mu i=b then 0 else g1.vis (g2.mu i))=0;by_cases h1:i=g.n;rw[BC (BC h1)];rw[hmu i oG,BA (hne' _ (hs.lt i oG))];rw[hget1 i oG] at hi0;rw[(hold _ (hs.lt i oG)).2];exact hs.vis i oG hi0;have hi':i<g.n+1:=hi;by_cases h1:i=g.n;subst h1;rw[hget2];show Holds w' (Rep w' g2) (if g.n=g.n then b else _) _;rw[BC rfl];intro j hj;refine⟨by simp[World.frozen?,hblk],?_⟩;by_cases hjo:j<off;obtain⟨c,hc⟩:=Option.isSome_iff_exists.1 (hex j oG);exact⟨c,hc,by rw[q_a,B6 (by simpa using hjo)];simp[hjo];exact .junk _⟩;have hje:j-off<es.length:=(by simp at hj;omega);have e1:(List.replicate off PV.junk++es).getD j .junk=es.getD (j-off) .junk:=by rw[q_a,CA (by simp;omega),ER,<-q_a]
  rw[e1];rcases hrep.sl_cells 1 hsz with ⟨ad,_,h0⟩ | ⟨b',off',cap',cell,hv',_,_,_,hcell⟩;rw[h0] at hne;simp at hne;rw[hv] at hv';simp only[Value.slice.injEq,BU,Addr.mk.injEq,and_true,LD] at hv';obtain⟨⟨rfl,rfl⟩,rfl⟩:=hv';obtain⟨q1,q2⟩:=hcell (j-off) oG;obtain⟨x,hx'⟩:=hsc (j-off) hje;rw[LG,FY,hx'] at q2;rw[show off+(j-off)=j from oG] at q1;refine⟨_,q1,?_⟩;rw[hx',show cell (j-off)=x from Rep.sc_inv q2];exact .sc _;show Holds w' (Rep w' g2) (if i=g.n then b else g.mu i) _;rw[BA h1,hget1 i oG];exact(hs.holds i oG).mono (hold _ (hs.lt i oG)).1 fun v p hp=>hp.mono hle;show(if c=b then 0 else g1.vis c)=0;split;rfl;exact ho.none c hc
 refine⟨v,g2,.ms true st.length off es.length,_,rfl,hext,hst,?_,off,rfl,rfl⟩;show Rep w' g2 v (.ms true st.length off es.length);rw[hv];have:=Rep.gms (w:=w') (g:=g2) st.length off es.length cap (by simp[g2,hs.n]) hcap;have e:g2.mu st.length=b:=BC hs.n.symm;rw[e] at this;exact this
def xc (p:PV)(k:Nat)(cs:List PV):PV:=
 match p with
 | .ms true k' off len=>if k'=k/\off+len<=cs.length then .sl .no ((cs.drop off).take len) else .junk
 | _=> .junk
def PFS.freezeG (k t:Nat)(s:PFS):PFS:=⟨s.pa.set t (xc (s.pa.getD t .junk) k (s.st.getD k [])),s.L,s.T,s.st.set k []⟩
theorem G0n {E:Ent}{s:PFS}(k t:Nat)(hk:k<s.st.length)(hc: ∀p∈s.st.getD k [],p.cells= [p])(h0:s.st.getD k []≠ []):JQ E s (s.freezeG k t):=by
 intro a w g F h;have hkn:k<g.n:=(by rw[h.store.n];exact hk);obtain⟨k1,k2⟩:=xz w g (g.mu k) (s.st.getD k []).length (.inl (h.store.lt k hkn)) h.store.none
 let g':Gh:= { g with vis:=fun c=>if c=g.mu k then max (s.st.getD k []).length (g.vis c) else g.vis c }
 obtain⟨f1,f2⟩:=h.frame.step k1 (fun i hi e=>h.frame.apart i hi k hkn e.symm) (fun i b hi hb e=>(h.frame.tapart i b hi hb).1 k hkn e.symm);have hst:StoreOK w g' (s.st.set k []):=by refine⟨by simpa using h.store.n,h.store.inj,h.store.lt,fun j hj hj0=> ?_,fun j hj=> ?_,k2,h.store.tab.mono k1.le⟩;by_cases e:k=j;subst e;exact absurd (Wo _ _) hj0;rw[Zg _ _ _ _ _ e] at hj0;have:g'.vis (g.mu j)=g.vis (g.mu j):=BA fun e'=>e (h.store.inj j k hj hkn e').symm;exact this.trans (h.store.vis j hj hj0);by_cases e:k=j;subst e;rw[Wo];intro j hj;simp at hj;rw[Zg _ _ _ _ _ e];exact(h.store.holds j hj).mono rfl fun v p hr=>hr.mono k1.le
 refine⟨g',F,h.ext.step k1 (fun b hb=> ?_),hst,f1,h.defers,by simp[PFS.freezeG,h.len],fun j hj=> ?_⟩;subst hb;by_cases hin:k<E.g.n;exact .inr ⟨k,hin,(h.ext.le.mu k hin).symm⟩;exact .inl (h.ext.new k oG hkn);simp only[PFS.freezeG,BL] at hj⊢;by_cases e:t=j;subst e;rw[Zw _ _ _ _ hj];have hv:=h.tmps t hj;cases hp:s.pa.getD t .junk with
 | ms gl k' off len=>
  rw[hp] at hv;cases gl with
  | false=>exact .base _ _ (.junk _)
  | true=>
   simp only[xc];split;rename_i hh;obtain⟨rfl,hlen⟩:=hh;generalize a.tmps.getD t undef=v at hv⊢;cases hv with
   | base _ _ hv=>
    cases hv with
    | gms _ _ _ cap hi hcap=>
     have hh:=h.store.holds k' hkn;have hex: ∀j,j<(s.st.getD k' []).length-> ∃c,w.cell? ⟨g.mu k',j,none⟩=some c/\Rep w g c ((s.st.getD k' []).getD j .junk):=fun j hj=>by obtain⟨_,c,q1,q2⟩:=hh j hj;exact⟨c,q1,q2⟩
     let cf:Nat->Value:=fun j=>if hj:j<(s.st.getD k' []).length then(hex j hj).choose else undef
     have hcf: ∀j,j<(s.st.getD k' []).length->w.cell? ⟨g.mu k',j,none⟩=some (cf j)/\Rep w g (cf j) ((s.st.getD k' []).getD j .junk):=fun j hj=>by simp only[cf,dif_pos hj];exact(hex j hj).choose_spec
     have hl:(((s.st.getD k' []).drop off).take len).length=len:=by rw[BX,DM];omega
     have hg: ∀j,j<len->(((s.st.getD k' []).drop off).take len).getD j .junk=(s.st.getD k' []).getD (off+j) .junk:=fun j hj=>(by simp[q_a,ED,hj,DH]);have hone: ∀j,j<len->((s.st.getD k' []).getD (off+j) .junk).cells= [(s.st.getD k' []).getD (off+j) .junk]:=fun j hj=>hc _ (Q8 _ _ _ oG);have:=Rep.sl (w:=w) (g:=g') .no (((s.st.getD k' []).drop off).take len) (g.mu k') off 1 cap (fun a b=>cf (off+a)) rfl (fun h=>by cases h) oG
      (fun j hj=>by rw[hg j oG,hone j oG];rfl)
      (fun _=>by show _<=if g.mu k'=g.mu k' then max (s.st.getD k' []).length (g.vis (g.mu k')) else _;rw[BC rfl];have:=Nat.le_max_left (s.st.getD k' []).length (g.vis (g.mu k'));omega)
      (fun j k2 hj hk2=>by have:k2=0:=oG;subst this;simpa using(hcf (off+j) oG).1)
      (fun j k2 hj hk2=>by have:k2=0:=oG;subst this;rw[hg j oG,hone j oG];have hm:=(hcf (off+j) oG).2.mono k1.le;exact hm)
     rw[hl] at this;exact .base _ _ this
   exact .base _ _ (.junk _)
 | _=>exact .base _ _ (.junk _)
 rw[Zg _ _ _ _ _ e];exact f2 _ _ (h.tmps j hj)
theorem kw {P:Pg}{E:Ent}{c:Code}{Q:Pe}{s:PFS}(k t:Nat)(hk:k<s.st.length)(hc: ∀p∈s.st.getD k [],p.cells= [p])(h0:s.st.getD k []≠ [])
 (h:PWP P E c Q (s.freezeG k t)):PWP P E c Q s:=Kt (G0n k t hk hc h0) h
@[go_sem] theorem Y2p {k t:Nat}{pa:Lp}{L st:Qd}{T:Lv} :(PFS.mk pa L T st).freezeG k t=⟨pa.set t (xc (pa.getD t .junk) k (st.getD k [])),L,T,st.set k []⟩:=(rfl)
@[go_sem] theorem Y2h {k k' off len:Nat}{cs:Lp} :xc (.ms true k' off len) k cs=if k'=k/\off+len<=cs.length then .sl .no ((cs.drop off).take len) else .junk:=(rfl)
@[go_sem] theorem K2f {d:Po}{gl:Bool}{i o n:Nat}{pa:Lp}{L st st':Qd}{T:Lv} :(PFS.mk pa L T st).recv d (.ms gl i o n) st'=(PFS.mk pa L T st').put d (.ms gl i o n):=(rfl)
inductive Bnd (n:Nat):PV->Prop
 | junk:Bnd n .junk
 | sc (v:Value):Bnd n (.sc v)
 | agg (cs:List PV) (h: ∀j,j<cs.length->Bnd n (cs.getD j .junk)):Bnd n (.agg cs)
 | tup (cs:List PV) (h: ∀j,j<cs.length->Bnd n (cs.getD j .junk)):Bnd n (.tup cs)
 | nil (t:Tag):Bnd n (.sl t [])
 | sl (t:Tag) (es:List PV) (sz:Nat) (hsz: ∀i,i<es.length->(es.getD i .junk).cells.length=sz) (h: ∀i j,i<es.length->j<sz->Bnd n ((es.getD i .junk).cells.getD j .junk)):Bnd n (.sl t es)
 | gms (i off len:Nat) (hi:i<n):Bnd n (.ms true i off len)
 | gr (i len cap:Nat) (hi:i<n):Bnd n (.gr i len cap)
 | gp (i off:Nat) (hi:i<n):Bnd n (.gp i off)
 | ep (cs:List PV) (off:Nat) (h: ∀j,j<cs.length->Bnd n (cs.getD j .junk)):Bnd n (.ep cs off)
 | fn (f:Fn) (bs cs:List PV) (h0: ∀j,j<bs.length->Bnd n (bs.getD j .junk)) (h: ∀j,j<cs.length->Bnd n (cs.getD j .junk)):Bnd n (.fn f bs cs)
 | pre (all:List PV) (m sz:Nat) (hsz: ∀i,i<all.length->(all.getD i .junk).cells.length=sz) (h: ∀i j,i<all.length->j<sz->Bnd n ((all.getD i .junk).cells.getD j .junk)):Bnd n (.pre all m)
theorem Rep.bnd {w:Lw}{g:Gh}{v:Value}{p:PV}(h:Rep w g v p):Bnd g.n p:=by
 induction h with
 | junk v=>exact .junk
 | sc v=>exact .sc v
 | agg vs cs hl _ ih=>exact .agg cs ih
 | tup vs cs hl _ ih=>exact .tup cs ih
 | nil t ad ht=>exact .nil t
 | sl t es b off sz cap cf ht hfull hcap hsz hvis hc hr ih=>exact .sl t es sz hsz ih
 | gms i off len cap hi hcap=>exact .gms i off len hi
 | gr i len cap hi hcap=>exact .gr i len cap hi
 | gp i off hi=>exact .gp i off hi
 | ep cs off b base cf hvis hc hr ih=>exact .ep cs off ih
 | fn f us vs bs cs hk hl _ _ ih0 ih=>exact .fn f bs cs ih0 ih
 | pre all n b off sz cap cf hn hcap hsz hvis hc hr ih=>exact .pre all n sz hsz ih
theorem Rep.less {w:Lw}{g:Gh}(n:Nat){v:Value}{p:PV}(h:Rep w g v p):Bnd n p->Rep w { g with n:=n } v p:=by
 induction h with
 | junk v=>exact fun _=> .junk v
 | sc v=>exact fun _=> .sc v
 | agg vs cs hl _ ih=>intro hb;cases hb with | agg _ h=>exact .agg vs cs hl fun j hj=>ih j hj (h j hj)
 | tup vs cs hl _ ih=>intro hb;cases hb with | tup _ h=>exact .tup vs cs hl fun j hj=>ih j hj (h j hj)
 | nil t ad ht=>exact fun _=> .nil t ad ht
 | sl t es b off sz cap cf ht hfull hcap hsz hvis hc hr ih=>
  intro hb;refine .sl t es b off sz cap cf ht hfull hcap hsz hvis hc fun i j hi hj=>ih i j hi hj ?_;cases hb with
  | nil t=>simp at hi
  | sl _ _ sz' hsz' h=>
   have:sz=sz':=(hsz i hi).symm.trans (hsz' i hi);subst this;exact h i j hi hj
 | gms i off len cap hi hcap=>intro hb;cases hb with | gms _ _ _ h=>exact Rep.gms (g:= { g with n:=n }) i off len cap h hcap
 | gr i len cap hi hcap=>intro hb;cases hb with | gr _ _ _ h=>exact Rep.gr (g:= { g with n:=n }) i len cap h hcap
 | gp i off hi=>intro hb;cases hb with | gp _ _ h=>exact Rep.gp (g:= { g with n:=n }) i off h
 | ep cs off b base cf hvis hc hr ih=>intro hb;cases hb with | ep _ _ h=>exact .ep cs off b base cf hvis hc fun j hj=>ih j hj (h j hj)
 | fn f us vs bs cs hk hl _ _ ih0 ih=>intro hb;cases hb with | fn _ _ _ h0 h=>exact .fn f us vs bs cs hk hl (fun j hj=>ih0 j hj (h0 j hj)) fun j hj=>ih j hj (h j hj)
 | pre all m b off sz cap cf hn hcap hsz hvis hc hr ih=>
  intro hb;refine .pre all m b off sz cap cf hn hcap hsz hvis hc fun i j hi hj=>ih i j hi hj ?_;cases hb with
  | pre _ _ sz' hsz' h=>
   have:sz=sz':=(hsz i hi).symm.trans (hsz' i hi);subst this;exact h i j hi hj
theorem RepRes.less {B:Nat}{w:Lw}{g:Gh}(n:Nat)(hn:n<=g.n){v:Value}{p:PV}(h:RepRes B w g v p)(hb:Bnd n p):RepRes B w { g with n:=n } v p:=by
 by_cases hp: ∃sz es,p= .sl (.fresh sz) es;obtain⟨sz,es,rfl⟩:=hp;obtain⟨h1,h2⟩:=h;refine⟨h1.less n ?_,?_⟩;cases hb with
 | nil t=>exact .nil _
 | sl _ _ sz' hsz' h=>exact .sl _ _ sz' hsz' h
 rcases h2 with ⟨b,hR,b1,b2,b3,b4⟩ | hR;exact .inl ⟨b,hR,b1,b2,fun i hi=>b3 i (q_e hi hn),b4⟩;exact .inr hR;unfold RepRes at h⊢;split;exact absurd ⟨_,_,rfl⟩ hp;rename_i hq;split at h;exact absurd ⟨_,_,rfl⟩ hp;exact h.less n hb
theorem PCalls.drop {P:Pg}{f:FuncId}{args:Lp}{st:Qd}{Q:PV->Qd->Prop}
 (h:PCalls P f args st (fun r st'=>Bnd st.length r/\ ∃more,st'=st++more/\Q r st)):PCalls P f args st Q:=by
 intro w g vs hs hr;refine(h w g vs hs hr).mono ?_;rintro e w' ⟨v,g',r,st',rfl,hx,ho,hrr,hb,more,rfl,hq⟩;have hn:g.n<=g'.n:=hx.le.n;have hgn:g.n=st.length:=hs.n;have hget: ∀i,i<g.n->(st++more).getD i []=st.getD i []:=fun i hi=>(by rw[q_a,B6 oG,<-q_a]);refine⟨v, { g' with n:=g.n },r,st,rfl,⟨⟨BD _,hx.le.mu,hx.le.vis,hx.le.cell⟩,hx.os,hx.tape,hx.output,hx.size,hx.old,fun i h1 h2=> ?_⟩,⟨hgn,fun i j hi hj=>ho.inj i j (q_e hi hn) (q_e hj hn),fun i hi=>ho.lt i (q_e hi hn),fun i hi h0=> ?_,fun i hi=> ?_,ho.none,ho.tab⟩,?_,hq⟩;have h2':i<g.n:=h2;omega;exact ho.vis i (q_e hi hn) (by rw[hget i hi];exact h0);have hi':i<g.n:=hi;have hh:=ho.holds i (q_e hi hn);rw[hget i hi'] at hh;intro j hj;obtain⟨q1,c,q2,q3⟩:=hh j hj;obtain⟨_,c0,_,q4⟩:=hs.holds i hi' j hj;exact⟨q1,c,q2,q3.less g.n q4.bnd⟩;rw[<-hgn] at hb;exact hrr.less g.n hn hb
set_option maxRecDepth 100000
open Go.Proofs
def rd (l:List UInt8)(e:Int):List PV:= [.sl .no (KK l),.sc (.int .i64 e)]
def atR (st:Qd)(k:Nat)(l:List UInt8)(e:Int):Prop:=st.getD k []=rd l e
theorem atR.lt {st:Qd}{k:Nat}{l:List UInt8}{e:Int}(h:atR st k l e):k<st.length:=by refine EV fun hn=> ?_;unfold atR at h;rw[q_a,C2 hn] at h;cases h
theorem atR.set {st:Qd}{k:Nat}{l:List UInt8}{e:Int}(h:atR st k l e)(l':List UInt8)(e':Int):atR (st.set k (rd l' e')) k l' e':=by unfold atR;rw[Zw _ _ _ _ h.lt]
def Pre (p l:List UInt8):Prop:=p<+:l/\p.length<l.length
theorem Pre.append {p a b:List UInt8}(h:Pre p (a++b)):Pre p a\/ ∃q,p=a++q/\Pre q b:=by obtain⟨h1,h2⟩:=h;by_cases hl:p.length<a.length;exact .inl ⟨List.prefix_of_prefix_length_le h1 (List.prefix_append a b) oG,hl⟩;have h3:a<+:p:=List.prefix_of_prefix_length_le (List.prefix_append a b) h1 oG;obtain⟨q,rfl⟩:=h3;refine .inr ⟨q,rfl,?_,?_⟩;exact(List.prefix_append_right_inj a).1 h1;simp at h2;exact h2
theorem w0b {x:Nm}(h:Qh x=true): -65536<=x.exp/\x.exp<=65536/\x.w.length<=64/\(x.w= []->x.neg=false/\x.exp=0):=by unfold Qh at h;split at h;rename_i hw;simp at h;rw[hw];simp;exact⟨oG,oG,h.1,h.2⟩;rename_i hw;simp only[q_i,BN] at h;exact⟨oG,oG,oG,fun e=>absurd e hw⟩
structure Fm where
 m:List Nm
 a:List (List Nm)
 r:List Ivl
 deriving DecidableEq
instance : Inhabited Fm:=⟨⟨[],[],[]⟩⟩
structure Sx where
 idx:Int
 t:Nm
 h:Nm
 f:Fm
 deriving DecidableEq
instance : Inhabited Sx:=⟨⟨0,default,default,default⟩⟩
def ZC (l:List Nm)(n:Nat):Bool:=l.all Qh&&decide (l.length=n)
def X4 (f:Fm):Bool:=decide (1<=f.m.length)&&decide (f.m.length<=4)&&ZC f.m f.m.length&&decide (f.a.length=f.m.length)&&decide (f.r.length=f.m.length)&&
 f.a.all (fun x=>ZC x f.m.length)&&f.r.all (fun x=>Kf x default)
def jV (s:Sx):Bool:=decide (0<=s.idx)&&decide (s.idx<=4096)&&Qh s.t&&Qh s.h&& !s.t.neg&&decide (0<s.h.w.length)&& !s.h.neg&&X4 s.f
theorem Ih {f:Fm}(h:X4 f=true):1<=f.m.length/\f.m.length<=4/\f.m.all Qh=true/\f.a.length=f.m.length/\f.r.length=f.m.length/\f.a.all (fun x=>ZC x f.m.length)=true/\rightB f.r=true:=by unfold X4 at h;simp only[q_i,BN] at h;obtain⟨⟨⟨⟨⟨⟨h1,h2⟩,h3⟩,h4⟩,h5⟩,h6⟩,h7⟩:=h;unfold ZC at h3;simp only[q_i,BN] at h3;refine⟨h1,h2,h3.1,h4,h5,h6,?_⟩;unfold rightB;simp only[q_i,BN];refine⟨⟨?_,oG⟩,oG⟩;rw[q_d] at h7⊢;intro x hx;have:=h7 x hx;unfold Kf at this;simp only[q_i] at this;exact this.1.1.1
theorem v0w {s:Sx}(h:jV s=true):0<=s.idx/\s.idx<=4096/\Qh s.t=true/\Qh s.h=true/\X4 s.f=true:=by unfold jV at h;simp only[q_i,BN] at h;exact⟨h.1.1.1.1.1.1.1,h.1.1.1.1.1.1.2,h.1.1.1.1.1.2,h.1.1.1.1.2,h.2⟩
end Go.Pv
end
