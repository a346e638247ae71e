/- Parts of the walk: PvAe, PvAf. -/
import Derived.Test.YtagacielooaapaaGreatDoorZP
set_option linter.unusedVariables false
set_option linter.unusedSimpArgs false
section
/-An object of scalars lent to a function that only reads it and hands back a new slice of scalars. -/
namespace Go.Pv
theorem x1m {w:World} {g g':Gh} {v:Value} {rs:List PV} (hrs: ∀j,j<rs.length→ ∃x,rs.getD j .junk= .sc x) (h:Rep w g v (.sl .no rs))
 (hv: ∀b off n cap,v= .slice (some ⟨b,off,none⟩) n cap→g'.vis b=g.vis b):Rep w g' v (.sl .no rs):=by
 cases h with
 | nil t ad ht=>exact .nil _ _ rfl
 | sl t es b off sz cap cf ht hfull hcap hsz hvis hc hr=>
  refine .sl _ _ b off sz cap cf rfl hfull hcap hsz (by rw [hv b off _ cap rfl];exact hvis) hc fun i j hi hj=> ?_
  have:=hr i j hi hj
  obtain⟨x,hx⟩:=hrs i hi
  have e:(rs.getD i .junk).cells= [.sc x]:=by rw [hx];rfl
  have hs:=hsz i hi
  rw [e] at this hs⊢
  have:j=0:=by simp at hs;omega
  subst this
  rw [show cf i 0=x from Rep.sc_inv (by assumption)]
  exact .sc _
theorem PCalls.lent {P:Program} {f:FuncId} {es rs:List PV} (hes: ∀j,j<es.length→ ∃v,es.getD j .junk= .sc v) (hrs: ∀j,j<rs.length→ ∃v,rs.getD j .junk= .sc v)
 (h:PCalls P f [.sl .no es] [] (fun r st'=>r= .sl (.fresh 1) rs∧st'= [])) (st:Q0f) (k off:Nat) (hk:k<st.length) (ho:off+es.length≤(st.getD k []).length)
 (he: ∀j,j<es.length→(st.getD k []).getD (off+j) .junk=es.getD j .junk):
 PCalls P f [.ms true k off es.length] st (fun r st'=>r= .sl (.fresh 1) rs∧st'=st):=by
 intro w g vs hs hr
 have hkn:k<g.n:=by rw [hs.n];exact hk
 let g0:Gh:=⟨0,fun _=>0,fun b=>if b=g.mu k then max (st.getD k []).length (g.vis b) else g.vis b⟩
 have hv0: ∀b,g.vis b≤g0.vis b:=fun b=>by
  show _≤if _ then _ else _
  split
  · exact Nat.le_max_right _ _
  · exact Nat.le_refl _
 have hs0:StoreOK w g0 []:=by
  refine⟨rfl,fun i j hi=>by simp [g0] at hi,fun i hi=>by simp [g0] at hi,fun i hi=>by simp [g0] at hi,fun i hi=>by simp [g0] at hi,fun b hb=> ?_,fun t ht=>⟨Nat.le_trans (hs.tab t ht).1 (hv0 _),(hs.tab t ht).2⟩⟩
  show(if b=g.mu k then _ else _)=0
  have:=hs.lt k hkn
  rw [if_neg (by omega)];exact hs.none b hb
 have hr0:Reps w g0 vs [.sl .no es]:=by
  refine⟨hr.1,fun j hj=> ?_⟩
  have hj0:j=0:=by simp at hj;omega
  subst hj0
  have hv:=hr.2 0 (by simp)
  simp only [List.getD_cons_zero] at hv⊢
  generalize vs.getD 0 undef=v at hv⊢
  cases hv with
  | gms _ _ _ cap hi hcap=>
   have hh:=hs.holds k hkn
   refine .sl .no es (g.mu k) off 1 cap (fun a _=>match es.getD a .junk with | .sc v=>v | _=>undef) rfl (fun h=>by cases h) hcap (fun i hi=> ?_) ?_ (fun i j hi hj=> ?_) (fun i j hi hj=> ?_)
   · obtain⟨x,hx⟩:=hes i hi;rw [hx];rfl
   · intro _
     show _≤if g.mu k=g.mu k then max (st.getD k []).length (g.vis (g.mu k)) else _
     rw [if_pos rfl]
     have:=Nat.le_max_left (st.getD k []).length (g.vis (g.mu k))
     omega
   · have:j=0:=by omega
     subst this
     obtain⟨x,hx⟩:=hes i hi
     obtain⟨_,c,q1,q2⟩:=hh (off+i) (by omega)
     rw [he i hi,hx] at q2
     rw [hx]
     have e:c=x:=Rep.sc_inv q2
     subst e
     simpa using q1
   · have:j=0:=by omega
     subst this
     obtain⟨x,hx⟩:=hes i hi
     rw [hx]
     exact .sc _
 refine(h w g0 vs hs0 hr0).mono ?_
 rintro e w' ⟨v,g1,r,st1,rfl,hx,hoo,hrr,rfl,rfl⟩
 have hold: ∀c,c<w.heap.size→w'.heap[c]?=w.heap[c]?∧g1.vis c=g0.vis c:=fun c hc=>hx.old c hc (fun i hi=>by simp [g0] at hi)
 let g2:Gh:=⟨g.n,g.mu,fun c=>if c<w.heap.size then g.vis c else g1.vis c⟩
 have hle:Le w g w' g2:=by
  refine⟨Nat.le_refl _,fun _ _=>rfl,fun c=> ?_,fun c o v ho hc=>hx.le.cell c o v (Nat.lt_of_lt_of_le ho (hv0 c)) hc⟩
  show g.vis c≤if c<w.heap.size then g.vis c else g1.vis c
  split
  · exact Nat.le_refl _
  · rename_i hn;rw [hs.none c (by omega)];exact Nat.zero_le _
 have hext:Ext w g w' g2:=by
  refine⟨hle,hx.os,hx.tape,hx.output,hx.size,fun c hc _=>⟨(hold c hc).1,if_pos hc⟩,fun i h1 h2=> ?_⟩
  have h2':i<g.n:=h2
  omega
 have hst:StoreOK w' g2 st:=by
  refine⟨hs.n,hs.inj,fun i hi=>Nat.lt_of_lt_of_le (hs.lt i hi) hx.size,fun i hi h0=> ?_,fun i hi=> ?_,fun c hc=> ?_,hs.tab.mono hle⟩
  · show(if g.mu i<w.heap.size then g.vis (g.mu i) else _)=0
    rw [if_pos (hs.lt i hi)];exact hs.vis i hi h0
  · exact(hs.holds i hi).mono (hold _ (hs.lt i hi)).1 fun v p hp=>hp.mono hle
  · show(if c<w.heap.size then g.vis c else g1.vis c)=0
    have:=hx.size
    rw [if_neg (by omega)];exact hoo.none c hc
 obtain⟨hrep,hfr⟩:=hrr
 refine⟨v,g2,.sl (.fresh 1) rs,st,rfl,hext,hst,?_,rfl,rfl⟩
 rcases hfr with ⟨b,⟨off',cap,hv,hsz,hvis,hcap,hex⟩,hb1,hb2,_,c0,el,hblk⟩ | ⟨hz,hz2⟩
 · have hvb:g2.vis b=g1.vis b:=if_neg (by omega)
   refine⟨x1m hrs hrep fun b' off2 n' cap' hv'=> ?_,.inl ⟨b,⟨off',cap,hv,hsz,by rw [hvb];exact hvis,hcap,hex⟩,hb1,hb2,fun i hi e=> ?_,c0,el,hblk⟩⟩
   · rw [hv] at hv'
     simp only [Value.slice.injEq,Option.some.injEq,Addr.mk.injEq,and_true] at hv'
     rw [←hv'.1.1];exact hvb
   · have:=hs.lt i hi
     have e':g.mu i=b:=e
     omega
 · have:rs= []:=List.length_eq_zero_iff.1 hz2
   subst this
   refine⟨?_,.inr ⟨hz,rfl⟩⟩
   rcases hz with rfl | ⟨a,rfl⟩
   · exact .nil _ _ rfl
   · exact .nil _ _ rfl
end Go.Pv
end
section
/-A dead object at the store's end is forgotten when a call is over. -/
namespace Go.Pv
inductive Bnd (n:Nat):PV→Prop
 | junk:Bnd n .junk
 | sc (v:Value):Bnd n (.sc v)
 | agg (cs:List PV) (h: ∀j,j<cs.length→Bnd n (cs.getD j .junk)):Bnd n (.agg cs)
 | tup (cs:List PV) (h: ∀j,j<cs.length→Bnd n (cs.getD j .junk)):Bnd n (.tup cs)
 | nil (t:Tag):Bnd n (.sl t [])
 | sl (t:Tag) (es:List PV) (sz:Nat) (hsz: ∀i,i<es.length→(es.getD i .junk).cells.length=sz) (h: ∀i j,i<es.length→j<sz→Bnd n ((es.getD i .junk).cells.getD j .junk)):Bnd n (.sl t es)
 | gms (i off len:Nat) (hi:i<n):Bnd n (.ms true i off len)
 | gp (i off:Nat) (hi:i<n):Bnd n (.gp i off)
 | ep (cs:List PV) (off:Nat) (h: ∀j,j<cs.length→Bnd n (cs.getD j .junk)):Bnd n (.ep cs off)
 | fn (f:Fn) (bs cs:List PV) (h0: ∀j,j<bs.length→Bnd n (bs.getD j .junk)) (h: ∀j,j<cs.length→Bnd n (cs.getD j .junk)):Bnd n (.fn f bs cs)
 | pre (all:List PV) (m sz:Nat) (hsz: ∀i,i<all.length→(all.getD i .junk).cells.length=sz) (h: ∀i j,i<all.length→j<sz→Bnd n ((all.getD i .junk).cells.getD j .junk)):Bnd n (.pre all m)
theorem Rep.bnd {w:World} {g:Gh} {v:Value} {p:PV} (h:Rep w g v p):Bnd g.n p:=by
 induction h with
 | junk v=>exact .junk
 | sc v=>exact .sc v
 | agg vs cs hl _ ih=>exact .agg cs ih
 | tup vs cs hl _ ih=>exact .tup cs ih
 | nil t ad ht=>exact .nil t
 | sl t es b off sz cap cf ht hfull hcap hsz hvis hc hr ih=>exact .sl t es sz hsz ih
 | gms i off len cap hi hcap=>exact .gms i off len hi
 | gp i off hi=>exact .gp i off hi
 | ep cs off b base cf hvis hc hr ih=>exact .ep cs off ih
 | fn f us vs bs cs hk hl _ _ ih0 ih=>exact .fn f bs cs ih0 ih
 | pre all n b off sz cap cf hn hcap hsz hvis hc hr ih=>exact .pre all n sz hsz ih
theorem Rep.less {w:World} {g:Gh} (n:Nat) {v:Value} {p:PV} (h:Rep w g v p):Bnd n p→Rep w { g with n:=n } v p:=by
 induction h with
 | junk v=>exact fun _=> .junk v
 | sc v=>exact fun _=> .sc v
 | agg vs cs hl _ ih=>intro hb;cases hb with | agg _ h=>exact .agg vs cs hl fun j hj=>ih j hj (h j hj)
 | tup vs cs hl _ ih=>intro hb;cases hb with | tup _ h=>exact .tup vs cs hl fun j hj=>ih j hj (h j hj)
 | nil t ad ht=>exact fun _=> .nil t ad ht
 | sl t es b off sz cap cf ht hfull hcap hsz hvis hc hr ih=>
  intro hb
  refine .sl t es b off sz cap cf ht hfull hcap hsz hvis hc fun i j hi hj=>ih i j hi hj ?_
  cases hb with
  | nil t=>simp at hi
  | sl _ _ sz' hsz' h=>
   have:sz=sz':=(hsz i hi).symm.trans (hsz' i hi)
   subst this
   exact h i j hi hj
 | gms i off len cap hi hcap=>intro hb;cases hb with | gms _ _ _ h=>exact Rep.gms (g:= { g with n:=n }) i off len cap h hcap
 | gp i off hi=>intro hb;cases hb with | gp _ _ h=>exact Rep.gp (g:= { g with n:=n }) i off h
 | ep cs off b base cf hvis hc hr ih=>intro hb;cases hb with | ep _ _ h=>exact .ep cs off b base cf hvis hc fun j hj=>ih j hj (h j hj)
 | fn f us vs bs cs hk hl _ _ ih0 ih=>intro hb;cases hb with | fn _ _ _ h0 h=>exact .fn f us vs bs cs hk hl (fun j hj=>ih0 j hj (h0 j hj)) fun j hj=>ih j hj (h j hj)
 | pre all m b off sz cap cf hn hcap hsz hvis hc hr ih=>
  intro hb
  refine .pre all m b off sz cap cf hn hcap hsz hvis hc fun i j hi hj=>ih i j hi hj ?_
  cases hb with
  | pre _ _ sz' hsz' h=>
   have:sz=sz':=(hsz i hi).symm.trans (hsz' i hi)
   subst this
   exact h i j hi hj
theorem RepRes.less {B:Nat} {w:World} {g:Gh} (n:Nat) (hn:n≤g.n) {v:Value} {p:PV} (h:RepRes B w g v p) (hb:Bnd n p):RepRes B w { g with n:=n } v p:=by
 by_cases hp: ∃sz es,p= .sl (.fresh sz) es
 · obtain⟨sz,es,rfl⟩:=hp
   obtain⟨h1,h2⟩:=h
   refine⟨h1.less n ?_,?_⟩
   · cases hb with
     | nil t=>exact .nil _
     | sl _ _ sz' hsz' h=>exact .sl _ _ sz' hsz' h
   · rcases h2 with ⟨b,hR,b1,b2,b3,b4⟩ | hR
     · exact .inl ⟨b,hR,b1,b2,fun i hi=>b3 i (Nat.lt_of_lt_of_le hi hn),b4⟩
     · exact .inr hR
 · unfold RepRes at h⊢
   split
   · exact absurd ⟨_,_,rfl⟩ hp
   · rename_i hq
     split at h
     · exact absurd ⟨_,_,rfl⟩ hp
     · exact h.less n hb
theorem PCalls.drop {P:Program} {f:FuncId} {args:List PV} {st:Q0f} {Q:PV→Q0f→Prop}
 (h:PCalls P f args st (fun r st'=>Bnd st.length r∧ ∃more,st'=st++more∧Q r st)):PCalls P f args st Q:=by
 intro w g vs hs hr
 refine(h w g vs hs hr).mono ?_
 rintro e w' ⟨v,g',r,st',rfl,hx,ho,hrr,hb,more,rfl,hq⟩
 have hn:g.n≤g'.n:=hx.le.n
 have hgn:g.n=st.length:=hs.n
 have hget: ∀i,i<g.n→(st++more).getD i []=st.getD i []:=fun i hi=>by
  rw [List.getD_eq_getElem?_getD,List.getElem?_append_left (by omega),←List.getD_eq_getElem?_getD]
 refine⟨v, { g' with n:=g.n },r,st,rfl,⟨⟨Nat.le_refl _,hx.le.mu,hx.le.vis,hx.le.cell⟩,hx.os,hx.tape,hx.output,hx.size,hx.old,fun i h1 h2=> ?_⟩,⟨hgn,fun i j hi hj=>ho.inj i j (Nat.lt_of_lt_of_le hi hn) (Nat.lt_of_lt_of_le hj hn),fun i hi=>ho.lt i (Nat.lt_of_lt_of_le hi hn),fun i hi h0=> ?_,fun i hi=> ?_,ho.none,ho.tab⟩,?_,hq⟩
 · have h2':i<g.n:=h2
   omega
 · exact ho.vis i (Nat.lt_of_lt_of_le hi hn) (by rw [hget i hi];exact h0)
 · have hi':i<g.n:=hi
   have hh:=ho.holds i (Nat.lt_of_lt_of_le hi hn)
   rw [hget i hi'] at hh
   intro j hj
   obtain⟨q1,c,q2,q3⟩:=hh j hj
   obtain⟨_,c0,_,q4⟩:=hs.holds i hi' j hj
   exact⟨q1,c,q2,q3.less g.n q4.bnd⟩
 · rw [←hgn] at hb
   exact hrr.less g.n hn hb
end Go.Pv
end
