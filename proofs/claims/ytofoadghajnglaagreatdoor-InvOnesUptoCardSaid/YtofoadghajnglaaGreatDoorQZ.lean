/- Parts of the walk: PvAf. -/
import Derived.Test.YtofoadghajnglaaGreatDoorQP
set_option linter.unusedVariables false
set_option linter.unusedSimpArgs false
section
/-A dead object at the store's end is forgotten when a call is over. -/
namespace Go.Pv
inductive Bnd (n:Nat):PV→Prop
 | junk:Bnd n .junk
 | sc (v:Value):Bnd n (.sc v)
 | agg (cs:List PV) (h: ∀j,j<cs.length→Bnd n (cs.getD j .junk)):Bnd n (.agg cs)
 | tup (cs:List PV) (h: ∀j,j<cs.length→Bnd n (cs.getD j .junk)):Bnd n (.tup cs)
 | nil (t:Tag):Bnd n (.sl t [])
 | sl (t:Tag) (es:List PV) (sz:Nat) (hsz: ∀i,i<es.length→(es.getD i .junk).cells.length=sz) (h: ∀i j,i<es.length→j<sz→Bnd n ((es.getD i .junk).cells.getD j .junk)):Bnd n (.sl t es)
 | gms (i off len:Nat) (hi:i<n):Bnd n (.ms true i off len)
 | gr (i len cap:Nat) (hi:i<n):Bnd n (.gr i len cap)
 | gp (i off:Nat) (hi:i<n):Bnd n (.gp i off)
 | ep (cs:List PV) (off:Nat) (h: ∀j,j<cs.length→Bnd n (cs.getD j .junk)):Bnd n (.ep cs off)
 | fn (f:Fn) (bs cs:List PV) (h0: ∀j,j<bs.length→Bnd n (bs.getD j .junk)) (h: ∀j,j<cs.length→Bnd n (cs.getD j .junk)):Bnd n (.fn f bs cs)
 | pre (all:List PV) (m sz:Nat) (hsz: ∀i,i<all.length→(all.getD i .junk).cells.length=sz) (h: ∀i j,i<all.length→j<sz→Bnd n ((all.getD i .junk).cells.getD j .junk)):Bnd n (.pre all m)
theorem Rep.bnd {w:World} {g:Gh} {v:Value} {p:PV} (h:Rep w g v p):Bnd g.n p:=by
 induction h with
 | junk v=>exact .junk
 | sc v=>exact .sc v
 | agg vs cs hl _ ih=>exact .agg cs ih
 | tup vs cs hl _ ih=>exact .tup cs ih
 | nil t ad ht=>exact .nil t
 | sl t es b off sz cap cf ht hfull hcap hsz hvis hc hr ih=>exact .sl t es sz hsz ih
 | gms i off len cap hi hcap=>exact .gms i off len hi
 | gr i len cap hi hcap=>exact .gr i len cap hi
 | gp i off hi=>exact .gp i off hi
 | ep cs off b base cf hvis hc hr ih=>exact .ep cs off ih
 | fn f us vs bs cs hk hl _ _ ih0 ih=>exact .fn f bs cs ih0 ih
 | pre all n b off sz cap cf hn hcap hsz hvis hc hr ih=>exact .pre all n sz hsz ih
theorem Rep.less {w:World} {g:Gh} (n:Nat) {v:Value} {p:PV} (h:Rep w g v p):Bnd n p→Rep w { g with n:=n } v p:=by
 induction h with
 | junk v=>exact fun _=> .junk v
 | sc v=>exact fun _=> .sc v
 | agg vs cs hl _ ih=>intro hb;cases hb with | agg _ h=>exact .agg vs cs hl fun j hj=>ih j hj (h j hj)
 | tup vs cs hl _ ih=>intro hb;cases hb with | tup _ h=>exact .tup vs cs hl fun j hj=>ih j hj (h j hj)
 | nil t ad ht=>exact fun _=> .nil t ad ht
 | sl t es b off sz cap cf ht hfull hcap hsz hvis hc hr ih=>
  intro hb
  refine .sl t es b off sz cap cf ht hfull hcap hsz hvis hc fun i j hi hj=>ih i j hi hj ?_
  cases hb with
  | nil t=>simp at hi
  | sl _ _ sz' hsz' h=>
   have:sz=sz':=(hsz i hi).symm.trans (hsz' i hi)
   subst this
   exact h i j hi hj
 | gms i off len cap hi hcap=>intro hb;cases hb with | gms _ _ _ h=>exact Rep.gms (g:= { g with n:=n }) i off len cap h hcap
 | gr i len cap hi hcap=>intro hb;cases hb with | gr _ _ _ h=>exact Rep.gr (g:= { g with n:=n }) i len cap h hcap
 | gp i off hi=>intro hb;cases hb with | gp _ _ h=>exact Rep.gp (g:= { g with n:=n }) i off h
 | ep cs off b base cf hvis hc hr ih=>intro hb;cases hb with | ep _ _ h=>exact .ep cs off b base cf hvis hc fun j hj=>ih j hj (h j hj)
 | fn f us vs bs cs hk hl _ _ ih0 ih=>intro hb;cases hb with | fn _ _ _ h0 h=>exact .fn f us vs bs cs hk hl (fun j hj=>ih0 j hj (h0 j hj)) fun j hj=>ih j hj (h j hj)
 | pre all m b off sz cap cf hn hcap hsz hvis hc hr ih=>
  intro hb
  refine .pre all m b off sz cap cf hn hcap hsz hvis hc fun i j hi hj=>ih i j hi hj ?_
  cases hb with
  | pre _ _ sz' hsz' h=>
   have:sz=sz':=(hsz i hi).symm.trans (hsz' i hi)
   subst this
   exact h i j hi hj
theorem RepRes.less {B:Nat} {w:World} {g:Gh} (n:Nat) (hn:n≤g.n) {v:Value} {p:PV} (h:RepRes B w g v p) (hb:Bnd n p):RepRes B w { g with n:=n } v p:=by
 by_cases hp: ∃sz es,p= .sl (.fresh sz) es
 · obtain⟨sz,es,rfl⟩:=hp
   obtain⟨h1,h2⟩:=h
   refine⟨h1.less n ?_,?_⟩
   · cases hb with
     | nil t=>exact .nil _
     | sl _ _ sz' hsz' h=>exact .sl _ _ sz' hsz' h
   · rcases h2 with ⟨b,hR,b1,b2,b3,b4⟩ | hR
     · exact .inl ⟨b,hR,b1,b2,fun i hi=>b3 i (Nat.lt_of_lt_of_le hi hn),b4⟩
     · exact .inr hR
 · unfold RepRes at h⊢
   split
   · exact absurd ⟨_,_,rfl⟩ hp
   · rename_i hq
     split at h
     · exact absurd ⟨_,_,rfl⟩ hp
     · exact h.less n hb
theorem PCalls.drop {P:Program} {f:FuncId} {args:List PV} {st:Q0c} {Q:PV→Q0c→Prop}
 (h:PCalls P f args st (fun r st'=>Bnd st.length r∧ ∃more,st'=st++more∧Q r st)):PCalls P f args st Q:=by
 intro w g vs hs hr
 refine(h w g vs hs hr).mono ?_
 rintro e w' ⟨v,g',r,st',rfl,hx,ho,hrr,hb,more,rfl,hq⟩
 have hn:g.n≤g'.n:=hx.le.n
 have hgn:g.n=st.length:=hs.n
 have hget: ∀i,i<g.n→(st++more).getD i []=st.getD i []:=fun i hi=>by
  rw [List.getD_eq_getElem?_getD,List.getElem?_append_left (by omega),←List.getD_eq_getElem?_getD]
 refine⟨v, { g' with n:=g.n },r,st,rfl,⟨⟨Nat.le_refl _,hx.le.mu,hx.le.vis,hx.le.cell⟩,hx.os,hx.tape,hx.output,hx.size,hx.old,fun i h1 h2=> ?_⟩,⟨hgn,fun i j hi hj=>ho.inj i j (Nat.lt_of_lt_of_le hi hn) (Nat.lt_of_lt_of_le hj hn),fun i hi=>ho.lt i (Nat.lt_of_lt_of_le hi hn),fun i hi h0=> ?_,fun i hi=> ?_,ho.none,ho.tab⟩,?_,hq⟩
 · have h2':i<g.n:=h2
   omega
 · exact ho.vis i (Nat.lt_of_lt_of_le hi hn) (by rw [hget i hi];exact h0)
 · have hi':i<g.n:=hi
   have hh:=ho.holds i (Nat.lt_of_lt_of_le hi hn)
   rw [hget i hi'] at hh
   intro j hj
   obtain⟨q1,c,q2,q3⟩:=hh j hj
   obtain⟨_,c0,_,q4⟩:=hs.holds i hi' j hj
   exact⟨q1,c,q2,q3.less g.n q4.bnd⟩
 · rw [←hgn] at hb
   exact hrr.less g.n hn hb
end Go.Pv
end
