/- Parts of the walk: PvBk, PvBl, PvBm. -/
import Derived.Test.YtofoadghajnglaaGreatDoorZFC
import Derived.Test.YtofoadghajnglaaGreatDoorZEE
set_option linter.unusedVariables false
set_option linter.unusedSimpArgs false
section
/-Matrices that lie in the store and are written no more. -/
namespace Go.Pv
theorem H1h {w:World} {g g':Gh} {v:Value} {k len sz:Nat} {es R:List PV} (hsz: ∀i,i<es.length→(es.getD i .junk).cells.length=sz) (hp:0<sz) (hl:es.length=len)
 (hh:Holds w (Rep w g) (g.mu k) (flat es++R)) (hmu:g'.mu k=g.mu k) (hv:es.length*sz≤g'.vis (g.mu k)) (hm: ∀v p,Rep w g v p→Rep w g' v p) (h:Rep w g' v (.ms true k 0 len)):Rep w g' v (.sl .no es):=by
 cases h with
 | gms _ _ _ cap hi hcap=>
  rw [hmu]
  have hfl:=J0b hsz
  obtain⟨cf,hcf⟩:=hh.pick
  have hin: ∀a b,a<es.length→b<sz→a*sz+b<es.length*sz:=fun a b ha hb=>J0i ha hb
  have key:=Rep.sl (w:=w) (g:=g') .no es (g.mu k) 0 sz cap (fun a b=>cf (a*sz+b)) rfl (fun h=>by cases h) (by omega) hsz (fun _=>by omega)
   (fun a b ha hb=>by
    have:=hin a b ha hb
    rw [Nat.zero_add]
    exact(hcf _ (by rw [List.length_append];omega)).1)
   (fun a b ha hb=>by
    have h1:=hin a b ha hb
    have h2:=(hcf _ (by rw [List.length_append];omega:a*sz+b<(flat es++R).length)).2
    rw [Q0i _ _ _ _ (by omega),U0j hsz _ h1] at h2
    have e1:(a*sz+b)/sz=a:=by rw [Nat.mul_comm,Nat.mul_add_div hp,Nat.div_eq_of_lt hb,Nat.add_zero]
    have e2:(a*sz+b) % sz=b:=by rw [Nat.mul_comm,Nat.mul_add_mod,Nat.mod_eq_of_lt hb]
    rw [e1,e2] at h2
    exact hm _ _ h2)
  rw [hl] at key
  exact key
end Go.Pv
end
section
/-Matrices that lie in the store,of which two rows may be the same object. -/
namespace Go.Pv
theorem U1l {E:Ent} {s:PFS} (k c len sz:Nat) (es R cs':List PV) (hk:k<s.st.length) (hck:c≠k) (hc:c<s.st.length) (hl':cs'.length=(s.st.getD c []).length) (h0:cs'≠ [])
 (hm: ∀i,i<cs'.length→cs'.getD i .junk=(s.st.getD c []).getD i .junk∨((s.st.getD c []).getD i .junk= .ms true k 0 len∧cs'.getD i .junk= .sl .no es))
 (he:s.st.getD k []=flat es++R) (hl:es.length=len) (hsz: ∀i,i<es.length→(es.getD i .junk).cells.length=sz) (hp:0<sz):
 Weak E s { s with st:=(s.st.set k []).set c cs' } :=by
 intro a w g F h
 have hkn:k<g.n:=by rw [h.store.n];exact hk
 have hcn:c<g.n:=by rw [h.store.n];exact hc
 obtain⟨k1,k2⟩:=J1o w g (g.mu k) (es.length*sz) (.inl (h.store.lt k hkn)) h.store.none
 let g':Gh:= { g with vis:=fun b=>if b=g.mu k then max (es.length*sz) (g.vis b) else g.vis b }
 obtain⟨f1,f2⟩:=h.frame.step k1 (fun i hi e=>h.frame.apart i hi k hkn e.symm) (fun i b hi hb e=>(h.frame.tapart i b hi hb).1 k hkn e.symm)
 have hm1: ∀v p,Rep w g v p→Rep w g' v p:=fun v p hr=>hr.mono k1.le
 have hh:=h.store.holds k hkn
 rw [he] at hh
 have hgk:((s.st.set k []).set c cs').getD k []= []:=by
  rw [Q0g _ _ _ _ _ hck,X0v]
 have hgc:((s.st.set k []).set c cs').getD c []=cs':=Q0p _ _ _ _ (by simpa using hc)
 have hgo: ∀j,j≠k→j≠c→((s.st.set k []).set c cs').getD j []=s.st.getD j []:=fun j h1 h2=>by
  rw [Q0g _ _ _ _ _ (fun e=>h2 e.symm),Q0g _ _ _ _ _ (fun e=>h1 e.symm)]
 have hst:StoreOK w g' ((s.st.set k []).set c cs'):=by
  refine⟨by simpa using h.store.n,h.store.inj,h.store.lt,fun j hj hj0=> ?_,fun j hj=> ?_,k2,h.store.tab.mono k1.le⟩
  · by_cases e:j=k
    · subst e;exact absurd hgk hj0
    · have:g'.vis (g.mu j)=g.vis (g.mu j):=if_neg fun e'=>e (h.store.inj j k hj hkn e')
      refine this.trans (h.store.vis j hj fun e0=>hj0 ?_)
      by_cases e2:j=c
      · subst e2;exact absurd (List.eq_nil_of_length_eq_zero (by rw [hl',e0];rfl)) h0
      · rw [hgo j e e2];exact e0
  · by_cases e:j=k
    · subst e
      rw [hgk]
      intro i hi;simp at hi
    · by_cases e2:j=c
      · subst e2
        rw [hgc]
        intro i hi
        obtain⟨q1,v,q2,q3⟩:=h.store.holds j hj i (by rw [←hl'];exact hi)
        refine⟨q1,v,q2,?_⟩
        rcases hm i hi with e3 | ⟨e3,e4⟩
        · rw [e3];exact hm1 _ _ q3
        · rw [e4]
          rw [e3] at q3
          exact H1h hsz hp hl hh rfl (by
           show _≤if g.mu k=g.mu k then max (es.length*sz) (g.vis (g.mu k)) else _
           rw [if_pos rfl];exact Nat.le_max_left _ _) hm1 (hm1 _ _ q3)
      · rw [hgo j e e2]
        exact(h.store.holds j hj).mono rfl hm1
 refine⟨g',F,h.ext.step k1 (fun b hb=> ?_),hst,f1,h.defers,h.len,fun j hj=>f2 _ _ (h.tmps j hj)⟩
 subst hb
 by_cases hin:k<E.g.n
 · exact .inr ⟨k,hin,(h.ext.le.mu k hin).symm⟩
 · exact .inl (h.ext.new k (by omega) hkn)
def Z1e (n:Nat) (ids:List Nat) (a:List (List Nm)) (m:Nat):List PV:=(List.range n).map fun j=>if ((List.range m).any fun i=>ids.getD i 0==ids.getD j 0)=true then .sl .no (Z0b (a.getD j [])) else .ms true (ids.getD j 0) 0 n
theorem X0k (n:Nat) (ids:List Nat) (a:List (List Nm)) (m:Nat):(Z1e n ids a m).length=n:=by simp [Z1e]
theorem Z1d {n m j:Nat} (ids:List Nat) (a:List (List Nm)) (h:j<n):(Z1e n ids a m).getD j .junk=if ((List.range m).any fun i=>ids.getD i 0==ids.getD j 0)=true then .sl .no (Z0b (a.getD j [])) else .ms true (ids.getD j 0) 0 n:=by
 unfold Z1e
 rw [List.getD_eq_getElem?_getD,List.getElem?_map,List.getElem?_range h];rfl
theorem w1j (ids:List Nat) (m j:Nat):((List.range (m+1)).any fun i=>ids.getD i 0==ids.getD j 0)=(((List.range m).any fun i=>ids.getD i 0==ids.getD j 0)||ids.getD m 0==ids.getD j 0):=by
 rw [List.range_succ,List.any_append];simp
end Go.Pv
end
section
/-A slice of known room in a slot,whose room (and that of the store's) is forgotten. -/
namespace Go.Pv
theorem Z2r {E:Ent} (s:PFS) (t k n c:Nat) (ht:s.pa.getD t .junk= .gr k n c) (st':Q0f) (hl:st'.length=s.st.length)
 (hs: ∀i,i<s.st.length→(st'.getD i []).length=(s.st.getD i []).length∧ ∀o,o<(s.st.getD i []).length→Un ((s.st.getD i []).getD o .junk) ((st'.getD i []).getD o .junk)):Weak E s { s with pa:=s.pa.set t (.ms true k 0 n),st:=st' } :=by
 intro a w g F h
 have ho:=h.store
 have hn:=ho.n
 refine⟨g,F,h.ext,⟨by rw [hn,hl],ho.inj,ho.lt,fun i hi hne=>ho.vis i hi fun e=>hne ?_,fun i hi j hj=> ?_,ho.none,ho.tab⟩,h.frame,h.defers,by simp [h.len],fun m hm=> ?_⟩
 · have:=(hs i (by omega)).1
   rw [e] at this
   exact List.eq_nil_of_length_eq_zero (by simpa using this)
 · obtain⟨q1,q2⟩:=hs i (by omega)
   rw [q1] at hj
   obtain⟨z1,c,z2,z3⟩:=ho.holds i hi j hj
   exact⟨z1,c,z2,(q2 j hj).rep z3⟩
 · simp only [List.length_set] at hm⊢
   by_cases e:t=m
   · subst e
     rw [Q0p _ _ _ _ hm]
     have:=h.tmps t hm
     rw [ht] at this
     generalize a.tmps.getD t undef=v at this⊢
     cases this with
     | base _ _ h'=>exact .base _ _ ((Un.gr k n c).rep h')
   · rw [Q0g _ _ _ _ _ e]
     exact h.tmps m hm
theorem G2s {P:Program} {E:Ent} {C:Code} {Q:Exit→PFS→Prop} {s:PFS} (t k n c:Nat) (ht:s.pa.getD t .junk= .gr k n c) (st':Q0f) (hl:st'.length=s.st.length)
 (hs: ∀i,i<s.st.length→(st'.getD i []).length=(s.st.getD i []).length∧ ∀o,o<(s.st.getD i []).length→Un ((s.st.getD i []).getD o .junk) ((st'.getD i []).getD o .junk)) (h:PWP P E C Q { s with pa:=s.pa.set t (.ms true k 0 n),st:=st' }):PWP P E C Q s:=V0d (Z2r s t k n c ht st' hl hs) h
theorem Built.below {st:Q0f} {B n i k:Nat} {out:PV} {ids:List Nat} {cs:List PV} {rows:List (List PV)} (h:Built st B n i out ids cs rows) (hk:k<B) (x:List PV):Built (st.set k x) B n i out ids cs rows:=by
 refine⟨h.lid,h.lrow,h.lcs,h.un,fun j hj=> ?_,h.nd,h.ge,by rw [List.length_set];exact h.le,?_⟩
 · have hg:=h.ge _ (K0c (by rw [h.lid];exact hj))
   exact(h.row j hj).mono (by simp) (Q0g _ _ _ _ _ (by omega))
 · rcases h.out with h0 | ⟨h0,A,cap,R,h1,h2,h3,h4,h5,h6⟩
   · exact .inl h0
   · exact .inr ⟨h0,A,cap,R,h1,h2,by rw [List.length_set];exact h3,h4,by rw [Q0g _ _ _ _ _ (by omega)];exact h5,h6⟩
theorem U1i {E:Ent} {s:PFS} (k t len sz:Nat) (es R:List PV) (hk:k<s.st.length) (ht:s.pa.getD t .junk= .ms true k 0 len)
 (he:s.st.getD k []=flat es++R) (hl:es.length=len) (hsz: ∀i,i<es.length→(es.getD i .junk).cells.length=sz) (hp:0<sz):Weak E s { s with pa:=s.pa.set t (.sl .no es),st:=s.st.set k [] } :=by
 intro a w g F h
 have hkn:k<g.n:=by rw [h.store.n];exact hk
 obtain⟨k1,k2⟩:=J1o w g (g.mu k) (es.length*sz) (.inl (h.store.lt k hkn)) h.store.none
 let g':Gh:= { g with vis:=fun b=>if b=g.mu k then max (es.length*sz) (g.vis b) else g.vis b }
 obtain⟨f1,f2⟩:=h.frame.step k1 (fun i hi e=>h.frame.apart i hi k hkn e.symm) (fun i b hi hb e=>(h.frame.tapart i b hi hb).1 k hkn e.symm)
 have hm1: ∀v p,Rep w g v p→Rep w g' v p:=fun v p hr=>hr.mono k1.le
 have hh:=h.store.holds k hkn
 rw [he] at hh
 have hst:StoreOK w g' (s.st.set k []):=by
  refine⟨by simpa using h.store.n,h.store.inj,h.store.lt,fun j hj hj0=> ?_,fun j hj=> ?_,k2,h.store.tab.mono k1.le⟩
  · by_cases e:k=j
    · subst e;exact absurd (X0v _ _) hj0
    · rw [Q0g _ _ _ _ _ e] at hj0
      have:g'.vis (g.mu j)=g.vis (g.mu j):=if_neg fun e'=>e (h.store.inj j k hj hkn e').symm
      exact this.trans (h.store.vis j hj hj0)
  · by_cases e:k=j
    · subst e
      rw [X0v]
      intro j hj;simp at hj
    · rw [Q0g _ _ _ _ _ e]
      exact(h.store.holds j hj).mono rfl hm1
 refine⟨g',F,h.ext.step k1 (fun b hb=> ?_),hst,f1,h.defers,by simp [h.len],fun j hj=> ?_⟩
 · subst hb
   by_cases hin:k<E.g.n
   · exact .inr ⟨k,hin,(h.ext.le.mu k hin).symm⟩
   · exact .inl (h.ext.new k (by omega) hkn)
 · simp only [List.length_set] at hj⊢
   by_cases e:t=j
   · subst e
     rw [Q0p _ _ _ _ hj]
     have hv:=h.tmps t hj
     rw [ht] at hv
     generalize a.tmps.getD t undef=v at hv⊢
     cases hv with
     | base _ _ h'=>
      exact .base _ _ (H1h hsz hp hl hh rfl (by
       show _≤if g.mu k=g.mu k then max (es.length*sz) (g.vis (g.mu k)) else _
       rw [if_pos rfl];exact Nat.le_max_left _ _) hm1 (hm1 _ _ h'))
   · rw [Q0g _ _ _ _ _ e]
     exact f2 _ _ (h.tmps j hj)
theorem K1c {P:Program} {E:Ent} {C:Code} {Q:Exit→PFS→Prop} {pa:List PV} {L:Q0f} {T:List (Nat×Nat)} {st:Q0f} {A n t:Nat} {ids:List Nat} {a:List (List Nm)} {Z:List PV} (h0:0<n)
 (hr: ∀m,m<n→RowAt st (ids.getD m 0) (rowC (a.getD m []))) (hrl: ∀m,m<n→(a.getD m []).length=n) (hn:a.length=n) (hsame: ∀i j,i<n→j<n→ids.getD i 0=ids.getD j 0→a.getD i []=a.getD j []) (hne: ∀m,m<n→ids.getD m 0≠A) (hAl:A<st.length)
 (hli:ids.length=n) (hA:st.getD A []=(ids.map fun i=>PV.ms true i 0 n)++Z) (ht:pa.getD t .junk= .ms true A 0 n)
 (h: ∀st',st'.length=st.length→(∀k,k≠A→k∉ids→st'.getD k []=st.getD k [])→PWP P E C Q ⟨pa.set t (.sl .no (encQ a)),L,T,st'⟩):PWP P E C Q ⟨pa,L,T,st⟩:=by
 have key: ∀d m st',m+d=n→st'.length=st.length→(∀k,k≠A→(∀j,j<m→ids.getD j 0≠k)→st'.getD k []=st.getD k [])→st'.getD A []=Z1e n ids a m++Z→PWP P E C Q ⟨pa,L,T,st'⟩:=by
  intro d
  induction d with
  | zero=>
   intro m st' hm hl ho hc
   obtain rfl:m=n:=by omega
   have hall:Z1e m ids a m=encQ a:=by
    refine List.ext_getElem (by rw [X0k,j0r,hn]) fun j h1 h2=> ?_
    have hj:j<m:=by rw [X0k] at h1;exact h1
    have e1:(Z1e m ids a m)[j]=(Z1e m ids a m).getD j .junk:=by rw [List.getD_eq_getElem?_getD,List.getElem?_eq_getElem h1];rfl
    have e2:(encQ a)[j]=(encQ a).getD j .junk:=by rw [List.getD_eq_getElem?_getD,List.getElem?_eq_getElem h2];rfl
    rw [e1,e2,Z1d ids a hj,V0f a j (by omega),if_pos]
    rw [List.any_eq_true]
    exact⟨j,List.mem_range.2 hj,beq_self_eq_true _⟩
   have hfl:flat (encQ a)=encQ a:=z0h fun c hc=>by
    simp only [encQ,List.mem_map] at hc
    obtain⟨j,_,rfl⟩:=hc
    rfl
   rw [hall] at hc
   refine V0d (U1i A t m 1 (encQ a) Z (by show A<st'.length;rw [hl];exact hAl) ht (by rw [hfl];exact hc) (by rw [j0r,hn]) (fun i hi=> ?_) (by decide)) ?_
   · rw [j0r] at hi
     rw [V0f a i hi];rfl
   · refine h _ (by rw [List.length_set,hl]) fun k hk hki=> ?_
     show(st'.set A []).getD k []=_
     rw [Q0g _ _ _ _ _ (fun e=>hk e.symm)]
     exact ho k hk fun j hj e=>hki (e▸K0c (by omega))
  | succ d ih=>
   intro m st' hm hl ho hc
   have hml:m<n:=by omega
   by_cases hb:((List.range m).any fun i=>ids.getD i 0==ids.getD m 0)=true
   · refine ih (m+1) st' (by omega) hl (fun k h1 h2=>ho k h1 fun j hj=>h2 j (by omega)) ?_
     rw [hc]
     congr 1
     unfold Z1e
     refine List.map_congr_left fun j hj=> ?_
     rw [w1j]
     by_cases e:ids.getD m 0=ids.getD j 0
     · rw [←e,hb];simp
     · rw [show(ids.getD m 0==ids.getD j 0)=false from beq_eq_false_iff_ne.2 e,Bool.or_false]
   · have hno: ∀j,j<m→ids.getD j 0≠ids.getD m 0:=fun j hj e=>hb (by
      rw [List.any_eq_true]
      exact⟨j,List.mem_range.2 hj,beq_iff_eq.2 e⟩)
     have hst:st'.getD (ids.getD m 0) []=st.getD (ids.getD m 0) []:=ho _ (hne m hml) hno
     obtain⟨hk,R,hR⟩:=hr m hml
     refine V0d (U1l (ids.getD m 0) A n 3 (Z0b (a.getD m [])) R (Z1e n ids a (m+1)++Z) (by show _<st'.length;rw [hl];exact hk) (fun e=>hne m hml e.symm) (by show _<st'.length;rw [hl];exact hAl) (by show _=(st'.getD A []).length;rw [hc,List.length_append,List.length_append,X0k,X0k]) (fun e=> ?_) (fun j hj=> ?_)
      (by show st'.getD _ []=_;rw [hst,hR];rfl) (by rw [X0w];exact hrl m hml) (fun i hi=>by rw [X0w] at hi;rw [J0w _ i hi];rfl) (by decide)) ?_
     · have:=congrArg List.length e
       rw [List.length_append,X0k] at this
       simp at this;omega
     · show _=(st'.getD A []).getD j .junk∨((st'.getD A []).getD j .junk=_∧_)
       rw [hc]
       by_cases hj:j<n
       rotate_left
       · refine .inl ?_
         rw [Q0o _ _ _ _ (by rw [X0k];omega),Q0o _ _ _ _ (by rw [X0k];omega),X0k,X0k]
       rw [Q0i _ _ _ _ (by rw [X0k];exact hj),Q0i _ _ _ _ (by rw [X0k];exact hj),Z1d ids a hj,Z1d ids a hj,w1j]
       by_cases e:ids.getD m 0=ids.getD j 0
       · by_cases e2:((List.range m).any fun i=>ids.getD i 0==ids.getD j 0)=true
         · exact .inl (by rw [e2];rfl)
         · refine .inr ⟨by rw [if_neg e2,e],?_⟩
           rw [if_pos (by rw [e];simp),hsame m j hml hj e]
       · exact .inl (by rw [show(ids.getD m 0==ids.getD j 0)=false from beq_eq_false_iff_ne.2 e,Bool.or_false])
     · refine ih (m+1) _ (by omega) (by simp [hl]) (fun k hk1 hk2=> ?_) ?_
       · show((st'.set _ []).set A _).getD k []=_
         rw [Q0g _ _ _ _ _ (fun e=>hk1 e.symm),Q0g _ _ _ _ _ (hk2 m (by omega))]
         exact ho k hk1 fun j hj=>hk2 j (by omega)
       · show((st'.set _ []).set A _).getD A []=_
         exact Q0p _ _ _ _ (by rw [List.length_set,hl];exact hAl)
 refine key n 0 st (by omega) rfl (fun k _ _=>rfl) ?_
 rw [hA]
 congr 1
 unfold Z1e
 refine List.ext_getElem (by simp [hli]) fun j h1 h2=> ?_
 simp
 rw [List.getElem?_eq_getElem (by simpa using h1)];rfl
end Go.Pv
end
