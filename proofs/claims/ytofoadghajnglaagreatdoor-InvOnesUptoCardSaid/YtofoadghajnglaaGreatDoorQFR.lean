/- Parts of the walk: PvBk. -/
import Derived.Test.YtofoadghajnglaaGreatDoorQFC
import Derived.Test.YtofoadghajnglaaGreatDoorQEE
set_option linter.unusedVariables false
set_option linter.unusedSimpArgs false
section
/-Matrices that lie in the store and are written no more. -/
namespace Go.Pv
theorem y1i {w:World} {g g':Gh} {v:Value} {k len sz:Nat} {es R:List PV} (hsz: ∀i,i<es.length→(es.getD i .junk).cells.length=sz) (hp:0<sz) (hl:es.length=len)
 (hh:Holds w (Rep w g) (g.mu k) (flat es++R)) (hmu:g'.mu k=g.mu k) (hv:es.length*sz≤g'.vis (g.mu k)) (hm: ∀v p,Rep w g v p→Rep w g' v p) (h:Rep w g' v (.ms true k 0 len)):Rep w g' v (.sl .no es):=by
 cases h with
 | gms _ _ _ cap hi hcap=>
  rw [hmu]
  have hfl:=X0r hsz
  obtain⟨cf,hcf⟩:=hh.pick
  have hin: ∀a b,a<es.length→b<sz→a*sz+b<es.length*sz:=fun a b ha hb=>X0u ha hb
  have key:=Rep.sl (w:=w) (g:=g') .no es (g.mu k) 0 sz cap (fun a b=>cf (a*sz+b)) rfl (fun h=>by cases h) (by omega) hsz (fun _=>by omega)
   (fun a b ha hb=>by
    have:=hin a b ha hb
    rw [Nat.zero_add]
    exact(hcf _ (by rw [List.length_append];omega)).1)
   (fun a b ha hb=>by
    have h1:=hin a b ha hb
    have h2:=(hcf _ (by rw [List.length_append];omega:a*sz+b<(flat es++R).length)).2
    rw [Q0f _ _ _ _ (by omega),U0j hsz _ h1] at h2
    have e1:(a*sz+b)/sz=a:=by rw [Nat.mul_comm,Nat.mul_add_div hp,Nat.div_eq_of_lt hb,Nat.add_zero]
    have e2:(a*sz+b) % sz=b:=by rw [Nat.mul_comm,Nat.mul_add_mod,Nat.mod_eq_of_lt hb]
    rw [e1,e2] at h2
    exact hm _ _ h2)
  rw [hl] at key
  exact key
theorem X1k {E:Ent} {s:PFS} (k c m len sz:Nat) (es R:List PV) (hk:k<s.st.length) (hck:c≠k) (hc:c<s.st.length) (hm:(s.st.getD c []).getD m .junk= .ms true k 0 len)
 (he:s.st.getD k []=flat es++R) (hl:es.length=len) (hsz: ∀i,i<es.length→(es.getD i .junk).cells.length=sz) (hp:0<sz):
 Weak E s { s with st:=(s.st.set k []).set c ((s.st.getD c []).set m (.sl .no es)) } :=by
 intro a w g F h
 have hkn:k<g.n:=by rw [h.store.n];exact hk
 have hcn:c<g.n:=by rw [h.store.n];exact hc
 obtain⟨k1,k2⟩:=U1l w g (g.mu k) (es.length*sz) (.inl (h.store.lt k hkn)) h.store.none
 let g':Gh:= { g with vis:=fun b=>if b=g.mu k then max (es.length*sz) (g.vis b) else g.vis b }
 obtain⟨f1,f2⟩:=h.frame.step k1 (fun i hi e=>h.frame.apart i hi k hkn e.symm) (fun i b hi hb e=>(h.frame.tapart i b hi hb).1 k hkn e.symm)
 have hm1: ∀v p,Rep w g v p→Rep w g' v p:=fun v p hr=>hr.mono k1.le
 have hh:=h.store.holds k hkn
 rw [he] at hh
 have hgk:((s.st.set k []).set c ((s.st.getD c []).set m (.sl .no es))).getD k []= []:=by
  rw [Q0j _ _ _ _ _ hck,J0z]
 have hgc:((s.st.set k []).set c ((s.st.getD c []).set m (.sl .no es))).getD c []=(s.st.getD c []).set m (.sl .no es):=Q0r _ _ _ _ (by simpa using hc)
 have hgo: ∀j,j≠k→j≠c→((s.st.set k []).set c ((s.st.getD c []).set m (.sl .no es))).getD j []=s.st.getD j []:=fun j h1 h2=>by
  rw [Q0j _ _ _ _ _ (fun e=>h2 e.symm),Q0j _ _ _ _ _ (fun e=>h1 e.symm)]
 have hst:StoreOK w g' ((s.st.set k []).set c ((s.st.getD c []).set m (.sl .no es))):=by
  refine⟨by simpa using h.store.n,h.store.inj,h.store.lt,fun j hj hj0=> ?_,fun j hj=> ?_,k2,h.store.tab.mono k1.le⟩
  · by_cases e:j=k
    · subst e;exact absurd hgk hj0
    · have:g'.vis (g.mu j)=g.vis (g.mu j):=if_neg fun e'=>e (h.store.inj j k hj hkn e')
      refine this.trans (h.store.vis j hj fun e0=>hj0 ?_)
      by_cases e2:j=c
      · subst e2;rw [hgc,e0];rfl
      · rw [hgo j e e2];exact e0
  · by_cases e:j=k
    · subst e
      rw [hgk]
      intro i hi;simp at hi
    · by_cases e2:j=c
      · subst e2
        rw [hgc]
        intro i hi
        obtain⟨q1,v,q2,q3⟩:=h.store.holds j hj i (by simpa using hi)
        refine⟨q1,v,q2,?_⟩
        by_cases e3:m=i
        · subst e3
          rw [Q0r _ _ _ _ (by simpa using hi)]
          rw [hm] at q3
          exact y1i hsz hp hl hh rfl (by
           show _≤if g.mu k=g.mu k then max (es.length*sz) (g.vis (g.mu k)) else _
           rw [if_pos rfl];exact Nat.le_max_left _ _) hm1 (hm1 _ _ q3)
        · rw [Q0j _ _ _ _ _ e3]
          exact hm1 _ _ q3
      · rw [hgo j e e2]
        exact(h.store.holds j hj).mono rfl hm1
 refine⟨g',F,h.ext.step k1 (fun b hb=> ?_),hst,f1,h.defers,h.len,fun j hj=>f2 _ _ (h.tmps j hj)⟩
 subst hb
 by_cases hin:k<E.g.n
 · exact .inr ⟨k,hin,(h.ext.le.mu k hin).symm⟩
 · exact .inl (h.ext.new k (by omega) hkn)
theorem W1z {P:Program} {E:Ent} {C:Code} {Q:Exit→PFS→Prop} {s:PFS} (k c m len sz:Nat) (es R:List PV) (hk:k<s.st.length) (hck:c≠k) (hc:c<s.st.length) (hm:(s.st.getD c []).getD m .junk= .ms true k 0 len)
 (he:s.st.getD k []=flat es++R) (hl:es.length=len) (hsz: ∀i,i<es.length→(es.getD i .junk).cells.length=sz) (hp:0<sz)
 (h:PWP P E C Q { s with st:=(s.st.set k []).set c ((s.st.getD c []).set m (.sl .no es)) }):PWP P E C Q s:=K0u (X1k k c m len sz es R hk hck hc hm he hl hsz hp) h
theorem q0j {P:Program} {E:Ent} {C:Code} {Q:Exit→PFS→Prop} {pa:List PV} {L:Q0c} {T:List (Nat×Nat)} {st:Q0c} {A n t:Nat} {ids:List Nat} {a:List (List Nm)} (hq:QO st A ids a) (hn:a.length=n) (h0:0<n)
 (hA:st.getD A []=ids.map fun i=>PV.ms true i 0 n) (ht:pa.getD t .junk= .ms true A 0 n)
 (h: ∀st',st'.length=st.length→(∀k,k≠A→k∉ids→st'.getD k []=st.getD k [])→PWP P E C Q ⟨pa.set t (.sl .no (encQ a)),L,T,st'⟩):PWP P E C Q ⟨pa,L,T,st⟩:=by
 have hli:ids.length=n:=by rw [hq.2.lid,hn]
 have hAl:=hq.2.top.1
 have key: ∀d m st',m+d=n→st'.length=st.length→(∀k,k≠A→(∀j,j<m→ids.getD j 0≠k)→st'.getD k []=st.getD k [])→
  st'.getD A []=(List.range m).map (fun j=>PV.sl .no (Z0f (a.getD j [])))++(ids.drop m).map (fun i=>PV.ms true i 0 n)→PWP P E C Q ⟨pa,L,T,st'⟩:=by
  intro d
  induction d with
  | zero=>
   intro m st' hm hl ho hc
   obtain rfl:m=n:=by omega
   rw [List.drop_eq_nil_of_le (by omega),List.map_nil,List.append_nil] at hc
   refine Y0g A t (by rw [hl];exact hAl) (fun p hp=> ?_) (fun e=> ?_) ?_
   · rw [hc] at hp
     simp only [List.mem_map] at hp
     obtain⟨j,_,rfl⟩:=hp
     rfl
   · have:=congrArg List.length (hc.symm.trans e)
     simp at this;omega
   · have hfz:frzS (pa.getD t .junk) A (st'.getD A [])= .sl .no (encQ a):=by
      rw [ht,hc]
      unfold frzS
      dsimp only
      rw [if_pos ⟨rfl,by simp⟩,List.drop_zero,List.take_of_length_le (by simp)]
      congr 1
      refine List.ext_getElem (by simp [encQ,hn]) fun j h1 h2=> ?_
      simp only [List.length_map,List.length_range] at h1
      simp only [encQ,List.getElem_map,List.getElem_range]
      rw [List.getD_eq_getElem?_getD,List.getElem?_eq_getElem (by omega),Option.getD_some]
     show PWP P E C Q ⟨pa.set t (frzS (pa.getD t .junk) A (st'.getD A [])),L,T,st'.set A []⟩
     rw [hfz]
     refine h _ (by rw [List.length_set,hl]) fun k hk hki=> ?_
     rw [Q0j _ _ _ _ _ (fun e=>hk e.symm)]
     exact ho k hk fun j hj e=>hki (e▸X0n (by omega))
  | succ d ih=>
   intro m st' hm hl ho hc
   have hml:m<n:=by omega
   have hne:ids.getD m 0≠A:=fun e=>hq.2.na (e▸X0n (by omega))
   have hrow:=hq.2.row m (by omega)
   obtain⟨hk,R,hR⟩:=hrow
   have hst:st'.getD (ids.getD m 0) []=st.getD (ids.getD m 0) []:=ho _ hne fun j hj=>H1g hq.2.nd (by omega) (by omega) (by omega)
   have hdr:ids.drop m=ids.getD m 0::ids.drop (m+1):=by
    rw [List.drop_eq_getElem_cons (by omega),List.getD_eq_getElem?_getD,List.getElem?_eq_getElem (by omega)];rfl
   have hcell:(st'.getD A []).getD m .junk= .ms true (ids.getD m 0) 0 n:=by
    rw [hc,Q0h _ _ _ _ (by simp),hdr]
    simp
   have hrl:(a.getD m []).length=n:=by rw [hq.1 _ (Q0m _ _ _ (by omega)),hn]
   have e:(a.map rowC).getD m []=flat (Z0f (a.getD m [])):=by
    rw [List.getD_eq_getElem?_getD,List.getElem?_map,List.getD_eq_getElem?_getD,List.getElem?_eq_getElem (show m<a.length by omega)];rfl
   refine W1z (ids.getD m 0) A m n 3 (Z0f (a.getD m [])) R (by rw [hl];exact hk) (fun e=>hne e.symm) (by rw [hl];exact hAl) hcell (by show st'.getD _ []=_;rw [hst,hR,e]) (by rw [X0p];exact hrl) (fun i hi=>by rw [X0p] at hi;rw [V0a _ i hi];rfl) (by decide) ?_
   refine ih (m+1) _ (by omega) (by simp [hl]) (fun k hk1 hk2=> ?_) ?_
   · show((st'.set _ []).set A _).getD k []=_
     rw [Q0j _ _ _ _ _ (fun e=>hk1 e.symm),Q0j _ _ _ _ _ (hk2 m (by omega))]
     exact ho k hk1 fun j hj=>hk2 j (by omega)
   · show((st'.set _ []).set A _).getD A []=_
     rw [Q0r _ _ _ _ (by rw [List.length_set,hl];exact hAl),hc,List.set_append_right _ _ (by simp),hdr]
     simp only [List.length_map,List.length_range,Nat.sub_self,List.map_cons,List.set_cons_zero]
     rw [List.range_succ,List.map_append,List.append_assoc];rfl
 exact key n 0 st (by omega) rfl (fun k _ _=>rfl) (by simpa using hA)
end Go.Pv
end
