/- Parts of the walk: PvBh, PvBi, PvBk, PvBl, PvBm. -/
import Derived.Test.YtofoadghajnglaaGreatDoorZBV
import Derived.Test.YtofoadghajnglaaGreatDoorZEE
import Derived.Test.YtofoadghajnglaaGreatDoorZEF
set_option linter.unusedVariables false
set_option linter.unusedSimpArgs false
section
/-Slices whose blocks are objects of the store,as plain slices:while a call looks at them,or for good,when a function hands them back. -/
namespace Go.Pv
inductive Seen (st:Q0e) (e:List Nat):PV→PV→Prop
 | same {p:PV} (h:Tame p):Seen st e p p
 | agg {cs ds:List PV} (hl:cs.length=ds.length) (h: ∀j,j<ds.length→Seen st e (cs.getD j .junk) (ds.getD j .junk)):Seen st e (.agg cs) (.agg ds)
 | tup {cs ds:List PV} (hl:cs.length=ds.length) (h: ∀j,j<ds.length→Seen st e (cs.getD j .junk) (ds.getD j .junk)):Seen st e (.tup cs) (.tup ds)
 | ms {p:PV} {k n sz:Nat} {es:List PV} (hp:p= .ms true k 0 n∨ ∃cap,p= .gr k n cap) (hk:k<st.length) (hl:es.length=n) (hsz: ∀i,i<n→(es.getD i .junk).cells.length=sz) (he:n*sz≤e.getD k 0)
  (h: ∀i j,i<n→j<sz→Seen st e ((st.getD k []).getD (i*sz+j) .junk) ((es.getD i .junk).cells.getD j .junk)):Seen st e p (.sl .no es)
theorem Seen.rep {w:World} {g G:Gh} {st:Q0e} {e:List Nat} (hs:StoreOK w g st) (hx: ∀k,k<st.length→e.getD k 0≤(st.getD k []).length) (hv: ∀b,g.vis b≤G.vis b) (hk: ∀k,k<st.length→e.getD k 0≤G.vis (g.mu k)) {p q:PV} (h:Seen st e p q):
 ∀v,Rep w g v p→Rep w G v q:=by
 induction h with
 | @same p h=>
  intro v hr
  have h1:=Low.mk (h.low 0).1 (g:=g) G.vis hv hr
  exact Rep.mono (w:=w) (g:=⟨0,fun _=>0,G.vis⟩) (w':=w) (g':=G) ⟨Nat.zero_le _,fun i hi=>absurd hi (Nat.not_lt_zero _),fun _=>Nat.le_refl _,fun _ _ _ _ hc=>hc⟩ h1
 | agg hl h ih=>
  intro v hr
  cases hr with
  | agg vs _ hl' h'=>exact .agg vs _ (by omega) fun j hj=>ih j hj _ (h' j (by omega))
 | tup hl h ih=>
  intro v hr
  cases hr with
  | tup vs _ hl' h'=>exact .tup vs _ (by omega) fun j hj=>ih j hj _ (h' j (by omega))
 | @ms p k n sz es hp hkl hl hsz he h ih=>
  intro v hr
  have hn:=hs.n
  obtain⟨cap,rfl,hcap⟩: ∃cap,v= .slice (some ⟨g.mu k,0,none⟩) n cap∧n≤cap:=by
   rcases hp with rfl | ⟨cap,rfl⟩
   · cases hr with | gms _ _ _ cap _ hcap=>exact⟨cap,rfl,hcap⟩
   · cases hr with | gr _ _ _ _ hcap=>exact⟨cap,rfl,hcap⟩
  have hh:=hs.holds k (by omega)
  have hle:=hx k hkl
  have:=Rep.sl (w:=w) (g:=G) .no es (g.mu k) 0 sz cap (fun i j=>(w.cell? ⟨g.mu k,0+i*sz+j,none⟩).getD undef) rfl (fun h=>by cases h) (by omega) (fun i hi=>hsz i (by omega))
   (fun h0=>by rw [hl,Nat.zero_add];exact Nat.le_trans he (hk k hkl))
   (fun i j hi hj=>by
    have:=J0n (show i<n by omega) hj
    obtain⟨_,c,q1,q2⟩:=hh (i*sz+j) (by omega)
    rw [show 0+i*sz+j=i*sz+j by omega,q1];rfl)
   (fun i j hi hj=>by
    have:=J0n (show i<n by omega) hj
    obtain⟨_,c,q1,q2⟩:=hh (i*sz+j) (by omega)
    rw [show 0+i*sz+j=i*sz+j by omega,q1]
    exact ih i j (by omega) hj _ q2)
  rw [hl] at this
  exact this
noncomputable def H0r (g:Gh) (lo:Nat) (e:List Nat) (b:Nat):Nat:=
 open Classical in if h: ∃k,lo≤k∧k<g.n∧g.mu k=b∧0<e.getD k 0 then e.getD h.choose 0 else g.vis b
section
variable {w:World} {g:Gh} {st:Q0e} {e:List Nat} {lo:Nat}
theorem H1s (hs:StoreOK w g st) (k:Nat) (hlo:lo≤k) (hk:k<g.n):e.getD k 0≤H0r g lo e (g.mu k):=by
 unfold H0r
 split
 · rename_i h
   obtain⟨h1,h2,h3,h4⟩:=h.choose_spec
   rw [hs.inj _ _ h2 hk h3];exact Nat.le_refl _
 · rename_i h
   by_cases h0:0<e.getD k 0
   · exact absurd ⟨k,hlo,hk,rfl,h0⟩ h
   · omega
theorem v1n (hs:StoreOK w g st) (hx: ∀k,k<st.length→e.getD k 0≤(st.getD k []).length) (b:Nat):g.vis b≤H0r g lo e b:=by
 unfold H0r
 split
 · rename_i h
   obtain⟨h1,h2,h3,h4⟩:=h.choose_spec
   have h5:=hx _ (by rw [←hs.n];exact h2)
   have:=hs.vis _ h2 (fun e=>by rw [e] at h5;exact absurd h5 (Nat.not_le_of_lt h4))
   rw [h3] at this
   omega
 · exact Nat.le_refl _
theorem K1y (b:Nat) (hb:H0r g lo e b≠g.vis b): ∃k,lo≤k∧k<g.n∧g.mu k=b∧H0r g lo e b=e.getD k 0:=by
 unfold H0r at hb⊢
 split
 · rename_i h
   obtain⟨h1,h2,h3,h4⟩:=h.choose_spec
   exact⟨_,h1,h2,h3,rfl⟩
 · rename_i h
   rw [dif_neg h] at hb
   exact absurd rfl hb
end
def PV.stale :PV→Bool
 | .sl (.fresh _) _=>false
 | _=>true
theorem W1u {p:PV} (h:p.stale=true) (B:Nat) (w:World) (g:Gh) (v:Value):RepRes B w g v p=Rep w g v p:=by
 cases p with
 | sl t es=>cases t<;>first | rfl | cases h
 | _=>rfl
theorem q1h {P:Program} {f:FuncId} {args:List PV} {st:Q0e} {Q:PV→Prop} (h:PCalls P f args st fun r st'=> ∃X q e,st'=st++X∧Seen st' e r q∧(∀k,k<st'.length→e.getD k 0≤(st'.getD k []).length)∧(∀k,k<st.length→e.getD k 0=0)∧r.stale=true∧q.stale=true∧Q q):
 PCalls P f args st (fun r st'=>Q r∧st'=st):=by
 intro w g vs hs hr
 refine(h w g vs hs hr).mono ?_
 rintro en w' ⟨v,g',r,st',rfl,hx,ho,hv,X,q,e,rfl,hsee,hle,hlo,sr,sq,hq⟩
 rw [W1u sr] at hv
 have hn:st.length=g.n:=hs.n.symm
 have hn':g.n≤g'.n:=hx.le.n
 have hgd: ∀i,i<g.n→(st++X).getD i []=st.getD i []:=fun i hi=>by rw [List.getD_eq_getElem?_getD,List.getElem?_append_left (by omega),←List.getD_eq_getElem?_getD]
 let G:Gh:=⟨g.n,g'.mu,H0r g' g.n e⟩
 have hvle: ∀b,g'.vis b≤G.vis b:=v1n ho hle
 have hvold: ∀b,(∀k,g.n≤k→k<g'.n→g'.mu k≠b)→G.vis b=g'.vis b:=fun b hb=>by
  refine Classical.byContradiction fun hne=> ?_
  obtain⟨k,h1,h2,h3,_⟩:=K1y b hne
  exact hb k h1 h2 h3
 have hkv: ∀k,k<(st++X).length→e.getD k 0≤G.vis (g'.mu k):=fun k hk=>by
  by_cases hlt:k<g.n
  · rw [hlo k (by omega)];exact Nat.zero_le _
  · exact H1s ho k (by omega) (by rw [ho.n];exact hk)
 refine⟨v,G,q,st,rfl,⟨⟨Nat.le_refl _,hx.le.mu,fun b=>Nat.le_trans (hx.le.vis b) (hvle b),hx.le.cell⟩,hx.os,hx.tape,hx.output,hx.size,fun b hb hnb=> ?_,fun i hi hi'=>absurd hi (Nat.not_le_of_lt hi')⟩,
  ⟨hs.n,fun i j hi hj=>ho.inj i j (Nat.lt_of_lt_of_le hi hn') (Nat.lt_of_lt_of_le hj hn'),fun i hi=>ho.lt i (Nat.lt_of_lt_of_le hi hn'),fun i hi hne=> ?_,fun i hi=> ?_,fun b hb=> ?_,fun t ht=>⟨Nat.le_trans (ho.tab t ht).1 (hvle _),(ho.tab t ht).2⟩⟩,?_,hq,rfl⟩
 · obtain⟨o1,o2⟩:=hx.old b hb hnb
   refine⟨o1,?_⟩
   rw [hvold b fun k h1 h2 h3=> ?_]
   · exact o2
   · have:=hx.new k h1 h2
     omega
 · have h1:=ho.vis i (Nat.lt_of_lt_of_le hi hn') (by rw [hgd i hi];exact hne)
   rw [hvold _ fun k h1 h2 h3=> ?_]
   · exact h1
   · have:=ho.inj k i h2 (Nat.lt_of_lt_of_le hi hn') h3
     have hi':i<g.n:=hi
     omega
 · have h1:=ho.holds i (Nat.lt_of_lt_of_le hi hn')
   rw [hgd i hi] at h1
   intro j hj
   obtain⟨z1,c,z2,z3⟩:=h1 j hj
   obtain⟨_,c0,_,z4⟩:=hs.holds i hi j hj
   refine⟨z1,c,z2,?_⟩
   have z5:=J1o z4 _ _ _ z3 hn'
   exact Rep.mono (w:=w') (g:= { g' with n:=g.n }) (w':=w') (g':=G) ⟨Nat.le_refl _,fun _ _=>rfl,hvle,fun _ _ _ _ hc=>hc⟩ z5
 · rw [hvold b fun k h1 h2 h3=> ?_]
   · exact ho.none b hb
   · have:=ho.lt k h2
     omega
 · rw [W1u sq]
   exact hsee.rep ho hle hvle hkv v hv
inductive Un :PV→PV→Prop
 | same (p:PV):Un p p
 | gr (k n c:Nat):Un (.gr k n c) (.ms true k 0 n)
theorem Un.rep {w:World} {g:Gh} {p q:PV} (h:Un p q) {v:Value} (hr:Rep w g v p):Rep w g v q:=by
 cases h with
 | same=>exact hr
 | gr k n c=>cases hr with | gr _ _ _ hi hcap=>exact .gms _ 0 _ _ hi hcap
end Go.Pv
end
section
/-Rows and matrices that lie in the store and are written. -/
namespace Go.Pv
def RowAt (st:Q0e) (k:Nat) (cs:List PV):Prop:=k<st.length∧ ∃R,st.getD k []=cs++R
def Dist (ids:List Nat):Prop:= ∀i j,i<ids.length→j<ids.length→i≠j→ids.getD i 0≠ids.getD j 0
theorem RowAt.set {st:Q0e} {k:Nat} {cs' R:List PV} (h:k<st.length):RowAt (st.set k (cs'++R)) k cs':=⟨by rw [List.length_set];exact h,R,by rw [Q0o _ _ _ _ h]⟩
structure Built (st:Q0e) (B n i:Nat) (out:PV) (ids:List Nat) (cs:List PV) (rows:List (List PV)):Prop where
 lid:ids.length=i
 lrow:rows.length=i
 lcs:cs.length=i
 un: ∀j,j<i→Un (cs.getD j .junk) (.ms true (ids.getD j 0) 0 n)
 row: ∀j,j<i→RowAt st (ids.getD j 0) (rows.getD j [])
 nd:Dist ids
 ge: ∀k∈ids,B≤k
 le:B≤st.length
 out:(i=0∧out= .sl .full [])∨(0<i∧ ∃A cap R,out= .gr A i cap∧B≤A∧A<st.length∧A∉ids∧st.getD A []=cs++R∧R.length=cap-i∧i≤cap)
theorem Built.zero (st:Q0e) (n:Nat):Built st st.length n 0 (.sl .full []) [] [] []:=
 ⟨rfl,rfl,rfl,fun j hj=>by omega,fun j hj=>by omega,fun i j hi=>by simp at hi,fun k hk=>by simp at hk,Nat.le_refl _,.inl ⟨rfl,rfl⟩⟩
theorem Built.at {st:Q0e} {B n i A cap:Nat} {ids:List Nat} {cs:List PV} {rows:List (List PV)} (h:Built st B n i (.gr A i cap) ids cs rows) (hi:0<i):B≤A∧A<st.length∧(st.getD A []).length=cap:=by
 rcases h.out with ⟨h0,_⟩ | ⟨_,A2,cap2,R,h1,h2,h3,h4,h5,h6,h7⟩
 · omega
 simp only [PV.gr.injEq] at h1
 obtain⟨rfl,_,rfl⟩:=h1
 exact⟨h2,h3,by rw [h5,List.length_append,h.lcs,h6];omega⟩
end Go.Pv
end
section
/-Matrices that lie in the store and are written no more. -/
namespace Go.Pv
theorem K2t {w:World} {g g':Gh} {v:Value} {k len sz:Nat} {es R:List PV} (hsz: ∀i,i<es.length→(es.getD i .junk).cells.length=sz) (hp:0<sz) (hl:es.length=len)
 (hh:Holds w (Rep w g) (g.mu k) (flat es++R)) (hmu:g'.mu k=g.mu k) (hv:es.length*sz≤g'.vis (g.mu k)) (hm: ∀v p,Rep w g v p→Rep w g' v p) (h:Rep w g' v (.ms true k 0 len)):Rep w g' v (.sl .no es):=by
 cases h with
 | gms _ _ _ cap hi hcap=>
  rw [hmu]
  have hfl:=J0b hsz
  obtain⟨cf,hcf⟩:=hh.pick
  have hin: ∀a b,a<es.length→b<sz→a*sz+b<es.length*sz:=fun a b ha hb=>J0n ha hb
  have key:=Rep.sl (w:=w) (g:=g') .no es (g.mu k) 0 sz cap (fun a b=>cf (a*sz+b)) rfl (fun h=>by cases h) (by omega) hsz (fun _=>by omega)
   (fun a b ha hb=>by
    have:=hin a b ha hb
    rw [Nat.zero_add]
    exact(hcf _ (by rw [List.length_append];omega)).1)
   (fun a b ha hb=>by
    have h1:=hin a b ha hb
    have h2:=(hcf _ (by rw [List.length_append];omega:a*sz+b<(flat es++R).length)).2
    rw [Q0j _ _ _ _ (by omega),W0n hsz _ h1] at h2
    have e1:(a*sz+b)/sz=a:=by rw [Nat.mul_comm,Nat.mul_add_div hp,Nat.div_eq_of_lt hb,Nat.add_zero]
    have e2:(a*sz+b) % sz=b:=by rw [Nat.mul_comm,Nat.mul_add_mod,Nat.mod_eq_of_lt hb]
    rw [e1,e2] at h2
    exact hm _ _ h2)
  rw [hl] at key
  exact key
end Go.Pv
end
section
/-A slice of known room in a slot,whose room (and that of the store's) is forgotten. -/
namespace Go.Pv
theorem Q2j {E:Ent} (s:PFS) (t k n c:Nat) (ht:s.pa.getD t .junk= .gr k n c) (st':Q0e) (hl:st'.length=s.st.length)
 (hs: ∀i,i<s.st.length→(st'.getD i []).length=(s.st.getD i []).length∧ ∀o,o<(s.st.getD i []).length→Un ((s.st.getD i []).getD o .junk) ((st'.getD i []).getD o .junk)):Weak E s { s with pa:=s.pa.set t (.ms true k 0 n),st:=st' } :=by
 intro a w g F h
 have ho:=h.store
 have hn:=ho.n
 refine⟨g,F,h.ext,⟨by rw [hn,hl],ho.inj,ho.lt,fun i hi hne=>ho.vis i hi fun e=>hne ?_,fun i hi j hj=> ?_,ho.none,ho.tab⟩,h.frame,h.defers,by simp [h.len],fun m hm=> ?_⟩
 · have:=(hs i (by omega)).1
   rw [e] at this
   exact List.eq_nil_of_length_eq_zero (by simpa using this)
 · obtain⟨q1,q2⟩:=hs i (by omega)
   rw [q1] at hj
   obtain⟨z1,c,z2,z3⟩:=ho.holds i hi j hj
   exact⟨z1,c,z2,(q2 j hj).rep z3⟩
 · simp only [List.length_set] at hm⊢
   by_cases e:t=m
   · subst e
     rw [Q0o _ _ _ _ hm]
     have:=h.tmps t hm
     rw [ht] at this
     generalize a.tmps.getD t undef=v at this⊢
     cases this with
     | base _ _ h'=>exact .base _ _ ((Un.gr k n c).rep h')
   · rw [Q0i _ _ _ _ _ e]
     exact h.tmps m hm
theorem G2v {P:Program} {E:Ent} {C:Code} {Q:Exit→PFS→Prop} {s:PFS} (t k n c:Nat) (ht:s.pa.getD t .junk= .gr k n c) (st':Q0e) (hl:st'.length=s.st.length)
 (hs: ∀i,i<s.st.length→(st'.getD i []).length=(s.st.getD i []).length∧ ∀o,o<(s.st.getD i []).length→Un ((s.st.getD i []).getD o .junk) ((st'.getD i []).getD o .junk)) (h:PWP P E C Q { s with pa:=s.pa.set t (.ms true k 0 n),st:=st' }):PWP P E C Q s:=X0z (Q2j s t k n c ht st' hl hs) h
theorem W1g {E:Ent} {s:PFS} (k t len sz:Nat) (es R:List PV) (hk:k<s.st.length) (ht:s.pa.getD t .junk= .ms true k 0 len)
 (he:s.st.getD k []=flat es++R) (hl:es.length=len) (hsz: ∀i,i<es.length→(es.getD i .junk).cells.length=sz) (hp:0<sz):Weak E s { s with pa:=s.pa.set t (.sl .no es),st:=s.st.set k [] } :=by
 intro a w g F h
 have hkn:k<g.n:=by rw [h.store.n];exact hk
 obtain⟨k1,k2⟩:=Z1v w g (g.mu k) (es.length*sz) (.inl (h.store.lt k hkn)) h.store.none
 let g':Gh:= { g with vis:=fun b=>if b=g.mu k then max (es.length*sz) (g.vis b) else g.vis b }
 obtain⟨f1,f2⟩:=h.frame.step k1 (fun i hi e=>h.frame.apart i hi k hkn e.symm) (fun i b hi hb e=>(h.frame.tapart i b hi hb).1 k hkn e.symm)
 have hm1: ∀v p,Rep w g v p→Rep w g' v p:=fun v p hr=>hr.mono k1.le
 have hh:=h.store.holds k hkn
 rw [he] at hh
 have hst:StoreOK w g' (s.st.set k []):=by
  refine⟨by simpa using h.store.n,h.store.inj,h.store.lt,fun j hj hj0=> ?_,fun j hj=> ?_,k2,h.store.tab.mono k1.le⟩
  · by_cases e:k=j
    · subst e;exact absurd (Z0q _ _) hj0
    · rw [Q0i _ _ _ _ _ e] at hj0
      have:g'.vis (g.mu j)=g.vis (g.mu j):=if_neg fun e'=>e (h.store.inj j k hj hkn e').symm
      exact this.trans (h.store.vis j hj hj0)
  · by_cases e:k=j
    · subst e
      rw [Z0q]
      intro j hj;simp at hj
    · rw [Q0i _ _ _ _ _ e]
      exact(h.store.holds j hj).mono rfl hm1
 refine⟨g',F,h.ext.step k1 (fun b hb=> ?_),hst,f1,h.defers,by simp [h.len],fun j hj=> ?_⟩
 · subst hb
   by_cases hin:k<E.g.n
   · exact .inr ⟨k,hin,(h.ext.le.mu k hin).symm⟩
   · exact .inl (h.ext.new k (by omega) hkn)
 · simp only [List.length_set] at hj⊢
   by_cases e:t=j
   · subst e
     rw [Q0o _ _ _ _ hj]
     have hv:=h.tmps t hj
     rw [ht] at hv
     generalize a.tmps.getD t undef=v at hv⊢
     cases hv with
     | base _ _ h'=>
      exact .base _ _ (K2t hsz hp hl hh rfl (by
       show _≤if g.mu k=g.mu k then max (es.length*sz) (g.vis (g.mu k)) else _
       rw [if_pos rfl];exact Nat.le_max_left _ _) hm1 (hm1 _ _ h'))
   · rw [Q0i _ _ _ _ _ e]
     exact f2 _ _ (h.tmps j hj)
end Go.Pv
end
