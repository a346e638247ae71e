/- Parts of the walk: PvZ, G1, PvAa, M10, M11, M12, G2, G3. -/
import Derived.Test.YtofoadghajnglaaGreatDoorRows
import Derived.Test.YtofoadghajnglaaGreatDoorQE
import Derived.ProofKit
import Derived.OpenShut
import Derived.JoinedCond
import Derived.ChangeSame
import Derived.Carry
set_option linter.unusedVariables false
set_option linter.unusedSimpArgs false
section
/-From the reading of arguments to pure values;from a law's contract to its statement. -/
namespace Go.Pv
open Go.Proofs Go.ChangeShapes Go.WideShapes Go.ChangeAt Go.RowKit
open Go.Proofs.YtofoadghajnglaaGreatDoor.Rows (uptoBulk uptoBulkAll)
def allG (w:World):Gh:=⟨0,fun _=>0,fun b=>match w.heap[b]? with | some (.cells c _ _)=>c.size | _=>0⟩
theorem Y2a {w:World} {b o:Nat} {c:Value} (h:w.cell? ⟨b,o,none⟩=some c):o<(allG w).vis b:=by
 unfold World.cell? at h
 simp only [allG]
 split at h
 · rename_i c' t f hh
   simp only at hh
   rw [hh]
   simp at h
   exact(Array.getElem?_eq_some_iff.1 h).1
 · cases h
theorem q1z (w:World) (ht:TabOK w (allG w)):StoreOK w (allG w) []:=by
 refine⟨rfl,fun i j hi=>by simp [allG] at hi,fun i hi=>by simp [allG] at hi,fun i hi=>by simp [allG] at hi,fun i hi=>by simp [allG] at hi,fun b hb=> ?_,ht⟩
 simp only [allG]
 rw [Array.getElem?_eq_none hb]
theorem V1t {H:Type} {d:DataW H} {l:List (DataW H)} (h:d∈l):uptoBulk d≤uptoBulkAll l:=by
 induction l with
 | nil=>cases h
 | cons x r ih=>
  simp only [uptoBulkAll]
  cases List.mem_cons.1 h with
  | inl e=>subst e;omega
  | inr e=>have:=ih e;omega
structure Ty (P:Program) (t:TypeId) (n:Nat) {α:Type} (enc:α→List PV) (ok:Nat→α→Prop):Prop where
 cells:P.cellsOf t=n
 len: ∀x,(enc x).length=n
 mono: ∀ {k k' x},ok k x→k≤k'→ok k' x
 rd: ∀ {H:Type} (tok:TypeId×Value→H) (w:World) (fuel:Nat) (cs:List Value) (x:DataW H×List MemPlace),
  DataW.trod tok P w 0 (fun _=>true) true fuel t cs=some x→ ∃y,cs.length=n∧(∀j,j<n→Rep w (allG w) (cs.getD j undef) ((enc y).getD j .junk))∧ok (uptoBulk x.1) y
section
variable {P:Program} {t e:TypeId}
def U3j (P:Program) (fl:List Field) (base n:Nat) {α:Type} (enc:α→List PV) (ok:Nat→α→Prop):Prop:=
 (∀x,(enc x).length=n)∧(∀ {k k' x},ok k x→k≤k'→ok k' x)∧
 ∀ {H:Type} (tok:TypeId×Value→H) (w:World) (fuel:Nat) (cs:List Value) (xs:List (DataW H×List MemPlace)),xs.length=fl.length→
  (∀(i:Nat) (f:Field),fl[i]?=some f→DataW.trod tok P w 0 (fun _=>true) true fuel f.type ((cs.drop f.offset).take (P.cellsOf f.type))=xs[i]?)→
  ∃y,(∀j,j<n→Rep w (allG w) (cs.getD (base+j) undef) ((enc y).getD j .junk))∧ok (uptoBulkAll (xs.map (·.1))) y
end
theorem H0n {H:Type} {enc:TypeId×Value→H} {P:Program} (hl:laidOutB P=true) {W W':World} (hb:Below W.heap.size W W') {sp:Nat→Bool} :
 ∀ {ts:List TypeId} {vs:List Value} {ds:List (DataW H)} {ps:List MemPlace},(∀t∈ts,P.readableRec t=true∧t<P.types.size)→DataW.TrodAll enc P W 0 (fun _=>true) true ts vs ds ps→
  (∀p∈ps,p.block<W.heap.size)→(∀p∈ps,sp p.block=true)→DataW.TrodAll enc P W' 0 sp true ts vs ds ps
 | [],_,_,_,hr,h,h1,h2=>by obtain⟨rfl,rfl,rfl⟩:=trodAll_nil h;exact trodAll_mk0
 | t::ts,_,_,_,hr,h,h1,h2=>by
  obtain⟨v,vs,d,ds,p,q,rfl,rfl,rfl,hd,hrest⟩:=trodAll_cons h
  refine⟨p,q,WideElems.Trod_stays hl (hr t List.mem_cons_self).1 (hr t List.mem_cons_self).2 hd (fun x hx=>hb.same (h1 x (List.mem_append_left _ hx))) (fun x hx=>h2 x (List.mem_append_left _ hx)),
   H0n hl hb (fun t ht=>hr t (List.mem_cons_of_mem _ ht)) hrest (fun x hx=>h1 x (List.mem_append_right _ hx)) (fun x hx=>h2 x (List.mem_append_right _ hx)),rfl⟩
theorem z1q {H:Type} {enc:TypeId×Value→H} {P:Program} {f:Func} {s:ChangeSpec} {apart fresh handsOn again:Bool} {W W':World} {args:Array Value} {ds gs:List (DataW H)} {before:List MemPlace} {tb:TypeId}
 (hl:laidOutB P=true) (hr: ∀t∈f.params.toList,P.readableRec t=true∧t<P.types.size) (hs:s.vars= [])
 (hW:DataW.Whole enc P f.params.toList s.vars apart W args.toList ds gs before) (hfn:s.fn H (ds++gs)= { results:= [.lit (.bool true)],args:=ds }) (hb:Below W.heap.size W W')
 (hres:f.resultTypes= #[tb]) (ht:P.underlying tb=some .bool):s.post enc P f apart fresh handsOn again W args (.bool true) W':=by
 have hlt: ∀p∈before,p.block<W.heap.size:=fun p hp=>hW.lt p hp
 have hW':=hW
 obtain⟨p,q,hA,hV,hpq,hz,hn⟩:=hW
 rw [hs] at hV
 obtain⟨rfl,rfl⟩:=trodVars_none hV
 rw [List.append_nil] at hpq
 subst hpq
 have hargs: ∀sp:Nat→Bool,(∀x∈before,sp x.block=true)→DataW.TrodAll enc P W' 0 sp true f.params.toList args.toList (s.fn H (ds++ [])).args before:=fun sp hsp=>by
  rw [hfn];exact H0n hl hb hr hA hlt hsp
 have hresT: ∀(b:Nat) (sp:Nat→Bool) (hd:Bool),DataW.TrodAll enc P W' b sp hd f.resultTypes.toList ((Value.bool true).resultList f.resultTypes.size) (s.fn H (ds++ [])).results []:=fun b sp hd=>by
  rw [hfn,hres];exact trodAll_mk1 (shut_bool ht _)
 have hvars: ∀sp:Nat→Bool,DataW.TrodVars enc P W' sp s.vars (s.fn H (ds++ [])).vars []:=fun sp=>by rw [hfn,hs];exact rfl
 refine⟨ds,[],before,[],before,[],hW',hresT _ _ _,hargs _ (fun x hx=>by simpa using hlt x hx),hvars _,World.keptBut_mono (fun x hx=>⟨hx,.inr (.inl hx)⟩) (hb.frame _),fun _=> ?_⟩
 refine⟨ok_one hres rfl (okWide_bool_mk ht _),_,_,([]++before)++ [],⟨[]++before,[],trodAll_append (hargs _ (fun _ _=>rfl)) (hresT _ _ _),hvars _,rfl,?_,?_⟩,?_⟩
 · intro b off hp
   have hp':MemPlace.cell b off∈before:=by simpa using hp
   rw [hb.frozen (p:=⟨b,off,none⟩) (hlt _ hp')]
   exact hz b off hp'
 · intro ha
   simpa using hn ha
 · intro x hx _
   simpa using hx
end Go.Pv
end
section
/-The types of the arguments:numbers,intervals,pieces. -/
namespace Go.Pv
open Go.Proofs
theorem x1x {H:Type} {l:List (DataW H)} (hk:Go.Proofs.YtofoadghajnglaaGreatDoor.Rows.uptoSmall H l=true):Go.Proofs.YtofoadghajnglaaGreatDoor.Rows.uptoBulkAll l≤1048576:=by
 simpa [Go.Proofs.YtofoadghajnglaaGreatDoor.Rows.uptoSmall] using hk
end Go.Pv
end
section
/-A box that a frame gives away:it becomes an object of the store. -/
namespace Go.Pv
def PV.giv1 (i n:Nat):PV→PV
 | .lp k off=>if k=i then .gp n off else .lp k off
 | .ms false k off len=>if k=i then .ms true n off len else .ms false k off len
 | p=>p
def PV.giv (i n:Nat):PV→PV
 | .agg l=> .agg (l.map (PV.giv1 i n))
 | .tup l=> .tup (l.map (PV.giv1 i n))
 | .fn f l m=> .fn f (l.map (PV.giv1 i n)) (m.map (PV.giv1 i n))
 | p=>p.giv1 i n
def PFS.give (i:Nat) (s:PFS):PFS:=
 ⟨s.pa.map (PV.giv i s.st.length),(s.L.map fun l=>l.map (PV.giv i s.st.length)).set i [],s.T,s.st++ [(s.L.getD i []).map PV.forget2]⟩
section
variable {w:World} {g g':Gh} {F:Fr} {T:List (Nat×Nat)} {i n:Nat}
theorem RepF.giv1 {v:Value} {p:PV} (hm: ∀v p,RepF w g F T v p→RepF w g' F T v p) (hn:n<g'.n) (hz:g'.mu n=F.lmu i) (h:RepF w g F T v p):RepF w g' F T v (p.giv1 i n):=by
 have h':=hm _ _ h
 cases p with
 | lp k off=>
  simp only [PV.giv1]
  split
  · rename_i e;subst e
    cases h' with
    | base _ _ h'=>cases h'
    | lp k off hi=>
     rw [←hz]
     exact .base _ _ (.gp n off hn)
  · exact h'
 | ms gl k off len=>
  cases gl with
  | true=>exact h'
  | false=>
   simp only [PV.giv1]
   split
   · rename_i e;subst e
     cases h' with
     | base _ _ h'=>cases h'
     | lms k off len cap hi hcap=>
      rw [←hz]
      exact .base _ _ (.gms n off len cap hn hcap)
   · exact h'
 | _=>exact h'
theorem RepF.giv {v:Value} {p:PV} (hm: ∀v p,RepF w g F T v p→RepF w g' F T v p) (hn:n<g'.n) (hz:g'.mu n=F.lmu i) (h:RepF w g F T v p):RepF w g' F T v (p.giv i n):=by
 have gm: ∀(l:List PV) (j:Nat),(l.map (PV.giv1 i n)).getD j .junk=(l.getD j .junk).giv1 i n:=fun l j=>X0y rfl l j
 cases p with
 | agg l=>
  cases h with
  | base _ _ h=>
   cases h with
   | agg vs cs' hl h=>exact .agg vs _ (by simpa using hl) fun j hj=>by rw [gm];exact RepF.giv1 hm hn hz (.base _ _ (h j (by simpa using hj)))
  | agg vs cs' hl h=>exact .agg vs _ (by simpa using hl) fun j hj=>by rw [gm];exact RepF.giv1 hm hn hz (h j (by simpa using hj))
 | tup l=>
  cases h with
  | base _ _ h=>
   cases h with
   | tup vs cs' hl h=>exact .tup vs _ (by simpa using hl) fun j hj=>by rw [gm];exact RepF.giv1 hm hn hz (.base _ _ (h j (by simpa using hj)))
  | tup vs cs' hl h=>exact .tup vs _ (by simpa using hl) fun j hj=>by rw [gm];exact RepF.giv1 hm hn hz (h j (by simpa using hj))
 | fn f l m=>
  cases h with
  | base _ _ h=>
   cases h with
   | fn f us vs bs cs' hk hl h0 h=>
    exact .fn f us vs _ _ (by simpa using hk) (by simpa using hl) (fun j hj=>by rw [gm];exact RepF.giv1 hm hn hz (.base _ _ (h0 j (by simpa using hj)))) fun j hj=>by rw [gm];exact RepF.giv1 hm hn hz (.base _ _ (h j (by simpa using hj)))
  | fn f us vs bs cs' hk hl h0 h=>
   exact .fn f us vs _ _ (by simpa using hk) (by simpa using hl) (fun j hj=>by rw [gm];exact RepF.giv1 hm hn hz (h0 j (by simpa using hj))) fun j hj=>by rw [gm];exact RepF.giv1 hm hn hz (h j (by simpa using hj))
 | _=>exact RepF.giv1 hm hn hz h
end
theorem j1n {E:Ent} {s:PFS} (i:Nat) (hi:s.freezeOK i) (hne:s.L.getD i []≠ []):Weak E s (s.give i):=by
 intro a w g F h
 obtain⟨l1,l2,l3⟩:=h.frame.lo i hne
 have hall:=List.all_eq_true.1 hi
 let g':Gh:= { g with n:=g.n+1,mu:=fun k=>if k=g.n then F.lmu i else g.mu k }
 have hmu: ∀k,k<g.n→g'.mu k=g.mu k:=fun k hk=>if_neg (by omega)
 have hmun:g'.mu g.n=F.lmu i:=if_pos rfl
 have hLe:Le w g w g':=⟨Nat.le_succ _,hmu,fun _=>Nat.le_refl _,fun _ _ _ _ hc=>hc⟩
 have htok:W1c w g F s.T w g' F s.T:=⟨Nat.le_refl _,fun k hk=>⟨Nat.le_refl _,fun _ v es hR=>hR.mono fun b hb=>⟨rfl,rfl⟩⟩⟩
 have hm: ∀v p,RepF w g F s.T v p→RepF w g' F s.T v p:=fun v p hr=>hr.mono hLe (Nat.le_refl _) (fun _ _=>rfl) htok
 have en:s.st.length=g.n:=h.store.n.symm
 have hf: ∀v p,RepF w g F s.T v p→RepF w g' F s.T v (p.giv i s.st.length):=fun v p hp=>RepF.giv hm (by rw [en];exact Nat.lt_succ_self _) (by rw [en];exact hmun) hp
 have hL: ∀k,((s.L.map fun l=>l.map (PV.giv i s.st.length)).set i []).getD k []≠ []→k≠i∧s.L.getD k []≠ []∧((s.L.map fun l=>l.map (PV.giv i s.st.length)).set i []).getD k []=(s.L.getD k []).map (PV.giv i s.st.length):=fun k hk=>by
  by_cases hki:i=k
  · subst hki
    exfalso;apply hk
    exact J0z _ _
  · have e:((s.L.map fun l=>l.map (PV.giv i s.st.length)).set i []).getD k []=(s.L.getD k []).map (PV.giv i s.st.length):=by
     rw [←U0h (f:=fun l=>l.map (PV.giv i s.st.length)) rfl]
     simp [List.getD_eq_getElem?_getD,List.getElem?_set_ne hki]
    exact⟨fun e=>hki e.symm,fun e0=>hk (by rw [e,e0];rfl),e⟩
 have hst0: ∀j,j<g.n→(s.st++ [(s.L.getD i []).map PV.forget2]).getD j []=s.st.getD j []:=fun j hj=>by
  rw [List.getD_eq_getElem?_getD,List.getElem?_append_left (by omega),←List.getD_eq_getElem?_getD]
 have hst1:(s.st++ [(s.L.getD i []).map PV.forget2]).getD g.n []=(s.L.getD i []).map PV.forget2:=by
  rw [List.getD_eq_getElem?_getD,List.getElem?_append_right (by omega),←en];simp
 have hst:StoreOK w g' (s.st++ [(s.L.getD i []).map PV.forget2]):=by
  refine⟨by simp [g',h.store.n],fun j k hj hk e=> ?_,fun j hj=> ?_,fun j hj hj0=> ?_,fun j hj=> ?_,h.store.none,h.store.tab⟩
  · have hj:j<g.n+1:=hj
    have hk:k<g.n+1:=hk
    by_cases e1:j=g.n
    · by_cases e2:k=g.n
      · omega
      · rw [e1,hmun,hmu k (by omega)] at e
        exact absurd e.symm (h.frame.apart i hne k (by omega))
    · by_cases e2:k=g.n
      · rw [e2,hmun,hmu j (by omega)] at e
        exact absurd e (h.frame.apart i hne j (by omega))
      · rw [hmu j (by omega),hmu k (by omega)] at e
        exact h.store.inj j k (by omega) (by omega) e
  · have hj:j<g.n+1:=hj
    by_cases e1:j=g.n
    · rw [e1,hmun];exact l2
    · rw [hmu j (by omega)];exact h.store.lt j (by omega)
  · have hj:j<g.n+1:=hj
    by_cases e1:j=g.n
    · rw [e1,hmun];exact l3
    · rw [hmu j (by omega)]
      rw [hst0 j (by omega)] at hj0
      exact h.store.vis j (by omega) hj0
  · have hj:j<g.n+1:=hj
    by_cases e1:j=g.n
    · subst e1
      rw [hmun,hst1]
      intro k hk
      have hk':k<(s.L.getD i []).length:=by simpa using hk
      obtain⟨q1,c,q2,q3⟩:=h.frame.holds i hne k hk'
      refine⟨q1,c,q2,?_⟩
      have e:((s.L.getD i []).map PV.forget2).getD k .junk=((s.L.getD i []).getD k .junk).forget2:=X0y (f:=PV.forget2) rfl _ _
      rw [e]
      exact(hm _ _ q3).forget2 (Bool.and_eq_true_iff.1 (hall _ (Q0m _ _ _ hk'))).1
    · rw [hmu j (by omega),hst0 j (by omega)]
      exact(h.store.holds j (by omega)).mono rfl fun v p hr=>hr.mono hLe
 have hext:Ext E.w E.g w g':=by
  refine⟨h.ext.le.trans hLe,h.ext.os,h.ext.tape,h.ext.output,h.ext.size,h.ext.old,fun j h1 h2=> ?_⟩
  have h2:j<g.n+1:=h2
  by_cases e1:j=g.n
  · rw [e1,hmun];exact l1
  · rw [hmu j (by omega)];exact h.ext.new j h1 (by omega)
 refine⟨g',F,⟨hext,hst,⟨by simp [PFS.give,h.frame.nl],fun k hk=> ?_,fun k hk j hj=> ?_,fun k j hk hj=> ?_,fun k hk=> ?_,h.frame.tlo,fun k b hk hb=>⟨fun j hj=> ?_,fun j hj=> ?_⟩,h.frame.tinj⟩,h.defers,by simp [PFS.give,h.len],fun t ht=> ?_⟩⟩
 · exact h.frame.lo k (hL k hk).2.1
 · have hj:j<g.n+1:=hj
   obtain⟨h1,h2,h3⟩:=hL k hk
   by_cases e1:j=g.n
   · rw [e1,hmun];exact fun e=>h1 (h.frame.inj k i h2 hne e.symm)
   · rw [hmu j (by omega)];exact h.frame.apart k h2 j (by omega)
 · exact h.frame.inj k j (hL k hk).2.1 (hL j hj).2.1
 · obtain⟨h1,h2,h3⟩:=hL k hk
   show Holds w _ _ (((s.L.map fun l=>l.map (PV.giv i s.st.length)).set i []).getD k [])
   rw [h3]
   intro j hj
   obtain⟨q1,c,q2,q3⟩:=h.frame.holds k h2 j (by simpa using hj)
   exact⟨q1,c,q2,by rw [X0y (f:=PV.giv i s.st.length) rfl];exact hf _ _ q3⟩
 · have hj:j<g.n+1:=hj
   by_cases e1:j=g.n
   · rw [e1,hmun];exact(h.frame.tapart k b hk hb).2 i hne
   · rw [hmu j (by omega)];exact(h.frame.tapart k b hk hb).1 j (by omega)
 · exact(h.frame.tapart k b hk hb).2 j (hL j hj).2.1
 · simp only [PFS.give] at ht⊢
   show RepF w g' F s.T _ ((s.pa.map (PV.giv i s.st.length)).getD t .junk)
   rw [X0y (f:=PV.giv i s.st.length) rfl]
   exact hf _ _ (h.tmps t (by simpa using ht))
@[go_sem] theorem H3d {i:Nat} {pa:List PV} {L st:Q0c} {T:List (Nat×Nat)} :(PFS.mk pa L T st).give i=⟨pa.map (PV.giv i st.length),(L.map fun l=>l.map (PV.giv i st.length)).set i [],T,st++ [(L.getD i []).map PV.forget2]⟩:=(rfl)
attribute [go_sem] PV.giv PV.giv1
@[go_sem] theorem j3b {ps:List PV} {b:List Bool} {p:PV} :noL (false::b) (p::ps)=p::noL b ps:=(rfl)
theorem K0c {P:Program} {E:Ent} {c:Code} {Q:Exit→PFS→Prop} {s:PFS} (i:Nat) (hi:s.freezeOK i) (hne:s.L.getD i []≠ []) (h:PWP P E c Q (s.give i)):PWP P E c Q s:=K0u (j1n i hi hne) h
end Go.Pv
end
section
/-The document's values as numbers. No program in it. -/
namespace Go.Pv
def numV (v:Vl):Nm×Int:=
 if v.m=0 then(default,0) else if 64<(Q0k v.m).length∨v.e< -65536∨65536<v.e then(default,2) else(⟨v.neg,v.e,Q0k v.m⟩,0)
def okV (v:Vl):Prop:=v.m % 2=1∨v.m=0
theorem H0m (l:List UInt64):valW l % 2=(l.getD 0 0).toNat % 2:=by
 cases l with
 | nil=>rfl
 | cons x l=>
  have:=J0u [x] l
  have h1:valW [x]=x.toNat:=by simp [valW,nW,val]
  rw [show x::l= [x]++l from rfl,this,h1]
  simp only [List.length_singleton,List.singleton_append,List.getD_cons_zero,Nat.pow_one]
  omega
theorem K0s :Q0i (default:Nm)=true:=by decide
theorem V0p {v:Vl} (h:okV v):Q0i (numV v).1=true:=by
 unfold numV
 split
 · exact K0s
 · rename_i h0
   split
   · exact K0s
   · rename_i h1
     have hw:Q0k v.m≠ []:=fun e=>h0 (wordsOf_nil.1 e)
     unfold Q0i
     rw [if_neg hw,V0d]
     have h2:=H0m (Q0k v.m)
     rw [Q0t] at h2
     have h3:v.m % 2=1:=h.resolve_right h0
     simp only [Bool.and_eq_true,decide_eq_true_eq]
     refine⟨⟨⟨⟨trivial,?_⟩,?_⟩,?_⟩,?_⟩<;>omega
theorem q2u {x:Nm} (h:Q0i x=true):okV (ofN x):=by
 unfold okV ofN
 simp only
 by_cases hw:x.w= []
 · rw [hw];exact .inr rfl
 · unfold Q0i at h
   rw [if_neg hw] at h
   simp only [Bool.and_eq_true,decide_eq_true_eq] at h
   exact .inl (by rw [H0m];exact h.1.1.2)
theorem H1k (e:Int):mkV 0 e=⟨false,0,0⟩:=by simp [mkV,oddV]
theorem natAbs_pow (s:Int) (j:Nat):(s*2^j).natAbs=s.natAbs*2^j:=by
 rw [Int.natAbs_mul,Int.natAbs_pow];rfl
theorem X2g (m j:Nat) (h:m≠0):tz (m*2^j)=tz m+j:=by
 obtain⟨q,hq,e⟩:=z0h m h
 have:m*2^j=2^(tz m+j)*q:=by
  conv=>lhs;rw [e]
  rw [Nat.pow_add,Nat.mul_assoc,Nat.mul_assoc,Nat.mul_comm q]
 rw [this,G1a _ _ hq]
end Go.Pv
end
section
/-Tubes that are built piece by piece. No program in it. -/
namespace Go.Pv
theorem Q0x {x:Nm} (h:Q0i x=true):wN x:=j0w (Z0q h)
theorem k1r {x:Ivl} (h:Q0v x=true):wI x:=⟨Q0x (Z0a h).1,Q0x (Z0a h).2.1⟩
theorem Y1b {a:Nm} (ha:Q0i a=true):Q0v ⟨a,a⟩=true:=k0h ha ha (by have:=U0o a;simp only;omega)
theorem k1s {b:List Ivl} (h:rightB b=true):wB b:=⟨by have:=z0n h;omega,fun i hi=>k1r (z1k h i hi)⟩
end Go.Pv
end
section
/-A law whose calls leave objects behind;one argument that is a slice of words. -/
set_option maxRecDepth 100000
namespace Go.Pv
open Go Go.Proofs Go.ChangeShapes Go.WideShapes Go.ChangeAt Go.RowKit
theorem U1n {P:Program} {f:FuncId} {vs:Array Value} {ps:List PV} {w:World} (ht:TabOK w (allG w)) (h:PCalls P f ps [] (fun r st'=>r= .sc (.bool true))) (hr:Reps w (allG w) vs ps):
 Calls P f vs w (fun e w'=>e= .returned (.bool true)∧Below w.heap.size w w'):=by
 refine(h w (allG w) vs (q1z w ht) hr).mono ?_
 rintro e w' ⟨v,g',r,st,rfl,hx,hs,hrr,rfl⟩
 refine⟨?_,hx.os,hx.tape,hx.output,hx.size,fun k hk=>(hx.old k hk (fun i hi=>by simp [allG] at hi)).1⟩
 have:Rep w' g' v (.sc (.bool true)):=hrr
 rw [this.sc_inv]
theorem v1j :ownKnob Tryz.prog.godebug=none:=by kernel_rfl
theorem Y1r :laidOutB Tryz.prog=true:=by kernel_rfl
end Go.Pv
end
section
/-Reading the arguments of a law,one by one. -/
set_option maxRecDepth 100000
namespace Go.Pv
open Go Go.Proofs Go.ChangeShapes Go.WideShapes Go.ChangeAt Go.RowKit Go.Proofs.YtofoadghajnglaaGreatDoor.Rows
section
variable {P:Program} {t e:TypeId} {W:World} {base:Nat} {v:Value} {H:Type} {tok:TypeId×Value→H} {d:DataW H} {p:List MemPlace}
theorem j2v (hu:P.underlying t=some (.int .u16)) (hv:Value.okWide P W .any base t v) (hd:DataW.Trod tok P W 0 (fun _=>true) true t v d p):
 ∃n:Nat,v= .int .u16 n∧n<65536:=by
 obtain⟨n,rfl,_,_,hw⟩:=open_int hu hv hd
 have hr:0≤n∧n≤65535:=by simpa [Lit.wf,IntKind.min,IntKind.max,IntKind.signed,IntKind.bits] using hw
 exact⟨n.toNat,by rw [Int.toNat_of_nonneg hr.1],by omega⟩
theorem X3q (hu:P.underlying t=some (.int .u8)) (hv:Value.okWide P W .any base t v) (hd:DataW.Trod tok P W 0 (fun _=>true) true t v d p):
 ∃n:Nat,v= .int .u8 n∧n<256:=by
 obtain⟨n,rfl,_,_,hw⟩:=open_int hu hv hd
 have hr:0≤n∧n≤255:=by simpa [Lit.wf,IntKind.min,IntKind.max,IntKind.signed,IntKind.bits] using hw
 exact⟨n.toNat,by rw [Int.toNat_of_nonneg hr.1],by omega⟩
end
end Go.Pv
end
