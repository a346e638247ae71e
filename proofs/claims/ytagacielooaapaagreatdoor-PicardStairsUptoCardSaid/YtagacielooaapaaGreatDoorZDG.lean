/- Parts of the walk: PvBa, N105. -/
import Derived.Test.YtagacielooaapaaGreatDoorZBD
import Derived.Test.YtagacielooaapaaGreatDoorZBN
import Derived.Test.YtagacielooaapaaGreatDoorZL
import Derived.Test.YtagacielooaapaaGreatDoorZDB
set_option linter.unusedVariables false
set_option linter.unusedSimpArgs false
section
/-An object of the store that is written no more:within the elements of slices,too,it becomes a plain slice. -/
namespace Go.Pv
def PV.frzD (k:Nat) (cs:List PV):PV→PV
 | .sl .no es=> .sl .no (es.map (PV.frzG k cs))
 | p=>p.frzG k cs
section
variable {w:World} {g g':Gh} {F:Fr} {T:List (Nat×Nat)} {k:Nat} {cs:List PV}
theorem Rep.frzG1 {v:Value} {p:PV} (hk:k<g'.n) (hm: ∀v p,Rep w g v p→Rep w g' v p) (hz:SolidG w g' k cs) (h:Rep w g v p):Rep w g' v (p.frzG1 k cs):=by
 have h':=hm _ _ h
 cases p with
 | ms gl k' off len=>
  cases gl with
  | false=>exact h'
  | true=>
   simp only [PV.frzG1]
   split
   · rename_i e
     obtain⟨rfl,hle⟩:=e
     exact hz.sl _ _ _ hk h' hle
   · exact h'
 | _=>exact h'
theorem Rep.frzG {v:Value} {p:PV} (hk:k<g'.n) (hm: ∀v p,Rep w g v p→Rep w g' v p) (hz:SolidG w g' k cs) (h:Rep w g v p):Rep w g' v (p.frzG k cs):=by
 have gm: ∀(l:List PV) (j:Nat),(l.map (PV.frzG1 k cs)).getD j .junk=(l.getD j .junk).frzG1 k cs:=fun l j=>Q0w rfl l j
 cases p with
 | agg l=>
  cases h with
  | agg vs cs' hl h=>exact .agg vs _ (by simpa using hl) fun j hj=>by rw [gm];exact Rep.frzG1 hk hm hz (h j (by simpa using hj))
 | tup l=>
  cases h with
  | tup vs cs' hl h=>exact .tup vs _ (by simpa using hl) fun j hj=>by rw [gm];exact Rep.frzG1 hk hm hz (h j (by simpa using hj))
 | fn f l m=>
  cases h with
  | fn f us vs bs cs' hk' hl h0 h=>
   exact .fn f us vs _ _ (by simpa using hk') (by simpa using hl) (fun j hj=>by rw [gm];exact Rep.frzG1 hk hm hz (h0 j (by simpa using hj))) fun j hj=>by rw [gm];exact Rep.frzG1 hk hm hz (h j (by simpa using hj))
 | _=>exact Rep.frzG1 hk hm hz h
theorem Y1j {p:PV} {j:Nat} (hj:j<p.cells.length):(p.frzG k cs).cells.length=p.cells.length∧((p.frzG k cs).cells.getD j .junk=(p.cells.getD j .junk).frzG1 k cs∨(p.frzG k cs).cells.getD j .junk=(p.cells.getD j .junk).frzG k cs):=by
 have gm: ∀(l:List PV) (j:Nat),(l.map (PV.frzG1 k cs)).getD j .junk=(l.getD j .junk).frzG1 k cs:=fun l j=>Q0w rfl l j
 cases p with
 | agg l=>exact⟨by simp [PV.frzG,PV.cells],.inl (gm l j)⟩
 | ms gl k' off len=>
  have:j=0:=by simp [PV.cells] at hj;omega
  subst this
  refine⟨?_,.inr ?_⟩
  · cases gl with
    | false=>rfl
    | true=>show(PV.frzG1 k cs (.ms true k' off len)).cells.length=1;simp only [PV.frzG1];split<;>rfl
  · cases gl with
    | false=>rfl
    | true=>
     show(PV.frzG1 k cs (.ms true k' off len)).cells.getD 0 .junk=PV.frzG1 k cs (.ms true k' off len)
     simp only [PV.frzG1]
     split<;>rfl
 | _=>
  have:j=0:=by simp [PV.cells] at hj;omega
  subst this
  exact⟨rfl,.inr rfl⟩
theorem Rep.frzD {v:Value} {p:PV} (hk:k<g'.n) (hm: ∀v p,Rep w g v p→Rep w g' v p) (hv: ∀b,g.vis b≤g'.vis b) (hz:SolidG w g' k cs) (h:Rep w g v p):Rep w g' v (p.frzD k cs):=by
 cases p with
 | sl t es=>
  cases t with
  | no=>
   show Rep w g' v (.sl .no (es.map (PV.frzG k cs)))
   have gm: ∀i,i<es.length→(es.map (PV.frzG k cs)).getD i .junk=(es.getD i .junk).frzG k cs:=fun i hi=>by simp [List.getD_eq_getElem?_getD,hi]
   cases h with
   | nil t ad ht=>exact .nil .no ad rfl
   | sl t es b off sz cap cf ht hfull hcap hsz hvis hc hr=>
    have hlen:(es.map (PV.frzG k cs)).length=es.length:=by simp
    have key:=Rep.sl (w:=w) (g:=g') .no (es.map (PV.frzG k cs)) b off sz cap cf rfl (fun h=>by cases h) (by rw [hlen];exact hcap) (fun i hi=> ?_) (fun h0=> ?_) (fun i j hi hj=> ?_) (fun i j hi hj=> ?_)
    · rw [hlen] at key;exact key
    · rw [hlen] at hi
      rw [gm i hi]
      by_cases h0:0<(es.getD i .junk).cells.length
      · rw [(Y1j h0).1];exact hsz i hi
      · have e:=hsz i hi
        generalize es.getD i .junk=p at h0 e
        cases p with
        | agg l=>simp [PV.cells] at h0 e;subst h0;simp [PV.frzG,PV.cells];exact e
        | _=>simp [PV.cells] at h0
    · rw [hlen] at h0⊢;exact Nat.le_trans (hvis h0) (hv b)
    · rw [hlen] at hi;exact hc i j hi hj
    · rw [hlen] at hi
      rw [gm i hi]
      have hr1:=hr i j hi hj
      rcases (Y1j (k:=k) (cs:=cs) (p:=es.getD i .junk) (j:=j) (by rw [hsz i hi];exact hj)).2 with e | e
      · rw [e];exact Rep.frzG1 hk hm hz hr1
      · rw [e];exact Rep.frzG hk hm hz hr1
  | _=>exact Rep.frzG hk hm hz h
 | _=>exact Rep.frzG hk hm hz h
theorem RepF.frzD {v:Value} {p:PV} (hk:k<g'.n) (hm: ∀v p,RepF w g F T v p→RepF w g' F T v p) (hm': ∀v p,Rep w g v p→Rep w g' v p) (hv: ∀b,g.vis b≤g'.vis b) (hz:SolidG w g' k cs) (h:RepF w g F T v p):RepF w g' F T v (p.frzD k cs):=by
 cases p with
 | sl t es=>
  cases t with
  | no=>
   cases h with
   | base _ _ h=>exact .base _ _ (Rep.frzD hk hm' hv hz h)
  | _=>exact RepF.frzG hk hm hz h
 | _=>exact RepF.frzG hk hm hz h
end
def PFS.freezeD (k:Nat) (s:PFS):PFS:=⟨s.pa.map (PV.frzD k (s.st.getD k [])),s.L.map fun l=>l.map (PV.frzD k (s.st.getD k [])),s.T,s.st.set k []⟩
theorem H1z {E:Ent} {s:PFS} (k:Nat) (hk:k<s.st.length) (hc: ∀p∈s.st.getD k [],p.cells= [p]) (h0:s.st.getD k []≠ []):Weak E s (s.freezeD k):=by
 intro a w g F h
 have hkn:k<g.n:=by rw [h.store.n];exact hk
 obtain⟨k1,k2⟩:=H1j w g (g.mu k) (s.st.getD k []).length (.inl (h.store.lt k hkn)) h.store.none
 let g':Gh:= { g with vis:=fun c=>if c=g.mu k then max (s.st.getD k []).length (g.vis c) else g.vis c }
 obtain⟨f1,f2⟩:=h.frame.step k1 (fun i hi e=>h.frame.apart i hi k hkn e.symm) (fun i b hi hb e=>(h.frame.tapart i b hi hb).1 k hkn e.symm)
 have hst:StoreOK w g' (s.st.set k []):=by
  refine⟨by simpa using h.store.n,h.store.inj,h.store.lt,fun j hj hj0=> ?_,fun j hj=> ?_,k2,h.store.tab.mono k1.le⟩
  · by_cases e:k=j
    · subst e;exact absurd (X0q _ _) hj0
    · rw [Q0q _ _ _ _ _ e] at hj0
      have:g'.vis (g.mu j)=g.vis (g.mu j):=if_neg fun e'=>e (h.store.inj j k hj hkn e').symm
      exact this.trans (h.store.vis j hj hj0)
  · by_cases e:k=j
    · subst e
      rw [X0q]
      intro j hj;simp at hj
    · rw [Q0q _ _ _ _ _ e]
      exact(h.store.holds j hj).mono rfl fun v p hr=>hr.mono k1.le
 have hz:SolidG w g' k (s.st.getD k []):=⟨fun v off len hkg hv hlen=>by
  cases hv with
  | gms _ _ _ cap hi hcap=>
   have hh:=h.store.holds k hkn
   have hex: ∀j,j<(s.st.getD k []).length→ ∃c,w.cell? ⟨g.mu k,j,none⟩=some c∧Rep w g c ((s.st.getD k []).getD j .junk):=fun j hj=>by
    obtain⟨_,c,q1,q2⟩:=hh j hj;exact⟨c,q1,q2⟩
   let cf:Nat→Value:=fun j=>if hj:j<(s.st.getD k []).length then(hex j hj).choose else undef
   have hcf: ∀j,j<(s.st.getD k []).length→w.cell? ⟨g.mu k,j,none⟩=some (cf j)∧Rep w g (cf j) ((s.st.getD k []).getD j .junk):=fun j hj=>by
    simp only [cf,dif_pos hj];exact(hex j hj).choose_spec
   have hl:(((s.st.getD k []).drop off).take len).length=len:=by rw [List.length_take,List.length_drop];omega
   have hg: ∀j,j<len→(((s.st.getD k []).drop off).take len).getD j .junk=(s.st.getD k []).getD (off+j) .junk:=fun j hj=>by
    simp [List.getD_eq_getElem?_getD,List.getElem?_take,hj,List.getElem?_drop]
   have hone: ∀j,j<len→((s.st.getD k []).getD (off+j) .junk).cells= [(s.st.getD k []).getD (off+j) .junk]:=fun j hj=>hc _ (Q0t _ _ _ (by omega))
   have:=Rep.sl (w:=w) (g:=g') .no (((s.st.getD k []).drop off).take len) (g.mu k) off 1 cap (fun a b=>cf (off+a)) rfl (fun h=>by cases h) (by omega)
    (fun j hj=>by rw [hg j (by omega),hone j (by omega)];rfl)
    (fun _=>by
     show _≤if g.mu k=g.mu k then max (s.st.getD k []).length (g.vis (g.mu k)) else _
     rw [if_pos rfl]
     have:=Nat.le_max_left (s.st.getD k []).length (g.vis (g.mu k))
     omega)
    (fun j k2 hj hk2=>by
     have:k2=0:=by omega
     subst this
     simpa using(hcf (off+j) (by omega)).1)
    (fun j k2 hj hk2=>by
     have:k2=0:=by omega
     subst this
     rw [hg j (by omega),hone j (by omega)]
     exact(hcf (off+j) (by omega)).2.mono k1.le)
   rw [hl] at this
   exact this⟩
 have hf: ∀v p,RepF w g F s.T v p→RepF w g' F s.T v (p.frzD k (s.st.getD k [])):=fun v p hp=>RepF.frzD hkn (fun _ _ h=>f2 _ _ h) (fun _ _ h=>h.mono k1.le) k1.le.vis hz hp
 have hL: ∀i,(s.L.map fun l=>l.map (PV.frzD k (s.st.getD k []))).getD i []=(s.L.getD i []).map (PV.frzD k (s.st.getD k [])):=fun i=>K0r (f:=fun l=>l.map (PV.frzD k (s.st.getD k []))) rfl _ _
 have hLn: ∀i,(s.L.map fun l=>l.map (PV.frzD k (s.st.getD k []))).getD i []≠ []→s.L.getD i []≠ []:=fun i hi e=>hi (by rw [hL,e];rfl)
 refine⟨g',F,h.ext.step k1 (fun b hb=> ?_),hst,⟨by simp [PFS.freezeD,f1.nl],fun i hi=>f1.lo i (hLn i hi),fun i hi=>f1.apart i (hLn i hi),fun i j hi hj=>f1.inj i j (hLn i hi) (hLn j hj),fun i hi=> ?_,f1.tlo,fun i b hi hb=>⟨(f1.tapart i b hi hb).1,fun j hj=>(f1.tapart i b hi hb).2 j (hLn j hj)⟩,f1.tinj⟩,h.defers,by simp [PFS.freezeD,h.len],fun j hj=> ?_⟩
 · subst hb
   by_cases hin:k<E.g.n
   · exact .inr ⟨k,hin,(h.ext.le.mu k hin).symm⟩
   · exact .inl (h.ext.new k (by omega) hkn)
 · show Holds w _ (F.lmu i) ((s.L.map fun l=>l.map (PV.frzD k (s.st.getD k []))).getD i [])
   rw [hL]
   intro j hj
   obtain⟨q1,c,q2,q3⟩:=h.frame.holds i (hLn i hi) j (by simpa using hj)
   exact⟨q1,c,q2,by rw [Q0w (f:=PV.frzD k _) rfl];exact hf _ _ q3⟩
 · simp only [PFS.freezeD,List.length_map] at hj⊢
   rw [Q0w (f:=PV.frzD k _) rfl]
   exact hf _ _ (h.tmps j hj)
theorem v1c {P:Program} {E:Ent} {c:Code} {Q:Exit→PFS→Prop} {s:PFS} (k:Nat) (hk:k<s.st.length) (hc: ∀p∈s.st.getD k [],p.cells= [p]) (h0:s.st.getD k []≠ [])
 (h:PWP P E c Q (s.freezeD k)):PWP P E c Q s:=J0t (H1z k hk hc h0) h
@[go_sem] theorem H3n {k:Nat} {pa:List PV} {L st:Q0e} {T:List (Nat×Nat)} :(PFS.mk pa L T st).freezeD k=⟨pa.map (PV.frzD k (st.getD k [])),L.map fun l=>l.map (PV.frzD k (st.getD k [])),T,st.set k []⟩:=(rfl)
@[go_sem] theorem k3h {k:Nat} {cs:List PV} :PV.frzD k cs .junk= .junk:=(rfl)
@[go_sem] theorem Y4p {k:Nat} {cs:List PV} {v:Value} :PV.frzD k cs (.sc v)=(.sc v):=(rfl)
@[go_sem] theorem Y4q {k:Nat} {cs:List PV} {i o:Nat} :PV.frzD k cs (.lp i o)=(.lp i o):=(rfl)
@[go_sem] theorem Y4r {k:Nat} {cs:List PV} {i o:Nat} :PV.frzD k cs (.gp i o)=(.gp i o):=(rfl)
@[go_sem] theorem Z4t {k m:Nat} {cs:List PV} {es:List PV} :PV.frzD k cs (.sl (.own m) es)= .sl (.own m) es:=(rfl)
@[go_sem] theorem Z4u {k:Nat} {cs:List PV} {i o n:Nat} :PV.frzD k cs (.ms false i o n)=(.ms false i o n):=(rfl)
end Go.Pv
end
section
/-The seat's stairs:the powers are objects of the store for as long as they are written. -/
set_option maxRecDepth 100000
namespace Go.Pv
open Go.Proofs
def K0u (l:List (Nm×Nat×Nat)):List PV:=l.map fun c=>(.agg (encN c.1++ [.ms true c.2.1 0 c.2.2]))
@[go_sem] theorem J3i (l:List (Nm×Nat×Nat)):(K0u l).length=l.length:=by simp [K0u]
@[go_sem] theorem q2o :K0u []= []:=(rfl)
@[go_sem] theorem J4b (l:List (Nm×Nat×Nat)):(K0u l).all (fun x=>x.cells.length==4)=true:=by simp [K0u,PV.cells,encN]
@[go_sem] theorem J4c (l:List (Nm×Nat×Nat)):(K0u l).all (fun x=>(x.cells.length==4)&&x.cells.all PV.cellOK)=true:=by simp [K0u,PV.cells,PV.cellOK,Value.oneCell',encN]
@[go_sem] theorem q3r (l:List (Nm×Nat×Nat)) (n:Nat):(K0u l).take n=K0u (l.take n):=by simp [K0u]
@[go_sem] theorem q3s (l:List (Nm×Nat×Nat)) (n:Nat):(K0u l).drop n=K0u (l.drop n):=by simp [K0u]
@[go_sem] theorem w3e (l m:List (Nm×Nat×Nat)):K0u l++K0u m=K0u (l++m):=by simp [K0u]
@[go_sem] theorem V2l (l:List (Nm×Nat×Nat)) (c:(Nm×Nat×Nat)):K0u l++ [.agg (encN c.1++ [.ms true c.2.1 0 c.2.2])]=K0u (l++ [c]):=by simp [K0u]
theorem q2p (l:List (Nm×Nat×Nat)) (n:Nat) (h:n<l.length):(K0u l).getD n .junk= .agg (encN (l.getD n default).1++ [.ms true (l.getD n default).2.1 0 (l.getD n default).2.2]):=by
 simp [K0u,List.getD_eq_getElem?_getD,h]
@[go_sem] theorem w3d (l:List (Nm×Nat×Nat)) (i:Nat) (cs:List PV):(K0u l).map (PV.frz i cs)=K0u l:=by
 simp only [K0u,List.map_map]
 exact List.map_congr_left fun a _=>rfl
theorem j1d (l:List Int):(encZ l).map PV.forget2=encZ l:=by
 simp only [encZ,List.map_map]
 exact List.map_congr_left fun a _=>rfl
set_option maxHeartbeats 4000000 in
theorem U2l (l:List UInt64) (i k n D:Nat) (st:Q0e) (h:atD st k l i) (hi:i≤900000000000) (hn:1≤n) (hn2:n≤1000) (hD:D≤8):PCalls Tryz.prog 124 [.gp k 0,.sc (.int .i64 n),.sc (.int .i64 D)] st
 (fun r st'=> ∃ks j,okKs n D ks∧i≤j∧j≤i+1+D∧r= .ms true st.length 0 n∧st'=st.set k (dk l j)++ [encZ ks]):=by
 refine Q0b none Tryz.func124 rfl fun E=>Q0a ?_
 have x1:IntKind.i64.wrap ((D:Int)+1)=((D+1:Nat):Int):=by
  rw [show((D:Int)+1)=((D+1:Nat):Int) from rfl,Q0k _ (by omega)]
 simp -dsimp only [go_sem,x1]
 refine⟨⟨by omega,by omega,by omega⟩,?_⟩
 refine(H0h l i k (D+1) st h (by omega) (by omega) (by omega)).mono ?_
 rintro r st' ⟨rfl,rfl⟩
 have hnx:=G1k l i (n:=D+1) (by omega)
 simp -dsimp only [go_sem]
 refine Q0f [true,true,false,false,false,false,false,true,true] 1 0 (fun m s=> ∃(ks:List Int) (c j:Nat),m=c∧c≤D∧okKs n (D-c) ks∧i≤j∧j+c≤i+1+D∧
  s=⟨[.gp k 0,.sc (.int .i64 n),.junk,.junk,.junk,.junk,.junk,.ms false 0 0 n,.sc (.int .i64 (c:Nat))]++List.replicate 19 .junk,[encZ ks],[],st.set k (dk l j)⟩) (nx l i (D+1)) ?_ ?_
 · simp -dsimp only [go_sem]
   refine⟨(by rw [repZ];exact y2y _ _ _),List.replicate n 0,nx l i (D+1),i+1,rfl,by omega,⟨by simp,fun j hj=>by simp [List.getD_eq_getElem?_getD,hj],by rw [K3x];omega⟩,by omega,by omega,?_⟩
   rw [repZ]
 · rintro m s ⟨ks,c,j,hm,hc,hks,hj1,hj2,rfl⟩
   subst hm
   obtain⟨k1,k2,k3⟩:=hks
   simp -dsimp only [go_sem]
   refine ck (fun h1=> ?_) (fun h1=> ?_)
   · have hpos:0<m:=by have:=of_decide_eq_true h1;omega
     have x2:IntKind.i64.wrap ((m:Int)-1)=((m-1:Nat):Int):=by rw [Q0j _ (by omega) (by omega)];omega
     simp -dsimp only [go_sem]
     refine(H0h l j k n _ (h.set j) (by omega) (by omega) (by omega)).mono ?_
     rintro r st' ⟨rfl,rfl⟩
     have hq:=G1k l j (n:=n) (by omega)
     generalize nx l j n=q at hq⊢
     have hg:=Y0x ks q (by omega)
     have hv:=k2 q hq
     have hup:ks.getD q 0≤8:=by
      have:=V0b ((J0m ks).2 ⟨fun j hj=>k2 j (by omega),by omega⟩) q (by omega)
      exact this.2
     have x3:IntKind.i64.wrap (ks.getD q 0+1)=ks.getD q 0+1:=Q0j _ (by omega) (by omega)
     have hs:=Z2y ks q (ks.getD q 0+1) (by omega)
     simp -dsimp only [go_sem,hg,x3,hs,x2,Z1c]
     refine⟨⟨by omega,hq⟩,by omega,⟨by omega,hq⟩,⟨by omega,by omega⟩,m-1,by omega,ks.set q (ks.getD q 0+1),m-1,j+1,rfl,by omega,⟨by rw [List.length_set,k1],fun a ha=> ?_,?_⟩,by omega,by omega,rfl⟩
     · by_cases e:q=a
       · subst e;rw [Q0r _ _ _ _ (by omega)];omega
       · rw [Q0q _ _ _ _ _ e];exact k2 a ha
     · rw [W2x _ _ _ (by omega)];omega
   · have hz:m=0:=by have:=of_decide_eq_false h1;omega
     subst hz
     have hf:(encZ ks).map PV.forget2=encZ ks:=j1d ks
     have hne:encZ ks≠ []:=fun e=>by
      have:=q0x ks
      rw [e] at this
      simp at this;omega
     simp -dsimp only [go_sem]
     refine w0a 0 (by simp only [U0z];exact U3c _) (by simpa using hne) (Q0a ?_)
     simp -dsimp only [go_sem,hf]
     exact⟨ks,j,⟨k1,k2,by omega⟩,by omega,by omega,by rw [List.length_set],rfl⟩
set_option maxHeartbeats 4000000 in
theorem v2s (l:List UInt64) (i k n M D:Nat) (st:Q0e) (h:atD st k l i) (hi:i≤800000000000) (hn:1≤n) (hn2:n≤1000) (hM:M≤20) (hD:D≤8):PCalls Tryz.prog 63 [.gp k 0,.sc (.int .i64 n),.sc (.int .i64 M),.sc (.int .i64 D)] st
 (fun r st'=> ∃(p:List (Nm×Nat×Nat)) (KS:List (List Int)) (j:Nat),p.length≤M∧KS.length=p.length∧(∀m,m<p.length→(p.getD m default).2=(st.length+m,n)∧smN (p.getD m default).1∧okKs n D (KS.getD m []))∧i≤j∧j≤i+1+10*M∧r= .sl .no (K0u p)∧st'=st.set k (dk l j)++KS.map encZ):=by
 have hlt:=h.lt
 have at2: ∀(X:Q0e) j,atD (st.set k (dk l j)++X) k l j:=fun X j=>by
  unfold atD
  rw [List.getD_eq_getElem?_getD,List.getElem?_append_left (by rw [List.length_set];exact hlt),←List.getD_eq_getElem?_getD]
  exact h.set j
 have st2: ∀(X:Q0e) a b,(st.set k (dk l a)++X).set k (dk l b)=st.set k (dk l b)++X:=fun X a b=>by
  rw [List.set_append_left _ _ (by rw [List.length_set];exact hlt),List.set_set]
 refine Q0b none Tryz.func63 rfl fun E=>Q0a ?_
 have x1:IntKind.i64.wrap ((M:Int)+1)=((M+1:Nat):Int):=by
  rw [show((M:Int)+1)=((M+1:Nat):Int) from rfl,Q0k _ (by omega)]
 simp -dsimp only [go_sem,x1]
 refine(H0h l i k (M+1) st h (by omega) (by omega) (by omega)).mono ?_
 rintro r st' ⟨rfl,rfl⟩
 have hnx:=G1k l i (n:=M+1) (by omega)
 simp -dsimp only [go_sem]
 refine X0y 9 4 ?_
 simp -dsimp only [go_sem]
 refine Q0f [true,true,false,true,false,false,false,false,false,true,true] 0 1 (fun m s=> ∃(p:List (Nm×Nat×Nat)) (KS:List (List Int)) (c j:Nat),m=c∧p.length+c≤M∧KS.length=p.length∧(∀m,m<p.length→(p.getD m default).2=(st.length+m,n)∧smN (p.getD m default).1∧okKs n D (KS.getD m []))∧i≤j∧j+10*c≤i+1+10*M∧
  s=⟨[.gp k 0,.sc (.int .i64 n),.junk,.sc (.int .i64 D),.junk,.junk,.junk,.junk,.junk,.sl (.own 0) (K0u p),.sc (.int .i64 (c:Nat))]++List.replicate 19 .junk,[],[(p.length,4)],st.set k (dk l j)++KS.map encZ⟩) (nx l i (M+1)) ?_ ?_
 · simp -dsimp only [go_sem]
   exact⟨[],[],nx l i (M+1),i+1,rfl,by simp;omega,rfl,(fun m hm=>by simp at hm),by omega,by omega,by simp [q2o]⟩
 · rintro m s ⟨p,KS,c,j,hm,hc,hKl,hp,hj1,hj2,rfl⟩
   subst hm
   simp -dsimp only [go_sem]
   refine ck (fun h1=> ?_) (fun h1=> ?_)
   · have hpos:0<m:=by have:=of_decide_eq_true h1;omega
     have x2:IntKind.i64.wrap ((m:Int)-1)=((m-1:Nat):Int):=by rw [Q0j _ (by omega) (by omega)];omega
     simp -dsimp only [go_sem]
     refine(Z1z l j k _ (at2 _ j) (by omega)).mono ?_
     rintro r st' ⟨x,hx,rfl,rfl⟩
     rw [st2]
     simp -dsimp only [go_sem]
     refine(U2l l (j+1) k n D _ (at2 _ (j+1)) (by omega) hn hn2 hD).mono ?_
     rintro r st' ⟨ks,j',hks,hj3,hj4,rfl,rfl⟩
     rw [st2]
     have hlen:(st.set k (dk l (j+1))++KS.map encZ).length=st.length+p.length:=by simp [hKl]
     rw [hlen]
     have hsn:K0u p++ [PV.agg [.sc (.bool x.neg),.sc (.int .i64 x.exp),.sl .no (encW x.w),.ms true (st.length+p.length) 0 n]]=K0u (p++ [(x,st.length+p.length,n)]):=V2l p (x,st.length+p.length,n)
     simp -dsimp only [go_sem,x2,hsn]
     refine⟨⟨by omega,by omega⟩,m-1,by omega,p++ [(x,st.length+p.length,n)],KS++ [ks],m-1,j',rfl,by simp;omega,by simp [hKl],fun y hy=> ?_,by omega,by omega,by simp⟩
     by_cases e:y<p.length
     · rw [q1h _ _ _ _ e,q1h _ _ _ _ (by omega)];exact hp y e
     · obtain rfl:y=p.length:=by simp at hy;omega
       rw [Z1b,←hKl,Z1b]
       exact⟨by rw [hKl],hx,hks⟩
   · have hz:m=0:=by have:=of_decide_eq_false h1;omega
     subst hz
     simp -dsimp only [go_sem]
     refine V0c [false,false,false,false,false,false,false,false,false,true] (Q0a ?_)
     simp -dsimp only [go_sem]
     exact⟨p,KS,j,by omega,hKl,hp,by omega,by omega,rfl,rfl⟩
def zerK (ks:List Int) (i:Nat):Nat→List Int
 | 0=>ks
 | t+1=>(zerK ks i t).set (i+t) 0
theorem v0f (ks:List Int) (i:Nat): ∀t,(zerK ks i t).length=ks.length
 | 0=>rfl
 | t+1=>by rw [zerK,List.length_set,v0f ks i t]
theorem U1d (ks:List Int) (i:Nat): ∀t j,i+t≤ks.length→(zerK ks i t).getD j 0=if i≤j∧j<i+t then 0 else ks.getD j 0
 | 0,j,_=>by rw [if_neg (by omega)];rfl
 | t+1,j,h=>by
  rw [zerK]
  by_cases e:i+t=j
  · subst e
    rw [Q0r _ _ _ _ (by rw [v0f];omega),if_pos (by omega)]
  · rw [Q0q _ _ _ _ _ e,U1d ks i t j (by omega)]
    by_cases c:i≤j∧j<i+t
    · rw [if_pos c,if_pos (by omega)]
    · rw [if_neg c,if_neg (by omega)]
theorem W2d {n:Nat} {D:Int} {ks:List Int} (h:okKs n D ks) (i:Nat): ∀t,i+t≤n→okKs n D (zerK ks i t)
 | 0,_=>h
 | t+1,ht=>by
  obtain⟨a1,a2,a3⟩:=W2d h i t (by omega)
  refine⟨by rw [v0f];exact h.1,fun j hj=> ?_,?_⟩
  · rw [U1d _ _ _ _ (by rw [h.1];omega)]
    split
    · exact Int.le_refl _
    · exact h.2.1 j hj
  · rw [zerK,W2x _ _ _ (by omega)]
    have:=a2 (i+t) (by omega)
    omega
def encH (cs:List (Nm×Nat×Nat)) (KS:List (List Int)) (t:Nat):List PV:=
 (List.range cs.length).map fun j=> .agg (encN (cs.getD j default).1++ [if j<t then .sl .no (encZ (KS.getD j [])) else .ms true (cs.getD j default).2.1 0 (cs.getD j default).2.2])
theorem q2l (cs:List (Nm×Nat×Nat)) (KS:List (List Int)):encH cs KS 0=K0u cs:=by
 apply List.ext_getElem
 · simp [encH,K0u]
 · intro j h1 h2
   simp [encH,K0u,List.getD_eq_getElem?_getD]
   have hj:j<cs.length:=by simpa [encH] using h1
   simp [hj]
theorem q2n (cs:List (Nm×Nat×Nat)) (KS:List (List Int)) (hl:KS.length=cs.length):encH cs KS cs.length=X0c ((List.range cs.length).map fun j=>⟨(cs.getD j default).1,KS.getD j []⟩):=by
 unfold encH X0c
 rw [List.map_map]
 refine List.map_congr_left fun j hj=> ?_
 rw [if_pos (List.mem_range.1 hj)]
 rfl
theorem q2m (cs:List (Nm×Nat×Nat)) (KS:List (List Int)) (t B n:Nat) (ht:t<cs.length) (hn:(KS.getD t []).length=n) (hcs: ∀j,j<cs.length→(cs.getD j default).2=(B+j,n)):(encH cs KS t).map (PV.frzG (B+t) (encZ (KS.getD t [])))=encH cs KS (t+1):=by
 unfold encH
 rw [List.map_map]
 refine List.map_congr_left fun j hj=> ?_
 have hj:=List.mem_range.1 hj
 have e:=hcs j hj
 show PV.agg ((encN _++ [_]).map _)=_
 rw [List.map_append]
 congr 1
 congr 1
 show [PV.frzG1 _ _ _]=_
 rw [e]
 by_cases c:j<t
 · rw [if_pos c,if_pos (by omega)];rfl
 · rw [if_neg c]
   by_cases c2:j=t
   · subst c2
     rw [if_pos (by omega)]
     simp only [PV.frzG1]
     rw [if_pos ⟨trivial,by rw [q0x,hn];omega⟩,List.drop_zero,List.take_of_length_le (by rw [q0x,hn];omega)]
   · rw [if_neg (by omega)]
     simp only [PV.frzG1]
     rw [if_neg (fun h=>c2 (by omega))]
theorem sget (S0:Q0e) (Z:List (List Int)) {m B:Nat} (hB:B=S0.length) (hm:m<Z.length):(S0++Z.map encZ).getD (B+m) []=encZ (Z.getD m []):=by
 subst hB
 simp [List.getD_eq_getElem?_getD,hm]
theorem sset (S0:Q0e) (Z:List (List Int)) {m B:Nat} (q:List Int) (hB:B=S0.length):(S0++Z.map encZ).set (B+m) (encZ q)=S0++(Z.set m q).map encZ:=by
 subst hB
 rw [List.set_append_right _ _ (by omega),List.map_set]
 congr 2
 omega
def zerA (KS:List (List Int)) (i n m t:Nat):List (List Int):=(List.range KS.length).map fun y=>if y<m then zerK (KS.getD y []) i (n-i) else if y=m then zerK (KS.getD y []) i t else KS.getD y []
theorem V0t (KS:List (List Int)) (i n m t:Nat):(zerA KS i n m t).length=KS.length:=by simp [zerA]
theorem q0f (KS:List (List Int)) (i n m t:Nat) {y:Nat} (hy:y<KS.length):(zerA KS i n m t).getD y []=if y<m then zerK (KS.getD y []) i (n-i) else if y=m then zerK (KS.getD y []) i t else KS.getD y []:=by
 simp [zerA,List.getD_eq_getElem?_getD,hy]
theorem U1e {A B:List (List Int)} (hl:A.length=B.length) (h: ∀y,y<A.length→A.getD y []=B.getD y []):A=B:=by
 apply List.ext_getElem hl
 intro j h1 h2
 have:=h j h1
 simpa [List.getD_eq_getElem?_getD,h1,h2] using this
theorem W2e (KS:List (List Int)) (i n:Nat):zerA KS i n 0 0=KS:=U1e (V0t ..) fun y hy=>by
 rw [V0t] at hy
 rw [q0f _ _ _ _ _ hy,if_neg (by omega)]
 split<;>rfl
theorem W2g (KS:List (List Int)) (i n m:Nat):zerA KS i n m (n-i)=zerA KS i n (m+1) 0:=U1e (by rw [V0t,V0t]) fun y hy=>by
 rw [V0t] at hy
 rw [q0f _ _ _ _ _ hy,q0f _ _ _ _ _ hy]
 by_cases c:y<m
 · rw [if_pos c,if_pos (by omega)]
 · by_cases c2:y=m
   · rw [if_neg c,if_pos c2,if_pos (by omega)]
   · rw [if_neg c,if_neg c2,if_neg (by omega)]
     split<;>rfl
theorem W2f (KS:List (List Int)) (i n m t:Nat) (hm:m<KS.length):(zerA KS i n m t).set m ((zerK (KS.getD m []) i t).set (i+t) 0)=zerA KS i n m (t+1):=U1e (by rw [List.length_set,V0t,V0t]) fun y hy=>by
 rw [List.length_set,V0t] at hy
 rw [q0f _ _ _ _ _ hy]
 by_cases e:m=y
 · subst e
   rw [Q0r _ _ _ _ (by rw [V0t];exact hm),if_neg (by omega),if_pos rfl]
   rfl
 · rw [Q0q _ _ _ _ _ e,q0f _ _ _ _ _ hy]
   by_cases c:y<m
   · rw [if_pos c,if_pos c]
   · rw [if_neg c,if_neg (fun h=>e h.symm),if_neg c,if_neg (fun h=>e h.symm)]
def stZ (Z:List (List Int)) (t:Nat):Q0e:=(List.range Z.length).map fun y=>if y<t then [] else encZ (Z.getD y [])
theorem V3b (Z:List (List Int)) (t:Nat):(stZ Z t).length=Z.length:=by simp [stZ]
theorem V3c (Z:List (List Int)) (t:Nat) {y:Nat} (hy:y<Z.length):(stZ Z t).getD y []=if y<t then [] else encZ (Z.getD y []):=by
 simp [stZ,List.getD_eq_getElem?_getD,hy]
theorem j2h (Z:List (List Int)):stZ Z 0=Z.map encZ:=by
 apply List.ext_getElem
 · simp [stZ]
 · intro j h1 h2
   have hj:j<Z.length:=by simpa using h2
   simp [stZ,List.getD_eq_getElem?_getD,hj]
theorem j2i (Z:List (List Int)) (t:Nat):(stZ Z t).set t []=stZ Z (t+1):=by
 apply List.ext_getElem
 · simp [stZ]
 · intro j h1 h2
   have hj:j<Z.length:=by simpa [stZ] using h2
   rw [List.getElem_set]
   by_cases e:t=j
   · subst e
     rw [if_pos rfl]
     simp [stZ]
   · rw [if_neg e]
     simp only [stZ,List.getElem_map,List.getElem_range]
     by_cases c:j<t
     · rw [if_pos c,if_pos (by omega)]
     · rw [if_neg c,if_neg (by omega)]
theorem z1j {P:Program} {E:Ent} {c:Code} {Q:Exit→PFS→Prop} (pa1 pa2:List PV) (T:List (Nat×Nat)) (S0:Q0e) (p:List (Nm×Nat×Nat)) (Z:List (List Int)) (B n:Nat) (hB:B=S0.length) (hn:1≤n) (hZ:Z.length=p.length)
 (hl: ∀y,y<p.length→(Z.getD y []).length=n) (hp: ∀j,j<p.length→(p.getD j default).2=(B+j,n)) (h1: ∀k cs,pa1.map (PV.frzD k cs)=pa1) (h2: ∀k cs,pa2.map (PV.frzD k cs)=pa2)
 (h:PWP P E c Q ⟨pa1++ [.sl .no (encH p Z p.length)]++pa2,[],T,S0++stZ Z p.length⟩):PWP P E c Q ⟨pa1++ [.sl .no (K0u p)]++pa2,[],T,S0++Z.map encZ⟩:=by
 have key: ∀t,t≤p.length→PWP P E c Q ⟨pa1++ [.sl .no (encH p Z t)]++pa2,[],T,S0++stZ Z t⟩→PWP P E c Q ⟨pa1++ [.sl .no (encH p Z 0)]++pa2,[],T,S0++stZ Z 0⟩:=fun t=>by
  induction t with
  | zero=>exact fun _ h=>h
  | succ t ih=>
   intro ht h
   refine ih (by omega) ?_
   have hget:(S0++stZ Z t).getD (B+t) []=encZ (Z.getD t []):=by
    subst hB
    rw [List.getD_eq_getElem?_getD,List.getElem?_append_right (by omega),←List.getD_eq_getElem?_getD,show S0.length+t-S0.length=t by omega,V3c _ _ (by omega),if_neg (by omega)]
   have hlt:=hl t (by omega)
   refine v1c (B+t) (by subst hB;show _<(S0++stZ Z t).length;rw [List.length_append,V3b];omega) (fun q hq=> ?_) (fun e=> ?_) ?_
   · have hq:q∈(S0++stZ Z t).getD (B+t) []:=hq
     rw [hget] at hq
     simp only [encZ,List.mem_map] at hq
     obtain⟨x,_,rfl⟩:=hq
     rfl
   · have e:(S0++stZ Z t).getD (B+t) []= []:=e
     rw [hget] at e
     have:=q0x (Z.getD t [])
     rw [e,List.length_nil] at this
     omega
   · show PWP P E c Q ⟨(pa1++ [PV.sl .no (encH p Z t)]++pa2).map (PV.frzD (B+t) ((S0++stZ Z t).getD (B+t) [])),[],T,(S0++stZ Z t).set (B+t) []⟩
     rw [hget,List.map_append,List.map_append,h1,h2]
     have e1:([PV.sl .no (encH p Z t)]:List PV).map (PV.frzD (B+t) (encZ (Z.getD t [])))= [.sl .no (encH p Z (t+1))]:=by
      show [PV.sl .no ((encH p Z t).map _)]=_
      rw [q2m p Z t B n (by omega) hlt hp]
     have e2:(S0++stZ Z t).set (B+t) []=S0++stZ Z (t+1):=by
      subst hB
      rw [List.set_append_right _ _ (by omega),show S0.length+t-S0.length=t by omega,j2i]
     rw [e1,e2]
     exact h
 have:=key p.length (Nat.le_refl _) h
 rwa [q2l,j2h] at this
set_option maxHeartbeats 4000000 in
theorem V3a (l:List UInt64) (i0 k n M D:Nat) (st:Q0e) (h:atD st k l i0) (hi:i0≤700000000000) (hn:1≤n) (hn4:n≤4) (hM:M≤20) (hD:D≤8):PCalls Tryz.prog 17 [.gp k 0,.sc (.int .i64 n),.sc (.int .i64 M),.sc (.int .i64 D)] st
 (fun r st'=> ∃(f raw:List (List Mn)) (X:Q0e) (j:Nat),okField n M D f∧(∀i,i<n→f.getD i []=(U0y (gatT ((raw.getD i []).map tmOf) []) []).1∧(raw.getD i []).length≤M∧ ∀m∈raw.getD i [],K2o n D m∧ ∀t,i≤t→m.ks.getD t 0=0)∧i0≤j∧j≤i0+n*(1+10*M)∧r= .sl .no (X0k f)∧st'=st.set k (dk l j)++X):=by
 have hlt:=h.lt
 have at2: ∀(X:Q0e) j,atD (st.set k (dk l j)++X) k l j:=fun X j=>by
  unfold atD
  rw [List.getD_eq_getElem?_getD,List.getElem?_append_left (by rw [List.length_set];exact hlt),←List.getD_eq_getElem?_getD]
  exact h.set j
 have st2: ∀(X:Q0e) a b,(st.set k (dk l a)++X).set k (dk l b)=st.set k (dk l b)++X:=fun X a b=>by
  rw [List.set_append_left _ _ (by rw [List.length_set];exact hlt),List.set_set]
 refine Q0b none Tryz.func17 rfl fun E=>Q0a ?_
 simp -dsimp only [go_sem]
 refine X0y 9 1 ?_
 simp -dsimp only [go_sem]
 refine Q0f [true,true,true,true,false,false,false,false,false,true,true] 0 1 (fun c s=> ∃(i:Nat) (o raw:List (List Mn)) (X:Q0e) (j:Nat),c=n-i∧i≤n∧o.length=i∧(∀p∈o,okPoly n M D p)∧
  (∀y,y<i→o.getD y []=(U0y (gatT ((raw.getD y []).map tmOf) []) []).1∧(raw.getD y []).length≤M∧ ∀m∈raw.getD y [],K2o n D m∧ ∀t,y≤t→m.ks.getD t 0=0)∧raw.length=i∧i0≤j∧j≤i0+i*(1+10*M)∧
  s=⟨[.gp k 0,.sc (.int .i64 n),.sc (.int .i64 M),.sc (.int .i64 D),.junk,.junk,.junk,.junk,.junk,.sl (.own 0) (X0k o),.sc (.int .i64 (i:Nat))]++List.replicate 45 .junk,[],[(i,1)],st.set k (dk l j)++X⟩) n ?_ ?_
 · simp -dsimp only [go_sem]
   exact⟨0,[],[],[],i0,by omega,by omega,rfl,(fun p hp=>by cases hp),(fun y hy=>absurd hy (Nat.not_lt_zero _)),rfl,by omega,by omega,by rw [h.same,List.append_nil];rfl⟩
 · rintro c s ⟨i,o,raw,X,j,rfl,hin,hol,hop,hor,hrl,hj1,hj2,rfl⟩
   have hmul:i*(1+10*M)≤4*(1+10*20):=Nat.mul_le_mul (by omega) (by omega)
   simp -dsimp only [go_sem]
   refine ck (fun h1=> ?_) (fun h1=> ?_)
   · have hlt1:i<n:=by have:=of_decide_eq_true h1;omega
     have e3:IntKind.i64.wrap ((i:Int)+1)=((i+1:Nat):Int):=by rw [Q0j _ (by omega) (by omega)];omega
     simp -dsimp only [go_sem]
     refine(v2s l j k n M D _ (at2 X j) (by omega) hn (by omega) hM hD).mono ?_
     rintro r st' ⟨p,KS,j',hpl,hKl,hp,hj3,hj4,rfl,rfl⟩
     rw [st2]
     generalize hS0:st.set k (dk l j')++X=S0
     have hB:(st.set k (dk l j)++X).length=S0.length:=by rw [←hS0];simp
     rw [hB] at hp
     clear hB
     generalize hBe:S0.length=B at hp
     simp -dsimp only [go_sem]
     refine Q0f [true,true,true,true,false,false,false,false,false,true,true,true,true] 0 1 (fun c s=> ∃(m:Nat),c=p.length-m∧m≤p.length∧
      s=⟨[.gp k 0,.sc (.int .i64 n),.sc (.int .i64 M),.sc (.int .i64 D),.junk,.junk,.junk,.junk,.junk,.sl (.own 0) (X0k o),.sc (.int .i64 (i:Nat)),.sl .no (K0u p),.sc (.int .i64 (m:Nat))]++List.replicate 43 .junk,[],[(i,1)],S0++(zerA KS i n m 0).map encZ⟩) p.length ?_ ?_
     · simp -dsimp only [go_sem]
       exact⟨0,by omega,by omega,by rw [W2e];rfl⟩
     · rintro c s ⟨m,rfl,hm,rfl⟩
       simp -dsimp only [go_sem]
       refine ck (fun h2=> ?_) (fun h2=> ?_)
       · have hlt2:m<p.length:=by have:=of_decide_eq_true h2;omega
         have e4:IntKind.i64.wrap ((m:Int)+1)=((m+1:Nat):Int):=by rw [Q0j _ (by omega) (by omega)];omega
         have g1:=q2p p m hlt2
         obtain⟨p1,p2,p3⟩:=hp m hlt2
         rw [p1] at g1
         simp -dsimp only [go_sem]
         refine Q0f [true,true,true,true,false,false,false,false,false,true,true,true,true,true] 0 1 (fun c s=> ∃(t:Nat),c=n-i-t∧t≤n-i∧
          s=⟨[.gp k 0,.sc (.int .i64 n),.sc (.int .i64 M),.sc (.int .i64 D),.junk,.junk,.junk,.junk,.junk,.sl (.own 0) (X0k o),.sc (.int .i64 (i:Nat)),.sl .no (K0u p),.sc (.int .i64 (m:Nat)),.sc (.int .i64 ((i+t:Nat):Int))]++List.replicate 42 .junk,[],[(i,1)],S0++(zerA KS i n m t).map encZ⟩) (n-i) ?_ ?_
         · simp -dsimp only [go_sem]
           exact⟨0,by omega,by omega,rfl⟩
         · rintro c s ⟨t,rfl,ht,rfl⟩
           simp -dsimp only [go_sem]
           refine ck (fun h3=> ?_) (fun h3=> ?_)
           · have hlt3:i+t<n:=by have:=of_decide_eq_true h3;omega
             have e5:IntKind.i64.wrap (((i+t:Nat):Int)+1)=((i+(t+1):Nat):Int):=by rw [Q0j _ (by omega) (by omega)];omega
             have q1:=sget S0 (zerA KS i n m t) (m:=m) hBe.symm (by rw [V0t];omega)
             rw [q0f _ _ _ _ _ (by omega),if_neg (by omega),if_pos rfl] at q1
             have q2:=Z2y (zerK (KS.getD m []) i t) (i+t) 0 (by rw [v0f,p3.1];exact hlt3)
             have q3:=sset S0 (zerA KS i n m t) (m:=m) ((zerK (KS.getD m []) i t).set (i+t) 0) hBe.symm
             rw [W2f _ _ _ _ _ (by omega)] at q3
             simp -dsimp only [go_sem,g1,q1,q2,q3,e5]
             have hzl:=v0f (KS.getD m []) i t
             have hkl:=p3.1
             exact⟨⟨by omega,hlt2⟩,⟨by omega,hlt3⟩,⟨by omega,by omega⟩,n-i-(t+1),by omega,t+1,rfl,by omega,rfl⟩
           · have hge:t=n-i:=by have:=of_decide_eq_false h3;omega
             subst hge
             simp -dsimp only [go_sem]
             refine Q0a ?_
             simp -dsimp only [go_sem,e4]
             exact⟨p.length-(m+1),by omega,m+1,rfl,by omega,by rw [W2g]⟩
       · have hge:m=p.length:=by have:=of_decide_eq_false h2;omega
         subst hge
         simp -dsimp only [go_sem]
         have hZl:=V0t KS i n p.length 0
         have hZ: ∀y,y<p.length→(zerA KS i n p.length 0).getD y []=zerK (KS.getD y []) i (n-i):=fun y hy=>by
          rw [q0f _ _ _ _ _ (by omega),if_pos hy]
         have hZok: ∀y,y<p.length→okKs n D ((zerA KS i n p.length 0).getD y []):=fun y hy=>by
          rw [hZ y hy];exact W2d (hp y hy).2.2 i (n-i) (by omega)
         have hfull:=q2n p (zerA KS i n p.length 0) (by omega)
         have hraw: ∀m∈(List.range p.length).map fun y=>(⟨(p.getD y default).1,(zerA KS i n p.length 0).getD y []⟩:Mn),K2o n D m∧ ∀t,i≤t→m.ks.getD t 0=0:=fun m hm=>by
          obtain⟨y,hy,rfl⟩:=List.mem_map.1 hm
          have hy:=List.mem_range.1 hy
          refine⟨⟨hZok y hy,(hp y hy).2.1⟩,fun t ht=> ?_⟩
          show((zerA KS i n p.length 0).getD y []).getD t 0=0
          have hkl:=(hp y hy).2.2.1
          rw [hZ y hy,U1d _ _ _ _ (by omega)]
          by_cases c:t<n
          · rw [if_pos ⟨ht,by omega⟩]
          · rw [if_neg (by omega),List.getD_eq_getElem?_getD,List.getElem?_eq_none (by omega)];rfl
         have hrl2:((List.range p.length).map fun y=>(⟨(p.getD y default).1,(zerA KS i n p.length 0).getD y []⟩:Mn)).length=p.length:=by simp
         generalize hgR:((List.range p.length).map fun y=>(⟨(p.getD y default).1,(zerA KS i n p.length 0).getD y []⟩:Mn))=R at hfull hraw hrl2
         refine J0t (H0o (bs:= [true,true,true,true,false,false,false,false,false,true,true,true]) (nL:=0) (nT:=1) (by simp [go_sem])) ?_
         simp -dsimp only [go_sem]
         refine z1j [.gp k 0,.sc (.int .i64 (n:Nat)),.sc (.int .i64 (M:Nat)),.sc (.int .i64 (D:Nat)),.junk,.junk,.junk,.junk,.junk,.sl (.own 0) (X0k o),.sc (.int .i64 (i:Nat))] (List.replicate 44 .junk) [(i,1)] S0 p (zerA KS i n p.length 0) B n hBe.symm hn (by omega) (fun y hy=>(hZok y hy).1) (fun j hj=>(hp j hj).1) (fun _ _=>rfl) (fun _ _=>rfl) ?_
         rw [hfull]
         refine Q0a ?_
         simp -dsimp only [go_sem]
         refine(Y2u R n D _ hn hn4 (by omega) (by omega) (fun m hm=>(hraw m hm).1)).mono ?_
         rintro r st' ⟨rfl,rfl⟩
         have hok: ∀t∈R.map tmOf,okT n 12 18 D t:=fun t ht=>by
          obtain⟨m,hm,rfl⟩:=List.mem_map.1 ht
          exact Z2a (hraw m hm).1 (by omega)
         obtain⟨g1,g2,g3,g4⟩:=V2e (n:=n) (L:=12) (U:=18) (D:=D) (ts:=R.map tmOf) (by rw [List.length_map];omega) hn hn4 (by rw [List.length_map];omega) hok
         rw [List.length_map] at g3 g4
         generalize hP:(U0y (gatT (R.map tmOf) []) []).1=G at g1 g2 g3 g4⊢
         generalize (U0y (gatT (R.map tmOf) []) []).2=e at*
         have hsn:X0k o++ [.sl .no (X0c G)]=X0k (o++ [G]):=V2m o G
         simp -dsimp only [go_sem,hsn,e3]
         refine⟨by omega,by rw [hol],?_⟩
         refine Q0a ?_
         simp -dsimp only [go_sem,e3]
         refine⟨n-(i+1),by omega,i+1,o++ [G],raw++ [R],X++stZ (zerA KS i n p.length 0) p.length,j',rfl,by omega,by simp [hol],fun q hq=> ?_,fun y hy=> ?_,by simp [hrl],by omega,?_,?_⟩
         · rcases List.mem_append.1 hq with hq | hq
           · exact hop q hq
           · rw [List.mem_singleton.1 hq]
             exact⟨g2,by omega,fun m hm=>by
              obtain⟨a1,a2,a3,a4,a5,a6⟩:=g3 m hm
              exact⟨a1,a2,a3,a4,a5,a6.up (by omega)⟩⟩
         · by_cases c:y<i
           · rw [q1h _ _ _ _ (by omega),q1h _ _ _ _ (by omega)];exact hor y c
           · obtain rfl:y=i:=by omega
             rw [←hol,Z1b,hol]
             rw [show(raw++ [R]).getD y []=R by rw [←hrl,Z1b]]
             exact⟨hP.symm,by omega,hraw⟩
         · have:(i+1)*(1+10*M)=i*(1+10*M)+(1+10*M):=Nat.succ_mul _ _
           omega
         · rw [←hS0,List.append_assoc,hol]
   · have hge:i=n:=by have:=of_decide_eq_false h1;omega
     subst hge
     simp -dsimp only [go_sem]
     refine V0c [false,false,false,false,false,false,false,false,false,true] (Q0a ?_)
     simp -dsimp only [go_sem]
     exact⟨o,raw,X,j,⟨hol,hop⟩,hor,hj1,hj2,rfl,rfl⟩
end Go.Pv
end
