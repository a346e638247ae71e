/- Parts of the walk: PvAm, PvAn, M42, N46, N47, N48, PvBa. -/
import Derived.Test.YtofoadghajnglaaGreatDoorZAN
import Derived.Test.YtofoadghajnglaaGreatDoorZE
import Derived.Test.YtofoadghajnglaaGreatDoorZP
import Derived.Test.YtofoadghajnglaaGreatDoorZAF
import Derived.Test.YtofoadghajnglaaGreatDoorZF
import Derived.Test.YtofoadghajnglaaGreatDoorZH
set_option linter.unusedVariables false
set_option linter.unusedSimpArgs false
section
/-Monomials,polynomials,fields;terms. -/
namespace Go.Pv
structure Mn where
 c:Nm
 ks:List Int
 deriving DecidableEq
instance : Inhabited Mn:=⟨⟨default,[]⟩⟩
def q0g (x:Mn):List PV:= [.sc (.bool x.c.neg),.sc (.int .i64 x.c.exp),.sl .no (encW x.c.w),.sl .no (encZ x.ks)]
attribute [go_sem] q0g
def X0l (l:List Mn):List PV:=l.map fun c=>(.agg (q0g c))
@[go_sem] theorem w0s (l:List Mn):(X0l l).length=l.length:=by simp [X0l]
@[go_sem] theorem V2l :X0l []= []:=(rfl)
@[go_sem] theorem z3o (l:List Mn):(X0l l).all (fun x=>x.cells.length==4)=true:=by simp [X0l,PV.cells,q0g]
@[go_sem] theorem z3p (l:List Mn):(X0l l).all (fun x=>(x.cells.length==4)&&x.cells.all PV.cellOK)=true:=by simp [X0l,PV.cells,PV.cellOK,Value.oneCell',q0g]
@[go_sem] theorem J3n (l:List Mn) (n:Nat):(X0l l).take n=X0l (l.take n):=by simp [X0l]
@[go_sem] theorem J3p (l:List Mn) (n:Nat):(X0l l).drop n=X0l (l.drop n):=by simp [X0l]
@[go_sem] theorem Y3w (l m:List Mn):X0l l++X0l m=X0l (l++m):=by simp [X0l]
@[go_sem] theorem J3o (l:List Mn) (c:Mn):X0l l++ [.agg (q0g c)]=X0l (l++ [c]):=by simp [X0l]
theorem G0l (l:List Mn) (n:Nat) (h:n<l.length):(X0l l).getD n .junk= .agg (q0g (l.getD n default)):=by
 simp [X0l,List.getD_eq_getElem?_getD,h]
@[go_sem] theorem Y3v (l:List Mn) (i:Nat) (cs:List PV):(X0l l).map (PV.frz i cs)=X0l l:=by
 simp only [X0l,List.map_map]
 exact List.map_congr_left fun a _=>rfl
theorem z1e (l:List Mn): ∀i,i<(X0l l).length→((X0l l).getD i .junk).cells.length=4:=fun i hi=>by
 rw [w0s] at hi
 rw [G0l l i hi];rfl
structure Tm where
 v:Vl
 ks:List Int
instance : Inhabited Tm:=⟨⟨⟨false,0,0⟩,[]⟩⟩
def w3u (x:Tm):List PV:= [.sc (.bool x.v.neg),.sl .no (encD (Q0d x.v.m)),.sc (.int .i64 x.v.e),.sl .no (encZ x.ks)]
attribute [go_sem] w3u
def X0d (l:List (List Mn)):List PV:=l.map fun c=>(.sl .no (X0l c))
@[go_sem] theorem k2y (l:List (List Mn)):(X0d l).length=l.length:=by simp [X0d]
@[go_sem] theorem U3i :X0d []= []:=(rfl)
@[go_sem] theorem z3y (l:List (List Mn)):(X0d l).all (fun x=>x.cells.length==1)=true:=by simp [X0d,PV.cells]
@[go_sem] theorem z3z (l:List (List Mn)):(X0d l).all (fun x=>(x.cells.length==1)&&x.cells.all PV.cellOK)=true:=by simp [X0d,PV.cells,PV.cellOK,Value.oneCell']
@[go_sem] theorem J3z (l:List (List Mn)) (n:Nat):(X0d l).take n=X0d (l.take n):=by simp [X0d]
@[go_sem] theorem K3b (l:List (List Mn)) (n:Nat):(X0d l).drop n=X0d (l.drop n):=by simp [X0d]
@[go_sem] theorem U3k (l m:List (List Mn)):X0d l++X0d m=X0d (l++m):=by simp [X0d]
@[go_sem] theorem K3a (l:List (List Mn)) (c:(List Mn)):X0d l++ [.sl .no (X0l c)]=X0d (l++ [c]):=by simp [X0d]
theorem k0l (l:List (List Mn)) (n:Nat) (h:n<l.length):(X0d l).getD n .junk= .sl .no (X0l (l.getD n [])):=by
 simp [X0d,List.getD_eq_getElem?_getD,h]
@[go_sem] theorem U3j (l:List (List Mn)) (i:Nat) (cs:List PV):(X0d l).map (PV.frz i cs)=X0d l:=by
 simp only [X0d,List.map_map]
 exact List.map_congr_left fun a _=>rfl
def K0r (l:List (List (List Mn))):List PV:=l.map fun c=>(.sl .no (X0d c))
@[go_sem] theorem k2x (l:List (List (List Mn))):(K0r l).length=l.length:=by simp [K0r]
@[go_sem] theorem U3c :K0r []= []:=(rfl)
@[go_sem] theorem z3u (l:List (List (List Mn))):(K0r l).all (fun x=>x.cells.length==1)=true:=by simp [K0r,PV.cells]
@[go_sem] theorem z3v (l:List (List (List Mn))):(K0r l).all (fun x=>(x.cells.length==1)&&x.cells.all PV.cellOK)=true:=by simp [K0r,PV.cells,PV.cellOK,Value.oneCell']
@[go_sem] theorem J3t (l:List (List (List Mn))) (n:Nat):(K0r l).take n=K0r (l.take n):=by simp [K0r]
@[go_sem] theorem J3v (l:List (List (List Mn))) (n:Nat):(K0r l).drop n=K0r (l.drop n):=by simp [K0r]
@[go_sem] theorem U3e (l m:List (List (List Mn))):K0r l++K0r m=K0r (l++m):=by simp [K0r]
@[go_sem] theorem J3u (l:List (List (List Mn))) (c:(List (List Mn))):K0r l++ [.sl .no (X0d c)]=K0r (l++ [c]):=by simp [K0r]
theorem V2o (l:List (List (List Mn))) (n:Nat) (h:n<l.length):(K0r l).getD n .junk= .sl .no (X0d (l.getD n [])):=by
 simp [K0r,List.getD_eq_getElem?_getD,h]
@[go_sem] theorem U3d (l:List (List (List Mn))) (i:Nat) (cs:List PV):(K0r l).map (PV.frz i cs)=K0r l:=by
 simp only [K0r,List.map_map]
 exact List.map_congr_left fun a _=>rfl
end Go.Pv
end
section
/-An object of the store that is written no more:in all slots and boxes it becomes a plain slice. -/
namespace Go.Pv
def PV.frzG1 (k:Nat) (cs:List PV):PV→PV
 | .ms true k' off len=>if k'=k∧off+len≤cs.length then .sl .no ((cs.drop off).take len) else .ms true k' off len
 | p=>p
def PV.frzG (k:Nat) (cs:List PV):PV→PV
 | .agg l=> .agg (l.map (PV.frzG1 k cs))
 | .tup l=> .tup (l.map (PV.frzG1 k cs))
 | .fn f l m=> .fn f (l.map (PV.frzG1 k cs)) (m.map (PV.frzG1 k cs))
 | p=>p.frzG1 k cs
structure SolidG (w:World) (g':Gh) (k:Nat) (cs:List PV):Prop where
 sl: ∀v off len,k<g'.n→Rep w g' v (.ms true k off len)→off+len≤cs.length→Rep w g' v (.sl .no ((cs.drop off).take len))
section
variable {w:World} {g g':Gh} {F:Fr} {T:List (Nat×Nat)} {k:Nat} {cs:List PV}
theorem RepF.frzG1 {v:Value} {p:PV} (hk:k<g'.n) (hm: ∀v p,RepF w g F T v p→RepF w g' F T v p) (hz:SolidG w g' k cs) (h:RepF w g F T v p):RepF w g' F T v (p.frzG1 k cs):=by
 have h':=hm _ _ h
 cases p with
 | ms gl k' off len=>
  cases gl with
  | false=>exact h'
  | true=>
   simp only [PV.frzG1]
   split
   · rename_i e
     obtain⟨rfl,hle⟩:=e
     cases h' with
     | base _ _ h'=>exact .base _ _ (hz.sl _ _ _ hk h' hle)
   · exact h'
 | _=>exact h'
theorem RepF.frzG {v:Value} {p:PV} (hk:k<g'.n) (hm: ∀v p,RepF w g F T v p→RepF w g' F T v p) (hz:SolidG w g' k cs) (h:RepF w g F T v p):RepF w g' F T v (p.frzG k cs):=by
 have gm: ∀(l:List PV) (j:Nat),(l.map (PV.frzG1 k cs)).getD j .junk=(l.getD j .junk).frzG1 k cs:=fun l j=>Q0w rfl l j
 cases p with
 | agg l=>
  cases h with
  | base _ _ h=>
   cases h with
   | agg vs cs' hl h=>exact .agg vs _ (by simpa using hl) fun j hj=>by rw [gm];exact RepF.frzG1 hk hm hz (.base _ _ (h j (by simpa using hj)))
  | agg vs cs' hl h=>exact .agg vs _ (by simpa using hl) fun j hj=>by rw [gm];exact RepF.frzG1 hk hm hz (h j (by simpa using hj))
 | tup l=>
  cases h with
  | base _ _ h=>
   cases h with
   | tup vs cs' hl h=>exact .tup vs _ (by simpa using hl) fun j hj=>by rw [gm];exact RepF.frzG1 hk hm hz (.base _ _ (h j (by simpa using hj)))
  | tup vs cs' hl h=>exact .tup vs _ (by simpa using hl) fun j hj=>by rw [gm];exact RepF.frzG1 hk hm hz (h j (by simpa using hj))
 | fn f l m=>
  cases h with
  | base _ _ h=>
   cases h with
   | fn f us vs bs cs' hk' hl h0 h=>
    exact .fn f us vs _ _ (by simpa using hk') (by simpa using hl) (fun j hj=>by rw [gm];exact RepF.frzG1 hk hm hz (.base _ _ (h0 j (by simpa using hj)))) fun j hj=>by rw [gm];exact RepF.frzG1 hk hm hz (.base _ _ (h j (by simpa using hj)))
  | fn f us vs bs cs' hk' hl h0 h=>
   exact .fn f us vs _ _ (by simpa using hk') (by simpa using hl) (fun j hj=>by rw [gm];exact RepF.frzG1 hk hm hz (h0 j (by simpa using hj))) fun j hj=>by rw [gm];exact RepF.frzG1 hk hm hz (h j (by simpa using hj))
 | _=>exact RepF.frzG1 hk hm hz h
end
def PFS.freezeA (k:Nat) (s:PFS):PFS:=⟨s.pa.map (PV.frzG k (s.st.getD k [])),s.L.map fun l=>l.map (PV.frzG k (s.st.getD k [])),s.T,s.st.set k []⟩
theorem W1j {E:Ent} {s:PFS} (k:Nat) (hk:k<s.st.length) (hc: ∀p∈s.st.getD k [],p.cells= [p]) (h0:s.st.getD k []≠ []):Weak E s (s.freezeA k):=by
 intro a w g F h
 have hkn:k<g.n:=by rw [h.store.n];exact hk
 obtain⟨k1,k2⟩:=Z1v w g (g.mu k) (s.st.getD k []).length (.inl (h.store.lt k hkn)) h.store.none
 let g':Gh:= { g with vis:=fun c=>if c=g.mu k then max (s.st.getD k []).length (g.vis c) else g.vis c }
 obtain⟨f1,f2⟩:=h.frame.step k1 (fun i hi e=>h.frame.apart i hi k hkn e.symm) (fun i b hi hb e=>(h.frame.tapart i b hi hb).1 k hkn e.symm)
 have hst:StoreOK w g' (s.st.set k []):=by
  refine⟨by simpa using h.store.n,h.store.inj,h.store.lt,fun j hj hj0=> ?_,fun j hj=> ?_,k2,h.store.tab.mono k1.le⟩
  · by_cases e:k=j
    · subst e;exact absurd (Z0q _ _) hj0
    · rw [Q0i _ _ _ _ _ e] at hj0
      have:g'.vis (g.mu j)=g.vis (g.mu j):=if_neg fun e'=>e (h.store.inj j k hj hkn e').symm
      exact this.trans (h.store.vis j hj hj0)
  · by_cases e:k=j
    · subst e
      rw [Z0q]
      intro j hj;simp at hj
    · rw [Q0i _ _ _ _ _ e]
      exact(h.store.holds j hj).mono rfl fun v p hr=>hr.mono k1.le
 have hz:SolidG w g' k (s.st.getD k []):=⟨fun v off len hkg hv hlen=>by
  cases hv with
  | gms _ _ _ cap hi hcap=>
   have hh:=h.store.holds k hkn
   have hex: ∀j,j<(s.st.getD k []).length→ ∃c,w.cell? ⟨g.mu k,j,none⟩=some c∧Rep w g c ((s.st.getD k []).getD j .junk):=fun j hj=>by
    obtain⟨_,c,q1,q2⟩:=hh j hj;exact⟨c,q1,q2⟩
   let cf:Nat→Value:=fun j=>if hj:j<(s.st.getD k []).length then(hex j hj).choose else undef
   have hcf: ∀j,j<(s.st.getD k []).length→w.cell? ⟨g.mu k,j,none⟩=some (cf j)∧Rep w g (cf j) ((s.st.getD k []).getD j .junk):=fun j hj=>by
    simp only [cf,dif_pos hj];exact(hex j hj).choose_spec
   have hl:(((s.st.getD k []).drop off).take len).length=len:=by rw [List.length_take,List.length_drop];omega
   have hg: ∀j,j<len→(((s.st.getD k []).drop off).take len).getD j .junk=(s.st.getD k []).getD (off+j) .junk:=fun j hj=>by
    simp [List.getD_eq_getElem?_getD,List.getElem?_take,hj,List.getElem?_drop]
   have hone: ∀j,j<len→((s.st.getD k []).getD (off+j) .junk).cells= [(s.st.getD k []).getD (off+j) .junk]:=fun j hj=>hc _ (Q0t _ _ _ (by omega))
   have:=Rep.sl (w:=w) (g:=g') .no (((s.st.getD k []).drop off).take len) (g.mu k) off 1 cap (fun a b=>cf (off+a)) rfl (fun h=>by cases h) (by omega)
    (fun j hj=>by rw [hg j (by omega),hone j (by omega)];rfl)
    (fun _=>by
     show _≤if g.mu k=g.mu k then max (s.st.getD k []).length (g.vis (g.mu k)) else _
     rw [if_pos rfl]
     have:=Nat.le_max_left (s.st.getD k []).length (g.vis (g.mu k))
     omega)
    (fun j k2 hj hk2=>by
     have:k2=0:=by omega
     subst this
     simpa using(hcf (off+j) (by omega)).1)
    (fun j k2 hj hk2=>by
     have:k2=0:=by omega
     subst this
     rw [hg j (by omega),hone j (by omega)]
     exact(hcf (off+j) (by omega)).2.mono k1.le)
   rw [hl] at this
   exact this⟩
 have hf: ∀v p,RepF w g F s.T v p→RepF w g' F s.T v (p.frzG k (s.st.getD k [])):=fun v p hp=>RepF.frzG hkn (fun _ _ h=>f2 _ _ h) hz hp
 have hL: ∀i,(s.L.map fun l=>l.map (PV.frzG k (s.st.getD k []))).getD i []=(s.L.getD i []).map (PV.frzG k (s.st.getD k [])):=fun i=>J0q (f:=fun l=>l.map (PV.frzG k (s.st.getD k []))) rfl _ _
 have hLn: ∀i,(s.L.map fun l=>l.map (PV.frzG k (s.st.getD k []))).getD i []≠ []→s.L.getD i []≠ []:=fun i hi e=>hi (by rw [hL,e];rfl)
 refine⟨g',F,h.ext.step k1 (fun b hb=> ?_),hst,⟨by simp [PFS.freezeA,f1.nl],fun i hi=>f1.lo i (hLn i hi),fun i hi=>f1.apart i (hLn i hi),fun i j hi hj=>f1.inj i j (hLn i hi) (hLn j hj),fun i hi=> ?_,f1.tlo,fun i b hi hb=>⟨(f1.tapart i b hi hb).1,fun j hj=>(f1.tapart i b hi hb).2 j (hLn j hj)⟩,f1.tinj⟩,h.defers,by simp [PFS.freezeA,h.len],fun j hj=> ?_⟩
 · subst hb
   by_cases hin:k<E.g.n
   · exact .inr ⟨k,hin,(h.ext.le.mu k hin).symm⟩
   · exact .inl (h.ext.new k (by omega) hkn)
 · show Holds w _ (F.lmu i) ((s.L.map fun l=>l.map (PV.frzG k (s.st.getD k []))).getD i [])
   rw [hL]
   intro j hj
   obtain⟨q1,c,q2,q3⟩:=h.frame.holds i (hLn i hi) j (by simpa using hj)
   exact⟨q1,c,q2,by rw [Q0w (f:=PV.frzG k _) rfl];exact hf _ _ q3⟩
 · simp only [PFS.freezeA,List.length_map] at hj⊢
   rw [Q0w (f:=PV.frzG k _) rfl]
   exact hf _ _ (h.tmps j hj)
theorem q1a {P:Program} {E:Ent} {c:Code} {Q:Exit→PFS→Prop} {s:PFS} (k:Nat) (hk:k<s.st.length) (hc: ∀p∈s.st.getD k [],p.cells= [p]) (h0:s.st.getD k []≠ [])
 (h:PWP P E c Q (s.freezeA k)):PWP P E c Q s:=X0z (W1j k hk hc h0) h
@[go_sem] theorem J3d {k:Nat} {pa:List PV} {L st:Q0e} {T:List (Nat×Nat)} :(PFS.mk pa L T st).freezeA k=⟨pa.map (PV.frzG k (st.getD k [])),L.map fun l=>l.map (PV.frzG k (st.getD k [])),T,st.set k []⟩:=(rfl)
@[go_sem] theorem Y3c {k:Nat} {cs:List PV} :PV.frzG k cs .junk= .junk:=(rfl)
@[go_sem] theorem w3f {k:Nat} {cs:List PV} {v:Value} :PV.frzG k cs (.sc v)=(.sc v):=(rfl)
@[go_sem] theorem w3h {k:Nat} {cs:List PV} {i o:Nat} :PV.frzG k cs (.lp i o)=(.lp i o):=(rfl)
@[go_sem] theorem w3j {k:Nat} {cs:List PV} {i o:Nat} :PV.frzG k cs (.gp i o)=(.gp i o):=(rfl)
@[go_sem] theorem w3e {k:Nat} {cs:List PV} {t:Tag} {es:List PV} :PV.frzG k cs (.sl t es)=(.sl t es):=(rfl)
@[go_sem] theorem w3l {k:Nat} {cs:List PV} {es:List PV} {o:Nat} :PV.frzG k cs (.ep es o)=(.ep es o):=(rfl)
@[go_sem] theorem q3r {k:Nat} {cs:List PV} {i o n:Nat} :PV.frzG k cs (.ms false i o n)=(.ms false i o n):=(rfl)
@[go_sem] theorem w3g {k:Nat} {cs:List PV} {i n c:Nat} :PV.frzG k cs (.mr i n c)=(.mr i n c):=(rfl)
@[go_sem] theorem q3v {k:Nat} {cs:List PV} {i n c:Nat} :PV.frzG1 k cs (.mr i n c)=(.mr i n c):=(rfl)
@[go_sem] theorem q3q {k:Nat} {cs:List PV} {es:List PV} {n:Nat} :PV.frzG k cs (.pre es n)=(.pre es n):=(rfl)
@[go_sem] theorem J3a {k:Nat} {cs:List PV} :PV.frzG1 k cs .junk= .junk:=(rfl)
@[go_sem] theorem q3u {k:Nat} {cs:List PV} {v:Value} :PV.frzG1 k cs (.sc v)=(.sc v):=(rfl)
@[go_sem] theorem q3w {k:Nat} {cs:List PV} {i o:Nat} :PV.frzG1 k cs (.lp i o)=(.lp i o):=(rfl)
@[go_sem] theorem q3y {k:Nat} {cs:List PV} {i o:Nat} :PV.frzG1 k cs (.gp i o)=(.gp i o):=(rfl)
@[go_sem] theorem q3t {k:Nat} {cs:List PV} {t:Tag} {es:List PV} :PV.frzG1 k cs (.sl t es)=(.sl t es):=(rfl)
@[go_sem] theorem q3z {k:Nat} {cs:List PV} {es:List PV} {o:Nat} :PV.frzG1 k cs (.ep es o)=(.ep es o):=(rfl)
@[go_sem] theorem Y3e {k:Nat} {cs:List PV} {i o n:Nat} :PV.frzG1 k cs (.ms false i o n)=(.ms false i o n):=(rfl)
@[go_sem] theorem Y3d {k:Nat} {cs:List PV} {es:List PV} {n:Nat} :PV.frzG1 k cs (.pre es n)=(.pre es n):=(rfl)
@[go_sem] theorem q3s {k:Nat} {cs l:List PV} :PV.frzG k cs (.agg l)= .agg (l.map (PV.frzG1 k cs)):=(rfl)
@[go_sem] theorem q3p {k:Nat} {cs l:List PV} :PV.frzG k cs (.tup l)= .tup (l.map (PV.frzG1 k cs)):=(rfl)
@[go_sem] theorem w3k {k:Nat} {cs l m:List PV} {f:Fn} :PV.frzG k cs (.fn f l m)= .fn f (l.map (PV.frzG1 k cs)) (m.map (PV.frzG1 k cs)):=(rfl)
theorem Q3n {k off n:Nat} {cs:List PV} (h:off+n≤cs.length):PV.frzG k cs (.ms true k off n)= .sl .no ((cs.drop off).take n):=if_pos ⟨rfl,h⟩
end Go.Pv
end
section
/-Powers,monomials,polynomials,fields:what is right,orders,degrees. No program in it. -/
namespace Go.Pv
theorem j0k (ks:List Int) (i:Nat) (h:i<ks.length):(ks.take (i+1)).sum=(ks.take i).sum+ks.getD i 0:=by
 rw [List.take_add_one,List.sum_append,List.getElem?_eq_getElem h]
 simp [List.getD_eq_getElem?_getD,h]
theorem K1u (ks:List Int) (h: ∀j,j<ks.length→0≤ks.getD j 0): ∀(d i:Nat),i+d=ks.length→(ks.take i).sum≤ks.sum
 | 0,i,e=>by rw [List.take_of_length_le (by omega)];exact Int.le_refl _
 | d+1,i,e=>by
  have h1:=K1u ks h d (i+1) (by omega)
  have h2:=j0k ks i (by omega)
  have h3:=h i (by omega)
  omega
def U0i (ks:List Int):Bool:=ks.all (fun k=>decide (0≤k))&&decide (ks.sum≤8)
theorem Y0d (ks:List Int):U0i ks=true↔(∀j,j<ks.length→0≤ks.getD j 0)∧ks.sum≤8:=by
 unfold U0i
 simp only [Bool.and_eq_true,List.all_eq_true,decide_eq_true_eq]
 constructor
 · rintro⟨h1,h2⟩
   refine⟨fun j hj=> ?_,h2⟩
   have:ks.getD j 0=ks[j]:=by simp [List.getD_eq_getElem?_getD,hj]
   rw [this];exact h1 _ (List.getElem_mem hj)
 · rintro⟨h1,h2⟩
   refine⟨fun k hk=> ?_,h2⟩
   obtain⟨j,hj,e⟩:=List.mem_iff_getElem.1 hk
   have:=h1 j hj
   rw [show ks.getD j 0=ks[j] by simp [List.getD_eq_getElem?_getD,hj],e] at this
   exact this
theorem v1w {ks:List Int} {i:Nat} (h:i<ks.length) (hb:ks.getD i 0<0∨8-(ks.take i).sum<ks.getD i 0):U0i ks=false:=Bool.eq_false_iff.2 fun e=>by
 obtain⟨h1,h2⟩:=(Y0d ks).1 e
 have h3:=h1 i h
 have h4:=K1u ks h1 (ks.length-(i+1)) (i+1) (by omega)
 have h5:=j0k ks i h
 omega
theorem v1f {ks:List Int} (h: ∀j,j<ks.length→0≤ks.getD j 0) (i:Nat) (hi:i≤ks.length):0≤(ks.take i).sum:=by
 induction i with
 | zero=>simp
 | succ i ih=>
  have h2:=j0k ks i (by omega)
  have h3:=h i (by omega)
  have:=ih (by omega)
  omega
theorem J1f {ks:List Int} (h:U0i ks=true) (i:Nat) (hi:i≤ks.length):0≤(ks.take i).sum∧(ks.take i).sum≤8:=by
 obtain⟨h1,h2⟩:=(Y0d ks).1 h
 have h3:=v1f h1 i hi
 have h4:=K1u ks h1 (ks.length-i) i (by omega)
 omega
theorem j0r {ks:List Int} (h:U0i ks=true) (i:Nat) (hi:i<ks.length):0≤ks.getD i 0∧ks.getD i 0≤8:=by
 obtain⟨h1,h2⟩:=(Y0d ks).1 h
 have h3:=J1f h i (by omega)
 have h4:=J1f h (i+1) (by omega)
 have h5:=j0k ks i hi
 have:=h1 i hi
 omega
def v0w (m:Mn) (n:Int):Bool:=decide ((m.ks.length:Int)=n)&&U0i m.ks&&Q0r m.c
theorem q0a (m:Mn) (n:Int):v0w m n=true↔(m.ks.length:Int)=n∧U0i m.ks=true∧Q0r m.c=true:=by
 unfold v0w
 simp only [Bool.and_eq_true,decide_eq_true_eq,and_assoc]
def ordK :List Int→List Int→Int
 | x::a,y::b=>if x>y then 1 else if x<y then -1 else ordK a b
 | _,_=>0
def cmpL :List Int→List Int→Int
 | [],[]=>0
 | [],_::_=> -1
 | _::_,[]=>1
 | x::a,y::b=>if x<y then -1 else if x>y then 1 else cmpL a b
theorem k0n (a:List Int) (i:Nat) (h:i<a.length):a.drop i=a.getD i 0::a.drop (i+1):=by
 rw [List.drop_eq_getElem_cons h]
 simp [List.getD_eq_getElem?_getD,h]
theorem W2j {a b:List Int} {i:Nat} (ha:i<a.length) (hb:i<b.length):cmpL (a.drop i) (b.drop i)=if a.getD i 0<b.getD i 0 then -1 else if a.getD i 0>b.getD i 0 then 1 else cmpL (a.drop (i+1)) (b.drop (i+1)):=by
 rw [k0n a i ha,k0n b i hb,cmpL]
theorem x2i {a b:List Int} {i:Nat} (ha:a.length≤i):cmpL (a.drop i) (b.drop i)=if i<b.length then -1 else 0:=by
 rw [List.drop_of_length_le ha]
 split
 · rename_i h;rw [k0n b i h,cmpL]
 · rename_i h;rw [List.drop_of_length_le (by omega),cmpL]
theorem W2i {a b:List Int} {i:Nat} (ha:i<a.length) (hb:b.length≤i):cmpL (a.drop i) (b.drop i)=1:=by
 rw [List.drop_of_length_le hb,k0n a i ha,cmpL]
theorem j1y : ∀(a b:List Int),a.length=b.length→cmpL b a= -ordK a b
 | [],[],_=>rfl
 | x::a,y::b,h=>by
  rw [cmpL,ordK,j1y a b (by simpa using h)]
  by_cases h1:x>y
  · rw [if_pos (by omega),if_pos h1]
  · rw [if_neg (by omega),if_neg h1]
    by_cases h2:x<y
    · rw [if_pos (by omega),if_pos h2];rfl
    · rw [if_neg (by omega),if_neg h2]
theorem j1a : ∀(a b:List Int),ordK a b=1∨ordK a b=0∨ordK a b= -1
 | [],_=> .inr (.inl rfl)
 | _::_,[]=> .inr (.inl rfl)
 | x::a,y::b=>by
  rw [ordK]
  split
  · exact .inl rfl
  · split
    · exact .inr (.inr rfl)
    · exact j1a a b
def okP (p:List Mn) (n:Int) (i:Nat):Bool:=
 v0w (p.getD i default) n&&decide ((p.getD i default).c.w.length≠0)&&(decide (i=0)||decide (ordK (p.getD (i-1) default).ks (p.getD i default).ks=1))
def J0d (p:List Mn) (n:Int):Bool:=decide (1≤n∧n≤4∧p.length≤24)&&(List.range p.length).all (okP p n)
theorem J0k (p:List Mn) (n:Int):J0d p n=true↔(1≤n∧n≤4∧p.length≤24)∧ ∀i,i<p.length→okP p n i=true:=by
 unfold J0d
 simp only [Bool.and_eq_true,List.all_eq_true,decide_eq_true_eq,List.mem_range]
theorem U0w (p:List Mn) (n:Int) (i:Nat):okP p n i=true↔v0w (p.getD i default) n=true∧(p.getD i default).c.w.length≠0∧(i=0∨ordK (p.getD (i-1) default).ks (p.getD i default).ks=1):=by
 unfold okP
 simp only [Bool.and_eq_true,Bool.or_eq_true,decide_eq_true_eq,and_assoc]
theorem v1t {p:List Mn} {n:Int} {i:Nat} (hi:i<p.length) (h:okP p n i=false):J0d p n=false:=Bool.eq_false_iff.2 fun e=>by
 have:=((J0k p n).1 e).2 i hi
 rw [h] at this;cases this
theorem Y0n {p:List Mn} {n:Int} (h:J0d p n=true) {i:Nat} (hi:i<p.length):((p.getD i default).ks.length:Int)=n∧U0i (p.getD i default).ks=true∧Q0r (p.getD i default).c=true:=(q0a _ _).1 ((U0w _ _ _).1 (((J0k p n).1 h).2 i hi)).1
def V0n (f:List (List Mn)):Bool:=decide (1≤f.length∧f.length≤4)&&f.all (fun p=>J0d p f.length)
theorem Y0e (f:List (List Mn)):V0n f=true↔(1≤f.length∧f.length≤4)∧ ∀i,i<f.length→J0d (f.getD i []) f.length=true:=by
 unfold V0n
 simp only [Bool.and_eq_true,List.all_eq_true,decide_eq_true_eq]
 constructor
 · rintro⟨h1,h2⟩
   refine⟨h1,fun j hj=> ?_⟩
   have:f.getD j []=f[j]:=by simp [List.getD_eq_getElem?_getD,hj]
   rw [this];exact h2 _ (List.getElem_mem hj)
 · rintro⟨h1,h2⟩
   refine⟨h1,fun k hk=> ?_⟩
   obtain⟨j,hj,e⟩:=List.mem_iff_getElem.1 hk
   have:=h2 j hj
   rw [show f.getD j []=f[j] by simp [List.getD_eq_getElem?_getD,hj],e] at this
   exact this
def wK (ks:List Int):Prop:=ks.length≤100000000000∧ ∀i,i<ks.length→ -9223372036854775808≤ks.getD i 0∧ks.getD i 0≤9223372036854775807
def wMn (m:Mn):Prop:=wN m.c∧wK m.ks
def wP (p:List Mn):Prop:=p.length≤100000000000∧ ∀i,i<p.length→wMn (p.getD i default)
def wF (f:List (List Mn)):Prop:=f.length≤100000000000∧ ∀i,i<f.length→wP (f.getD i [])
end Go.Pv
end
section
/-slices.Clone,Equal,Compare of powers;poly.size,mono,ahead. -/
set_option maxRecDepth 100000
namespace Go.Pv
open Go.Proofs
theorem G3b (a b:List Int) (st:Q0e) (ha:wK a) (hb:wK b):PCalls Tryz.prog 272 [.sl .no (encZ a),.sl .no (encZ b)] st (fun r st'=>r= .sc (.int .i64 (cmpL a b))∧st'=st):=by
 have hla:=ha.1
 have hlb:=hb.1
 refine Q0b none Tryz.func272 rfl fun E=>Q0a ?_
 simp -dsimp only [go_sem]
 refine Q0f [true,true,false,false,false,false,false,false,false,true,true,true] 0 0
  (fun n s=> ∃i,n=a.length-i∧i≤a.length∧i≤b.length∧cmpL a b=cmpL (a.drop i) (b.drop i)∧s=⟨[.sl .no (encZ a),.sl .no (encZ b),.junk,.junk,.junk,.junk,.junk,.junk,.junk,.sl .no (encZ a),.sc (.int .i64 a.length),.sc (.int .i64 (i:Nat))]++List.replicate 24 .junk,[],[],st⟩) a.length ?_ ?_
 · simp -dsimp only [go_sem]
   exact⟨0,by omega,by omega,by omega,rfl,rfl⟩
 · rintro n s ⟨i,rfl,hi,hib,hr,rfl⟩
   simp -dsimp only [go_sem]
   refine ck (fun h'=> ?_) (fun h'=> ?_)
   · have hlt:i<a.length:=by have:=of_decide_eq_true h';omega
     have e1:=W0h a i hlt
     have e3:=V0a i (by omega)
     simp -dsimp only [go_sem,e1]
     refine⟨by omega,ck (fun h2=> ?_) (fun h2=> ?_)⟩
     · have hge:b.length≤i:=by have:=of_decide_eq_true h2;omega
       rw [W2i hlt hge] at hr
       simp -dsimp only [go_sem,hr]
     · have hltb:i<b.length:=by have:=of_decide_eq_false h2;omega
       have e2:=W0h b i hltb
       rw [W2j hlt hltb] at hr
       simp -dsimp only [go_sem,e2]
       refine⟨by omega,?_⟩
       refine(y0o (a.getD i 0) (b.getD i 0) _).mono ?_
       rintro r st ⟨rfl,rfl⟩
       simp -dsimp only [go_sem]
       refine ck (fun h3=> ?_) (fun h3=> ?_)
       · have hne:=H0b h3
         have hc:cmpL a b=cmpI (a.getD i 0) (b.getD i 0):=by
          rw [hr];unfold cmpI at hne⊢
          split
          · rfl
          · split
            · rfl
            · rw [if_neg (by omega),if_neg (by omega)] at hne
              exact absurd rfl hne
         simp -dsimp only [go_sem,hc]
       · have hq:=H0i h3
         have hc:cmpL a b=cmpL (a.drop (i+1)) (b.drop (i+1)):=by
          rw [hr];unfold cmpI at hq
          by_cases c1:a.getD i 0<b.getD i 0
          · rw [if_pos c1] at hq;omega
          · rw [if_neg c1] at hq
            by_cases c2:a.getD i 0>b.getD i 0
            · rw [if_pos (by omega)] at hq;omega
            · rw [if_neg c1,if_neg c2]
         simp -dsimp only [go_sem,e3]
         exact⟨a.length-(i+1),by omega,i+1,rfl,by omega,by omega,hc,rfl⟩
   · have hge:i=a.length:=by have:=of_decide_eq_false h';omega
     rw [x2i (by omega)] at hr
     simp -dsimp only [go_sem]
     refine Q0a ?_
     simp -dsimp only [go_sem]
     refine ck (fun h2=> ?_) (fun h2=> ?_)
     · rw [if_pos (by have:=of_decide_eq_true h2;omega)] at hr
       simp -dsimp only [go_sem,hr]
     · rw [if_neg (by have:=of_decide_eq_false h2;omega)] at hr
       simp -dsimp only [go_sem,hr]
theorem w1f (m:Mn) (n:Int) (st:Q0e) (hm:wMn m):PCalls Tryz.prog 259 [.agg (q0g m),.sc (.int .i64 n)] st (fun r st'=>r= .sc (.bool (v0w m n))∧st'=st):=by
 have hl:=hm.2.1
 have hc:=hm.1
 unfold wN at hc
 refine Q0b none Tryz.func259 rfl fun E=>Q0a ?_
 simp -dsimp only [go_sem]
 refine Q0f [false,true,true,false,false,true,false,false,false,true,true,true] 1 0
  (fun k s=> ∃i,k=m.ks.length-i∧i≤m.ks.length∧(∀j,j<i→0≤m.ks.getD j 0)∧0≤(m.ks.take i).sum∧(m.ks.take i).sum≤8∧s=⟨[.junk,.sc (.int .i64 n),.lp 0 0,.junk,.junk,.sc (.int .i64 (8-(m.ks.take i).sum)),.junk,.junk,.junk,.sl .no (encZ m.ks),.sc (.int .i64 m.ks.length),.sc (.int .i64 (i:Nat))]++List.replicate 24 .junk,[q0g m],[],st⟩) m.ks.length ?_ ?_
 · simp -dsimp only [go_sem]
   exact⟨0,by omega,by omega,fun j hj=>by omega,by simp,by simp,by simp⟩
 · rintro k s ⟨i,rfl,hi,hr,h0,h8,rfl⟩
   simp -dsimp only [go_sem]
   refine ck (fun h'=> ?_) (fun h'=> ?_)
   · have hlt:i<m.ks.length:=by have:=of_decide_eq_true h';omega
     have e1:=W0h m.ks i hlt
     have e3:=V0a i (by omega)
     have hk:=hm.2.2 i hlt
     have hs:=j0k m.ks i hlt
     simp -dsimp only [go_sem,e1]
     refine⟨by omega,?_⟩
     have bad:m.ks.getD i 0<0∨8-(m.ks.take i).sum<m.ks.getD i 0→v0w m n=false:=fun hb=>by
      unfold v0w;rw [v1w hlt hb];simp
     refine gkF (fun h2=> ?_) (fun h2=> ?_)
     · have h2':=of_decide_eq_false h2
       simp -dsimp only [go_sem,h2]
       refine ck (fun h3=> ?_) (fun h3=> ?_)
       · have h3':=of_decide_eq_true h3
         have hb:=bad (.inr h3')
         simp -dsimp only [go_sem,hb]
       · have h3':=of_decide_eq_false h3
         have e4:IntKind.i64.wrap (8-(m.ks.take i).sum-m.ks.getD i 0)=8-(m.ks.take (i+1)).sum:=by
          rw [hs,Q0k _ (by omega) (by omega)];omega
         simp -dsimp only [go_sem,e3,e4]
         refine⟨m.ks.length-(i+1),by omega,i+1,rfl,by omega,fun j hj=> ?_,by omega,by omega,rfl⟩
         by_cases e:j=i
         · subst e;omega
         · exact hr j (by omega)
     · have hb:=bad (.inl (of_decide_eq_true h2))
       simp -dsimp only [go_sem,h2,hb]
   · have hge:i=m.ks.length:=by have:=of_decide_eq_false h';omega
     subst hge
     have hk:U0i m.ks=true:=(Y0d _).2 ⟨hr,by rw [List.take_length] at h8;exact h8⟩
     simp -dsimp only [go_sem]
     refine Q0a ?_
     simp -dsimp only [go_sem]
     refine gkT (fun h2=> ?_) (fun h2=> ?_)
     · have h2':(m.ks.length:Int)=n:=by simpa using h2
       simp -dsimp only [go_sem,h2]
       refine(V0h m.c _ (by omega)).mono ?_
       rintro r st ⟨rfl,rfl⟩
       have hv:v0w m n=Q0r m.c:=by unfold v0w;rw [hk,decide_eq_true h2'];simp
       simp -dsimp only [go_sem,h2,hv]
     · have h2': ¬(m.ks.length:Int)=n:=by simpa using h2
       have hv:v0w m n=false:=by unfold v0w;rw [decide_eq_false h2'];simp
       simp -dsimp only [go_sem,h2,hv]
theorem q1c (a b:Mn) (st:Q0e) (ha:wMn a) (hb:wMn b):PCalls Tryz.prog 260 [.agg (q0g a),.agg (q0g b)] st (fun r st'=>r= .sc (.int .i64 (cmpL b.ks a.ks))∧st'=st):=by
 refine Q0b none Tryz.func260 rfl fun E=>Q0a ?_
 simp -dsimp only [go_sem]
 refine(G3b b.ks a.ks _ hb.2 ha.2).mono ?_
 rintro r st ⟨rfl,rfl⟩
 simp -dsimp only [go_sem]
end Go.Pv
end
section
/-poly.Right,Degree,Same;field.Right,Degree,Same. -/
set_option maxRecDepth 100000
namespace Go.Pv
open Go.Proofs
theorem k3w (i:Nat) (h:i<100000000000000) (h0:0<i):IntKind.i64.wrap ((i:Int)-1)=((i-1:Nat):Int):=by rw [Q0k _ (by omega) (by omega)];omega
theorem x0l (p:List Mn) (n:Int) (st:Q0e) (hp:wP p):PCalls Tryz.prog 231 [.sl .no (X0l p),.sc (.int .i64 n)] st (fun r st'=>r= .sc (.bool (J0d p n))∧st'=st):=by
 have hl:=hp.1
 refine Q0b none Tryz.func231 rfl fun E=>Q0a ?_
 simp -dsimp only [go_sem]
 refine Q0f [true,true,false,false,false,false,false,true,true,true] 0 0
  (fun k s=> ∃i,k=p.length-i∧i≤p.length∧(∀j,j<i→okP p n j=true)∧s=⟨[.sl .no (X0l p),.sc (.int .i64 n),.junk,.junk,.junk,.junk,.junk,.sl .no (X0l p),.sc (.int .i64 p.length),.sc (.int .i64 (i:Nat))]++List.replicate 41 .junk,[],[],st⟩) p.length ?_ ?_
 · simp -dsimp only [go_sem]
   exact⟨0,by omega,by omega,fun j hj=>by omega,rfl⟩
 · rintro k s ⟨i,rfl,hi,hr,rfl⟩
   simp -dsimp only [go_sem]
   refine ck (fun h'=> ?_) (fun h'=> ?_)
   · have hlt:i<p.length:=by have:=of_decide_eq_true h';omega
     have e1:=G0l p i hlt
     have e3:=V0a i (by omega)
     have hm:=hp.2 i hlt
     have hmw:=hm.1
     unfold wN at hmw
     simp -dsimp only [go_sem,e1]
     refine⟨by omega,?_⟩
     refine Q0p Z0g 51 (.step 0 [] (.step 1 [] (.step 2 [] (.step 3 [] (.step 4 [] (.step 5 [] (.step 6 [] (.step 7 [] (.step 8 [] (.step 9 [] (.step 10 [] (.step 11 [] (.step 12 [] (.step 13 [] (.step 14 [] (.step 15 [] (.step 16 [] (.step 17 [] (.step 18 [] (.step 19 [] (.step 20 [] (.step 21 [0,7] (.step 22 [] (.step 23 [] (.step 24 [] (.done)))))))))))))))))))))))))) (by decide+kernel) (by simp) ?_
     simp -dsimp only [go_sem,e1]
     refine(w1f (p.getD i default) n _ hm).mono ?_
     rintro r st ⟨rfl,rfl⟩
     have bad:okP p n i=false→J0d p n=false:=fun h=>v1t hlt h
     cases h1:v0w (p.getD i default) n with
     | false=>
      have hb:=bad (by unfold okP;rw [h1];rfl)
      simp -dsimp only [go_sem,h1,hb]
     | true=>
      simp -dsimp only [go_sem,h1]
      refine gkF (fun h2=> ?_) (fun h2=> ?_)
      · have h2':(p.getD i default).c.w.length≠0:=by have:=of_decide_eq_false h2;omega
        simp -dsimp only [go_sem,h2]
        refine gkT (fun h3=> ?_) (fun h3=> ?_)
        · have h3':0<i:=by have:=of_decide_eq_true h3;omega
          have e4:=k3w i (by omega) h3'
          have e5:=G0l p (i-1) (by omega)
          simp -dsimp only [go_sem,h2,h3,e4,e5]
          refine⟨by omega,?_⟩
          refine(q1c (p.getD (i-1) default) (p.getD i default) _ (hp.2 _ (by omega)) hm).mono ?_
          rintro r st ⟨rfl,rfl⟩
          obtain⟨k1,k2,k3⟩:=(q0a _ _).1 h1
          have h0:=(q0a _ _).1 ((U0w _ _ _).1 (hr (i-1) (by omega))).1
          have ho:=j1y (p.getD (i-1) default).ks (p.getD i default).ks (by omega)
          have hv:=j1a (p.getD (i-1) default).ks (p.getD i default).ks
          rw [ho]
          simp -dsimp only [go_sem,h2,h3]
          refine ck (fun h4=> ?_) (fun h4=> ?_)
          · have h4':=of_decide_eq_true h4
            have hb:=bad (Bool.eq_false_iff.2 fun e=>by
             rcases ((U0w _ _ _).1 e).2.2 with h | h<;>omega)
            simp -dsimp only [go_sem,hb]
          · have h4':=of_decide_eq_false h4
            simp -dsimp only [go_sem,e3]
            refine⟨p.length-(i+1),by omega,i+1,rfl,by omega,fun j hj=> ?_,rfl⟩
            by_cases e:j=i
            · subst e;exact(U0w _ _ _).2 ⟨h1,h2',.inr (by omega)⟩
            · exact hr j (by omega)
        · have h3':i=0:=by have:=of_decide_eq_false h3;omega
          simp -dsimp only [go_sem,h2,h3,e3]
          refine⟨p.length-(i+1),by omega,i+1,rfl,by omega,fun j hj=> ?_,rfl⟩
          have e:j=i:=by omega
          subst e;exact(U0w _ _ _).2 ⟨h1,h2',.inl h3'⟩
      · have h2':(p.getD i default).c.w.length=0:=by have:=of_decide_eq_true h2;omega
        have hb:=bad (Bool.eq_false_iff.2 fun e=>((U0w _ _ _).1 e).2.1 h2')
        simp -dsimp only [go_sem,h2,hb]
   · have hge:i=p.length:=by have:=of_decide_eq_false h';omega
     subst hge
     simp -dsimp only [go_sem]
     refine Q0a ?_
     simp -dsimp only [go_sem]
     refine gkT (fun h1=> ?_) (fun h1=> ?_)
     · have h1':=of_decide_eq_true h1
       simp -dsimp only [go_sem,h1]
       refine gkT (fun h2=> ?_) (fun h2=> ?_)
       · have h2':=of_decide_eq_true h2
         have hv:J0d p n=decide ((p.length:Int)≤24):=by
          rw [Bool.eq_iff_iff,J0k,decide_eq_true_iff]
          exact⟨fun h=>by omega,fun h=>⟨⟨h1',h2',by omega⟩,hr⟩⟩
         simp -dsimp only [go_sem,h1,h2,hv]
       · have h2':=of_decide_eq_false h2
         have hv:J0d p n=false:=Bool.eq_false_iff.2 fun e=>h2' ((J0k _ _).1 e).1.2.1
         simp -dsimp only [go_sem,h1,h2,hv]
     · have h1':=of_decide_eq_false h1
       have hv:J0d p n=false:=Bool.eq_false_iff.2 fun e=>h1' ((J0k _ _).1 e).1.1
       simp -dsimp only [go_sem,h1,hv]
theorem w0r (f:List (List Mn)) (st:Q0e) (hf:wF f):PCalls Tryz.prog 170 [.sl .no (X0d f)] st (fun r st'=>r= .sc (.bool (V0n f))∧st'=st):=by
 have hl:=hf.1
 refine Q0b none Tryz.func170 rfl fun E=>Q0a ?_
 simp -dsimp only [go_sem]
 refine Q0f [true,false,false,false,false,true,true,true] 0 0
  (fun n s=> ∃i,n=f.length-i∧i≤f.length∧(∀j,j<i→J0d (f.getD j []) f.length=true)∧s=⟨[.sl .no (X0d f),.junk,.junk,.junk,.junk,.sl .no (X0d f),.sc (.int .i64 f.length),.sc (.int .i64 (i:Nat))]++List.replicate 17 .junk,[],[],st⟩) f.length ?_ ?_
 · simp -dsimp only [go_sem]
   exact⟨0,by omega,by omega,fun j hj=>by omega,rfl⟩
 · rintro n s ⟨i,rfl,hi,hr,rfl⟩
   simp -dsimp only [go_sem]
   refine ck (fun h'=> ?_) (fun h'=> ?_)
   · have hlt:i<f.length:=by have:=of_decide_eq_true h';omega
     have e1:=k0l f i hlt
     have e3:=V0a i (by omega)
     simp -dsimp only [go_sem,e1]
     refine⟨by omega,?_⟩
     refine(x0l _ _ _ (hf.2 i hlt)).mono ?_
     rintro r st ⟨rfl,rfl⟩
     simp -dsimp only [go_sem]
     refine ck (fun h3=> ?_) (fun h3=> ?_)
     · have hb:J0d (f.getD i []) f.length=false:=by simpa using h3
       have hv:V0n f=false:=Bool.eq_false_iff.2 fun e=>by
        have:=((Y0e f).1 e).2 i hlt
        rw [hb] at this;cases this
       simp -dsimp only [go_sem,hv]
     · have ht:J0d (f.getD i []) f.length=true:=by simpa using h3
       simp -dsimp only [go_sem,e3]
       refine⟨f.length-(i+1),by omega,i+1,rfl,by omega,fun j hj=> ?_,rfl⟩
       by_cases e:j=i
       · subst e;exact ht
       · exact hr j (by omega)
   · have hge:i=f.length:=by have:=of_decide_eq_false h';omega
     subst hge
     simp -dsimp only [go_sem]
     refine Q0a ?_
     simp -dsimp only [go_sem]
     refine gkT (fun h=> ?_) (fun h=> ?_)
     · have h1:=of_decide_eq_true h
       have hv:V0n f=decide ((f.length:Int)≤4):=by
        rw [Bool.eq_iff_iff,Y0e,decide_eq_true_iff]
        exact⟨fun h=>by omega,fun h=>⟨⟨by omega,by omega⟩,hr⟩⟩
       simp -dsimp only [go_sem,h,hv]
     · have h1:=of_decide_eq_false h
       have hv:V0n f=false:=Bool.eq_false_iff.2 fun e=>by
        have:=((Y0e f).1 e).1;omega
       simp -dsimp only [go_sem,h,hv]
end Go.Pv
end
section
/-An object of the store that is written no more:within the elements of slices,too,it becomes a plain slice. -/
namespace Go.Pv
section
variable {w:World} {g g':Gh} {F:Fr} {T:List (Nat×Nat)} {k:Nat} {cs:List PV}
end
end Go.Pv
end
