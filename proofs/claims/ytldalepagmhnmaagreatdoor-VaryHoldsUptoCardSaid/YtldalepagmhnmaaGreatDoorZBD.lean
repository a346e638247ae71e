/- Parts of the walk: PvAm, PvAn, M42, N46, N47, N48, PvBa. -/
import Derived.Test.YtldalepagmhnmaaGreatDoorZAN
import Derived.Test.YtldalepagmhnmaaGreatDoorZAF
set_option linter.unusedVariables false
set_option linter.unusedSimpArgs false
section
namespace Go.Pv
structure Mn where
 c:Nm
 ks:List Int
 deriving DecidableEq
instance : Inhabited Mn:=⟨⟨default,[]⟩⟩
def H0q (x:Mn):List PV:= [.sc (.bool x.c.neg),.sc (.int .i64 x.c.exp),.sl .no (encW x.c.w),.sl .no (encZ x.ks)]
attribute [go_sem] H0q
def Z0n (l:List Mn):List PV:=l.map fun c=>(.agg (H0q c))
@[go_sem] theorem Z1o (l:List Mn):(Z0n l).length=l.length:=by simp[Z0n]
@[go_sem] theorem x2g :Z0n []= []:=(rfl)
@[go_sem] theorem K4a (l:List Mn):(Z0n l).all (fun x=>x.cells.length==4)=true:=by simp[Z0n,PV.cells,H0q]
@[go_sem] theorem K4b (l:List Mn):(Z0n l).all (fun x=>(x.cells.length==4)&&x.cells.all PV.cellOK)=true:=by simp[Z0n,PV.cells,PV.cellOK,Value.oneCell',H0q]
@[go_sem] theorem z3x (l:List Mn)(n:Nat):(Z0n l).take n=Z0n (l.take n):=by simp[Z0n]
@[go_sem] theorem z3y (l:List Mn)(n:Nat):(Z0n l).drop n=Z0n (l.drop n):=by simp[Z0n]
@[go_sem] theorem w3u (l m:List Mn):Z0n l++Z0n m=Z0n (l++m):=by simp[Z0n]
@[go_sem] theorem V2y (l:List Mn)(c:Mn):Z0n l++ [.agg (H0q c)]=Z0n (l++ [c]):=by simp[Z0n]
theorem V0i (l:List Mn)(n:Nat)(h:n<l.length):(Z0n l).getD n .junk= .agg (H0q (l.getD n default)):=by simp[Z0n,q_a,h]
@[go_sem] theorem w3t (l:List Mn)(i:Nat)(cs:List PV):(Z0n l).map (PV.frz i cs)=Z0n l:=by simp only[Z0n,List.map_map];exact List.map_congr_left fun a _=>rfl
theorem w1y (l:List Mn): ∀i,i<(Z0n l).length->((Z0n l).getD i .junk).cells.length=4:=fun i hi=>by rw[Z1o] at hi;rw[V0i l i hi];rfl
structure Tm where
 v:Vl
 ks:List Int
instance : Inhabited Tm:=⟨⟨⟨false,0,0⟩,[]⟩⟩
def j0y (x:Tm):List PV:= [.sc (.bool x.v.neg),.sl .no (encD (Q0e x.v.m)),.sc (.int .i64 x.v.e),.sl .no (encZ x.ks)]
attribute [go_sem] j0y
def Z0a (l:List Tm):List PV:=l.map fun c=>(.agg (j0y c))
@[go_sem] theorem V0h (l:List Tm):(Z0a l).length=l.length:=by simp[Z0a]
@[go_sem] theorem x2e :Z0a []= []:=(rfl)
@[go_sem] theorem J4x (l:List Tm):(Z0a l).all (fun x=>x.cells.length==4)=true:=by simp[Z0a,PV.cells,j0y]
@[go_sem] theorem Z3z (l:List Tm):(Z0a l).all (fun x=>(x.cells.length==4)&&x.cells.all PV.cellOK)=true:=by simp[Z0a,PV.cells,PV.cellOK,Value.oneCell',j0y]
@[go_sem] theorem z3v (l:List Tm)(n:Nat):(Z0a l).take n=Z0a (l.take n):=by simp[Z0a]
@[go_sem] theorem z3w (l:List Tm)(n:Nat):(Z0a l).drop n=Z0a (l.drop n):=by simp[Z0a]
@[go_sem] theorem x2f (l m:List Tm):Z0a l++Z0a m=Z0a (l++m):=by simp[Z0a]
@[go_sem] theorem Y1v (l:List Tm)(c:Tm):Z0a l++ [.agg (j0y c)]=Z0a (l++ [c]):=by simp[Z0a]
theorem G0k (l:List Tm)(n:Nat)(h:n<l.length):(Z0a l).getD n .junk= .agg (j0y (l.getD n default)):=by simp[Z0a,q_a,h]
@[go_sem] theorem w3p (l:List Tm)(i:Nat)(cs:List PV):(Z0a l).map (PV.frz i cs)=Z0a l:=by simp only[Z0a,List.map_map];exact List.map_congr_left fun a _=>rfl
def Z0q (l:List (List Mn)):List PV:=l.map fun c=>(.sl .no (Z0n c))
@[go_sem] theorem V3n (l:List (List Mn)):(Z0q l).length=l.length:=by simp[Z0q]
@[go_sem] theorem y3h :Z0q []= []:=(rfl)
@[go_sem] theorem K4k (l:List (List Mn)):(Z0q l).all (fun x=>x.cells.length==1)=true:=by simp[Z0q,PV.cells]
@[go_sem] theorem K4l (l:List (List Mn)):(Z0q l).all (fun x=>(x.cells.length==1)&&x.cells.all PV.cellOK)=true:=by simp[Z0q,PV.cells,PV.cellOK,Value.oneCell']
@[go_sem] theorem x3i (l:List (List Mn))(n:Nat):(Z0q l).take n=Z0q (l.take n):=by simp[Z0q]
@[go_sem] theorem x3k (l:List (List Mn))(n:Nat):(Z0q l).drop n=Z0q (l.drop n):=by simp[Z0q]
@[go_sem] theorem y3j (l m:List (List Mn)):Z0q l++Z0q m=Z0q (l++m):=by simp[Z0q]
@[go_sem] theorem x3j (l:List (List Mn))(c:(List Mn)):Z0q l++ [.sl .no (Z0n c)]=Z0q (l++ [c]):=by simp[Z0q]
theorem Y0x (l:List (List Mn))(n:Nat)(h:n<l.length):(Z0q l).getD n .junk= .sl .no (Z0n (l.getD n [])):=by simp[Z0q,q_a,h]
@[go_sem] theorem y3i (l:List (List Mn))(i:Nat)(cs:List PV):(Z0q l).map (PV.frz i cs)=Z0q l:=by simp only[Z0q,List.map_map];exact List.map_congr_left fun a _=>rfl
def J0k (l:List (List (List Mn))):List PV:=l.map fun c=>(.sl .no (Z0q c))
@[go_sem] theorem V3m (l:List (List (List Mn))):(J0k l).length=l.length:=by simp[J0k]
@[go_sem] theorem y3a :J0k []= []:=(rfl)
@[go_sem] theorem K4g (l:List (List (List Mn))):(J0k l).all (fun x=>x.cells.length==1)=true:=by simp[J0k,PV.cells]
@[go_sem] theorem K4h (l:List (List (List Mn))):(J0k l).all (fun x=>(x.cells.length==1)&&x.cells.all PV.cellOK)=true:=by simp[J0k,PV.cells,PV.cellOK,Value.oneCell']
@[go_sem] theorem x3c (l:List (List (List Mn)))(n:Nat):(J0k l).take n=J0k (l.take n):=by simp[J0k]
@[go_sem] theorem x3e (l:List (List (List Mn)))(n:Nat):(J0k l).drop n=J0k (l.drop n):=by simp[J0k]
@[go_sem] theorem y3d (l m:List (List (List Mn))):J0k l++J0k m=J0k (l++m):=by simp[J0k]
@[go_sem] theorem x3d (l:List (List (List Mn)))(c:(List (List Mn))):J0k l++ [.sl .no (Z0q c)]=J0k (l++ [c]):=by simp[J0k]
theorem j1b (l:List (List (List Mn)))(n:Nat)(h:n<l.length):(J0k l).getD n .junk= .sl .no (Z0q (l.getD n [])):=by simp[J0k,q_a,h]
@[go_sem] theorem y3c (l:List (List (List Mn)))(i:Nat)(cs:List PV):(J0k l).map (PV.frz i cs)=J0k l:=by simp only[J0k,List.map_map];exact List.map_congr_left fun a _=>rfl
def PV.frzG1 (k:Nat)(cs:List PV):PV->PV
 | .ms true k' off len=>if k'=k/\off+len<=cs.length then .sl .no ((cs.drop off).take len) else .ms true k' off len
 | p=>p
def PV.frzG (k:Nat)(cs:List PV):PV->PV
 | .agg l=> .agg (l.map (PV.frzG1 k cs))
 | .tup l=> .tup (l.map (PV.frzG1 k cs))
 | .fn f l m=> .fn f (l.map (PV.frzG1 k cs)) (m.map (PV.frzG1 k cs))
 | p=>p.frzG1 k cs
structure SolidG (w:World) (g':Gh) (k:Nat) (cs:List PV):Prop where
 sl: ∀v off len,k<g'.n->Rep w g' v (.ms true k off len)->off+len<=cs.length->Rep w g' v (.sl .no ((cs.drop off).take len))
section
variable {w:World} {g g':Gh} {F:Fr} {T:List (Nat×Nat)} {k:Nat} {cs:List PV}
theorem RepF.frzG1 {v:Value}{p:PV}(hk:k<g'.n)(hm: ∀v p,RepF w g F T v p->RepF w g' F T v p)(hz:SolidG w g' k cs)(h:RepF w g F T v p):RepF w g' F T v (p.frzG1 k cs):=by
 have h':=hm _ _ h;cases p with
 | ms gl k' off len=>
  cases gl with
  | false=>exact h'
  | true=>
   simp only[PV.frzG1];split;rename_i e;obtain⟨rfl,hle⟩:=e;cases h' with
   | base _ _ h'=>exact .base _ _ (hz.sl _ _ _ hk h' hle)
   exact h'
 | _=>exact h'
theorem RepF.frzG {v:Value}{p:PV}(hk:k<g'.n)(hm: ∀v p,RepF w g F T v p->RepF w g' F T v p)(hz:SolidG w g' k cs)(h:RepF w g F T v p):RepF w g' F T v (p.frzG k cs):=by
 have gm: ∀(l:List PV) (j:Nat),(l.map (PV.frzG1 k cs)).getD j .junk=(l.getD j .junk).frzG1 k cs:=fun l j=>Q0z rfl l j;cases p with
 | agg l=>
  cases h with
  | base _ _ h=>
   cases h with
   | agg vs cs' hl h=>exact .agg vs _ (by simpa using hl) fun j hj=>by rw[gm];exact RepF.frzG1 hk hm hz (.base _ _ (h j (by simpa using hj)))
  | agg vs cs' hl h=>exact .agg vs _ (by simpa using hl) fun j hj=>by rw[gm];exact RepF.frzG1 hk hm hz (h j (by simpa using hj))
 | tup l=>
  cases h with
  | base _ _ h=>
   cases h with
   | tup vs cs' hl h=>exact .tup vs _ (by simpa using hl) fun j hj=>by rw[gm];exact RepF.frzG1 hk hm hz (.base _ _ (h j (by simpa using hj)))
  | tup vs cs' hl h=>exact .tup vs _ (by simpa using hl) fun j hj=>by rw[gm];exact RepF.frzG1 hk hm hz (h j (by simpa using hj))
 | fn f l m=>
  cases h with
  | base _ _ h=>
   cases h with
   | fn f us vs bs cs' hk' hl h0 h=>
    exact .fn f us vs _ _ (by simpa using hk') (by simpa using hl) (fun j hj=>by rw[gm];exact RepF.frzG1 hk hm hz (.base _ _ (h0 j (by simpa using hj)))) fun j hj=>by rw[gm];exact RepF.frzG1 hk hm hz (.base _ _ (h j (by simpa using hj)))
  | fn f us vs bs cs' hk' hl h0 h=>
   exact .fn f us vs _ _ (by simpa using hk') (by simpa using hl) (fun j hj=>by rw[gm];exact RepF.frzG1 hk hm hz (h0 j (by simpa using hj))) fun j hj=>by rw[gm];exact RepF.frzG1 hk hm hz (h j (by simpa using hj))
 | _=>exact RepF.frzG1 hk hm hz h
end
def PFS.freezeA (k:Nat)(s:PFS):PFS:=⟨s.pa.map (PV.frzG k (s.st.getD k [])),s.L.map fun l=>l.map (PV.frzG k (s.st.getD k [])),s.T,s.st.set k []⟩
theorem H1p {E:Ent}{s:PFS}(k:Nat)(hk:k<s.st.length)(hc: ∀p∈s.st.getD k [],p.cells= [p])(h0:s.st.getD k []≠ []):Weak E s (s.freezeA k):=by
 intro a w g F h;have hkn:k<g.n:=(by rw[h.store.n];exact hk);obtain⟨k1,k2⟩:=V1j w g (g.mu k) (s.st.getD k []).length (.inl (h.store.lt k hkn)) h.store.none
 let g':Gh:= { g with vis:=fun c=>if c=g.mu k then max (s.st.getD k []).length (g.vis c) else g.vis c }
 obtain⟨f1,f2⟩:=h.frame.step k1 (fun i hi e=>h.frame.apart i hi k hkn e.symm) (fun i b hi hb e=>(h.frame.tapart i b hi hb).1 k hkn e.symm);have hst:StoreOK w g' (s.st.set k []):=by refine⟨by simpa using h.store.n,h.store.inj,h.store.lt,fun j hj hj0=> ?_,fun j hj=> ?_,k2,h.store.tab.mono k1.le⟩;by_cases e:k=j;subst e;exact absurd (X0g _ _) hj0;rw[Q0i _ _ _ _ _ e] at hj0;have:g'.vis (g.mu j)=g.vis (g.mu j):=if_neg fun e'=>e (h.store.inj j k hj hkn e').symm;exact this.trans (h.store.vis j hj hj0);by_cases e:k=j;subst e;rw[X0g];intro j hj;simp at hj;rw[Q0i _ _ _ _ _ e];exact(h.store.holds j hj).mono rfl fun v p hr=>hr.mono k1.le
 have hz:SolidG w g' k (s.st.getD k []):=⟨fun v off len hkg hv hlen=>by
  cases hv with
  | gms _ _ _ cap hi hcap=>
   have hh:=h.store.holds k hkn;have hex: ∀j,j<(s.st.getD k []).length-> ∃c,w.cell? ⟨g.mu k,j,none⟩=some c/\Rep w g c ((s.st.getD k []).getD j .junk):=fun j hj=>by obtain⟨_,c,q1,q2⟩:=hh j hj;exact⟨c,q1,q2⟩
   let cf:Nat->Value:=fun j=>if hj:j<(s.st.getD k []).length then(hex j hj).choose else undef
   have hcf: ∀j,j<(s.st.getD k []).length->w.cell? ⟨g.mu k,j,none⟩=some (cf j)/\Rep w g (cf j) ((s.st.getD k []).getD j .junk):=fun j hj=>by simp only[cf,dif_pos hj];exact(hex j hj).choose_spec
   have hl:(((s.st.getD k []).drop off).take len).length=len:=by rw[List.length_take,List.length_drop];omega
   have hg: ∀j,j<len->(((s.st.getD k []).drop off).take len).getD j .junk=(s.st.getD k []).getD (off+j) .junk:=fun j hj=>(by simp[q_a,List.getElem?_take,hj,List.getElem?_drop]);have hone: ∀j,j<len->((s.st.getD k []).getD (off+j) .junk).cells= [(s.st.getD k []).getD (off+j) .junk]:=fun j hj=>hc _ (Q0t _ _ _ (by omega));have:=Rep.sl (w:=w) (g:=g') .no (((s.st.getD k []).drop off).take len) (g.mu k) off 1 cap (fun a b=>cf (off+a)) rfl (fun h=>by cases h) (by omega)
    (fun j hj=>by rw[hg j (by omega),hone j (by omega)];rfl)
    (fun _=>by show _<=if g.mu k=g.mu k then max (s.st.getD k []).length (g.vis (g.mu k)) else _;rw[if_pos rfl];have:=Nat.le_max_left (s.st.getD k []).length (g.vis (g.mu k));omega)
    (fun j k2 hj hk2=>by have:k2=0:=(by omega);subst this;simpa using(hcf (off+j) (by omega)).1)
    (fun j k2 hj hk2=>by have:k2=0:=(by omega);subst this;rw[hg j (by omega),hone j (by omega)];exact(hcf (off+j) (by omega)).2.mono k1.le)
   rw[hl] at this;exact this⟩
 have hf: ∀v p,RepF w g F s.T v p->RepF w g' F s.T v (p.frzG k (s.st.getD k [])):=fun v p hp=>RepF.frzG hkn (fun _ _ h=>f2 _ _ h) hz hp;have hL: ∀i,(s.L.map fun l=>l.map (PV.frzG k (s.st.getD k []))).getD i []=(s.L.getD i []).map (PV.frzG k (s.st.getD k [])):=fun i=>K0o (f:=fun l=>l.map (PV.frzG k (s.st.getD k []))) rfl _ _;have hLn: ∀i,(s.L.map fun l=>l.map (PV.frzG k (s.st.getD k []))).getD i []≠ []->s.L.getD i []≠ []:=fun i hi e=>hi (by rw[hL,e];rfl);refine⟨g',F,h.ext.step k1 (fun b hb=> ?_),hst,⟨by simp[PFS.freezeA,f1.nl],fun i hi=>f1.lo i (hLn i hi),fun i hi=>f1.apart i (hLn i hi),fun i j hi hj=>f1.inj i j (hLn i hi) (hLn j hj),fun i hi=> ?_,f1.tlo,fun i b hi hb=>⟨(f1.tapart i b hi hb).1,fun j hj=>(f1.tapart i b hi hb).2 j (hLn j hj)⟩,f1.tinj⟩,h.defers,by simp[PFS.freezeA,h.len],fun j hj=> ?_⟩;subst hb;by_cases hin:k<E.g.n;exact .inr ⟨k,hin,(h.ext.le.mu k hin).symm⟩;exact .inl (h.ext.new k (by omega) hkn);show Holds w _ (F.lmu i) ((s.L.map fun l=>l.map (PV.frzG k (s.st.getD k []))).getD i []);rw[hL];intro j hj;obtain⟨q1,c,q2,q3⟩:=h.frame.holds i (hLn i hi) j (by simpa using hj);exact⟨q1,c,q2,by rw[Q0z (f:=PV.frzG k _) rfl];exact hf _ _ q3⟩;simp only[PFS.freezeA,List.length_map] at hj⊢;rw[Q0z (f:=PV.frzG k _) rfl];exact hf _ _ (h.tmps j hj)
theorem v1n {P:Program}{E:Ent}{c:Code}{Q:Exit->PFS->Prop}{s:PFS}(k:Nat)(hk:k<s.st.length)(hc: ∀p∈s.st.getD k [],p.cells= [p])(h0:s.st.getD k []≠ [])
 (h:PWP P E c Q (s.freezeA k)):PWP P E c Q s:=J0u (H1p k hk hc h0) h
@[go_sem] theorem z3f {k:Nat}{pa:List PV}{L st:Q0f}{T:List (Nat×Nat)} :(PFS.mk pa L T st).freezeA k=⟨pa.map (PV.frzG k (st.getD k [])),L.map fun l=>l.map (PV.frzG k (st.getD k [])),T,st.set k []⟩:=(rfl)
@[go_sem] theorem v3q {k:Nat}{cs:List PV} :PV.frzG k cs .junk= .junk:=(rfl)
@[go_sem] theorem U4q {k:Nat}{cs:List PV}{v:Value} :PV.frzG k cs (.sc v)=(.sc v):=(rfl)
@[go_sem] theorem U4s {k:Nat}{cs:List PV}{i o:Nat} :PV.frzG k cs (.lp i o)=(.lp i o):=(rfl)
@[go_sem] theorem U4u {k:Nat}{cs:List PV}{i o:Nat} :PV.frzG k cs (.gp i o)=(.gp i o):=(rfl)
@[go_sem] theorem U4p {k:Nat}{cs:List PV}{t:Tag}{es:List PV} :PV.frzG k cs (.sl t es)=(.sl t es):=(rfl)
@[go_sem] theorem U4w {k:Nat}{cs:List PV}{es:List PV}{o:Nat} :PV.frzG k cs (.ep es o)=(.ep es o):=(rfl)
@[go_sem] theorem X4x {k:Nat}{cs:List PV}{i o n:Nat} :PV.frzG k cs (.ms false i o n)=(.ms false i o n):=(rfl)
@[go_sem] theorem U4r {k:Nat}{cs:List PV}{i n c:Nat} :PV.frzG k cs (.mr i n c)=(.mr i n c):=(rfl)
@[go_sem] theorem J4b {k:Nat}{cs:List PV}{i n c:Nat} :PV.frzG1 k cs (.mr i n c)=(.mr i n c):=(rfl)
@[go_sem] theorem X4w {k:Nat}{cs:List PV}{es:List PV}{n:Nat} :PV.frzG k cs (.pre es n)=(.pre es n):=(rfl)
@[go_sem] theorem z3c {k:Nat}{cs:List PV} :PV.frzG1 k cs .junk= .junk:=(rfl)
@[go_sem] theorem J4a {k:Nat}{cs:List PV}{v:Value} :PV.frzG1 k cs (.sc v)=(.sc v):=(rfl)
@[go_sem] theorem J4c {k:Nat}{cs:List PV}{i o:Nat} :PV.frzG1 k cs (.lp i o)=(.lp i o):=(rfl)
@[go_sem] theorem J4e {k:Nat}{cs:List PV}{i o:Nat} :PV.frzG1 k cs (.gp i o)=(.gp i o):=(rfl)
@[go_sem] theorem X4z {k:Nat}{cs:List PV}{t:Tag}{es:List PV} :PV.frzG1 k cs (.sl t es)=(.sl t es):=(rfl)
@[go_sem] theorem J4f {k:Nat}{cs:List PV}{es:List PV}{o:Nat} :PV.frzG1 k cs (.ep es o)=(.ep es o):=(rfl)
@[go_sem] theorem v3s {k:Nat}{cs:List PV}{i o n:Nat} :PV.frzG1 k cs (.ms false i o n)=(.ms false i o n):=(rfl)
@[go_sem] theorem v3r {k:Nat}{cs:List PV}{es:List PV}{n:Nat} :PV.frzG1 k cs (.pre es n)=(.pre es n):=(rfl)
@[go_sem] theorem X4y {k:Nat}{cs l:List PV} :PV.frzG k cs (.agg l)= .agg (l.map (PV.frzG1 k cs)):=(rfl)
@[go_sem] theorem X4v {k:Nat}{cs l:List PV} :PV.frzG k cs (.tup l)= .tup (l.map (PV.frzG1 k cs)):=(rfl)
@[go_sem] theorem U4v {k:Nat}{cs l m:List PV}{f:Fn} :PV.frzG k cs (.fn f l m)= .fn f (l.map (PV.frzG1 k cs)) (m.map (PV.frzG1 k cs)):=(rfl)
theorem G3m {k off n:Nat}{cs:List PV}(h:off+n<=cs.length):PV.frzG k cs (.ms true k off n)= .sl .no ((cs.drop off).take n):=if_pos ⟨rfl,h⟩
theorem q0w (ks:List Int)(i:Nat)(h:i<ks.length):(ks.take (i+1)).sum=(ks.take i).sum+ks.getD i 0:=by rw[List.take_add_one,List.sum_append,List.getElem?_eq_getElem h];simp[q_a,h]
theorem U1s (ks:List Int)(h: ∀j,j<ks.length->0<=ks.getD j 0): ∀(d i:Nat),i+d=ks.length->(ks.take i).sum<=ks.sum
 | 0,i,e=>by rw[List.take_of_length_le (by omega)];exact Int.le_refl _
 | d+1,i,e=>by have h1:=U1s ks h d (i+1) (by omega);have h2:=q0w ks i (by omega);have h3:=h i (by omega);omega
def J0w (ks:List Int):Bool:=ks.all (fun k=>decide (0<=k))&&decide (ks.sum<=8)
theorem J0f (ks:List Int):J0w ks=true<->(∀j,j<ks.length->0<=ks.getD j 0)/\ks.sum<=8:=by unfold J0w;simp only[q_i,q_d,decide_eq_true_eq];constructor;rintro⟨h1,h2⟩;refine⟨fun j hj=> ?_,h2⟩;have:ks.getD j 0=ks[j]:=(by simp[q_a,hj]);rw[this];exact h1 _ (List.getElem_mem hj);rintro⟨h1,h2⟩;refine⟨fun k hk=> ?_,h2⟩;obtain⟨j,hj,e⟩:=List.mem_iff_getElem.1 hk;have:=h1 j hj;rw[show ks.getD j 0=ks[j] by simp[q_a,hj],e] at this;exact this
theorem K2i {ks:List Int}{i:Nat}(h:i<ks.length)(hb:ks.getD i 0<0\/8-(ks.take i).sum<ks.getD i 0):J0w ks=false:=Bool.eq_false_iff.2 fun e=>by obtain⟨h1,h2⟩:=(J0f ks).1 e;have h3:=h1 i h;have h4:=U1s ks h1 (ks.length-(i+1)) (i+1) (by omega);have h5:=q0w ks i h;omega
theorem J2p {ks:List Int}(h: ∀j,j<ks.length->0<=ks.getD j 0)(i:Nat)(hi:i<=ks.length):0<=(ks.take i).sum:=by
 induction i with
 | zero=>simp
 | succ i ih=>
  have h2:=q0w ks i (by omega);have h3:=h i (by omega);have:=ih (by omega);omega
theorem q0c {ks:List Int}(h:J0w ks=true)(i:Nat)(hi:i<=ks.length):0<=(ks.take i).sum/\(ks.take i).sum<=8:=by obtain⟨h1,h2⟩:=(J0f ks).1 h;have h3:=J2p h1 i hi;have h4:=U1s ks h1 (ks.length-i) i (by omega);omega
theorem X0n {ks:List Int}(h:J0w ks=true)(i:Nat)(hi:i<ks.length):0<=ks.getD i 0/\ks.getD i 0<=8:=by obtain⟨h1,h2⟩:=(J0f ks).1 h;have h3:=q0c h i (by omega);have h4:=q0c h (i+1) (by omega);have h5:=q0w ks i hi;have:=h1 i hi;omega
def W0p (m:Mn)(n:Int):Bool:=decide ((m.ks.length:Int)=n)&&J0w m.ks&&Q0q m.c
theorem G0e (m:Mn)(n:Int):W0p m n=true<->(m.ks.length:Int)=n/\J0w m.ks=true/\Q0q m.c=true:=by unfold W0p;simp only[q_i,decide_eq_true_eq,and_assoc]
def ordK :List Int->List Int->Int
 | x::a,y::b=>if x>y then 1 else if x<y then -1 else ordK a b
 | _,_=>0
def cmpL :List Int->List Int->Int
 | [],[]=>0
 | [],_::_=> -1
 | _::_,[]=>1
 | x::a,y::b=>if x<y then -1 else if x>y then 1 else cmpL a b
theorem q0m (a:List Int)(i:Nat)(h:i<a.length):a.drop i=a.getD i 0::a.drop (i+1):=by rw[List.drop_eq_getElem_cons h];simp[q_a,h]
theorem G2y {a b:List Int}{i:Nat}(ha:i<a.length)(hb:i<b.length):ordK (a.drop i) (b.drop i)=if a.getD i 0>b.getD i 0 then 1 else if a.getD i 0<b.getD i 0 then -1 else ordK (a.drop (i+1)) (b.drop (i+1)):=by rw[q0m a i ha,q0m b i hb,ordK]
theorem y2f {a b:List Int}{i:Nat}(h:a.length<=i\/b.length<=i):ordK (a.drop i) (b.drop i)=0:=by rcases h with h | h;rw[List.drop_of_length_le h];cases b.drop i<;>rfl;rw[List.drop_of_length_le h];cases a.drop i<;>rfl
theorem j2f {a b:List Int}{i:Nat}(ha:i<a.length)(hb:i<b.length):cmpL (a.drop i) (b.drop i)=if a.getD i 0<b.getD i 0 then -1 else if a.getD i 0>b.getD i 0 then 1 else cmpL (a.drop (i+1)) (b.drop (i+1)):=by rw[q0m a i ha,q0m b i hb,cmpL]
theorem X3p {a b:List Int}{i:Nat}(ha:a.length<=i):cmpL (a.drop i) (b.drop i)=if i<b.length then -1 else 0:=by rw[List.drop_of_length_le ha];split;rename_i h;rw[q0m b i h,cmpL];rename_i h;rw[List.drop_of_length_le (by omega),cmpL]
theorem j2e {a b:List Int}{i:Nat}(ha:i<a.length)(hb:b.length<=i):cmpL (a.drop i) (b.drop i)=1:=by rw[List.drop_of_length_le hb,q0m a i ha,cmpL]
theorem X2k : ∀(a b:List Int),a.length=b.length->cmpL b a= -ordK a b
 | [],[],_=>rfl
 | x::a,y::b,h=>by rw[cmpL,ordK,X2k a b (by simpa using h)];by_cases h1:x>y;rw[if_pos (by omega),if_pos h1];rw[if_neg (by omega),if_neg h1];by_cases h2:x<y;rw[if_pos (by omega),if_pos h2];rfl;rw[if_neg (by omega),if_neg h2]
theorem X1f : ∀(a b:List Int),ordK a b=1\/ordK a b=0\/ordK a b= -1
 | [],_=> .inr (.inl rfl)
 | _::_,[]=> .inr (.inl rfl)
 | x::a,y::b=>by rw[ordK];split;exact .inl rfl;split;exact .inr (.inr rfl);exact X1f a b
def okP (p:List Mn)(n:Int)(i:Nat):Bool:=
 W0p (p.getD i default) n&&decide ((p.getD i default).c.w.length≠0)&&(decide (i=0)||decide (ordK (p.getD (i-1) default).ks (p.getD i default).ks=1))
def X0a (p:List Mn)(n:Int):Bool:=decide (1<=n/\n<=4/\p.length<=24)&&(List.range p.length).all (okP p n)
theorem Z0v (p:List Mn)(n:Int):X0a p n=true<->(1<=n/\n<=4/\p.length<=24)/\ ∀i,i<p.length->okP p n i=true:=by unfold X0a;simp only[q_i,q_d,decide_eq_true_eq,List.mem_range]
theorem V0s (p:List Mn)(n:Int)(i:Nat):okP p n i=true<->W0p (p.getD i default) n=true/\(p.getD i default).c.w.length≠0/\(i=0\/ordK (p.getD (i-1) default).ks (p.getD i default).ks=1):=by unfold okP;simp only[q_i,Bool.or_eq_true,decide_eq_true_eq,and_assoc]
theorem W1w {p:List Mn}{n:Int}{i:Nat}(hi:i<p.length)(h:okP p n i=false):X0a p n=false:=Bool.eq_false_iff.2 fun e=>by have:=((Z0v p n).1 e).2 i hi;rw[h] at this;cases this
theorem V0c {p:List Mn}{n:Int}(h:X0a p n=true){i:Nat}(hi:i<p.length):((p.getD i default).ks.length:Int)=n/\J0w (p.getD i default).ks=true/\Q0q (p.getD i default).c=true:=(G0e _ _).1 ((V0s _ _ _).1 (((Z0v p n).1 h).2 i hi)).1
def K0m (f:List (List Mn)):Bool:=decide (1<=f.length/\f.length<=4)&&f.all (fun p=>X0a p f.length)
theorem J0r (f:List (List Mn)):K0m f=true<->(1<=f.length/\f.length<=4)/\ ∀i,i<f.length->X0a (f.getD i []) f.length=true:=by unfold K0m;simp only[q_i,q_d,decide_eq_true_eq];constructor;rintro⟨h1,h2⟩;refine⟨h1,fun j hj=> ?_⟩;have:f.getD j []=f[j]:=(by simp[q_a,hj]);rw[this];exact h2 _ (List.getElem_mem hj);rintro⟨h1,h2⟩;refine⟨h1,fun k hk=> ?_⟩;obtain⟨j,hj,e⟩:=List.mem_iff_getElem.1 hk;have:=h2 j hj;rw[show f.getD j []=f[j] by simp[q_a,hj],e] at this;exact this
def wK (ks:List Int):Prop:=ks.length<=100000000000/\ ∀i,i<ks.length-> -9223372036854775808<=ks.getD i 0/\ks.getD i 0<=9223372036854775807
def wMn (m:Mn):Prop:=wN m.c/\wK m.ks
def wP (p:List Mn):Prop:=p.length<=100000000000/\ ∀i,i<p.length->wMn (p.getD i default)
def wF (f:List (List Mn)):Prop:=f.length<=100000000000/\ ∀i,i<f.length->wP (f.getD i [])
set_option maxRecDepth 100000
open Go.Proofs
theorem Q4d (a b:List Int)(st:Q0f)(ha:wK a)(hb:wK b):PCalls Tryz.prog 295 [.sl .no (encZ a),.sl .no (encZ b)] st (fun r st'=>r= .sc (.int .i64 (cmpL a b))/\st'=st):=by
 have hla:=ha.1;have hlb:=hb.1;refine Q0b none Tryz.func295 rfl fun E=>Q0a ?_;simp-dsimp only[go_sem];refine Q0d [true,true,false,false,false,false,false,false,false,true,true,true] 0 0
  (fun n s=> ∃i,n=a.length-i/\i<=a.length/\i<=b.length/\cmpL a b=cmpL (a.drop i) (b.drop i)/\s=⟨[.sl .no (encZ a),.sl .no (encZ b),.junk,.junk,.junk,.junk,.junk,.junk,.junk,.sl .no (encZ a),.sc (.int .i64 a.length),.sc (.int .i64 (i:Nat))]++List.replicate 24 .junk,[],[],st⟩) a.length ?_ ?_
 simp-dsimp only[go_sem];exact⟨0,by omega,by omega,by omega,rfl,rfl⟩;rintro n s ⟨i,rfl,hi,hib,hr,rfl⟩;simp-dsimp only[go_sem];refine ck (fun h'=> ?_) (fun h'=> ?_);have hlt:i<a.length:=(by have:=q_b h';omega);have e1:=K0a a i hlt;have e3:=J0n i (by omega);simp-dsimp only[go_sem,e1];refine⟨by omega,ck (fun h2=> ?_) (fun h2=> ?_)⟩;have hge:b.length<=i:=(by have:=q_b h2;omega);rw[j2e hlt hge] at hr;simp-dsimp only[go_sem,hr];have hltb:i<b.length:=(by have:=q_c h2;omega);have e2:=K0a b i hltb;rw[j2f hlt hltb] at hr;simp-dsimp only[go_sem,e2];refine⟨by omega,?_⟩;refine(X1k (a.getD i 0) (b.getD i 0) _).mono ?_;rintro r st ⟨rfl,rfl⟩;simp-dsimp only[go_sem];refine ck (fun h3=> ?_) (fun h3=> ?_);have hne:=G0x h3;have hc:cmpL a b=cmpI (a.getD i 0) (b.getD i 0):=by rw[hr];unfold cmpI at hne⊢;split;rfl;split;rfl;rw[if_neg (by omega),if_neg (by omega)] at hne;exact absurd rfl hne
 simp-dsimp only[go_sem,hc];have hq:=H0t h3;have hc:cmpL a b=cmpL (a.drop (i+1)) (b.drop (i+1)):=by rw[hr];unfold cmpI at hq;by_cases c1:a.getD i 0<b.getD i 0;rw[if_pos c1] at hq;omega;rw[if_neg c1] at hq;by_cases c2:a.getD i 0>b.getD i 0;rw[if_pos (by omega)] at hq;omega;rw[if_neg c1,if_neg c2]
 simp-dsimp only[go_sem,e3];exact⟨a.length-(i+1),by omega,i+1,rfl,by omega,by omega,hc,rfl⟩;have hge:i=a.length:=(by have:=q_c h';omega);rw[X3p (by omega)] at hr;simp-dsimp only[go_sem];refine Q0a ?_;simp-dsimp only[go_sem];refine ck (fun h2=> ?_) (fun h2=> ?_);rw[if_pos (by have:=q_b h2;omega)] at hr;simp-dsimp only[go_sem,hr];rw[if_neg (by have:=q_c h2;omega)] at hr;simp-dsimp only[go_sem,hr]
theorem K2r (m:Mn)(n:Int)(st:Q0f)(hm:wMn m):PCalls Tryz.prog 261 [.agg (H0q m),.sc (.int .i64 n)] st (fun r st'=>r= .sc (.bool (W0p m n))/\st'=st):=by
 have hl:=hm.2.1;have hc:=hm.1;unfold wN at hc;refine Q0b none Tryz.func261 rfl fun E=>Q0a ?_;simp-dsimp only[go_sem];refine Q0d [false,true,true,false,false,true,false,false,false,true,true,true] 1 0
  (fun k s=> ∃i,k=m.ks.length-i/\i<=m.ks.length/\(∀j,j<i->0<=m.ks.getD j 0)/\0<=(m.ks.take i).sum/\(m.ks.take i).sum<=8/\s=⟨[.junk,.sc (.int .i64 n),.lp 0 0,.junk,.junk,.sc (.int .i64 (8-(m.ks.take i).sum)),.junk,.junk,.junk,.sl .no (encZ m.ks),.sc (.int .i64 m.ks.length),.sc (.int .i64 (i:Nat))]++List.replicate 24 .junk,[H0q m],[],st⟩) m.ks.length ?_ ?_
 simp-dsimp only[go_sem];exact⟨0,by omega,by omega,fun j hj=>by omega,by simp,by simp,by simp⟩;rintro k s ⟨i,rfl,hi,hr,h0,h8,rfl⟩;simp-dsimp only[go_sem];refine ck (fun h'=> ?_) (fun h'=> ?_);have hlt:i<m.ks.length:=(by have:=q_b h';omega);have e1:=K0a m.ks i hlt;have e3:=J0n i (by omega);have hk:=hm.2.2 i hlt;have hs:=q0w m.ks i hlt;simp-dsimp only[go_sem,e1];refine⟨by omega,?_⟩;have bad:m.ks.getD i 0<0\/8-(m.ks.take i).sum<m.ks.getD i 0->W0p m n=false:=fun hb=>by unfold W0p;rw[K2i hlt hb];simp
 refine gkF (fun h2=> ?_) (fun h2=> ?_);have h2':=q_c h2;simp-dsimp only[go_sem,h2];refine ck (fun h3=> ?_) (fun h3=> ?_);have h3':=q_b h3;have hb:=bad (.inr h3');simp-dsimp only[go_sem,hb];have h3':=q_c h3;have e4:IntKind.i64.wrap (8-(m.ks.take i).sum-m.ks.getD i 0)=8-(m.ks.take (i+1)).sum:=by rw[hs,Q0l _ (by omega) (by omega)];omega
 simp-dsimp only[go_sem,e3,e4];refine⟨m.ks.length-(i+1),by omega,i+1,rfl,by omega,fun j hj=> ?_,by omega,by omega,rfl⟩;by_cases e:j=i;subst e;omega;exact hr j (by omega);have hb:=bad (.inl (q_b h2));simp-dsimp only[go_sem,h2,hb];have hge:i=m.ks.length:=(by have:=q_c h';omega);subst hge;have hk:J0w m.ks=true:=(J0f _).2 ⟨hr,by rw[List.take_length] at h8;exact h8⟩;simp-dsimp only[go_sem];refine Q0a ?_;simp-dsimp only[go_sem];refine gkT (fun h2=> ?_) (fun h2=> ?_);have h2':(m.ks.length:Int)=n:=(by simpa using h2);simp-dsimp only[go_sem,h2];refine(W0l m.c _ (by omega)).mono ?_;rintro r st ⟨rfl,rfl⟩;have hv:W0p m n=Q0q m.c:=(by unfold W0p;rw[hk,q_h h2'];simp);simp-dsimp only[go_sem,h2,hv];have h2': ¬(m.ks.length:Int)=n:=(by simpa using h2);have hv:W0p m n=false:=(by unfold W0p;rw[q_g h2'];simp);simp-dsimp only[go_sem,h2,hv]
theorem v1r (a b:Mn)(st:Q0f)(ha:wMn a)(hb:wMn b):PCalls Tryz.prog 262 [.agg (H0q a),.agg (H0q b)] st (fun r st'=>r= .sc (.int .i64 (cmpL b.ks a.ks))/\st'=st):=by refine Q0b none Tryz.func262 rfl fun E=>Q0a ?_;simp-dsimp only[go_sem];refine(Q4d b.ks a.ks _ hb.2 ha.2).mono ?_;rintro r st ⟨rfl,rfl⟩;simp-dsimp only[go_sem]
theorem k3j (i:Nat)(h:i<100000000000000)(h0:0<i):IntKind.i64.wrap ((i:Int)-1)=((i-1:Nat):Int):=by rw[Q0l _ (by omega) (by omega)];omega
theorem k0s (p:List Mn)(n:Int)(st:Q0f)(hp:wP p):PCalls Tryz.prog 211 [.sl .no (Z0n p),.sc (.int .i64 n)] st (fun r st'=>r= .sc (.bool (X0a p n))/\st'=st):=by
 have hl:=hp.1;refine Q0b none Tryz.func211 rfl fun E=>Q0a ?_;simp-dsimp only[go_sem];refine Q0d [true,true,false,false,false,false,false,true,true,true] 0 0
  (fun k s=> ∃i,k=p.length-i/\i<=p.length/\(∀j,j<i->okP p n j=true)/\s=⟨[.sl .no (Z0n p),.sc (.int .i64 n),.junk,.junk,.junk,.junk,.junk,.sl .no (Z0n p),.sc (.int .i64 p.length),.sc (.int .i64 (i:Nat))]++List.replicate 41 .junk,[],[],st⟩) p.length ?_ ?_
 simp-dsimp only[go_sem];exact⟨0,by omega,by omega,fun j hj=>by omega,rfl⟩;rintro k s ⟨i,rfl,hi,hr,rfl⟩;simp-dsimp only[go_sem];refine ck (fun h'=> ?_) (fun h'=> ?_);have hlt:i<p.length:=(by have:=q_b h';omega);have e1:=V0i p i hlt;have e3:=J0n i (by omega);have hm:=hp.2 i hlt;have hmw:=hm.1;unfold wN at hmw;simp-dsimp only[go_sem,e1];refine⟨by omega,?_⟩;refine Q0o Z0m 51 (.step 0 [] (.step 1 [] (.step 2 [] (.step 3 [] (.step 4 [] (.step 5 [] (.step 6 [] (.step 7 [] (.step 8 [] (.step 9 [] (.step 10 [] (.step 11 [] (.step 12 [] (.step 13 [] (.step 14 [] (.step 15 [] (.step 16 [] (.step 17 [] (.step 18 [] (.step 19 [] (.step 20 [] (.step 21 [0,7] (.step 22 [] (.step 23 [] (.step 24 [] (.done)))))))))))))))))))))))))) (by decide+kernel) (by simp) ?_;simp-dsimp only[go_sem,e1];refine(K2r (p.getD i default) n _ hm).mono ?_;rintro r st ⟨rfl,rfl⟩;have bad:okP p n i=false->X0a p n=false:=fun h=>W1w hlt h;cases h1:W0p (p.getD i default) n with
 | false=>
  have hb:=bad (by unfold okP;rw[h1];rfl);simp-dsimp only[go_sem,h1,hb]
 | true=>
  simp-dsimp only[go_sem,h1];refine gkF (fun h2=> ?_) (fun h2=> ?_);have h2':(p.getD i default).c.w.length≠0:=(by have:=q_c h2;omega);simp-dsimp only[go_sem,h2];refine gkT (fun h3=> ?_) (fun h3=> ?_);have h3':0<i:=(by have:=q_b h3;omega);have e4:=k3j i (by omega) h3';have e5:=V0i p (i-1) (by omega);simp-dsimp only[go_sem,h2,h3,e4,e5];refine⟨by omega,?_⟩;refine(v1r (p.getD (i-1) default) (p.getD i default) _ (hp.2 _ (by omega)) hm).mono ?_;rintro r st ⟨rfl,rfl⟩;obtain⟨k1,k2,k3⟩:=(G0e _ _).1 h1;have h0:=(G0e _ _).1 ((V0s _ _ _).1 (hr (i-1) (by omega))).1;have ho:=X2k (p.getD (i-1) default).ks (p.getD i default).ks (by omega);have hv:=X1f (p.getD (i-1) default).ks (p.getD i default).ks;rw[ho];simp-dsimp only[go_sem,h2,h3];refine ck (fun h4=> ?_) (fun h4=> ?_);have h4':=q_b h4;have hb:=bad (Bool.eq_false_iff.2 fun e=>by rcases ((V0s _ _ _).1 e).2.2 with h | h<;>omega);simp-dsimp only[go_sem,hb];have h4':=q_c h4;simp-dsimp only[go_sem,e3];refine⟨p.length-(i+1),by omega,i+1,rfl,by omega,fun j hj=> ?_,rfl⟩;by_cases e:j=i;subst e;exact(V0s _ _ _).2 ⟨h1,h2',.inr (by omega)⟩;exact hr j (by omega);have h3':i=0:=(by have:=q_c h3;omega);simp-dsimp only[go_sem,h2,h3,e3];refine⟨p.length-(i+1),by omega,i+1,rfl,by omega,fun j hj=> ?_,rfl⟩;have e:j=i:=(by omega);subst e;exact(V0s _ _ _).2 ⟨h1,h2',.inl h3'⟩;have h2':(p.getD i default).c.w.length=0:=(by have:=q_b h2;omega);have hb:=bad (Bool.eq_false_iff.2 fun e=>((V0s _ _ _).1 e).2.1 h2');simp-dsimp only[go_sem,h2,hb]
 have hge:i=p.length:=by have:=q_c h';omega
 subst hge;simp-dsimp only[go_sem];refine Q0a ?_;simp-dsimp only[go_sem];refine gkT (fun h1=> ?_) (fun h1=> ?_);have h1':=q_b h1;simp-dsimp only[go_sem,h1];refine gkT (fun h2=> ?_) (fun h2=> ?_);have h2':=q_b h2;have hv:X0a p n=decide ((p.length:Int)<=24):=by rw[Bool.eq_iff_iff,Z0v,decide_eq_true_iff];exact⟨fun h=>by omega,fun h=>⟨⟨h1',h2',by omega⟩,hr⟩⟩
 simp-dsimp only[go_sem,h1,h2,hv];have h2':=q_c h2;have hv:X0a p n=false:=Bool.eq_false_iff.2 fun e=>h2' ((Z0v _ _).1 e).1.2.1;simp-dsimp only[go_sem,h1,h2,hv];have h1':=q_c h1;have hv:X0a p n=false:=Bool.eq_false_iff.2 fun e=>h1' ((Z0v _ _).1 e).1.1;simp-dsimp only[go_sem,h1,hv]
theorem Z1l (f:List (List Mn))(st:Q0f)(hf:wF f):PCalls Tryz.prog 147 [.sl .no (Z0q f)] st (fun r st'=>r= .sc (.bool (K0m f))/\st'=st):=by
 have hl:=hf.1;refine Q0b none Tryz.func147 rfl fun E=>Q0a ?_;simp-dsimp only[go_sem];refine Q0d [true,false,false,false,false,true,true,true] 0 0
  (fun n s=> ∃i,n=f.length-i/\i<=f.length/\(∀j,j<i->X0a (f.getD j []) f.length=true)/\s=⟨[.sl .no (Z0q f),.junk,.junk,.junk,.junk,.sl .no (Z0q f),.sc (.int .i64 f.length),.sc (.int .i64 (i:Nat))]++List.replicate 17 .junk,[],[],st⟩) f.length ?_ ?_
 simp-dsimp only[go_sem];exact⟨0,by omega,by omega,fun j hj=>by omega,rfl⟩;rintro n s ⟨i,rfl,hi,hr,rfl⟩;simp-dsimp only[go_sem];refine ck (fun h'=> ?_) (fun h'=> ?_);have hlt:i<f.length:=(by have:=q_b h';omega);have e1:=Y0x f i hlt;have e3:=J0n i (by omega);simp-dsimp only[go_sem,e1];refine⟨by omega,?_⟩;refine(k0s _ _ _ (hf.2 i hlt)).mono ?_;rintro r st ⟨rfl,rfl⟩;simp-dsimp only[go_sem];refine ck (fun h3=> ?_) (fun h3=> ?_);have hb:X0a (f.getD i []) f.length=false:=(by simpa using h3);have hv:K0m f=false:=Bool.eq_false_iff.2 fun e=>by have:=((J0r f).1 e).2 i hlt;rw[hb] at this;cases this
 simp-dsimp only[go_sem,hv];have ht:X0a (f.getD i []) f.length=true:=(by simpa using h3);simp-dsimp only[go_sem,e3];refine⟨f.length-(i+1),by omega,i+1,rfl,by omega,fun j hj=> ?_,rfl⟩;by_cases e:j=i;subst e;exact ht;exact hr j (by omega);have hge:i=f.length:=(by have:=q_c h';omega);subst hge;simp-dsimp only[go_sem];refine Q0a ?_;simp-dsimp only[go_sem];refine gkT (fun h=> ?_) (fun h=> ?_);have h1:=q_b h;have hv:K0m f=decide ((f.length:Int)<=4):=by rw[Bool.eq_iff_iff,J0r,decide_eq_true_iff];exact⟨fun h=>by omega,fun h=>⟨⟨by omega,by omega⟩,hr⟩⟩
 simp-dsimp only[go_sem,h,hv];have h1:=q_c h;have hv:K0m f=false:=Bool.eq_false_iff.2 fun e=>by have:=((J0r f).1 e).1;omega
 simp-dsimp only[go_sem,h,hv]
theorem j0i (a b:List Int)(st:Q0f)(ha:wK a)(hb:wK b):PCalls Tryz.prog 256 [.sl .no (encZ a),.sl .no (encZ b)] st (fun r st'=>r= .sc (.int .i64 (ordK a b))/\st'=st):=by
 have hla:=ha.1;have hlb:=hb.1;refine Q0b none Tryz.func256 rfl fun E=>Q0a ?_;simp-dsimp only[go_sem];refine Q0d [true,true,false,false,false,true] 0 0
  (fun n s=> ∃i,n=a.length-i/\i<=a.length/\i<=b.length/\ordK a b=ordK (a.drop i) (b.drop i)/\s=⟨[.sl .no (encZ a),.sl .no (encZ b),.junk,.junk,.junk,.sc (.int .i64 (i:Nat))]++List.replicate 30 .junk,[],[],st⟩) a.length ?_ ?_
 simp-dsimp only[go_sem];exact⟨0,by omega,by omega,by omega,rfl,rfl⟩;rintro n s ⟨i,rfl,hi,hib,hr,rfl⟩;have done:(a.length<=i\/b.length<=i)->ordK a b=0:=fun h=>(by rw[hr];exact y2f h);simp-dsimp only[go_sem];refine gkT (fun h1=> ?_) (fun h1=> ?_);have hlt:i<a.length:=(by have:=q_b h1;omega);simp-dsimp only[go_sem,h1];refine ck (fun h2=> ?_) (fun h2=> ?_);have hltb:i<b.length:=(by have:=q_b h2;omega);have e1:=K0a a i hlt;have e2:=K0a b i hltb;have e3:=J0n i (by omega);rw[G2y hlt hltb] at hr;simp-dsimp only[go_sem];refine Q0o Z0m 36 (.step 0 [] (.step 1 [] (.step 2 [] (.step 3 [] (.step 4 [] (.step 5 [] (.step 6 [] (.step 7 [] (.step 8 [] (.done)))))))))) (by decide+kernel) (by simp) ?_;simp-dsimp only[go_sem,e1,e2];refine⟨by omega,by omega,ck (fun h3=> ?_) (fun h3=> ?_)⟩;rw[if_pos (q_b h3)] at hr;simp-dsimp only[go_sem,hr];rw[if_neg (q_c h3)] at hr;simp-dsimp only[go_sem];refine Q0o Z0m 36 (.step 0 [] (.step 1 [] (.step 2 [] (.step 3 [] (.step 4 [] (.step 5 [] (.step 6 [] (.step 7 [] (.step 8 [] (.done)))))))))) (by decide+kernel) (by simp) ?_;simp-dsimp only[go_sem,e1,e2];refine⟨by omega,by omega,ck (fun h4=> ?_) (fun h4=> ?_)⟩;rw[if_pos (q_b h4)] at hr;simp-dsimp only[go_sem,hr];rw[if_neg (q_c h4)] at hr;simp-dsimp only[go_sem,e3];exact⟨a.length-(i+1),by omega,i+1,rfl,by omega,by omega,hr,rfl⟩;have h0:=done (.inr (by have:=q_c h2;omega));simp-dsimp only[go_sem];refine Q0a ?_;simp-dsimp only[go_sem,h0];have h0:=done (.inl (by have:=q_c h1;omega));simp-dsimp only[go_sem,h1];refine Q0a ?_;simp-dsimp only[go_sem,h0]
theorem q1w (m:Mn)(n:Int)(st:Q0f)(hm:wMn m)(hn:n<=4):PCalls Tryz.prog 198 [.agg (H0q m),.sc (.int .i64 n)] st (fun r st'=>r= .sc (.bool (W0p m n))/\st'=st):=by
 have hl:=hm.2.1;have hc:=hm.1;unfold wN at hc;refine Q0b none Tryz.func198 rfl fun E=>Q0a ?_;simp-dsimp only[go_sem];refine Q0d [false,true,true,false,false,true,true] 1 0
  (fun k s=> ∃i,k=m.ks.length-i/\i<=m.ks.length/\i<=4/\(∀j,j<i->0<=m.ks.getD j 0)/\0<=(m.ks.take i).sum/\(m.ks.take i).sum<=8*i/\s=⟨[.junk,.sc (.int .i64 n),.lp 0 0,.junk,.junk,.sc (.int .i64 (m.ks.take i).sum),.sc (.int .i64 (i:Nat))]++List.replicate 46 .junk,[H0q m],[],st⟩) m.ks.length ?_ ?_
 simp-dsimp only[go_sem];exact⟨0,by omega,by omega,by omega,fun j hj=>by omega,by simp,by simp,by simp⟩;rintro k s ⟨i,rfl,hi,hi4,hr,h0,h8,rfl⟩;have bad:i<m.ks.length->(m.ks.getD i 0<0\/8<m.ks.getD i 0)->W0p m n=false:=fun hlt hb=>by
  have hk:J0w m.ks=false:=Bool.eq_false_iff.2 fun e=>by have:=X0n (ks:=m.ks) e i hlt;omega
  unfold W0p;rw[hk];simp
 simp-dsimp only[go_sem];refine gkT (fun h1=> ?_) (fun h1=> ?_);have hlt:i<m.ks.length:=(by have:=q_b h1;omega);simp-dsimp only[go_sem,h1];refine ck (fun h2=> ?_) (fun h2=> ?_);have hlt4:i<4:=(by have:=q_b h2;omega);have e1:=K0a m.ks i hlt;have e3:=J0n i (by omega);have hs:=q0w m.ks i hlt;simp-dsimp only[go_sem,e1];refine⟨by omega,?_⟩;refine gkF (fun h3=> ?_) (fun h3=> ?_);have h3':=q_c h3;simp-dsimp only[go_sem,h3,e1];refine⟨by omega,ck (fun h4=> ?_) (fun h4=> ?_)⟩;have hb:=bad hlt (.inr (q_b h4));simp-dsimp only[go_sem,hb];have h4':=q_c h4;have e4:IntKind.i64.wrap ((m.ks.take i).sum+m.ks.getD i 0)=(m.ks.take (i+1)).sum:=by rw[hs];exact Q0l _ (by omega) (by omega)
 simp-dsimp only[go_sem,e1];refine⟨by omega,?_⟩;simp-dsimp only[go_sem,e3,e4];refine⟨m.ks.length-(i+1),by omega,i+1,rfl,by omega,by omega,fun j hj=> ?_,by omega,by omega,rfl⟩;by_cases e:j=i;subst e;omega;exact hr j (by omega);have hb:=bad hlt (.inl (q_b h3));simp-dsimp only[go_sem,h3,hb];have hfin:m.ks.length<=i\/4<=i:= .inr (by have:=q_c h2;omega);clear h1 h2;simp-dsimp only[go_sem];refine Q0a ?_;simp-dsimp only[go_sem];refine gkT (fun h2=> ?_) (fun h2=> ?_);have h2':(m.ks.length:Int)=n:=(by simpa using h2);have hge:i=m.ks.length:=(by omega);subst hge;rw[List.take_length] at h0 h8;simp-dsimp only[go_sem,h2,List.take_length];refine gkT (fun h3=> ?_) (fun h3=> ?_);have h3':=q_b h3;simp-dsimp only[go_sem,h2,h3];refine(j0h m.c _ (by omega)).mono ?_;rintro r st ⟨rfl,rfl⟩;have hv:W0p m n=Q0q m.c:=(by unfold W0p;rw[(J0f _).2 ⟨hr,h3'⟩,q_h h2'];simp);simp-dsimp only[go_sem,h2,h3,hv];have h3':=q_c h3;have hk:J0w m.ks=false:=Bool.eq_false_iff.2 fun e=>h3' ((J0f m.ks).1 e).2;have hv:W0p m n=false:=(by unfold W0p;rw[hk];simp);simp-dsimp only[go_sem,h2,h3,hv];have h2': ¬(m.ks.length:Int)=n:=(by simpa using h2);have hv:W0p m n=false:=(by unfold W0p;rw[q_g h2'];simp);simp-dsimp only[go_sem,h2,hv];have hfin:m.ks.length<=i\/4<=i:= .inl (by have:=q_c h1;omega);simp-dsimp only[go_sem,h1];clear h1;refine Q0a ?_;simp-dsimp only[go_sem];refine gkT (fun h2=> ?_) (fun h2=> ?_);have h2':(m.ks.length:Int)=n:=(by simpa using h2);have hge:i=m.ks.length:=(by omega);subst hge;rw[List.take_length] at h0 h8;simp-dsimp only[go_sem,h2,List.take_length];refine gkT (fun h3=> ?_) (fun h3=> ?_);have h3':=q_b h3;simp-dsimp only[go_sem,h2,h3];refine(j0h m.c _ (by omega)).mono ?_;rintro r st ⟨rfl,rfl⟩;have hv:W0p m n=Q0q m.c:=(by unfold W0p;rw[(J0f _).2 ⟨hr,h3'⟩,q_h h2'];simp);simp-dsimp only[go_sem,h2,h3,hv];have h3':=q_c h3;have hk:J0w m.ks=false:=Bool.eq_false_iff.2 fun e=>h3' ((J0f m.ks).1 e).2;have hv:W0p m n=false:=(by unfold W0p;rw[hk];simp);simp-dsimp only[go_sem,h2,h3,hv];have h2': ¬(m.ks.length:Int)=n:=(by simpa using h2);have hv:W0p m n=false:=(by unfold W0p;rw[q_g h2'];simp);simp-dsimp only[go_sem,h2,hv]
theorem k0d (p:List Mn)(n:Int)(st:Q0f)(hp:wP p):PCalls Tryz.prog 220 [.sl .no (Z0n p),.sc (.int .i64 n)] st (fun r st'=>r= .sc (.bool (X0a p n))/\st'=st):=by
 have hl:=hp.1;refine Q0b none Tryz.func220 rfl fun E=>Q0a ?_;have bad0: ¬(1<=n/\n<=4/\p.length<=24)->X0a p n=false:=fun h=>Bool.eq_false_iff.2 fun e=>h ((Z0v p n).1 e).1;simp-dsimp only[go_sem];refine gkF (fun g1=> ?_) (fun g1=> ?_);have g1':=q_c g1;simp-dsimp only[go_sem,g1];refine gkF (fun g2=> ?_) (fun g2=> ?_);have g2':=q_c g2;simp-dsimp only[go_sem,g1,g2];refine ck (fun g3=> ?_) (fun g3=> ?_);have hb:=bad0 (by have:=q_b g3;omega);simp-dsimp only[go_sem,hb];have g3':=q_c g3;simp-dsimp only[go_sem];refine Q0d [true,true,false,false,false,true] 0 0
  (fun k s=> ∃i,k=p.length-i/\i<=p.length/\(∀j,j<i->okP p n j=true)/\s=⟨[.sl .no (Z0n p),.sc (.int .i64 n),.junk,.junk,.junk,.sc (.int .i64 (i:Nat))]++List.replicate 53 .junk,[],[],st⟩) p.length ?_ ?_
 simp-dsimp only[go_sem];exact⟨0,by omega,by omega,fun j hj=>by omega,rfl⟩;rintro k s ⟨i,rfl,hi,hr,rfl⟩;simp-dsimp only[go_sem];refine ck (fun h'=> ?_) (fun h'=> ?_);have hlt:i<p.length:=(by have:=q_b h';omega);have e1:=V0i p i hlt;have e3:=J0n i (by omega);have hm:=hp.2 i hlt;simp-dsimp only[go_sem];refine Q0o Z0m 59 (.step 0 [] (.step 1 [] (.step 2 [] (.step 3 [] (.step 4 [] (.step 5 [] (.step 6 [] (.step 7 [] (.step 8 [] (.step 9 [] (.step 10 [] (.step 11 [] (.step 12 [] (.step 13 [] (.step 14 [] (.step 15 [] (.step 16 [] (.step 17 [] (.step 18 [] (.step 19 [] (.step 20 [] (.step 21 [] (.step 22 [] (.step 23 [] (.step 24 [] (.step 25 [] (.step 26 [] (.step 27 [] (.step 28 [] (.step 29 [] (.step 30 [] (.step 31 [] (.step 32 [3,13] (.step 33 [] (.step 34 [] (.step 35 [] (.done))))))))))))))))))))))))))))))))))))) (by decide+kernel) (by simp) ?_;simp-dsimp only[go_sem,e1];refine⟨by omega,?_⟩;refine(q1w (p.getD i default) n _ hm (by omega)).mono ?_;rintro r st ⟨rfl,rfl⟩;have bad:okP p n i=false->X0a p n=false:=fun h=>W1w hlt h;cases h1:W0p (p.getD i default) n with
 | false=>
  have hb:=bad (by unfold okP;rw[h1];rfl);simp-dsimp only[go_sem,h1,hb]
 | true=>
  simp-dsimp only[go_sem,h1,e1];refine⟨by omega,?_⟩;refine gkF (fun h2=> ?_) (fun h2=> ?_);have h2':(p.getD i default).c.w.length≠0:=(by have:=q_c h2;omega);simp-dsimp only[go_sem,h2];refine gkT (fun h3=> ?_) (fun h3=> ?_);have h3':0<i:=(by have:=q_b h3;omega);have e4:=k3j i (by omega) h3';have e5:=V0i p (i-1) (by omega);simp-dsimp only[go_sem,h2,h3,e1,e4,e5];refine⟨by omega,by omega,?_⟩;refine(j0i (p.getD (i-1) default).ks (p.getD i default).ks _ (hp.2 _ (by omega)).2 hm.2).mono ?_;rintro r st ⟨rfl,rfl⟩;simp-dsimp only[go_sem,h2,h3];refine ck (fun h4=> ?_) (fun h4=> ?_);have h4':=G0x h4;have hb:=bad (Bool.eq_false_iff.2 fun e=>by rcases ((V0s _ _ _).1 e).2.2 with h | h;omega;exact h4' h);simp-dsimp only[go_sem,hb];have h4':=H0t h4;simp-dsimp only[go_sem,e3];refine⟨p.length-(i+1),by omega,i+1,rfl,by omega,fun j hj=> ?_,rfl⟩;by_cases e:j=i;subst e;exact(V0s _ _ _).2 ⟨h1,h2',.inr h4'⟩;exact hr j (by omega);have h3':i=0:=(by have:=q_c h3;omega);simp-dsimp only[go_sem,h2,h3,e3];refine⟨p.length-(i+1),by omega,i+1,rfl,by omega,fun j hj=> ?_,rfl⟩;have e:j=i:=(by omega);subst e;exact(V0s _ _ _).2 ⟨h1,h2',.inl h3'⟩;have h2':(p.getD i default).c.w.length=0:=(by have:=q_b h2;omega);have hb:=bad (Bool.eq_false_iff.2 fun e=>((V0s _ _ _).1 e).2.1 h2');simp-dsimp only[go_sem,h2,hb]
 have hge:i=p.length:=by have:=q_c h';omega
 subst hge;have hv:X0a p n=true:=(Z0v p n).2 ⟨⟨by omega,by omega,by omega⟩,hr⟩;simp-dsimp only[go_sem];refine Q0a ?_;simp-dsimp only[go_sem,hv];have hb:=bad0 (by have:=q_b g2;omega);simp-dsimp only[go_sem,g1,g2,hb];have hb:=bad0 (by have:=q_b g1;omega);simp-dsimp only[go_sem,g1,hb]
theorem v1i (f:List (List Mn))(st:Q0f)(hf:wF f):PCalls Tryz.prog 154 [.sl .no (Z0q f)] st (fun r st'=>r= .sc (.bool (K0m f))/\st'=st):=by
 have hl:=hf.1;refine Q0b none Tryz.func154 rfl fun E=>Q0a ?_;simp-dsimp only[go_sem];refine Q0d [true,false,false,true] 0 0
  (fun n s=> ∃i,n=f.length-i/\i<=f.length/\i<=4/\(∀j,j<i->X0a (f.getD j []) f.length=true)/\s=⟨[.sl .no (Z0q f),.junk,.junk,.sc (.int .i64 (i:Nat))]++List.replicate 26 .junk,[],[],st⟩) f.length ?_ ?_
 simp-dsimp only[go_sem];exact⟨0,by omega,by omega,by omega,fun j hj=>by omega,rfl⟩;rintro n s ⟨i,rfl,hi,hi4,hr,rfl⟩;simp-dsimp only[go_sem];refine gkT (fun h1=> ?_) (fun h1=> ?_);have hlt:i<f.length:=(by have:=q_b h1;omega);simp-dsimp only[go_sem,h1];refine ck (fun h2=> ?_) (fun h2=> ?_);have hlt4:i<4:=(by have:=q_b h2;omega);have e1:=Y0x f i hlt;have e3:=J0n i (by omega);simp-dsimp only[go_sem,e1];refine⟨by omega,?_⟩;refine(k0d _ _ _ (hf.2 i hlt)).mono ?_;rintro r st ⟨rfl,rfl⟩;simp-dsimp only[go_sem];refine ck (fun h3=> ?_) (fun h3=> ?_);have hb:X0a (f.getD i []) f.length=false:=(by simpa using h3);have hv:K0m f=false:=Bool.eq_false_iff.2 fun e=>by have:=((J0r f).1 e).2 i hlt;rw[hb] at this;cases this
 simp-dsimp only[go_sem,hv];have ht:X0a (f.getD i []) f.length=true:=(by simpa using h3);simp-dsimp only[go_sem,e3];refine⟨f.length-(i+1),by omega,i+1,rfl,by omega,by omega,fun j hj=> ?_,rfl⟩;by_cases e:j=i;subst e;exact ht;exact hr j (by omega);have hge4:4<f.length:=(by have:=q_c h2;omega);have hv:K0m f=false:=Bool.eq_false_iff.2 fun e=>by have:=((J0r f).1 e).1;omega
 have h5:decide ((f.length:Int)>0)=true:=q_h (by omega);have h6:decide ((f.length:Int)<=4)=false:=q_g (by omega);simp-dsimp only[go_sem];refine Q0a ?_;simp-dsimp only[go_sem,h5,h6,hv];have hge:i=f.length:=(by have:=q_c h1;omega);simp-dsimp only[go_sem,h1];clear h1;refine Q0a ?_;simp-dsimp only[go_sem];refine gkT (fun h=> ?_) (fun h=> ?_);have h1:=q_b h;have hv:K0m f=decide ((f.length:Int)<=4):=by rw[Bool.eq_iff_iff,J0r,decide_eq_true_iff];exact⟨fun h=>by omega,fun h=>⟨⟨by omega,by omega⟩,fun j hj=>hr j (by omega)⟩⟩
 simp-dsimp only[go_sem,h,hv];have h1:=q_c h;have hv:K0m f=false:=Bool.eq_false_iff.2 fun e=>by have:=((J0r f).1 e).1;omega
 simp-dsimp only[go_sem,h,hv]
section
variable {w:World} {g g':Gh} {F:Fr} {T:List (Nat×Nat)} {k:Nat} {cs:List PV}
end
end Go.Pv
end
