/- Parts of the walk: PvAm, PvAn, M42, N46, N47, N48. -/
import Derived.Test.YtofoadghajnglaaGreatDoorZAN
import Derived.Test.YtofoadghajnglaaGreatDoorZE
import Derived.Test.YtofoadghajnglaaGreatDoorZP
import Derived.Test.YtofoadghajnglaaGreatDoorZAF
import Derived.Test.YtofoadghajnglaaGreatDoorZF
import Derived.Test.YtofoadghajnglaaGreatDoorZH
set_option linter.unusedVariables false
set_option linter.unusedSimpArgs false
section
namespace Go.Pv
structure Mn where
 c:Nm
 ks:List Int
 deriving DecidableEq
instance : Inhabited Mn:=⟨⟨default,[]⟩⟩
def G0m (x:Mn):List PV:= [.sc (.bool x.c.neg),.sc (.int .i64 x.c.exp),.sl .no (encW x.c.w),.sl .no (encZ x.ks)]
attribute [go_sem] G0m
def Z0p (l:List Mn):List PV:=l.map fun c=>(.agg (G0m c))
@[go_sem] theorem Q1j (l:List Mn):(Z0p l).length=l.length:=by simp [Z0p]
@[go_sem] theorem U2s :Z0p []= []:=(rfl)
@[go_sem] theorem v3f (l:List Mn):(Z0p l).all (fun x=>x.cells.length==4)=true:=by simp [Z0p,PV.cells,G0m]
@[go_sem] theorem v3g (l:List Mn):(Z0p l).all (fun x=>(x.cells.length==4)&&x.cells.all PV.cellOK)=true:=by simp [Z0p,PV.cells,PV.cellOK,Value.oneCell',G0m]
@[go_sem] theorem W3z (l:List Mn) (n:Nat):(Z0p l).take n=Z0p (l.take n):=by simp [Z0p]
@[go_sem] theorem Y3b (l:List Mn) (n:Nat):(Z0p l).drop n=Z0p (l.drop n):=by simp [Z0p]
@[go_sem] theorem q3h (l m:List Mn):Z0p l++Z0p m=Z0p (l++m):=by simp [Z0p]
@[go_sem] theorem Y3a (l:List Mn) (c:Mn):Z0p l++ [.agg (G0m c)]=Z0p (l++ [c]):=by simp [Z0p]
theorem V0j (l:List Mn) (n:Nat) (h:n<l.length):(Z0p l).getD n .junk= .agg (G0m (l.getD n default)):=by simp [Z0p,List.getD_eq_getElem?_getD,h]
@[go_sem] theorem q3g (l:List Mn) (i:Nat) (cs:List PV):(Z0p l).map (PV.frz i cs)=Z0p l:=by simp only [Z0p,List.map_map];exact List.map_congr_left fun a _=>rfl
theorem k1c (l:List Mn): ∀i,i<(Z0p l).length->((Z0p l).getD i .junk).cells.length=4:=fun i hi=>by rw [Q1j] at hi;rw [V0j l i hi];rfl
structure Tm where
 v:Vl
 ks:List Int
instance : Inhabited Tm:=⟨⟨⟨false,0,0⟩,[]⟩⟩
def k1b (x:Tm):List PV:= [.sc (.bool x.v.neg),.sl .no (encD (Q0c x.v.m)),.sc (.int .i64 x.v.e),.sl .no (encZ x.ks)]
attribute [go_sem] k1b
def K0z (l:List Tm):List PV:=l.map fun c=>(.agg (k1b c))
@[go_sem] theorem Q3j (l:List Tm):(K0z l).length=l.length:=by simp [K0z]
@[go_sem] theorem U2r :K0z []= []:=(rfl)
@[go_sem] theorem v3b (l:List Tm):(K0z l).all (fun x=>x.cells.length==4)=true:=by simp [K0z,PV.cells,k1b]
@[go_sem] theorem v3c (l:List Tm):(K0z l).all (fun x=>(x.cells.length==4)&&x.cells.all PV.cellOK)=true:=by simp [K0z,PV.cells,PV.cellOK,Value.oneCell',k1b]
@[go_sem] theorem W3x (l:List Tm) (n:Nat):(K0z l).take n=K0z (l.take n):=by simp [K0z]
@[go_sem] theorem W3y (l:List Tm) (n:Nat):(K0z l).drop n=K0z (l.drop n):=by simp [K0z]
@[go_sem] theorem q3c (l m:List Tm):K0z l++K0z m=K0z (l++m):=by simp [K0z]
@[go_sem] theorem X2o (l:List Tm) (c:Tm):K0z l++ [.agg (k1b c)]=K0z (l++ [c]):=by simp [K0z]
theorem J1o (l:List Tm) (n:Nat) (h:n<l.length):(K0z l).getD n .junk= .agg (k1b (l.getD n default)):=by simp [K0z,List.getD_eq_getElem?_getD,h]
@[go_sem] theorem q3b (l:List Tm) (i:Nat) (cs:List PV):(K0z l).map (PV.frz i cs)=K0z l:=by simp only [K0z,List.map_map];exact List.map_congr_left fun a _=>rfl
def Z0n (l:List (List Mn)):List PV:=l.map fun c=>(.sl .no (Z0p c))
@[go_sem] theorem Q3l (l:List (List Mn)):(Z0n l).length=l.length:=by simp [Z0n]
@[go_sem] theorem q3t :Z0n []= []:=(rfl)
@[go_sem] theorem v3p (l:List (List Mn)):(Z0n l).all (fun x=>x.cells.length==1)=true:=by simp [Z0n,PV.cells]
@[go_sem] theorem v3q (l:List (List Mn)):(Z0n l).all (fun x=>(x.cells.length==1)&&x.cells.all PV.cellOK)=true:=by simp [Z0n,PV.cells,PV.cellOK,Value.oneCell']
@[go_sem] theorem Y3l (l:List (List Mn)) (n:Nat):(Z0n l).take n=Z0n (l.take n):=by simp [Z0n]
@[go_sem] theorem Y3n (l:List (List Mn)) (n:Nat):(Z0n l).drop n=Z0n (l.drop n):=by simp [Z0n]
@[go_sem] theorem q3v (l m:List (List Mn)):Z0n l++Z0n m=Z0n (l++m):=by simp [Z0n]
@[go_sem] theorem Y3m (l:List (List Mn)) (c:(List Mn)):Z0n l++ [.sl .no (Z0p c)]=Z0n (l++ [c]):=by simp [Z0n]
theorem W0x (l:List (List Mn)) (n:Nat) (h:n<l.length):(Z0n l).getD n .junk= .sl .no (Z0p (l.getD n [])):=by simp [Z0n,List.getD_eq_getElem?_getD,h]
@[go_sem] theorem q3u (l:List (List Mn)) (i:Nat) (cs:List PV):(Z0n l).map (PV.frz i cs)=Z0n l:=by simp only [Z0n,List.map_map];exact List.map_congr_left fun a _=>rfl
def K0g (l:List (List (List Mn))):List PV:=l.map fun c=>(.sl .no (Z0n c))
@[go_sem] theorem Q3k (l:List (List (List Mn))):(K0g l).length=l.length:=by simp [K0g]
@[go_sem] theorem q3n :K0g []= []:=(rfl)
@[go_sem] theorem v3l (l:List (List (List Mn))):(K0g l).all (fun x=>x.cells.length==1)=true:=by simp [K0g,PV.cells]
@[go_sem] theorem v3m (l:List (List (List Mn))):(K0g l).all (fun x=>(x.cells.length==1)&&x.cells.all PV.cellOK)=true:=by simp [K0g,PV.cells,PV.cellOK,Value.oneCell']
@[go_sem] theorem Y3f (l:List (List (List Mn))) (n:Nat):(K0g l).take n=K0g (l.take n):=by simp [K0g]
@[go_sem] theorem Y3h (l:List (List (List Mn))) (n:Nat):(K0g l).drop n=K0g (l.drop n):=by simp [K0g]
@[go_sem] theorem q3p (l m:List (List (List Mn))):K0g l++K0g m=K0g (l++m):=by simp [K0g]
@[go_sem] theorem Y3g (l:List (List (List Mn))) (c:(List (List Mn))):K0g l++ [.sl .no (Z0n c)]=K0g (l++ [c]):=by simp [K0g]
theorem q1m (l:List (List (List Mn))) (n:Nat) (h:n<l.length):(K0g l).getD n .junk= .sl .no (Z0n (l.getD n [])):=by simp [K0g,List.getD_eq_getElem?_getD,h]
@[go_sem] theorem q3o (l:List (List (List Mn))) (i:Nat) (cs:List PV):(K0g l).map (PV.frz i cs)=K0g l:=by simp only [K0g,List.map_map];exact List.map_congr_left fun a _=>rfl
def PV.frzG1 (k:Nat) (cs:List PV):PV->PV
 | .ms true k' off len=>if k'=k/\off+len<=cs.length then .sl .no ((cs.drop off).take len) else .ms true k' off len
 | p=>p
def PV.frzG (k:Nat) (cs:List PV):PV->PV
 | .agg l=> .agg (l.map (PV.frzG1 k cs))
 | .tup l=> .tup (l.map (PV.frzG1 k cs))
 | .fn f l m=> .fn f (l.map (PV.frzG1 k cs)) (m.map (PV.frzG1 k cs))
 | p=>p.frzG1 k cs
structure SolidG (w:World) (g':Gh) (k:Nat) (cs:List PV):Prop where
 sl: ∀v off len,k<g'.n->Rep w g' v (.ms true k off len)->off+len<=cs.length->Rep w g' v (.sl .no ((cs.drop off).take len))
section
variable {w:World} {g g':Gh} {F:Fr} {T:List (Nat×Nat)} {k:Nat} {cs:List PV}
theorem RepF.frzG1 {v:Value} {p:PV} (hk:k<g'.n) (hm: ∀v p,RepF w g F T v p->RepF w g' F T v p) (hz:SolidG w g' k cs) (h:RepF w g F T v p):RepF w g' F T v (p.frzG1 k cs):=by
 have h':=hm _ _ h;cases p with
 | ms gl k' off len=>
  cases gl with
  | false=>exact h'
  | true=>
   simp only [PV.frzG1];split;rename_i e;obtain⟨rfl,hle⟩:=e;cases h' with
   | base _ _ h'=>exact .base _ _ (hz.sl _ _ _ hk h' hle)
   exact h'
 | _=>exact h'
theorem RepF.frzG {v:Value} {p:PV} (hk:k<g'.n) (hm: ∀v p,RepF w g F T v p->RepF w g' F T v p) (hz:SolidG w g' k cs) (h:RepF w g F T v p):RepF w g' F T v (p.frzG k cs):=by
 have gm: ∀(l:List PV) (j:Nat),(l.map (PV.frzG1 k cs)).getD j .junk=(l.getD j .junk).frzG1 k cs:=fun l j=>Q0z rfl l j;cases p with
 | agg l=>
  cases h with
  | base _ _ h=>
   cases h with
   | agg vs cs' hl h=>exact .agg vs _ (by simpa using hl) fun j hj=>by rw [gm];exact RepF.frzG1 hk hm hz (.base _ _ (h j (by simpa using hj)))
  | agg vs cs' hl h=>exact .agg vs _ (by simpa using hl) fun j hj=>by rw [gm];exact RepF.frzG1 hk hm hz (h j (by simpa using hj))
 | tup l=>
  cases h with
  | base _ _ h=>
   cases h with
   | tup vs cs' hl h=>exact .tup vs _ (by simpa using hl) fun j hj=>by rw [gm];exact RepF.frzG1 hk hm hz (.base _ _ (h j (by simpa using hj)))
  | tup vs cs' hl h=>exact .tup vs _ (by simpa using hl) fun j hj=>by rw [gm];exact RepF.frzG1 hk hm hz (h j (by simpa using hj))
 | fn f l m=>
  cases h with
  | base _ _ h=>
   cases h with
   | fn f us vs bs cs' hk' hl h0 h=>
    exact .fn f us vs _ _ (by simpa using hk') (by simpa using hl) (fun j hj=>by rw [gm];exact RepF.frzG1 hk hm hz (.base _ _ (h0 j (by simpa using hj)))) fun j hj=>by rw [gm];exact RepF.frzG1 hk hm hz (.base _ _ (h j (by simpa using hj)))
  | fn f us vs bs cs' hk' hl h0 h=>
   exact .fn f us vs _ _ (by simpa using hk') (by simpa using hl) (fun j hj=>by rw [gm];exact RepF.frzG1 hk hm hz (h0 j (by simpa using hj))) fun j hj=>by rw [gm];exact RepF.frzG1 hk hm hz (h j (by simpa using hj))
 | _=>exact RepF.frzG1 hk hm hz h
end
def PFS.freezeA (k:Nat) (s:PFS):PFS:=⟨s.pa.map (PV.frzG k (s.st.getD k [])),s.L.map fun l=>l.map (PV.frzG k (s.st.getD k [])),s.T,s.st.set k []⟩
theorem G1c {E:Ent} {s:PFS} (k:Nat) (hk:k<s.st.length) (hc: ∀p∈s.st.getD k [],p.cells= [p]) (h0:s.st.getD k []≠ []):Weak E s (s.freezeA k):=by
 intro a w g F h;have hkn:k<g.n:=(by rw [h.store.n];exact hk);obtain⟨k1,k2⟩:=U1n w g (g.mu k) (s.st.getD k []).length (.inl (h.store.lt k hkn)) h.store.none
 let g':Gh:= { g with vis:=fun c=>if c=g.mu k then max (s.st.getD k []).length (g.vis c) else g.vis c }
 obtain⟨f1,f2⟩:=h.frame.step k1 (fun i hi e=>h.frame.apart i hi k hkn e.symm) (fun i b hi hb e=>(h.frame.tapart i b hi hb).1 k hkn e.symm);have hst:StoreOK w g' (s.st.set k []):=by refine⟨by simpa using h.store.n,h.store.inj,h.store.lt,fun j hj hj0=> ?_,fun j hj=> ?_,k2,h.store.tab.mono k1.le⟩;by_cases e:k=j;subst e;exact absurd (X0q _ _) hj0;rw [Q0n _ _ _ _ _ e] at hj0;have:g'.vis (g.mu j)=g.vis (g.mu j):=if_neg fun e'=>e (h.store.inj j k hj hkn e').symm;exact this.trans (h.store.vis j hj hj0);by_cases e:k=j;subst e;rw [X0q];intro j hj;simp at hj;rw [Q0n _ _ _ _ _ e];exact(h.store.holds j hj).mono rfl fun v p hr=>hr.mono k1.le
 have hz:SolidG w g' k (s.st.getD k []):=⟨fun v off len hkg hv hlen=>by
  cases hv with
  | gms _ _ _ cap hi hcap=>
   have hh:=h.store.holds k hkn;have hex: ∀j,j<(s.st.getD k []).length-> ∃c,w.cell? ⟨g.mu k,j,none⟩=some c/\Rep w g c ((s.st.getD k []).getD j .junk):=fun j hj=>by obtain⟨_,c,q1,q2⟩:=hh j hj;exact⟨c,q1,q2⟩
   let cf:Nat->Value:=fun j=>if hj:j<(s.st.getD k []).length then(hex j hj).choose else undef
   have hcf: ∀j,j<(s.st.getD k []).length->w.cell? ⟨g.mu k,j,none⟩=some (cf j)/\Rep w g (cf j) ((s.st.getD k []).getD j .junk):=fun j hj=>by simp only [cf,dif_pos hj];exact(hex j hj).choose_spec
   have hl:(((s.st.getD k []).drop off).take len).length=len:=by rw [List.length_take,List.length_drop];omega
   have hg: ∀j,j<len->(((s.st.getD k []).drop off).take len).getD j .junk=(s.st.getD k []).getD (off+j) .junk:=fun j hj=>(by simp [List.getD_eq_getElem?_getD,List.getElem?_take,hj,List.getElem?_drop]);have hone: ∀j,j<len->((s.st.getD k []).getD (off+j) .junk).cells= [(s.st.getD k []).getD (off+j) .junk]:=fun j hj=>hc _ (Q0t _ _ _ (by omega));have:=Rep.sl (w:=w) (g:=g') .no (((s.st.getD k []).drop off).take len) (g.mu k) off 1 cap (fun a b=>cf (off+a)) rfl (fun h=>by cases h) (by omega)
    (fun j hj=>by rw [hg j (by omega),hone j (by omega)];rfl)
    (fun _=>by show _<=if g.mu k=g.mu k then max (s.st.getD k []).length (g.vis (g.mu k)) else _;rw [if_pos rfl];have:=Nat.le_max_left (s.st.getD k []).length (g.vis (g.mu k));omega)
    (fun j k2 hj hk2=>by have:k2=0:=(by omega);subst this;simpa using(hcf (off+j) (by omega)).1)
    (fun j k2 hj hk2=>by have:k2=0:=(by omega);subst this;rw [hg j (by omega),hone j (by omega)];exact(hcf (off+j) (by omega)).2.mono k1.le)
   rw [hl] at this;exact this⟩
 have hf: ∀v p,RepF w g F s.T v p->RepF w g' F s.T v (p.frzG k (s.st.getD k [])):=fun v p hp=>RepF.frzG hkn (fun _ _ h=>f2 _ _ h) hz hp;have hL: ∀i,(s.L.map fun l=>l.map (PV.frzG k (s.st.getD k []))).getD i []=(s.L.getD i []).map (PV.frzG k (s.st.getD k [])):=fun i=>K0j (f:=fun l=>l.map (PV.frzG k (s.st.getD k []))) rfl _ _;have hLn: ∀i,(s.L.map fun l=>l.map (PV.frzG k (s.st.getD k []))).getD i []≠ []->s.L.getD i []≠ []:=fun i hi e=>hi (by rw [hL,e];rfl);refine⟨g',F,h.ext.step k1 (fun b hb=> ?_),hst,⟨by simp [PFS.freezeA,f1.nl],fun i hi=>f1.lo i (hLn i hi),fun i hi=>f1.apart i (hLn i hi),fun i j hi hj=>f1.inj i j (hLn i hi) (hLn j hj),fun i hi=> ?_,f1.tlo,fun i b hi hb=>⟨(f1.tapart i b hi hb).1,fun j hj=>(f1.tapart i b hi hb).2 j (hLn j hj)⟩,f1.tinj⟩,h.defers,by simp [PFS.freezeA,h.len],fun j hj=> ?_⟩;subst hb;by_cases hin:k<E.g.n;exact .inr ⟨k,hin,(h.ext.le.mu k hin).symm⟩;exact .inl (h.ext.new k (by omega) hkn);show Holds w _ (F.lmu i) ((s.L.map fun l=>l.map (PV.frzG k (s.st.getD k []))).getD i []);rw [hL];intro j hj;obtain⟨q1,c,q2,q3⟩:=h.frame.holds i (hLn i hi) j (by simpa using hj);exact⟨q1,c,q2,by rw [Q0z (f:=PV.frzG k _) rfl];exact hf _ _ q3⟩;simp only [PFS.freezeA,List.length_map] at hj⊢;rw [Q0z (f:=PV.frzG k _) rfl];exact hf _ _ (h.tmps j hj)
theorem x1s {P:Program} {E:Ent} {c:Code} {Q:Exit->PFS->Prop} {s:PFS} (k:Nat) (hk:k<s.st.length) (hc: ∀p∈s.st.getD k [],p.cells= [p]) (h0:s.st.getD k []≠ [])
 (h:PWP P E c Q (s.freezeA k)):PWP P E c Q s:=K0a (G1c k hk hc h0) h
@[go_sem] theorem W3n {k:Nat} {pa:List PV} {L st:Q0f} {T:List (Nat×Nat)} :(PFS.mk pa L T st).freezeA k=⟨pa.map (PV.frzG k (st.getD k [])),L.map fun l=>l.map (PV.frzG k (st.getD k [])),T,st.set k []⟩:=(rfl)
@[go_sem] theorem H3m {k:Nat} {cs:List PV} :PV.frzG k cs .junk= .junk:=(rfl)
@[go_sem] theorem Z4y {k:Nat} {cs:List PV} {v:Value} :PV.frzG k cs (.sc v)=(.sc v):=(rfl)
@[go_sem] theorem X4a {k:Nat} {cs:List PV} {i o:Nat} :PV.frzG k cs (.lp i o)=(.lp i o):=(rfl)
@[go_sem] theorem X4c {k:Nat} {cs:List PV} {i o:Nat} :PV.frzG k cs (.gp i o)=(.gp i o):=(rfl)
@[go_sem] theorem Z4x {k:Nat} {cs:List PV} {t:Tag} {es:List PV} :PV.frzG k cs (.sl t es)=(.sl t es):=(rfl)
@[go_sem] theorem X4e {k:Nat} {cs:List PV} {es:List PV} {o:Nat} :PV.frzG k cs (.ep es o)=(.ep es o):=(rfl)
@[go_sem] theorem k3g {k:Nat} {cs:List PV} {i o n:Nat} :PV.frzG k cs (.ms false i o n)=(.ms false i o n):=(rfl)
@[go_sem] theorem Z4z {k:Nat} {cs:List PV} {i n c:Nat} :PV.frzG k cs (.mr i n c)=(.mr i n c):=(rfl)
@[go_sem] theorem k3k {k:Nat} {cs:List PV} {i n c:Nat} :PV.frzG1 k cs (.mr i n c)=(.mr i n c):=(rfl)
@[go_sem] theorem k3f {k:Nat} {cs:List PV} {es:List PV} {n:Nat} :PV.frzG k cs (.pre es n)=(.pre es n):=(rfl)
@[go_sem] theorem W3k {k:Nat} {cs:List PV} :PV.frzG1 k cs .junk= .junk:=(rfl)
@[go_sem] theorem k3j {k:Nat} {cs:List PV} {v:Value} :PV.frzG1 k cs (.sc v)=(.sc v):=(rfl)
@[go_sem] theorem k3l {k:Nat} {cs:List PV} {i o:Nat} :PV.frzG1 k cs (.lp i o)=(.lp i o):=(rfl)
@[go_sem] theorem k3n {k:Nat} {cs:List PV} {i o:Nat} :PV.frzG1 k cs (.gp i o)=(.gp i o):=(rfl)
@[go_sem] theorem k3i {k:Nat} {cs:List PV} {t:Tag} {es:List PV} :PV.frzG1 k cs (.sl t es)=(.sl t es):=(rfl)
@[go_sem] theorem k3o {k:Nat} {cs:List PV} {es:List PV} {o:Nat} :PV.frzG1 k cs (.ep es o)=(.ep es o):=(rfl)
@[go_sem] theorem H3o {k:Nat} {cs:List PV} {i o n:Nat} :PV.frzG1 k cs (.ms false i o n)=(.ms false i o n):=(rfl)
@[go_sem] theorem H3n {k:Nat} {cs:List PV} {es:List PV} {n:Nat} :PV.frzG1 k cs (.pre es n)=(.pre es n):=(rfl)
@[go_sem] theorem k3h {k:Nat} {cs l:List PV} :PV.frzG k cs (.agg l)= .agg (l.map (PV.frzG1 k cs)):=(rfl)
@[go_sem] theorem k3e {k:Nat} {cs l:List PV} :PV.frzG k cs (.tup l)= .tup (l.map (PV.frzG1 k cs)):=(rfl)
@[go_sem] theorem X4d {k:Nat} {cs l m:List PV} {f:Fn} :PV.frzG k cs (.fn f l m)= .fn f (l.map (PV.frzG1 k cs)) (m.map (PV.frzG1 k cs)):=(rfl)
theorem J3z {k off n:Nat} {cs:List PV} (h:off+n<=cs.length):PV.frzG k cs (.ms true k off n)= .sl .no ((cs.drop off).take n):=if_pos ⟨rfl,h⟩
theorem x0h (ks:List Int) (i:Nat) (h:i<ks.length):(ks.take (i+1)).sum=(ks.take i).sum+ks.getD i 0:=by rw [List.take_add_one,List.sum_append,List.getElem?_eq_getElem h];simp [List.getD_eq_getElem?_getD,h]
theorem Y1i (ks:List Int) (h: ∀j,j<ks.length->0<=ks.getD j 0): ∀(d i:Nat),i+d=ks.length->(ks.take i).sum<=ks.sum
 | 0,i,e=>by rw [List.take_of_length_le (by omega)];exact Int.le_refl _
 | d+1,i,e=>by have h1:=Y1i ks h d (i+1) (by omega);have h2:=x0h ks i (by omega);have h3:=h i (by omega);omega
def Y0w (ks:List Int):Bool:=ks.all (fun k=>decide (0<=k))&&decide (ks.sum<=8)
theorem K0w (ks:List Int):Y0w ks=true<->(∀j,j<ks.length->0<=ks.getD j 0)/\ks.sum<=8:=by unfold Y0w;simp only [Bool.and_eq_true,List.all_eq_true,decide_eq_true_eq];constructor;rintro⟨h1,h2⟩;refine⟨fun j hj=> ?_,h2⟩;have:ks.getD j 0=ks[j]:=(by simp [List.getD_eq_getElem?_getD,hj]);rw [this];exact h1 _ (List.getElem_mem hj);rintro⟨h1,h2⟩;refine⟨fun k hk=> ?_,h2⟩;obtain⟨j,hj,e⟩:=List.mem_iff_getElem.1 hk;have:=h1 j hj;rw [show ks.getD j 0=ks[j] by simp [List.getD_eq_getElem?_getD,hj],e] at this;exact this
theorem Z2b {ks:List Int} {i:Nat} (h:i<ks.length) (hb:ks.getD i 0<0\/8-(ks.take i).sum<ks.getD i 0):Y0w ks=false:=Bool.eq_false_iff.2 fun e=>by obtain⟨h1,h2⟩:=(K0w ks).1 e;have h3:=h1 i h;have h4:=Y1i ks h1 (ks.length-(i+1)) (i+1) (by omega);have h5:=x0h ks i h;omega
theorem Q2i {ks:List Int} (h: ∀j,j<ks.length->0<=ks.getD j 0) (i:Nat) (hi:i<=ks.length):0<=(ks.take i).sum:=by
 induction i with
 | zero=>simp
 | succ i ih=>
  have h2:=x0h ks i (by omega);have h3:=h i (by omega);have:=ih (by omega);omega
theorem V1m {ks:List Int} (h:Y0w ks=true) (i:Nat) (hi:i<=ks.length):0<=(ks.take i).sum/\(ks.take i).sum<=8:=by obtain⟨h1,h2⟩:=(K0w ks).1 h;have h3:=Q2i h1 i hi;have h4:=Y1i ks h1 (ks.length-i) i (by omega);omega
theorem W0t {ks:List Int} (h:Y0w ks=true) (i:Nat) (hi:i<ks.length):0<=ks.getD i 0/\ks.getD i 0<=8:=by obtain⟨h1,h2⟩:=(K0w ks).1 h;have h3:=V1m h i (by omega);have h4:=V1m h (i+1) (by omega);have h5:=x0h ks i hi;have:=h1 i hi;omega
def W0v (m:Mn) (n:Int):Bool:=decide ((m.ks.length:Int)=n)&&Y0w m.ks&&Q0r m.c
theorem z0m (m:Mn) (n:Int):W0v m n=true<->(m.ks.length:Int)=n/\Y0w m.ks=true/\Q0r m.c=true:=by unfold W0v;simp only [Bool.and_eq_true,decide_eq_true_eq,and_assoc]
def ordK :List Int->List Int->Int
 | x::a,y::b=>if x>y then 1 else if x<y then -1 else ordK a b
 | _,_=>0
def cmpL :List Int->List Int->Int
 | [],[]=>0
 | [],_::_=> -1
 | _::_,[]=>1
 | x::a,y::b=>if x<y then -1 else if x>y then 1 else cmpL a b
theorem H0w (a:List Int) (i:Nat) (h:i<a.length):a.drop i=a.getD i 0::a.drop (i+1):=by rw [List.drop_eq_getElem_cons h];simp [List.getD_eq_getElem?_getD,h]
theorem W2d {a b:List Int} {i:Nat} (ha:i<a.length) (hb:i<b.length):ordK (a.drop i) (b.drop i)=if a.getD i 0>b.getD i 0 then 1 else if a.getD i 0<b.getD i 0 then -1 else ordK (a.drop (i+1)) (b.drop (i+1)):=by rw [H0w a i ha,H0w b i hb,ordK]
theorem x2v {a b:List Int} {i:Nat} (h:a.length<=i\/b.length<=i):ordK (a.drop i) (b.drop i)=0:=by rcases h with h | h;rw [List.drop_of_length_le h];cases b.drop i<;>rfl;rw [List.drop_of_length_le h];cases a.drop i<;>rfl
theorem G2q {a b:List Int} {i:Nat} (ha:i<a.length) (hb:i<b.length):cmpL (a.drop i) (b.drop i)=if a.getD i 0<b.getD i 0 then -1 else if a.getD i 0>b.getD i 0 then 1 else cmpL (a.drop (i+1)) (b.drop (i+1)):=by rw [H0w a i ha,H0w b i hb,cmpL]
theorem v2v {a b:List Int} {i:Nat} (ha:a.length<=i):cmpL (a.drop i) (b.drop i)=if i<b.length then -1 else 0:=by rw [List.drop_of_length_le ha];split;rename_i h;rw [H0w b i h,cmpL];rename_i h;rw [List.drop_of_length_le (by omega),cmpL]
theorem G2p {a b:List Int} {i:Nat} (ha:i<a.length) (hb:b.length<=i):cmpL (a.drop i) (b.drop i)=1:=by rw [List.drop_of_length_le hb,H0w a i ha,cmpL]
theorem w1z : ∀(a b:List Int),a.length=b.length->cmpL b a= -ordK a b
 | [],[],_=>rfl
 | x::a,y::b,h=>by rw [cmpL,ordK,w1z a b (by simpa using h)];by_cases h1:x>y;rw [if_pos (by omega),if_pos h1];rw [if_neg (by omega),if_neg h1];by_cases h2:x<y;rw [if_pos (by omega),if_pos h2];rfl;rw [if_neg (by omega),if_neg h2]
theorem v1x : ∀(a b:List Int),ordK a b=1\/ordK a b=0\/ordK a b= -1
 | [],_=> .inr (.inl rfl)
 | _::_,[]=> .inr (.inl rfl)
 | x::a,y::b=>by rw [ordK];split;exact .inl rfl;split;exact .inr (.inr rfl);exact v1x a b
def okP (p:List Mn) (n:Int) (i:Nat):Bool:=
 W0v (p.getD i default) n&&decide ((p.getD i default).c.w.length≠0)&&(decide (i=0)||decide (ordK (p.getD (i-1) default).ks (p.getD i default).ks=1))
def X0b (p:List Mn) (n:Int):Bool:=decide (1<=n/\n<=4/\p.length<=24)&&(List.range p.length).all (okP p n)
theorem X0i (p:List Mn) (n:Int):X0b p n=true<->(1<=n/\n<=4/\p.length<=24)/\ ∀i,i<p.length->okP p n i=true:=by unfold X0b;simp only [Bool.and_eq_true,List.all_eq_true,decide_eq_true_eq,List.mem_range]
theorem W0d (p:List Mn) (n:Int) (i:Nat):okP p n i=true<->W0v (p.getD i default) n=true/\(p.getD i default).c.w.length≠0/\(i=0\/ordK (p.getD (i-1) default).ks (p.getD i default).ks=1):=by unfold okP;simp only [Bool.and_eq_true,Bool.or_eq_true,decide_eq_true_eq,and_assoc]
theorem V1l {p:List Mn} {n:Int} {i:Nat} (hi:i<p.length) (h:okP p n i=false):X0b p n=false:=Bool.eq_false_iff.2 fun e=>by have:=((X0i p n).1 e).2 i hi;rw [h] at this;cases this
theorem K0l {p:List Mn} {n:Int} (h:X0b p n=true) {i:Nat} (hi:i<p.length):((p.getD i default).ks.length:Int)=n/\Y0w (p.getD i default).ks=true/\Q0r (p.getD i default).c=true:=(z0m _ _).1 ((W0d _ _ _).1 (((X0i p n).1 h).2 i hi)).1
def K0e (f:List (List Mn)):Bool:=decide (1<=f.length/\f.length<=4)&&f.all (fun p=>X0b p f.length)
theorem J0r (f:List (List Mn)):K0e f=true<->(1<=f.length/\f.length<=4)/\ ∀i,i<f.length->X0b (f.getD i []) f.length=true:=by unfold K0e;simp only [Bool.and_eq_true,List.all_eq_true,decide_eq_true_eq];constructor;rintro⟨h1,h2⟩;refine⟨h1,fun j hj=> ?_⟩;have:f.getD j []=f[j]:=(by simp [List.getD_eq_getElem?_getD,hj]);rw [this];exact h2 _ (List.getElem_mem hj);rintro⟨h1,h2⟩;refine⟨h1,fun k hk=> ?_⟩;obtain⟨j,hj,e⟩:=List.mem_iff_getElem.1 hk;have:=h2 j hj;rw [show f.getD j []=f[j] by simp [List.getD_eq_getElem?_getD,hj],e] at this;exact this
def wK (ks:List Int):Prop:=ks.length<=100000000000/\ ∀i,i<ks.length-> -9223372036854775808<=ks.getD i 0/\ks.getD i 0<=9223372036854775807
def wMn (m:Mn):Prop:=wN m.c/\wK m.ks
def wP (p:List Mn):Prop:=p.length<=100000000000/\ ∀i,i<p.length->wMn (p.getD i default)
def wF (f:List (List Mn)):Prop:=f.length<=100000000000/\ ∀i,i<f.length->wP (f.getD i [])
set_option maxRecDepth 100000
open Go.Proofs
theorem z3n (a b:List Int) (st:Q0f) (ha:wK a) (hb:wK b):PCalls Tryz.prog 272 [.sl .no (encZ a),.sl .no (encZ b)] st (fun r st'=>r= .sc (.int .i64 (cmpL a b))/\st'=st):=by
 have hla:=ha.1;have hlb:=hb.1;refine Q0b none Tryz.func272 rfl fun E=>Q0a ?_;simp -dsimp only [go_sem];refine Q0d [true,true,false,false,false,false,false,false,false,true,true,true] 0 0
  (fun n s=> ∃i,n=a.length-i/\i<=a.length/\i<=b.length/\cmpL a b=cmpL (a.drop i) (b.drop i)/\s=⟨[.sl .no (encZ a),.sl .no (encZ b),.junk,.junk,.junk,.junk,.junk,.junk,.junk,.sl .no (encZ a),.sc (.int .i64 a.length),.sc (.int .i64 (i:Nat))]++List.replicate 24 .junk,[],[],st⟩) a.length ?_ ?_
 simp -dsimp only [go_sem];exact⟨0,by omega,by omega,by omega,rfl,rfl⟩;rintro n s ⟨i,rfl,hi,hib,hr,rfl⟩;simp -dsimp only [go_sem];refine ck (fun h'=> ?_) (fun h'=> ?_);have hlt:i<a.length:=(by have:=of_decide_eq_true h';omega);have e1:=K0p a i hlt;have e3:=J0f i (by omega);simp -dsimp only [go_sem,e1];refine⟨by omega,ck (fun h2=> ?_) (fun h2=> ?_)⟩;have hge:b.length<=i:=(by have:=of_decide_eq_true h2;omega);rw [G2p hlt hge] at hr;simp -dsimp only [go_sem,hr];have hltb:i<b.length:=(by have:=of_decide_eq_false h2;omega);have e2:=K0p b i hltb;rw [G2q hlt hltb] at hr;simp -dsimp only [go_sem,e2];refine⟨by omega,?_⟩;refine(Z1l (a.getD i 0) (b.getD i 0) _).mono ?_;rintro r st ⟨rfl,rfl⟩;simp -dsimp only [go_sem];refine ck (fun h3=> ?_) (fun h3=> ?_);have hne:=U0u h3;have hc:cmpL a b=cmpI (a.getD i 0) (b.getD i 0):=by rw [hr];unfold cmpI at hne⊢;split;rfl;split;rfl;rw [if_neg (by omega),if_neg (by omega)] at hne;exact absurd rfl hne
 simp -dsimp only [go_sem,hc];have hq:=G0o h3;have hc:cmpL a b=cmpL (a.drop (i+1)) (b.drop (i+1)):=by rw [hr];unfold cmpI at hq;by_cases c1:a.getD i 0<b.getD i 0;rw [if_pos c1] at hq;omega;rw [if_neg c1] at hq;by_cases c2:a.getD i 0>b.getD i 0;rw [if_pos (by omega)] at hq;omega;rw [if_neg c1,if_neg c2]
 simp -dsimp only [go_sem,e3];exact⟨a.length-(i+1),by omega,i+1,rfl,by omega,by omega,hc,rfl⟩;have hge:i=a.length:=(by have:=of_decide_eq_false h';omega);rw [v2v (by omega)] at hr;simp -dsimp only [go_sem];refine Q0a ?_;simp -dsimp only [go_sem];refine ck (fun h2=> ?_) (fun h2=> ?_);rw [if_pos (by have:=of_decide_eq_true h2;omega)] at hr;simp -dsimp only [go_sem,hr];rw [if_neg (by have:=of_decide_eq_false h2;omega)] at hr;simp -dsimp only [go_sem,hr]
theorem Z2l (m:Mn) (n:Int) (st:Q0f) (hm:wMn m):PCalls Tryz.prog 259 [.agg (G0m m),.sc (.int .i64 n)] st (fun r st'=>r= .sc (.bool (W0v m n))/\st'=st):=by
 have hl:=hm.2.1;have hc:=hm.1;unfold wN at hc;refine Q0b none Tryz.func259 rfl fun E=>Q0a ?_;simp -dsimp only [go_sem];refine Q0d [false,true,true,false,false,true,false,false,false,true,true,true] 1 0
  (fun k s=> ∃i,k=m.ks.length-i/\i<=m.ks.length/\(∀j,j<i->0<=m.ks.getD j 0)/\0<=(m.ks.take i).sum/\(m.ks.take i).sum<=8/\s=⟨[.junk,.sc (.int .i64 n),.lp 0 0,.junk,.junk,.sc (.int .i64 (8-(m.ks.take i).sum)),.junk,.junk,.junk,.sl .no (encZ m.ks),.sc (.int .i64 m.ks.length),.sc (.int .i64 (i:Nat))]++List.replicate 24 .junk,[G0m m],[],st⟩) m.ks.length ?_ ?_
 simp -dsimp only [go_sem];exact⟨0,by omega,by omega,fun j hj=>by omega,by simp,by simp,by simp⟩;rintro k s ⟨i,rfl,hi,hr,h0,h8,rfl⟩;simp -dsimp only [go_sem];refine ck (fun h'=> ?_) (fun h'=> ?_);have hlt:i<m.ks.length:=(by have:=of_decide_eq_true h';omega);have e1:=K0p m.ks i hlt;have e3:=J0f i (by omega);have hk:=hm.2.2 i hlt;have hs:=x0h m.ks i hlt;simp -dsimp only [go_sem,e1];refine⟨by omega,?_⟩;have bad:m.ks.getD i 0<0\/8-(m.ks.take i).sum<m.ks.getD i 0->W0v m n=false:=fun hb=>by unfold W0v;rw [Z2b hlt hb];simp
 refine gkF (fun h2=> ?_) (fun h2=> ?_);have h2':=of_decide_eq_false h2;simp -dsimp only [go_sem,h2];refine ck (fun h3=> ?_) (fun h3=> ?_);have h3':=of_decide_eq_true h3;have hb:=bad (.inr h3');simp -dsimp only [go_sem,hb];have h3':=of_decide_eq_false h3;have e4:IntKind.i64.wrap (8-(m.ks.take i).sum-m.ks.getD i 0)=8-(m.ks.take (i+1)).sum:=by rw [hs,Q0i _ (by omega) (by omega)];omega
 simp -dsimp only [go_sem,e3,e4];refine⟨m.ks.length-(i+1),by omega,i+1,rfl,by omega,fun j hj=> ?_,by omega,by omega,rfl⟩;by_cases e:j=i;subst e;omega;exact hr j (by omega);have hb:=bad (.inl (of_decide_eq_true h2));simp -dsimp only [go_sem,h2,hb];have hge:i=m.ks.length:=(by have:=of_decide_eq_false h';omega);subst hge;have hk:Y0w m.ks=true:=(K0w _).2 ⟨hr,by rw [List.take_length] at h8;exact h8⟩;simp -dsimp only [go_sem];refine Q0a ?_;simp -dsimp only [go_sem];refine gkT (fun h2=> ?_) (fun h2=> ?_);have h2':(m.ks.length:Int)=n:=(by simpa using h2);simp -dsimp only [go_sem,h2];refine(W0n m.c _ (by omega)).mono ?_;rintro r st ⟨rfl,rfl⟩;have hv:W0v m n=Q0r m.c:=(by unfold W0v;rw [hk,decide_eq_true h2'];simp);simp -dsimp only [go_sem,h2,hv];have h2': ¬(m.ks.length:Int)=n:=(by simpa using h2);have hv:W0v m n=false:=(by unfold W0v;rw [decide_eq_false h2'];simp);simp -dsimp only [go_sem,h2,hv]
theorem x1v (a b:Mn) (st:Q0f) (ha:wMn a) (hb:wMn b):PCalls Tryz.prog 260 [.agg (G0m a),.agg (G0m b)] st (fun r st'=>r= .sc (.int .i64 (cmpL b.ks a.ks))/\st'=st):=by refine Q0b none Tryz.func260 rfl fun E=>Q0a ?_;simp -dsimp only [go_sem];refine(z3n b.ks a.ks _ hb.2 ha.2).mono ?_;rintro r st ⟨rfl,rfl⟩;simp -dsimp only [go_sem]
theorem G3j (i:Nat) (h:i<100000000000000) (h0:0<i):IntKind.i64.wrap ((i:Int)-1)=((i-1:Nat):Int):=by rw [Q0i _ (by omega) (by omega)];omega
theorem k0a (p:List Mn) (n:Int) (st:Q0f) (hp:wP p):PCalls Tryz.prog 231 [.sl .no (Z0p p),.sc (.int .i64 n)] st (fun r st'=>r= .sc (.bool (X0b p n))/\st'=st):=by
 have hl:=hp.1;refine Q0b none Tryz.func231 rfl fun E=>Q0a ?_;simp -dsimp only [go_sem];refine Q0d [true,true,false,false,false,false,false,true,true,true] 0 0
  (fun k s=> ∃i,k=p.length-i/\i<=p.length/\(∀j,j<i->okP p n j=true)/\s=⟨[.sl .no (Z0p p),.sc (.int .i64 n),.junk,.junk,.junk,.junk,.junk,.sl .no (Z0p p),.sc (.int .i64 p.length),.sc (.int .i64 (i:Nat))]++List.replicate 41 .junk,[],[],st⟩) p.length ?_ ?_
 simp -dsimp only [go_sem];exact⟨0,by omega,by omega,fun j hj=>by omega,rfl⟩;rintro k s ⟨i,rfl,hi,hr,rfl⟩;simp -dsimp only [go_sem];refine ck (fun h'=> ?_) (fun h'=> ?_);have hlt:i<p.length:=(by have:=of_decide_eq_true h';omega);have e1:=V0j p i hlt;have e3:=J0f i (by omega);have hm:=hp.2 i hlt;have hmw:=hm.1;unfold wN at hmw;simp -dsimp only [go_sem,e1];refine⟨by omega,?_⟩;refine Q0k Z0d 51 (.step 0 [] (.step 1 [] (.step 2 [] (.step 3 [] (.step 4 [] (.step 5 [] (.step 6 [] (.step 7 [] (.step 8 [] (.step 9 [] (.step 10 [] (.step 11 [] (.step 12 [] (.step 13 [] (.step 14 [] (.step 15 [] (.step 16 [] (.step 17 [] (.step 18 [] (.step 19 [] (.step 20 [] (.step 21 [0,7] (.step 22 [] (.step 23 [] (.step 24 [] (.done)))))))))))))))))))))))))) (by decide+kernel) (by simp) ?_;simp -dsimp only [go_sem,e1];refine(Z2l (p.getD i default) n _ hm).mono ?_;rintro r st ⟨rfl,rfl⟩;have bad:okP p n i=false->X0b p n=false:=fun h=>V1l hlt h;cases h1:W0v (p.getD i default) n with
 | false=>
  have hb:=bad (by unfold okP;rw [h1];rfl);simp -dsimp only [go_sem,h1,hb]
 | true=>
  simp -dsimp only [go_sem,h1];refine gkF (fun h2=> ?_) (fun h2=> ?_);have h2':(p.getD i default).c.w.length≠0:=(by have:=of_decide_eq_false h2;omega);simp -dsimp only [go_sem,h2];refine gkT (fun h3=> ?_) (fun h3=> ?_);have h3':0<i:=(by have:=of_decide_eq_true h3;omega);have e4:=G3j i (by omega) h3';have e5:=V0j p (i-1) (by omega);simp -dsimp only [go_sem,h2,h3,e4,e5];refine⟨by omega,?_⟩;refine(x1v (p.getD (i-1) default) (p.getD i default) _ (hp.2 _ (by omega)) hm).mono ?_;rintro r st ⟨rfl,rfl⟩;obtain⟨k1,k2,k3⟩:=(z0m _ _).1 h1;have h0:=(z0m _ _).1 ((W0d _ _ _).1 (hr (i-1) (by omega))).1;have ho:=w1z (p.getD (i-1) default).ks (p.getD i default).ks (by omega);have hv:=v1x (p.getD (i-1) default).ks (p.getD i default).ks;rw [ho];simp -dsimp only [go_sem,h2,h3];refine ck (fun h4=> ?_) (fun h4=> ?_);have h4':=of_decide_eq_true h4;have hb:=bad (Bool.eq_false_iff.2 fun e=>by rcases ((W0d _ _ _).1 e).2.2 with h | h<;>omega);simp -dsimp only [go_sem,hb];have h4':=of_decide_eq_false h4;simp -dsimp only [go_sem,e3];refine⟨p.length-(i+1),by omega,i+1,rfl,by omega,fun j hj=> ?_,rfl⟩;by_cases e:j=i;subst e;exact(W0d _ _ _).2 ⟨h1,h2',.inr (by omega)⟩;exact hr j (by omega);have h3':i=0:=(by have:=of_decide_eq_false h3;omega);simp -dsimp only [go_sem,h2,h3,e3];refine⟨p.length-(i+1),by omega,i+1,rfl,by omega,fun j hj=> ?_,rfl⟩;have e:j=i:=(by omega);subst e;exact(W0d _ _ _).2 ⟨h1,h2',.inl h3'⟩;have h2':(p.getD i default).c.w.length=0:=(by have:=of_decide_eq_true h2;omega);have hb:=bad (Bool.eq_false_iff.2 fun e=>((W0d _ _ _).1 e).2.1 h2');simp -dsimp only [go_sem,h2,hb]
 have hge:i=p.length:=by have:=of_decide_eq_false h';omega
 subst hge;simp -dsimp only [go_sem];refine Q0a ?_;simp -dsimp only [go_sem];refine gkT (fun h1=> ?_) (fun h1=> ?_);have h1':=of_decide_eq_true h1;simp -dsimp only [go_sem,h1];refine gkT (fun h2=> ?_) (fun h2=> ?_);have h2':=of_decide_eq_true h2;have hv:X0b p n=decide ((p.length:Int)<=24):=by rw [Bool.eq_iff_iff,X0i,decide_eq_true_iff];exact⟨fun h=>by omega,fun h=>⟨⟨h1',h2',by omega⟩,hr⟩⟩
 simp -dsimp only [go_sem,h1,h2,hv];have h2':=of_decide_eq_false h2;have hv:X0b p n=false:=Bool.eq_false_iff.2 fun e=>h2' ((X0i _ _).1 e).1.2.1;simp -dsimp only [go_sem,h1,h2,hv];have h1':=of_decide_eq_false h1;have hv:X0b p n=false:=Bool.eq_false_iff.2 fun e=>h1' ((X0i _ _).1 e).1.1;simp -dsimp only [go_sem,h1,hv]
theorem Q1i (f:List (List Mn)) (st:Q0f) (hf:wF f):PCalls Tryz.prog 170 [.sl .no (Z0n f)] st (fun r st'=>r= .sc (.bool (K0e f))/\st'=st):=by
 have hl:=hf.1;refine Q0b none Tryz.func170 rfl fun E=>Q0a ?_;simp -dsimp only [go_sem];refine Q0d [true,false,false,false,false,true,true,true] 0 0
  (fun n s=> ∃i,n=f.length-i/\i<=f.length/\(∀j,j<i->X0b (f.getD j []) f.length=true)/\s=⟨[.sl .no (Z0n f),.junk,.junk,.junk,.junk,.sl .no (Z0n f),.sc (.int .i64 f.length),.sc (.int .i64 (i:Nat))]++List.replicate 17 .junk,[],[],st⟩) f.length ?_ ?_
 simp -dsimp only [go_sem];exact⟨0,by omega,by omega,fun j hj=>by omega,rfl⟩;rintro n s ⟨i,rfl,hi,hr,rfl⟩;simp -dsimp only [go_sem];refine ck (fun h'=> ?_) (fun h'=> ?_);have hlt:i<f.length:=(by have:=of_decide_eq_true h';omega);have e1:=W0x f i hlt;have e3:=J0f i (by omega);simp -dsimp only [go_sem,e1];refine⟨by omega,?_⟩;refine(k0a _ _ _ (hf.2 i hlt)).mono ?_;rintro r st ⟨rfl,rfl⟩;simp -dsimp only [go_sem];refine ck (fun h3=> ?_) (fun h3=> ?_);have hb:X0b (f.getD i []) f.length=false:=(by simpa using h3);have hv:K0e f=false:=Bool.eq_false_iff.2 fun e=>by have:=((J0r f).1 e).2 i hlt;rw [hb] at this;cases this
 simp -dsimp only [go_sem,hv];have ht:X0b (f.getD i []) f.length=true:=(by simpa using h3);simp -dsimp only [go_sem,e3];refine⟨f.length-(i+1),by omega,i+1,rfl,by omega,fun j hj=> ?_,rfl⟩;by_cases e:j=i;subst e;exact ht;exact hr j (by omega);have hge:i=f.length:=(by have:=of_decide_eq_false h';omega);subst hge;simp -dsimp only [go_sem];refine Q0a ?_;simp -dsimp only [go_sem];refine gkT (fun h=> ?_) (fun h=> ?_);have h1:=of_decide_eq_true h;have hv:K0e f=decide ((f.length:Int)<=4):=by rw [Bool.eq_iff_iff,J0r,decide_eq_true_iff];exact⟨fun h=>by omega,fun h=>⟨⟨by omega,by omega⟩,hr⟩⟩
 simp -dsimp only [go_sem,h,hv];have h1:=of_decide_eq_false h;have hv:K0e f=false:=Bool.eq_false_iff.2 fun e=>by have:=((J0r f).1 e).1;omega
 simp -dsimp only [go_sem,h,hv]
theorem V1o (a b:List Int) (st:Q0f) (ha:wK a) (hb:wK b):PCalls Tryz.prog 258 [.sl .no (encZ a),.sl .no (encZ b)] st (fun r st'=>r= .sc (.int .i64 (ordK a b))/\st'=st):=by
 have hla:=ha.1;have hlb:=hb.1;refine Q0b none Tryz.func258 rfl fun E=>Q0a ?_;simp -dsimp only [go_sem];refine Q0d [true,true,false,false,false,true] 0 0
  (fun n s=> ∃i,n=a.length-i/\i<=a.length/\i<=b.length/\ordK a b=ordK (a.drop i) (b.drop i)/\s=⟨[.sl .no (encZ a),.sl .no (encZ b),.junk,.junk,.junk,.sc (.int .i64 (i:Nat))]++List.replicate 30 .junk,[],[],st⟩) a.length ?_ ?_
 simp -dsimp only [go_sem];exact⟨0,by omega,by omega,by omega,rfl,rfl⟩;rintro n s ⟨i,rfl,hi,hib,hr,rfl⟩;have done:(a.length<=i\/b.length<=i)->ordK a b=0:=fun h=>(by rw [hr];exact x2v h);simp -dsimp only [go_sem];refine gkT (fun h1=> ?_) (fun h1=> ?_);have hlt:i<a.length:=(by have:=of_decide_eq_true h1;omega);simp -dsimp only [go_sem,h1];refine ck (fun h2=> ?_) (fun h2=> ?_);have hltb:i<b.length:=(by have:=of_decide_eq_true h2;omega);have e1:=K0p a i hlt;have e2:=K0p b i hltb;have e3:=J0f i (by omega);rw [W2d hlt hltb] at hr;simp -dsimp only [go_sem];refine Q0k Z0d 36 (.step 0 [] (.step 1 [] (.step 2 [] (.step 3 [] (.step 4 [] (.step 5 [] (.step 6 [] (.step 7 [] (.step 8 [] (.done)))))))))) (by decide+kernel) (by simp) ?_;simp -dsimp only [go_sem,e1,e2];refine⟨by omega,by omega,ck (fun h3=> ?_) (fun h3=> ?_)⟩;rw [if_pos (of_decide_eq_true h3)] at hr;simp -dsimp only [go_sem,hr];rw [if_neg (of_decide_eq_false h3)] at hr;simp -dsimp only [go_sem];refine Q0k Z0d 36 (.step 0 [] (.step 1 [] (.step 2 [] (.step 3 [] (.step 4 [] (.step 5 [] (.step 6 [] (.step 7 [] (.step 8 [] (.done)))))))))) (by decide+kernel) (by simp) ?_;simp -dsimp only [go_sem,e1,e2];refine⟨by omega,by omega,ck (fun h4=> ?_) (fun h4=> ?_)⟩;rw [if_pos (of_decide_eq_true h4)] at hr;simp -dsimp only [go_sem,hr];rw [if_neg (of_decide_eq_false h4)] at hr;simp -dsimp only [go_sem,e3];exact⟨a.length-(i+1),by omega,i+1,rfl,by omega,by omega,hr,rfl⟩;have h0:=done (.inr (by have:=of_decide_eq_false h2;omega));simp -dsimp only [go_sem];refine Q0a ?_;simp -dsimp only [go_sem,h0];have h0:=done (.inl (by have:=of_decide_eq_false h1;omega));simp -dsimp only [go_sem,h1];refine Q0a ?_;simp -dsimp only [go_sem,h0]
theorem V2b (m:Mn) (n:Int) (st:Q0f) (hm:wMn m) (hn:n<=4):PCalls Tryz.prog 228 [.agg (G0m m),.sc (.int .i64 n)] st (fun r st'=>r= .sc (.bool (W0v m n))/\st'=st):=by
 have hl:=hm.2.1;have hc:=hm.1;unfold wN at hc;refine Q0b none Tryz.func228 rfl fun E=>Q0a ?_;simp -dsimp only [go_sem];refine Q0d [false,true,true,false,false,true,true] 1 0
  (fun k s=> ∃i,k=m.ks.length-i/\i<=m.ks.length/\i<=4/\(∀j,j<i->0<=m.ks.getD j 0)/\0<=(m.ks.take i).sum/\(m.ks.take i).sum<=8*i/\s=⟨[.junk,.sc (.int .i64 n),.lp 0 0,.junk,.junk,.sc (.int .i64 (m.ks.take i).sum),.sc (.int .i64 (i:Nat))]++List.replicate 46 .junk,[G0m m],[],st⟩) m.ks.length ?_ ?_
 simp -dsimp only [go_sem];exact⟨0,by omega,by omega,by omega,fun j hj=>by omega,by simp,by simp,by simp⟩;rintro k s ⟨i,rfl,hi,hi4,hr,h0,h8,rfl⟩;have bad:i<m.ks.length->(m.ks.getD i 0<0\/8<m.ks.getD i 0)->W0v m n=false:=fun hlt hb=>by
  have hk:Y0w m.ks=false:=Bool.eq_false_iff.2 fun e=>by have:=W0t (ks:=m.ks) e i hlt;omega
  unfold W0v;rw [hk];simp
 simp -dsimp only [go_sem];refine gkT (fun h1=> ?_) (fun h1=> ?_);have hlt:i<m.ks.length:=(by have:=of_decide_eq_true h1;omega);simp -dsimp only [go_sem,h1];refine ck (fun h2=> ?_) (fun h2=> ?_);have hlt4:i<4:=(by have:=of_decide_eq_true h2;omega);have e1:=K0p m.ks i hlt;have e3:=J0f i (by omega);have hs:=x0h m.ks i hlt;simp -dsimp only [go_sem,e1];refine⟨by omega,?_⟩;refine gkF (fun h3=> ?_) (fun h3=> ?_);have h3':=of_decide_eq_false h3;simp -dsimp only [go_sem,h3,e1];refine⟨by omega,ck (fun h4=> ?_) (fun h4=> ?_)⟩;have hb:=bad hlt (.inr (of_decide_eq_true h4));simp -dsimp only [go_sem,hb];have h4':=of_decide_eq_false h4;have e4:IntKind.i64.wrap ((m.ks.take i).sum+m.ks.getD i 0)=(m.ks.take (i+1)).sum:=by rw [hs];exact Q0i _ (by omega) (by omega)
 simp -dsimp only [go_sem,e1];refine⟨by omega,?_⟩;simp -dsimp only [go_sem,e3,e4];refine⟨m.ks.length-(i+1),by omega,i+1,rfl,by omega,by omega,fun j hj=> ?_,by omega,by omega,rfl⟩;by_cases e:j=i;subst e;omega;exact hr j (by omega);have hb:=bad hlt (.inl (of_decide_eq_true h3));simp -dsimp only [go_sem,h3,hb];have hfin:m.ks.length<=i\/4<=i:= .inr (by have:=of_decide_eq_false h2;omega);clear h1 h2;simp -dsimp only [go_sem];refine Q0a ?_;simp -dsimp only [go_sem];refine gkT (fun h2=> ?_) (fun h2=> ?_);have h2':(m.ks.length:Int)=n:=(by simpa using h2);have hge:i=m.ks.length:=(by omega);subst hge;rw [List.take_length] at h0 h8;simp -dsimp only [go_sem,h2,List.take_length];refine gkT (fun h3=> ?_) (fun h3=> ?_);have h3':=of_decide_eq_true h3;simp -dsimp only [go_sem,h2,h3];refine(Y0e m.c _ (by omega)).mono ?_;rintro r st ⟨rfl,rfl⟩;have hv:W0v m n=Q0r m.c:=(by unfold W0v;rw [(K0w _).2 ⟨hr,h3'⟩,decide_eq_true h2'];simp);simp -dsimp only [go_sem,h2,h3,hv];have h3':=of_decide_eq_false h3;have hk:Y0w m.ks=false:=Bool.eq_false_iff.2 fun e=>h3' ((K0w m.ks).1 e).2;have hv:W0v m n=false:=(by unfold W0v;rw [hk];simp);simp -dsimp only [go_sem,h2,h3,hv];have h2': ¬(m.ks.length:Int)=n:=(by simpa using h2);have hv:W0v m n=false:=(by unfold W0v;rw [decide_eq_false h2'];simp);simp -dsimp only [go_sem,h2,hv];have hfin:m.ks.length<=i\/4<=i:= .inl (by have:=of_decide_eq_false h1;omega);simp -dsimp only [go_sem,h1];clear h1;refine Q0a ?_;simp -dsimp only [go_sem];refine gkT (fun h2=> ?_) (fun h2=> ?_);have h2':(m.ks.length:Int)=n:=(by simpa using h2);have hge:i=m.ks.length:=(by omega);subst hge;rw [List.take_length] at h0 h8;simp -dsimp only [go_sem,h2,List.take_length];refine gkT (fun h3=> ?_) (fun h3=> ?_);have h3':=of_decide_eq_true h3;simp -dsimp only [go_sem,h2,h3];refine(Y0e m.c _ (by omega)).mono ?_;rintro r st ⟨rfl,rfl⟩;have hv:W0v m n=Q0r m.c:=(by unfold W0v;rw [(K0w _).2 ⟨hr,h3'⟩,decide_eq_true h2'];simp);simp -dsimp only [go_sem,h2,h3,hv];have h3':=of_decide_eq_false h3;have hk:Y0w m.ks=false:=Bool.eq_false_iff.2 fun e=>h3' ((K0w m.ks).1 e).2;have hv:W0v m n=false:=(by unfold W0v;rw [hk];simp);simp -dsimp only [go_sem,h2,h3,hv];have h2': ¬(m.ks.length:Int)=n:=(by simpa using h2);have hv:W0v m n=false:=(by unfold W0v;rw [decide_eq_false h2'];simp);simp -dsimp only [go_sem,h2,hv]
theorem H0c (p:List Mn) (n:Int) (st:Q0f) (hp:wP p):PCalls Tryz.prog 238 [.sl .no (Z0p p),.sc (.int .i64 n)] st (fun r st'=>r= .sc (.bool (X0b p n))/\st'=st):=by
 have hl:=hp.1;refine Q0b none Tryz.func238 rfl fun E=>Q0a ?_;have bad0: ¬(1<=n/\n<=4/\p.length<=24)->X0b p n=false:=fun h=>Bool.eq_false_iff.2 fun e=>h ((X0i p n).1 e).1;simp -dsimp only [go_sem];refine gkF (fun g1=> ?_) (fun g1=> ?_);have g1':=of_decide_eq_false g1;simp -dsimp only [go_sem,g1];refine gkF (fun g2=> ?_) (fun g2=> ?_);have g2':=of_decide_eq_false g2;simp -dsimp only [go_sem,g1,g2];refine ck (fun g3=> ?_) (fun g3=> ?_);have hb:=bad0 (by have:=of_decide_eq_true g3;omega);simp -dsimp only [go_sem,hb];have g3':=of_decide_eq_false g3;simp -dsimp only [go_sem];refine Q0d [true,true,false,false,false,true] 0 0
  (fun k s=> ∃i,k=p.length-i/\i<=p.length/\(∀j,j<i->okP p n j=true)/\s=⟨[.sl .no (Z0p p),.sc (.int .i64 n),.junk,.junk,.junk,.sc (.int .i64 (i:Nat))]++List.replicate 53 .junk,[],[],st⟩) p.length ?_ ?_
 simp -dsimp only [go_sem];exact⟨0,by omega,by omega,fun j hj=>by omega,rfl⟩;rintro k s ⟨i,rfl,hi,hr,rfl⟩;simp -dsimp only [go_sem];refine ck (fun h'=> ?_) (fun h'=> ?_);have hlt:i<p.length:=(by have:=of_decide_eq_true h';omega);have e1:=V0j p i hlt;have e3:=J0f i (by omega);have hm:=hp.2 i hlt;simp -dsimp only [go_sem];refine Q0k Z0d 59 (.step 0 [] (.step 1 [] (.step 2 [] (.step 3 [] (.step 4 [] (.step 5 [] (.step 6 [] (.step 7 [] (.step 8 [] (.step 9 [] (.step 10 [] (.step 11 [] (.step 12 [] (.step 13 [] (.step 14 [] (.step 15 [] (.step 16 [] (.step 17 [] (.step 18 [] (.step 19 [] (.step 20 [] (.step 21 [] (.step 22 [] (.step 23 [] (.step 24 [] (.step 25 [] (.step 26 [] (.step 27 [] (.step 28 [] (.step 29 [] (.step 30 [] (.step 31 [] (.step 32 [3,13] (.step 33 [] (.step 34 [] (.step 35 [] (.done))))))))))))))))))))))))))))))))))))) (by decide+kernel) (by simp) ?_;simp -dsimp only [go_sem,e1];refine⟨by omega,?_⟩;refine(V2b (p.getD i default) n _ hm (by omega)).mono ?_;rintro r st ⟨rfl,rfl⟩;have bad:okP p n i=false->X0b p n=false:=fun h=>V1l hlt h;cases h1:W0v (p.getD i default) n with
 | false=>
  have hb:=bad (by unfold okP;rw [h1];rfl);simp -dsimp only [go_sem,h1,hb]
 | true=>
  simp -dsimp only [go_sem,h1,e1];refine⟨by omega,?_⟩;refine gkF (fun h2=> ?_) (fun h2=> ?_);have h2':(p.getD i default).c.w.length≠0:=(by have:=of_decide_eq_false h2;omega);simp -dsimp only [go_sem,h2];refine gkT (fun h3=> ?_) (fun h3=> ?_);have h3':0<i:=(by have:=of_decide_eq_true h3;omega);have e4:=G3j i (by omega) h3';have e5:=V0j p (i-1) (by omega);simp -dsimp only [go_sem,h2,h3,e1,e4,e5];refine⟨by omega,by omega,?_⟩;refine(V1o (p.getD (i-1) default).ks (p.getD i default).ks _ (hp.2 _ (by omega)).2 hm.2).mono ?_;rintro r st ⟨rfl,rfl⟩;simp -dsimp only [go_sem,h2,h3];refine ck (fun h4=> ?_) (fun h4=> ?_);have h4':=U0u h4;have hb:=bad (Bool.eq_false_iff.2 fun e=>by rcases ((W0d _ _ _).1 e).2.2 with h | h;omega;exact h4' h);simp -dsimp only [go_sem,hb];have h4':=G0o h4;simp -dsimp only [go_sem,e3];refine⟨p.length-(i+1),by omega,i+1,rfl,by omega,fun j hj=> ?_,rfl⟩;by_cases e:j=i;subst e;exact(W0d _ _ _).2 ⟨h1,h2',.inr h4'⟩;exact hr j (by omega);have h3':i=0:=(by have:=of_decide_eq_false h3;omega);simp -dsimp only [go_sem,h2,h3,e3];refine⟨p.length-(i+1),by omega,i+1,rfl,by omega,fun j hj=> ?_,rfl⟩;have e:j=i:=(by omega);subst e;exact(W0d _ _ _).2 ⟨h1,h2',.inl h3'⟩;have h2':(p.getD i default).c.w.length=0:=(by have:=of_decide_eq_true h2;omega);have hb:=bad (Bool.eq_false_iff.2 fun e=>((W0d _ _ _).1 e).2.1 h2');simp -dsimp only [go_sem,h2,hb]
 have hge:i=p.length:=by have:=of_decide_eq_false h';omega
 subst hge;have hv:X0b p n=true:=(X0i p n).2 ⟨⟨by omega,by omega,by omega⟩,hr⟩;simp -dsimp only [go_sem];refine Q0a ?_;simp -dsimp only [go_sem,hv];have hb:=bad0 (by have:=of_decide_eq_true g2;omega);simp -dsimp only [go_sem,g1,g2,hb];have hb:=bad0 (by have:=of_decide_eq_true g1;omega);simp -dsimp only [go_sem,g1,hb]
theorem X1i (f:List (List Mn)) (st:Q0f) (hf:wF f):PCalls Tryz.prog 177 [.sl .no (Z0n f)] st (fun r st'=>r= .sc (.bool (K0e f))/\st'=st):=by
 have hl:=hf.1;refine Q0b none Tryz.func177 rfl fun E=>Q0a ?_;simp -dsimp only [go_sem];refine Q0d [true,false,false,true] 0 0
  (fun n s=> ∃i,n=f.length-i/\i<=f.length/\i<=4/\(∀j,j<i->X0b (f.getD j []) f.length=true)/\s=⟨[.sl .no (Z0n f),.junk,.junk,.sc (.int .i64 (i:Nat))]++List.replicate 26 .junk,[],[],st⟩) f.length ?_ ?_
 simp -dsimp only [go_sem];exact⟨0,by omega,by omega,by omega,fun j hj=>by omega,rfl⟩;rintro n s ⟨i,rfl,hi,hi4,hr,rfl⟩;simp -dsimp only [go_sem];refine gkT (fun h1=> ?_) (fun h1=> ?_);have hlt:i<f.length:=(by have:=of_decide_eq_true h1;omega);simp -dsimp only [go_sem,h1];refine ck (fun h2=> ?_) (fun h2=> ?_);have hlt4:i<4:=(by have:=of_decide_eq_true h2;omega);have e1:=W0x f i hlt;have e3:=J0f i (by omega);simp -dsimp only [go_sem,e1];refine⟨by omega,?_⟩;refine(H0c _ _ _ (hf.2 i hlt)).mono ?_;rintro r st ⟨rfl,rfl⟩;simp -dsimp only [go_sem];refine ck (fun h3=> ?_) (fun h3=> ?_);have hb:X0b (f.getD i []) f.length=false:=(by simpa using h3);have hv:K0e f=false:=Bool.eq_false_iff.2 fun e=>by have:=((J0r f).1 e).2 i hlt;rw [hb] at this;cases this
 simp -dsimp only [go_sem,hv];have ht:X0b (f.getD i []) f.length=true:=(by simpa using h3);simp -dsimp only [go_sem,e3];refine⟨f.length-(i+1),by omega,i+1,rfl,by omega,by omega,fun j hj=> ?_,rfl⟩;by_cases e:j=i;subst e;exact ht;exact hr j (by omega);have hge4:4<f.length:=(by have:=of_decide_eq_false h2;omega);have hv:K0e f=false:=Bool.eq_false_iff.2 fun e=>by have:=((J0r f).1 e).1;omega
 have h5:decide ((f.length:Int)>0)=true:=decide_eq_true (by omega);have h6:decide ((f.length:Int)<=4)=false:=decide_eq_false (by omega);simp -dsimp only [go_sem];refine Q0a ?_;simp -dsimp only [go_sem,h5,h6,hv];have hge:i=f.length:=(by have:=of_decide_eq_false h1;omega);simp -dsimp only [go_sem,h1];clear h1;refine Q0a ?_;simp -dsimp only [go_sem];refine gkT (fun h=> ?_) (fun h=> ?_);have h1:=of_decide_eq_true h;have hv:K0e f=decide ((f.length:Int)<=4):=by rw [Bool.eq_iff_iff,J0r,decide_eq_true_iff];exact⟨fun h=>by omega,fun h=>⟨⟨by omega,by omega⟩,fun j hj=>hr j (by omega)⟩⟩
 simp -dsimp only [go_sem,h,hv];have h1:=of_decide_eq_false h;have hv:K0e f=false:=Bool.eq_false_iff.2 fun e=>by have:=((J0r f).1 e).1;omega
 simp -dsimp only [go_sem,h,hv]
end Go.Pv
end
