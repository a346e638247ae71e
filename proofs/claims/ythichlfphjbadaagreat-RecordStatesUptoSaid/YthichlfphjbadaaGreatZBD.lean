/- Parts of the walk: PvAm, PvAn, M42, N46, N47, N48, PvBa. -/
import Derived.Test.YthichlfphjbadaaGreatZAN
import Derived.Test.YthichlfphjbadaaGreatZE
import Derived.Test.YthichlfphjbadaaGreatZP
import Derived.Test.YthichlfphjbadaaGreatZAF
import Derived.Test.YthichlfphjbadaaGreatZF
import Derived.Test.YthichlfphjbadaaGreatZH
set_option linter.unusedVariables false
set_option linter.unusedSimpArgs false
section
/-Monomials,polynomials,fields;terms. -/
namespace Go.Pv
structure Mn where
 c:Nm
 ks:List Int
 deriving DecidableEq
instance : Inhabited Mn:=⟨⟨default,[]⟩⟩
def G1c (x:Mn):List PV:= [.sc (.bool x.c.neg),.sc (.int .i64 x.c.exp),.sl .no (encW x.c.w),.sl .no (encZ x.ks)]
attribute [go_sem] G1c
def J0q (l:List Mn):List PV:=l.map fun c=>(.agg (G1c c))
@[go_sem] theorem w2v (l:List Mn):(J0q l).length=l.length:=by simp [J0q]
@[go_sem] theorem H3s :J0q []= []:=(rfl)
@[go_sem] theorem k3l (l:List Mn):(J0q l).all (fun x=>x.cells.length==4)=true:=by simp [J0q,PV.cells,G1c]
@[go_sem] theorem k3m (l:List Mn):(J0q l).all (fun x=>(x.cells.length==4)&&x.cells.all PV.cellOK)=true:=by simp [J0q,PV.cells,PV.cellOK,Value.oneCell',G1c]
@[go_sem] theorem W3g (l:List Mn) (n:Nat):(J0q l).take n=J0q (l.take n):=by simp [J0q]
@[go_sem] theorem W3h (l:List Mn) (n:Nat):(J0q l).drop n=J0q (l.drop n):=by simp [J0q]
@[go_sem] theorem H3u (l m:List Mn):J0q l++J0q m=J0q (l++m):=by simp [J0q]
@[go_sem] theorem X2t (l:List Mn) (c:Mn):J0q l++ [.agg (G1c c)]=J0q (l++ [c]):=by simp [J0q]
theorem J1o (l:List Mn) (n:Nat) (h:n<l.length):(J0q l).getD n .junk= .agg (G1c (l.getD n default)):=by
 simp [J0q,List.getD_eq_getElem?_getD,h]
@[go_sem] theorem H3t (l:List Mn) (i:Nat) (cs:List PV):(J0q l).map (PV.frz i cs)=J0q l:=by
 simp only [J0q,List.map_map]
 exact List.map_congr_left fun a _=>rfl
structure Tm where
 v:Vl
 ks:List Int
instance : Inhabited Tm:=⟨⟨⟨false,0,0⟩,[]⟩⟩
def j0y (x:Tm):List PV:= [.sc (.bool x.v.neg),.sl .no (encD (Q0d x.v.m)),.sc (.int .i64 x.v.e),.sl .no (encZ x.ks)]
attribute [go_sem] j0y
def Z0f (l:List Tm):List PV:=l.map fun c=>(.agg (j0y c))
@[go_sem] theorem K0q (l:List Tm):(Z0f l).length=l.length:=by simp [Z0f]
@[go_sem] theorem H3k :Z0f []= []:=(rfl)
@[go_sem] theorem k3g (l:List Tm):(Z0f l).all (fun x=>x.cells.length==4)=true:=by simp [Z0f,PV.cells,j0y]
@[go_sem] theorem j2x (l:List Tm):(Z0f l).all (fun x=>(x.cells.length==4)&&x.cells.all PV.cellOK)=true:=by simp [Z0f,PV.cells,PV.cellOK,Value.oneCell',j0y]
@[go_sem] theorem W3b (l:List Tm) (n:Nat):(Z0f l).take n=Z0f (l.take n):=by simp [Z0f]
@[go_sem] theorem W3c (l:List Tm) (n:Nat):(Z0f l).drop n=Z0f (l.drop n):=by simp [Z0f]
@[go_sem] theorem U2p (l m:List Tm):Z0f l++Z0f m=Z0f (l++m):=by simp [Z0f]
@[go_sem] theorem X2s (l:List Tm) (c:Tm):Z0f l++ [.agg (j0y c)]=Z0f (l++ [c]):=by simp [Z0f]
theorem v0s (l:List Tm) (n:Nat) (h:n<l.length):(Z0f l).getD n .junk= .agg (j0y (l.getD n default)):=by
 simp [Z0f,List.getD_eq_getElem?_getD,h]
@[go_sem] theorem H3l (l:List Tm) (i:Nat) (cs:List PV):(Z0f l).map (PV.frz i cs)=Z0f l:=by
 simp only [Z0f,List.map_map]
 exact List.map_congr_left fun a _=>rfl
def K0e (l:List (List Mn)):List PV:=l.map fun c=>(.sl .no (J0q c))
@[go_sem] theorem w2x (l:List (List Mn)):(K0e l).length=l.length:=by simp [K0e]
@[go_sem] theorem q3h :K0e []= []:=(rfl)
@[go_sem] theorem k3v (l:List (List Mn)):(K0e l).all (fun x=>x.cells.length==1)=true:=by simp [K0e,PV.cells]
@[go_sem] theorem k3w (l:List (List Mn)):(K0e l).all (fun x=>(x.cells.length==1)&&x.cells.all PV.cellOK)=true:=by simp [K0e,PV.cells,PV.cellOK,Value.oneCell']
@[go_sem] theorem W3r (l:List (List Mn)) (n:Nat):(K0e l).take n=K0e (l.take n):=by simp [K0e]
@[go_sem] theorem W3t (l:List (List Mn)) (n:Nat):(K0e l).drop n=K0e (l.drop n):=by simp [K0e]
@[go_sem] theorem q3j (l m:List (List Mn)):K0e l++K0e m=K0e (l++m):=by simp [K0e]
@[go_sem] theorem W3s (l:List (List Mn)) (c:(List Mn)):K0e l++ [.sl .no (J0q c)]=K0e (l++ [c]):=by simp [K0e]
theorem U2s (l:List (List Mn)) (n:Nat) (h:n<l.length):(K0e l).getD n .junk= .sl .no (J0q (l.getD n [])):=by
 simp [K0e,List.getD_eq_getElem?_getD,h]
@[go_sem] theorem q3i (l:List (List Mn)) (i:Nat) (cs:List PV):(K0e l).map (PV.frz i cs)=K0e l:=by
 simp only [K0e,List.map_map]
 exact List.map_congr_left fun a _=>rfl
def U0x (l:List (List (List Mn))):List PV:=l.map fun c=>(.sl .no (K0e c))
@[go_sem] theorem w2w (l:List (List (List Mn))):(U0x l).length=l.length:=by simp [U0x]
@[go_sem] theorem q3b :U0x []= []:=(rfl)
@[go_sem] theorem k3r (l:List (List (List Mn))):(U0x l).all (fun x=>x.cells.length==1)=true:=by simp [U0x,PV.cells]
@[go_sem] theorem k3s (l:List (List (List Mn))):(U0x l).all (fun x=>(x.cells.length==1)&&x.cells.all PV.cellOK)=true:=by simp [U0x,PV.cells,PV.cellOK,Value.oneCell']
@[go_sem] theorem W3l (l:List (List (List Mn))) (n:Nat):(U0x l).take n=U0x (l.take n):=by simp [U0x]
@[go_sem] theorem W3n (l:List (List (List Mn))) (n:Nat):(U0x l).drop n=U0x (l.drop n):=by simp [U0x]
@[go_sem] theorem q3d (l m:List (List (List Mn))):U0x l++U0x m=U0x (l++m):=by simp [U0x]
@[go_sem] theorem W3m (l:List (List (List Mn))) (c:(List (List Mn))):U0x l++ [.sl .no (K0e c)]=U0x (l++ [c]):=by simp [U0x]
@[go_sem] theorem q3c (l:List (List (List Mn))) (i:Nat) (cs:List PV):(U0x l).map (PV.frz i cs)=U0x l:=by
 simp only [U0x,List.map_map]
 exact List.map_congr_left fun a _=>rfl
end Go.Pv
end
section
/-An object of the store that is written no more:in all slots and boxes it becomes a plain slice. -/
namespace Go.Pv
def PV.frzG1 (k:Nat) (cs:List PV):PV→PV
 | .ms true k' off len=>if k'=k∧off+len≤cs.length then .sl .no ((cs.drop off).take len) else .ms true k' off len
 | p=>p
def PV.frzG (k:Nat) (cs:List PV):PV→PV
 | .agg l=> .agg (l.map (PV.frzG1 k cs))
 | .tup l=> .tup (l.map (PV.frzG1 k cs))
 | .fn f l m=> .fn f (l.map (PV.frzG1 k cs)) (m.map (PV.frzG1 k cs))
 | p=>p.frzG1 k cs
structure SolidG (w:World) (g':Gh) (k:Nat) (cs:List PV):Prop where
 sl: ∀v off len,k<g'.n→Rep w g' v (.ms true k off len)→off+len≤cs.length→Rep w g' v (.sl .no ((cs.drop off).take len))
section
variable {w:World} {g g':Gh} {F:Fr} {T:List (Nat×Nat)} {k:Nat} {cs:List PV}
theorem RepF.frzG1 {v:Value} {p:PV} (hk:k<g'.n) (hm: ∀v p,RepF w g F T v p→RepF w g' F T v p) (hz:SolidG w g' k cs) (h:RepF w g F T v p):RepF w g' F T v (p.frzG1 k cs):=by
 have h':=hm _ _ h
 cases p with
 | ms gl k' off len=>
  cases gl with
  | false=>exact h'
  | true=>
   simp only [PV.frzG1]
   split
   · rename_i e
     obtain⟨rfl,hle⟩:=e
     cases h' with
     | base _ _ h'=>exact .base _ _ (hz.sl _ _ _ hk h' hle)
   · exact h'
 | _=>exact h'
theorem RepF.frzG {v:Value} {p:PV} (hk:k<g'.n) (hm: ∀v p,RepF w g F T v p→RepF w g' F T v p) (hz:SolidG w g' k cs) (h:RepF w g F T v p):RepF w g' F T v (p.frzG k cs):=by
 have gm: ∀(l:List PV) (j:Nat),(l.map (PV.frzG1 k cs)).getD j .junk=(l.getD j .junk).frzG1 k cs:=fun l j=>Q0u rfl l j
 cases p with
 | agg l=>
  cases h with
  | base _ _ h=>
   cases h with
   | agg vs cs' hl h=>exact .agg vs _ (by simpa using hl) fun j hj=>by rw [gm];exact RepF.frzG1 hk hm hz (.base _ _ (h j (by simpa using hj)))
  | agg vs cs' hl h=>exact .agg vs _ (by simpa using hl) fun j hj=>by rw [gm];exact RepF.frzG1 hk hm hz (h j (by simpa using hj))
 | tup l=>
  cases h with
  | base _ _ h=>
   cases h with
   | tup vs cs' hl h=>exact .tup vs _ (by simpa using hl) fun j hj=>by rw [gm];exact RepF.frzG1 hk hm hz (.base _ _ (h j (by simpa using hj)))
  | tup vs cs' hl h=>exact .tup vs _ (by simpa using hl) fun j hj=>by rw [gm];exact RepF.frzG1 hk hm hz (h j (by simpa using hj))
 | fn f l m=>
  cases h with
  | base _ _ h=>
   cases h with
   | fn f us vs bs cs' hk' hl h0 h=>
    exact .fn f us vs _ _ (by simpa using hk') (by simpa using hl) (fun j hj=>by rw [gm];exact RepF.frzG1 hk hm hz (.base _ _ (h0 j (by simpa using hj)))) fun j hj=>by rw [gm];exact RepF.frzG1 hk hm hz (.base _ _ (h j (by simpa using hj)))
  | fn f us vs bs cs' hk' hl h0 h=>
   exact .fn f us vs _ _ (by simpa using hk') (by simpa using hl) (fun j hj=>by rw [gm];exact RepF.frzG1 hk hm hz (h0 j (by simpa using hj))) fun j hj=>by rw [gm];exact RepF.frzG1 hk hm hz (h j (by simpa using hj))
 | _=>exact RepF.frzG1 hk hm hz h
end
def PFS.freezeA (k:Nat) (s:PFS):PFS:=⟨s.pa.map (PV.frzG k (s.st.getD k [])),s.L.map fun l=>l.map (PV.frzG k (s.st.getD k [])),s.T,s.st.set k []⟩
@[go_sem] theorem V3s {k:Nat} {pa:List PV} {L st:Q0g} {T:List (Nat×Nat)} :(PFS.mk pa L T st).freezeA k=⟨pa.map (PV.frzG k (st.getD k [])),L.map fun l=>l.map (PV.frzG k (st.getD k [])),T,st.set k []⟩:=(rfl)
@[go_sem] theorem G3s {k:Nat} {cs:List PV} :PV.frzG k cs .junk= .junk:=(rfl)
@[go_sem] theorem Z4d {k:Nat} {cs:List PV} {v:Value} :PV.frzG k cs (.sc v)=(.sc v):=(rfl)
@[go_sem] theorem Z4f {k:Nat} {cs:List PV} {i o:Nat} :PV.frzG k cs (.lp i o)=(.lp i o):=(rfl)
@[go_sem] theorem Z4h {k:Nat} {cs:List PV} {i o:Nat} :PV.frzG k cs (.gp i o)=(.gp i o):=(rfl)
@[go_sem] theorem Z4c {k:Nat} {cs:List PV} {t:Tag} {es:List PV} :PV.frzG k cs (.sl t es)=(.sl t es):=(rfl)
@[go_sem] theorem Z4j {k:Nat} {cs:List PV} {es:List PV} {o:Nat} :PV.frzG k cs (.ep es o)=(.ep es o):=(rfl)
@[go_sem] theorem j3k {k:Nat} {cs:List PV} {i o n:Nat} :PV.frzG k cs (.ms false i o n)=(.ms false i o n):=(rfl)
@[go_sem] theorem Z4e {k:Nat} {cs:List PV} {i n c:Nat} :PV.frzG k cs (.mr i n c)=(.mr i n c):=(rfl)
@[go_sem] theorem j3o {k:Nat} {cs:List PV} {i n c:Nat} :PV.frzG1 k cs (.mr i n c)=(.mr i n c):=(rfl)
@[go_sem] theorem j3j {k:Nat} {cs:List PV} {es:List PV} {n:Nat} :PV.frzG k cs (.pre es n)=(.pre es n):=(rfl)
@[go_sem] theorem V3n {k:Nat} {cs:List PV} :PV.frzG1 k cs .junk= .junk:=(rfl)
@[go_sem] theorem j3n {k:Nat} {cs:List PV} {v:Value} :PV.frzG1 k cs (.sc v)=(.sc v):=(rfl)
@[go_sem] theorem j3p {k:Nat} {cs:List PV} {i o:Nat} :PV.frzG1 k cs (.lp i o)=(.lp i o):=(rfl)
@[go_sem] theorem j3r {k:Nat} {cs:List PV} {i o:Nat} :PV.frzG1 k cs (.gp i o)=(.gp i o):=(rfl)
@[go_sem] theorem j3m {k:Nat} {cs:List PV} {t:Tag} {es:List PV} :PV.frzG1 k cs (.sl t es)=(.sl t es):=(rfl)
@[go_sem] theorem j3s {k:Nat} {cs:List PV} {es:List PV} {o:Nat} :PV.frzG1 k cs (.ep es o)=(.ep es o):=(rfl)
@[go_sem] theorem G3u {k:Nat} {cs:List PV} {i o n:Nat} :PV.frzG1 k cs (.ms false i o n)=(.ms false i o n):=(rfl)
@[go_sem] theorem G3t {k:Nat} {cs:List PV} {es:List PV} {n:Nat} :PV.frzG1 k cs (.pre es n)=(.pre es n):=(rfl)
@[go_sem] theorem j3l {k:Nat} {cs l:List PV} :PV.frzG k cs (.agg l)= .agg (l.map (PV.frzG1 k cs)):=(rfl)
@[go_sem] theorem j3i {k:Nat} {cs l:List PV} :PV.frzG k cs (.tup l)= .tup (l.map (PV.frzG1 k cs)):=(rfl)
@[go_sem] theorem Z4i {k:Nat} {cs l m:List PV} {f:Fn} :PV.frzG k cs (.fn f l m)= .fn f (l.map (PV.frzG1 k cs)) (m.map (PV.frzG1 k cs)):=(rfl)
end Go.Pv
end
section
/-Powers,monomials,polynomials,fields:what is right,orders,degrees. No program in it. -/
namespace Go.Pv
theorem z0x (ks:List Int) (i:Nat) (h:i<ks.length):(ks.take (i+1)).sum=(ks.take i).sum+ks.getD i 0:=by
 rw [List.take_add_one,List.sum_append,List.getElem?_eq_getElem h]
 simp [List.getD_eq_getElem?_getD,h]
theorem v1o (ks:List Int) (h: ∀j,j<ks.length→0≤ks.getD j 0): ∀(d i:Nat),i+d=ks.length→(ks.take i).sum≤ks.sum
 | 0,i,e=>by rw [List.take_of_length_le (by omega)];exact Int.le_refl _
 | d+1,i,e=>by
  have h1:=v1o ks h d (i+1) (by omega)
  have h2:=z0x ks i (by omega)
  have h3:=h i (by omega)
  omega
def Y0y (ks:List Int):Bool:=ks.all (fun k=>decide (0≤k))&&decide (ks.sum≤8)
theorem K0v (ks:List Int):Y0y ks=true↔(∀j,j<ks.length→0≤ks.getD j 0)∧ks.sum≤8:=by
 unfold Y0y
 simp only [Bool.and_eq_true,List.all_eq_true,decide_eq_true_eq]
 constructor
 · rintro⟨h1,h2⟩
   refine⟨fun j hj=> ?_,h2⟩
   have:ks.getD j 0=ks[j]:=by simp [List.getD_eq_getElem?_getD,hj]
   rw [this];exact h1 _ (List.getElem_mem hj)
 · rintro⟨h1,h2⟩
   refine⟨fun k hk=> ?_,h2⟩
   obtain⟨j,hj,e⟩:=List.mem_iff_getElem.1 hk
   have:=h1 j hj
   rw [show ks.getD j 0=ks[j] by simp [List.getD_eq_getElem?_getD,hj],e] at this
   exact this
theorem Q2x {ks:List Int} (h: ∀j,j<ks.length→0≤ks.getD j 0) (i:Nat) (hi:i≤ks.length):0≤(ks.take i).sum:=by
 induction i with
 | zero=>simp
 | succ i ih=>
  have h2:=z0x ks i (by omega)
  have h3:=h i (by omega)
  have:=ih (by omega)
  omega
theorem V0l {ks:List Int} (h:Y0y ks=true) (i:Nat) (hi:i≤ks.length):0≤(ks.take i).sum∧(ks.take i).sum≤8:=by
 obtain⟨h1,h2⟩:=(K0v ks).1 h
 have h3:=Q2x h1 i hi
 have h4:=v1o ks h1 (ks.length-i) i (by omega)
 omega
theorem U0l {ks:List Int} (h:Y0y ks=true) (i:Nat) (hi:i<ks.length):0≤ks.getD i 0∧ks.getD i 0≤8:=by
 obtain⟨h1,h2⟩:=(K0v ks).1 h
 have h3:=V0l h i (by omega)
 have h4:=V0l h (i+1) (by omega)
 have h5:=z0x ks i hi
 have:=h1 i hi
 omega
def G0q (m:Mn) (n:Int):Bool:=decide ((m.ks.length:Int)=n)&&Y0y m.ks&&Q0f m.c
theorem q1z (m:Mn) (n:Int):G0q m n=true↔(m.ks.length:Int)=n∧Y0y m.ks=true∧Q0f m.c=true:=by
 unfold G0q
 simp only [Bool.and_eq_true,decide_eq_true_eq,and_assoc]
def ordK :List Int→List Int→Int
 | x::a,y::b=>if x>y then 1 else if x<y then -1 else ordK a b
 | _,_=>0
def cmpL :List Int→List Int→Int
 | [],[]=>0
 | [],_::_=> -1
 | _::_,[]=>1
 | x::a,y::b=>if x<y then -1 else if x>y then 1 else cmpL a b
theorem z1y (a:List Int) (i:Nat) (h:i<a.length):a.drop i=a.getD i 0::a.drop (i+1):=by
 rw [List.drop_eq_getElem_cons h]
 simp [List.getD_eq_getElem?_getD,h]
theorem W2j {a b:List Int} {i:Nat} (ha:i<a.length) (hb:i<b.length):ordK (a.drop i) (b.drop i)=if a.getD i 0>b.getD i 0 then 1 else if a.getD i 0<b.getD i 0 then -1 else ordK (a.drop (i+1)) (b.drop (i+1)):=by
 rw [z1y a i ha,z1y b i hb,ordK]
theorem z2s {a b:List Int} {i:Nat} (h:a.length≤i∨b.length≤i):ordK (a.drop i) (b.drop i)=0:=by
 rcases h with h | h
 · rw [List.drop_of_length_le h];cases b.drop i<;>rfl
 · rw [List.drop_of_length_le h];cases a.drop i<;>rfl
theorem U1l : ∀(a b:List Int),ordK a b=1∨ordK a b=0∨ordK a b= -1
 | [],_=> .inr (.inl rfl)
 | _::_,[]=> .inr (.inl rfl)
 | x::a,y::b=>by
  rw [ordK]
  split
  · exact .inl rfl
  · split
    · exact .inr (.inr rfl)
    · exact U1l a b
def okP (p:List Mn) (n:Int) (i:Nat):Bool:=
 G0q (p.getD i default) n&&decide ((p.getD i default).c.w.length≠0)&&(decide (i=0)||decide (ordK (p.getD (i-1) default).ks (p.getD i default).ks=1))
def V0k (p:List Mn) (n:Int):Bool:=decide (1≤n∧n≤4∧p.length≤24)&&(List.range p.length).all (okP p n)
theorem x0e (p:List Mn) (n:Int):V0k p n=true↔(1≤n∧n≤4∧p.length≤24)∧ ∀i,i<p.length→okP p n i=true:=by
 unfold V0k
 simp only [Bool.and_eq_true,List.all_eq_true,decide_eq_true_eq,List.mem_range]
theorem X1s (p:List Mn) (n:Int) (i:Nat):okP p n i=true↔G0q (p.getD i default) n=true∧(p.getD i default).c.w.length≠0∧(i=0∨ordK (p.getD (i-1) default).ks (p.getD i default).ks=1):=by
 unfold okP
 simp only [Bool.and_eq_true,Bool.or_eq_true,decide_eq_true_eq,and_assoc]
theorem Z2f {p:List Mn} {n:Int} {i:Nat} (hi:i<p.length) (h:okP p n i=false):V0k p n=false:=Bool.eq_false_iff.2 fun e=>by
 have:=((x0e p n).1 e).2 i hi
 rw [h] at this;cases this
def V0x (f:List (List Mn)):Bool:=decide (1≤f.length∧f.length≤4)&&f.all (fun p=>V0k p f.length)
theorem G0y (f:List (List Mn)):V0x f=true↔(1≤f.length∧f.length≤4)∧ ∀i,i<f.length→V0k (f.getD i []) f.length=true:=by
 unfold V0x
 simp only [Bool.and_eq_true,List.all_eq_true,decide_eq_true_eq]
 constructor
 · rintro⟨h1,h2⟩
   refine⟨h1,fun j hj=> ?_⟩
   have:f.getD j []=f[j]:=by simp [List.getD_eq_getElem?_getD,hj]
   rw [this];exact h2 _ (List.getElem_mem hj)
 · rintro⟨h1,h2⟩
   refine⟨h1,fun k hk=> ?_⟩
   obtain⟨j,hj,e⟩:=List.mem_iff_getElem.1 hk
   have:=h2 j hj
   rw [show f.getD j []=f[j] by simp [List.getD_eq_getElem?_getD,hj],e] at this
   exact this
def maxS (p:List Mn):Nat→Int
 | 0=>0
 | i+1=>if (p.getD i default).ks.sum>maxS p i then(p.getD i default).ks.sum else maxS p i
def degP (p:List Mn):Int:=if p.length=0∨V0k p (p.getD 0 default).ks.length=false then 0 else maxS p p.length
def maxD (f:List (List Mn)):Nat→Int
 | 0=>0
 | i+1=>if degP (f.getD i [])>maxD f i then degP (f.getD i []) else maxD f i
def degF (f:List (List Mn)):Int:=maxD f f.length
def wK (ks:List Int):Prop:=ks.length≤100000000000∧ ∀i,i<ks.length→ -9223372036854775808≤ks.getD i 0∧ks.getD i 0≤9223372036854775807
def wMn (m:Mn):Prop:=wN m.c∧wK m.ks
def wP (p:List Mn):Prop:=p.length≤100000000000∧ ∀i,i<p.length→wMn (p.getD i default)
def wF (f:List (List Mn)):Prop:=f.length≤100000000000∧ ∀i,i<f.length→wP (f.getD i [])
end Go.Pv
end
section
/-poly.Right,Degree,Same;field.Right,Degree,Same. -/
set_option maxRecDepth 100000
namespace Go.Pv
open Go.Proofs
theorem y3n (i:Nat) (h:i<100000000000000) (h0:0<i):IntKind.i64.wrap ((i:Int)-1)=((i-1:Nat):Int):=by rw [Q0p _ (by omega) (by omega)];omega
end Go.Pv
end
section
/-The document's polynomials and fields:mono,order,Right,Degree,SamePoly,RightField,DegreeField,SameField. -/
set_option maxRecDepth 100000
namespace Go.Pv
open Go.Proofs
theorem w0m (a b:List Int) (st:Q0g) (ha:wK a) (hb:wK b):PCalls Tryz.prog 168 [.sl .no (encZ a),.sl .no (encZ b)] st (fun r st'=>r= .sc (.int .i64 (ordK a b))∧st'=st):=by
 have hla:=ha.1
 have hlb:=hb.1
 refine Q0b none Tryz.func168 rfl fun E=>Q0a ?_
 simp -dsimp only [go_sem]
 refine Q0e [true,true,false,false,false,true] 0 0
  (fun n s=> ∃i,n=a.length-i∧i≤a.length∧i≤b.length∧ordK a b=ordK (a.drop i) (b.drop i)∧s=⟨[.sl .no (encZ a),.sl .no (encZ b),.junk,.junk,.junk,.sc (.int .i64 (i:Nat))]++List.replicate 30 .junk,[],[],st⟩) a.length ?_ ?_
 · simp -dsimp only [go_sem]
   exact⟨0,by omega,by omega,by omega,rfl,rfl⟩
 · rintro n s ⟨i,rfl,hi,hib,hr,rfl⟩
   have done:(a.length≤i∨b.length≤i)→ordK a b=0:=fun h=>by rw [hr];exact z2s h
   simp -dsimp only [go_sem]
   refine gkT (fun h1=> ?_) (fun h1=> ?_)
   · have hlt:i<a.length:=by have:=of_decide_eq_true h1;omega
     simp -dsimp only [go_sem,h1]
     refine ck (fun h2=> ?_) (fun h2=> ?_)
     · have hltb:i<b.length:=by have:=of_decide_eq_true h2;omega
       have e1:=Q1t a i hlt
       have e2:=Q1t b i hltb
       have e3:=Y0r i (by omega)
       rw [W2j hlt hltb] at hr
       simp -dsimp only [go_sem]
       refine Q0m Z0t 36 (.step 0 [] (.step 1 [] (.step 2 [] (.step 3 [] (.step 4 [] (.step 5 [] (.step 6 [] (.step 7 [] (.step 8 [] (.done)))))))))) (by decide+kernel) (by simp) ?_
       simp -dsimp only [go_sem,e1,e2]
       refine⟨by omega,by omega,ck (fun h3=> ?_) (fun h3=> ?_)⟩
       · rw [if_pos (of_decide_eq_true h3)] at hr
         simp -dsimp only [go_sem,hr]
       · rw [if_neg (of_decide_eq_false h3)] at hr
         simp -dsimp only [go_sem]
         refine Q0m Z0t 36 (.step 0 [] (.step 1 [] (.step 2 [] (.step 3 [] (.step 4 [] (.step 5 [] (.step 6 [] (.step 7 [] (.step 8 [] (.done)))))))))) (by decide+kernel) (by simp) ?_
         simp -dsimp only [go_sem,e1,e2]
         refine⟨by omega,by omega,ck (fun h4=> ?_) (fun h4=> ?_)⟩
         · rw [if_pos (of_decide_eq_true h4)] at hr
           simp -dsimp only [go_sem,hr]
         · rw [if_neg (of_decide_eq_false h4)] at hr
           simp -dsimp only [go_sem,e3]
           exact⟨a.length-(i+1),by omega,i+1,rfl,by omega,by omega,hr,rfl⟩
     · have h0:=done (.inr (by have:=of_decide_eq_false h2;omega))
       simp -dsimp only [go_sem]
       refine Q0a ?_
       simp -dsimp only [go_sem,h0]
   · have h0:=done (.inl (by have:=of_decide_eq_false h1;omega))
     simp -dsimp only [go_sem,h1]
     refine Q0a ?_
     simp -dsimp only [go_sem,h0]
theorem H1u (m:Mn) (n:Int) (st:Q0g) (hm:wMn m) (hn:n≤4):PCalls Tryz.prog 135 [.agg (G1c m),.sc (.int .i64 n)] st (fun r st'=>r= .sc (.bool (G0q m n))∧st'=st):=by
 have hl:=hm.2.1
 have hc:=hm.1
 unfold wN at hc
 refine Q0b none Tryz.func135 rfl fun E=>Q0a ?_
 simp -dsimp only [go_sem]
 refine Q0e [false,true,true,false,false,true,true] 1 0
  (fun k s=> ∃i,k=m.ks.length-i∧i≤m.ks.length∧i≤4∧(∀j,j<i→0≤m.ks.getD j 0)∧0≤(m.ks.take i).sum∧(m.ks.take i).sum≤8*i∧s=⟨[.junk,.sc (.int .i64 n),.lp 0 0,.junk,.junk,.sc (.int .i64 (m.ks.take i).sum),.sc (.int .i64 (i:Nat))]++List.replicate 46 .junk,[G1c m],[],st⟩) m.ks.length ?_ ?_
 · simp -dsimp only [go_sem]
   exact⟨0,by omega,by omega,by omega,fun j hj=>by omega,by simp,by simp,by simp⟩
 · rintro k s ⟨i,rfl,hi,hi4,hr,h0,h8,rfl⟩
   have bad:i<m.ks.length→(m.ks.getD i 0<0∨8<m.ks.getD i 0)→G0q m n=false:=fun hlt hb=>by
    have hk:Y0y m.ks=false:=Bool.eq_false_iff.2 fun e=>by have:=U0l (ks:=m.ks) e i hlt;omega
    unfold G0q;rw [hk];simp
   simp -dsimp only [go_sem]
   refine gkT (fun h1=> ?_) (fun h1=> ?_)
   · have hlt:i<m.ks.length:=by have:=of_decide_eq_true h1;omega
     simp -dsimp only [go_sem,h1]
     refine ck (fun h2=> ?_) (fun h2=> ?_)
     · have hlt4:i<4:=by have:=of_decide_eq_true h2;omega
       have e1:=Q1t m.ks i hlt
       have e3:=Y0r i (by omega)
       have hs:=z0x m.ks i hlt
       simp -dsimp only [go_sem,e1]
       refine⟨by omega,?_⟩
       refine gkF (fun h3=> ?_) (fun h3=> ?_)
       · have h3':=of_decide_eq_false h3
         simp -dsimp only [go_sem,h3,e1]
         refine⟨by omega,ck (fun h4=> ?_) (fun h4=> ?_)⟩
         · have hb:=bad hlt (.inr (of_decide_eq_true h4))
           simp -dsimp only [go_sem,hb]
         · have h4':=of_decide_eq_false h4
           have e4:IntKind.i64.wrap ((m.ks.take i).sum+m.ks.getD i 0)=(m.ks.take (i+1)).sum:=by
            rw [hs];exact Q0p _ (by omega) (by omega)
           simp -dsimp only [go_sem,e1]
           refine⟨by omega,?_⟩
           simp -dsimp only [go_sem,e3,e4]
           refine⟨m.ks.length-(i+1),by omega,i+1,rfl,by omega,by omega,fun j hj=> ?_,by omega,by omega,rfl⟩
           by_cases e:j=i
           · subst e;omega
           · exact hr j (by omega)
       · have hb:=bad hlt (.inl (of_decide_eq_true h3))
         simp -dsimp only [go_sem,h3,hb]
     · have hfin:m.ks.length≤i∨4≤i:= .inr (by have:=of_decide_eq_false h2;omega)
       clear h1 h2
       simp -dsimp only [go_sem]
       refine Q0a ?_
       simp -dsimp only [go_sem]
       refine gkT (fun h2=> ?_) (fun h2=> ?_)
       · have h2':(m.ks.length:Int)=n:=by simpa using h2
         have hge:i=m.ks.length:=by omega
         subst hge
         rw [List.take_length] at h0 h8
         simp -dsimp only [go_sem,h2,List.take_length]
         refine gkT (fun h3=> ?_) (fun h3=> ?_)
         · have h3':=of_decide_eq_true h3
           simp -dsimp only [go_sem,h2,h3]
           refine(Z0m m.c _ (by omega)).mono ?_
           rintro r st ⟨rfl,rfl⟩
           have hv:G0q m n=Q0f m.c:=by unfold G0q;rw [(K0v _).2 ⟨hr,h3'⟩,decide_eq_true h2'];simp
           simp -dsimp only [go_sem,h2,h3,hv]
         · have h3':=of_decide_eq_false h3
           have hk:Y0y m.ks=false:=Bool.eq_false_iff.2 fun e=>h3' ((K0v m.ks).1 e).2
           have hv:G0q m n=false:=by unfold G0q;rw [hk];simp
           simp -dsimp only [go_sem,h2,h3,hv]
       · have h2': ¬(m.ks.length:Int)=n:=by simpa using h2
         have hv:G0q m n=false:=by unfold G0q;rw [decide_eq_false h2'];simp
         simp -dsimp only [go_sem,h2,hv]
   · have hfin:m.ks.length≤i∨4≤i:= .inl (by have:=of_decide_eq_false h1;omega)
     simp -dsimp only [go_sem,h1]
     clear h1
     refine Q0a ?_
     simp -dsimp only [go_sem]
     refine gkT (fun h2=> ?_) (fun h2=> ?_)
     · have h2':(m.ks.length:Int)=n:=by simpa using h2
       have hge:i=m.ks.length:=by omega
       subst hge
       rw [List.take_length] at h0 h8
       simp -dsimp only [go_sem,h2,List.take_length]
       refine gkT (fun h3=> ?_) (fun h3=> ?_)
       · have h3':=of_decide_eq_true h3
         simp -dsimp only [go_sem,h2,h3]
         refine(Z0m m.c _ (by omega)).mono ?_
         rintro r st ⟨rfl,rfl⟩
         have hv:G0q m n=Q0f m.c:=by unfold G0q;rw [(K0v _).2 ⟨hr,h3'⟩,decide_eq_true h2'];simp
         simp -dsimp only [go_sem,h2,h3,hv]
       · have h3':=of_decide_eq_false h3
         have hk:Y0y m.ks=false:=Bool.eq_false_iff.2 fun e=>h3' ((K0v m.ks).1 e).2
         have hv:G0q m n=false:=by unfold G0q;rw [hk];simp
         simp -dsimp only [go_sem,h2,h3,hv]
     · have h2': ¬(m.ks.length:Int)=n:=by simpa using h2
       have hv:G0q m n=false:=by unfold G0q;rw [decide_eq_false h2'];simp
       simp -dsimp only [go_sem,h2,hv]
theorem K1l (p:List Mn) (n:Int) (st:Q0g) (hp:wP p):PCalls Tryz.prog 169 [.sl .no (J0q p),.sc (.int .i64 n)] st (fun r st'=>r= .sc (.bool (V0k p n))∧st'=st):=by
 have hl:=hp.1
 refine Q0b none Tryz.func169 rfl fun E=>Q0a ?_
 have bad0: ¬(1≤n∧n≤4∧p.length≤24)→V0k p n=false:=fun h=>Bool.eq_false_iff.2 fun e=>h ((x0e p n).1 e).1
 simp -dsimp only [go_sem]
 refine gkF (fun g1=> ?_) (fun g1=> ?_)
 · have g1':=of_decide_eq_false g1
   simp -dsimp only [go_sem,g1]
   refine gkF (fun g2=> ?_) (fun g2=> ?_)
   · have g2':=of_decide_eq_false g2
     simp -dsimp only [go_sem,g1,g2]
     refine ck (fun g3=> ?_) (fun g3=> ?_)
     · have hb:=bad0 (by have:=of_decide_eq_true g3;omega)
       simp -dsimp only [go_sem,hb]
     · have g3':=of_decide_eq_false g3
       simp -dsimp only [go_sem]
       refine Q0e [true,true,false,false,false,true] 0 0
        (fun k s=> ∃i,k=p.length-i∧i≤p.length∧(∀j,j<i→okP p n j=true)∧s=⟨[.sl .no (J0q p),.sc (.int .i64 n),.junk,.junk,.junk,.sc (.int .i64 (i:Nat))]++List.replicate 53 .junk,[],[],st⟩) p.length ?_ ?_
       · simp -dsimp only [go_sem]
         exact⟨0,by omega,by omega,fun j hj=>by omega,rfl⟩
       · rintro k s ⟨i,rfl,hi,hr,rfl⟩
         simp -dsimp only [go_sem]
         refine ck (fun h'=> ?_) (fun h'=> ?_)
         · have hlt:i<p.length:=by have:=of_decide_eq_true h';omega
           have e1:=J1o p i hlt
           have e3:=Y0r i (by omega)
           have hm:=hp.2 i hlt
           simp -dsimp only [go_sem]
           refine Q0m Z0t 59 (.step 0 [] (.step 1 [] (.step 2 [] (.step 3 [] (.step 4 [] (.step 5 [] (.step 6 [] (.step 7 [] (.step 8 [] (.step 9 [] (.step 10 [] (.step 11 [] (.step 12 [] (.step 13 [] (.step 14 [] (.step 15 [] (.step 16 [] (.step 17 [] (.step 18 [] (.step 19 [] (.step 20 [] (.step 21 [] (.step 22 [] (.step 23 [] (.step 24 [] (.step 25 [] (.step 26 [] (.step 27 [] (.step 28 [] (.step 29 [] (.step 30 [] (.step 31 [] (.step 32 [3,13] (.step 33 [] (.step 34 [] (.step 35 [] (.done))))))))))))))))))))))))))))))))))))) (by decide+kernel) (by simp) ?_
           simp -dsimp only [go_sem,e1]
           refine⟨by omega,?_⟩
           refine(H1u (p.getD i default) n _ hm (by omega)).mono ?_
           rintro r st ⟨rfl,rfl⟩
           have bad:okP p n i=false→V0k p n=false:=fun h=>Z2f hlt h
           cases h1:G0q (p.getD i default) n with
           | false=>
            have hb:=bad (by unfold okP;rw [h1];rfl)
            simp -dsimp only [go_sem,h1,hb]
           | true=>
            simp -dsimp only [go_sem,h1,e1]
            refine⟨by omega,?_⟩
            refine gkF (fun h2=> ?_) (fun h2=> ?_)
            · have h2':(p.getD i default).c.w.length≠0:=by have:=of_decide_eq_false h2;omega
              simp -dsimp only [go_sem,h2]
              refine gkT (fun h3=> ?_) (fun h3=> ?_)
              · have h3':0<i:=by have:=of_decide_eq_true h3;omega
                have e4:=y3n i (by omega) h3'
                have e5:=J1o p (i-1) (by omega)
                simp -dsimp only [go_sem,h2,h3,e1,e4,e5]
                refine⟨by omega,by omega,?_⟩
                refine(w0m (p.getD (i-1) default).ks (p.getD i default).ks _ (hp.2 _ (by omega)).2 hm.2).mono ?_
                rintro r st ⟨rfl,rfl⟩
                simp -dsimp only [go_sem,h2,h3]
                refine ck (fun h4=> ?_) (fun h4=> ?_)
                · have h4':=K1v h4
                  have hb:=bad (Bool.eq_false_iff.2 fun e=>by
                   rcases ((X1s _ _ _).1 e).2.2 with h | h
                   · omega
                   · exact h4' h)
                  simp -dsimp only [go_sem,hb]
                · have h4':=G1s h4
                  simp -dsimp only [go_sem,e3]
                  refine⟨p.length-(i+1),by omega,i+1,rfl,by omega,fun j hj=> ?_,rfl⟩
                  by_cases e:j=i
                  · subst e;exact(X1s _ _ _).2 ⟨h1,h2',.inr h4'⟩
                  · exact hr j (by omega)
              · have h3':i=0:=by have:=of_decide_eq_false h3;omega
                simp -dsimp only [go_sem,h2,h3,e3]
                refine⟨p.length-(i+1),by omega,i+1,rfl,by omega,fun j hj=> ?_,rfl⟩
                have e:j=i:=by omega
                subst e;exact(X1s _ _ _).2 ⟨h1,h2',.inl h3'⟩
            · have h2':(p.getD i default).c.w.length=0:=by have:=of_decide_eq_true h2;omega
              have hb:=bad (Bool.eq_false_iff.2 fun e=>((X1s _ _ _).1 e).2.1 h2')
              simp -dsimp only [go_sem,h2,hb]
         · have hge:i=p.length:=by have:=of_decide_eq_false h';omega
           subst hge
           have hv:V0k p n=true:=(x0e p n).2 ⟨⟨by omega,by omega,by omega⟩,hr⟩
           simp -dsimp only [go_sem]
           refine Q0a ?_
           simp -dsimp only [go_sem,hv]
   · have hb:=bad0 (by have:=of_decide_eq_true g2;omega)
     simp -dsimp only [go_sem,g1,g2,hb]
 · have hb:=bad0 (by have:=of_decide_eq_true g1;omega)
   simp -dsimp only [go_sem,g1,hb]
theorem j1i (f:List (List Mn)) (st:Q0g) (hf:wF f):PCalls Tryz.prog 138 [.sl .no (K0e f)] st (fun r st'=>r= .sc (.bool (V0x f))∧st'=st):=by
 have hl:=hf.1
 refine Q0b none Tryz.func138 rfl fun E=>Q0a ?_
 simp -dsimp only [go_sem]
 refine Q0e [true,false,false,true] 0 0
  (fun n s=> ∃i,n=f.length-i∧i≤f.length∧i≤4∧(∀j,j<i→V0k (f.getD j []) f.length=true)∧s=⟨[.sl .no (K0e f),.junk,.junk,.sc (.int .i64 (i:Nat))]++List.replicate 26 .junk,[],[],st⟩) f.length ?_ ?_
 · simp -dsimp only [go_sem]
   exact⟨0,by omega,by omega,by omega,fun j hj=>by omega,rfl⟩
 · rintro n s ⟨i,rfl,hi,hi4,hr,rfl⟩
   simp -dsimp only [go_sem]
   refine gkT (fun h1=> ?_) (fun h1=> ?_)
   · have hlt:i<f.length:=by have:=of_decide_eq_true h1;omega
     simp -dsimp only [go_sem,h1]
     refine ck (fun h2=> ?_) (fun h2=> ?_)
     · have hlt4:i<4:=by have:=of_decide_eq_true h2;omega
       have e1:=U2s f i hlt
       have e3:=Y0r i (by omega)
       simp -dsimp only [go_sem,e1]
       refine⟨by omega,?_⟩
       refine(K1l _ _ _ (hf.2 i hlt)).mono ?_
       rintro r st ⟨rfl,rfl⟩
       simp -dsimp only [go_sem]
       refine ck (fun h3=> ?_) (fun h3=> ?_)
       · have hb:V0k (f.getD i []) f.length=false:=by simpa using h3
         have hv:V0x f=false:=Bool.eq_false_iff.2 fun e=>by
          have:=((G0y f).1 e).2 i hlt
          rw [hb] at this;cases this
         simp -dsimp only [go_sem,hv]
       · have ht:V0k (f.getD i []) f.length=true:=by simpa using h3
         simp -dsimp only [go_sem,e3]
         refine⟨f.length-(i+1),by omega,i+1,rfl,by omega,by omega,fun j hj=> ?_,rfl⟩
         by_cases e:j=i
         · subst e;exact ht
         · exact hr j (by omega)
     · have hge4:4<f.length:=by have:=of_decide_eq_false h2;omega
       have hv:V0x f=false:=Bool.eq_false_iff.2 fun e=>by
        have:=((G0y f).1 e).1;omega
       have h5:decide ((f.length:Int)>0)=true:=decide_eq_true (by omega)
       have h6:decide ((f.length:Int)≤4)=false:=decide_eq_false (by omega)
       simp -dsimp only [go_sem]
       refine Q0a ?_
       simp -dsimp only [go_sem,h5,h6,hv]
   · have hge:i=f.length:=by have:=of_decide_eq_false h1;omega
     simp -dsimp only [go_sem,h1]
     clear h1
     refine Q0a ?_
     simp -dsimp only [go_sem]
     refine gkT (fun h=> ?_) (fun h=> ?_)
     · have h1:=of_decide_eq_true h
       have hv:V0x f=decide ((f.length:Int)≤4):=by
        rw [Bool.eq_iff_iff,G0y,decide_eq_true_iff]
        exact⟨fun h=>by omega,fun h=>⟨⟨by omega,by omega⟩,fun j hj=>hr j (by omega)⟩⟩
       simp -dsimp only [go_sem,h,hv]
     · have h1:=of_decide_eq_false h
       have hv:V0x f=false:=Bool.eq_false_iff.2 fun e=>by
        have:=((G0y f).1 e).1;omega
       simp -dsimp only [go_sem,h,hv]
end Go.Pv
end
section
/-An object of the store that is written no more:within the elements of slices,too,it becomes a plain slice. -/
namespace Go.Pv
def PV.frzD (k:Nat) (cs:List PV):PV→PV
 | .sl .no es=> .sl .no (es.map (PV.frzG k cs))
 | p=>p.frzG k cs
section
variable {w:World} {g g':Gh} {F:Fr} {T:List (Nat×Nat)} {k:Nat} {cs:List PV}
theorem Rep.frzG1 {v:Value} {p:PV} (hk:k<g'.n) (hm: ∀v p,Rep w g v p→Rep w g' v p) (hz:SolidG w g' k cs) (h:Rep w g v p):Rep w g' v (p.frzG1 k cs):=by
 have h':=hm _ _ h
 cases p with
 | ms gl k' off len=>
  cases gl with
  | false=>exact h'
  | true=>
   simp only [PV.frzG1]
   split
   · rename_i e
     obtain⟨rfl,hle⟩:=e
     exact hz.sl _ _ _ hk h' hle
   · exact h'
 | _=>exact h'
theorem Rep.frzG {v:Value} {p:PV} (hk:k<g'.n) (hm: ∀v p,Rep w g v p→Rep w g' v p) (hz:SolidG w g' k cs) (h:Rep w g v p):Rep w g' v (p.frzG k cs):=by
 have gm: ∀(l:List PV) (j:Nat),(l.map (PV.frzG1 k cs)).getD j .junk=(l.getD j .junk).frzG1 k cs:=fun l j=>Q0u rfl l j
 cases p with
 | agg l=>
  cases h with
  | agg vs cs' hl h=>exact .agg vs _ (by simpa using hl) fun j hj=>by rw [gm];exact Rep.frzG1 hk hm hz (h j (by simpa using hj))
 | tup l=>
  cases h with
  | tup vs cs' hl h=>exact .tup vs _ (by simpa using hl) fun j hj=>by rw [gm];exact Rep.frzG1 hk hm hz (h j (by simpa using hj))
 | fn f l m=>
  cases h with
  | fn f us vs bs cs' hk' hl h0 h=>
   exact .fn f us vs _ _ (by simpa using hk') (by simpa using hl) (fun j hj=>by rw [gm];exact Rep.frzG1 hk hm hz (h0 j (by simpa using hj))) fun j hj=>by rw [gm];exact Rep.frzG1 hk hm hz (h j (by simpa using hj))
 | _=>exact Rep.frzG1 hk hm hz h
theorem W1o {p:PV} {j:Nat} (hj:j<p.cells.length):(p.frzG k cs).cells.length=p.cells.length∧((p.frzG k cs).cells.getD j .junk=(p.cells.getD j .junk).frzG1 k cs∨(p.frzG k cs).cells.getD j .junk=(p.cells.getD j .junk).frzG k cs):=by
 have gm: ∀(l:List PV) (j:Nat),(l.map (PV.frzG1 k cs)).getD j .junk=(l.getD j .junk).frzG1 k cs:=fun l j=>Q0u rfl l j
 cases p with
 | agg l=>exact⟨by simp [PV.frzG,PV.cells],.inl (gm l j)⟩
 | ms gl k' off len=>
  have:j=0:=by simp [PV.cells] at hj;omega
  subst this
  refine⟨?_,.inr ?_⟩
  · cases gl with
    | false=>rfl
    | true=>show(PV.frzG1 k cs (.ms true k' off len)).cells.length=1;simp only [PV.frzG1];split<;>rfl
  · cases gl with
    | false=>rfl
    | true=>
     show(PV.frzG1 k cs (.ms true k' off len)).cells.getD 0 .junk=PV.frzG1 k cs (.ms true k' off len)
     simp only [PV.frzG1]
     split<;>rfl
 | _=>
  have:j=0:=by simp [PV.cells] at hj;omega
  subst this
  exact⟨rfl,.inr rfl⟩
theorem Rep.frzD {v:Value} {p:PV} (hk:k<g'.n) (hm: ∀v p,Rep w g v p→Rep w g' v p) (hv: ∀b,g.vis b≤g'.vis b) (hz:SolidG w g' k cs) (h:Rep w g v p):Rep w g' v (p.frzD k cs):=by
 cases p with
 | sl t es=>
  cases t with
  | no=>
   show Rep w g' v (.sl .no (es.map (PV.frzG k cs)))
   have gm: ∀i,i<es.length→(es.map (PV.frzG k cs)).getD i .junk=(es.getD i .junk).frzG k cs:=fun i hi=>by simp [List.getD_eq_getElem?_getD,hi]
   cases h with
   | nil t ad ht=>exact .nil .no ad rfl
   | sl t es b off sz cap cf ht hfull hcap hsz hvis hc hr=>
    have hlen:(es.map (PV.frzG k cs)).length=es.length:=by simp
    have key:=Rep.sl (w:=w) (g:=g') .no (es.map (PV.frzG k cs)) b off sz cap cf rfl (fun h=>by cases h) (by rw [hlen];exact hcap) (fun i hi=> ?_) (fun h0=> ?_) (fun i j hi hj=> ?_) (fun i j hi hj=> ?_)
    · rw [hlen] at key;exact key
    · rw [hlen] at hi
      rw [gm i hi]
      by_cases h0:0<(es.getD i .junk).cells.length
      · rw [(W1o h0).1];exact hsz i hi
      · have e:=hsz i hi
        generalize es.getD i .junk=p at h0 e
        cases p with
        | agg l=>simp [PV.cells] at h0 e;subst h0;simp [PV.frzG,PV.cells];exact e
        | _=>simp [PV.cells] at h0
    · rw [hlen] at h0⊢;exact Nat.le_trans (hvis h0) (hv b)
    · rw [hlen] at hi;exact hc i j hi hj
    · rw [hlen] at hi
      rw [gm i hi]
      have hr1:=hr i j hi hj
      rcases (W1o (k:=k) (cs:=cs) (p:=es.getD i .junk) (j:=j) (by rw [hsz i hi];exact hj)).2 with e | e
      · rw [e];exact Rep.frzG1 hk hm hz hr1
      · rw [e];exact Rep.frzG hk hm hz hr1
  | _=>exact Rep.frzG hk hm hz h
 | _=>exact Rep.frzG hk hm hz h
theorem RepF.frzD {v:Value} {p:PV} (hk:k<g'.n) (hm: ∀v p,RepF w g F T v p→RepF w g' F T v p) (hm': ∀v p,Rep w g v p→Rep w g' v p) (hv: ∀b,g.vis b≤g'.vis b) (hz:SolidG w g' k cs) (h:RepF w g F T v p):RepF w g' F T v (p.frzD k cs):=by
 cases p with
 | sl t es=>
  cases t with
  | no=>
   cases h with
   | base _ _ h=>exact .base _ _ (Rep.frzD hk hm' hv hz h)
  | _=>exact RepF.frzG hk hm hz h
 | _=>exact RepF.frzG hk hm hz h
end
def PFS.freezeD (k:Nat) (s:PFS):PFS:=⟨s.pa.map (PV.frzD k (s.st.getD k [])),s.L.map fun l=>l.map (PV.frzD k (s.st.getD k [])),s.T,s.st.set k []⟩
@[go_sem] theorem V3r {k:Nat} {pa:List PV} {L st:Q0g} {T:List (Nat×Nat)} :(PFS.mk pa L T st).freezeD k=⟨pa.map (PV.frzD k (st.getD k [])),L.map fun l=>l.map (PV.frzD k (st.getD k [])),T,st.set k []⟩:=(rfl)
@[go_sem] theorem G3v {k:Nat} {cs:List PV} :PV.frzD k cs .junk= .junk:=(rfl)
@[go_sem] theorem Z4k {k:Nat} {cs:List PV} {v:Value} :PV.frzD k cs (.sc v)=(.sc v):=(rfl)
@[go_sem] theorem Z4l {k:Nat} {cs:List PV} {i o:Nat} :PV.frzD k cs (.lp i o)=(.lp i o):=(rfl)
@[go_sem] theorem Z4m {k:Nat} {cs:List PV} {i o:Nat} :PV.frzD k cs (.gp i o)=(.gp i o):=(rfl)
@[go_sem] theorem j3t {k m:Nat} {cs:List PV} {es:List PV} :PV.frzD k cs (.sl (.own m) es)= .sl (.own m) es:=(rfl)
@[go_sem] theorem j3u {k:Nat} {cs:List PV} {i o n:Nat} :PV.frzD k cs (.ms false i o n)=(.ms false i o n):=(rfl)
end Go.Pv
end
