/- Parts of the walk: PvAm, PvAn, M42, N46, N47, N48. -/
import Derived.Test.YtagacielooaapaaGreatDoorZAN
import Derived.Test.YtagacielooaapaaGreatDoorZE
import Derived.Test.YtagacielooaapaaGreatDoorZP
import Derived.Test.YtagacielooaapaaGreatDoorZAF
import Derived.Test.YtagacielooaapaaGreatDoorZF
import Derived.Test.YtagacielooaapaaGreatDoorZH
set_option linter.unusedVariables false
set_option linter.unusedSimpArgs false
section
/-Monomials,polynomials,fields;terms. -/
namespace Go.Pv
structure Mn where
 c:Nm
 ks:List Int
 deriving DecidableEq
instance : Inhabited Mn:=⟨⟨default,[]⟩⟩
def j0r (x:Mn):List PV:= [.sc (.bool x.c.neg),.sc (.int .i64 x.c.exp),.sl .no (encW x.c.w),.sl .no (encZ x.ks)]
attribute [go_sem] j0r
def X0c (l:List Mn):List PV:=l.map fun c=>(.agg (j0r c))
@[go_sem] theorem J3g (l:List Mn):(X0c l).length=l.length:=by simp [X0c]
@[go_sem] theorem v3o :X0c []= []:=(rfl)
@[go_sem] theorem X4r (l:List Mn):(X0c l).all (fun x=>x.cells.length==4)=true:=by simp [X0c,PV.cells,j0r]
@[go_sem] theorem X4s (l:List Mn):(X0c l).all (fun x=>(x.cells.length==4)&&x.cells.all PV.cellOK)=true:=by simp [X0c,PV.cells,PV.cellOK,Value.oneCell',j0r]
@[go_sem] theorem q3f (l:List Mn) (n:Nat):(X0c l).take n=X0c (l.take n):=by simp [X0c]
@[go_sem] theorem q3h (l:List Mn) (n:Nat):(X0c l).drop n=X0c (l.drop n):=by simp [X0c]
@[go_sem] theorem v3q (l m:List Mn):X0c l++X0c m=X0c (l++m):=by simp [X0c]
@[go_sem] theorem q3g (l:List Mn) (c:Mn):X0c l++ [.agg (j0r c)]=X0c (l++ [c]):=by simp [X0c]
theorem x0h (l:List Mn) (n:Nat) (h:n<l.length):(X0c l).getD n .junk= .agg (j0r (l.getD n default)):=by
 simp [X0c,List.getD_eq_getElem?_getD,h]
@[go_sem] theorem v3p (l:List Mn) (i:Nat) (cs:List PV):(X0c l).map (PV.frz i cs)=X0c l:=by
 simp only [X0c,List.map_map]
 exact List.map_congr_left fun a _=>rfl
structure Tm where
 v:Vl
 ks:List Int
instance : Inhabited Tm:=⟨⟨⟨false,0,0⟩,[]⟩⟩
def k0y (x:Tm):List PV:= [.sc (.bool x.v.neg),.sl .no (encD (Q0d x.v.m)),.sc (.int .i64 x.v.e),.sl .no (encZ x.ks)]
attribute [go_sem] k0y
def Z0k (l:List Tm):List PV:=l.map fun c=>(.agg (k0y c))
@[go_sem] theorem K0s (l:List Tm):(Z0k l).length=l.length:=by simp [Z0k]
@[go_sem] theorem v3g :Z0k []= []:=(rfl)
@[go_sem] theorem X4m (l:List Tm):(Z0k l).all (fun x=>x.cells.length==4)=true:=by simp [Z0k,PV.cells,k0y]
@[go_sem] theorem Q3a (l:List Tm):(Z0k l).all (fun x=>(x.cells.length==4)&&x.cells.all PV.cellOK)=true:=by simp [Z0k,PV.cells,PV.cellOK,Value.oneCell',k0y]
@[go_sem] theorem q3a (l:List Tm) (n:Nat):(Z0k l).take n=Z0k (l.take n):=by simp [Z0k]
@[go_sem] theorem q3b (l:List Tm) (n:Nat):(Z0k l).drop n=Z0k (l.drop n):=by simp [Z0k]
@[go_sem] theorem q2k (l m:List Tm):Z0k l++Z0k m=Z0k (l++m):=by simp [Z0k]
@[go_sem] theorem V2k (l:List Tm) (c:Tm):Z0k l++ [.agg (k0y c)]=Z0k (l++ [c]):=by simp [Z0k]
theorem y0g (l:List Tm) (n:Nat) (h:n<l.length):(Z0k l).getD n .junk= .agg (k0y (l.getD n default)):=by
 simp [Z0k,List.getD_eq_getElem?_getD,h]
@[go_sem] theorem v3h (l:List Tm) (i:Nat) (cs:List PV):(Z0k l).map (PV.frz i cs)=Z0k l:=by
 simp only [Z0k,List.map_map]
 exact List.map_congr_left fun a _=>rfl
def X0k (l:List (List Mn)):List PV:=l.map fun c=>(.sl .no (X0c c))
@[go_sem] theorem J3j (l:List (List Mn)):(X0k l).length=l.length:=by simp [X0k]
@[go_sem] theorem w3f :X0k []= []:=(rfl)
@[go_sem] theorem J4d (l:List (List Mn)):(X0k l).all (fun x=>x.cells.length==1)=true:=by simp [X0k,PV.cells]
@[go_sem] theorem J4e (l:List (List Mn)):(X0k l).all (fun x=>(x.cells.length==1)&&x.cells.all PV.cellOK)=true:=by simp [X0k,PV.cells,PV.cellOK,Value.oneCell']
@[go_sem] theorem q3t (l:List (List Mn)) (n:Nat):(X0k l).take n=X0k (l.take n):=by simp [X0k]
@[go_sem] theorem q3u (l:List (List Mn)) (n:Nat):(X0k l).drop n=X0k (l.drop n):=by simp [X0k]
@[go_sem] theorem w3h (l m:List (List Mn)):X0k l++X0k m=X0k (l++m):=by simp [X0k]
@[go_sem] theorem V2m (l:List (List Mn)) (c:(List Mn)):X0k l++ [.sl .no (X0c c)]=X0k (l++ [c]):=by simp [X0k]
theorem K1y (l:List (List Mn)) (n:Nat) (h:n<l.length):(X0k l).getD n .junk= .sl .no (X0c (l.getD n [])):=by
 simp [X0k,List.getD_eq_getElem?_getD,h]
@[go_sem] theorem w3g (l:List (List Mn)) (i:Nat) (cs:List PV):(X0k l).map (PV.frz i cs)=X0k l:=by
 simp only [X0k,List.map_map]
 exact List.map_congr_left fun a _=>rfl
def G0e (l:List (List (List Mn))):List PV:=l.map fun c=>(.sl .no (X0k c))
@[go_sem] theorem J3h (l:List (List (List Mn))):(G0e l).length=l.length:=by simp [G0e]
@[go_sem] theorem v3x :G0e []= []:=(rfl)
@[go_sem] theorem X4x (l:List (List (List Mn))):(G0e l).all (fun x=>x.cells.length==1)=true:=by simp [G0e,PV.cells]
@[go_sem] theorem X4y (l:List (List (List Mn))):(G0e l).all (fun x=>(x.cells.length==1)&&x.cells.all PV.cellOK)=true:=by simp [G0e,PV.cells,PV.cellOK,Value.oneCell']
@[go_sem] theorem q3l (l:List (List (List Mn))) (n:Nat):(G0e l).take n=G0e (l.take n):=by simp [G0e]
@[go_sem] theorem q3n (l:List (List (List Mn))) (n:Nat):(G0e l).drop n=G0e (l.drop n):=by simp [G0e]
@[go_sem] theorem v3z (l m:List (List (List Mn))):G0e l++G0e m=G0e (l++m):=by simp [G0e]
@[go_sem] theorem q3m (l:List (List (List Mn))) (c:(List (List Mn))):G0e l++ [.sl .no (X0k c)]=G0e (l++ [c]):=by simp [G0e]
@[go_sem] theorem v3y (l:List (List (List Mn))) (i:Nat) (cs:List PV):(G0e l).map (PV.frz i cs)=G0e l:=by
 simp only [G0e,List.map_map]
 exact List.map_congr_left fun a _=>rfl
end Go.Pv
end
section
/-An object of the store that is written no more:in all slots and boxes it becomes a plain slice. -/
namespace Go.Pv
def PV.frzG1 (k:Nat) (cs:List PV):PV→PV
 | .ms true k' off len=>if k'=k∧off+len≤cs.length then .sl .no ((cs.drop off).take len) else .ms true k' off len
 | p=>p
def PV.frzG (k:Nat) (cs:List PV):PV→PV
 | .agg l=> .agg (l.map (PV.frzG1 k cs))
 | .tup l=> .tup (l.map (PV.frzG1 k cs))
 | .fn f l m=> .fn f (l.map (PV.frzG1 k cs)) (m.map (PV.frzG1 k cs))
 | p=>p.frzG1 k cs
structure SolidG (w:World) (g':Gh) (k:Nat) (cs:List PV):Prop where
 sl: ∀v off len,k<g'.n→Rep w g' v (.ms true k off len)→off+len≤cs.length→Rep w g' v (.sl .no ((cs.drop off).take len))
section
variable {w:World} {g g':Gh} {F:Fr} {T:List (Nat×Nat)} {k:Nat} {cs:List PV}
theorem RepF.frzG1 {v:Value} {p:PV} (hk:k<g'.n) (hm: ∀v p,RepF w g F T v p→RepF w g' F T v p) (hz:SolidG w g' k cs) (h:RepF w g F T v p):RepF w g' F T v (p.frzG1 k cs):=by
 have h':=hm _ _ h
 cases p with
 | ms gl k' off len=>
  cases gl with
  | false=>exact h'
  | true=>
   simp only [PV.frzG1]
   split
   · rename_i e
     obtain⟨rfl,hle⟩:=e
     cases h' with
     | base _ _ h'=>exact .base _ _ (hz.sl _ _ _ hk h' hle)
   · exact h'
 | _=>exact h'
theorem RepF.frzG {v:Value} {p:PV} (hk:k<g'.n) (hm: ∀v p,RepF w g F T v p→RepF w g' F T v p) (hz:SolidG w g' k cs) (h:RepF w g F T v p):RepF w g' F T v (p.frzG k cs):=by
 have gm: ∀(l:List PV) (j:Nat),(l.map (PV.frzG1 k cs)).getD j .junk=(l.getD j .junk).frzG1 k cs:=fun l j=>Q0w rfl l j
 cases p with
 | agg l=>
  cases h with
  | base _ _ h=>
   cases h with
   | agg vs cs' hl h=>exact .agg vs _ (by simpa using hl) fun j hj=>by rw [gm];exact RepF.frzG1 hk hm hz (.base _ _ (h j (by simpa using hj)))
  | agg vs cs' hl h=>exact .agg vs _ (by simpa using hl) fun j hj=>by rw [gm];exact RepF.frzG1 hk hm hz (h j (by simpa using hj))
 | tup l=>
  cases h with
  | base _ _ h=>
   cases h with
   | tup vs cs' hl h=>exact .tup vs _ (by simpa using hl) fun j hj=>by rw [gm];exact RepF.frzG1 hk hm hz (.base _ _ (h j (by simpa using hj)))
  | tup vs cs' hl h=>exact .tup vs _ (by simpa using hl) fun j hj=>by rw [gm];exact RepF.frzG1 hk hm hz (h j (by simpa using hj))
 | fn f l m=>
  cases h with
  | base _ _ h=>
   cases h with
   | fn f us vs bs cs' hk' hl h0 h=>
    exact .fn f us vs _ _ (by simpa using hk') (by simpa using hl) (fun j hj=>by rw [gm];exact RepF.frzG1 hk hm hz (.base _ _ (h0 j (by simpa using hj)))) fun j hj=>by rw [gm];exact RepF.frzG1 hk hm hz (.base _ _ (h j (by simpa using hj)))
  | fn f us vs bs cs' hk' hl h0 h=>
   exact .fn f us vs _ _ (by simpa using hk') (by simpa using hl) (fun j hj=>by rw [gm];exact RepF.frzG1 hk hm hz (h0 j (by simpa using hj))) fun j hj=>by rw [gm];exact RepF.frzG1 hk hm hz (h j (by simpa using hj))
 | _=>exact RepF.frzG1 hk hm hz h
end
def PFS.freezeA (k:Nat) (s:PFS):PFS:=⟨s.pa.map (PV.frzG k (s.st.getD k [])),s.L.map fun l=>l.map (PV.frzG k (s.st.getD k [])),s.T,s.st.set k []⟩
@[go_sem] theorem H3o {k:Nat} {pa:List PV} {L st:Q0e} {T:List (Nat×Nat)} :(PFS.mk pa L T st).freezeA k=⟨pa.map (PV.frzG k (st.getD k [])),L.map fun l=>l.map (PV.frzG k (st.getD k [])),T,st.set k []⟩:=(rfl)
@[go_sem] theorem k3e {k:Nat} {cs:List PV} :PV.frzG k cs .junk= .junk:=(rfl)
@[go_sem] theorem Y4j {k:Nat} {cs:List PV} {v:Value} :PV.frzG k cs (.sc v)=(.sc v):=(rfl)
@[go_sem] theorem Y4l {k:Nat} {cs:List PV} {i o:Nat} :PV.frzG k cs (.lp i o)=(.lp i o):=(rfl)
@[go_sem] theorem Y4m {k:Nat} {cs:List PV} {i o:Nat} :PV.frzG k cs (.gp i o)=(.gp i o):=(rfl)
@[go_sem] theorem Y4i {k:Nat} {cs:List PV} {t:Tag} {es:List PV} :PV.frzG k cs (.sl t es)=(.sl t es):=(rfl)
@[go_sem] theorem Y4o {k:Nat} {cs:List PV} {es:List PV} {o:Nat} :PV.frzG k cs (.ep es o)=(.ep es o):=(rfl)
@[go_sem] theorem Z4l {k:Nat} {cs:List PV} {i o n:Nat} :PV.frzG k cs (.ms false i o n)=(.ms false i o n):=(rfl)
@[go_sem] theorem Y4k {k:Nat} {cs:List PV} {i n c:Nat} :PV.frzG k cs (.mr i n c)=(.mr i n c):=(rfl)
@[go_sem] theorem Z4p {k:Nat} {cs:List PV} {i n c:Nat} :PV.frzG1 k cs (.mr i n c)=(.mr i n c):=(rfl)
@[go_sem] theorem Z4k {k:Nat} {cs:List PV} {es:List PV} {n:Nat} :PV.frzG k cs (.pre es n)=(.pre es n):=(rfl)
@[go_sem] theorem H3j {k:Nat} {cs:List PV} :PV.frzG1 k cs .junk= .junk:=(rfl)
@[go_sem] theorem Z4o {k:Nat} {cs:List PV} {v:Value} :PV.frzG1 k cs (.sc v)=(.sc v):=(rfl)
@[go_sem] theorem Z4q {k:Nat} {cs:List PV} {i o:Nat} :PV.frzG1 k cs (.lp i o)=(.lp i o):=(rfl)
@[go_sem] theorem Z4r {k:Nat} {cs:List PV} {i o:Nat} :PV.frzG1 k cs (.gp i o)=(.gp i o):=(rfl)
@[go_sem] theorem Z4n {k:Nat} {cs:List PV} {t:Tag} {es:List PV} :PV.frzG1 k cs (.sl t es)=(.sl t es):=(rfl)
@[go_sem] theorem Z4s {k:Nat} {cs:List PV} {es:List PV} {o:Nat} :PV.frzG1 k cs (.ep es o)=(.ep es o):=(rfl)
@[go_sem] theorem k3g {k:Nat} {cs:List PV} {i o n:Nat} :PV.frzG1 k cs (.ms false i o n)=(.ms false i o n):=(rfl)
@[go_sem] theorem k3f {k:Nat} {cs:List PV} {es:List PV} {n:Nat} :PV.frzG1 k cs (.pre es n)=(.pre es n):=(rfl)
@[go_sem] theorem Z4m {k:Nat} {cs l:List PV} :PV.frzG k cs (.agg l)= .agg (l.map (PV.frzG1 k cs)):=(rfl)
@[go_sem] theorem Z4j {k:Nat} {cs l:List PV} :PV.frzG k cs (.tup l)= .tup (l.map (PV.frzG1 k cs)):=(rfl)
@[go_sem] theorem Y4n {k:Nat} {cs l m:List PV} {f:Fn} :PV.frzG k cs (.fn f l m)= .fn f (l.map (PV.frzG1 k cs)) (m.map (PV.frzG1 k cs)):=(rfl)
end Go.Pv
end
section
/-Powers,monomials,polynomials,fields:what is right,orders,degrees. No program in it. -/
namespace Go.Pv
theorem Y0s (ks:List Int) (i:Nat) (h:i<ks.length):(ks.take (i+1)).sum=(ks.take i).sum+ks.getD i 0:=by
 rw [List.take_add_one,List.sum_append,List.getElem?_eq_getElem h]
 simp [List.getD_eq_getElem?_getD,h]
theorem U1n (ks:List Int) (h: ∀j,j<ks.length→0≤ks.getD j 0): ∀(d i:Nat),i+d=ks.length→(ks.take i).sum≤ks.sum
 | 0,i,e=>by rw [List.take_of_length_le (by omega)];exact Int.le_refl _
 | d+1,i,e=>by
  have h1:=U1n ks h d (i+1) (by omega)
  have h2:=Y0s ks i (by omega)
  have h3:=h i (by omega)
  omega
def K0a (ks:List Int):Bool:=ks.all (fun k=>decide (0≤k))&&decide (ks.sum≤8)
theorem J0m (ks:List Int):K0a ks=true↔(∀j,j<ks.length→0≤ks.getD j 0)∧ks.sum≤8:=by
 unfold K0a
 simp only [Bool.and_eq_true,List.all_eq_true,decide_eq_true_eq]
 constructor
 · rintro⟨h1,h2⟩
   refine⟨fun j hj=> ?_,h2⟩
   have:ks.getD j 0=ks[j]:=by simp [List.getD_eq_getElem?_getD,hj]
   rw [this];exact h1 _ (List.getElem_mem hj)
 · rintro⟨h1,h2⟩
   refine⟨fun k hk=> ?_,h2⟩
   obtain⟨j,hj,e⟩:=List.mem_iff_getElem.1 hk
   have:=h1 j hj
   rw [show ks.getD j 0=ks[j] by simp [List.getD_eq_getElem?_getD,hj],e] at this
   exact this
theorem J2x {ks:List Int} {i:Nat} (h:i<ks.length) (hb:ks.getD i 0<0∨8-(ks.take i).sum<ks.getD i 0):K0a ks=false:=Bool.eq_false_iff.2 fun e=>by
 obtain⟨h1,h2⟩:=(J0m ks).1 e
 have h3:=h1 i h
 have h4:=U1n ks h1 (ks.length-(i+1)) (i+1) (by omega)
 have h5:=Y0s ks i h
 omega
theorem J2f {ks:List Int} (h: ∀j,j<ks.length→0≤ks.getD j 0) (i:Nat) (hi:i≤ks.length):0≤(ks.take i).sum:=by
 induction i with
 | zero=>simp
 | succ i ih=>
  have h2:=Y0s ks i (by omega)
  have h3:=h i (by omega)
  have:=ih (by omega)
  omega
theorem K0d {ks:List Int} (h:K0a ks=true) (i:Nat) (hi:i≤ks.length):0≤(ks.take i).sum∧(ks.take i).sum≤8:=by
 obtain⟨h1,h2⟩:=(J0m ks).1 h
 have h3:=J2f h1 i hi
 have h4:=U1n ks h1 (ks.length-i) i (by omega)
 omega
theorem V0b {ks:List Int} (h:K0a ks=true) (i:Nat) (hi:i<ks.length):0≤ks.getD i 0∧ks.getD i 0≤8:=by
 obtain⟨h1,h2⟩:=(J0m ks).1 h
 have h3:=K0d h i (by omega)
 have h4:=K0d h (i+1) (by omega)
 have h5:=Y0s ks i hi
 have:=h1 i hi
 omega
def W0h (m:Mn) (n:Int):Bool:=decide ((m.ks.length:Int)=n)&&K0a m.ks&&Q0g m.c
theorem z0z (m:Mn) (n:Int):W0h m n=true↔(m.ks.length:Int)=n∧K0a m.ks=true∧Q0g m.c=true:=by
 unfold W0h
 simp only [Bool.and_eq_true,decide_eq_true_eq,and_assoc]
def ordK :List Int→List Int→Int
 | x::a,y::b=>if x>y then 1 else if x<y then -1 else ordK a b
 | _,_=>0
def cmpL :List Int→List Int→Int
 | [],[]=>0
 | [],_::_=> -1
 | _::_,[]=>1
 | x::a,y::b=>if x<y then -1 else if x>y then 1 else cmpL a b
theorem q0b (a:List Int) (i:Nat) (h:i<a.length):a.drop i=a.getD i 0::a.drop (i+1):=by
 rw [List.drop_eq_getElem_cons h]
 simp [List.getD_eq_getElem?_getD,h]
theorem U2t {a b:List Int} {i:Nat} (ha:i<a.length) (hb:i<b.length):ordK (a.drop i) (b.drop i)=if a.getD i 0>b.getD i 0 then 1 else if a.getD i 0<b.getD i 0 then -1 else ordK (a.drop (i+1)) (b.drop (i+1)):=by
 rw [q0b a i ha,q0b b i hb,ordK]
theorem v2d {a b:List Int} {i:Nat} (h:a.length≤i∨b.length≤i):ordK (a.drop i) (b.drop i)=0:=by
 rcases h with h | h
 · rw [List.drop_of_length_le h];cases b.drop i<;>rfl
 · rw [List.drop_of_length_le h];cases a.drop i<;>rfl
theorem z2h {a b:List Int} {i:Nat} (ha:i<a.length) (hb:i<b.length):cmpL (a.drop i) (b.drop i)=if a.getD i 0<b.getD i 0 then -1 else if a.getD i 0>b.getD i 0 then 1 else cmpL (a.drop (i+1)) (b.drop (i+1)):=by
 rw [q0b a i ha,q0b b i hb,cmpL]
theorem Q3j {a b:List Int} {i:Nat} (ha:a.length≤i):cmpL (a.drop i) (b.drop i)=if i<b.length then -1 else 0:=by
 rw [List.drop_of_length_le ha]
 split
 · rename_i h;rw [q0b b i h,cmpL]
 · rename_i h;rw [List.drop_of_length_le (by omega),cmpL]
theorem z2g {a b:List Int} {i:Nat} (ha:i<a.length) (hb:b.length≤i):cmpL (a.drop i) (b.drop i)=1:=by
 rw [List.drop_of_length_le hb,q0b a i ha,cmpL]
theorem X2d : ∀(a b:List Int),a.length=b.length→cmpL b a= -ordK a b
 | [],[],_=>rfl
 | x::a,y::b,h=>by
  rw [cmpL,ordK,X2d a b (by simpa using h)]
  by_cases h1:x>y
  · rw [if_pos (by omega),if_pos h1]
  · rw [if_neg (by omega),if_neg h1]
    by_cases h2:x<y
    · rw [if_pos (by omega),if_pos h2];rfl
    · rw [if_neg (by omega),if_neg h2]
theorem X1f : ∀(a b:List Int),ordK a b=1∨ordK a b=0∨ordK a b= -1
 | [],_=> .inr (.inl rfl)
 | _::_,[]=> .inr (.inl rfl)
 | x::a,y::b=>by
  rw [ordK]
  split
  · exact .inl rfl
  · split
    · exact .inr (.inr rfl)
    · exact X1f a b
def okP (p:List Mn) (n:Int) (i:Nat):Bool:=
 W0h (p.getD i default) n&&decide ((p.getD i default).c.w.length≠0)&&(decide (i=0)||decide (ordK (p.getD (i-1) default).ks (p.getD i default).ks=1))
def J0z (p:List Mn) (n:Int):Bool:=decide (1≤n∧n≤4∧p.length≤24)&&(List.range p.length).all (okP p n)
theorem W0l (p:List Mn) (n:Int):J0z p n=true↔(1≤n∧n≤4∧p.length≤24)∧ ∀i,i<p.length→okP p n i=true:=by
 unfold J0z
 simp only [Bool.and_eq_true,List.all_eq_true,decide_eq_true_eq,List.mem_range]
theorem k0n (p:List Mn) (n:Int) (i:Nat):okP p n i=true↔W0h (p.getD i default) n=true∧(p.getD i default).c.w.length≠0∧(i=0∨ordK (p.getD (i-1) default).ks (p.getD i default).ks=1):=by
 unfold okP
 simp only [Bool.and_eq_true,Bool.or_eq_true,decide_eq_true_eq,and_assoc]
theorem J2u {p:List Mn} {n:Int} {i:Nat} (hi:i<p.length) (h:okP p n i=false):J0z p n=false:=Bool.eq_false_iff.2 fun e=>by
 have:=((W0l p n).1 e).2 i hi
 rw [h] at this;cases this
theorem k1v {p:List Mn} {n:Int} (h:J0z p n=true) {i:Nat} (hi:i<p.length):((p.getD i default).ks.length:Int)=n∧K0a (p.getD i default).ks=true∧Q0g (p.getD i default).c=true:=(z0z _ _).1 ((k0n _ _ _).1 (((W0l p n).1 h).2 i hi)).1
def V0z (f:List (List Mn)):Bool:=decide (1≤f.length∧f.length≤4)&&f.all (fun p=>J0z p f.length)
theorem U0a (f:List (List Mn)):V0z f=true↔(1≤f.length∧f.length≤4)∧ ∀i,i<f.length→J0z (f.getD i []) f.length=true:=by
 unfold V0z
 simp only [Bool.and_eq_true,List.all_eq_true,decide_eq_true_eq]
 constructor
 · rintro⟨h1,h2⟩
   refine⟨h1,fun j hj=> ?_⟩
   have:f.getD j []=f[j]:=by simp [List.getD_eq_getElem?_getD,hj]
   rw [this];exact h2 _ (List.getElem_mem hj)
 · rintro⟨h1,h2⟩
   refine⟨h1,fun k hk=> ?_⟩
   obtain⟨j,hj,e⟩:=List.mem_iff_getElem.1 hk
   have:=h2 j hj
   rw [show f.getD j []=f[j] by simp [List.getD_eq_getElem?_getD,hj],e] at this
   exact this
def maxS (p:List Mn):Nat→Int
 | 0=>0
 | i+1=>if (p.getD i default).ks.sum>maxS p i then(p.getD i default).ks.sum else maxS p i
def degP (p:List Mn):Int:=if p.length=0∨J0z p (p.getD 0 default).ks.length=false then 0 else maxS p p.length
def maxD (f:List (List Mn)):Nat→Int
 | 0=>0
 | i+1=>if degP (f.getD i [])>maxD f i then degP (f.getD i []) else maxD f i
def degF (f:List (List Mn)):Int:=maxD f f.length
def wK (ks:List Int):Prop:=ks.length≤100000000000∧ ∀i,i<ks.length→ -9223372036854775808≤ks.getD i 0∧ks.getD i 0≤9223372036854775807
def wMn (m:Mn):Prop:=wN m.c∧wK m.ks
def wP (p:List Mn):Prop:=p.length≤100000000000∧ ∀i,i<p.length→wMn (p.getD i default)
def wF (f:List (List Mn)):Prop:=f.length≤100000000000∧ ∀i,i<f.length→wP (f.getD i [])
end Go.Pv
end
section
/-slices.Clone,Equal,Compare of powers;poly.size,mono,ahead. -/
set_option maxRecDepth 100000
namespace Go.Pv
open Go.Proofs
theorem w3u (a b:List Int) (st:Q0e) (ha:wK a) (hb:wK b):PCalls Tryz.prog 240 [.sl .no (encZ a),.sl .no (encZ b)] st (fun r st'=>r= .sc (.int .i64 (cmpL a b))∧st'=st):=by
 have hla:=ha.1
 have hlb:=hb.1
 refine Q0b none Tryz.func240 rfl fun E=>Q0a ?_
 simp -dsimp only [go_sem]
 refine Q0f [true,true,false,false,false,false,false,false,false,true,true,true] 0 0
  (fun n s=> ∃i,n=a.length-i∧i≤a.length∧i≤b.length∧cmpL a b=cmpL (a.drop i) (b.drop i)∧s=⟨[.sl .no (encZ a),.sl .no (encZ b),.junk,.junk,.junk,.junk,.junk,.junk,.junk,.sl .no (encZ a),.sc (.int .i64 a.length),.sc (.int .i64 (i:Nat))]++List.replicate 24 .junk,[],[],st⟩) a.length ?_ ?_
 · simp -dsimp only [go_sem]
   exact⟨0,by omega,by omega,by omega,rfl,rfl⟩
 · rintro n s ⟨i,rfl,hi,hib,hr,rfl⟩
   simp -dsimp only [go_sem]
   refine ck (fun h'=> ?_) (fun h'=> ?_)
   · have hlt:i<a.length:=by have:=of_decide_eq_true h';omega
     have e1:=Y0x a i hlt
     have e3:=j0m i (by omega)
     simp -dsimp only [go_sem,e1]
     refine⟨by omega,ck (fun h2=> ?_) (fun h2=> ?_)⟩
     · have hge:b.length≤i:=by have:=of_decide_eq_true h2;omega
       rw [z2g hlt hge] at hr
       simp -dsimp only [go_sem,hr]
     · have hltb:i<b.length:=by have:=of_decide_eq_false h2;omega
       have e2:=Y0x b i hltb
       rw [z2h hlt hltb] at hr
       simp -dsimp only [go_sem,e2]
       refine⟨by omega,?_⟩
       refine(X1l (a.getD i 0) (b.getD i 0) _).mono ?_
       rintro r st ⟨rfl,rfl⟩
       simp -dsimp only [go_sem]
       refine ck (fun h3=> ?_) (fun h3=> ?_)
       · have hne:=V0p h3
         have hc:cmpL a b=cmpI (a.getD i 0) (b.getD i 0):=by
          rw [hr];unfold cmpI at hne⊢
          split
          · rfl
          · split
            · rfl
            · rw [if_neg (by omega),if_neg (by omega)] at hne
              exact absurd rfl hne
         simp -dsimp only [go_sem,hc]
       · have hq:=W0y h3
         have hc:cmpL a b=cmpL (a.drop (i+1)) (b.drop (i+1)):=by
          rw [hr];unfold cmpI at hq
          by_cases c1:a.getD i 0<b.getD i 0
          · rw [if_pos c1] at hq;omega
          · rw [if_neg c1] at hq
            by_cases c2:a.getD i 0>b.getD i 0
            · rw [if_pos (by omega)] at hq;omega
            · rw [if_neg c1,if_neg c2]
         simp -dsimp only [go_sem,e3]
         exact⟨a.length-(i+1),by omega,i+1,rfl,by omega,by omega,hc,rfl⟩
   · have hge:i=a.length:=by have:=of_decide_eq_false h';omega
     rw [Q3j (by omega)] at hr
     simp -dsimp only [go_sem]
     refine Q0a ?_
     simp -dsimp only [go_sem]
     refine ck (fun h2=> ?_) (fun h2=> ?_)
     · rw [if_pos (by have:=of_decide_eq_true h2;omega)] at hr
       simp -dsimp only [go_sem,hr]
     · rw [if_neg (by have:=of_decide_eq_false h2;omega)] at hr
       simp -dsimp only [go_sem,hr]
theorem K2h (m:Mn) (n:Int) (st:Q0e) (hm:wMn m):PCalls Tryz.prog 208 [.agg (j0r m),.sc (.int .i64 n)] st (fun r st'=>r= .sc (.bool (W0h m n))∧st'=st):=by
 have hl:=hm.2.1
 have hc:=hm.1
 unfold wN at hc
 refine Q0b none Tryz.func208 rfl fun E=>Q0a ?_
 simp -dsimp only [go_sem]
 refine Q0f [false,true,true,false,false,true,false,false,false,true,true,true] 1 0
  (fun k s=> ∃i,k=m.ks.length-i∧i≤m.ks.length∧(∀j,j<i→0≤m.ks.getD j 0)∧0≤(m.ks.take i).sum∧(m.ks.take i).sum≤8∧s=⟨[.junk,.sc (.int .i64 n),.lp 0 0,.junk,.junk,.sc (.int .i64 (8-(m.ks.take i).sum)),.junk,.junk,.junk,.sl .no (encZ m.ks),.sc (.int .i64 m.ks.length),.sc (.int .i64 (i:Nat))]++List.replicate 24 .junk,[j0r m],[],st⟩) m.ks.length ?_ ?_
 · simp -dsimp only [go_sem]
   exact⟨0,by omega,by omega,fun j hj=>by omega,by simp,by simp,by simp⟩
 · rintro k s ⟨i,rfl,hi,hr,h0,h8,rfl⟩
   simp -dsimp only [go_sem]
   refine ck (fun h'=> ?_) (fun h'=> ?_)
   · have hlt:i<m.ks.length:=by have:=of_decide_eq_true h';omega
     have e1:=Y0x m.ks i hlt
     have e3:=j0m i (by omega)
     have hk:=hm.2.2 i hlt
     have hs:=Y0s m.ks i hlt
     simp -dsimp only [go_sem,e1]
     refine⟨by omega,?_⟩
     have bad:m.ks.getD i 0<0∨8-(m.ks.take i).sum<m.ks.getD i 0→W0h m n=false:=fun hb=>by
      unfold W0h;rw [J2x hlt hb];simp
     refine gkF (fun h2=> ?_) (fun h2=> ?_)
     · have h2':=of_decide_eq_false h2
       simp -dsimp only [go_sem,h2]
       refine ck (fun h3=> ?_) (fun h3=> ?_)
       · have h3':=of_decide_eq_true h3
         have hb:=bad (.inr h3')
         simp -dsimp only [go_sem,hb]
       · have h3':=of_decide_eq_false h3
         have e4:IntKind.i64.wrap (8-(m.ks.take i).sum-m.ks.getD i 0)=8-(m.ks.take (i+1)).sum:=by
          rw [hs,Q0j _ (by omega) (by omega)];omega
         simp -dsimp only [go_sem,e3,e4]
         refine⟨m.ks.length-(i+1),by omega,i+1,rfl,by omega,fun j hj=> ?_,by omega,by omega,rfl⟩
         by_cases e:j=i
         · subst e;omega
         · exact hr j (by omega)
     · have hb:=bad (.inl (of_decide_eq_true h2))
       simp -dsimp only [go_sem,h2,hb]
   · have hge:i=m.ks.length:=by have:=of_decide_eq_false h';omega
     subst hge
     have hk:K0a m.ks=true:=(J0m _).2 ⟨hr,by rw [List.take_length] at h8;exact h8⟩
     simp -dsimp only [go_sem]
     refine Q0a ?_
     simp -dsimp only [go_sem]
     refine gkT (fun h2=> ?_) (fun h2=> ?_)
     · have h2':(m.ks.length:Int)=n:=by simpa using h2
       simp -dsimp only [go_sem,h2]
       refine(K0x m.c _ (by omega)).mono ?_
       rintro r st ⟨rfl,rfl⟩
       have hv:W0h m n=Q0g m.c:=by unfold W0h;rw [hk,decide_eq_true h2'];simp
       simp -dsimp only [go_sem,h2,hv]
     · have h2': ¬(m.ks.length:Int)=n:=by simpa using h2
       have hv:W0h m n=false:=by unfold W0h;rw [decide_eq_false h2'];simp
       simp -dsimp only [go_sem,h2,hv]
theorem v1h (a b:Mn) (st:Q0e) (ha:wMn a) (hb:wMn b):PCalls Tryz.prog 209 [.agg (j0r a),.agg (j0r b)] st (fun r st'=>r= .sc (.int .i64 (cmpL b.ks a.ks))∧st'=st):=by
 refine Q0b none Tryz.func209 rfl fun E=>Q0a ?_
 simp -dsimp only [go_sem]
 refine(w3u b.ks a.ks _ hb.2 ha.2).mono ?_
 rintro r st ⟨rfl,rfl⟩
 simp -dsimp only [go_sem]
end Go.Pv
end
section
/-poly.Right,Degree,Same;field.Right,Degree,Same. -/
set_option maxRecDepth 100000
namespace Go.Pv
open Go.Proofs
theorem V4w (i:Nat) (h:i<100000000000000) (h0:0<i):IntKind.i64.wrap ((i:Int)-1)=((i-1:Nat):Int):=by rw [Q0j _ (by omega) (by omega)];omega
theorem J1n (p:List Mn) (n:Int) (st:Q0e) (hp:wP p):PCalls Tryz.prog 150 [.sl .no (X0c p),.sc (.int .i64 n)] st (fun r st'=>r= .sc (.bool (J0z p n))∧st'=st):=by
 have hl:=hp.1
 refine Q0b none Tryz.func150 rfl fun E=>Q0a ?_
 simp -dsimp only [go_sem]
 refine Q0f [true,true,false,false,false,false,false,true,true,true] 0 0
  (fun k s=> ∃i,k=p.length-i∧i≤p.length∧(∀j,j<i→okP p n j=true)∧s=⟨[.sl .no (X0c p),.sc (.int .i64 n),.junk,.junk,.junk,.junk,.junk,.sl .no (X0c p),.sc (.int .i64 p.length),.sc (.int .i64 (i:Nat))]++List.replicate 41 .junk,[],[],st⟩) p.length ?_ ?_
 · simp -dsimp only [go_sem]
   exact⟨0,by omega,by omega,fun j hj=>by omega,rfl⟩
 · rintro k s ⟨i,rfl,hi,hr,rfl⟩
   simp -dsimp only [go_sem]
   refine ck (fun h'=> ?_) (fun h'=> ?_)
   · have hlt:i<p.length:=by have:=of_decide_eq_true h';omega
     have e1:=x0h p i hlt
     have e3:=j0m i (by omega)
     have hm:=hp.2 i hlt
     have hmw:=hm.1
     unfold wN at hmw
     simp -dsimp only [go_sem,e1]
     refine⟨by omega,?_⟩
     refine Q0l Z0x 51 (.step 0 [] (.step 1 [] (.step 2 [] (.step 3 [] (.step 4 [] (.step 5 [] (.step 6 [] (.step 7 [] (.step 8 [] (.step 9 [] (.step 10 [] (.step 11 [] (.step 12 [] (.step 13 [] (.step 14 [] (.step 15 [] (.step 16 [] (.step 17 [] (.step 18 [] (.step 19 [] (.step 20 [] (.step 21 [0,7] (.step 22 [] (.step 23 [] (.step 24 [] (.done)))))))))))))))))))))))))) (by decide+kernel) (by simp) ?_
     simp -dsimp only [go_sem,e1]
     refine(K2h (p.getD i default) n _ hm).mono ?_
     rintro r st ⟨rfl,rfl⟩
     have bad:okP p n i=false→J0z p n=false:=fun h=>J2u hlt h
     cases h1:W0h (p.getD i default) n with
     | false=>
      have hb:=bad (by unfold okP;rw [h1];rfl)
      simp -dsimp only [go_sem,h1,hb]
     | true=>
      simp -dsimp only [go_sem,h1]
      refine gkF (fun h2=> ?_) (fun h2=> ?_)
      · have h2':(p.getD i default).c.w.length≠0:=by have:=of_decide_eq_false h2;omega
        simp -dsimp only [go_sem,h2]
        refine gkT (fun h3=> ?_) (fun h3=> ?_)
        · have h3':0<i:=by have:=of_decide_eq_true h3;omega
          have e4:=V4w i (by omega) h3'
          have e5:=x0h p (i-1) (by omega)
          simp -dsimp only [go_sem,h2,h3,e4,e5]
          refine⟨by omega,?_⟩
          refine(v1h (p.getD (i-1) default) (p.getD i default) _ (hp.2 _ (by omega)) hm).mono ?_
          rintro r st ⟨rfl,rfl⟩
          obtain⟨k1,k2,k3⟩:=(z0z _ _).1 h1
          have h0:=(z0z _ _).1 ((k0n _ _ _).1 (hr (i-1) (by omega))).1
          have ho:=X2d (p.getD (i-1) default).ks (p.getD i default).ks (by omega)
          have hv:=X1f (p.getD (i-1) default).ks (p.getD i default).ks
          rw [ho]
          simp -dsimp only [go_sem,h2,h3]
          refine ck (fun h4=> ?_) (fun h4=> ?_)
          · have h4':=of_decide_eq_true h4
            have hb:=bad (Bool.eq_false_iff.2 fun e=>by
             rcases ((k0n _ _ _).1 e).2.2 with h | h<;>omega)
            simp -dsimp only [go_sem,hb]
          · have h4':=of_decide_eq_false h4
            simp -dsimp only [go_sem,e3]
            refine⟨p.length-(i+1),by omega,i+1,rfl,by omega,fun j hj=> ?_,rfl⟩
            by_cases e:j=i
            · subst e;exact(k0n _ _ _).2 ⟨h1,h2',.inr (by omega)⟩
            · exact hr j (by omega)
        · have h3':i=0:=by have:=of_decide_eq_false h3;omega
          simp -dsimp only [go_sem,h2,h3,e3]
          refine⟨p.length-(i+1),by omega,i+1,rfl,by omega,fun j hj=> ?_,rfl⟩
          have e:j=i:=by omega
          subst e;exact(k0n _ _ _).2 ⟨h1,h2',.inl h3'⟩
      · have h2':(p.getD i default).c.w.length=0:=by have:=of_decide_eq_true h2;omega
        have hb:=bad (Bool.eq_false_iff.2 fun e=>((k0n _ _ _).1 e).2.1 h2')
        simp -dsimp only [go_sem,h2,hb]
   · have hge:i=p.length:=by have:=of_decide_eq_false h';omega
     subst hge
     simp -dsimp only [go_sem]
     refine Q0a ?_
     simp -dsimp only [go_sem]
     refine gkT (fun h1=> ?_) (fun h1=> ?_)
     · have h1':=of_decide_eq_true h1
       simp -dsimp only [go_sem,h1]
       refine gkT (fun h2=> ?_) (fun h2=> ?_)
       · have h2':=of_decide_eq_true h2
         have hv:J0z p n=decide ((p.length:Int)≤24):=by
          rw [Bool.eq_iff_iff,W0l,decide_eq_true_iff]
          exact⟨fun h=>by omega,fun h=>⟨⟨h1',h2',by omega⟩,hr⟩⟩
         simp -dsimp only [go_sem,h1,h2,hv]
       · have h2':=of_decide_eq_false h2
         have hv:J0z p n=false:=Bool.eq_false_iff.2 fun e=>h2' ((W0l _ _).1 e).1.2.1
         simp -dsimp only [go_sem,h1,h2,hv]
     · have h1':=of_decide_eq_false h1
       have hv:J0z p n=false:=Bool.eq_false_iff.2 fun e=>h1' ((W0l _ _).1 e).1.1
       simp -dsimp only [go_sem,h1,hv]
theorem Z1l (f:List (List Mn)) (st:Q0e) (hf:wF f):PCalls Tryz.prog 85 [.sl .no (X0k f)] st (fun r st'=>r= .sc (.bool (V0z f))∧st'=st):=by
 have hl:=hf.1
 refine Q0b none Tryz.func85 rfl fun E=>Q0a ?_
 simp -dsimp only [go_sem]
 refine Q0f [true,false,false,false,false,true,true,true] 0 0
  (fun n s=> ∃i,n=f.length-i∧i≤f.length∧(∀j,j<i→J0z (f.getD j []) f.length=true)∧s=⟨[.sl .no (X0k f),.junk,.junk,.junk,.junk,.sl .no (X0k f),.sc (.int .i64 f.length),.sc (.int .i64 (i:Nat))]++List.replicate 17 .junk,[],[],st⟩) f.length ?_ ?_
 · simp -dsimp only [go_sem]
   exact⟨0,by omega,by omega,fun j hj=>by omega,rfl⟩
 · rintro n s ⟨i,rfl,hi,hr,rfl⟩
   simp -dsimp only [go_sem]
   refine ck (fun h'=> ?_) (fun h'=> ?_)
   · have hlt:i<f.length:=by have:=of_decide_eq_true h';omega
     have e1:=K1y f i hlt
     have e3:=j0m i (by omega)
     simp -dsimp only [go_sem,e1]
     refine⟨by omega,?_⟩
     refine(J1n _ _ _ (hf.2 i hlt)).mono ?_
     rintro r st ⟨rfl,rfl⟩
     simp -dsimp only [go_sem]
     refine ck (fun h3=> ?_) (fun h3=> ?_)
     · have hb:J0z (f.getD i []) f.length=false:=by simpa using h3
       have hv:V0z f=false:=Bool.eq_false_iff.2 fun e=>by
        have:=((U0a f).1 e).2 i hlt
        rw [hb] at this;cases this
       simp -dsimp only [go_sem,hv]
     · have ht:J0z (f.getD i []) f.length=true:=by simpa using h3
       simp -dsimp only [go_sem,e3]
       refine⟨f.length-(i+1),by omega,i+1,rfl,by omega,fun j hj=> ?_,rfl⟩
       by_cases e:j=i
       · subst e;exact ht
       · exact hr j (by omega)
   · have hge:i=f.length:=by have:=of_decide_eq_false h';omega
     subst hge
     simp -dsimp only [go_sem]
     refine Q0a ?_
     simp -dsimp only [go_sem]
     refine gkT (fun h=> ?_) (fun h=> ?_)
     · have h1:=of_decide_eq_true h
       have hv:V0z f=decide ((f.length:Int)≤4):=by
        rw [Bool.eq_iff_iff,U0a,decide_eq_true_iff]
        exact⟨fun h=>by omega,fun h=>⟨⟨by omega,by omega⟩,hr⟩⟩
       simp -dsimp only [go_sem,h,hv]
     · have h1:=of_decide_eq_false h
       have hv:V0z f=false:=Bool.eq_false_iff.2 fun e=>by
        have:=((U0a f).1 e).1;omega
       simp -dsimp only [go_sem,h,hv]
end Go.Pv
end
section
/-The document's polynomials and fields:mono,order,Right,Degree,SamePoly,RightField,DegreeField,SameField. -/
set_option maxRecDepth 100000
namespace Go.Pv
open Go.Proofs
theorem W1k (a b:List Int) (st:Q0e) (ha:wK a) (hb:wK b):PCalls Tryz.prog 186 [.sl .no (encZ a),.sl .no (encZ b)] st (fun r st'=>r= .sc (.int .i64 (ordK a b))∧st'=st):=by
 have hla:=ha.1
 have hlb:=hb.1
 refine Q0b none Tryz.func186 rfl fun E=>Q0a ?_
 simp -dsimp only [go_sem]
 refine Q0f [true,true,false,false,false,true] 0 0
  (fun n s=> ∃i,n=a.length-i∧i≤a.length∧i≤b.length∧ordK a b=ordK (a.drop i) (b.drop i)∧s=⟨[.sl .no (encZ a),.sl .no (encZ b),.junk,.junk,.junk,.sc (.int .i64 (i:Nat))]++List.replicate 30 .junk,[],[],st⟩) a.length ?_ ?_
 · simp -dsimp only [go_sem]
   exact⟨0,by omega,by omega,by omega,rfl,rfl⟩
 · rintro n s ⟨i,rfl,hi,hib,hr,rfl⟩
   have done:(a.length≤i∨b.length≤i)→ordK a b=0:=fun h=>by rw [hr];exact v2d h
   simp -dsimp only [go_sem]
   refine gkT (fun h1=> ?_) (fun h1=> ?_)
   · have hlt:i<a.length:=by have:=of_decide_eq_true h1;omega
     simp -dsimp only [go_sem,h1]
     refine ck (fun h2=> ?_) (fun h2=> ?_)
     · have hltb:i<b.length:=by have:=of_decide_eq_true h2;omega
       have e1:=Y0x a i hlt
       have e2:=Y0x b i hltb
       have e3:=j0m i (by omega)
       rw [U2t hlt hltb] at hr
       simp -dsimp only [go_sem]
       refine Q0l Z0x 36 (.step 0 [] (.step 1 [] (.step 2 [] (.step 3 [] (.step 4 [] (.step 5 [] (.step 6 [] (.step 7 [] (.step 8 [] (.done)))))))))) (by decide+kernel) (by simp) ?_
       simp -dsimp only [go_sem,e1,e2]
       refine⟨by omega,by omega,ck (fun h3=> ?_) (fun h3=> ?_)⟩
       · rw [if_pos (of_decide_eq_true h3)] at hr
         simp -dsimp only [go_sem,hr]
       · rw [if_neg (of_decide_eq_false h3)] at hr
         simp -dsimp only [go_sem]
         refine Q0l Z0x 36 (.step 0 [] (.step 1 [] (.step 2 [] (.step 3 [] (.step 4 [] (.step 5 [] (.step 6 [] (.step 7 [] (.step 8 [] (.done)))))))))) (by decide+kernel) (by simp) ?_
         simp -dsimp only [go_sem,e1,e2]
         refine⟨by omega,by omega,ck (fun h4=> ?_) (fun h4=> ?_)⟩
         · rw [if_pos (of_decide_eq_true h4)] at hr
           simp -dsimp only [go_sem,hr]
         · rw [if_neg (of_decide_eq_false h4)] at hr
           simp -dsimp only [go_sem,e3]
           exact⟨a.length-(i+1),by omega,i+1,rfl,by omega,by omega,hr,rfl⟩
     · have h0:=done (.inr (by have:=of_decide_eq_false h2;omega))
       simp -dsimp only [go_sem]
       refine Q0a ?_
       simp -dsimp only [go_sem,h0]
   · have h0:=done (.inl (by have:=of_decide_eq_false h1;omega))
     simp -dsimp only [go_sem,h1]
     refine Q0a ?_
     simp -dsimp only [go_sem,h0]
theorem Y2t (m:Mn) (n:Int) (st:Q0e) (hm:wMn m) (hn:n≤4):PCalls Tryz.prog 125 [.agg (j0r m),.sc (.int .i64 n)] st (fun r st'=>r= .sc (.bool (W0h m n))∧st'=st):=by
 have hl:=hm.2.1
 have hc:=hm.1
 unfold wN at hc
 refine Q0b none Tryz.func125 rfl fun E=>Q0a ?_
 simp -dsimp only [go_sem]
 refine Q0f [false,true,true,false,false,true,true] 1 0
  (fun k s=> ∃i,k=m.ks.length-i∧i≤m.ks.length∧i≤4∧(∀j,j<i→0≤m.ks.getD j 0)∧0≤(m.ks.take i).sum∧(m.ks.take i).sum≤8*i∧s=⟨[.junk,.sc (.int .i64 n),.lp 0 0,.junk,.junk,.sc (.int .i64 (m.ks.take i).sum),.sc (.int .i64 (i:Nat))]++List.replicate 46 .junk,[j0r m],[],st⟩) m.ks.length ?_ ?_
 · simp -dsimp only [go_sem]
   exact⟨0,by omega,by omega,by omega,fun j hj=>by omega,by simp,by simp,by simp⟩
 · rintro k s ⟨i,rfl,hi,hi4,hr,h0,h8,rfl⟩
   have bad:i<m.ks.length→(m.ks.getD i 0<0∨8<m.ks.getD i 0)→W0h m n=false:=fun hlt hb=>by
    have hk:K0a m.ks=false:=Bool.eq_false_iff.2 fun e=>by have:=V0b (ks:=m.ks) e i hlt;omega
    unfold W0h;rw [hk];simp
   simp -dsimp only [go_sem]
   refine gkT (fun h1=> ?_) (fun h1=> ?_)
   · have hlt:i<m.ks.length:=by have:=of_decide_eq_true h1;omega
     simp -dsimp only [go_sem,h1]
     refine ck (fun h2=> ?_) (fun h2=> ?_)
     · have hlt4:i<4:=by have:=of_decide_eq_true h2;omega
       have e1:=Y0x m.ks i hlt
       have e3:=j0m i (by omega)
       have hs:=Y0s m.ks i hlt
       simp -dsimp only [go_sem,e1]
       refine⟨by omega,?_⟩
       refine gkF (fun h3=> ?_) (fun h3=> ?_)
       · have h3':=of_decide_eq_false h3
         simp -dsimp only [go_sem,h3,e1]
         refine⟨by omega,ck (fun h4=> ?_) (fun h4=> ?_)⟩
         · have hb:=bad hlt (.inr (of_decide_eq_true h4))
           simp -dsimp only [go_sem,hb]
         · have h4':=of_decide_eq_false h4
           have e4:IntKind.i64.wrap ((m.ks.take i).sum+m.ks.getD i 0)=(m.ks.take (i+1)).sum:=by
            rw [hs];exact Q0j _ (by omega) (by omega)
           simp -dsimp only [go_sem,e1]
           refine⟨by omega,?_⟩
           simp -dsimp only [go_sem,e3,e4]
           refine⟨m.ks.length-(i+1),by omega,i+1,rfl,by omega,by omega,fun j hj=> ?_,by omega,by omega,rfl⟩
           by_cases e:j=i
           · subst e;omega
           · exact hr j (by omega)
       · have hb:=bad hlt (.inl (of_decide_eq_true h3))
         simp -dsimp only [go_sem,h3,hb]
     · have hfin:m.ks.length≤i∨4≤i:= .inr (by have:=of_decide_eq_false h2;omega)
       clear h1 h2
       simp -dsimp only [go_sem]
       refine Q0a ?_
       simp -dsimp only [go_sem]
       refine gkT (fun h2=> ?_) (fun h2=> ?_)
       · have h2':(m.ks.length:Int)=n:=by simpa using h2
         have hge:i=m.ks.length:=by omega
         subst hge
         rw [List.take_length] at h0 h8
         simp -dsimp only [go_sem,h2,List.take_length]
         refine gkT (fun h3=> ?_) (fun h3=> ?_)
         · have h3':=of_decide_eq_true h3
           simp -dsimp only [go_sem,h2,h3]
           refine(j0c m.c _ (by omega)).mono ?_
           rintro r st ⟨rfl,rfl⟩
           have hv:W0h m n=Q0g m.c:=by unfold W0h;rw [(J0m _).2 ⟨hr,h3'⟩,decide_eq_true h2'];simp
           simp -dsimp only [go_sem,h2,h3,hv]
         · have h3':=of_decide_eq_false h3
           have hk:K0a m.ks=false:=Bool.eq_false_iff.2 fun e=>h3' ((J0m m.ks).1 e).2
           have hv:W0h m n=false:=by unfold W0h;rw [hk];simp
           simp -dsimp only [go_sem,h2,h3,hv]
       · have h2': ¬(m.ks.length:Int)=n:=by simpa using h2
         have hv:W0h m n=false:=by unfold W0h;rw [decide_eq_false h2'];simp
         simp -dsimp only [go_sem,h2,hv]
   · have hfin:m.ks.length≤i∨4≤i:= .inl (by have:=of_decide_eq_false h1;omega)
     simp -dsimp only [go_sem,h1]
     clear h1
     refine Q0a ?_
     simp -dsimp only [go_sem]
     refine gkT (fun h2=> ?_) (fun h2=> ?_)
     · have h2':(m.ks.length:Int)=n:=by simpa using h2
       have hge:i=m.ks.length:=by omega
       subst hge
       rw [List.take_length] at h0 h8
       simp -dsimp only [go_sem,h2,List.take_length]
       refine gkT (fun h3=> ?_) (fun h3=> ?_)
       · have h3':=of_decide_eq_true h3
         simp -dsimp only [go_sem,h2,h3]
         refine(j0c m.c _ (by omega)).mono ?_
         rintro r st ⟨rfl,rfl⟩
         have hv:W0h m n=Q0g m.c:=by unfold W0h;rw [(J0m _).2 ⟨hr,h3'⟩,decide_eq_true h2'];simp
         simp -dsimp only [go_sem,h2,h3,hv]
       · have h3':=of_decide_eq_false h3
         have hk:K0a m.ks=false:=Bool.eq_false_iff.2 fun e=>h3' ((J0m m.ks).1 e).2
         have hv:W0h m n=false:=by unfold W0h;rw [hk];simp
         simp -dsimp only [go_sem,h2,h3,hv]
     · have h2': ¬(m.ks.length:Int)=n:=by simpa using h2
       have hv:W0h m n=false:=by unfold W0h;rw [decide_eq_false h2'];simp
       simp -dsimp only [go_sem,h2,hv]
end Go.Pv
end
