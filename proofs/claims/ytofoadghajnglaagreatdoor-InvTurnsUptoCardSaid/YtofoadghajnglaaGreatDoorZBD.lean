/- Parts of the walk: PvAm, PvAn, M42, N46, N47, N48, PvBa. -/
import Derived.Test.YtofoadghajnglaaGreatDoorZAN
import Derived.Test.YtofoadghajnglaaGreatDoorZE
import Derived.Test.YtofoadghajnglaaGreatDoorZP
import Derived.Test.YtofoadghajnglaaGreatDoorZAF
import Derived.Test.YtofoadghajnglaaGreatDoorZF
import Derived.Test.YtofoadghajnglaaGreatDoorZH
set_option linter.unusedVariables false
set_option linter.unusedSimpArgs false
section
/-Monomials,polynomials,fields;terms. -/
namespace Go.Pv
structure Mn where
 c:Nm
 ks:List Int
 deriving DecidableEq
instance : Inhabited Mn:=⟨⟨default,[]⟩⟩
def G2h (x:Mn):List PV:= [.sc (.bool x.c.neg),.sc (.int .i64 x.c.exp),.sl .no (encW x.c.w),.sl .no (encZ x.ks)]
attribute [go_sem] G2h
def Y0a (l:List Mn):List PV:=l.map fun c=>(.agg (G2h c))
@[go_sem] theorem Q3y (l:List Mn):(Y0a l).length=l.length:=by simp [Y0a]
@[go_sem] theorem x3j :Y0a []= []:=(rfl)
@[go_sem] theorem y3r (l:List Mn):(Y0a l).all (fun x=>x.cells.length==4)=true:=by simp [Y0a,PV.cells,G2h]
@[go_sem] theorem y3s (l:List Mn):(Y0a l).all (fun x=>(x.cells.length==4)&&x.cells.all PV.cellOK)=true:=by simp [Y0a,PV.cells,PV.cellOK,Value.oneCell',G2h]
@[go_sem] theorem U3k (l:List Mn) (n:Nat):(Y0a l).take n=Y0a (l.take n):=by simp [Y0a]
@[go_sem] theorem U3m (l:List Mn) (n:Nat):(Y0a l).drop n=Y0a (l.drop n):=by simp [Y0a]
@[go_sem] theorem x3l (l m:List Mn):Y0a l++Y0a m=Y0a (l++m):=by simp [Y0a]
@[go_sem] theorem U3l (l:List Mn) (c:Mn):Y0a l++ [.agg (G2h c)]=Y0a (l++ [c]):=by simp [Y0a]
@[go_sem] theorem x3k (l:List Mn) (i:Nat) (cs:List PV):(Y0a l).map (PV.frz i cs)=Y0a l:=by
 simp only [Y0a,List.map_map]
 exact List.map_congr_left fun a _=>rfl
structure Tm where
 v:Vl
 ks:List Int
instance : Inhabited Tm:=⟨⟨⟨false,0,0⟩,[]⟩⟩
def G2f (x:Tm):List PV:= [.sc (.bool x.v.neg),.sl .no (encD (Q0g x.v.m)),.sc (.int .i64 x.v.e),.sl .no (encZ x.ks)]
attribute [go_sem] G2f
def Y0y (l:List Tm):List PV:=l.map fun c=>(.agg (G2f c))
@[go_sem] theorem Q3w (l:List Tm):(Y0y l).length=l.length:=by simp [Y0y]
@[go_sem] theorem x3a :Y0y []= []:=(rfl)
@[go_sem] theorem y3k (l:List Tm):(Y0y l).all (fun x=>x.cells.length==4)=true:=by simp [Y0y,PV.cells,G2f]
@[go_sem] theorem y3l (l:List Tm):(Y0y l).all (fun x=>(x.cells.length==4)&&x.cells.all PV.cellOK)=true:=by simp [Y0y,PV.cells,PV.cellOK,Value.oneCell',G2f]
@[go_sem] theorem U3e (l:List Tm) (n:Nat):(Y0y l).take n=Y0y (l.take n):=by simp [Y0y]
@[go_sem] theorem U3g (l:List Tm) (n:Nat):(Y0y l).drop n=Y0y (l.drop n):=by simp [Y0y]
@[go_sem] theorem x3c (l m:List Tm):Y0y l++Y0y m=Y0y (l++m):=by simp [Y0y]
@[go_sem] theorem U3f (l:List Tm) (c:Tm):Y0y l++ [.agg (G2f c)]=Y0y (l++ [c]):=by simp [Y0y]
@[go_sem] theorem x3b (l:List Tm) (i:Nat) (cs:List PV):(Y0y l).map (PV.frz i cs)=Y0y l:=by
 simp only [Y0y,List.map_map]
 exact List.map_congr_left fun a _=>rfl
def W0w (l:List (List Mn)):List PV:=l.map fun c=>(.sl .no (Y0a c))
@[go_sem] theorem Z3a (l:List (List Mn)):(W0w l).length=l.length:=by simp [W0w]
@[go_sem] theorem x3y :W0w []= []:=(rfl)
@[go_sem] theorem Q4b (l:List (List Mn)):(W0w l).all (fun x=>x.cells.length==1)=true:=by simp [W0w,PV.cells]
@[go_sem] theorem Q4c (l:List (List Mn)):(W0w l).all (fun x=>(x.cells.length==1)&&x.cells.all PV.cellOK)=true:=by simp [W0w,PV.cells,PV.cellOK,Value.oneCell']
@[go_sem] theorem U3w (l:List (List Mn)) (n:Nat):(W0w l).take n=W0w (l.take n):=by simp [W0w]
@[go_sem] theorem U3y (l:List (List Mn)) (n:Nat):(W0w l).drop n=W0w (l.drop n):=by simp [W0w]
@[go_sem] theorem j3a (l m:List (List Mn)):W0w l++W0w m=W0w (l++m):=by simp [W0w]
@[go_sem] theorem U3x (l:List (List Mn)) (c:(List Mn)):W0w l++ [.sl .no (Y0a c)]=W0w (l++ [c]):=by simp [W0w]
@[go_sem] theorem x3z (l:List (List Mn)) (i:Nat) (cs:List PV):(W0w l).map (PV.frz i cs)=W0w l:=by
 simp only [W0w,List.map_map]
 exact List.map_congr_left fun a _=>rfl
def U0a (l:List (List (List Mn))):List PV:=l.map fun c=>(.sl .no (W0w c))
@[go_sem] theorem Q3z (l:List (List (List Mn))):(U0a l).length=l.length:=by simp [U0a]
@[go_sem] theorem x3s :U0a []= []:=(rfl)
@[go_sem] theorem y3x (l:List (List (List Mn))):(U0a l).all (fun x=>x.cells.length==1)=true:=by simp [U0a,PV.cells]
@[go_sem] theorem y3y (l:List (List (List Mn))):(U0a l).all (fun x=>(x.cells.length==1)&&x.cells.all PV.cellOK)=true:=by simp [U0a,PV.cells,PV.cellOK,Value.oneCell']
@[go_sem] theorem U3q (l:List (List (List Mn))) (n:Nat):(U0a l).take n=U0a (l.take n):=by simp [U0a]
@[go_sem] theorem U3s (l:List (List (List Mn))) (n:Nat):(U0a l).drop n=U0a (l.drop n):=by simp [U0a]
@[go_sem] theorem x3u (l m:List (List (List Mn))):U0a l++U0a m=U0a (l++m):=by simp [U0a]
@[go_sem] theorem U3r (l:List (List (List Mn))) (c:(List (List Mn))):U0a l++ [.sl .no (W0w c)]=U0a (l++ [c]):=by simp [U0a]
@[go_sem] theorem x3t (l:List (List (List Mn))) (i:Nat) (cs:List PV):(U0a l).map (PV.frz i cs)=U0a l:=by
 simp only [U0a,List.map_map]
 exact List.map_congr_left fun a _=>rfl
end Go.Pv
end
section
/-An object of the store that is written no more:in all slots and boxes it becomes a plain slice. -/
namespace Go.Pv
def PV.frzG1 (k:Nat) (cs:List PV):PV→PV
 | .ms true k' off len=>if k'=k∧off+len≤cs.length then .sl .no ((cs.drop off).take len) else .ms true k' off len
 | p=>p
def PV.frzG (k:Nat) (cs:List PV):PV→PV
 | .agg l=> .agg (l.map (PV.frzG1 k cs))
 | .tup l=> .tup (l.map (PV.frzG1 k cs))
 | .fn f l m=> .fn f (l.map (PV.frzG1 k cs)) (m.map (PV.frzG1 k cs))
 | p=>p.frzG1 k cs
structure SolidG (w:World) (g':Gh) (k:Nat) (cs:List PV):Prop where
 sl: ∀v off len,k<g'.n→Rep w g' v (.ms true k off len)→off+len≤cs.length→Rep w g' v (.sl .no ((cs.drop off).take len))
section
variable {w:World} {g g':Gh} {F:Fr} {T:List (Nat×Nat)} {k:Nat} {cs:List PV}
end
def PFS.freezeA (k:Nat) (s:PFS):PFS:=⟨s.pa.map (PV.frzG k (s.st.getD k [])),s.L.map fun l=>l.map (PV.frzG k (s.st.getD k [])),s.T,s.st.set k []⟩
@[go_sem] theorem Y3r {k:Nat} {pa:List PV} {L st:Q0d} {T:List (Nat×Nat)} :(PFS.mk pa L T st).freezeA k=⟨pa.map (PV.frzG k (st.getD k [])),L.map fun l=>l.map (PV.frzG k (st.getD k [])),T,st.set k []⟩:=(rfl)
@[go_sem] theorem z3a {k:Nat} {cs:List PV} :PV.frzG k cs .junk= .junk:=(rfl)
@[go_sem] theorem K4k {k:Nat} {cs:List PV} {v:Value} :PV.frzG k cs (.sc v)=(.sc v):=(rfl)
@[go_sem] theorem K4m {k:Nat} {cs:List PV} {i o:Nat} :PV.frzG k cs (.lp i o)=(.lp i o):=(rfl)
@[go_sem] theorem K4o {k:Nat} {cs:List PV} {i o:Nat} :PV.frzG k cs (.gp i o)=(.gp i o):=(rfl)
@[go_sem] theorem K4j {k:Nat} {cs:List PV} {t:Tag} {es:List PV} :PV.frzG k cs (.sl t es)=(.sl t es):=(rfl)
@[go_sem] theorem K4q {k:Nat} {cs:List PV} {es:List PV} {o:Nat} :PV.frzG k cs (.ep es o)=(.ep es o):=(rfl)
@[go_sem] theorem w3g {k:Nat} {cs:List PV} {i o n:Nat} :PV.frzG k cs (.ms false i o n)=(.ms false i o n):=(rfl)
@[go_sem] theorem K4l {k:Nat} {cs:List PV} {i n c:Nat} :PV.frzG k cs (.mr i n c)=(.mr i n c):=(rfl)
@[go_sem] theorem w3k {k:Nat} {cs:List PV} {i n c:Nat} :PV.frzG1 k cs (.mr i n c)=(.mr i n c):=(rfl)
@[go_sem] theorem w3f {k:Nat} {cs:List PV} {es:List PV} {n:Nat} :PV.frzG k cs (.pre es n)=(.pre es n):=(rfl)
@[go_sem] theorem Y3m {k:Nat} {cs:List PV} :PV.frzG1 k cs .junk= .junk:=(rfl)
@[go_sem] theorem w3j {k:Nat} {cs:List PV} {v:Value} :PV.frzG1 k cs (.sc v)=(.sc v):=(rfl)
@[go_sem] theorem w3l {k:Nat} {cs:List PV} {i o:Nat} :PV.frzG1 k cs (.lp i o)=(.lp i o):=(rfl)
@[go_sem] theorem w3n {k:Nat} {cs:List PV} {i o:Nat} :PV.frzG1 k cs (.gp i o)=(.gp i o):=(rfl)
@[go_sem] theorem w3i {k:Nat} {cs:List PV} {t:Tag} {es:List PV} :PV.frzG1 k cs (.sl t es)=(.sl t es):=(rfl)
@[go_sem] theorem w3o {k:Nat} {cs:List PV} {es:List PV} {o:Nat} :PV.frzG1 k cs (.ep es o)=(.ep es o):=(rfl)
@[go_sem] theorem z3c {k:Nat} {cs:List PV} {i o n:Nat} :PV.frzG1 k cs (.ms false i o n)=(.ms false i o n):=(rfl)
@[go_sem] theorem z3b {k:Nat} {cs:List PV} {es:List PV} {n:Nat} :PV.frzG1 k cs (.pre es n)=(.pre es n):=(rfl)
@[go_sem] theorem w3h {k:Nat} {cs l:List PV} :PV.frzG k cs (.agg l)= .agg (l.map (PV.frzG1 k cs)):=(rfl)
@[go_sem] theorem w3e {k:Nat} {cs l:List PV} :PV.frzG k cs (.tup l)= .tup (l.map (PV.frzG1 k cs)):=(rfl)
@[go_sem] theorem K4p {k:Nat} {cs l m:List PV} {f:Fn} :PV.frzG k cs (.fn f l m)= .fn f (l.map (PV.frzG1 k cs)) (m.map (PV.frzG1 k cs)):=(rfl)
end Go.Pv
end
section
/-Powers,monomials,polynomials,fields:what is right,orders,degrees. No program in it. -/
namespace Go.Pv
theorem j0v (ks:List Int) (i:Nat) (h:i<ks.length):(ks.take (i+1)).sum=(ks.take i).sum+ks.getD i 0:=by
 rw [List.take_add_one,List.sum_append,List.getElem?_eq_getElem h]
 simp [List.getD_eq_getElem?_getD,h]
theorem w1j (ks:List Int) (h: ∀j,j<ks.length→0≤ks.getD j 0): ∀(d i:Nat),i+d=ks.length→(ks.take i).sum≤ks.sum
 | 0,i,e=>by rw [List.take_of_length_le (by omega)];exact Int.le_refl _
 | d+1,i,e=>by
  have h1:=w1j ks h d (i+1) (by omega)
  have h2:=j0v ks i (by omega)
  have h3:=h i (by omega)
  omega
def q0f (ks:List Int):Bool:=ks.all (fun k=>decide (0≤k))&&decide (ks.sum≤8)
theorem x0a (ks:List Int):q0f ks=true↔(∀j,j<ks.length→0≤ks.getD j 0)∧ks.sum≤8:=by
 unfold q0f
 simp only [Bool.and_eq_true,List.all_eq_true,decide_eq_true_eq]
 constructor
 · rintro⟨h1,h2⟩
   refine⟨fun j hj=> ?_,h2⟩
   have:ks.getD j 0=ks[j]:=by simp [List.getD_eq_getElem?_getD,hj]
   rw [this];exact h1 _ (List.getElem_mem hj)
 · rintro⟨h1,h2⟩
   refine⟨fun k hk=> ?_,h2⟩
   obtain⟨j,hj,e⟩:=List.mem_iff_getElem.1 hk
   have:=h1 j hj
   rw [show ks.getD j 0=ks[j] by simp [List.getD_eq_getElem?_getD,hj],e] at this
   exact this
theorem Z2z {ks:List Int} (h: ∀j,j<ks.length→0≤ks.getD j 0) (i:Nat) (hi:i≤ks.length):0≤(ks.take i).sum:=by
 induction i with
 | zero=>simp
 | succ i ih=>
  have h2:=j0v ks i (by omega)
  have h3:=h i (by omega)
  have:=ih (by omega)
  omega
theorem V0p {ks:List Int} (h:q0f ks=true) (i:Nat) (hi:i≤ks.length):0≤(ks.take i).sum∧(ks.take i).sum≤8:=by
 obtain⟨h1,h2⟩:=(x0a ks).1 h
 have h3:=Z2z h1 i hi
 have h4:=w1j ks h1 (ks.length-i) i (by omega)
 omega
theorem H1h {ks:List Int} (h:q0f ks=true) (i:Nat) (hi:i<ks.length):0≤ks.getD i 0∧ks.getD i 0≤8:=by
 obtain⟨h1,h2⟩:=(x0a ks).1 h
 have h3:=V0p h i (by omega)
 have h4:=V0p h (i+1) (by omega)
 have h5:=j0v ks i hi
 have:=h1 i hi
 omega
def J4b (m:Mn) (n:Int):Bool:=decide ((m.ks.length:Int)=n)&&q0f m.ks&&Q0h m.c
def ordK :List Int→List Int→Int
 | x::a,y::b=>if x>y then 1 else if x<y then -1 else ordK a b
 | _,_=>0
def okP (p:List Mn) (n:Int) (i:Nat):Bool:=
 J4b (p.getD i default) n&&decide ((p.getD i default).c.w.length≠0)&&(decide (i=0)||decide (ordK (p.getD (i-1) default).ks (p.getD i default).ks=1))
def H1c (p:List Mn) (n:Int):Bool:=decide (1≤n∧n≤4∧p.length≤24)&&(List.range p.length).all (okP p n)
def x0r (f:List (List Mn)):Bool:=decide (1≤f.length∧f.length≤4)&&f.all (fun p=>H1c p f.length)
theorem X2k (f:List (List Mn)):x0r f=true↔(1≤f.length∧f.length≤4)∧ ∀i,i<f.length→H1c (f.getD i []) f.length=true:=by
 unfold x0r
 simp only [Bool.and_eq_true,List.all_eq_true,decide_eq_true_eq]
 constructor
 · rintro⟨h1,h2⟩
   refine⟨h1,fun j hj=> ?_⟩
   have:f.getD j []=f[j]:=by simp [List.getD_eq_getElem?_getD,hj]
   rw [this];exact h2 _ (List.getElem_mem hj)
 · rintro⟨h1,h2⟩
   refine⟨h1,fun k hk=> ?_⟩
   obtain⟨j,hj,e⟩:=List.mem_iff_getElem.1 hk
   have:=h2 j hj
   rw [show f.getD j []=f[j] by simp [List.getD_eq_getElem?_getD,hj],e] at this
   exact this
def wK (ks:List Int):Prop:=ks.length≤100000000000∧ ∀i,i<ks.length→ -9223372036854775808≤ks.getD i 0∧ks.getD i 0≤9223372036854775807
def wMn (m:Mn):Prop:=wN m.c∧wK m.ks
def wP (p:List Mn):Prop:=p.length≤100000000000∧ ∀i,i<p.length→wMn (p.getD i default)
def wF (f:List (List Mn)):Prop:=f.length≤100000000000∧ ∀i,i<f.length→wP (f.getD i [])
end Go.Pv
end
section
/-An object of the store that is written no more:within the elements of slices,too,it becomes a plain slice. -/
namespace Go.Pv
def PV.frzD (k:Nat) (cs:List PV):PV→PV
 | .sl .no es=> .sl .no (es.map (PV.frzG k cs))
 | p=>p.frzG k cs
section
variable {w:World} {g g':Gh} {F:Fr} {T:List (Nat×Nat)} {k:Nat} {cs:List PV}
end
def PFS.freezeD (k:Nat) (s:PFS):PFS:=⟨s.pa.map (PV.frzD k (s.st.getD k [])),s.L.map fun l=>l.map (PV.frzD k (s.st.getD k [])),s.T,s.st.set k []⟩
@[go_sem] theorem Y3q {k:Nat} {pa:List PV} {L st:Q0d} {T:List (Nat×Nat)} :(PFS.mk pa L T st).freezeD k=⟨pa.map (PV.frzD k (st.getD k [])),L.map fun l=>l.map (PV.frzD k (st.getD k [])),T,st.set k []⟩:=(rfl)
@[go_sem] theorem z3d {k:Nat} {cs:List PV} :PV.frzD k cs .junk= .junk:=(rfl)
@[go_sem] theorem K4r {k:Nat} {cs:List PV} {v:Value} :PV.frzD k cs (.sc v)=(.sc v):=(rfl)
@[go_sem] theorem K4s {k:Nat} {cs:List PV} {i o:Nat} :PV.frzD k cs (.lp i o)=(.lp i o):=(rfl)
@[go_sem] theorem K4t {k:Nat} {cs:List PV} {i o:Nat} :PV.frzD k cs (.gp i o)=(.gp i o):=(rfl)
@[go_sem] theorem w3p {k m:Nat} {cs:List PV} {es:List PV} :PV.frzD k cs (.sl (.own m) es)= .sl (.own m) es:=(rfl)
@[go_sem] theorem w3q {k:Nat} {cs:List PV} {i o n:Nat} :PV.frzD k cs (.ms false i o n)=(.ms false i o n):=(rfl)
end Go.Pv
end
