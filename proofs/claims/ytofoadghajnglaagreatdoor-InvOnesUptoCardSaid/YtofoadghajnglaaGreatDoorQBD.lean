/- Parts of the walk: PvAm, PvAn, M42, N46, N47, N48, PvBa. -/
import Derived.Test.YtofoadghajnglaaGreatDoorQAN
import Derived.Test.YtofoadghajnglaaGreatDoorQE
import Derived.Test.YtofoadghajnglaaGreatDoorQP
import Derived.Test.YtofoadghajnglaaGreatDoorQAH
import Derived.Test.YtofoadghajnglaaGreatDoorQF
import Derived.Test.YtofoadghajnglaaGreatDoorQH
set_option linter.unusedVariables false
set_option linter.unusedSimpArgs false
section
/-Monomials,polynomials,fields;terms. -/
namespace Go.Pv
structure Mn where
 c:Nm
 ks:List Int
 deriving DecidableEq
instance : Inhabited Mn:=⟨⟨default,[]⟩⟩
def Q2a (x:Mn):List PV:= [.sc (.bool x.c.neg),.sc (.int .i64 x.c.exp),.sl .no (encW x.c.w),.sl .no (encZ x.ks)]
attribute [go_sem] Q2a
def V0f (l:List Mn):List PV:=l.map fun c=>(.agg (Q2a c))
@[go_sem] theorem G2l (l:List Mn):(V0f l).length=l.length:=by simp [V0f]
@[go_sem] theorem Z3e :V0f []= []:=(rfl)
@[go_sem] theorem W3c (l:List Mn):(V0f l).all (fun x=>x.cells.length==4)=true:=by simp [V0f,PV.cells,Q2a]
@[go_sem] theorem W3d (l:List Mn):(V0f l).all (fun x=>(x.cells.length==4)&&x.cells.all PV.cellOK)=true:=by simp [V0f,PV.cells,PV.cellOK,Value.oneCell',Q2a]
@[go_sem] theorem v2f (l:List Mn) (n:Nat):(V0f l).take n=V0f (l.take n):=by simp [V0f]
@[go_sem] theorem v2h (l:List Mn) (n:Nat):(V0f l).drop n=V0f (l.drop n):=by simp [V0f]
@[go_sem] theorem Z3g (l m:List Mn):V0f l++V0f m=V0f (l++m):=by simp [V0f]
@[go_sem] theorem v2g (l:List Mn) (c:Mn):V0f l++ [.agg (Q2a c)]=V0f (l++ [c]):=by simp [V0f]
@[go_sem] theorem Z3f (l:List Mn) (i:Nat) (cs:List PV):(V0f l).map (PV.frz i cs)=V0f l:=by
 simp only [V0f,List.map_map]
 exact List.map_congr_left fun a _=>rfl
structure Tm where
 v:Vl
 ks:List Int
instance : Inhabited Tm:=⟨⟨⟨false,0,0⟩,[]⟩⟩
def y1z (x:Tm):List PV:= [.sc (.bool x.v.neg),.sl .no (encD (H1x x.v.m)),.sc (.int .i64 x.v.e),.sl .no (encZ x.ks)]
attribute [go_sem] y1z
def V0v (l:List Tm):List PV:=l.map fun c=>(.agg (y1z c))
@[go_sem] theorem G2j (l:List Tm):(V0v l).length=l.length:=by simp [V0v]
@[go_sem] theorem Q3v :V0v []= []:=(rfl)
@[go_sem] theorem V3w (l:List Tm):(V0v l).all (fun x=>x.cells.length==4)=true:=by simp [V0v,PV.cells,y1z]
@[go_sem] theorem V3x (l:List Tm):(V0v l).all (fun x=>(x.cells.length==4)&&x.cells.all PV.cellOK)=true:=by simp [V0v,PV.cells,PV.cellOK,Value.oneCell',y1z]
@[go_sem] theorem k2z (l:List Tm) (n:Nat):(V0v l).take n=V0v (l.take n):=by simp [V0v]
@[go_sem] theorem v2b (l:List Tm) (n:Nat):(V0v l).drop n=V0v (l.drop n):=by simp [V0v]
@[go_sem] theorem Q3x (l m:List Tm):V0v l++V0v m=V0v (l++m):=by simp [V0v]
@[go_sem] theorem v2a (l:List Tm) (c:Tm):V0v l++ [.agg (y1z c)]=V0v (l++ [c]):=by simp [V0v]
@[go_sem] theorem Q3w (l:List Tm) (i:Nat) (cs:List PV):(V0v l).map (PV.frz i cs)=V0v l:=by
 simp only [V0v,List.map_map]
 exact List.map_congr_left fun a _=>rfl
def V0c (l:List (List Mn)):List PV:=l.map fun c=>(.sl .no (V0f c))
@[go_sem] theorem G2n (l:List (List Mn)):(V0c l).length=l.length:=by simp [V0c]
@[go_sem] theorem Z3t :V0c []= []:=(rfl)
@[go_sem] theorem W3m (l:List (List Mn)):(V0c l).all (fun x=>x.cells.length==1)=true:=by simp [V0c,PV.cells]
@[go_sem] theorem W3n (l:List (List Mn)):(V0c l).all (fun x=>(x.cells.length==1)&&x.cells.all PV.cellOK)=true:=by simp [V0c,PV.cells,PV.cellOK,Value.oneCell']
@[go_sem] theorem v2r (l:List (List Mn)) (n:Nat):(V0c l).take n=V0c (l.take n):=by simp [V0c]
@[go_sem] theorem v2t (l:List (List Mn)) (n:Nat):(V0c l).drop n=V0c (l.drop n):=by simp [V0c]
@[go_sem] theorem Z3v (l m:List (List Mn)):V0c l++V0c m=V0c (l++m):=by simp [V0c]
@[go_sem] theorem v2s (l:List (List Mn)) (c:(List Mn)):V0c l++ [.sl .no (V0f c)]=V0c (l++ [c]):=by simp [V0c]
@[go_sem] theorem Z3u (l:List (List Mn)) (i:Nat) (cs:List PV):(V0c l).map (PV.frz i cs)=V0c l:=by
 simp only [V0c,List.map_map]
 exact List.map_congr_left fun a _=>rfl
def V0y (l:List (List (List Mn))):List PV:=l.map fun c=>(.sl .no (V0c c))
@[go_sem] theorem G2m (l:List (List (List Mn))):(V0y l).length=l.length:=by simp [V0y]
@[go_sem] theorem Z3n :V0y []= []:=(rfl)
@[go_sem] theorem W3i (l:List (List (List Mn))):(V0y l).all (fun x=>x.cells.length==1)=true:=by simp [V0y,PV.cells]
@[go_sem] theorem W3j (l:List (List (List Mn))):(V0y l).all (fun x=>(x.cells.length==1)&&x.cells.all PV.cellOK)=true:=by simp [V0y,PV.cells,PV.cellOK,Value.oneCell']
@[go_sem] theorem v2l (l:List (List (List Mn))) (n:Nat):(V0y l).take n=V0y (l.take n):=by simp [V0y]
@[go_sem] theorem v2n (l:List (List (List Mn))) (n:Nat):(V0y l).drop n=V0y (l.drop n):=by simp [V0y]
@[go_sem] theorem Z3p (l m:List (List (List Mn))):V0y l++V0y m=V0y (l++m):=by simp [V0y]
@[go_sem] theorem v2m (l:List (List (List Mn))) (c:(List (List Mn))):V0y l++ [.sl .no (V0c c)]=V0y (l++ [c]):=by simp [V0y]
@[go_sem] theorem Z3o (l:List (List (List Mn))) (i:Nat) (cs:List PV):(V0y l).map (PV.frz i cs)=V0y l:=by
 simp only [V0y,List.map_map]
 exact List.map_congr_left fun a _=>rfl
end Go.Pv
end
section
/-An object of the store that is written no more:in all slots and boxes it becomes a plain slice. -/
namespace Go.Pv
def PV.frzG1 (k:Nat) (cs:List PV):PV→PV
 | .ms true k' off len=>if k'=k∧off+len≤cs.length then .sl .no ((cs.drop off).take len) else .ms true k' off len
 | p=>p
def PV.frzG (k:Nat) (cs:List PV):PV→PV
 | .agg l=> .agg (l.map (PV.frzG1 k cs))
 | .tup l=> .tup (l.map (PV.frzG1 k cs))
 | .fn f l m=> .fn f (l.map (PV.frzG1 k cs)) (m.map (PV.frzG1 k cs))
 | p=>p.frzG1 k cs
structure SolidG (w:World) (g':Gh) (k:Nat) (cs:List PV):Prop where
 sl: ∀v off len,k<g'.n→Rep w g' v (.ms true k off len)→off+len≤cs.length→Rep w g' v (.sl .no ((cs.drop off).take len))
section
variable {w:World} {g g':Gh} {F:Fr} {T:List (Nat×Nat)} {k:Nat} {cs:List PV}
end
def PFS.freezeA (k:Nat) (s:PFS):PFS:=⟨s.pa.map (PV.frzG k (s.st.getD k [])),s.L.map fun l=>l.map (PV.frzG k (s.st.getD k [])),s.T,s.st.set k []⟩
@[go_sem] theorem k2t {k:Nat} {pa:List PV} {L st:Q0c} {T:List (Nat×Nat)} :(PFS.mk pa L T st).freezeA k=⟨pa.map (PV.frzG k (st.getD k [])),L.map fun l=>l.map (PV.frzG k (st.getD k [])),T,st.set k []⟩:=(rfl)
@[go_sem] theorem Q3c {k:Nat} {cs:List PV} :PV.frzG k cs .junk= .junk:=(rfl)
@[go_sem] theorem H3u {k:Nat} {cs:List PV} {v:Value} :PV.frzG k cs (.sc v)=(.sc v):=(rfl)
@[go_sem] theorem H3w {k:Nat} {cs:List PV} {i o:Nat} :PV.frzG k cs (.lp i o)=(.lp i o):=(rfl)
@[go_sem] theorem H3y {k:Nat} {cs:List PV} {i o:Nat} :PV.frzG k cs (.gp i o)=(.gp i o):=(rfl)
@[go_sem] theorem H3t {k:Nat} {cs:List PV} {t:Tag} {es:List PV} :PV.frzG k cs (.sl t es)=(.sl t es):=(rfl)
@[go_sem] theorem q3a {k:Nat} {cs:List PV} {es:List PV} {o:Nat} :PV.frzG k cs (.ep es o)=(.ep es o):=(rfl)
@[go_sem] theorem K3z {k:Nat} {cs:List PV} {i o n:Nat} :PV.frzG k cs (.ms false i o n)=(.ms false i o n):=(rfl)
@[go_sem] theorem H3v {k:Nat} {cs:List PV} {i n c:Nat} :PV.frzG k cs (.mr i n c)=(.mr i n c):=(rfl)
@[go_sem] theorem V3d {k:Nat} {cs:List PV} {i n c:Nat} :PV.frzG1 k cs (.mr i n c)=(.mr i n c):=(rfl)
@[go_sem] theorem K3y {k:Nat} {cs:List PV} {es:List PV} {n:Nat} :PV.frzG k cs (.pre es n)=(.pre es n):=(rfl)
@[go_sem] theorem k2o {k:Nat} {cs:List PV} :PV.frzG1 k cs .junk= .junk:=(rfl)
@[go_sem] theorem V3c {k:Nat} {cs:List PV} {v:Value} :PV.frzG1 k cs (.sc v)=(.sc v):=(rfl)
@[go_sem] theorem V3e {k:Nat} {cs:List PV} {i o:Nat} :PV.frzG1 k cs (.lp i o)=(.lp i o):=(rfl)
@[go_sem] theorem V3g {k:Nat} {cs:List PV} {i o:Nat} :PV.frzG1 k cs (.gp i o)=(.gp i o):=(rfl)
@[go_sem] theorem V3b {k:Nat} {cs:List PV} {t:Tag} {es:List PV} :PV.frzG1 k cs (.sl t es)=(.sl t es):=(rfl)
@[go_sem] theorem V3h {k:Nat} {cs:List PV} {es:List PV} {o:Nat} :PV.frzG1 k cs (.ep es o)=(.ep es o):=(rfl)
@[go_sem] theorem Q3e {k:Nat} {cs:List PV} {i o n:Nat} :PV.frzG1 k cs (.ms false i o n)=(.ms false i o n):=(rfl)
@[go_sem] theorem Q3d {k:Nat} {cs:List PV} {es:List PV} {n:Nat} :PV.frzG1 k cs (.pre es n)=(.pre es n):=(rfl)
@[go_sem] theorem V3a {k:Nat} {cs l:List PV} :PV.frzG k cs (.agg l)= .agg (l.map (PV.frzG1 k cs)):=(rfl)
@[go_sem] theorem K3x {k:Nat} {cs l:List PV} :PV.frzG k cs (.tup l)= .tup (l.map (PV.frzG1 k cs)):=(rfl)
@[go_sem] theorem H3z {k:Nat} {cs l m:List PV} {f:Fn} :PV.frzG k cs (.fn f l m)= .fn f (l.map (PV.frzG1 k cs)) (m.map (PV.frzG1 k cs)):=(rfl)
end Go.Pv
end
section
/-Powers,monomials,polynomials,fields:what is right,orders,degrees. No program in it. -/
namespace Go.Pv
def w2u (ks:List Int):Bool:=ks.all (fun k=>decide (0≤k))&&decide (ks.sum≤8)
def G3n (m:Mn) (n:Int):Bool:=decide ((m.ks.length:Int)=n)&&w2u m.ks&&Q0i m.c
def ordK :List Int→List Int→Int
 | x::a,y::b=>if x>y then 1 else if x<y then -1 else ordK a b
 | _,_=>0
def okP (p:List Mn) (n:Int) (i:Nat):Bool:=
 G3n (p.getD i default) n&&decide ((p.getD i default).c.w.length≠0)&&(decide (i=0)||decide (ordK (p.getD (i-1) default).ks (p.getD i default).ks=1))
def U2f (p:List Mn) (n:Int):Bool:=decide (1≤n∧n≤4∧p.length≤24)&&(List.range p.length).all (okP p n)
def J1i (f:List (List Mn)):Bool:=decide (1≤f.length∧f.length≤4)&&f.all (fun p=>U2f p f.length)
def wK (ks:List Int):Prop:=ks.length≤100000000000∧ ∀i,i<ks.length→ -9223372036854775808≤ks.getD i 0∧ks.getD i 0≤9223372036854775807
def wMn (m:Mn):Prop:=wN m.c∧wK m.ks
def wP (p:List Mn):Prop:=p.length≤100000000000∧ ∀i,i<p.length→wMn (p.getD i default)
def wF (f:List (List Mn)):Prop:=f.length≤100000000000∧ ∀i,i<f.length→wP (f.getD i [])
end Go.Pv
end
section
/-An object of the store that is written no more:within the elements of slices,too,it becomes a plain slice. -/
namespace Go.Pv
def PV.frzD (k:Nat) (cs:List PV):PV→PV
 | .sl .no es=> .sl .no (es.map (PV.frzG k cs))
 | p=>p.frzG k cs
section
variable {w:World} {g g':Gh} {F:Fr} {T:List (Nat×Nat)} {k:Nat} {cs:List PV}
end
def PFS.freezeD (k:Nat) (s:PFS):PFS:=⟨s.pa.map (PV.frzD k (s.st.getD k [])),s.L.map fun l=>l.map (PV.frzD k (s.st.getD k [])),s.T,s.st.set k []⟩
@[go_sem] theorem k2s {k:Nat} {pa:List PV} {L st:Q0c} {T:List (Nat×Nat)} :(PFS.mk pa L T st).freezeD k=⟨pa.map (PV.frzD k (st.getD k [])),L.map fun l=>l.map (PV.frzD k (st.getD k [])),T,st.set k []⟩:=(rfl)
@[go_sem] theorem Q3f {k:Nat} {cs:List PV} :PV.frzD k cs .junk= .junk:=(rfl)
@[go_sem] theorem q3b {k:Nat} {cs:List PV} {v:Value} :PV.frzD k cs (.sc v)=(.sc v):=(rfl)
@[go_sem] theorem q3c {k:Nat} {cs:List PV} {i o:Nat} :PV.frzD k cs (.lp i o)=(.lp i o):=(rfl)
@[go_sem] theorem q3d {k:Nat} {cs:List PV} {i o:Nat} :PV.frzD k cs (.gp i o)=(.gp i o):=(rfl)
@[go_sem] theorem V3i {k m:Nat} {cs:List PV} {es:List PV} :PV.frzD k cs (.sl (.own m) es)= .sl (.own m) es:=(rfl)
@[go_sem] theorem V3j {k:Nat} {cs:List PV} {i o n:Nat} :PV.frzD k cs (.ms false i o n)=(.ms false i o n):=(rfl)
end Go.Pv
end
