/- Parts of the walk: PvAm, PvAn, M42, N46, N47, N48, PvBa, PvAo, PvAp. -/
import Derived.Test.YtofoadghajnglaaGreatDoorZAN
import Derived.Test.YtofoadghajnglaaGreatDoorZE
import Derived.Test.YtofoadghajnglaaGreatDoorZP
import Derived.Test.YtofoadghajnglaaGreatDoorZAH
import Derived.Test.YtofoadghajnglaaGreatDoorZF
import Derived.Test.YtofoadghajnglaaGreatDoorZH
set_option linter.unusedVariables false
set_option linter.unusedSimpArgs false
section
/-Monomials,polynomials,fields;terms. -/
namespace Go.Pv
structure Mn where
 c:Nm
 ks:List Int
 deriving DecidableEq
instance : Inhabited Mn:=⟨⟨default,[]⟩⟩
def V2w (x:Mn):List PV:= [.sc (.bool x.c.neg),.sc (.int .i64 x.c.exp),.sl .no (encW x.c.w),.sl .no (encZ x.ks)]
attribute [go_sem] V2w
def Y0h (l:List Mn):List PV:=l.map fun c=>(.agg (V2w c))
@[go_sem] theorem k2x (l:List Mn):(Y0h l).length=l.length:=by simp [Y0h]
@[go_sem] theorem W3t :Y0h []= []:=(rfl)
@[go_sem] theorem G3v (l:List Mn):(Y0h l).all (fun x=>x.cells.length==4)=true:=by simp [Y0h,PV.cells,V2w]
@[go_sem] theorem G3w (l:List Mn):(Y0h l).all (fun x=>(x.cells.length==4)&&x.cells.all PV.cellOK)=true:=by simp [Y0h,PV.cells,PV.cellOK,Value.oneCell',V2w]
@[go_sem] theorem J3d (l:List Mn) (n:Nat):(Y0h l).take n=Y0h (l.take n):=by simp [Y0h]
@[go_sem] theorem J3f (l:List Mn) (n:Nat):(Y0h l).drop n=Y0h (l.drop n):=by simp [Y0h]
@[go_sem] theorem W3v (l m:List Mn):Y0h l++Y0h m=Y0h (l++m):=by simp [Y0h]
@[go_sem] theorem J3e (l:List Mn) (c:Mn):Y0h l++ [.agg (V2w c)]=Y0h (l++ [c]):=by simp [Y0h]
@[go_sem] theorem W3u (l:List Mn) (i:Nat) (cs:List PV):(Y0h l).map (PV.frz i cs)=Y0h l:=by
 simp only [Y0h,List.map_map]
 exact List.map_congr_left fun a _=>rfl
structure Tm where
 v:Vl
 ks:List Int
instance : Inhabited Tm:=⟨⟨⟨false,0,0⟩,[]⟩⟩
def x3o (x:Tm):List PV:= [.sc (.bool x.v.neg),.sl .no (encD (Q0c x.v.m)),.sc (.int .i64 x.v.e),.sl .no (encZ x.ks)]
attribute [go_sem] x3o
def Y0i (l:List (List Mn)):List PV:=l.map fun c=>(.sl .no (Y0h c))
@[go_sem] theorem k2y (l:List (List Mn)):(Y0i l).length=l.length:=by simp [Y0i]
@[go_sem] theorem Y3f :Y0i []= []:=(rfl)
@[go_sem] theorem H3d (l:List (List Mn)):(Y0i l).all (fun x=>x.cells.length==1)=true:=by simp [Y0i,PV.cells]
@[go_sem] theorem H3e (l:List (List Mn)):(Y0i l).all (fun x=>(x.cells.length==1)&&x.cells.all PV.cellOK)=true:=by simp [Y0i,PV.cells,PV.cellOK,Value.oneCell']
@[go_sem] theorem J3m (l:List (List Mn)) (n:Nat):(Y0i l).take n=Y0i (l.take n):=by simp [Y0i]
@[go_sem] theorem J3o (l:List (List Mn)) (n:Nat):(Y0i l).drop n=Y0i (l.drop n):=by simp [Y0i]
@[go_sem] theorem Y3h (l m:List (List Mn)):Y0i l++Y0i m=Y0i (l++m):=by simp [Y0i]
@[go_sem] theorem J3n (l:List (List Mn)) (c:(List Mn)):Y0i l++ [.sl .no (Y0h c)]=Y0i (l++ [c]):=by simp [Y0i]
@[go_sem] theorem Y3g (l:List (List Mn)) (i:Nat) (cs:List PV):(Y0i l).map (PV.frz i cs)=Y0i l:=by
 simp only [Y0i,List.map_map]
 exact List.map_congr_left fun a _=>rfl
end Go.Pv
end
section
/-An object of the store that is written no more:in all slots and boxes it becomes a plain slice. -/
namespace Go.Pv
section
variable {w:World} {g g':Gh} {F:Fr} {T:List (Nat×Nat)} {k:Nat} {cs:List PV}
end
end Go.Pv
end
section
/-Powers,monomials,polynomials,fields:what is right,orders,degrees. No program in it. -/
namespace Go.Pv
def X2t (ks:List Int):Bool:=ks.all (fun k=>decide (0≤k))&&decide (ks.sum≤8)
def z3q (m:Mn) (n:Int):Bool:=decide ((m.ks.length:Int)=n)&&X2t m.ks&&Q0j m.c
def ordK :List Int→List Int→Int
 | x::a,y::b=>if x>y then 1 else if x<y then -1 else ordK a b
 | _,_=>0
def okP (p:List Mn) (n:Int) (i:Nat):Bool:=
 z3q (p.getD i default) n&&decide ((p.getD i default).c.w.length≠0)&&(decide (i=0)||decide (ordK (p.getD (i-1) default).ks (p.getD i default).ks=1))
def k1m (p:List Mn) (n:Int):Bool:=decide (1≤n∧n≤4∧p.length≤24)&&(List.range p.length).all (okP p n)
def G1e (f:List (List Mn)):Bool:=decide (1≤f.length∧f.length≤4)&&f.all (fun p=>k1m p f.length)
end Go.Pv
end
section
/-An object of the store that is written no more:within the elements of slices,too,it becomes a plain slice. -/
namespace Go.Pv
section
variable {w:World} {g g':Gh} {F:Fr} {T:List (Nat×Nat)} {k:Nat} {cs:List PV}
end
end Go.Pv
end
section
/-Long drawn statements:the same check of a plan,out of a list of the operations' few facts,that the kernel reckons fast. -/
namespace Go.Pv
def amL :List Edge→Nat
 | []=>0
 | e::r=>if Region.binds .any e then amL r|||(1<<<e.on) else amL r
structure OpSm where
 j:Nat
 am:Nat
 ld:Bool
 ef:Bool
 deriving DecidableEq
def sumL :Nat→List Oper→List OpSm
 | _,[]=> []
 | j,o::r=>⟨j,amL o.after.toList,v0j o.op,!K0k o.op⟩::sumL (j+1) r
section
variable {ops:Array Oper} {S:List OpSm} (hS:sumL 0 ops.toList=S) (hn:(S.all fun x=>decide (x.am<2^ops.size))=true)
include hS
end
end Go.Pv
end
section
/-Slices of the frame's own that are written and appended to:their room is known. -/
namespace Go.Pv
section
variable {w w':World} {g g':Gh} {F F':Fr} {T:List (Nat×Nat)} {i:Nat}
end
theorem j0n (n j:Nat):(List.replicate n PV.junk).getD j .junk= .junk:=by
 rw [List.getD_eq_getElem?_getD,List.getElem?_replicate];split<;>rfl
section
variable {P:Program} {s:PFS} {K:PFS→Prop} {d:Option Tmp} {ty:TypeId} {pos:String} {af:Array Edge}
@[go_sem] theorem H3q {i n c:Nat} :(PV.mr i n c).cells= [.mr i n c]:=(rfl)
end
theorem J1b (xs ys:List PV):flat (xs++ys)=flat xs++flat ys:=by simp [flat]
end Go.Pv
end
