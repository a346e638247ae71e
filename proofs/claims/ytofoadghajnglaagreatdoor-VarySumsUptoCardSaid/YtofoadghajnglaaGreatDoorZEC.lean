/- Parts of the walk: M78, PvBb. -/
import Derived.Test.YtofoadghajnglaaGreatDoorZEA
import Derived.Test.YtofoadghajnglaaGreatDoorZAL
import Derived.Test.YtofoadghajnglaaGreatDoorZAR
import Derived.Test.YtofoadghajnglaaGreatDoorZBE
import Derived.Test.YtofoadghajnglaaGreatDoorZBV
import Derived.Test.YtofoadghajnglaaGreatDoorZM
import Derived.Test.YtofoadghajnglaaGreatDoorZBN
set_option linter.unusedVariables false
set_option linter.unusedSimpArgs false
section
/-Problems,and their states:what the document's Begin and the drawn states are. No program in it. -/
namespace Go.Pv
structure Pb where
 fld:List (List Mn)
 box:List Ivl
 until':Nm
 most:Nm
 least:Nm
 prec:Int
 order:Int
 budget:Int
instance : Inhabited Pb:=⟨⟨[],[],default,default,default,0,0,0⟩⟩
end Go.Pv
end
section
/-Frames,states,problems as plain values. -/
namespace Go.Pv
open Go.Proofs
def y3c (f:Fm):List PV:= [.sl .no (J0v f.m),.sl .no (encQ f.a),.sl .no (Q0s f.r)]
attribute [go_sem] y3c
def w3v (s:Sx):List PV:= [.sc (.int .i64 s.idx),.sc (.bool s.t.neg),.sc (.int .i64 s.t.exp),.sl .no (encW s.t.w),.sc (.bool s.h.neg),.sc (.int .i64 s.h.exp),.sl .no (encW s.h.w),.sl .no (J0v s.f.m),.sl .no (encQ s.f.a),.sl .no (Q0s s.f.r)]
attribute [go_sem] w3v
def w3y (p:Pb):List PV:= [.sl .no (X0d p.fld),.sl .no (Q0s p.box),.sc (.bool p.until'.neg),.sc (.int .i64 p.until'.exp),.sl .no (encW p.until'.w),.sc (.bool p.most.neg),.sc (.int .i64 p.most.exp),.sl .no (encW p.most.w),
 .sc (.bool p.least.neg),.sc (.int .i64 p.least.exp),.sl .no (encW p.least.w),.sc (.int .i64 p.prec),.sc (.int .i64 p.order),.sc (.int .i64 p.budget)]
attribute [go_sem] w3y
end Go.Pv
end
