/- Parts of the walk: M62. -/
import Derived.Test.YtagacielooaapaaGreatDoorZY
set_option linter.unusedVariables false
set_option linter.unusedSimpArgs false
section
/-Quotients,with a bit more that says whether something was left. No program in it. -/
namespace Go.Pv
def W3p (a b:Nat) (p:Nat):Nat:=p+2+Q0i b-Q0i a
def V4t (a b:Nat) (p:Nat):Nat:=2*(a*2^W3p a b p/b)+if a*2^W3p a b p % b=0 then 0 else 1
def ratV (a b:Vl) (p:Nat):Vl:=if a.m=0 then⟨false,0,0⟩ else oddV (a.neg !=b.neg) (V4t a.m b.m p) (a.e-b.e-(W3p a.m b.m p:Int)-1)
def divI (a:Ivl) (c:Nm) (p:Int):Ivl×Int:=
 if Q0h a=true∧Z0l p=true then H0g (Q0y (ratV (ofN a.lo) (ofN c) p.toNat) p.toNat false) (Q0y (ratV (ofN a.hi) (ofN c) p.toNat) p.toNat true) else(default,1)
def divN (a b:Nm) (p:Int) (up:Bool):Nm×Int:=numV (Q0y (ratV (ofN a) (ofN b) p.toNat) p.toNat up)
end Go.Pv
end
