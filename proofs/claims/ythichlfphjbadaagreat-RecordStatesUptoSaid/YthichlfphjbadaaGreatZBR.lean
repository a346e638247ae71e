/- Parts of the walk: N66, N67, N68, N69, N70, N71. -/
import Derived.Test.YthichlfphjbadaaGreatZBQ
import Derived.Test.YthichlfphjbadaaGreatZAD
import Derived.Test.YthichlfphjbadaaGreatZAF
import Derived.Test.YthichlfphjbadaaGreatZBE
import Derived.Test.YthichlfphjbadaaGreatZAE
import Derived.Test.YthichlfphjbadaaGreatZH
set_option linter.unusedVariables false
set_option linter.unusedSimpArgs false
section
/-A coefficient of a product of series. -/
set_option maxRecDepth 100000
namespace Go.Pv
open Go.Proofs
def X2y (p:Int):List (Ivl×Ivl)→Bool→Ivl→Ivl×Int
 | [],_,s=>(s,0)
 | x::l,sm,s=>
  if (opI 2 x.1 x.2 p).2=0 then
   if sm=true then
    if (opI 0 s (opI 2 x.1 x.2 p).1 p).2=0 then X2y p l true (opI 0 s (opI 2 x.1 x.2 p).1 p).1 else(default,(opI 0 s (opI 2 x.1 x.2 p).1 p).2)
   else X2y p l true (opI 2 x.1 x.2 p).1
  else(default,(opI 2 x.1 x.2 p).2)
def z2q (a b:List Ivl) (k:Nat):List (Ivl×Ivl):=(List.range (k+1)).map fun i=>(a.getD i default,b.getD (k-i) default)
def G3p (a:List Ivl) (k:Nat):Bool:=decide (k<a.length)&&(a.take (k+1)).all Q0l
def W4g (a b:List Ivl) (k:Nat) (p:Int):Ivl×Int:=if Z0q p=true∧G3p a k=true∧G3p b k=true then X2y p (z2q a b k) false default else(default,1)
def V4p (a b:List Ivl) (k:Nat):List (List PV):=(List.range (k+1)).map fun i=> [.agg (encI (a.getD i default)),.agg (encI (b.getD (k-i) default))]
def W4f (a b:List Ivl) (k:Nat) (p:Int) (st:Q0g) (i:Nat) (st':Q0g):Prop:= ∃sm s,wI s∧X2y p ((z2q a b k).drop i) sm s=X2y p (z2q a b k) false default∧st'=st++ [[.sc (.int .i64 p)],encI default,[.sc (.int .i64 0)],encI s,[.sc (.bool sm)],[.sl .no (Q0t a)],[.sl .no (Q0t b)],[.sc (.int .i64 k)]]
def W4e (a b:List Ivl) (k:Nat) (p:Int) (st:Q0g) (c:Code) (st':Q0g):Prop:=c= .ret∧ ∃e X,X2y p (z2q a b k) false default=(default,e)∧st'=st++([.sc (.int .i64 p)]::encI default:: [.sc (.int .i64 e)]::X)
end Go.Pv
end
section
/-picard.Next,Sure,wider,next. -/
set_option maxRecDepth 100000
namespace Go.Pv
open Go.Proofs
def U0c (f:List (List Mn)) (x a:List Ivl) (h:Nm) (p:Int):List Ivl×Int:=
 if V0x f=true∧rightB x=true∧rightB a=true∧x.length=f.length∧a.length=f.length∧Q0f h=true∧ ¬sgnN (ownN h)≤0∧Z0q p=true then
  if (J0l f a p).2=0 then
   if (G0c ⟨default,h⟩ (J0l f a p).1 p).2=0 then opB 0 x (G0c ⟨default,h⟩ (J0l f a p).1 p).1 p else([],(G0c ⟨default,h⟩ (J0l f a p).1 p).2)
  else([],(J0l f a p).2)
 else([],1)
def Y3u (f:List (List Mn)) (x a:List Ivl) (h:Nm) (p:Int):Bool:=decide ((U0c f x a h p).2=0)&&inB (U0c f x a h p).1 a
def K1y (a b:List Ivl) (p:Int):List Ivl×Int:=if (q0h a b).2=0 then k0b (q0h a b).1 p else([],(q0h a b).2)
def Z4t (f:List (List Mn)) (x:List Ivl) (h:Nm) (p:Int):List PV:= [.sl .no (K0e f),.sl .no (Q0t x)]++encN h++ [.sc (.int .i64 p)]
end Go.Pv
end
section
/-picard's tries. -/
set_option maxRecDepth 100000
namespace Go.Pv
open Go.Proofs
def H1d (f:List (List Mn)) (x:List Ivl) (h:Nm) (p:Int):Nat→Bool→List Ivl→List (List Ivl×List Ivl)
 | 0,_,_=> []
 | n+1,yl,a=>
  if (U0c f x a h p).2=0 then
   (if yl=true then [(a,(U0c f x a h p).1)] else [])++(if (K1y a (U0c f x a h p).1 p).2=0 then H1d f x h p n true (K1y a (U0c f x a h p).1 p).1 else [])
  else []
theorem Z1i (f:List (List Mn)) (x:List Ivl) (h:Nm) (p:Int) (n:Nat) (yl:Bool) (a:List Ivl):H1d f x h p (n+1) yl a=
 if (U0c f x a h p).2=0 then
  (if yl=true then [(a,(U0c f x a h p).1)] else [])++(if (K1y a (U0c f x a h p).1 p).2=0 then H1d f x h p n true (K1y a (U0c f x a h p).1 p).1 else [])
 else []:=rfl
end Go.Pv
end
section
/-picard.Box. -/
set_option maxRecDepth 100000
namespace Go.Pv
open Go.Proofs
def boxL (f:List (List Mn)) (x:List Ivl) (h:Nm) (p:Int):List (List Ivl×List Ivl)→List Ivl×Bool
 | []=>([],false)
 | e::l=>if inB e.2 e.1=true then(if Y3u f x e.2 h p=true then e.2 else e.1,true) else boxL f x h p l
theorem G2j (f:List (List Mn)) (x:List Ivl) (h:Nm) (p:Int) (e:List Ivl×List Ivl) (l:List (List Ivl×List Ivl)):boxL f x h p (e::l)=if inB e.2 e.1=true then(if Y3u f x e.2 h p=true then e.2 else e.1,true) else boxL f x h p l:=rfl
def boxP (f:List (List Mn)) (x:List Ivl) (h:Nm) (p:Int):List Ivl×Bool:=boxL f x h p (H1d f x h p 9 false x)
def boxJ (f:List (List Mn)) (x:List Ivl) (h:Nm) (p:Int) (st:Q0g) (i:Nat) (st':Q0g):Prop:=boxL f x h p ((H1d f x h p 9 false x).drop i)=boxP f x h p∧
 st'=st++ [[.sl .no (K0e f)],[.sl .no (Q0t x)],encN h,[.sc (.int .i64 p)],[.sl .no (Q0t [])],[.sc (.bool false)],Z4t f x h p]
def boxX (f:List (List Mn)) (x:List Ivl) (h:Nm) (p:Int) (st:Q0g) (c:Code) (st':Q0g):Prop:=c= .exit 0∧ ∃o X,boxP f x h p=(o,true)∧
 st'=st++([.sl .no (K0e f)]:: [.sl .no (Q0t x)]::encN h:: [.sc (.int .i64 p)]:: [.sl .no (Q0t o)]:: [.sc (.bool true)]::X)
def K4h (l:List (List Ivl×List Ivl)):List (List PV):=l.map fun e=> [.sl .no (Q0t e.1),.sl .no (Q0t e.2)]
end Go.Pv
end
