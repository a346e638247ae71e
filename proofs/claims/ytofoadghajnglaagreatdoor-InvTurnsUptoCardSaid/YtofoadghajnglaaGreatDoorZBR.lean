/- Parts of the walk: N66, N67, N68, N69, N70, N71. -/
import Derived.Test.YtofoadghajnglaaGreatDoorZBQ
import Derived.Test.YtofoadghajnglaaGreatDoorZAD
import Derived.Test.YtofoadghajnglaaGreatDoorZAF
import Derived.Test.YtofoadghajnglaaGreatDoorZBE
import Derived.Test.YtofoadghajnglaaGreatDoorZAE
import Derived.Test.YtofoadghajnglaaGreatDoorZH
import Derived.Test.YtofoadghajnglaaGreatDoorZBD
import Derived.Test.YtofoadghajnglaaGreatDoorZAQ
set_option linter.unusedVariables false
set_option linter.unusedSimpArgs false
section
/-picard.Next,Sure,wider,next. -/
set_option maxRecDepth 100000
namespace Go.Pv
open Go.Proofs
def Y0h (f:List (List Mn)) (x a:List Ivl) (h:Nm) (p:Int):List Ivl×Int:=
 if x0r f=true∧rightB x=true∧rightB a=true∧x.length=f.length∧a.length=f.length∧Q0h h=true∧ ¬sgnN (ownN h)≤0∧Z0a p=true then
  if (J0n f a p).2=0 then
   if (U0m ⟨default,h⟩ (J0n f a p).1 p).2=0 then opB 0 x (U0m ⟨default,h⟩ (J0n f a p).1 p).1 p else([],(U0m ⟨default,h⟩ (J0n f a p).1 p).2)
  else([],(J0n f a p).2)
 else([],1)
def G3w (f:List (List Mn)) (x a:List Ivl) (h:Nm) (p:Int):Bool:=decide ((Y0h f x a h p).2=0)&&inB (Y0h f x a h p).1 a
def V1b (a b:List Ivl) (p:Int):List Ivl×Int:=if (v0g a b).2=0 then j0n (v0g a b).1 p else([],(v0g a b).2)
end Go.Pv
end
section
/-picard's tries. -/
set_option maxRecDepth 100000
namespace Go.Pv
open Go.Proofs
def w1d (f:List (List Mn)) (x:List Ivl) (h:Nm) (p:Int):Nat→Bool→List Ivl→List (List Ivl×List Ivl)
 | 0,_,_=> []
 | n+1,yl,a=>
  if (Y0h f x a h p).2=0 then
   (if yl=true then [(a,(Y0h f x a h p).1)] else [])++(if (V1b a (Y0h f x a h p).1 p).2=0 then w1d f x h p n true (V1b a (Y0h f x a h p).1 p).1 else [])
  else []
theorem Z1n (f:List (List Mn)) (x:List Ivl) (h:Nm) (p:Int) (n:Nat) (yl:Bool) (a:List Ivl):w1d f x h p (n+1) yl a=
 if (Y0h f x a h p).2=0 then
  (if yl=true then [(a,(Y0h f x a h p).1)] else [])++(if (V1b a (Y0h f x a h p).1 p).2=0 then w1d f x h p n true (V1b a (Y0h f x a h p).1 p).1 else [])
 else []:=rfl
end Go.Pv
end
section
/-picard.Box. -/
set_option maxRecDepth 100000
namespace Go.Pv
open Go.Proofs
def boxL (f:List (List Mn)) (x:List Ivl) (h:Nm) (p:Int):List (List Ivl×List Ivl)→List Ivl×Bool
 | []=>([],false)
 | e::l=>if inB e.2 e.1=true then(if G3w f x e.2 h p=true then e.2 else e.1,true) else boxL f x h p l
theorem H2m (f:List (List Mn)) (x:List Ivl) (h:Nm) (p:Int) (e:List Ivl×List Ivl) (l:List (List Ivl×List Ivl)):boxL f x h p (e::l)=if inB e.2 e.1=true then(if G3w f x e.2 h p=true then e.2 else e.1,true) else boxL f x h p l:=rfl
def boxP (f:List (List Mn)) (x:List Ivl) (h:Nm) (p:Int):List Ivl×Bool:=boxL f x h p (w1d f x h p 9 false x)
end Go.Pv
end
