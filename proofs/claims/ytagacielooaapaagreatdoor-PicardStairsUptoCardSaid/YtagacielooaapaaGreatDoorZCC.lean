/- Parts of the walk: M63, M64. -/
import Derived.Test.YtagacielooaapaaGreatDoorZBR
import Derived.Test.YtagacielooaapaaGreatDoorZAQ
import Derived.Test.YtagacielooaapaaGreatDoorZBE
import Derived.Test.YtagacielooaapaaGreatDoorZCB
set_option linter.unusedVariables false
set_option linter.unusedSimpArgs false
section
/-Products,monomials,polynomials,sums of series. No program in it. -/
namespace Go.Pv
def z3n (a b:List Ivl) (k:Nat) (p:Int):List Ivl×Int:=tabF (fun j=>U4k a b j p) 0 (k+1) []
def v2c (s x:List Ivl) (k:Nat) (p:Int):Nat→List Ivl×Int
 | 0=>(s,0)
 | n+1=>if (v2c s x k p n).2≠0 then([],(v2c s x k p n).2) else z3n (v2c s x k p n).1 x k p
def numS (c:Nm) (k:Nat):List Ivl:=⟨c,c⟩::List.replicate k default
def K2l (m:Mn) (xs:List (List Ivl)) (k:Nat) (p:Int):Nat→List Ivl×Int
 | 0=>(numS m.c k,0)
 | i+1=>if (K2l m xs k p i).2≠0 then([],(K2l m xs k p i).2) else v2c (K2l m xs k p i).1 (xs.getD i []) k p (m.ks.getD i 0).toNat
def ofS (q:List Mn) (xs:List (List Ivl)) (k:Nat) (p:Int):Nat→Ivl×Int
 | 0=>(default,0)
 | i+1=>if (ofS q xs k p i).2≠0 then(default,(ofS q xs k p i).2) else
  if (K2l (q.getD i default) xs k p xs.length).2≠0 then(default,(K2l (q.getD i default) xs k p xs.length).2) else
  opI 0 (ofS q xs k p i).1 ((K2l (q.getD i default) xs k p xs.length).1.getD k default) p
def z3e (k p:Int):Bool:=decide (0≤k)&&decide (k≤10)&&Z0l p
def V3e (q:List Mn) (xs:List (List Ivl)) (k:Int) (p:Int):Ivl×Int:=
 if z3e k p=true∧J0z q xs.length=true∧(xs.all fun x=>y2c x k.toNat)=true then ofS q xs k.toNat p q.length else(default,1)
def sumN (a:List Ivl) (h:Ivl) (p:Int):Nat→Ivl×Int
 | 0=>(a.getD (a.length-1) default,0)
 | i+1=>if (sumN a h p i).2≠0 then(default,(sumN a h p i).2) else
  if (opI 2 (sumN a h p i).1 h p).2≠0 then(default,(opI 2 (sumN a h p i).1 h p).2) else opI 0 (opI 2 (sumN a h p i).1 h p).1 (a.getD (a.length-2-i) default) p
def H4h (a:List Ivl) (h:Ivl) (p:Int):Ivl×Int:=
 if 1≤a.length∧a.length≤11∧y2c a (a.length-1)=true∧Q0h h=true∧Z0l p=true then sumN a h p (a.length-1) else(default,1)
end Go.Pv
end
section
/-A solution's coefficients. No program in it. -/
namespace Go.Pv
def ptW (n:Nat):Nm:=(numV (oddV false n 0)).1
def W4f (f:List (List Mn)) (xs:List (List Ivl)) (k:Nat) (p:Int) (i:Nat):Ivl×Int:=
 if (V3e (f.getD i []) xs k p).2≠0 then(default,(V3e (f.getD i []) xs k p).2) else divI (V3e (f.getD i []) xs k p).1 (ptW (k+1)) p
def V3i (f:List (List Mn)) (xs:List (List Ivl)) (k:Nat) (p:Int):List Ivl×Int:=tabF (W4f f xs k p) 0 f.length []
def z3f (xs:List (List Ivl)) (row:List Ivl):Nat→List (List Ivl)
 | 0=>xs
 | i+1=>(z3f xs row i).set i (xs.getD i []++ [row.getD i default])
def w1j (f:List (List Mn)) (x:List Ivl) (p:Int):Nat→List (List Ivl)×Int
 | 0=>(x.map fun a=> [a],0)
 | k+1=>if (w1j f x p k).2≠0 then([],(w1j f x p k).2) else
  if (V3i f (w1j f x p k).1 k p).2≠0 then([],(V3i f (w1j f x p k).1 k p).2) else(z3f (w1j f x p k).1 (V3i f (w1j f x p k).1 k p).1 f.length,0)
def q4t (f:List (List Mn)) (x:List Ivl) (order p:Int):List (List Ivl)×Int:=
 if V0z f=true∧rightB x=true∧x.length=f.length∧0≤order∧order≤10∧Z0l p=true then w1j f x p order.toNat else([],1)
end Go.Pv
end
