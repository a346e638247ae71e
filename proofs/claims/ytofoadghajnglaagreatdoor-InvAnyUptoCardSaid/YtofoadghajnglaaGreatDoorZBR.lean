/- Parts of the walk: N66, N67, N68, N69, N70, N71, M59, M52. -/
import Derived.Test.YtofoadghajnglaaGreatDoorZBQ
import Derived.Test.YtofoadghajnglaaGreatDoorZAD
import Derived.Test.YtofoadghajnglaaGreatDoorZAH
import Derived.Test.YtofoadghajnglaaGreatDoorZBE
import Derived.Test.YtofoadghajnglaaGreatDoorZAE
import Derived.Test.YtofoadghajnglaaGreatDoorZH
import Derived.Test.YtofoadghajnglaaGreatDoorZBD
import Derived.Test.YtofoadghajnglaaGreatDoorZAQ
set_option linter.unusedVariables false
set_option linter.unusedSimpArgs false
section
/-picard.Next,Sure,wider,next. -/
set_option maxRecDepth 100000
namespace Go.Pv
open Go.Proofs
def G2r (f:List (List Mn)) (x a:List Ivl) (h:Nm) (p:Int):List Ivl×Int:=
 if U1p f=true∧rightB x=true∧rightB a=true∧x.length=f.length∧a.length=f.length∧Q0h h=true∧ ¬sgnN (ownN h)≤0∧Z0n p=true then
  if (W0b f a p).2=0 then
   if (x0g ⟨default,h⟩ (W0b f a p).1 p).2=0 then opB 0 x (x0g ⟨default,h⟩ (W0b f a p).1 p).1 p else([],(x0g ⟨default,h⟩ (W0b f a p).1 p).2)
  else([],(W0b f a p).2)
 else([],1)
end Go.Pv
end
section
/-Boxes taken apart and put together;where solutions go. No program in it. -/
namespace Go.Pv
theorem J2c {k:Nat} {a b:List Ivl} {p:Int} (h:(opB k a b p).2=0):(rightB a=true∧rightB b=true∧a.length=b.length∧Z0n p=true)∧(opB k a b p).1.length=a.length∧
 (∀j,j<a.length→(opI k (a.getD j default) (b.getD j default) p).2=0)∧ ∀j,j<a.length→(opB k a b p).1.getD j default=(opI k (a.getD j default) (b.getD j default) p).1:=by
 unfold opB at h⊢
 by_cases c:rightB a=true∧rightB b=true∧a.length=b.length∧Z0n p=true
 · rw [if_pos c,G0y] at h
   rw [if_pos c,G0y]
   exact⟨c,j0y h⟩
 · rw [if_neg c] at h;exact absurd h (by decide)
theorem w1m {x:Ivl} {b:List Ivl} {p:Int} (h:(x0g x b p).2=0):(rightB b=true∧Q0v x=true∧Z0n p=true)∧(x0g x b p).1.length=b.length∧
 (∀j,j<b.length→(opI 2 x (b.getD j default) p).2=0)∧ ∀j,j<b.length→(x0g x b p).1.getD j default=(opI 2 x (b.getD j default) p).1:=by
 unfold x0g at h⊢
 by_cases c:rightB b=true∧Q0v x=true∧Z0n p=true
 · rw [if_pos c,G0y] at h
   rw [if_pos c,G0y]
   exact⟨c,j0y h⟩
 · rw [if_neg c] at h;exact absurd h (by decide)
theorem U2f {h:Nm} (hr:Q0h h=true):(¬sgnN (ownN h)≤0)↔0<qN h:=by
 unfold ownN
 rw [if_pos hr,←v2t];omega
structure NextOK (f:List (List Mn)) (x a:List Ivl) (h:Nm) (p:Int):Prop where
 rf:U1p f=true
 rx:rightB x=true
 ra:rightB a=true
 lx:x.length=f.length
 la:a.length=f.length
 rh:Q0h h=true
 ph:0<qN h
 pp:Z0n p=true
 e1:(W0b f a p).2=0
 e2:(x0g ⟨default,h⟩ (W0b f a p).1 p).2=0
 e3:(opB 0 x (x0g ⟨default,h⟩ (W0b f a p).1 p).1 p).2=0
theorem NextOK.val {f:List (List Mn)} {x a:List Ivl} {h:Nm} {p:Int} (n:NextOK f x a h p):(G2r f x a h p).1=(opB 0 x (x0g ⟨default,h⟩ (W0b f a p).1 p).1 p).1:=by
 unfold G2r
 rw [if_pos ⟨n.rf,n.rx,n.ra,n.lx,n.la,n.rh,(U2f n.rh).2 n.ph,n.pp⟩,if_pos n.e1,if_pos n.e2]
theorem z1e {f:List (List Mn)} {a:List Ivl} {p:Int} (h:(W0b f a p).2=0):(U1p f=true∧a.length=f.length)∧(W0b f a p).1.length=f.length∧ ∀j,j<f.length→(W0b f a p).1.getD j default=(x0i (f.getD j []) a p (f.getD j []).length).1∧(x0i (f.getD j []) a p (f.getD j []).length).2=0:=by
 unfold W0b at h⊢
 by_cases c:U1p f=true∧a.length=f.length
 · rw [if_pos c] at h⊢
   obtain⟨g1,g2,g3⟩:=j0y h
   refine⟨c,g1,fun j hj=> ?_⟩
   have e:=g2 j hj
   rw [g3 j hj]
   show(k1h (f.getD j []) a p).1=_∧_
   replace e:(k1h (f.getD j []) a p).2=0:=e
   unfold k1h at e⊢
   split at e
   · rename_i d;rw [if_pos d];exact⟨rfl,e⟩
   · exact absurd e (by decide)
 · rw [if_neg c] at h;exact absurd h (by decide)
structure NextAt (f:List (List Mn)) (x a:List Ivl) (h:Nm) (p:Int) (j:Nat):Prop where
 r0:(x0i (f.getD j []) a p (f.getD j []).length).2=0
 t0:(opI 2 ⟨default,h⟩ (x0i (f.getD j []) a p (f.getD j []).length).1 p).2=0
 s0:(opI 0 (x.getD j default) (opI 2 ⟨default,h⟩ (x0i (f.getD j []) a p (f.getD j []).length).1 p).1 p).2=0
 val:(G2r f x a h p).1.getD j default=(opI 0 (x.getD j default) (opI 2 ⟨default,h⟩ (x0i (f.getD j []) a p (f.getD j []).length).1 p).1 p).1
theorem NextOK.at {f:List (List Mn)} {x a:List Ivl} {h:Nm} {p:Int} (n:NextOK f x a h p) {j:Nat} (hj:j<f.length):NextAt f x a h p j:=by
 obtain⟨_,r1,r2⟩:=z1e n.e1
 obtain⟨r3,r4⟩:=r2 j hj
 obtain⟨_,t1,t2,t3⟩:=w1m n.e2
 obtain⟨_,s1,s2,s3⟩:=J2c n.e3
 have t2:=t2 j (by omega)
 have t3:=t3 j (by omega)
 have s2:=s2 j (by rw [n.lx];exact hj)
 have s3:=s3 j (by rw [n.lx];exact hj)
 rw [r3] at t2 t3
 rw [t3] at s2 s3
 exact⟨r4,t2,s2,by rw [n.val];exact s3⟩
theorem y1m {k:Nat} {a b:List Ivl} {p:Int} (h:(opB k a b p).2=0):rightB (opB k a b p).1=true:=by
 obtain⟨c,l,_,v⟩:=J2c h
 have:=z0s c.1
 exact Z1f (fun j hj=>by rw [v j (by omega)];exact G0q _ _ _ _) (by omega) (by omega)
theorem NextOK.rightB {f:List (List Mn)} {x a:List Ivl} {h:Nm} {p:Int} (n:NextOK f x a h p):Go.Pv.rightB (G2r f x a h p).1=true:=by
 rw [n.val];exact y1m n.e3
theorem y1f {k:Nat} {a b:Nm} {p:Int} {up:Bool} (h:(Q0r k a b p up).2=0):Q0h a=true∧Q0h b=true∧Z0n p=true:=by
 unfold Q0r at h
 split at h
 · assumption
 · exact absurd h (by decide)
theorem Y0x {k:Nat} {a b:Nm} {p:Int} {up:Bool} (h:(Q0r k a b p up).2=0):qN (Q0r k a b p up).1=qV (Z0f (exV k (ofN a) (ofN b)) p.toNat up):=by
 have c:=y1f h
 unfold Q0r at h⊢
 rw [if_pos c] at h⊢
 exact(z0u (V0a (j1c k (V0t c.1) (V0t c.2.1)) _ _) h).2
end Go.Pv
end
