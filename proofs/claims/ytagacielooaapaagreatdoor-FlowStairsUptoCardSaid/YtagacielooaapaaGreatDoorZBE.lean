/- Parts of the walk: M43, M44, M45, N49, N50, N51, N52, N53, N54, N55, N56, N57, M46, N58, N59. -/
import Derived.Test.YtagacielooaapaaGreatDoorZBD
import Derived.Test.YtagacielooaapaaGreatDoorZAR
import Derived.Test.YtagacielooaapaaGreatDoorZP
set_option linter.unusedVariables false
set_option linter.unusedSimpArgs false
section
/-Powers of numbers and of intervals;values and ranges of polynomials. No program in it. -/
namespace Go.Pv
def powV (v:Vl):Nat→Vl
 | 0=>oddV false 1 0
 | k+1=>byV (powV v k) v
def powQ (q:Rat):Nat→Rat
 | 0=>1
 | k+1=>powQ q k*q
theorem v0f (v:Vl): ∀k,qV (powV v k)=powQ (qV v) k
 | 0=>z3l
 | k+1=>by rw [powV,H0g,v0f v k];rfl
theorem w0e {v:Vl} (h:canV v): ∀k,canV (powV v k)
 | 0=>Y0x _ _ _
 | k+1=>k0i (w0e h k) h
theorem H1s (q:Rat): ∀k,0≤powQ q (2*k)
 | 0=>by show(0:Rat)≤1;decide
 | k+1=>by
  have e:powQ q (2*(k+1))=powQ q (2*k)*(q*q):=by
   show powQ q (2*k)*q*q=_
   rw [Rat.mul_assoc]
  rw [e]
  have h:0≤q*q:=by
   by_cases c:0≤q
   · exact X0z c c
   · have:=X0z (a:= -q) (b:= -q) (by grind) (by grind);grind
  exact X0z (H1s q k) h
theorem Y2u : ∀k,0<k→powQ 0 k=0
 | k+1,_=>by rw [powQ,Rat.mul_zero]
theorem J1h {L U:Nat} {q:Rat} (h:luQ L U q): ∀k,luQ (L*k) (U*k) (powQ q k)
 | 0=>by
  have:=G2a (z:=1) (n:=0) (by decide) 0
  rw [show qM 1 0=1 from z3n] at this
  exact this
 | k+1=>Y0h (J1h h k) h
def Q1p (a:Ivl) (k:Nat):Vl:=
 if 0<k∧k % 2=0∧hasI a default=true then⟨false,0,0⟩ else if W0b (powV (ofN a.lo) k) (powV (ofN a.hi) k)>0 then powV (ofN a.hi) k else powV (ofN a.lo) k
def X1t (a:Ivl) (k:Nat):Vl:=if W0b (powV (ofN a.lo) k) (powV (ofN a.hi) k)>0 then powV (ofN a.lo) k else powV (ofN a.hi) k
def powI (a:Ivl) (k p:Int):Ivl×Int:=
 if Q0j a=true∧0≤k∧k≤8∧Z0h p=true then H0q (Q0w (Q1p a k.toNat) p.toNat false) (Q0w (X1t a k.toNat) p.toNat true) else(default,1)
theorem y0t {a:Ivl} (h:Q0j a=true) (k:Nat):canV (Q1p a k):=by
 obtain⟨c1,c2⟩:=canI h
 unfold Q1p
 split
 · exact .inr rfl
 · split
   · exact w0e c2 k
   · exact w0e c1 k
theorem y0u {a:Ivl} (h:Q0j a=true) (k:Nat):canV (X1t a k):=by
 obtain⟨c1,c2⟩:=canI h
 unfold X1t
 split
 · exact w0e c1 k
 · exact w0e c2 k
theorem q1p {a:Ivl} (h:Q0j a=true):hasI a default=true↔qN a.lo≤0∧0≤qN a.hi:=by
 unfold hasI
 have hd:Q0i (default:Nm)=true:=by decide
 rw [h,hd]
 simp only [Bool.true_and,Bool.and_eq_true,decide_eq_true_eq]
 rw [cmpN_le,cmpN_le,Y1s]
theorem W2l (x:Nm):0<sgnN x↔0<qN x:=by
 have h1:sgnN x≤0↔qN x≤0:=by rw [w0r,W2k,←J0s x.exp];exact qM_le.symm
 rw [←Rat.not_le,←h1];omega
def q3o (m:Mn) (x:List Nm):Nat→Vl
 | 0=>ofN m.c
 | i+1=>byV (q3o m x i) (powV (ofN (x.getD i default)) (m.ks.getD i 0).toNat)
def valV (p:List Mn) (x:List Nm):Nat→Vl
 | 0=>⟨false,0,0⟩
 | i+1=>K0n (valV p x i) (q3o (p.getD i default) x x.length)
def x2s (m:Mn) (x:Nat→Rat):Nat→Rat
 | 0=>qN m.c
 | i+1=>x2s m x i*powQ (x i) (m.ks.getD i 0).toNat
def valQ (p:List Mn) (x:Nat→Rat) (n:Nat):Nat→Rat
 | 0=>0
 | i+1=>valQ p x n i+x2s (p.getD i default) x n
def atP (p:List Mn) (x:List Nm):Nm×Int:=if K0a p x.length=true∧x.all Q0i=true then numV (valV p x p.length) else(default,1)
def W0y (m:Mn) (b:List Ivl) (p:Int):Nat→Ivl×Int
 | 0=>(⟨m.c,m.c⟩,0)
 | i+1=>if (W0y m b p i).2≠0 then(default,(W0y m b p i).2) else if m.ks.getD i 0=0 then W0y m b p i
  else if (powI (b.getD i default) (m.ks.getD i 0) p).2≠0 then(default,(powI (b.getD i default) (m.ks.getD i 0) p).2)
  else opI 2 (W0y m b p i).1 (powI (b.getD i default) (m.ks.getD i 0) p).1 p
def X0y (q:List Mn) (b:List Ivl) (p:Int):Nat→Ivl×Int
 | 0=>(default,0)
 | i+1=>if (X0y q b p i).2≠0 then(default,(X0y q b p i).2) else if (W0y (q.getD i default) b p b.length).2≠0 then(default,(W0y (q.getD i default) b p b.length).2)
  else opI 0 (X0y q b p i).1 (W0y (q.getD i default) b p b.length).1 p
def v0e (q:List Mn) (b:List Ivl) (p:Int):Ivl×Int:=if K0a q b.length=true∧b.all Q0j=true∧Z0h p=true then X0y q b p q.length else(default,1)
theorem U2f (k:Nat) (a b:Ivl) (p:Int) (h:(opI k a b p).2≠0):(opI k a b p).1=default:=by
 unfold opI at h⊢
 split
 · rename_i c
   rw [if_pos c] at h
   unfold H0q at h⊢
   split
   · rename_i d;rw [if_pos d] at h;exact absurd rfl h
   · rfl
 · rfl
end Go.Pv
end
section
/-Differentiation of polynomials,as the program does it;an object of machine numbers. No program in it. -/
namespace Go.Pv
theorem V3l (off:Nat) (T:List Int) (k:Nat) (c:Int) (h:k<T.length):over (List.replicate off PV.junk++encZ T) (off+k) [.sc (.int .i64 c)]=List.replicate off PV.junk++encZ (T.set k c):=by
 unfold over
 have e:encZ (T.set k c)=(encZ T).set k (.sc (.int .i64 c)):=by unfold encZ;rw [List.map_set]
 rw [e,show List.replicate off PV.junk++(encZ T).set k (.sc (.int .i64 c))=(List.replicate off PV.junk++encZ T).set (off+k) (.sc (.int .i64 c)) from by
  rw [List.set_append_right _ _ (by simp),List.length_replicate,Nat.add_sub_cancel_left]]
 rw [List.set_eq_take_append_cons_drop,if_pos (by simp [encZ];omega)]
 simp
def intN (n:Nat):Nm:=(mkX false [UInt64.ofNat n] 0).1
def decK (ks:List Int) (i:Nat):List Int:=ks.set i (ks.getD i 0-1)
def Y3r (i:Nat):List Mn→List Mn→List Mn×Int
 | [],acc=>(acc,0)
 | m::r,acc=>if m.ks.getD i 0=0 then Y3r i r acc else if (strN 2 m.c (intN (m.ks.getD i 0).toNat)).2≠0 then([],(strN 2 m.c (intN (m.ks.getD i 0).toNat)).2)
  else Y3r i r (acc++ [⟨(strN 2 m.c (intN (m.ks.getD i 0).toNat)).1,decK m.ks i⟩])
def Y4n (p:List Mn) (i n:Int):List Mn×Int:=if K0a p n=true∧0≤i∧i<n then Y3r i.toNat p [] else([],1)
end Go.Pv
end
section
/-The document's derivative is the program's. No program in it. -/
namespace Go.Pv
theorem V1w : ∀(a b c:List Int),a.length=b.length→b.length=c.length→ordK a b=1→ordK b c=1→ordK a c=1
 | [],_,_,_,_,h,_=>by simp [ordK] at h
 | x::a,[],_,h1,_,_,_=>by simp at h1
 | x::a,y::b,[],_,h2,_,_=>by simp at h2
 | x::a,y::b,z::c,h1,h2,h3,h4=>by
  rw [ordK] at h3 h4⊢
  have ih:=V1w a b c (by simpa using h1) (by simpa using h2)
  by_cases c1:x>y
  · by_cases c2:y>z
    · rw [if_pos (by omega)]
    · rw [if_neg c2] at h4
      by_cases c3:y<z
      · rw [if_pos c3] at h4;omega
      · rw [if_pos (by omega)]
  · rw [if_neg c1] at h3
    by_cases c2:x<y
    · rw [if_pos c2] at h3;omega
    · rw [if_neg c2] at h3
      by_cases c3:y>z
      · rw [if_pos (by omega)]
      · rw [if_neg c3] at h4
        by_cases c4:y<z
        · rw [if_pos c4] at h4;omega
        · rw [if_neg c4] at h4
          rw [if_neg (by omega),if_neg (by omega)]
          exact ih h3 h4
def J1v :List (List Int)→Prop:=List.Pairwise fun a b=>ordK a b=1
def X3q (i:Nat):List Mn→List Tm
 | []=> []
 | m::r=>if m.ks.getD i 0=0 then X3q i r else⟨byV (ofN m.c) (oddV false (m.ks.getD i 0).toNat 0),decK m.ks i⟩::X3q i r
def G0x :List Tm→List Mn→List Mn×Int
 | [],acc=>(acc,0)
 | t::r,acc=>if V0u t.v=0 then G0x r acc else if (numV t.v).2≠0 then([],2) else G0x r (acc++ [⟨(numV t.v).1,t.ks⟩])
end Go.Pv
end
section
/-Polynomials of the document:Value,At,Range. -/
set_option maxRecDepth 100000
namespace Go.Pv
open Go.Proofs
theorem q1j {x:Nm} (h:Q0i x=true):luQ 65536 69632 (qN x):=by
 have:=z0n (v1w h)
 rw [Z0u] at this;exact this
end Go.Pv
end
section
/-Fields at points and over boxes,on both sides. -/
set_option maxRecDepth 100000
namespace Go.Pv
open Go.Proofs
def atFd (f:List (List Mn)) (x:List Nm):List Nm×Int:=if W0k f=true∧x.length=f.length then tabF (fun i=>atP (f.getD i []) x) 0 f.length [] else([],1)
def J0i (f:List (List Mn)) (b:List Ivl) (p:Int):List Ivl×Int:=if W0k f=true∧b.length=f.length then tabF (fun i=>v0e (f.getD i []) b p) 0 f.length [] else([],1)
end Go.Pv
end
section
/-field.Jac. -/
set_option maxRecDepth 100000
namespace Go.Pv
open Go.Proofs
def jacG (f:List (List Mn)) (i j:Nat):List Mn×Int:=Y4n (f.getD i []) (j:Nat) f.length
def jacF (f:List (List Mn)):List (List (List Mn))×Int:=if W0k f=true then tabF (fun i=>tabF (fun j=>jacG f i j) 0 f.length []) 0 f.length [] else([],1)
end Go.Pv
end
section
/-The document's gather,for terms in falling order. -/
set_option maxRecDepth 100000
namespace Go.Pv
open Go.Proofs
theorem W1q (a:List Tm) (i:Nat) (h:i<a.length):a.drop i=a.getD i default::a.drop (i+1):=by
 rw [List.drop_eq_getElem_cons h]
 simp [List.getD_eq_getElem?_getD,h]
theorem X2a (a:List Tm) (i:Nat) (h:i<a.length):a.take (i+1)=a.take i++ [a.getD i default]:=by
 rw [List.take_add_one,List.getElem?_eq_getElem h]
 simp [List.getD_eq_getElem?_getD,h]
end Go.Pv
end
