/- Parts of the walk: M43, M44, M45, N49, N50, N51, N52, N53, N54, N55, N56, N57, M46, N58, N59. -/
import Derived.Test.YtagacielooaapaaGreatDoorZBD
import Derived.Test.YtagacielooaapaaGreatDoorZAR
import Derived.Test.YtagacielooaapaaGreatDoorZP
set_option linter.unusedVariables false
set_option linter.unusedSimpArgs false
section
/-Powers of numbers and of intervals;values and ranges of polynomials. No program in it. -/
namespace Go.Pv
def powV (v:Vl):Nat→Vl
 | 0=>oddV false 1 0
 | k+1=>byV (powV v k) v
def powQ (q:Rat):Nat→Rat
 | 0=>1
 | k+1=>powQ q k*q
theorem w0l (v:Vl): ∀k,qV (powV v k)=powQ (qV v) k
 | 0=>q3x
 | k+1=>by rw [powV,q0x,w0l v k];rfl
theorem y0k {v:Vl} (h:canV v): ∀k,canV (powV v k)
 | 0=>H0o _ _ _
 | k+1=>Z1h (y0k h k) h
theorem x1d (q:Rat): ∀k,0≤powQ q (2*k)
 | 0=>by show(0:Rat)≤1;decide
 | k+1=>by
  have e:powQ q (2*(k+1))=powQ q (2*k)*(q*q):=by
   show powQ q (2*k)*q*q=_
   rw [Rat.mul_assoc]
  rw [e]
  have h:0≤q*q:=by
   by_cases c:0≤q
   · exact J0d c c
   · have:=J0d (a:= -q) (b:= -q) (by grind) (by grind);grind
  exact J0d (x1d q k) h
theorem G2k : ∀k,0<k→powQ 0 k=0
 | k+1,_=>by rw [powQ,Rat.mul_zero]
theorem K1x {L U:Nat} {q:Rat} (h:luQ L U q): ∀k,luQ (L*k) (U*k) (powQ q k)
 | 0=>by
  have:=V3x (z:=1) (n:=0) (by decide) 0
  rw [show qM 1 0=1 from q3z] at this
  exact this
 | k+1=>H1i (K1x h k) h
def Z1z (a:Ivl) (k:Nat):Vl:=
 if 0<k∧k % 2=0∧hasI a default=true then⟨false,0,0⟩ else if V0m (powV (ofN a.lo) k) (powV (ofN a.hi) k)>0 then powV (ofN a.hi) k else powV (ofN a.lo) k
def K1i (a:Ivl) (k:Nat):Vl:=if V0m (powV (ofN a.lo) k) (powV (ofN a.hi) k)>0 then powV (ofN a.lo) k else powV (ofN a.hi) k
def powI (a:Ivl) (k p:Int):Ivl×Int:=
 if Q0i a=true∧0≤k∧k≤8∧Z0b p=true then Y0f (Q0r (Z1z a k.toNat) p.toNat false) (Q0r (K1i a k.toNat) p.toNat true) else(default,1)
theorem Z1d {a:Ivl} (h:Q0i a=true) (k:Nat):canV (Z1z a k):=by
 obtain⟨c1,c2⟩:=canI h
 unfold Z1z
 split
 · exact .inr rfl
 · split
   · exact y0k c2 k
   · exact y0k c1 k
theorem Z1e {a:Ivl} (h:Q0i a=true) (k:Nat):canV (K1i a k):=by
 obtain⟨c1,c2⟩:=canI h
 unfold K1i
 split
 · exact y0k c1 k
 · exact y0k c2 k
theorem x1w {a:Ivl} (h:Q0i a=true):hasI a default=true↔qN a.lo≤0∧0≤qN a.hi:=by
 unfold hasI
 have hd:Q0j (default:Nm)=true:=by decide
 rw [h,hd]
 simp only [Bool.true_and,Bool.and_eq_true,decide_eq_true_eq]
 rw [cmpN_le,cmpN_le,K1d]
theorem U2c (x:Nm):0<sgnN x↔0<qN x:=by
 have h1:sgnN x≤0↔qN x≤0:=by rw [Q1a,U2b,←K0b x.exp];exact qM_le.symm
 rw [←Rat.not_le,←h1];omega
def q3h (m:Mn) (x:List Nm):Nat→Vl
 | 0=>ofN m.c
 | i+1=>byV (q3h m x i) (powV (ofN (x.getD i default)) (m.ks.getD i 0).toNat)
def valV (p:List Mn) (x:List Nm):Nat→Vl
 | 0=>⟨false,0,0⟩
 | i+1=>V0d (valV p x i) (q3h (p.getD i default) x x.length)
def j2q (m:Mn) (x:Nat→Rat):Nat→Rat
 | 0=>qN m.c
 | i+1=>j2q m x i*powQ (x i) (m.ks.getD i 0).toNat
def valQ (p:List Mn) (x:Nat→Rat) (n:Nat):Nat→Rat
 | 0=>0
 | i+1=>valQ p x n i+j2q (p.getD i default) x n
def atP (p:List Mn) (x:List Nm):Nm×Int:=if X0m p x.length=true∧x.all Q0j=true then numV (valV p x p.length) else(default,1)
def Y0p (m:Mn) (b:List Ivl) (p:Int):Nat→Ivl×Int
 | 0=>(⟨m.c,m.c⟩,0)
 | i+1=>if (Y0p m b p i).2≠0 then(default,(Y0p m b p i).2) else if m.ks.getD i 0=0 then Y0p m b p i
  else if (powI (b.getD i default) (m.ks.getD i 0) p).2≠0 then(default,(powI (b.getD i default) (m.ks.getD i 0) p).2)
  else opI 2 (Y0p m b p i).1 (powI (b.getD i default) (m.ks.getD i 0) p).1 p
def J0c (q:List Mn) (b:List Ivl) (p:Int):Nat→Ivl×Int
 | 0=>(default,0)
 | i+1=>if (J0c q b p i).2≠0 then(default,(J0c q b p i).2) else if (Y0p (q.getD i default) b p b.length).2≠0 then(default,(Y0p (q.getD i default) b p b.length).2)
  else opI 0 (J0c q b p i).1 (Y0p (q.getD i default) b p b.length).1 p
def w0k (q:List Mn) (b:List Ivl) (p:Int):Ivl×Int:=if X0m q b.length=true∧b.all Q0i=true∧Z0b p=true then J0c q b p q.length else(default,1)
theorem w1q (k:Nat) (a b:Ivl) (p:Int) (h:(opI k a b p).2≠0):(opI k a b p).1=default:=by
 unfold opI at h⊢
 split
 · rename_i c
   rw [if_pos c] at h
   unfold Y0f at h⊢
   split
   · rename_i d;rw [if_pos d] at h;exact absurd rfl h
   · rfl
 · rfl
end Go.Pv
end
section
/-Differentiation of polynomials,as the program does it;an object of machine numbers. No program in it. -/
namespace Go.Pv
theorem V3l (off:Nat) (T:List Int) (k:Nat) (c:Int) (h:k<T.length):over (List.replicate off PV.junk++encZ T) (off+k) [.sc (.int .i64 c)]=List.replicate off PV.junk++encZ (T.set k c):=by
 unfold over
 have e:encZ (T.set k c)=(encZ T).set k (.sc (.int .i64 c)):=by unfold encZ;rw [List.map_set]
 rw [e,show List.replicate off PV.junk++(encZ T).set k (.sc (.int .i64 c))=(List.replicate off PV.junk++encZ T).set (off+k) (.sc (.int .i64 c)) from by
  rw [List.set_append_right _ _ (by simp),List.length_replicate,Nat.add_sub_cancel_left]]
 rw [List.set_eq_take_append_cons_drop,if_pos (by simp [encZ];omega)]
 simp
def intN (n:Nat):Nm:=(mkX false [UInt64.ofNat n] 0).1
def decK (ks:List Int) (i:Nat):List Int:=ks.set i (ks.getD i 0-1)
def Y3t (i:Nat):List Mn→List Mn→List Mn×Int
 | [],acc=>(acc,0)
 | m::r,acc=>if m.ks.getD i 0=0 then Y3t i r acc else if (strN 2 m.c (intN (m.ks.getD i 0).toNat)).2≠0 then([],(strN 2 m.c (intN (m.ks.getD i 0).toNat)).2)
  else Y3t i r (acc++ [⟨(strN 2 m.c (intN (m.ks.getD i 0).toNat)).1,decK m.ks i⟩])
def W4d (p:List Mn) (i n:Int):List Mn×Int:=if X0m p n=true∧0≤i∧i<n then Y3t i.toNat p [] else([],1)
end Go.Pv
end
section
/-The document's derivative is the program's. No program in it. -/
namespace Go.Pv
theorem U1f : ∀(a b c:List Int),a.length=b.length→b.length=c.length→ordK a b=1→ordK b c=1→ordK a c=1
 | [],_,_,_,_,h,_=>by simp [ordK] at h
 | x::a,[],_,h1,_,_,_=>by simp at h1
 | x::a,y::b,[],_,h2,_,_=>by simp at h2
 | x::a,y::b,z::c,h1,h2,h3,h4=>by
  rw [ordK] at h3 h4⊢
  have ih:=U1f a b c (by simpa using h1) (by simpa using h2)
  by_cases c1:x>y
  · by_cases c2:y>z
    · rw [if_pos (by omega)]
    · rw [if_neg c2] at h4
      by_cases c3:y<z
      · rw [if_pos c3] at h4;omega
      · rw [if_pos (by omega)]
  · rw [if_neg c1] at h3
    by_cases c2:x<y
    · rw [if_pos c2] at h3;omega
    · rw [if_neg c2] at h3
      by_cases c3:y>z
      · rw [if_pos (by omega)]
      · rw [if_neg c3] at h4
        by_cases c4:y<z
        · rw [if_pos c4] at h4;omega
        · rw [if_neg c4] at h4
          rw [if_neg (by omega),if_neg (by omega)]
          exact ih h3 h4
def V1r :List (List Int)→Prop:=List.Pairwise fun a b=>ordK a b=1
def X3w (i:Nat):List Mn→List Tm
 | []=> []
 | m::r=>if m.ks.getD i 0=0 then X3w i r else⟨byV (ofN m.c) (oddV false (m.ks.getD i 0).toNat 0),decK m.ks i⟩::X3w i r
def z0k :List Tm→List Mn→List Mn×Int
 | [],acc=>(acc,0)
 | t::r,acc=>if X0n t.v=0 then z0k r acc else if (numV t.v).2≠0 then([],2) else z0k r (acc++ [⟨(numV t.v).1,t.ks⟩])
end Go.Pv
end
section
/-Fields at points and over boxes,on both sides. -/
set_option maxRecDepth 100000
namespace Go.Pv
open Go.Proofs
def atFd (f:List (List Mn)) (x:List Nm):List Nm×Int:=if K0h f=true∧x.length=f.length then tabF (fun i=>atP (f.getD i []) x) 0 f.length [] else([],1)
def J0q (f:List (List Mn)) (b:List Ivl) (p:Int):List Ivl×Int:=if K0h f=true∧b.length=f.length then tabF (fun i=>w0k (f.getD i []) b p) 0 f.length [] else([],1)
end Go.Pv
end
section
/-field.Jac. -/
set_option maxRecDepth 100000
namespace Go.Pv
open Go.Proofs
def jacG (f:List (List Mn)) (i j:Nat):List Mn×Int:=W4d (f.getD i []) (j:Nat) f.length
def jacF (f:List (List Mn)):List (List (List Mn))×Int:=if K0h f=true then tabF (fun i=>tabF (fun j=>jacG f i j) 0 f.length []) 0 f.length [] else([],1)
end Go.Pv
end
section
/-The document's gather,for terms in falling order. -/
set_option maxRecDepth 100000
namespace Go.Pv
open Go.Proofs
theorem U1x (a:List Tm) (i:Nat) (h:i<a.length):a.drop i=a.getD i default::a.drop (i+1):=by
 rw [List.drop_eq_getElem_cons h]
 simp [List.getD_eq_getElem?_getD,h]
theorem K2d (a:List Tm) (i:Nat) (h:i<a.length):a.take (i+1)=a.take i++ [a.getD i default]:=by
 rw [List.take_add_one,List.getElem?_eq_getElem h]
 simp [List.getD_eq_getElem?_getD,h]
end Go.Pv
end
