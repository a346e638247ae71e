/- Parts of the walk: M43, M44, M45, N49, N50, N51, N52, N53, N54, N55, N56, N57, M46, N58, N59. -/
import Derived.Test.YthichlfphjbadaaGreatZBD
import Derived.Test.YthichlfphjbadaaGreatZAR
import Derived.Test.YthichlfphjbadaaGreatZP
set_option linter.unusedVariables false
set_option linter.unusedSimpArgs false
section
/-Powers of numbers and of intervals;values and ranges of polynomials. No program in it. -/
namespace Go.Pv
def powV (v:Vl):Nat→Vl
 | 0=>oddV false 1 0
 | k+1=>byV (powV v k) v
def powQ (q:Rat):Nat→Rat
 | 0=>1
 | k+1=>powQ q k*q
theorem v0c (v:Vl): ∀k,qV (powV v k)=powQ (qV v) k
 | 0=>U3m
 | k+1=>by rw [powV,x0v,v0c v k];rfl
theorem v0x {v:Vl} (h:canV v): ∀k,canV (powV v k)
 | 0=>q0c _ _ _
 | k+1=>G1j (v0x h k) h
theorem q1m (q:Rat): ∀k,0≤powQ q (2*k)
 | 0=>by show(0:Rat)≤1;decide
 | k+1=>by
  have e:powQ q (2*(k+1))=powQ q (2*k)*(q*q):=by
   show powQ q (2*k)*q*q=_
   rw [Rat.mul_assoc]
  rw [e]
  have h:0≤q*q:=by
   by_cases c:0≤q
   · exact J0b c c
   · have:=J0b (a:= -q) (b:= -q) (by grind) (by grind);grind
  exact J0b (q1m q k) h
theorem V2y : ∀k,0<k→powQ 0 k=0
 | k+1,_=>by rw [powQ,Rat.mul_zero]
theorem J1a {L U:Nat} {q:Rat} (h:luQ L U q): ∀k,luQ (L*k) (U*k) (powQ q k)
 | 0=>by
  have:=X3e (z:=1) (n:=0) (by decide) 0
  rw [show qM 1 0=1 from U3n] at this
  exact this
 | k+1=>U1r (J1a h k) h
def Q1f (a:Ivl) (k:Nat):Vl:=
 if 0<k∧k % 2=0∧hasI a default=true then⟨false,0,0⟩ else if V0p (powV (ofN a.lo) k) (powV (ofN a.hi) k)>0 then powV (ofN a.hi) k else powV (ofN a.lo) k
def X1k (a:Ivl) (k:Nat):Vl:=if V0p (powV (ofN a.lo) k) (powV (ofN a.hi) k)>0 then powV (ofN a.lo) k else powV (ofN a.hi) k
def powI (a:Ivl) (k p:Int):Ivl×Int:=
 if Q0l a=true∧0≤k∧k≤8∧Z0q p=true then x0x (Z0h (Q1f a k.toNat) p.toNat false) (Z0h (X1k a k.toNat) p.toNat true) else(default,1)
theorem y0e {a:Ivl} (h:Q0l a=true) (k:Nat):canV (Q1f a k):=by
 obtain⟨c1,c2⟩:=canI h
 unfold Q1f
 split
 · exact .inr rfl
 · split
   · exact v0x c2 k
   · exact v0x c1 k
theorem y0f {a:Ivl} (h:Q0l a=true) (k:Nat):canV (X1k a k):=by
 obtain⟨c1,c2⟩:=canI h
 unfold X1k
 split
 · exact v0x c1 k
 · exact v0x c2 k
theorem J1d {a:Ivl} (h:Q0l a=true):hasI a default=true↔qN a.lo≤0∧0≤qN a.hi:=by
 unfold hasI
 have hd:Q0f (default:Nm)=true:=by decide
 rw [h,hd]
 simp only [Bool.true_and,Bool.and_eq_true,decide_eq_true_eq]
 rw [cmpN_le,cmpN_le,G0o]
theorem Q3t (x:Nm):sgnN x<0↔qN x<0:=by
 rw [w0e,K2s,←J0m x.exp];exact qM_lt.symm
theorem j1b (x:Nm):0<sgnN x↔0<qN x:=by
 have h1:sgnN x≤0↔qN x≤0:=by rw [w0e,K2t,←J0m x.exp];exact qM_le.symm
 rw [←Rat.not_le,←h1];omega
def Y3m (m:Mn) (x:List Nm):Nat→Vl
 | 0=>ofN m.c
 | i+1=>byV (Y3m m x i) (powV (ofN (x.getD i default)) (m.ks.getD i 0).toNat)
def valV (p:List Mn) (x:List Nm):Nat→Vl
 | 0=>⟨false,0,0⟩
 | i+1=>J0p (valV p x i) (Y3m (p.getD i default) x x.length)
def Q3k (m:Mn) (x:Nat→Rat):Nat→Rat
 | 0=>qN m.c
 | i+1=>Q3k m x i*powQ (x i) (m.ks.getD i 0).toNat
def valQ (p:List Mn) (x:Nat→Rat) (n:Nat):Nat→Rat
 | 0=>0
 | i+1=>valQ p x n i+Q3k (p.getD i default) x n
def atP (p:List Mn) (x:List Nm):Nm×Int:=if V0k p x.length=true∧x.all Q0f=true then numV (valV p x p.length) else(default,1)
def Y0m (m:Mn) (b:List Ivl) (p:Int):Nat→Ivl×Int
 | 0=>(⟨m.c,m.c⟩,0)
 | i+1=>if (Y0m m b p i).2≠0 then(default,(Y0m m b p i).2) else if m.ks.getD i 0=0 then Y0m m b p i
  else if (powI (b.getD i default) (m.ks.getD i 0) p).2≠0 then(default,(powI (b.getD i default) (m.ks.getD i 0) p).2)
  else opI 2 (Y0m m b p i).1 (powI (b.getD i default) (m.ks.getD i 0) p).1 p
def J0a (q:List Mn) (b:List Ivl) (p:Int):Nat→Ivl×Int
 | 0=>(default,0)
 | i+1=>if (J0a q b p i).2≠0 then(default,(J0a q b p i).2) else if (Y0m (q.getD i default) b p b.length).2≠0 then(default,(Y0m (q.getD i default) b p b.length).2)
  else opI 0 (J0a q b p i).1 (Y0m (q.getD i default) b p b.length).1 p
def v0b (q:List Mn) (b:List Ivl) (p:Int):Ivl×Int:=if V0k q b.length=true∧b.all Q0l=true∧Z0q p=true then J0a q b p q.length else(default,1)
end Go.Pv
end
section
/-Differentiation of polynomials,as the program does it;an object of machine numbers. No program in it. -/
namespace Go.Pv
theorem Z3y (off:Nat) (T:List Int) (k:Nat) (c:Int) (h:k<T.length):over (List.replicate off PV.junk++encZ T) (off+k) [.sc (.int .i64 c)]=List.replicate off PV.junk++encZ (T.set k c):=by
 unfold over
 have e:encZ (T.set k c)=(encZ T).set k (.sc (.int .i64 c)):=by unfold encZ;rw [List.map_set]
 rw [e,show List.replicate off PV.junk++(encZ T).set k (.sc (.int .i64 c))=(List.replicate off PV.junk++encZ T).set (off+k) (.sc (.int .i64 c)) from by
  rw [List.set_append_right _ _ (by simp),List.length_replicate,Nat.add_sub_cancel_left]]
 rw [List.set_eq_take_append_cons_drop,if_pos (by simp [encZ];omega)]
 simp
def intN (n:Nat):Nm:=(mkX false [UInt64.ofNat n] 0).1
def decK (ks:List Int) (i:Nat):List Int:=ks.set i (ks.getD i 0-1)
def J3w (i:Nat):List Mn→List Mn→List Mn×Int
 | [],acc=>(acc,0)
 | m::r,acc=>if m.ks.getD i 0=0 then J3w i r acc else if (strN 2 m.c (intN (m.ks.getD i 0).toNat)).2≠0 then([],(strN 2 m.c (intN (m.ks.getD i 0).toNat)).2)
  else J3w i r (acc++ [⟨(strN 2 m.c (intN (m.ks.getD i 0).toNat)).1,decK m.ks i⟩])
def X4f (p:List Mn) (i n:Int):List Mn×Int:=if V0k p n=true∧0≤i∧i<n then J3w i.toNat p [] else([],1)
end Go.Pv
end
section
/-The document's derivative is the program's. No program in it. -/
namespace Go.Pv
theorem W1b : ∀(a b c:List Int),a.length=b.length→b.length=c.length→ordK a b=1→ordK b c=1→ordK a c=1
 | [],_,_,_,_,h,_=>by simp [ordK] at h
 | x::a,[],_,h1,_,_,_=>by simp at h1
 | x::a,y::b,[],_,h2,_,_=>by simp at h2
 | x::a,y::b,z::c,h1,h2,h3,h4=>by
  rw [ordK] at h3 h4⊢
  have ih:=W1b a b c (by simpa using h1) (by simpa using h2)
  by_cases c1:x>y
  · by_cases c2:y>z
    · rw [if_pos (by omega)]
    · rw [if_neg c2] at h4
      by_cases c3:y<z
      · rw [if_pos c3] at h4;omega
      · rw [if_pos (by omega)]
  · rw [if_neg c1] at h3
    by_cases c2:x<y
    · rw [if_pos c2] at h3;omega
    · rw [if_neg c2] at h3
      by_cases c3:y>z
      · rw [if_pos (by omega)]
      · rw [if_neg c3] at h4
        by_cases c4:y<z
        · rw [if_pos c4] at h4;omega
        · rw [if_neg c4] at h4
          rw [if_neg (by omega),if_neg (by omega)]
          exact ih h3 h4
def J1n :List (List Int)→Prop:=List.Pairwise fun a b=>ordK a b=1
def y2a (i:Nat):List Mn→List Tm
 | []=> []
 | m::r=>if m.ks.getD i 0=0 then y2a i r else⟨byV (ofN m.c) (oddV false (m.ks.getD i 0).toNat 0),decK m.ks i⟩::y2a i r
def H0w :List Tm→List Mn→List Mn×Int
 | [],acc=>(acc,0)
 | t::r,acc=>if W0j t.v=0 then H0w r acc else if (numV t.v).2≠0 then([],2) else H0w r (acc++ [⟨(numV t.v).1,t.ks⟩])
theorem y3m {x:Nm} (h:Q0f x=true) (hw:x.w.length≠0):qN x≠0:=fun e=>by
 have h1:=Q3t x
 have h2:=j1b x
 rw [e] at h1 h2
 have:sgnN x=0:=by
  have a1: ¬sgnN x<0:=fun c=>absurd (h1.1 c) (by decide)
  have a2: ¬0<sgnN x:=fun c=>absurd (h2.1 c) (by decide)
  omega
 have h3:=(q2d h).1 (by rw [ownN,if_pos h];exact this)
 exact hw h3
end Go.Pv
end
section
/-Polynomials of the program:At,over a box,Range. -/
set_option maxRecDepth 100000
namespace Go.Pv
open Go.Proofs
theorem x0q {α:Type} [Inhabited α] (l:List α) (f:α→Bool):l.all f=true↔ ∀i,i<l.length→f (l.getD i default)=true:=by
 rw [List.all_eq_true]
 constructor
 · intro h i hi
   have:l.getD i default=l[i]:=by simp [List.getD_eq_getElem?_getD,hi]
   rw [this];exact h _ (List.getElem_mem hi)
 · intro h x hx
   obtain⟨i,hi,e⟩:=List.mem_iff_getElem.1 hx
   have:=h i hi
   rw [show l.getD i default=l[i] by simp [List.getD_eq_getElem?_getD,hi],e] at this
   exact this
end Go.Pv
end
section
/-Polynomials of the document:Value,At,Range. -/
set_option maxRecDepth 100000
namespace Go.Pv
open Go.Proofs
theorem V2x (p:Int) (st:Q0g):PCalls Tryz.prog 139 [.sc (.int .i64 p)] st (fun r st'=>r= .sc (.bool (Z0q p))∧st'=st):=by
 refine Q0b none Tryz.func139 rfl fun E=>Q0a ?_
 unfold Z0q
 simp -dsimp only [go_sem]
 refine gkT (fun h=> ?_) (fun h=> ?_)
 · have e:decide (8≤p)=true:=h
   simp -dsimp only [go_sem,h,e];try rfl
 · have e:decide (8≤p)=false:=h
   simp -dsimp only [go_sem,h,e];try rfl
end Go.Pv
end
section
/-Fields at points and over boxes,on both sides. -/
set_option maxRecDepth 100000
namespace Go.Pv
open Go.Proofs
def atFd (f:List (List Mn)) (x:List Nm):List Nm×Int:=if V0x f=true∧x.length=f.length then tabF (fun i=>atP (f.getD i []) x) 0 f.length [] else([],1)
def J0l (f:List (List Mn)) (b:List Ivl) (p:Int):List Ivl×Int:=if V0x f=true∧b.length=f.length then tabF (fun i=>v0b (f.getD i []) b p) 0 f.length [] else([],1)
end Go.Pv
end
section
/-field.Jac. -/
set_option maxRecDepth 100000
namespace Go.Pv
open Go.Proofs
def jacG (f:List (List Mn)) (i j:Nat):List Mn×Int:=X4f (f.getD i []) (j:Nat) f.length
def jacF (f:List (List Mn)):List (List (List Mn))×Int:=if V0x f=true then tabF (fun i=>tabF (fun j=>jacG f i j) 0 f.length []) 0 f.length [] else([],1)
end Go.Pv
end
section
/-The document's gather,for terms in falling order. -/
set_option maxRecDepth 100000
namespace Go.Pv
open Go.Proofs
theorem W1z (a:List Tm) (i:Nat) (h:i<a.length):a.drop i=a.getD i default::a.drop (i+1):=by
 rw [List.drop_eq_getElem_cons h]
 simp [List.getD_eq_getElem?_getD,h]
theorem Q2v (a:List Tm) (i:Nat) (h:i<a.length):a.take (i+1)=a.take i++ [a.getD i default]:=by
 rw [List.take_add_one,List.getElem?_eq_getElem h]
 simp [List.getD_eq_getElem?_getD,h]
end Go.Pv
end
