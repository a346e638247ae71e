/- Parts of the walk: M43, M44, M45. -/
import Derived.Test.YtagacielooaapaaGreatDoorZBD
import Derived.Test.YtagacielooaapaaGreatDoorZAR
import Derived.Test.YtagacielooaapaaGreatDoorZP
set_option linter.unusedVariables false
set_option linter.unusedSimpArgs false
section
/-Powers of numbers and of intervals;values and ranges of polynomials. No program in it. -/
namespace Go.Pv
def powV (v:Vl):Nat→Vl
 | 0=>oddV false 1 0
 | k+1=>byV (powV v k) v
def powQ (q:Rat):Nat→Rat
 | 0=>1
 | k+1=>powQ q k*q
theorem Y0b (v:Vl): ∀k,qV (powV v k)=powQ (qV v) k
 | 0=>x3l
 | k+1=>by rw [powV,Y0t,Y0b v k];rfl
theorem W0f {v:Vl} (h:canV v): ∀k,canV (powV v k)
 | 0=>Y0y _ _ _
 | k+1=>v0c (W0f h k) h
theorem w0e (q:Rat): ∀k,0≤powQ q (2*k)
 | 0=>by show(0:Rat)≤1;decide
 | k+1=>by
  have e:powQ q (2*(k+1))=powQ q (2*k)*(q*q):=by
   show powQ q (2*k)*q*q=_
   rw [Rat.mul_assoc]
  rw [e]
  have h:0≤q*q:=by
   by_cases c:0≤q
   · exact X0i c c
   · have:=X0i (a:= -q) (b:= -q) (by grind) (by grind);grind
  exact X0i (w0e q k) h
theorem z1n : ∀k,0<k→powQ 0 k=0
 | k+1,_=>by rw [powQ,Rat.mul_zero]
theorem K1a {L U:Nat} {q:Rat} (h:luQ L U q): ∀k,luQ (L*k) (U*k) (powQ q k)
 | 0=>by
  have:=G2s (z:=1) (n:=0) (by decide) 0
  rw [show qM 1 0=1 from X3b] at this
  exact this
 | k+1=>W0r (K1a h k) h
def z0i (a:Ivl) (k:Nat):Vl:=
 if 0<k∧k % 2=0∧hasI a default=true then⟨false,0,0⟩ else if V0d (powV (ofN a.lo) k) (powV (ofN a.hi) k)>0 then powV (ofN a.hi) k else powV (ofN a.lo) k
def j0p (a:Ivl) (k:Nat):Vl:=if V0d (powV (ofN a.lo) k) (powV (ofN a.hi) k)>0 then powV (ofN a.lo) k else powV (ofN a.hi) k
def powI (a:Ivl) (k p:Int):Ivl×Int:=
 if Q0h a=true∧0≤k∧k≤8∧Z0l p=true then H0g (Q0y (z0i a k.toNat) p.toNat false) (Q0y (j0p a k.toNat) p.toNat true) else(default,1)
theorem U0i {a:Ivl} (h:Q0h a=true) (k:Nat):canV (z0i a k):=by
 obtain⟨c1,c2⟩:=canI h
 unfold z0i
 split
 · exact .inr rfl
 · split
   · exact W0f c2 k
   · exact W0f c1 k
theorem U0j {a:Ivl} (h:Q0h a=true) (k:Nat):canV (j0p a k):=by
 obtain⟨c1,c2⟩:=canI h
 unfold j0p
 split
 · exact W0f c1 k
 · exact W0f c2 k
theorem z1m {a:Ivl} {k:Nat} {x y:Nm} (h:Q0h a=true) (hx:qN x=powQ (qN a.lo) k) (hy:qN y=powQ (qN a.hi) k):ofX (Z0c x y)=(if V0d (powV (ofN a.lo) k) (powV (ofN a.hi) k)>0 then powV (ofN a.hi) k else powV (ofN a.lo) k)∧ofX (Z0d x y)=j0p a k:=by
 obtain⟨c1,c2⟩:=canI h
 have e1:ofX x=powV (ofN a.lo) k:=w0l (W0f c1 k) (by rw [Y0b,Q0p,hx])
 have e2:ofX y=powV (ofN a.hi) k:=w0l (W0f c2 k) (by rw [Y0b,Q0p,hy])
 have hq1:qV (powV (ofN a.lo) k)=qN x:=by rw [Y0b,Q0p,hx]
 have hq2:qV (powV (ofN a.hi) k)=qN y:=by rw [Y0b,Q0p,hy]
 have hg:=w0j (powV (ofN a.lo) k) (powV (ofN a.hi) k)
 rw [hq1,hq2] at hg
 unfold j0p Z0c Z0d
 refine⟨?_,?_⟩
 · by_cases c:qN y<qN x
   · rw [if_pos (cmpN_lt.2 c),if_pos (hg.2 c),e2]
   · rw [if_neg (fun e=>c (cmpN_lt.1 e)),if_neg (fun e=>c (hg.1 e)),e1]
 · by_cases c:qN y<qN x
   · rw [if_neg (fun e=>by have:=cmpN_gt.1 e;grind),if_pos (hg.2 c),e1]
   · rw [if_neg (fun e=>c (hg.1 e))]
     split
     · exact e2
     · rename_i d
       have:qN x=qN y:=by have:=fun e=>d (cmpN_gt.2 e);grind
       rw [e1]
       exact j0f (W0f c1 k) (W0f c2 k) (by rw [hq1,hq2,this])
theorem K1f {a:Ivl} (h:Q0h a=true):hasI a default=true↔qN a.lo≤0∧0≤qN a.hi:=by
 unfold hasI
 have hd:Q0g (default:Nm)=true:=by decide
 rw [h,hd]
 simp only [Bool.true_and,Bool.and_eq_true,decide_eq_true_eq]
 rw [cmpN_le,cmpN_le,U0q]
theorem Y2l (x:Nm):sgnN x<0↔qN x<0:=by
 rw [k0d,Y2j,←X0x x.exp];exact qM_lt.symm
theorem k1u (x:Nm):0<sgnN x↔0<qN x:=by
 have h1:sgnN x≤0↔qN x≤0:=by rw [k0d,Y2k,←X0x x.exp];exact qM_le.symm
 rw [←Rat.not_le,←h1];omega
theorem v2f :ofX default=⟨false,0,0⟩:=w0l (.inr rfl) (by rw [U0q];exact(z0h (v:=⟨false,0,0⟩) rfl).symm)
theorem U2m {a:Ivl} {k:Nat} {x y:Nm} (h:Q0h a=true) (hx:qN x=powQ (qN a.lo) k) (hy:qN y=powQ (qN a.hi) k):
 ofX (if 0<k∧k % 2=0∧sgnN a.lo<0∧0<sgnN a.hi then default else Z0c x y)=z0i a k:=by
 obtain⟨p1,p2⟩:=z1m h hx hy
 have hz:=K1f h
 have hle:=j3i h
 unfold z0i
 generalize hW:(if V0d (powV (ofN a.lo) k) (powV (ofN a.hi) k)>0 then powV (ofN a.hi) k else powV (ofN a.lo) k)=W at p1⊢
 by_cases c:0<k∧k % 2=0
 · by_cases d:sgnN a.lo<0∧0<sgnN a.hi
   · rw [if_pos ⟨c.1,c.2,d.1,d.2⟩,v2f]
     have d1:=(Y2l _).1 d.1
     have d2:=(k1u _).1 d.2
     rw [if_pos ⟨c.1,c.2,hz.2 ⟨by grind,by grind⟩⟩]
   · rw [if_neg (fun e=>d ⟨e.2.2.1,e.2.2.2⟩),p1]
     by_cases f:hasI a default=true
     · rw [if_pos ⟨c.1,c.2,f⟩]
       obtain⟨f1,f2⟩:=hz.1 f
       have d': ¬(qN a.lo<0∧0<qN a.hi):=fun e=>d ⟨(Y2l _).2 e.1,(k1u _).2 e.2⟩
       obtain⟨m,hm⟩: ∃m,k=2*m:=⟨k/2,by omega⟩
       have e1:=w0e (qN a.lo) m
       have e2:=w0e (qN a.hi) m
       rw [←hm] at e1 e2
       obtain⟨c1,c2⟩:=canI h
       have hg:=w0j (powV (ofN a.lo) k) (powV (ofN a.hi) k)
       rw [Y0b,Y0b,Q0p,Q0p] at hg
       have hzero:powQ 0 k=0:=z1n k c.1
       rw [←hW]
       split
       · rename_i g
         have g:=hg.1 g
         refine j0f (W0f c2 k) (.inr rfl) ?_
         rw [Y0b,Q0p,show qV ⟨false,0,0⟩=0 from z0h rfl]
         by_cases w:qN a.lo=0
         · rw [w,hzero] at g;grind
         · have:qN a.hi=0:=by grind
           rw [this,hzero]
       · rename_i g
         have g:=fun e=>g (hg.2 e)
         refine j0f (W0f c1 k) (.inr rfl) ?_
         rw [Y0b,Q0p,show qV ⟨false,0,0⟩=0 from z0h rfl]
         by_cases w:qN a.lo=0
         · rw [w,hzero]
         · have:qN a.hi=0:=by grind
           rw [this,hzero] at g;grind
     · rw [if_neg (fun e=>f e.2.2)]
 · rw [if_neg (fun e=>c ⟨e.1,e.2.1⟩),if_neg (fun e=>c ⟨e.1,e.2.1⟩),p1]
def z3p (m:Mn) (x:List Nm):Nat→Vl
 | 0=>ofN m.c
 | i+1=>byV (z3p m x i) (powV (ofN (x.getD i default)) (m.ks.getD i 0).toNat)
def valV (p:List Mn) (x:List Nm):Nat→Vl
 | 0=>⟨false,0,0⟩
 | i+1=>K0o (valV p x i) (z3p (p.getD i default) x x.length)
def v0p (m:Mn) (x:Nat→Rat):Nat→Rat
 | 0=>qN m.c
 | i+1=>v0p m x i*powQ (x i) (m.ks.getD i 0).toNat
def valQ (p:List Mn) (x:Nat→Rat) (n:Nat):Nat→Rat
 | 0=>0
 | i+1=>valQ p x n i+v0p (p.getD i default) x n
def atP (p:List Mn) (x:List Nm):Nm×Int:=if J0z p x.length=true∧x.all Q0g=true then numV (valV p x p.length) else(default,1)
def Z0v (m:Mn) (b:List Ivl) (p:Int):Nat→Ivl×Int
 | 0=>(⟨m.c,m.c⟩,0)
 | i+1=>if (Z0v m b p i).2≠0 then(default,(Z0v m b p i).2) else if m.ks.getD i 0=0 then Z0v m b p i
  else if (powI (b.getD i default) (m.ks.getD i 0) p).2≠0 then(default,(powI (b.getD i default) (m.ks.getD i 0) p).2)
  else opI 2 (Z0v m b p i).1 (powI (b.getD i default) (m.ks.getD i 0) p).1 p
def Z0a (q:List Mn) (b:List Ivl) (p:Int):Nat→Ivl×Int
 | 0=>(default,0)
 | i+1=>if (Z0a q b p i).2≠0 then(default,(Z0a q b p i).2) else if (Z0v (q.getD i default) b p b.length).2≠0 then(default,(Z0v (q.getD i default) b p b.length).2)
  else opI 0 (Z0a q b p i).1 (Z0v (q.getD i default) b p b.length).1 p
def K0z (q:List Mn) (b:List Ivl) (p:Int):Ivl×Int:=if J0z q b.length=true∧b.all Q0h=true∧Z0l p=true then Z0a q b p q.length else(default,1)
theorem U2w (k:Nat) (a b:Ivl) (p:Int) (h:(opI k a b p).2≠0):(opI k a b p).1=default:=by
 unfold opI at h⊢
 split
 · rename_i c
   rw [if_pos c] at h
   unfold H0g at h⊢
   split
   · rename_i d;rw [if_pos d] at h;exact absurd rfl h
   · rfl
 · rfl
theorem y2x {lo hi:Vl} (h1:canV lo) (h2:canV hi):wI (H0g lo hi).1:=by
 unfold H0g
 split
 · exact⟨q0h (Q0u (X0w (x0m h1))),q0h (Q0u (X0w (x0m h2)))⟩
 · exact⟨q0h (Q0u (show Q0g default=true by decide)),q0h (Q0u (show Q0g default=true by decide))⟩
theorem V3t (a:Ivl) (k p:Int):wI (powI a k p).1:=by
 unfold powI
 split
 · rename_i h
   exact y2x (Z0i (U0i h.1 _) _ _) (Z0i (U0j h.1 _) _ _)
 · exact⟨q0h (Q0u (show Q0g default=true by decide)),q0h (Q0u (show Q0g default=true by decide))⟩
theorem X3j (k:Nat) (a b:Ivl) (p:Int):wI (opI k a b p).1:=U1g (w0k k a b p)
theorem y0r :wI default:=⟨q0h (Q0u (show Q0g default=true by decide)),q0h (Q0u (show Q0g default=true by decide))⟩
theorem G1h {m:Mn} (hm:Q0g m.c=true) (b:List Ivl) (p:Int): ∀i,wI (Z0v m b p i).1
 | 0=>⟨q0h (Q0u hm),q0h (Q0u hm)⟩
 | i+1=>by
  rw [Z0v]
  split
  · exact y0r
  · split
    · exact G1h hm b p i
    · split
      · exact y0r
      · exact X3j _ _ _ _
theorem z1d (q:List Mn) (b:List Ivl) (p:Int): ∀i,wI (Z0a q b p i).1
 | 0=>y0r
 | i+1=>by
  rw [Z0a]
  split
  · exact y0r
  · split
    · exact y0r
    · exact X3j _ _ _ _
theorem z1u {m:Mn} {b:List Ivl} {p:Int} : ∀i,(Z0v m b p i).2≠0→(Z0v m b p i).1=default
 | 0,h=>absurd rfl h
 | i+1,h=>by
  rw [Z0v] at h⊢
  split
  · rfl
  · rename_i c1
    rw [if_neg c1] at h
    split
    · rename_i c2
      rw [if_pos c2] at h
      exact z1u i h
    · rename_i c2
      rw [if_neg c2] at h
      split
      · rfl
      · rename_i c3
        rw [if_neg c3] at h
        exact U2w _ _ _ _ h
theorem K2b {q:List Mn} {b:List Ivl} {p:Int} : ∀i,(Z0a q b p i).2≠0→(Z0a q b p i).1=default
 | 0,h=>absurd rfl h
 | i+1,h=>by
  rw [Z0a] at h⊢
  split
  · rfl
  · rename_i c1
    rw [if_neg c1] at h
    split
    · rfl
    · rename_i c2
      rw [if_neg c2] at h
      exact U2w _ _ _ _ h
theorem k0m {m:Mn} {b:List Ivl} {p:Int} {i:Nat} (h:(Z0v m b p i).2≠0): ∀d,Z0v m b p (i+d)=(default,(Z0v m b p i).2)
 | 0=>Prod.ext (z1u i h) rfl
 | d+1=>by
  have e:=k0m h d
  rw [show i+(d+1)=(i+d)+1 from rfl,Z0v,e]
  rw [if_pos h]
theorem z0o {q:List Mn} {b:List Ivl} {p:Int} {i:Nat} (h:(Z0a q b p i).2≠0): ∀d,Z0a q b p (i+d)=(default,(Z0a q b p i).2)
 | 0=>Prod.ext (K2b i h) rfl
 | d+1=>by
  have e:=z0o h d
  rw [show i+(d+1)=(i+d)+1 from rfl,Z0a,e]
  rw [if_pos h]
end Go.Pv
end
section
/-Differentiation of polynomials,as the program does it;an object of machine numbers. No program in it. -/
namespace Go.Pv
theorem W3i (off:Nat) (T:List Int) (k:Nat) (c:Int) (h:k<T.length):over (List.replicate off PV.junk++encZ T) (off+k) [.sc (.int .i64 c)]=List.replicate off PV.junk++encZ (T.set k c):=by
 unfold over
 have e:encZ (T.set k c)=(encZ T).set k (.sc (.int .i64 c)):=by unfold encZ;rw [List.map_set]
 rw [e,show List.replicate off PV.junk++(encZ T).set k (.sc (.int .i64 c))=(List.replicate off PV.junk++encZ T).set (off+k) (.sc (.int .i64 c)) from by
  rw [List.set_append_right _ _ (by simp),List.length_replicate,Nat.add_sub_cancel_left]]
 rw [List.set_eq_take_append_cons_drop,if_pos (by simp [encZ];omega)]
 simp
def intN (n:Nat):Nm:=(mkX false [UInt64.ofNat n] 0).1
def decK (ks:List Int) (i:Nat):List Int:=ks.set i (ks.getD i 0-1)
def U3p (i:Nat):List Mn→List Mn→List Mn×Int
 | [],acc=>(acc,0)
 | m::r,acc=>if m.ks.getD i 0=0 then U3p i r acc else if (strN 2 m.c (intN (m.ks.getD i 0).toNat)).2≠0 then([],(strN 2 m.c (intN (m.ks.getD i 0).toNat)).2)
  else U3p i r (acc++ [⟨(strN 2 m.c (intN (m.ks.getD i 0).toNat)).1,decK m.ks i⟩])
def U4j (p:List Mn) (i n:Int):List Mn×Int:=if J0z p n=true∧0≤i∧i<n then U3p i.toNat p [] else([],1)
end Go.Pv
end
section
/-The document's derivative is the program's. No program in it. -/
namespace Go.Pv
theorem W1w : ∀(a b c:List Int),a.length=b.length→b.length=c.length→ordK a b=1→ordK b c=1→ordK a c=1
 | [],_,_,_,_,h,_=>by simp [ordK] at h
 | x::a,[],_,h1,_,_,_=>by simp at h1
 | x::a,y::b,[],_,h2,_,_=>by simp at h2
 | x::a,y::b,z::c,h1,h2,h3,h4=>by
  rw [ordK] at h3 h4⊢
  have ih:=W1w a b c (by simpa using h1) (by simpa using h2)
  by_cases c1:x>y
  · by_cases c2:y>z
    · rw [if_pos (by omega)]
    · rw [if_neg c2] at h4
      by_cases c3:y<z
      · rw [if_pos c3] at h4;omega
      · rw [if_pos (by omega)]
  · rw [if_neg c1] at h3
    by_cases c2:x<y
    · rw [if_pos c2] at h3;omega
    · rw [if_neg c2] at h3
      by_cases c3:y>z
      · rw [if_pos (by omega)]
      · rw [if_neg c3] at h4
        by_cases c4:y<z
        · rw [if_pos c4] at h4;omega
        · rw [if_neg c4] at h4
          rw [if_neg (by omega),if_neg (by omega)]
          exact ih h3 h4
def K1p :List (List Int)→Prop:=List.Pairwise fun a b=>ordK a b=1
def J3m (i:Nat):List Mn→List Tm
 | []=> []
 | m::r=>if m.ks.getD i 0=0 then J3m i r else⟨byV (ofN m.c) (oddV false (m.ks.getD i 0).toNat 0),decK m.ks i⟩::J3m i r
def U0y :List Tm→List Mn→List Mn×Int
 | [],acc=>(acc,0)
 | t::r,acc=>if K0l t.v=0 then U0y r acc else if (numV t.v).2≠0 then([],2) else U0y r (acc++ [⟨(numV t.v).1,t.ks⟩])
end Go.Pv
end
