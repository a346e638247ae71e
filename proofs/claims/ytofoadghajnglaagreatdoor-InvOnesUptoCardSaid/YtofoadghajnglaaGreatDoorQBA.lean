/- Parts of the walk: M39, M40, M41. -/
import Derived.Test.YtofoadghajnglaaGreatDoorQAQ
import Derived.Test.YtofoadghajnglaaGreatDoorQAR
import Derived.Test.YtofoadghajnglaaGreatDoorQAE
set_option linter.unusedVariables false
set_option linter.unusedSimpArgs false
section
/-How far down and how far up a value goes:sums,products,rounding,and what fits. No program in it. -/
namespace Go.Pv
theorem K2w (v:Vl):(J0g v).natAbs=v.m:=by unfold J0g;split<;>simp
theorem q0l {m:Nat} (h:m≠0):2^(Q0g m-1)≤m:=by
 apply Nat.le_of_not_lt
 intro hlt
 have:=bitlen_le_iff.2 hlt
 have:=V0o h
 omega
theorem J1u {p:Int} (h:Z0b p=true):1≤p.toNat:=by
 unfold Z0b at h
 simp only [Bool.and_eq_true,decide_eq_true_eq] at h
 omega
end Go.Pv
end
section
/-Sums of products of small intervals:none fails,and what is in them. No program in it. -/
namespace Go.Pv
def dotQ (X Y:Nat→Rat):Nat→Rat
 | 0=>0
 | n+1=>dotQ X Y n+X n*Y n
theorem v0c :memI 0 default:=by
 have e:qN (default:Ivl).lo=0:=J0f 0
 have e2:qN (default:Ivl).hi=0:=J0f 0
 exact⟨by rw [e];exact Rat.le_refl,by rw [e2];exact Rat.le_refl⟩
theorem H1t {x y:Nat→Ivl} {p:Int} {X Y:Nat→Rat} : ∀n,(dotF x y p n).2=0→(∀k,k<n→memI (X k) (x k)∧memI (Y k) (y k))→memI (dotQ X Y n) (dotF x y p n).1
 | 0,_,_=>v0c
 | n+1,h,hm=>by
  rw [dotF] at h⊢
  by_cases c1:(dotF x y p n).2≠0
  · rw [if_pos c1] at h;exact absurd h c1
  rw [if_neg c1] at h⊢
  have c1:=Classical.not_not.1 c1
  by_cases c2:(opI 2 (x n) (y n) p).2≠0
  · rw [if_pos c2] at h;exact absurd h c2
  rw [if_neg c2] at h⊢
  have c2:=Classical.not_not.1 c2
  have ih:=H1t n c1 fun k hk=>hm k (by omega)
  have hp:=Y1h 2 c2 (hm n (by omega)).1 (hm n (by omega)).2
  rw [exQ2] at hp
  by_cases c3:n=0
  · rw [if_pos c3] at h⊢
    subst c3
    show memI (0+X 0*Y 0) _
    rw [Rat.zero_add];exact hp
  rw [if_neg c3] at h⊢
  by_cases c4:(opI 0 (dotF x y p n).1 (opI 2 (x n) (y n) p).1 p).2≠0
  · rw [if_pos c4] at h;exact absurd h c4
  rw [if_neg c4] at h⊢
  have:=Y1h 0 h ih hp
  rw [exQ0] at this;exact this
end Go.Pv
end
section
/-By the matrix of ones;what the norm bounds. No program in it. -/
namespace Go.Pv
theorem x0m :qN oneN=1:=by
 have:qN oneN=qM 1 0:=rfl
 rw [this];unfold qM;rw [v1i,Rat.intCast_one,Rat.mul_one]
theorem W1x :qN (default:Nm)=0:=J0f 0
theorem U2s {n i j:Nat} (h1:1≤n) (h4:n≤4) (hi:i<n) (hj:j<n):(idM (n:Int)).length=n∧((idM (n:Int)).getD i []).length=n∧atM (idM (n:Int)) i j=if i=j then⟨oneN,oneN⟩ else default:=by
 have e:idM (n:Int)=(List.range n).map fun i=>(List.range n).map fun j=>if i=j then⟨oneN,oneN⟩ else default:=by
  rw [idM,if_pos (by omega)];rfl
 rw [e]
 have e2:((List.range n).map fun i=>(List.range n).map fun j=>if i=j then(⟨oneN,oneN⟩:Ivl) else default).getD i []=(List.range n).map fun j=>if i=j then(⟨oneN,oneN⟩:Ivl) else default:=by
  simp [List.getD_eq_getElem?_getD,hi]
 refine⟨by simp,by rw [e2];simp,?_⟩
 unfold atM
 rw [e2]
 simp [List.getD_eq_getElem?_getD,hj]
def J0p (i k:Nat):Rat:=if i=k then 1 else 0
theorem w1i {n i k:Nat} (h1:1≤n) (h4:n≤4) (hi:i<n) (hk:k<n):memI (J0p i k) (atM (idM (n:Int)) i k):=by
 rw [(U2s h1 h4 hi hk).2.2]
 unfold J0p
 split
 · exact⟨by show qN oneN≤1;rw [x0m];exact Rat.le_refl,by show 1≤qN oneN;rw [x0m];exact Rat.le_refl⟩
 · exact v0c
theorem U0m {X Y:Nat→Rat} : ∀n,(∀k,k<n→X k*Y k=0)→dotQ X Y n=0
 | 0,_=>rfl
 | n+1,h=>by rw [dotQ,U0m n fun k hk=>h k (by omega),h n (by omega)];exact Rat.add_zero 0
theorem x0b {Y:Nat→Rat} {i:Nat} : ∀n,i<n→dotQ (J0p i) Y n=Y i
 | 0,h=>by omega
 | n+1,h=>by
  rw [dotQ]
  by_cases e:i=n
  · subst e
    rw [U0m i fun k hk=>by unfold J0p;rw [if_neg (by omega),Rat.zero_mul]]
    unfold J0p
    rw [if_pos rfl,Rat.zero_add,Rat.one_mul]
  · rw [x0b n (by omega)]
    unfold J0p
    rw [if_neg e,Rat.zero_mul,Rat.add_zero]
theorem v0v (X Y:Nat→Rat): ∀n,dotQ X Y n=dotQ Y X n
 | 0=>rfl
 | n+1=>by rw [dotQ,dotQ,v0v X Y n,Rat.mul_comm]
theorem y2r {a:Ivl} (h:Q0v a=true):memI (qN a.lo) a:=⟨Rat.le_refl,by have:=Y0x h;rwa [X0l,X0l] at this⟩
def inQ1 (A x:Rat):Prop:= -A≤x∧x≤A
theorem V2p {A B x y:Rat} (hx:inQ1 A x) (hy:inQ1 B y):inQ1 (A*B) (x*y):=by
 obtain⟨x1,x2⟩:=hx
 obtain⟨y1,y2⟩:=hy
 have a1:=J0v (a:=A-x) (b:=B+y) (by grind) (by grind)
 have a2:=J0v (a:=A+x) (b:=B-y) (by grind) (by grind)
 have a3:=J0v (a:=A-x) (b:=B-y) (by grind) (by grind)
 have a4:=J0v (a:=A+x) (b:=B+y) (by grind) (by grind)
 exact⟨by grind,by grind⟩
def sumQ (A:Nat→Rat):Nat→Rat
 | 0=>0
 | n+1=>sumQ A n+A n
theorem x0c {X Y A:Nat→Rat} {B:Rat} : ∀n,(∀k,k<n→inQ1 (A k) (X k)∧inQ1 B (Y k))→inQ1 (sumQ A n*B) (dotQ X Y n)
 | 0,_=>by
  show inQ1 (0*B) 0
  rw [Rat.zero_mul];exact⟨by grind,by grind⟩
 | n+1,h=>by
  obtain⟨a1,a2⟩:=x0c n fun k hk=>h k (by omega)
  obtain⟨b1,b2⟩:=V2p (h n (by omega)).1 (h n (by omega)).2
  show inQ1 ((sumQ A n+A n)*B) (dotQ X Y n+X n*Y n)
  exact⟨by grind,by grind⟩
theorem U2i (x:Nm):qN x≤qN (magN x)∧ -qN x≤qN (magN x)∧0≤qN (magN x):=by
 have e:mant (magN x)=(valW x.w:Int):=by unfold mant magN;simp
 have e2:qN (magN x)=qM (valW x.w:Int) x.exp:=by unfold qN;rw [e];rfl
 rw [e2]
 have h0:(0:Rat)=qM 0 x.exp:=(J0f _).symm
 refine⟨?_,?_,?_⟩
 · unfold qN mant
   rw [qM_le];split<;>omega
 · unfold qN mant
   rw [←x0n,qM_le];split<;>omega
 · rw [h0,qM_le];omega
theorem Y1q {a:Ivl} {X:Rat} (ha:Q0v a=true) (h:memI X a):inQ1 (qN (magI a)) X∧0≤qN (magI a):=by
 unfold magI
 rw [if_pos ha]
 obtain⟨g1,g2,_⟩:=G1v (magN a.lo) (magN a.hi)
 obtain⟨l1,l2,l3⟩:=U2i a.lo
 obtain⟨u1,u2,u3⟩:=U2i a.hi
 obtain⟨m1,m2⟩:=h
 exact⟨⟨by grind,by grind⟩,by grind⟩
end Go.Pv
end
