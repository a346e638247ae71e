/- Parts of the walk: M39, M40, M41. -/
import Derived.Test.YtofoadghajnglaaGreatDoorZAQ
import Derived.Test.YtofoadghajnglaaGreatDoorZAR
import Derived.Test.YtofoadghajnglaaGreatDoorZAE
set_option linter.unusedVariables false
set_option linter.unusedSimpArgs false
section
/-How far down and how far up a value goes:sums,products,rounding,and what fits. No program in it. -/
namespace Go.Pv
def luQ (L U:Nat) (x:Rat):Prop:= ∃z:Int,x=qM z (-(L:Int))∧z.natAbs≤2^(L+U)
theorem luQ.up {L U U':Nat} {x:Rat} (h:luQ L U x) (hu:U≤U'):luQ L U' x:=by
 obtain⟨z,h1,h2⟩:=h
 exact⟨z,h1,Nat.le_trans h2 (Nat.pow_le_pow_right (by omega) (by omega))⟩
theorem H2h (v:Vl):(X0w v).natAbs=v.m:=by unfold X0w;split<;>simp
theorem k0s {m:Nat} (h:m≠0):2^(Q0g m-1)≤m:=by
 apply Nat.le_of_not_lt
 intro hlt
 have:=bitlen_le_iff.2 hlt
 have:=Y0r h
 omega
theorem G1c {p:Int} (h:Z0n p=true):1≤p.toNat:=by
 unfold Z0n at h
 simp only [Bool.and_eq_true,decide_eq_true_eq] at h
 omega
end Go.Pv
end
section
/-Sums of products of small intervals:none fails,and what is in them. No program in it. -/
namespace Go.Pv
def dotQ (X Y:Nat→Rat):Nat→Rat
 | 0=>0
 | n+1=>dotQ X Y n+X n*Y n
theorem Z1z :memI 0 default:=by
 have e:qN (default:Ivl).lo=0:=K0q 0
 have e2:qN (default:Ivl).hi=0:=K0q 0
 exact⟨by rw [e];exact Rat.le_refl,by rw [e2];exact Rat.le_refl⟩
theorem v1q {x y:Nat→Ivl} {p:Int} {X Y:Nat→Rat} : ∀n,(dotF x y p n).2=0→(∀k,k<n→memI (X k) (x k)∧memI (Y k) (y k))→memI (dotQ X Y n) (dotF x y p n).1
 | 0,_,_=>Z1z
 | n+1,h,hm=>by
  rw [dotF] at h⊢
  by_cases c1:(dotF x y p n).2≠0
  · rw [if_pos c1] at h;exact absurd h c1
  rw [if_neg c1] at h⊢
  have c1:=Classical.not_not.1 c1
  by_cases c2:(opI 2 (x n) (y n) p).2≠0
  · rw [if_pos c2] at h;exact absurd h c2
  rw [if_neg c2] at h⊢
  have c2:=Classical.not_not.1 c2
  have ih:=v1q n c1 fun k hk=>hm k (by omega)
  have hp:=z1r 2 c2 (hm n (by omega)).1 (hm n (by omega)).2
  rw [exQ2] at hp
  by_cases c3:n=0
  · rw [if_pos c3] at h⊢
    subst c3
    show memI (0+X 0*Y 0) _
    rw [Rat.zero_add];exact hp
  rw [if_neg c3] at h⊢
  by_cases c4:(opI 0 (dotF x y p n).1 (opI 2 (x n) (y n) p).1 p).2≠0
  · rw [if_pos c4] at h;exact absurd h c4
  rw [if_neg c4] at h⊢
  have:=z1r 0 h ih hp
  rw [exQ0] at this;exact this
end Go.Pv
end
section
/-By the matrix of ones;what the norm bounds. No program in it. -/
namespace Go.Pv
theorem k0p :qN oneN=1:=by
 have:qN oneN=qM 1 0:=rfl
 rw [this];unfold qM;rw [X2y,Rat.intCast_one,Rat.mul_one]
theorem z1h :qN (default:Nm)=0:=K0q 0
theorem j2o {n i j:Nat} (h1:1≤n) (h4:n≤4) (hi:i<n) (hj:j<n):(idM (n:Int)).length=n∧((idM (n:Int)).getD i []).length=n∧atM (idM (n:Int)) i j=if i=j then⟨oneN,oneN⟩ else default:=by
 have e:idM (n:Int)=(List.range n).map fun i=>(List.range n).map fun j=>if i=j then⟨oneN,oneN⟩ else default:=by
  rw [idM,if_pos (by omega)];rfl
 rw [e]
 have e2:((List.range n).map fun i=>(List.range n).map fun j=>if i=j then(⟨oneN,oneN⟩:Ivl) else default).getD i []=(List.range n).map fun j=>if i=j then(⟨oneN,oneN⟩:Ivl) else default:=by
  simp [List.getD_eq_getElem?_getD,hi]
 refine⟨by simp,by rw [e2];simp,?_⟩
 unfold atM
 rw [e2]
 simp [List.getD_eq_getElem?_getD,hj]
def V0d (i k:Nat):Rat:=if i=k then 1 else 0
theorem J2t {n i k:Nat} (h1:1≤n) (h4:n≤4) (hi:i<n) (hk:k<n):memI (V0d i k) (atM (idM (n:Int)) i k):=by
 rw [(j2o h1 h4 hi hk).2.2]
 unfold V0d
 split
 · exact⟨by show qN oneN≤1;rw [k0p];exact Rat.le_refl,by show 1≤qN oneN;rw [k0p];exact Rat.le_refl⟩
 · exact Z1z
theorem z0d {X Y:Nat→Rat} : ∀n,(∀k,k<n→X k*Y k=0)→dotQ X Y n=0
 | 0,_=>rfl
 | n+1,h=>by rw [dotQ,z0d n fun k hk=>h k (by omega),h n (by omega)];exact Rat.add_zero 0
theorem w0z {Y:Nat→Rat} {i:Nat} : ∀n,i<n→dotQ (V0d i) Y n=Y i
 | 0,h=>by omega
 | n+1,h=>by
  rw [dotQ]
  by_cases e:i=n
  · subst e
    rw [z0d i fun k hk=>by unfold V0d;rw [if_neg (by omega),Rat.zero_mul]]
    unfold V0d
    rw [if_pos rfl,Rat.zero_add,Rat.one_mul]
  · rw [w0z n (by omega)]
    unfold V0d
    rw [if_neg e,Rat.zero_mul,Rat.add_zero]
theorem X1x (X Y:Nat→Rat): ∀n,dotQ X Y n=dotQ Y X n
 | 0=>rfl
 | n+1=>by rw [dotQ,dotQ,X1x X Y n,Rat.mul_comm]
theorem W3c {a:Ivl} (h:Q0v a=true):memI (qN a.lo) a:=⟨Rat.le_refl,by have:=q0o h;rwa [J0j,J0j] at this⟩
def inQ1 (A x:Rat):Prop:= -A≤x∧x≤A
theorem q2e {A B x y:Rat} (hx:inQ1 A x) (hy:inQ1 B y):inQ1 (A*B) (x*y):=by
 obtain⟨x1,x2⟩:=hx
 obtain⟨y1,y2⟩:=hy
 have a1:=V0l (a:=A-x) (b:=B+y) (by grind) (by grind)
 have a2:=V0l (a:=A+x) (b:=B-y) (by grind) (by grind)
 have a3:=V0l (a:=A-x) (b:=B-y) (by grind) (by grind)
 have a4:=V0l (a:=A+x) (b:=B+y) (by grind) (by grind)
 exact⟨by grind,by grind⟩
def sumQ (A:Nat→Rat):Nat→Rat
 | 0=>0
 | n+1=>sumQ A n+A n
theorem y0a {X Y A:Nat→Rat} {B:Rat} : ∀n,(∀k,k<n→inQ1 (A k) (X k)∧inQ1 B (Y k))→inQ1 (sumQ A n*B) (dotQ X Y n)
 | 0,_=>by
  show inQ1 (0*B) 0
  rw [Rat.zero_mul];exact⟨by grind,by grind⟩
 | n+1,h=>by
  obtain⟨a1,a2⟩:=y0a n fun k hk=>h k (by omega)
  obtain⟨b1,b2⟩:=q2e (h n (by omega)).1 (h n (by omega)).2
  show inQ1 ((sumQ A n+A n)*B) (dotQ X Y n+X n*Y n)
  exact⟨by grind,by grind⟩
theorem j2d (x:Nm):qN x≤qN (magN x)∧ -qN x≤qN (magN x)∧0≤qN (magN x):=by
 have e:mant (magN x)=(valW x.w:Int):=by unfold mant magN;simp
 have e2:qN (magN x)=qM (valW x.w:Int) x.exp:=by unfold qN;rw [e];rfl
 rw [e2]
 have h0:(0:Rat)=qM 0 x.exp:=(K0q _).symm
 refine⟨?_,?_,?_⟩
 · unfold qN mant
   rw [qM_le];split<;>omega
 · unfold qN mant
   rw [←y0l,qM_le];split<;>omega
 · rw [h0,qM_le];omega
theorem x1a {a:Ivl} {X:Rat} (ha:Q0v a=true) (h:memI X a):inQ1 (qN (magI a)) X∧0≤qN (magI a):=by
 unfold magI
 rw [if_pos ha]
 obtain⟨g1,g2,_⟩:=k1l (magN a.lo) (magN a.hi)
 obtain⟨l1,l2,l3⟩:=j2d a.lo
 obtain⟨u1,u2,u3⟩:=j2d a.hi
 obtain⟨m1,m2⟩:=h
 exact⟨⟨by grind,by grind⟩,by grind⟩
end Go.Pv
end
