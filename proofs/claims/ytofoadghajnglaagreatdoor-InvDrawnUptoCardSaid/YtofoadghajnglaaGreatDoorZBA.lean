/- Parts of the walk: M39, M40, M41. -/
import Derived.Test.YtofoadghajnglaaGreatDoorZAQ
import Derived.Test.YtofoadghajnglaaGreatDoorZAR
import Derived.Test.YtofoadghajnglaaGreatDoorZAW
set_option linter.unusedVariables false
set_option linter.unusedSimpArgs false
section
/-How far down and how far up a value goes:sums,products,rounding,and what fits. No program in it. -/
namespace Go.Pv
def luQ (L U:Nat) (x:Rat):Prop:= ∃z:Int,x=qM z (-(L:Int))∧z.natAbs≤2^(L+U)
theorem luQ.up {L U U':Nat} {x:Rat} (h:luQ L U x) (hu:U≤U'):luQ L U' x:=by
 obtain⟨z,h1,h2⟩:=h
 exact⟨z,h1,Nat.le_trans h2 (Nat.pow_le_pow_right (by omega) (by omega))⟩
theorem luQ.down {L L' U:Nat} {x:Rat} (h:luQ L U x) (hl:L≤L'):luQ L' U x:=by
 obtain⟨z,h1,h2⟩:=h
 refine⟨z*2^(L'-L),?_,?_⟩
 · rw [U0v,h1];congr 1;omega
 · have e:(z*2^(L'-L)).natAbs=z.natAbs*2^(L'-L):=by rw [Int.natAbs_mul,Int.natAbs_pow];rfl
   rw [e,show L'+U=(L+U)+(L'-L) from by omega,Nat.pow_add]
   exact Nat.mul_le_mul_right _ h2
theorem luQ.mono {L U L' U':Nat} {x:Rat} (h:luQ L U x) (hl:L≤L') (hu:U≤U'):luQ L' U' x:=(h.down hl).up hu
theorem q2e (v:Vl):(J0a v).natAbs=v.m:=by unfold J0a;split<;>simp
theorem k0x {m:Nat} (h:m≠0):2^(Q0h m-1)≤m:=by
 apply Nat.le_of_not_lt
 intro hlt
 have:=bitlen_le_iff.2 hlt
 have:=Y0v h
 omega
def luI (L U:Nat) (a:Ivl):Prop:=Q0w a=true∧luQ L U (qN a.lo)∧luQ L U (qN a.hi)
theorem luI.mono {L U L' U':Nat} {a:Ivl} (h:luI L U a) (hl:L≤L') (hu:U≤U'):luI L' U' a:=⟨h.1,h.2.1.mono hl hu,h.2.2.mono hl hu⟩
theorem G1r {p:Int} (h:Z0p p=true):1≤p.toNat:=by
 unfold Z0p at h
 simp only [Bool.and_eq_true,decide_eq_true_eq] at h
 omega
end Go.Pv
end
section
/-Sums of products of small intervals:none fails,and what is in them. No program in it. -/
namespace Go.Pv
def dotQ (X Y:Nat→Rat):Nat→Rat
 | 0=>0
 | n+1=>dotQ X Y n+X n*Y n
theorem X1i :memI 0 default:=by
 have e:qN (default:Ivl).lo=0:=K0w 0
 have e2:qN (default:Ivl).hi=0:=K0w 0
 exact⟨by rw [e];exact Rat.le_refl,by rw [e2];exact Rat.le_refl⟩
theorem v1z {x y:Nat→Ivl} {p:Int} {X Y:Nat→Rat} : ∀n,(dotF x y p n).2=0→(∀k,k<n→memI (X k) (x k)∧memI (Y k) (y k))→memI (dotQ X Y n) (dotF x y p n).1
 | 0,_,_=>X1i
 | n+1,h,hm=>by
  rw [dotF] at h⊢
  by_cases c1:(dotF x y p n).2≠0
  · rw [if_pos c1] at h;exact absurd h c1
  rw [if_neg c1] at h⊢
  have c1:=Classical.not_not.1 c1
  by_cases c2:(opI 2 (x n) (y n) p).2≠0
  · rw [if_pos c2] at h;exact absurd h c2
  rw [if_neg c2] at h⊢
  have c2:=Classical.not_not.1 c2
  have ih:=v1z n c1 fun k hk=>hm k (by omega)
  have hp:=x1g 2 c2 (hm n (by omega)).1 (hm n (by omega)).2
  rw [exQ2] at hp
  by_cases c3:n=0
  · rw [if_pos c3] at h⊢
    subst c3
    show memI (0+X 0*Y 0) _
    rw [Rat.zero_add];exact hp
  rw [if_neg c3] at h⊢
  by_cases c4:(opI 0 (dotF x y p n).1 (opI 2 (x n) (y n) p).1 p).2≠0
  · rw [if_pos c4] at h;exact absurd h c4
  rw [if_neg c4] at h⊢
  have:=x1g 0 h ih hp
  rw [exQ0] at this;exact this
end Go.Pv
end
section
/-By the matrix of ones;what the norm bounds. No program in it. -/
namespace Go.Pv
theorem k0u :qN oneN=1:=by
 have:qN oneN=qM 1 0:=rfl
 rw [this];unfold qM;rw [J2n,Rat.intCast_one,Rat.mul_one]
theorem z1w :qN (default:Nm)=0:=K0w 0
theorem k2i {n i j:Nat} (h1:1≤n) (h4:n≤4) (hi:i<n) (hj:j<n):(idM (n:Int)).length=n∧((idM (n:Int)).getD i []).length=n∧atM (idM (n:Int)) i j=if i=j then⟨oneN,oneN⟩ else default:=by
 have e:idM (n:Int)=(List.range n).map fun i=>(List.range n).map fun j=>if i=j then⟨oneN,oneN⟩ else default:=by
  rw [idM,if_pos (by omega)];rfl
 rw [e]
 have e2:((List.range n).map fun i=>(List.range n).map fun j=>if i=j then(⟨oneN,oneN⟩:Ivl) else default).getD i []=(List.range n).map fun j=>if i=j then(⟨oneN,oneN⟩:Ivl) else default:=by
  simp [List.getD_eq_getElem?_getD,hi]
 refine⟨by simp,by rw [e2];simp,?_⟩
 unfold atM
 rw [e2]
 simp [List.getD_eq_getElem?_getD,hj]
def V0j (i k:Nat):Rat:=if i=k then 1 else 0
theorem K2i {n i k:Nat} (h1:1≤n) (h4:n≤4) (hi:i<n) (hk:k<n):memI (V0j i k) (atM (idM (n:Int)) i k):=by
 rw [(k2i h1 h4 hi hk).2.2]
 unfold V0j
 split
 · exact⟨by show qN oneN≤1;rw [k0u];exact Rat.le_refl,by show 1≤qN oneN;rw [k0u];exact Rat.le_refl⟩
 · exact X1i
theorem z0n {X Y:Nat→Rat} : ∀n,(∀k,k<n→X k*Y k=0)→dotQ X Y n=0
 | 0,_=>rfl
 | n+1,h=>by rw [dotQ,z0n n fun k hk=>h k (by omega),h n (by omega)];exact Rat.add_zero 0
theorem y0i {Y:Nat→Rat} {i:Nat} : ∀n,i<n→dotQ (V0j i) Y n=Y i
 | 0,h=>by omega
 | n+1,h=>by
  rw [dotQ]
  by_cases e:i=n
  · subst e
    rw [z0n i fun k hk=>by unfold V0j;rw [if_neg (by omega),Rat.zero_mul]]
    unfold V0j
    rw [if_pos rfl,Rat.zero_add,Rat.one_mul]
  · rw [y0i n (by omega)]
    unfold V0j
    rw [if_neg e,Rat.zero_mul,Rat.add_zero]
theorem J1h (X Y:Nat→Rat): ∀n,dotQ X Y n=dotQ Y X n
 | 0=>rfl
 | n+1=>by rw [dotQ,dotQ,J1h X Y n,Rat.mul_comm]
theorem V3v {a:Ivl} (h:Q0w a=true):memI (qN a.lo) a:=⟨Rat.le_refl,by have:=q0w h;rwa [J0o,J0o] at this⟩
def inQ1 (A x:Rat):Prop:= -A≤x∧x≤A
theorem q2y {A B x y:Rat} (hx:inQ1 A x) (hy:inQ1 B y):inQ1 (A*B) (x*y):=by
 obtain⟨x1,x2⟩:=hx
 obtain⟨y1,y2⟩:=hy
 have a1:=V0r (a:=A-x) (b:=B+y) (by grind) (by grind)
 have a2:=V0r (a:=A+x) (b:=B-y) (by grind) (by grind)
 have a3:=V0r (a:=A-x) (b:=B-y) (by grind) (by grind)
 have a4:=V0r (a:=A+x) (b:=B+y) (by grind) (by grind)
 exact⟨by grind,by grind⟩
def sumQ (A:Nat→Rat):Nat→Rat
 | 0=>0
 | n+1=>sumQ A n+A n
theorem y0j {X Y A:Nat→Rat} {B:Rat} : ∀n,(∀k,k<n→inQ1 (A k) (X k)∧inQ1 B (Y k))→inQ1 (sumQ A n*B) (dotQ X Y n)
 | 0,_=>by
  show inQ1 (0*B) 0
  rw [Rat.zero_mul];exact⟨by grind,by grind⟩
 | n+1,h=>by
  obtain⟨a1,a2⟩:=y0j n fun k hk=>h k (by omega)
  obtain⟨b1,b2⟩:=q2y (h n (by omega)).1 (h n (by omega)).2
  show inQ1 ((sumQ A n+A n)*B) (dotQ X Y n+X n*Y n)
  exact⟨by grind,by grind⟩
theorem j2x (x:Nm):qN x≤qN (magN x)∧ -qN x≤qN (magN x)∧0≤qN (magN x):=by
 have e:mant (magN x)=(valW x.w:Int):=by unfold mant magN;simp
 have e2:qN (magN x)=qM (valW x.w:Int) x.exp:=by unfold qN;rw [e];rfl
 rw [e2]
 have h0:(0:Rat)=qM 0 x.exp:=(K0w _).symm
 refine⟨?_,?_,?_⟩
 · unfold qN mant
   rw [qM_le];split<;>omega
 · unfold qN mant
   rw [←y0t,qM_le];split<;>omega
 · rw [h0,qM_le];omega
theorem x1p {a:Ivl} {X:Rat} (ha:Q0w a=true) (h:memI X a):inQ1 (qN (magI a)) X∧0≤qN (magI a):=by
 unfold magI
 rw [if_pos ha]
 obtain⟨g1,g2,_⟩:=k1w (magN a.lo) (magN a.hi)
 obtain⟨l1,l2,l3⟩:=j2x a.lo
 obtain⟨u1,u2,u3⟩:=j2x a.hi
 obtain⟨m1,m2⟩:=h
 exact⟨⟨by grind,by grind⟩,by grind⟩
end Go.Pv
end
