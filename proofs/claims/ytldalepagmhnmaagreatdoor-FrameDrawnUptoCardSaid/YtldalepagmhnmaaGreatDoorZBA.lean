/- Parts of the walk: M39, M40, M41. -/
import Derived.Test.YtldalepagmhnmaaGreatDoorZAR
set_option linter.unusedVariables false
set_option linter.unusedSimpArgs false
section
namespace Go.Pv
def luQ (L U:Nat)(x:Rat):Prop:= ∃z:Int,x=qM z (-(L:Int))/\z.natAbs<=2^(L+U)
theorem luQ.up {L U U':Nat}{x:Rat}(h:luQ L U x)(hu:U<=U'):luQ L U' x:=by obtain⟨z,h1,h2⟩:=h;exact⟨z,h1,Nat.le_trans h2 (Nat.pow_le_pow_right oG oG)⟩
theorem luQ.down {L L' U:Nat}{x:Rat}(h:luQ L U x)(hl:L<=L'):luQ L' U x:=by obtain⟨z,h1,h2⟩:=h;refine⟨z*2^(L'-L),?_,?_⟩;rw[H0v,h1];congr 1;omega;have e:(z*2^(L'-L)).natAbs=z.natAbs*2^(L'-L):=(by rw[Int.natAbs_mul,Int.natAbs_pow];rfl);rw[e,show L'+U=(L+U)+(L'-L) from oG,Nat.pow_add];exact Nat.mul_le_mul_right _ h2
theorem luQ.mono {L U L' U':Nat}{x:Rat}(h:luQ L U x)(hl:L<=L')(hu:U<=U'):luQ L' U' x:=(h.down hl).up hu
theorem X3i (v:Vl):(J0m v).natAbs=v.m:=by unfold J0m;split<;>simp
theorem z0x {m:Nat}(h:m≠0):2^(Q0i m-1)<=m:=by apply Nat.le_of_not_lt;intro hlt;have:=bitlen_le_iff.2 hlt;have:=U0k h;omega
def luI (L U:Nat)(a:Ivl):Prop:=Q0w a=true/\luQ L U (qN a.lo)/\luQ L U (qN a.hi)
theorem luI.mono {L U L' U':Nat}{a:Ivl}(h:luI L U a)(hl:L<=L')(hu:U<=U'):luI L' U' a:=⟨h.1,h.2.1.mono hl hu,h.2.2.mono hl hu⟩
theorem k1a {p:Int}(h:Z0c p=true):1<=p.toNat:=by unfold Z0c at h;simp only[q_i,decide_eq_true_eq] at h;omega
def dotQ (X Y:Nat->Rat):Nat->Rat
 | 0=>0
 | n+1=>dotQ X Y n+X n*Y n
theorem V1s :memI 0 default:=by have e:qN (default:Ivl).lo=0:=J0v 0;have e2:qN (default:Ivl).hi=0:=J0v 0;exact⟨by rw[e];exact Rat.le_refl,by rw[e2];exact Rat.le_refl⟩
theorem K2t {x y:Nat->Ivl}{p:Int}{X Y:Nat->Rat} : ∀n,(dotF x y p n).2=0->(∀k,k<n->memI (X k) (x k)/\memI (Y k) (y k))->memI (dotQ X Y n) (dotF x y p n).1
 | 0,_,_=>V1s
 | n+1,h,hm=>by rw[dotF] at h⊢;by_cases c1:(dotF x y p n).2≠0;rw[if_pos c1] at h;exact absurd h c1;rw[if_neg c1] at h⊢;have c1:=Classical.not_not.1 c1;by_cases c2:(opI 2 (x n) (y n) p).2≠0;rw[if_pos c2] at h;exact absurd h c2;rw[if_neg c2] at h⊢;have c2:=Classical.not_not.1 c2;have ih:=K2t n c1 fun k hk=>hm k oG;have hp:=Q2a 2 c2 (hm n oG).1 (hm n oG).2;rw[exQ2] at hp;by_cases c3:n=0;rw[if_pos c3] at h⊢;subst c3;show memI (0+X 0*Y 0) _;rw[Rat.zero_add];exact hp;rw[if_neg c3] at h⊢;by_cases c4:(opI 0 (dotF x y p n).1 (opI 2 (x n) (y n) p).1 p).2≠0;rw[if_pos c4] at h;exact absurd h c4;rw[if_neg c4] at h⊢;have:=Q2a 0 h ih hp;rw[exQ0] at this;exact this
theorem X1v :qN oneN=1:=by have:qN oneN=qM 1 0:=rfl;rw[this];unfold qM;rw[q2p,Rat.intCast_one,Rat.mul_one]
theorem q1e :qN (default:Nm)=0:=J0v 0
theorem G3g :smI ⟨oneN,oneN⟩:=by
 have hb:bdV 6 12 (ofN oneN):=by refine⟨bitlen_le_iff.2 (by decide),?_,?_⟩;show -((12:Nat):Int)<=0;omega;show(0:Int)<=((12:Nat):Int);omega
 exact⟨by decide,hb,hb⟩
theorem y2g :smI default:=⟨by decide,K1d,K1d⟩
theorem k1s {n i j:Nat}(h1:1<=n)(h4:n<=4)(hi:i<n)(hj:j<n):(idM (n:Int)).length=n/\((idM (n:Int)).getD i []).length=n/\atM (idM (n:Int)) i j=if i=j then⟨oneN,oneN⟩ else default:=by
 have e:idM (n:Int)=(List.range n).map fun i=>(List.range n).map fun j=>if i=j then⟨oneN,oneN⟩ else default:=by rw[idM,if_pos oG];rfl
 rw[e];have e2:((List.range n).map fun i=>(List.range n).map fun j=>if i=j then(⟨oneN,oneN⟩:Ivl) else default).getD i []=(List.range n).map fun j=>if i=j then(⟨oneN,oneN⟩:Ivl) else default:=(by simp[q_a,hi]);refine⟨by simp,by rw[e2];simp,?_⟩;unfold atM;rw[e2];simp[q_a,hj]
theorem W3l {n:Nat}(h1:1<=n)(h4:n<=4):smM (idM (n:Int))/\(idM (n:Int)).length=n:=by have hl:=(k1s h1 h4 (i:=0) (j:=0) oG oG).1;refine⟨⟨oG,oG,fun i hi=> ?_⟩,hl⟩;rw[hl] at hi⊢;refine⟨(k1s h1 h4 hi hi).2.1,fun j hj=> ?_⟩;rw[(k1s h1 h4 hi hj).2.2];split;exact G3g;exact y2g
def W0i (i k:Nat):Rat:=if i=k then 1 else 0
theorem z2u {n i k:Nat}(h1:1<=n)(h4:n<=4)(hi:i<n)(hk:k<n):memI (W0i i k) (atM (idM (n:Int)) i k):=by rw[(k1s h1 h4 hi hk).2.2];unfold W0i;split;exact⟨by show qN oneN<=1;rw[X1v];exact Rat.le_refl,by show 1<=qN oneN;rw[X1v];exact Rat.le_refl⟩;exact V1s
theorem j0x {X Y:Nat->Rat} : ∀n,(∀k,k<n->X k*Y k=0)->dotQ X Y n=0
 | 0,_=>rfl
 | n+1,h=>by rw[dotQ,j0x n fun k hk=>h k oG,h n oG];exact Rat.add_zero 0
theorem X1l {Y:Nat->Rat}{i:Nat} : ∀n,i<n->dotQ (W0i i) Y n=Y i
 | 0,h=>by omega
 | n+1,h=>by rw[dotQ];by_cases e:i=n;subst e;rw[j0x i fun k hk=>by unfold W0i;rw[if_neg oG,Rat.zero_mul]];unfold W0i;rw[if_pos rfl,Rat.zero_add,Rat.one_mul];rw[X1l n oG];unfold W0i;rw[if_neg e,Rat.zero_mul,Rat.add_zero]
theorem W1y (X Y:Nat->Rat): ∀n,dotQ X Y n=dotQ Y X n
 | 0=>rfl
 | n+1=>by rw[dotQ,dotQ,W1y X Y n,Rat.mul_comm]
theorem v3p {a:Ivl}(h:Q0w a=true):memI (qN a.lo) a:=⟨Rat.le_refl,by have:=z0w h;rwa [J0b,J0b] at this⟩
def inQ1 (A x:Rat):Prop:= -A<=x/\x<=A
theorem J3c {A B x y:Rat}(hx:inQ1 A x)(hy:inQ1 B y):inQ1 (A*B) (x*y):=by obtain⟨x1,x2⟩:=hx;obtain⟨y1,y2⟩:=hy;have a1:=V0r (a:=A-x) (b:=B+y) (by grind) (by grind);have a2:=V0r (a:=A+x) (b:=B-y) (by grind) (by grind);have a3:=V0r (a:=A-x) (b:=B-y) (by grind) (by grind);have a4:=V0r (a:=A+x) (b:=B+y) (by grind) (by grind);exact⟨by grind,by grind⟩
def sumQ (A:Nat->Rat):Nat->Rat
 | 0=>0
 | n+1=>sumQ A n+A n
theorem X1m {X Y A:Nat->Rat}{B:Rat} : ∀n,(∀k,k<n->inQ1 (A k) (X k)/\inQ1 B (Y k))->inQ1 (sumQ A n*B) (dotQ X Y n)
 | 0,_=>by show inQ1 (0*B) 0;rw[Rat.zero_mul];exact⟨by grind,by grind⟩
 | n+1,h=>by obtain⟨a1,a2⟩:=X1m n fun k hk=>h k oG;obtain⟨b1,b2⟩:=J3c (h n oG).1 (h n oG).2;show inQ1 ((sumQ A n+A n)*B) (dotQ X Y n+X n*Y n);exact⟨by grind,by grind⟩
theorem W3q (x:Nm):qN x<=qN (magN x)/\ -qN x<=qN (magN x)/\0<=qN (magN x):=by
 have e:mant (magN x)=(valW x.w:Int):=by unfold mant magN;simp
 have e2:qN (magN x)=qM (valW x.w:Int) x.exp:=by unfold qN;rw[e];rfl
 rw[e2];have h0:(0:Rat)=qM 0 x.exp:=(J0v _).symm;refine⟨?_,?_,?_⟩;unfold qN mant;rw[qM_le];split<;>omega;unfold qN mant;rw[<-X1w,qM_le];split<;>omega;rw[h0,qM_le];omega
theorem Q2n {a:Ivl}{X:Rat}(ha:Q0w a=true)(h:memI X a):inQ1 (qN (magI a)) X/\0<=qN (magI a):=by unfold magI;rw[if_pos ha];obtain⟨g1,g2,_⟩:=J2f (magN a.lo) (magN a.hi);obtain⟨l1,l2,l3⟩:=W3q a.lo;obtain⟨u1,u2,u3⟩:=W3q a.hi;obtain⟨m1,m2⟩:=h;exact⟨⟨by grind,by grind⟩,by grind⟩
end Go.Pv
end
