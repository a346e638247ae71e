/- Parts of the walk: M65, M66, PvBn, M96, M97. -/
import Derived.Test.YtofoadghajnglaaGreatDoorZCB
import Derived.Test.YtofoadghajnglaaGreatDoorZCC
import Derived.Test.YtofoadghajnglaaGreatDoorZBE
import Derived.Test.YtofoadghajnglaaGreatDoorZBV
import Derived.Test.YtofoadghajnglaaGreatDoorZBN
set_option linter.unusedVariables false
set_option linter.unusedSimpArgs false
section
namespace Go.Pv
theorem x2a {N B:Nat} (hB:0<B) (j:Int):2*j<=((2*(N/B)+(if N % B=0 then 0 else 1):Nat):Int)<->j*B<=(N:Int):=by
 have h3:j<=((N/B:Nat):Int)<->j*B<=(N:Int):=by rw [Int.natCast_ediv];exact Int.le_ediv_iff_mul_le (by omega)
 rw [<-h3];generalize N/B=F;split<;>omega
theorem z2z {N B:Nat} (hB:0<B) (j:Int):2*j<= -((2*(N/B)+(if N % B=0 then 0 else 1):Nat):Int)<->j*B<= -(N:Int):=by
 have h1:=Nat.div_add_mod N B;have h2:=Nat.mod_lt N hB;generalize N/B=F at*
 generalize N % B=r at*
 have hB':(0:Int)<B:=(by exact_mod_cast hB);have h1':(B:Int)*F+r=N:=(by exact_mod_cast h1);have h2':(r:Int)<B:=(by exact_mod_cast h2);clear h1 h2;have up: ∀i:Int,i<=j->i*B<=j*B:=fun i hi=>Int.mul_le_mul_of_nonneg_right hi (Int.le_of_lt hB');have dn: ∀i:Int,j<=i->j*B<=i*B:=fun i hi=>Int.mul_le_mul_of_nonneg_right hi (Int.le_of_lt hB');have e0: -(F:Int)*B= -((B:Int)*F):=(by rw [Int.neg_mul,Int.mul_comm]);have e1:(-(F:Int)-1)*B= -((B:Int)*F)-B:=(by rw [Int.sub_mul,e0,Int.one_mul]);have e2:(-(F:Int)+1)*B= -((B:Int)*F)+B:=(by rw [Int.add_mul,e0,Int.one_mul]);generalize (B:Int)*F=Z at*
 have u0:=up (-(F:Int));have u2:=up (-(F:Int)+1);have d0:=dn (-(F:Int));have d1:=dn (-(F:Int)-1);rw [e0] at u0 d0;rw [e1] at d1;rw [e2] at u2;generalize j*(B:Int)=W at*
 clear up dn e0 e1 e2;split;constructor;intro h;have:=d0 (by omega);omega;intro h;refine Int.not_lt.1 fun hn=> ?_;have:=u2 (by omega);omega;constructor;intro h;have:=d1 (by omega);omega;intro h;refine Int.not_lt.1 fun hn=> ?_;have:=u0 (by omega);omega
theorem K3c {p:Nat} {x:Rat} (h:j1w p x) (g:Int):(∃j:Int,x=qM j g)\/(qM (-((2^p:Nat):Int)) g<=x/\x<=qM ((2^p:Nat):Int) g):=by
 obtain⟨m,e,rfl,hm⟩:=h;by_cases he:g<=e;exact .inl ⟨_,x1r m e g he⟩;right;have hpos:(1:Int)<=2^(g-e).toNat:=by
  have:0<2^(g-e).toNat:=Nat.two_pow_pos _
  exact_mod_cast this
 rw [x1r _ g e (by omega),x1r _ g e (by omega),qM_le,qM_le,Int.neg_mul];generalize 2^p=P at*
 have h1:(P:Int)<=P*2^(g-e).toNat:=by
  calc (P:Int)=P*1:=(Int.mul_one _).symm
   _<=_:=Int.mul_le_mul_of_nonneg_left hpos (Int.natCast_nonneg _)
 generalize (P:Int)*2^(g-e).toNat=Z at*
 omega
theorem j2o {A B p:Nat} (hA:A≠0):2^(p+1)*B<=A*2^K0t A B p:=by
 have h1:=Y1t hA;have h2:=Nat.le_of_lt (Z0a B);have h0:1<=Q0g A:=(by unfold Q0g;rw [if_neg hA];omega);unfold K0t
 calc 2^(p+1)*B<=2^(p+1)*2^Q0g B:=Nat.mul_le_mul_left _ h2
  _=2^(p+1+Q0g B):=by rw [<-Nat.pow_add]
  _<=2^((Q0g A-1)+(p+2+Q0g B-Q0g A)):=Nat.pow_le_pow_right (by decide) (by omega)
  _=2^(Q0g A-1)*2^(p+2+Q0g B-Q0g A):=Nat.pow_add ..
  _<=A*2^(p+2+Q0g B-Q0g A):=Nat.mul_le_mul_right _ h1
theorem y2l {a b:Vl} {p:Nat} (hb:b.neg=false) (hB:0<b.m) {x:Rat} (hx:j1w p x):x<=qV (ratV a b p)<->x*qV b<=qV a:=by
 have hqb:qV b=qM (b.m:Int) b.e:=by unfold qV J0o;rw [hb];rfl
 have hb0:0<qV b:=by rw [hqb,<-W0c b.e,qM_lt];omega
 by_cases hA:a.m=0;have e1:qV (ratV a b p)=0:=(by unfold ratV;rw [if_pos hA];exact W0c 0);rw [e1,K1v hA];constructor;intro h;have:=Rat.mul_le_mul_of_nonneg_right h (Rat.le_of_lt hb0);rwa [Rat.zero_mul] at this;intro h;exact Rat.le_of_mul_le_mul_right (by rwa [Rat.zero_mul]) hb0;obtain⟨t,ht⟩: ∃t,K0t a.m b.m p=t:=⟨_,rfl⟩;have big:=j2o (B:=b.m) (p:=p) hA;rw [ht] at big;have hv:qV (ratV a b p)=qM (if a.neg=true then -((2*(a.m*2^t/b.m)+(if a.m*2^t % b.m=0 then 0 else 1):Nat):Int) else((2*(a.m*2^t/b.m)+(if a.m*2^t % b.m=0 then 0 else 1):Nat):Int)) (a.e-b.e-(t:Int)-1):=by unfold ratV j0y;rw [if_neg hA,j0k,hb,ht,Bool.bne_false]
 have ha:qV a=qM (if a.neg=true then -((a.m*2^t:Nat):Int) else((a.m*2^t:Nat):Int)) (a.e-(t:Int)):=by
  have e1:(if a.neg=true then -((a.m*2^t:Nat):Int) else((a.m*2^t:Nat):Int))=J0o a*2^t:=by unfold J0o;cases a.neg<;>simp [Int.neg_mul]
  rw [e1,X1n];unfold qV;congr 1;omega
 rw [hqb] at hb0;rw [hv,ha,hqb];generalize a.m*2^t=N at*
 have hg: ∀j:Int,qM j (a.e-b.e-(t:Int))*qM (b.m:Int) b.e=qM (j*b.m) (a.e-(t:Int)):=fun j=>by rw [<-V2j];congr 1;omega
 have hg2: ∀j:Int,qM j (a.e-b.e-(t:Int))=qM (2*j) (a.e-b.e-(t:Int)-1):=fun j=>by rw [Int.mul_comm,show(2:Int)=2^1 from rfl,X1n];congr 1;omega
 rcases K3c hx (a.e-b.e-(t:Int)) with ⟨j,rfl⟩ | ⟨l1,l2⟩;rw [hg,hg2,qM_le,qM_le];cases a.neg;exact x2a hB j;exact z2z hB j;have hF:2^(p+1)<=N/b.m:=(Nat.le_div_iff_mul_le hB).2 big;have hP:=Nat.two_pow_pos p;rw [Nat.pow_succ] at hF big;generalize 2^p=P at*
 have big2:2*((P:Int)*b.m)<=N:=by
  have:P*2*b.m<=N:=big;have e:P*2*b.m=2*(P*b.m):=(by rw [Nat.mul_comm P 2,Nat.mul_assoc]);rw [e] at this
  exact_mod_cast this
 have hPB:(0:Int)<(P:Int)*b.m:=by
  have:=Nat.mul_pos hP hB
  exact_mod_cast this
 cases hn:a.neg;rw [if_neg Bool.false_ne_true,if_neg Bool.false_ne_true];refine⟨fun _=> ?_,fun _=> ?_⟩;refine Rat.le_trans (Rat.mul_le_mul_of_nonneg_right l2 (Rat.le_of_lt hb0)) ?_;rw [hg,qM_le];omega;refine Rat.le_trans l2 ?_;rw [hg2,qM_le];omega;rw [if_pos rfl,if_pos rfl];constructor;intro h;exfalso;have:=Rat.le_trans l1 h;rw [hg2,qM_le] at this;omega;intro h;exfalso;have:=Rat.le_trans (Rat.mul_le_mul_of_nonneg_right l1 (Rat.le_of_lt hb0)) h;rw [hg,qM_le,Int.neg_mul] at this;omega
theorem q2t (a:Vl) {b:Vl} (p:Nat) (hb:b.neg=false):qV (ratV (V0b a) b p)= -qV (ratV a b p):=by by_cases h0:a.m=0;have e:V0b a=a:=(by unfold V0b;rw [if_pos h0]);have e1:qV (ratV a b p)=0:=(by unfold ratV;rw [if_pos h0];exact W0c 0);rw [e,e1];rfl;have e3:(V0b a).neg= !a.neg:=(by unfold V0b;rw [if_neg h0]);unfold ratV;rw [w0v,w0w,e3,if_neg h0,if_neg h0,j0k,j0k,<-v1r,hb];congr 1;cases a.neg<;>simp
theorem q1g {p:Nat} {x:Rat} (hx:j1w p x):j1w p (-x):=by obtain⟨m,e,rfl,h⟩:=hx;exact⟨-m,e,(v1r _ _).symm,by rw [Int.natAbs_neg];exact h⟩
theorem U3y {a b:Vl} {p:Nat} (hb:b.neg=false) (hB:0<b.m) {x:Rat} (hx:j1w p x):qV (ratV a b p)<=x<->qV a<=x*qV b:=by have:=y2l (a:=V0b a) hb hB (q1g hx);rw [q2t a p hb,H0d,Rat.neg_mul] at this;constructor;intro h;have:=this.1 (by grind);grind;intro h;have:=this.2 (by grind);grind
theorem K3b (v:Vl) (p:Nat):j1w p (qV (Z0c v p true)):=by rw [Q2v];exact q1g (U2f _ _)
theorem q1u {a:Ivl} {c:Nm} {p:Int} (h:(divI a c p).2=0):Q0l a=true/\Z0m p=true:=by unfold divI at h;split at h;assumption;cases h
theorem G2e {a:Ivl} {c:Nm} {p:Int} (h:(divI a c p).2=0):qN (divI a c p).1.lo=qV (Z0c (ratV (ofN a.lo) (ofN c) p.toNat) p.toNat false)/\qN (divI a c p).1.hi=qV (Z0c (ratV (ofN a.hi) (ofN c) p.toNat) p.toNat true):=by have hr:=q1u h;unfold divI at h⊢;rw [if_pos hr] at h⊢;exact v2j (U0t (Z1m _ _ _) _ _) (U0t (Z1m _ _ _) _ _) h
theorem v2q {a:Ivl} {c:Nm} {p:Int} (hc:c.neg=false) (h0:0<valW c.w) (h:(divI a c p).2=0) {X:Rat} (hX:memI (X*qN c) a):memI X (divI a c p).1:=by
 obtain⟨e1,e2⟩:=G2e h;have hq:0<qV (ofN c):=by unfold qV;rw [<-W0c (ofN c).e,qM_lt];show 0<mant c;unfold mant;rw [hc,if_neg (by simp)];omega
 have r1:=(y2l (a:=ofN a.lo) (b:=ofN c) hc h0 (U2f (ratV (ofN a.lo) (ofN c) p.toNat) p.toNat)).1 (G1z _ _);have r2:=(U3y (a:=ofN a.hi) (b:=ofN c) hc h0 (K3b (ratV (ofN a.hi) (ofN c) p.toNat) p.toNat)).1 (H1a _ _);rw [U0g,U0g] at r1 r2;rw [U0g] at hq;rw [<-e1] at r1;rw [<-e2] at r2;exact⟨Rat.le_of_mul_le_mul_right (Rat.le_trans r1 hX.1) hq,Rat.le_of_mul_le_mul_right (Rat.le_trans hX.2 r2) hq⟩
theorem G3i : ∀n,n<12->0<n->(ptW n).neg=false/\0<valW (ptW n).w/\0<=(ptW n).exp/\(ptW n).exp+(Q0g (valW (ptW n).w):Int)<=4:=by decide+kernel
def Z0v (l:List (List (List Ivl))):List PV:=l.map fun c=>(.sl .no (encM c))
@[go_sem] theorem J0d (l:List (List (List Ivl))):(Z0v l).length=l.length:=by simp [Z0v]
@[go_sem] theorem q3z :Z0v []= []:=(rfl)
@[go_sem] theorem v3v (l:List (List (List Ivl))):(Z0v l).all (fun x=>x.cells.length==1)=true:=by simp [Z0v,PV.cells]
@[go_sem] theorem v3w (l:List (List (List Ivl))):(Z0v l).all (fun x=>(x.cells.length==1)&&x.cells.all PV.cellOK)=true:=by simp [Z0v,PV.cells,PV.cellOK,Value.oneCell']
@[go_sem] theorem Y3o (l:List (List (List Ivl))) (n:Nat):(Z0v l).take n=Z0v (l.take n):=by simp [Z0v]
@[go_sem] theorem Y3p (l:List (List (List Ivl))) (n:Nat):(Z0v l).drop n=Z0v (l.drop n):=by simp [Z0v]
@[go_sem] theorem z3b (l m:List (List (List Ivl))):Z0v l++Z0v m=Z0v (l++m):=by simp [Z0v]
@[go_sem] theorem X2q (l:List (List (List Ivl))) (c:(List (List Ivl))):Z0v l++ [.sl .no (encM c)]=Z0v (l++ [c]):=by simp [Z0v]
theorem X0v (l:List (List (List Ivl))) (n:Nat) (h:n<l.length):(Z0v l).getD n .junk= .sl .no (encM (l.getD n [])):=by simp [Z0v,List.getD_eq_getElem?_getD,h]
@[go_sem] theorem z3a (l:List (List (List Ivl))) (i:Nat) (cs:List PV):(Z0v l).map (PV.frz i cs)=Z0v l:=by simp only [Z0v,List.map_map];exact List.map_congr_left fun a _=>rfl
theorem U3q {α:Type} (d:α) (l:List α) {i:Nat} (h:i<l.length):l.take (i+1)=l.take i++ [l.getD i d]:=by rw [List.take_succ_eq_append_getElem h];simp [List.getD_eq_getElem?_getD,h]
theorem y0p (l:List (List (List Ivl))):flat (Z0v l)=Z0v l:=by
 unfold Z0v flat
 induction l with
 | nil=>rfl
 | cons x l ih=>simp only [List.map_cons,List.flatten_cons,ih];rfl
theorem q1o (l:List (List (List Ivl))): ∀i,i<(Z0v l).length->((Z0v l).getD i .junk).cells.length=1:=fun i hi=>by rw [J0d] at hi;rw [X0v l i hi];rfl
theorem X3b {a b:Nm} (ha:Q0r a=true) (hb:Q0r b=true) (ha0:qN a≠0) (hb0:qN b≠0) (h:(strN 2 a b).2=0):Q0r (strN 2 a b).1=true/\(strN 2 a b).1.w.length≠0:=by unfold strN at h⊢;rw [if_pos ⟨ha,hb⟩] at h⊢;have hc:canV (exV 2 (ofN a) (ofN b)):=k1p 2 (G0y ha) (G0y hb);refine⟨V0d (x0a hc),fun e=> ?_⟩;have h1:=(v0t hc h).2;rw [G3b e,G3a,exQ2,U0g,U0g] at h1;rcases Rat.mul_eq_zero.1 h1.symm with h2 | h2;exact ha0 h2;exact hb0 h2
def H3j (n:Int) (m:Mn):Prop:=W0v m n=true/\m.c.w.length≠0
theorem J1w {n:Int} {i:Nat} (hi:(i:Int)<n): ∀(p acc:List Mn),(∀m∈p,H3j n m)->J1m (p.map Mn.ks)->(G0n i p acc).2=0->
 ∃q,(G0n i p acc).1=acc++q/\q.length<=p.length/\(∀m∈q,H3j n m/\ ∃m'∈p,m.ks=decK m'.ks i)/\J1m (q.map Mn.ks)
 | [],acc,_,_,_=>⟨[],by simp [G0n],Nat.le_refl _,(fun m hm=>by cases hm),List.Pairwise.nil⟩
 | m::r,acc,hg,hf,h=>by
  obtain⟨f1,f2⟩:=List.pairwise_cons.1 hf;have ih:=fun acc=>J1w hi r acc (fun m hm=>hg m (List.mem_cons_of_mem _ hm)) f2;rw [G0n] at h⊢;by_cases c:m.ks.getD i 0=0;rw [if_pos c] at h⊢;obtain⟨q,q1,q2,q3,q4⟩:=ih acc h;refine⟨q,q1,by simp only [List.length_cons];omega,fun x hx=> ?_,q4⟩;obtain⟨z1,m',z2,z3⟩:=q3 x hx;exact⟨z1,m',List.mem_cons_of_mem _ z2,z3⟩;rw [if_neg c] at h⊢;obtain⟨g1,g2⟩:=hg m (List.mem_cons_self ..);obtain⟨k1,k2,k3⟩:=(z0m _ _).1 g1;have hil:i<m.ks.length:=(by omega);have hat:=W0t k2 i hil;obtain⟨i1,i2⟩:=w1o (k:=(m.ks.getD i 0).toNat) (by omega);have hi0:qN (intN (m.ks.getD i 0).toNat)≠0:=by rw [<-U0g,i2,j0k];simp only [Bool.false_eq_true,if_false];intro e;have e2:qM (((m.ks.getD i 0).toNat:Nat):Int) 0=(((m.ks.getD i 0).toNat:Nat):Rat):=(by unfold qM;rw [V2y,Rat.mul_one];rfl);rw [e2] at e;have:(m.ks.getD i 0).toNat=0:=(by exact_mod_cast e);omega
  by_cases d:(strN 2 m.c (intN (m.ks.getD i 0).toNat)).2=0;rw [if_neg (by rw [d];decide)] at h⊢;obtain⟨s1,s2⟩:=X3b k3 i1 (G3c k3 g2) hi0 d;obtain⟨q,q1,q2,q3,q4⟩:=ih _ h;refine⟨⟨(strN 2 m.c (intN (m.ks.getD i 0).toNat)).1,decK m.ks i⟩::q,by rw [q1,List.append_assoc];rfl,by simp only [List.length_cons];omega,fun x hx=> ?_,?_⟩;rcases List.mem_cons.1 hx with rfl | hx;exact⟨⟨(z0m _ _).2 ⟨by show((decK m.ks i).length:Int)=n;rw [W0i];exact k1,Z2a k2 hil c,s1⟩,s2⟩,m,List.mem_cons_self ..,rfl⟩;obtain⟨z1,m',z2,z3⟩:=q3 x hx;exact⟨z1,m',List.mem_cons_of_mem _ z2,z3⟩;refine List.pairwise_cons.2 ⟨fun ks hks=> ?_,q4⟩;obtain⟨x,hx,rfl⟩:=List.mem_map.1 hks;obtain⟨_,m',z2,z3⟩:=q3 x hx;rw [z3];show ordK (decK m.ks i) (decK m'.ks i)=1;rw [Y1x];exact f1 _ (List.mem_map.2 ⟨m',z2,rfl⟩);rw [if_pos d] at h;exact absurd h d
theorem k1f {p:List Mn} {i n:Int} (h:(q0w p i n).2=0):X0b (q0w p i n).1 n=true:=by unfold q0w at h⊢;by_cases c:X0b p n=true/\0<=i/\i<n;rotate_left;rw [if_neg c] at h;cases h;rw [if_pos c] at h⊢;obtain⟨c1,c2,c3⟩:=c;obtain⟨l1,l2⟩:=(X0i p n).1 c1;obtain⟨q,q1,q2,q3,q4⟩:=J1w (n:=n) (i:=i.toNat) (by omega) p [] (fun m hm=>by obtain⟨j,hj,e⟩:=List.mem_iff_getElem.1 hm;have:=(W0d _ _ _).1 (l2 j hj);rw [show p.getD j default=m by simp [List.getD_eq_getElem?_getD,hj,e]] at this;exact⟨this.1,this.2.1⟩) (Q1c c1) h;rw [q1,List.nil_append];refine(X0i _ _).2 ⟨⟨l1.1,l1.2.1,by omega⟩,fun j hj=> ?_⟩;have hm: ∀j,j<q.length->q.getD j default∈q:=fun j hj=>(by rw [show q.getD j default=q[j] by simp [List.getD_eq_getElem?_getD,hj]];exact List.getElem_mem hj);obtain⟨⟨g1,g2⟩,_⟩:=q3 _ (hm j hj);refine(W0d _ _ _).2 ⟨g1,g2,?_⟩;by_cases e:j=0;exact .inl e;refine .inr ?_;have:=List.pairwise_iff_getElem.1 q4 (j-1) j (by simp;omega) (by simpa using hj) (by omega);simpa [List.getD_eq_getElem?_getD,hj,(by omega:j-1<q.length)] using this
def okJ (n:Nat) (jac:List (List (List Mn))):Prop:=jac.length=n/\ ∀i,i<n->(jac.getD i []).length=n/\ ∀l,l<n->X0b ((jac.getD i []).getD l []) n=true
theorem j1o {f:List (List Mn)} (h:(jacF f).2=0):okJ f.length (jacF f).1:=by unfold jacF at h⊢;by_cases c:K0e f=true;rotate_left;rw [if_neg c] at h;cases h;rw [if_pos c] at h⊢;obtain⟨a1,a2,a3⟩:=V0a h;refine⟨a1,fun i hi=> ?_⟩;have e1:(tabF (fun i=>tabF (fun j=>jacG f i j) 0 f.length []) 0 f.length []).1.getD i []=(tabF (fun j=>jacG f i j) 0 f.length []).1:=a3 i hi;have h2:=a2 i hi;obtain⟨b1,b2,b3⟩:=V0a h2;rw [e1];refine⟨b1,fun l hl=> ?_⟩;have e2:(tabF (fun j=>jacG f i j) 0 f.length []).1.getD l []=(jacG f i l).1:=b3 l hl;rw [e2];exact k1f (b2 l hl)
def e02 (e:Int):Prop:=e=0\/e=2
theorem w1x (lo hi:Vl):e02 (Y0a lo hi).2:=by unfold Y0a e02;split<;>simp
theorem W1m {k:Nat} {a b:Ivl} {p:Int} (ha:Q0l a=true) (hb:Q0l b=true) (hp:Z0m p=true):e02 (opI k a b p).2:=by unfold opI;rw [if_pos ⟨ha,hb,hp⟩];exact w1x _ _
theorem K3s {a:Ivl} {c:Nm} {p:Int} (ha:Q0l a=true) (hp:Z0m p=true):e02 (divI a c p).2:=by unfold divI;rw [if_pos ⟨ha,hp⟩];exact w1x _ _
theorem k0m {β:Type} {G:Nat->β×Int} : ∀(k i:Nat) (acc:List β),(∀j,i<=j->j<i+k->e02 (G j).2)->e02 (tabF G i k acc).2
 | 0,i,acc,_=> .inl rfl
 | k+1,i,acc,h=>by simp only [tabF];split;exact h i (by omega) (by omega);exact k0m k _ _ fun j h1 h2=>h j (by omega) (by omega)
theorem v1i {β:Type} {G:Nat->β×Int} : ∀(k i:Nat) (acc:List β),(tabF G i k acc).2≠0->(tabF G i k acc).1= []
 | 0,i,acc,h=>absurd rfl h
 | k+1,i,acc,h=>by simp only [tabF] at h⊢;split;rfl;rename_i c;rw [if_neg c] at h;exact v1i k _ _ h
theorem k0o {p:Int} : ∀(l:List (Ivl×Ivl)) (sm:Bool) (s:Ivl),Q0l s=true->Q0l (j0f p l sm s).1=true
 | [],sm,s,h=>h
 | x::l,sm,s,h=>by rw [H0x];split;split;split;exact k0o l _ _ (X0p _ _ _ _);rfl;exact k0o l _ _ (X0p _ _ _ _);rfl
theorem J1t {p:Int} (hp:Z0m p=true): ∀(l:List (Ivl×Ivl)) (sm:Bool) (s:Ivl),Q0l s=true->(∀x∈l,Q0l x.1=true/\Q0l x.2=true)->e02 (j0f p l sm s).2
 | [],sm,s,_,_=> .inl rfl
 | x::l,sm,s,h,hl=>by obtain⟨x1,x2⟩:=hl x (List.mem_cons_self ..);have hl':=fun y hy=>hl y (List.mem_cons_of_mem _ hy);rw [H0x];split;split;split;exact J1t hp l _ _ (X0p _ _ _ _) hl';exact W1m h (X0p _ _ _ _) hp;exact J1t hp l _ _ (X0p _ _ _ _) hl';exact W1m x1 x2 hp
theorem k1h (a b:List Ivl) (k:Nat) (p:Int):Q0l (V0m a b k p).1=true:=by unfold V0m;split;exact k0o _ _ _ rfl;rfl
theorem U2y {a b:List Ivl} {k:Nat} {p:Int} (hp:Z0m p=true) (ha:X0u a k=true) (hb:X0u b k=true):e02 (V0m a b k p).2:=by unfold V0m;rw [if_pos ⟨hp,ha,hb⟩];refine J1t hp _ _ _ rfl fun x hx=> ?_;unfold z0i at hx;obtain⟨i,hi,rfl⟩:=List.mem_map.1 hx;have hi:=List.mem_range.1 hi;exact⟨x0u ha (by omega),x0u hb (by omega)⟩
theorem w0c {a:List Ivl} {k j:Nat} (h:X0u a k=true) (hj:j<=k):X0u a j=true:=x0t (by have:=z0q h;omega) fun i hi=>x0u h (by omega)
theorem U2w {a b:List Ivl} {k:Nat} {p:Int} (hp:Z0m p=true) (ha:X0u a k=true) (hb:X0u b k=true):e02 (U0f a b k p).2:=
 k0m _ _ _ fun j _ hj=>U2y hp (w0c ha (by omega)) (w0c hb (by omega))
theorem q2v {a b:List Ivl} {k:Nat} {p:Int} (h:(U0f a b k p).2=0):X0u (U0f a b k p).1 k=true:=by obtain⟨h1,h2,h3⟩:=V0a h;refine x0t (by show k<(tabF _ _ _ _).1.length;omega) fun j hj=> ?_;show Q0l ((tabF (fun j=>V0m a b j p) 0 (k+1) []).1.getD j default)=true;rw [h3 j (by omega)];exact k1h _ _ _ _
theorem H1p {s x:List Ivl} {k:Nat} {p:Int} (hp:Z0m p=true) (hs:X0u s k=true) (hx:X0u x k=true): ∀n,e02 (K0m s x k p n).2/\((K0m s x k p n).2=0->X0u (K0m s x k p n).1 k=true)
 | 0=>⟨.inl rfl,fun _=>hs⟩
 | n+1=>by obtain⟨h1,h2⟩:=H1p hp hs hx n;rw [K0m];by_cases c:(K0m s x k p n).2=0;rw [if_neg (by rw [c];decide)];exact⟨U2w hp (h2 c) hx,q2v⟩;rw [if_pos c];exact⟨h1,fun h=>absurd h c⟩
theorem J3e {c:Nm} (hc:Q0r c=true) (k:Nat):X0u (numS c k) k=true:=by
 refine x0t (by simp [numS]) fun j hj=> ?_;cases j with
 | zero=>exact k0b hc
 | succ j=>
  have:(numS c k).getD (j+1) default=default:=by show(List.replicate k (default:Ivl)).getD j default=default;simp [List.getD_eq_getElem?_getD,(by omega:j<k)]
  rw [this];rfl
theorem H1o {m:Mn} {xs:List (List Ivl)} {k:Nat} {p:Int} (hp:Z0m p=true) (hm:Q0r m.c=true) (hx: ∀i,i<xs.length->X0u (xs.getD i []) k=true): ∀i,i<=xs.length->e02 (X0h m xs k p i).2/\((X0h m xs k p i).2=0->X0u (X0h m xs k p i).1 k=true)
 | 0,_=>⟨.inl rfl,fun _=>J3e hm k⟩
 | i+1,hi=>by obtain⟨h1,h2⟩:=H1o hp hm hx i (by omega);rw [X0h];by_cases c:(X0h m xs k p i).2=0;rw [if_neg (by rw [c];decide)];exact H1p hp (h2 c) (hx i (by omega)) _;rw [if_pos c];exact⟨h1,fun h=>absurd h c⟩
theorem H1t (q:List Mn) (xs:List (List Ivl)) (k:Nat) (p:Int): ∀i,Q0l (ofS q xs k p i).1=true
 | 0=>rfl
 | i+1=>by rw [ofS];split;rfl;split;rfl;exact X0p _ _ _ _
theorem q0f (q:List Mn) (xs:List (List Ivl)) (k p:Int):Q0l (W0b q xs k p).1=true:=by unfold W0b;split;exact H1t _ _ _ _ _;rfl
theorem W2h {q:List Mn} {xs:List (List Ivl)} {k:Nat} {p:Int} (hp:Z0m p=true) (hq: ∀i,i<q.length->Q0r (q.getD i default).c=true) (hx: ∀i,i<xs.length->X0u (xs.getD i []) k=true): ∀i,i<=q.length->e02 (ofS q xs k p i).2
 | 0,_=> .inl rfl
 | i+1,hi=>by have ih:=W2h hp hq hx i (by omega);obtain⟨h1,h2⟩:=H1o hp (hq i (by omega)) hx xs.length (Nat.le_refl _);rw [ofS];by_cases c:(ofS q xs k p i).2=0;rw [if_neg (by rw [c];decide)];by_cases d:(X0h (q.getD i default) xs k p xs.length).2=0;rw [if_neg (by rw [d];decide)];exact W1m (H1t _ _ _ _ _) (x0u (h2 d) (Nat.le_refl _)) hp;rw [if_pos d];exact h1;rw [if_pos c];exact ih
theorem G1s {q:List Mn} {xs:List (List Ivl)} {k:Nat} {p:Int} (hp:Z0m p=true) (hk:k<=10) (hq:X0b q xs.length=true) (hx: ∀i,i<xs.length->X0u (xs.getD i []) k=true):e02 (W0b q xs k p).2:=by unfold W0b;split;rw [Int.toNat_natCast];exact W2h hp (fun i hi=>(K0l hq hi).2.2) hx _ (Nat.le_refl _);rename_i c;refine absurd ⟨?_,hq,?_⟩ c;unfold y0y;rw [hp];simp;omega;rw [Int.toNat_natCast];exact all_hasUp.2 hx
theorem W1p {a:Ivl} {c:Nm} {p:Int} (hc:c.neg=false) (h0:0<valW c.w) (hq:0<qN c):Q0l (divI a c p).1=true:=by by_cases h:(divI a c p).2=0;obtain⟨h1,h2⟩:=q1u h;have hle:=y0g h1;rw [U0g,U0g] at hle;have hm:=v2q hc h0 h (X:=qN a.lo/qN c) (by rw [Rat.div_mul_cancel (by grind)];exact⟨Rat.le_refl,hle⟩);have r:Q0r (divI a c p).1.lo=true/\Q0r (divI a c p).1.hi=true:=(by unfold divI Y0a;split;split;exact⟨V0d (x0a (U0t (Z1m _ _ _) _ _)),V0d (x0a (U0t (Z1m _ _ _) _ _))⟩;exact⟨rfl,rfl⟩;exact⟨rfl,rfl⟩);exact X1d r.1 r.2 (cmpN_le.2 (Rat.le_trans hm.1 hm.2));have:(divI a c p).1=default:=(by unfold divI at h⊢;split;rename_i c1;rw [if_pos c1] at h;unfold Y0a at h⊢;split;rename_i c2;rw [if_pos c2] at h;exact absurd rfl h;rfl;rfl);rw [this];rfl
def Z0x (jac:List (List (List Mn))) (xs:List (List Ivl)) (p:Int) (i l q:Nat):Ivl×Int:=W0b ((jac.getD i []).getD l []) xs q p
def slB (jac:List (List (List Mn))) (xs:List (List Ivl)) (p:Int) (n q:Nat):Bool:=(List.range n).all fun i=>(List.range n).all fun l=>decide ((Z0x jac xs p i l q).2=0)
theorem slB_iff {jac:List (List (List Mn))} {xs:List (List Ivl)} {p:Int} {n q:Nat} :slB jac xs p n q=true<-> ∀i,i<n-> ∀l,l<n->(Z0x jac xs p i l q).2=0:=by unfold slB;simp only [List.all_eq_true,List.mem_range,decide_eq_true_eq]
def varX (D:Nat->Nat->Ivl) (k t:Nat):Ivl:=D (t/(k+1)) (t % (k+1))
def varY (ms:List Mx) (j k t:Nat):Ivl:=atM (ms.getD (k-t % (k+1)) []) (t/(k+1)) j
def rowD (jac:List (List (List Mn))) (xs:List (List Ivl)) (p:Int) (i:Nat) (l q:Nat):Ivl:=(Z0x jac xs p i l q).1
def entV (D:Nat->Nat->Ivl) (p:Int) (n:Nat) (ms:List Mx) (j k:Nat):Ivl×Int:=
 if (dotF (varX D k) (varY ms j k) p (n*(k+1))).2≠0 then(default,(dotF (varX D k) (varY ms j k) p (n*(k+1))).2) else divI (dotF (varX D k) (varY ms j k) p (n*(k+1))).1 (ptW (k+1)) p
def matV (jac:List (List (List Mn))) (xs:List (List Ivl)) (p:Int) (n:Nat) (ms:List Mx) (k:Nat):Mx×Int:=H0u (fun i j=>entV (rowD jac xs p i) p n ms j k) n
def varN (jac:List (List (List Mn))) (xs:List (List Ivl)) (p:Int) (n:Nat):Nat->List Mx×Int
 | 0=>([idM n],0)
 | k+1=>if (varN jac xs p n k).2≠0 then([],(varN jac xs p n k).2) else if slB jac xs p n k=false then([],2) else
  if (matV jac xs p n (varN jac xs p n k).1 k).2≠0 then([],(matV jac xs p n (varN jac xs p n k).1 k).2) else((varN jac xs p n k).1++ [(matV jac xs p n (varN jac xs p n k).1 k).1],0)
def matN (jac:List (List (List Mn))) (xs:List (List Ivl)) (p:Int) (n:Nat):Nat->List Mx×Int
 | 0=>([idM n],0)
 | k+1=>if (matN jac xs p n k).2≠0 then([],(matN jac xs p n k).2) else
  if (matV jac xs p n (matN jac xs p n k).1 k).2≠0 then([],(matV jac xs p n (matN jac xs p n k).1 k).2) else((matN jac xs p n k).1++ [(matV jac xs p n (matN jac xs p n k).1 k).1],0)
def Y0b (f:List (List Mn)) (x:List Ivl) (order p:Int):List Mx×Int:=
 if (V0t f x order p).2≠0 then([],(V0t f x order p).2) else if (jacF f).2≠0 then([],(jacF f).2) else varN (jacF f).1 (V0t f x order p).1 p f.length order.toNat
theorem k0x {jac:List (List (List Mn))} {xs:List (List Ivl)} {p:Int} {n k:Nat} (h:(varN jac xs p n k).2≠0): ∀d,varN jac xs p n (k+1+d)=([],(varN jac xs p n k).2)
 | 0=>by rw [Nat.add_zero,varN,if_pos h]
 | d+1=>by rw [<-Nat.add_assoc,varN,if_pos (by rw [k0x h d];exact h),k0x h d]
theorem J1a {jac:List (List (List Mn))} {xs:List (List Ivl)} {p:Int} {n k:Nat} (h:(matN jac xs p n k).2≠0): ∀d,matN jac xs p n (k+1+d)=([],(matN jac xs p n k).2)
 | 0=>by rw [Nat.add_zero,matN,if_pos h]
 | d+1=>by rw [<-Nat.add_assoc,matN,if_pos (by rw [J1a h d];exact h),J1a h d]
theorem q1h {G:Nat->Nat->Ivl×Int} {n:Nat} (h:(H0u G n).2=0):(H0u G n).1.length=n/\ ∀i,i<n->((H0u G n).1.getD i []).length=n/\ ∀j,j<n->(G i j).2=0/\atM (H0u G n).1 i j=(G i j).1:=by obtain⟨a1,a2,a3⟩:=V0a h;refine⟨a1,fun i hi=> ?_⟩;have e:(H0u G n).1.getD i []=(tabF (fun j=>G i j) 0 n []).1:=a3 i hi;obtain⟨b1,b2,b3⟩:=V0a (a2 i hi);rw [e];refine⟨b1,fun j hj=>⟨b2 j hj,?_⟩⟩;unfold atM;rw [e];exact b3 j hj
def allI (ms:List Mx):Prop:= ∀m∈ms,∀r∈m,∀x∈r,Q0l x=true
theorem U1t {ms:List Mx} (h:allI ms) (m l j:Nat):Q0l (atM (ms.getD m []) l j)=true:=by unfold atM;by_cases h1:m<ms.length;rw [show ms.getD m []=ms[m] by simp [List.getD_eq_getElem?_getD,h1]];by_cases h2:l<ms[m].length;rw [show ms[m].getD l []=ms[m][l] by simp [List.getD_eq_getElem?_getD,h2]];by_cases h3:j<ms[m][l].length;rw [show ms[m][l].getD j default=ms[m][l][j] by simp [List.getD_eq_getElem?_getD,h3]];exact h _ (List.getElem_mem h1) _ (List.getElem_mem h2) _ (List.getElem_mem h3);rw [show ms[m][l].getD j default=default by simp [List.getD_eq_getElem?_getD,List.getElem?_eq_none (Nat.le_of_not_lt h3)]];rfl;rw [show ms[m].getD l []= [] by simp [List.getD_eq_getElem?_getD,List.getElem?_eq_none (Nat.le_of_not_lt h2)]];rfl;rw [show ms.getD m []= [] by simp [List.getD_eq_getElem?_getD,List.getElem?_eq_none (Nat.le_of_not_lt h1)]];rfl
theorem y0t (x y:Nat->Ivl) (p:Int): ∀n,Q0l (dotF x y p n).1=true
 | 0=>rfl
 | n+1=>by rw [dotF];split;rfl;split;rfl;split;exact X0p _ _ _ _;split;rfl;exact X0p _ _ _ _
theorem U2x {x y:Nat->Ivl} {p:Int} (hp:Z0m p=true) (hx: ∀t,Q0l (x t)=true) (hy: ∀t,Q0l (y t)=true): ∀n,e02 (dotF x y p n).2
 | 0=> .inl rfl
 | n+1=>by have ih:=U2x hp hx hy n;have h2:=W1m (k:=2) (hx n) (hy n) hp;rw [dotF];split;exact ih;split;exact h2;split;exact h2;split;exact W1m (y0t _ _ _ _) (X0p _ _ _ _) hp;exact W1m (y0t _ _ _ _) (X0p _ _ _ _) hp
theorem W1j (D:Nat->Nat->Ivl) (p:Int) (n:Nat) (ms:List Mx) (j:Nat) {k:Nat} (hk:k<=10):Q0l (entV D p n ms j k).1=true:=by unfold entV;split;rfl;obtain⟨p1,p2,p3,_⟩:=V1q (k+1) (by omega) (by omega);refine W1p ?_ p3 p2;have: ∀n,n<12->(ptW n).neg=false:=(by decide+kernel);exact this _ (by omega)
theorem w1w {D:Nat->Nat->Ivl} {p:Int} {n:Nat} {ms:List Mx} {j k:Nat} (hp:Z0m p=true) (hD: ∀l q,Q0l (D l q)=true) (hm:allI ms):e02 (entV D p n ms j k).2:=by unfold entV;split;exact U2x hp (fun t=>hD _ _) (fun t=>U1t hm _ _ _) _;exact K3s (y0t _ _ _ _) hp
theorem W1g {G:Nat->Nat->Ivl×Int} {n:Nat} (h: ∀i j,Q0l (G i j).1=true): ∀r∈(H0u G n).1,∀x∈r,Q0l x=true:=
 W0r (fun r:List Ivl=> ∀x∈r,Q0l x=true) n 0 [] (fun i _ _=>W0r (fun x=>Q0l x=true) n 0 [] (fun j _ _=>h i j) (fun x hx=>by cases hx)) (fun x hx=>by cases hx)
theorem w1v {G:Nat->Nat->Ivl×Int} {n:Nat} (h: ∀i j,e02 (G i j).2):e02 (H0u G n).2:=k0m _ _ _ fun i _ _=>k0m _ _ _ fun j _ _=>h i j
theorem w1q (n:Int): ∀r∈idM n,∀x∈r,Q0l x=true:=fun r hr x hx=>by unfold idM at hr;split at hr;obtain⟨i,_,rfl⟩:=List.mem_map.1 hr;obtain⟨j,_,rfl⟩:=List.mem_map.1 hx;split<;>rfl;cases hr
theorem W2v {jac:List (List (List Mn))} {xs:List (List Ivl)} {p:Int} {n:Nat} (hp:Z0m p=true): ∀k,k<=10->e02 (matN jac xs p n k).2/\allI (matN jac xs p n k).1
 | 0,_=>⟨.inl rfl,fun m hm=>by rw [List.mem_singleton.1 hm];exact w1q _⟩
 | k+1,hk=>by obtain⟨h1,h2⟩:=W2v (jac:=jac) (xs:=xs) (n:=n) hp k (by omega);have h3:e02 (matV jac xs p n (matN jac xs p n k).1 k).2:=w1v fun i j=>w1w hp (fun l q=>q0f _ _ _ _) h2;have nilI:allI []:=fun m hm=>(by cases hm);rw [matN];split;exact⟨h1,nilI⟩;split;exact⟨h3,nilI⟩;refine⟨.inl rfl,fun m hm=> ?_⟩;rcases List.mem_append.1 hm with hm | hm;exact h2 m hm;rw [List.mem_singleton.1 hm];exact W1g fun i j=>W1j _ _ _ _ _ (by omega)
theorem v1b {jac:List (List (List Mn))} {xs:List (List Ivl)} {p:Int} {n:Nat} : ∀k,(∀q,q<k->slB jac xs p n q=true)->varN jac xs p n k=matN jac xs p n k
 | 0,_=>rfl
 | k+1,h=>by rw [varN,matN,v1b k fun q hq=>h q (by omega),h k (by omega)];rfl
theorem Y1d {jac:List (List (List Mn))} {xs:List (List Ivl)} {p:Int} {n:Nat} (hp:Z0m p=true): ∀k,k<=10->e02 (varN jac xs p n k).2/\allI (varN jac xs p n k).1
 | 0,_=>⟨.inl rfl,fun m hm=>by rw [List.mem_singleton.1 hm];exact w1q _⟩
 | k+1,hk=>by obtain⟨h1,h2⟩:=Y1d (jac:=jac) (xs:=xs) (n:=n) hp k (by omega);have h3:e02 (matV jac xs p n (varN jac xs p n k).1 k).2:=w1v fun i j=>w1w hp (fun l q=>q0f _ _ _ _) h2;have nilI:allI []:=fun m hm=>(by cases hm);rw [varN];split;exact⟨h1,nilI⟩;split;exact⟨.inr rfl,nilI⟩;split;exact⟨h3,nilI⟩;refine⟨.inl rfl,fun m hm=> ?_⟩;rcases List.mem_append.1 hm with hm | hm;exact h2 m hm;rw [List.mem_singleton.1 hm];exact W1g fun i j=>W1j _ _ _ _ _ (by omega)
theorem q2n {jac:List (List (List Mn))} {xs:List (List Ivl)} {p:Int} {n k q:Nat} (hp:Z0m p=true) (hk:k<=10) (hq:q<k) (h:slB jac xs p n q=false):varN jac xs p n k=([],2):=by
 have h1:varN jac xs p n (q+1)=([],2):=by rw [varN];by_cases c:(varN jac xs p n q).2=0;rw [if_neg (by rw [c];decide),if_pos h];rw [if_pos c];rcases (Y1d (jac:=jac) (xs:=xs) (n:=n) hp q (by omega)).1 with e | e;exact absurd e c;rw [e]
 by_cases e:k=q+1;rw [e];exact h1;have:=k0x (jac:=jac) (xs:=xs) (p:=p) (n:=n) (k:=q+1) (by rw [h1];decide) (k-(q+2));rw [show q+1+1+(k-(q+2))=k by omega,h1] at this;exact this
theorem Y1e {jac:List (List (List Mn))} {xs:List (List Ivl)} {p:Int} {n:Nat} : ∀k,(varN jac xs p n k).2=0->(varN jac xs p n k).1.length=k+1/\ ∀m,m<=k->((varN jac xs p n k).1.getD m [])=if m=0 then idM n else(matV jac xs p n (varN jac xs p n (m-1)).1 (m-1)).1
 | 0,_=>⟨rfl,fun m hm=>by rw [Nat.le_zero.1 hm];rfl⟩
 | k+1,h=>by
  have c:(varN jac xs p n k).2=0:=Classical.byContradiction fun c=>by rw [varN,if_pos c] at h;exact c h
  obtain⟨h1,h2⟩:=Y1e k c;rw [varN,if_neg (by rw [c];decide)] at h⊢;by_cases d:slB jac xs p n k=false;rw [if_pos d] at h;cases h;rw [if_neg d] at h⊢;by_cases e:(matV jac xs p n (varN jac xs p n k).1 k).2=0;rw [if_neg (by rw [e];decide)];refine⟨by simp [h1],fun m hm=> ?_⟩;by_cases hmk:m<=k;show((varN jac xs p n k).1++_).getD m []=_;rw [Q0j _ _ _ _ (by omega)];exact h2 m hmk;obtain rfl:m=k+1:=(by omega);show((varN jac xs p n k).1++_).getD (k+1) []=_;rw [Q0m _ _ _ _ (by omega),h1,Nat.sub_self,if_neg (by omega)];rfl;rw [if_pos e] at h;exact absurd h e
theorem J1v {x y:Nat->Ivl} {p:Int} {t:Nat} (h:(dotF x y p t).2=0):dotF x y p (t+1)=if (opI 2 (x t) (y t) p).2≠0 then(default,(opI 2 (x t) (y t) p).2) else if t=0 then opI 2 (x t) (y t) p else opI 0 (dotF x y p t).1 (opI 2 (x t) (y t) p).1 p:=by rw [dotF,if_neg (by rw [h];decide)];split;rfl;split;rfl;split;rename_i c;exact Prod.ext (X1x 0 _ _ _ c).symm rfl;rfl
theorem G2c {x y:Nat->Ivl} {p:Int} : ∀t,(dotF x y p t).2≠0->(dotF x y p t).1=default
 | 0,h=>absurd rfl h
 | t+1,h=>by by_cases c:(dotF x y p t).2=0;rw [J1v c] at h⊢;split;rfl;rename_i d;rw [if_neg d] at h;split;rename_i e;rw [if_pos e] at h;exact X1x _ _ _ _ h;rename_i e;rw [if_neg e] at h;exact X1x _ _ _ _ h;rw [dotF,if_pos c]
theorem x0y {x y:Nat->Ivl} {p:Int} {t:Nat} (h:(dotF x y p t).2≠0): ∀d,dotF x y p (t+d)=(default,(dotF x y p t).2)
 | 0=>Prod.ext (G2c t h) rfl
 | d+1=>by rw [<-Nat.add_assoc,dotF,if_pos (by rw [x0y h d];exact h),x0y h d]
theorem J2t (D:Nat->Nat->Ivl) (k l:Nat) {q:Nat} (hq:q<=k):varX D k (l*(k+1)+q)=D l q:=by unfold varX;rw [Nat.mul_comm l,Nat.mul_add_div (by omega),Nat.mul_add_mod,Nat.div_eq_of_lt (by omega),Nat.mod_eq_of_lt (by omega),Nat.add_zero]
theorem J2s (ms:List Mx) (j k l:Nat) {q:Nat} (hq:q<=k):varY ms j k (l*(k+1)+q)=atM (ms.getD (k-q) []) l j:=by unfold varY;rw [Nat.mul_comm l,Nat.mul_add_div (by omega),Nat.mul_add_mod,Nat.div_eq_of_lt (by omega),Nat.mod_eq_of_lt (by omega),Nat.add_zero]
def okC (l:List Mx):Bool:=l.all fun m=>X0d m&&decide (m.length=(l.getD 0 []).length)
def J0p (l:List Mx) (h:Ivl) (p:Int):Nat->Mx×Int
 | 0=>(l.getD (l.length-1) [],0)
 | i+1=>if (J0p l h p i).2≠0 then([],(J0p l h p i).2) else
  if (K0q h (J0p l h p i).1 p).2≠0 then([],(K0q h (J0p l h p i).1 p).2) else opM 0 (K0q h (J0p l h p i).1 p).1 (l.getD (l.length-2-i) []) p
def v0f (l:List Mx) (h:Ivl) (p:Int):Mx×Int:=
 if 1<=l.length/\l.length<=11/\Q0l h=true/\Z0m p=true/\okC l=true then J0p l h p (l.length-1) else([],1)
theorem okC_iff {l:List Mx} :okC l=true<-> ∀i,i<l.length->X0d (l.getD i [])=true/\(l.getD i []).length=(l.getD 0 []).length:=by unfold okC;simp only [List.all_eq_true,Bool.and_eq_true,decide_eq_true_eq];constructor;intro h i hi;exact h _ (by rw [show l.getD i []=l[i] by simp [List.getD_eq_getElem?_getD,hi]];exact List.getElem_mem hi);intro h m hm;obtain⟨i,hi,e⟩:=List.mem_iff_getElem.1 hm;have:=h i hi;rw [show l.getD i []=m by simp [List.getD_eq_getElem?_getD,hi,e]] at this;exact this
theorem w0y {l:List Mx} {h:Ivl} {p:Int} {k:Nat} (he:(J0p l h p k).2≠0): ∀d,J0p l h p (k+1+d)=([],(J0p l h p k).2)
 | 0=>by rw [Nat.add_zero,J0p,if_pos he]
 | d+1=>by rw [<-Nat.add_assoc,J0p,if_pos (by rw [w0y he d];exact he),w0y he d]
end Go.Pv
end
