/- Parts of the walk: M65, M66, PvBn, M96, M97. -/
import Derived.Test.YtldalepagmhnmaaGreatDoorZCC
import Derived.Test.YtldalepagmhnmaaGreatDoorZBV
set_option linter.unusedVariables false
set_option linter.unusedSimpArgs false
section
namespace Go.Pv
theorem j2p {N B:Nat}(hB:0<B)(j:Int):2*j<=((2*(N/B)+(if N % B=0 then 0 else 1):Nat):Int)<->j*B<=(N:Int):=by
 have h3:j<=((N/B:Nat):Int)<->j*B<=(N:Int):=by rw[Int.natCast_ediv];exact Int.le_ediv_iff_mul_le (by omega)
 rw[<-h3];generalize N/B=F;split<;>omega
theorem j2o {N B:Nat}(hB:0<B)(j:Int):2*j<= -((2*(N/B)+(if N % B=0 then 0 else 1):Nat):Int)<->j*B<= -(N:Int):=by
 have h1:=Nat.div_add_mod N B;have h2:=Nat.mod_lt N hB;generalize N/B=F at*
 generalize N % B=r at*
 have hB':(0:Int)<B:=(by exact_mod_cast hB);have h1':(B:Int)*F+r=N:=(by exact_mod_cast h1);have h2':(r:Int)<B:=(by exact_mod_cast h2);clear h1 h2;have up: ∀i:Int,i<=j->i*B<=j*B:=fun i hi=>Int.mul_le_mul_of_nonneg_right hi (Int.le_of_lt hB');have dn: ∀i:Int,j<=i->j*B<=i*B:=fun i hi=>Int.mul_le_mul_of_nonneg_right hi (Int.le_of_lt hB');have e0: -(F:Int)*B= -((B:Int)*F):=(by rw[Int.neg_mul,Int.mul_comm]);have e1:(-(F:Int)-1)*B= -((B:Int)*F)-B:=(by rw[Int.sub_mul,e0,Int.one_mul]);have e2:(-(F:Int)+1)*B= -((B:Int)*F)+B:=(by rw[Int.add_mul,e0,Int.one_mul]);generalize (B:Int)*F=Z at*
 have u0:=up (-(F:Int));have u2:=up (-(F:Int)+1);have d0:=dn (-(F:Int));have d1:=dn (-(F:Int)-1);rw[e0] at u0 d0;rw[e1] at d1;rw[e2] at u2;generalize j*(B:Int)=W at*
 clear up dn e0 e1 e2;split;constructor;intro h;have:=d0 (by omega);omega;intro h;refine Int.not_lt.1 fun hn=> ?_;have:=u2 (by omega);omega;constructor;intro h;have:=d1 (by omega);omega;intro h;refine Int.not_lt.1 fun hn=> ?_;have:=u0 (by omega);omega
theorem V3z {p:Nat}{x:Rat}(h:v1b p x)(g:Int):(∃j:Int,x=qM j g)\/(qM (-((2^p:Nat):Int)) g<=x/\x<=qM ((2^p:Nat):Int) g):=by
 obtain⟨m,e,rfl,hm⟩:=h;by_cases he:g<=e;exact .inl ⟨_,j1x m e g he⟩;right;have hpos:(1:Int)<=2^(g-e).toNat:=by
  have:0<2^(g-e).toNat:=Nat.two_pow_pos _
  exact_mod_cast this
 rw[j1x _ g e (by omega),j1x _ g e (by omega),qM_le,qM_le,Int.neg_mul];generalize 2^p=P at*
 have h1:(P:Int)<=P*2^(g-e).toNat:=by
  calc (P:Int)=P*1:=(Int.mul_one _).symm
   _<=_:=Int.mul_le_mul_of_nonneg_left hpos (Int.natCast_nonneg _)
 generalize (P:Int)*2^(g-e).toNat=Z at*
 omega
theorem v2c {A B p:Nat}(hA:A≠0):2^(p+1)*B<=A*2^K0z A B p:=by
 have h1:=U1u hA;have h2:=Nat.le_of_lt (Z0b B);have h0:1<=Q0g A:=(by unfold Q0g;rw[if_neg hA];omega);unfold K0z
 calc 2^(p+1)*B<=2^(p+1)*2^Q0g B:=Nat.mul_le_mul_left _ h2
  _=2^(p+1+Q0g B):=by rw[<-Nat.pow_add]
  _<=2^((Q0g A-1)+(p+2+Q0g B-Q0g A)):=Nat.pow_le_pow_right (by decide) (by omega)
  _=2^(Q0g A-1)*2^(p+2+Q0g B-Q0g A):=Nat.pow_add ..
  _<=A*2^(p+2+Q0g B-Q0g A):=Nat.mul_le_mul_right _ h1
theorem Z3f {a b:Vl}{p:Nat}(hb:b.neg=false)(hB:0<b.m){x:Rat}(hx:v1b p x):x<=qV (ratV a b p)<->x*qV b<=qV a:=by
 have hqb:qV b=qM (b.m:Int) b.e:=by unfold qV X0u;rw[hb];rfl
 have hb0:0<qV b:=by rw[hqb,<-W0j b.e,qM_lt];omega
 by_cases hA:a.m=0;have e1:qV (ratV a b p)=0:=(by unfold ratV;rw[if_pos hA];exact W0j 0);rw[e1,V1p hA];constructor;intro h;have:=Rat.mul_le_mul_of_nonneg_right h (Rat.le_of_lt hb0);rwa [Rat.zero_mul] at this;intro h;exact Rat.le_of_mul_le_mul_right (by rwa [Rat.zero_mul]) hb0;obtain⟨t,ht⟩: ∃t,K0z a.m b.m p=t:=⟨_,rfl⟩;have big:=v2c (B:=b.m) (p:=p) hA;rw[ht] at big;have hv:qV (ratV a b p)=qM (if a.neg=true then -((2*(a.m*2^t/b.m)+(if a.m*2^t % b.m=0 then 0 else 1):Nat):Int) else((2*(a.m*2^t/b.m)+(if a.m*2^t % b.m=0 then 0 else 1):Nat):Int)) (a.e-b.e-(t:Int)-1):=by unfold ratV k0r;rw[if_neg hA,k0d,hb,ht,Bool.bne_false]
 have ha:qV a=qM (if a.neg=true then -((a.m*2^t:Nat):Int) else((a.m*2^t:Nat):Int)) (a.e-(t:Int)):=by
  have e1:(if a.neg=true then -((a.m*2^t:Nat):Int) else((a.m*2^t:Nat):Int))=X0u a*2^t:=by unfold X0u;cases a.neg<;>simp[Int.neg_mul]
  rw[e1,k0e];unfold qV;congr 1;omega
 rw[hqb] at hb0;rw[hv,ha,hqb];generalize a.m*2^t=N at*
 have hg: ∀j:Int,qM j (a.e-b.e-(t:Int))*qM (b.m:Int) b.e=qM (j*b.m) (a.e-(t:Int)):=fun j=>by rw[<-W2t];congr 1;omega
 have hg2: ∀j:Int,qM j (a.e-b.e-(t:Int))=qM (2*j) (a.e-b.e-(t:Int)-1):=fun j=>by rw[Int.mul_comm,show(2:Int)=2^1 from rfl,k0e];congr 1;omega
 rcases V3z hx (a.e-b.e-(t:Int)) with ⟨j,rfl⟩ | ⟨l1,l2⟩;rw[hg,hg2,qM_le,qM_le];cases a.neg;exact j2p hB j;exact j2o hB j;have hF:2^(p+1)<=N/b.m:=(Nat.le_div_iff_mul_le hB).2 big;have hP:=Nat.two_pow_pos p;rw[Nat.pow_succ] at hF big;generalize 2^p=P at*
 have big2:2*((P:Int)*b.m)<=N:=by
  have:P*2*b.m<=N:=big;have e:P*2*b.m=2*(P*b.m):=(by rw[Nat.mul_comm P 2,Nat.mul_assoc]);rw[e] at this
  exact_mod_cast this
 have hPB:(0:Int)<(P:Int)*b.m:=by
  have:=Nat.mul_pos hP hB
  exact_mod_cast this
 cases hn:a.neg;rw[if_neg Bool.false_ne_true,if_neg Bool.false_ne_true];refine⟨fun _=> ?_,fun _=> ?_⟩;refine Rat.le_trans (Rat.mul_le_mul_of_nonneg_right l2 (Rat.le_of_lt hb0)) ?_;rw[hg,qM_le];omega;refine Rat.le_trans l2 ?_;rw[hg2,qM_le];omega;rw[if_pos rfl,if_pos rfl];constructor;intro h;exfalso;have:=Rat.le_trans l1 h;rw[hg2,qM_le] at this;omega;intro h;exfalso;have:=Rat.le_trans (Rat.mul_le_mul_of_nonneg_right l1 (Rat.le_of_lt hb0)) h;rw[hg,qM_le,Int.neg_mul] at this;omega
theorem x2i (a:Vl){b:Vl}(p:Nat)(hb:b.neg=false):qV (ratV (V0g a) b p)= -qV (ratV a b p):=by by_cases h0:a.m=0;have e:V0g a=a:=(by unfold V0g;rw[if_pos h0]);have e1:qV (ratV a b p)=0:=(by unfold ratV;rw[if_pos h0];exact W0j 0);rw[e,e1];rfl;have e3:(V0g a).neg= !a.neg:=(by unfold V0g;rw[if_neg h0]);unfold ratV;rw[y0p,y0q,e3,if_neg h0,if_neg h0,k0d,k0d,<-w1v,hb];congr 1;cases a.neg<;>simp
theorem z1l {p:Nat}{x:Rat}(hx:v1b p x):v1b p (-x):=by obtain⟨m,e,rfl,h⟩:=hx;exact⟨-m,e,(w1v _ _).symm,by rw[Int.natAbs_neg];exact h⟩
theorem H3u {a b:Vl}{p:Nat}(hb:b.neg=false)(hB:0<b.m){x:Rat}(hx:v1b p x):qV (ratV a b p)<=x<->qV a<=x*qV b:=by have:=Z3f (a:=V0g a) hb hB (z1l hx);rw[x2i a p hb,H0q,Rat.neg_mul] at this;constructor;intro h;have:=this.1 (by grind);grind;intro h;have:=this.2 (by grind);grind
theorem V3y (v:Vl)(p:Nat):v1b p (qV (Z0e v p true)):=by rw[X2a];exact z1l (G2u _ _)
theorem z1z {a:Ivl}{c:Nm}{p:Int}(h:(divI a c p).2=0):Q0m a=true/\Z0q p=true:=by unfold divI at h;split at h;assumption;cases h
theorem H2u {a:Ivl}{c:Nm}{p:Int}(h:(divI a c p).2=0):qN (divI a c p).1.lo=qV (Z0e (ratV (ofN a.lo) (ofN c) p.toNat) p.toNat false)/\qN (divI a c p).1.hi=qV (Z0e (ratV (ofN a.hi) (ofN c) p.toNat) p.toNat true):=by have hr:=z1z h;unfold divI at h⊢;rw[if_pos hr] at h⊢;exact w2z (G0b (X1j _ _ _) _ _) (G0b (X1j _ _ _) _ _) h
theorem y2k {a:Ivl}{c:Nm}{p:Int}(hc:c.neg=false)(h0:0<valW c.w)(h:(divI a c p).2=0){X:Rat}(hX:memI (X*qN c) a):memI X (divI a c p).1:=by
 obtain⟨e1,e2⟩:=H2u h;have hq:0<qV (ofN c):=by unfold qV;rw[<-W0j (ofN c).e,qM_lt];show 0<mant c;unfold mant;rw[hc,if_neg (by simp)];omega
 have r1:=(Z3f (a:=ofN a.lo) (b:=ofN c) hc h0 (G2u (ratV (ofN a.lo) (ofN c) p.toNat) p.toNat)).1 (H1y _ _);have r2:=(H3u (a:=ofN a.hi) (b:=ofN c) hc h0 (V3y (ratV (ofN a.hi) (ofN c) p.toNat) p.toNat)).1 (H1z _ _);rw[U0n,U0n] at r1 r2;rw[U0n] at hq;rw[<-e1] at r1;rw[<-e2] at r2;exact⟨Rat.le_of_mul_le_mul_right (Rat.le_trans r1 hX.1) hq,Rat.le_of_mul_le_mul_right (Rat.le_trans hX.2 r2) hq⟩
theorem q3d : ∀n,n<12->0<n->(ptW n).neg=false/\0<valW (ptW n).w/\0<=(ptW n).exp/\(ptW n).exp+(Q0g (valW (ptW n).w):Int)<=4:=by decide+kernel
def Z0x (l:List (List (List Ivl))):List PV:=l.map fun c=>(.sl .no (encM c))
@[go_sem] theorem J0m (l:List (List (List Ivl))):(Z0x l).length=l.length:=by simp[Z0x]
@[go_sem] theorem x3y :Z0x []= []:=(rfl)
@[go_sem] theorem y3u (l:List (List (List Ivl))):(Z0x l).all (fun x=>x.cells.length==1)=true:=by simp[Z0x,PV.cells]
@[go_sem] theorem y3v (l:List (List (List Ivl))):(Z0x l).all (fun x=>(x.cells.length==1)&&x.cells.all PV.cellOK)=true:=by simp[Z0x,PV.cells,PV.cellOK,Value.oneCell']
@[go_sem] theorem G3l (l:List (List (List Ivl)))(n:Nat):(Z0x l).take n=Z0x (l.take n):=by simp[Z0x]
@[go_sem] theorem G3m (l:List (List (List Ivl)))(n:Nat):(Z0x l).drop n=Z0x (l.drop n):=by simp[Z0x]
@[go_sem] theorem j3a (l m:List (List (List Ivl))):Z0x l++Z0x m=Z0x (l++m):=by simp[Z0x]
@[go_sem] theorem J2w (l:List (List (List Ivl)))(c:(List (List Ivl))):Z0x l++ [.sl .no (encM c)]=Z0x (l++ [c]):=by simp[Z0x]
theorem J0e (l:List (List (List Ivl)))(n:Nat)(h:n<l.length):(Z0x l).getD n .junk= .sl .no (encM (l.getD n [])):=by simp[Z0x,q_a,h]
@[go_sem] theorem x3z (l:List (List (List Ivl)))(i:Nat)(cs:List PV):(Z0x l).map (PV.frz i cs)=Z0x l:=by simp only[Z0x,List.map_map];exact List.map_congr_left fun a _=>rfl
theorem H3k {α:Type}(d:α)(l:List α){i:Nat}(h:i<l.length):l.take (i+1)=l.take i++ [l.getD i d]:=by rw[List.take_succ_eq_append_getElem h];simp[q_a,h]
theorem Q1k (l:List (List (List Ivl))):flat (Z0x l)=Z0x l:=by
 unfold Z0x flat
 induction l with
 | nil=>rfl
 | cons x l ih=>simp only[List.map_cons,List.flatten_cons,ih];rfl
theorem z1t (l:List (List (List Ivl))): ∀i,i<(Z0x l).length->((Z0x l).getD i .junk).cells.length=1:=fun i hi=>by rw[J0m] at hi;rw[J0e l i hi];rfl
theorem J3r {a b:Nm}(ha:Q0r a=true)(hb:Q0r b=true)(ha0:qN a≠0)(hb0:qN b≠0)(h:(strN 2 a b).2=0):Q0r (strN 2 a b).1=true/\(strN 2 a b).1.w.length≠0:=by unfold strN at h⊢;rw[if_pos ⟨ha,hb⟩] at h⊢;have hc:canV (exV 2 (ofN a) (ofN b)):=v1u 2 (U0r ha) (U0r hb);refine⟨K0a (z0c hc),fun e=> ?_⟩;have h1:=(q0w hc h).2;rw[Z3g e,H3w,exQ2,U0n,U0n] at h1;rcases Rat.mul_eq_zero.1 h1.symm with h2 | h2;exact ha0 h2;exact hb0 h2
def z3j (n:Int)(m:Mn):Prop:=W0w m n=true/\m.c.w.length≠0
theorem K1o {n:Int}{i:Nat}(hi:(i:Int)<n): ∀(p acc:List Mn),(∀m∈p,z3j n m)->H0j (p.map Mn.ks)->(H0a i p acc).2=0->
 ∃q,(H0a i p acc).1=acc++q/\q.length<=p.length/\(∀m∈q,z3j n m/\ ∃m'∈p,m.ks=decK m'.ks i)/\H0j (q.map Mn.ks)
 | [],acc,_,_,_=>⟨[],by simp[H0a],Nat.le_refl _,(fun m hm=>by cases hm),List.Pairwise.nil⟩
 | m::r,acc,hg,hf,h=>by
  obtain⟨f1,f2⟩:=List.pairwise_cons.1 hf;have ih:=fun acc=>K1o hi r acc (fun m hm=>hg m (List.mem_cons_of_mem _ hm)) f2;rw[H0a] at h⊢;by_cases c:m.ks.getD i 0=0;rw[if_pos c] at h⊢;obtain⟨q,q1,q2,q3,q4⟩:=ih acc h;refine⟨q,q1,by simp only[List.length_cons];omega,fun x hx=> ?_,q4⟩;obtain⟨z1,m',z2,z3⟩:=q3 x hx;exact⟨z1,m',List.mem_cons_of_mem _ z2,z3⟩;rw[if_neg c] at h⊢;obtain⟨g1,g2⟩:=hg m (List.mem_cons_self ..);obtain⟨k1,k2,k3⟩:=(G0l _ _).1 g1;have hil:i<m.ks.length:=(by omega);have hat:=K0l k2 i hil;obtain⟨i1,i2⟩:=y1t (k:=(m.ks.getD i 0).toNat) (by omega);have hi0:qN (intN (m.ks.getD i 0).toNat)≠0:=by rw[<-U0n,i2,k0d];simp only[Bool.false_eq_true,if_false];intro e;have e2:qM (((m.ks.getD i 0).toNat:Nat):Int) 0=(((m.ks.getD i 0).toNat:Nat):Rat):=(by unfold qM;rw[Y2i,Rat.mul_one];rfl);rw[e2] at e;have:(m.ks.getD i 0).toNat=0:=(by exact_mod_cast e);omega
  by_cases d:(strN 2 m.c (intN (m.ks.getD i 0).toNat)).2=0;rw[if_neg (by rw[d];decide)] at h⊢;obtain⟨s1,s2⟩:=J3r k3 i1 (H3x k3 g2) hi0 d;obtain⟨q,q1,q2,q3,q4⟩:=ih _ h;refine⟨⟨(strN 2 m.c (intN (m.ks.getD i 0).toNat)).1,decK m.ks i⟩::q,by rw[q1,List.append_assoc];rfl,by simp only[List.length_cons];omega,fun x hx=> ?_,?_⟩;rcases List.mem_cons.1 hx with rfl | hx;exact⟨⟨(G0l _ _).2 ⟨by show((decK m.ks i).length:Int)=n;rw[W0o];exact k1,X2f k2 hil c,s1⟩,s2⟩,m,List.mem_cons_self ..,rfl⟩;obtain⟨z1,m',z2,z3⟩:=q3 x hx;exact⟨z1,m',List.mem_cons_of_mem _ z2,z3⟩;refine List.pairwise_cons.2 ⟨fun ks hks=> ?_,q4⟩;obtain⟨x,hx,rfl⟩:=List.mem_map.1 hks;obtain⟨_,m',z2,z3⟩:=q3 x hx;rw[z3];show ordK (decK m.ks i) (decK m'.ks i)=1;rw[U1z];exact f1 _ (List.mem_map.2 ⟨m',z2,rfl⟩);rw[if_pos d] at h;exact absurd h d
theorem v1j {p:List Mn}{i n:Int}(h:(z0j p i n).2=0):Z0z (z0j p i n).1 n=true:=by unfold z0j at h⊢;by_cases c:Z0z p n=true/\0<=i/\i<n;rotate_left;rw[if_neg c] at h;cases h;rw[if_pos c] at h⊢;obtain⟨c1,c2,c3⟩:=c;obtain⟨l1,l2⟩:=(X0e p n).1 c1;obtain⟨q,q1,q2,q3,q4⟩:=K1o (n:=n) (i:=i.toNat) (by omega) p [] (fun m hm=>by obtain⟨j,hj,e⟩:=List.mem_iff_getElem.1 hm;have:=(V0x _ _ _).1 (l2 j hj);rw[show p.getD j default=m by simp[q_a,hj,e]] at this;exact⟨this.1,this.2.1⟩) (Q1w c1) h;rw[q1,List.nil_append];refine(X0e _ _).2 ⟨⟨l1.1,l1.2.1,by omega⟩,fun j hj=> ?_⟩;have hm: ∀j,j<q.length->q.getD j default∈q:=fun j hj=>(by rw[show q.getD j default=q[j] by simp[q_a,hj]];exact List.getElem_mem hj);obtain⟨⟨g1,g2⟩,_⟩:=q3 _ (hm j hj);refine(V0x _ _ _).2 ⟨g1,g2,?_⟩;by_cases e:j=0;exact .inl e;refine .inr ?_;have:=List.pairwise_iff_getElem.1 q4 (j-1) j (by simp;omega) (by simpa using hj) (by omega);simpa[q_a,hj,(by omega:j-1<q.length)] using this
def okJ (n:Nat)(jac:List (List (List Mn))):Prop:=jac.length=n/\ ∀i,i<n->(jac.getD i []).length=n/\ ∀l,l<n->Z0z ((jac.getD i []).getD l []) n=true
theorem k1t {f:List (List Mn)}(h:(jacF f).2=0):okJ f.length (jacF f).1:=by unfold jacF at h⊢;by_cases c:K0m f=true;rotate_left;rw[if_neg c] at h;cases h;rw[if_pos c] at h⊢;obtain⟨a1,a2,a3⟩:=V0f h;refine⟨a1,fun i hi=> ?_⟩;have e1:(tabF (fun i=>tabF (fun j=>jacG f i j) 0 f.length []) 0 f.length []).1.getD i []=(tabF (fun j=>jacG f i j) 0 f.length []).1:=a3 i hi;have h2:=a2 i hi;obtain⟨b1,b2,b3⟩:=V0f h2;rw[e1];refine⟨b1,fun l hl=> ?_⟩;have e2:(tabF (fun j=>jacG f i j) 0 f.length []).1.getD l []=(jacG f i l).1:=b3 l hl;rw[e2];exact v1j (b2 l hl)
def e02 (e:Int):Prop:=e=0\/e=2
theorem Q2e (lo hi:Vl):e02 (Y0i lo hi).2:=by unfold Y0i e02;split<;>simp
theorem Y1l {k:Nat}{a b:Ivl}{p:Int}(ha:Q0m a=true)(hb:Q0m b=true)(hp:Z0q p=true):e02 (opI k a b p).2:=by unfold opI;rw[if_pos ⟨ha,hb,hp⟩];exact Q2e _ _
theorem W3q {a:Ivl}{c:Nm}{p:Int}(ha:Q0m a=true)(hp:Z0q p=true):e02 (divI a c p).2:=by unfold divI;rw[if_pos ⟨ha,hp⟩];exact Q2e _ _
theorem v0g {β:Type}{G:Nat->β×Int} : ∀(k i:Nat) (acc:List β),(∀j,i<=j->j<i+k->e02 (G j).2)->e02 (tabF G i k acc).2
 | 0,i,acc,_=> .inl rfl
 | k+1,i,acc,h=>by simp only[tabF];split;exact h i (by omega) (by omega);exact v0g k _ _ fun j h1 h2=>h j (by omega) (by omega)
theorem w1l {β:Type}{G:Nat->β×Int} : ∀(k i:Nat) (acc:List β),(tabF G i k acc).2≠0->(tabF G i k acc).1= []
 | 0,i,acc,h=>absurd rfl h
 | k+1,i,acc,h=>by simp only[tabF] at h⊢;split;rfl;rename_i c;rw[if_neg c] at h;exact w1l k _ _ h
theorem v0i {p:Int} : ∀(l:List (Ivl×Ivl)) (sm:Bool) (s:Ivl),Q0m s=true->Q0m (j0z p l sm s).1=true
 | [],sm,s,h=>h
 | x::l,sm,s,h=>by rw[q0i];split;split;split;exact v0i l _ _ (X0t _ _ _ _);rfl;exact v0i l _ _ (X0t _ _ _ _);rfl
theorem K1l {p:Int}(hp:Z0q p=true): ∀(l:List (Ivl×Ivl)) (sm:Bool) (s:Ivl),Q0m s=true->(∀x∈l,Q0m x.1=true/\Q0m x.2=true)->e02 (j0z p l sm s).2
 | [],sm,s,_,_=> .inl rfl
 | x::l,sm,s,h,hl=>by obtain⟨x1,x2⟩:=hl x (List.mem_cons_self ..);have hl':=fun y hy=>hl y (List.mem_cons_of_mem _ hy);rw[q0i];split;split;split;exact K1l hp l _ _ (X0t _ _ _ _) hl';exact Y1l h (X0t _ _ _ _) hp;exact K1l hp l _ _ (X0t _ _ _ _) hl';exact Y1l x1 x2 hp
theorem v1m (a b:List Ivl)(k:Nat)(p:Int):Q0m (V0r a b k p).1=true:=by unfold V0r;split;exact v0i _ _ _ rfl;rfl
theorem H2o {a b:List Ivl}{k:Nat}{p:Int}(hp:Z0q p=true)(ha:J0d a k=true)(hb:J0d b k=true):e02 (V0r a b k p).2:=by unfold V0r;rw[if_pos ⟨hp,ha,hb⟩];refine K1l hp _ _ _ rfl fun x hx=> ?_;unfold z0x at hx;obtain⟨i,hi,rfl⟩:=List.mem_map.1 hx;have hi:=List.mem_range.1 hi;exact⟨j0m ha (by omega),j0m hb (by omega)⟩
theorem w0v {a:List Ivl}{k j:Nat}(h:J0d a k=true)(hj:j<=k):J0d a j=true:=j0l (by have:=x0f h;omega) fun i hi=>j0m h (by omega)
theorem H2m {a b:List Ivl}{k:Nat}{p:Int}(hp:Z0q p=true)(ha:J0d a k=true)(hb:J0d b k=true):e02 (U0m a b k p).2:=
 v0g _ _ _ fun j _ hj=>H2o hp (w0v ha (by omega)) (w0v hb (by omega))
theorem x2k {a b:List Ivl}{k:Nat}{p:Int}(h:(U0m a b k p).2=0):J0d (U0m a b k p).1 k=true:=by obtain⟨h1,h2,h3⟩:=V0f h;refine j0l (by show k<(tabF _ _ _ _).1.length;omega) fun j hj=> ?_;show Q0m ((tabF (fun j=>V0r a b j p) 0 (k+1) []).1.getD j default)=true;rw[h3 j (by omega)];exact v1m _ _ _ _
theorem q1q {s x:List Ivl}{k:Nat}{p:Int}(hp:Z0q p=true)(hs:J0d s k=true)(hx:J0d x k=true): ∀n,e02 (K0t s x k p n).2/\((K0t s x k p n).2=0->J0d (K0t s x k p n).1 k=true)
 | 0=>⟨.inl rfl,fun _=>hs⟩
 | n+1=>by obtain⟨h1,h2⟩:=q1q hp hs hx n;rw[K0t];by_cases c:(K0t s x k p n).2=0;rw[if_neg (by rw[c];decide)];exact⟨H2m hp (h2 c) hx,x2k⟩;rw[if_pos c];exact⟨h1,fun h=>absurd h c⟩
theorem K3v {c:Nm}(hc:Q0r c=true)(k:Nat):J0d (numS c k) k=true:=by
 refine j0l (by simp[numS]) fun j hj=> ?_;cases j with
 | zero=>exact q0t hc
 | succ j=>
  have:(numS c k).getD (j+1) default=default:=by show(List.replicate k (default:Ivl)).getD j default=default;simp[q_a,(by omega:j<k)]
  rw[this];rfl
theorem q1p {m:Mn}{xs:List (List Ivl)}{k:Nat}{p:Int}(hp:Z0q p=true)(hm:Q0r m.c=true)(hx: ∀i,i<xs.length->J0d (xs.getD i []) k=true): ∀i,i<=xs.length->e02 (X0k m xs k p i).2/\((X0k m xs k p i).2=0->J0d (X0k m xs k p i).1 k=true)
 | 0,_=>⟨.inl rfl,fun _=>K3v hm k⟩
 | i+1,hi=>by obtain⟨h1,h2⟩:=q1p hp hm hx i (by omega);rw[X0k];by_cases c:(X0k m xs k p i).2=0;rw[if_neg (by rw[c];decide)];exact q1q hp (h2 c) (hx i (by omega)) _;rw[if_pos c];exact⟨h1,fun h=>absurd h c⟩
theorem q1u (q:List Mn)(xs:List (List Ivl))(k:Nat)(p:Int): ∀i,Q0m (ofS q xs k p i).1=true
 | 0=>rfl
 | i+1=>by rw[ofS];split;rfl;split;rfl;exact X0t _ _ _ _
theorem q0q (q:List Mn)(xs:List (List Ivl))(k p:Int):Q0m (W0i q xs k p).1=true:=by unfold W0i;split;exact q1u _ _ _ _ _;rfl
theorem Y2r {q:List Mn}{xs:List (List Ivl)}{k:Nat}{p:Int}(hp:Z0q p=true)(hq: ∀i,i<q.length->Q0r (q.getD i default).c=true)(hx: ∀i,i<xs.length->J0d (xs.getD i []) k=true): ∀i,i<=q.length->e02 (ofS q xs k p i).2
 | 0,_=> .inl rfl
 | i+1,hi=>by have ih:=Y2r hp hq hx i (by omega);obtain⟨h1,h2⟩:=q1p hp (hq i (by omega)) hx xs.length (Nat.le_refl _);rw[ofS];by_cases c:(ofS q xs k p i).2=0;rw[if_neg (by rw[c];decide)];by_cases d:(X0k (q.getD i default) xs k p xs.length).2=0;rw[if_neg (by rw[d];decide)];exact Y1l (q1u _ _ _ _ _) (j0m (h2 d) (Nat.le_refl _)) hp;rw[if_pos d];exact h1;rw[if_pos c];exact ih
theorem H1r {q:List Mn}{xs:List (List Ivl)}{k:Nat}{p:Int}(hp:Z0q p=true)(hk:k<=10)(hq:Z0z q xs.length=true)(hx: ∀i,i<xs.length->J0d (xs.getD i []) k=true):e02 (W0i q xs k p).2:=by unfold W0i;split;rw[Int.toNat_natCast];exact Y2r hp (fun i hi=>(K0s hq hi).2.2) hx _ (Nat.le_refl _);rename_i c;refine absurd ⟨?_,hq,?_⟩ c;unfold Q1u;rw[hp];simp;omega;rw[Int.toNat_natCast];exact all_hasUp.2 hx
theorem Y1o {a:Ivl}{c:Nm}{p:Int}(hc:c.neg=false)(h0:0<valW c.w)(hq:0<qN c):Q0m (divI a c p).1=true:=by by_cases h:(divI a c p).2=0;obtain⟨h1,h2⟩:=z1z h;have hle:=y0z h1;rw[U0n,U0n] at hle;have hm:=y2k hc h0 h (X:=qN a.lo/qN c) (by rw[Rat.div_mul_cancel (by grind)];exact⟨Rat.le_refl,hle⟩);have r:Q0r (divI a c p).1.lo=true/\Q0r (divI a c p).1.hi=true:=(by unfold divI Y0i;split;split;exact⟨K0a (z0c (G0b (X1j _ _ _) _ _)),K0a (z0c (G0b (X1j _ _ _) _ _))⟩;exact⟨rfl,rfl⟩;exact⟨rfl,rfl⟩);exact z0t r.1 r.2 (cmpN_le.2 (Rat.le_trans hm.1 hm.2));have:(divI a c p).1=default:=(by unfold divI at h⊢;split;rename_i c1;rw[if_pos c1] at h;unfold Y0i at h⊢;split;rename_i c2;rw[if_pos c2] at h;exact absurd rfl h;rfl;rfl);rw[this];rfl
def Z0y (jac:List (List (List Mn)))(xs:List (List Ivl))(p:Int)(i l q:Nat):Ivl×Int:=W0i ((jac.getD i []).getD l []) xs q p
def slB (jac:List (List (List Mn)))(xs:List (List Ivl))(p:Int)(n q:Nat):Bool:=(List.range n).all fun i=>(List.range n).all fun l=>decide ((Z0y jac xs p i l q).2=0)
theorem slB_iff {jac:List (List (List Mn))}{xs:List (List Ivl)}{p:Int}{n q:Nat} :slB jac xs p n q=true<-> ∀i,i<n-> ∀l,l<n->(Z0y jac xs p i l q).2=0:=by unfold slB;simp only[q_d,List.mem_range,decide_eq_true_eq]
def varX (D:Nat->Nat->Ivl)(k t:Nat):Ivl:=D (t/(k+1)) (t % (k+1))
def varY (ms:List Mx)(j k t:Nat):Ivl:=atM (ms.getD (k-t % (k+1)) []) (t/(k+1)) j
def rowD (jac:List (List (List Mn)))(xs:List (List Ivl))(p:Int)(i:Nat)(l q:Nat):Ivl:=(Z0y jac xs p i l q).1
def entV (D:Nat->Nat->Ivl)(p:Int)(n:Nat)(ms:List Mx)(j k:Nat):Ivl×Int:=
 if (dotF (varX D k) (varY ms j k) p (n*(k+1))).2≠0 then(default,(dotF (varX D k) (varY ms j k) p (n*(k+1))).2) else divI (dotF (varX D k) (varY ms j k) p (n*(k+1))).1 (ptW (k+1)) p
def matV (jac:List (List (List Mn)))(xs:List (List Ivl))(p:Int)(n:Nat)(ms:List Mx)(k:Nat):Mx×Int:=q0f (fun i j=>entV (rowD jac xs p i) p n ms j k) n
def varN (jac:List (List (List Mn)))(xs:List (List Ivl))(p:Int)(n:Nat):Nat->List Mx×Int
 | 0=>([idM n],0)
 | k+1=>if (varN jac xs p n k).2≠0 then([],(varN jac xs p n k).2) else if slB jac xs p n k=false then([],2) else
  if (matV jac xs p n (varN jac xs p n k).1 k).2≠0 then([],(matV jac xs p n (varN jac xs p n k).1 k).2) else((varN jac xs p n k).1++ [(matV jac xs p n (varN jac xs p n k).1 k).1],0)
def matN (jac:List (List (List Mn)))(xs:List (List Ivl))(p:Int)(n:Nat):Nat->List Mx×Int
 | 0=>([idM n],0)
 | k+1=>if (matN jac xs p n k).2≠0 then([],(matN jac xs p n k).2) else
  if (matV jac xs p n (matN jac xs p n k).1 k).2≠0 then([],(matV jac xs p n (matN jac xs p n k).1 k).2) else((matN jac xs p n k).1++ [(matV jac xs p n (matN jac xs p n k).1 k).1],0)
def Y0k (f:List (List Mn))(x:List Ivl)(order p:Int):List Mx×Int:=
 if (V0y f x order p).2≠0 then([],(V0y f x order p).2) else if (jacF f).2≠0 then([],(jacF f).2) else varN (jacF f).1 (V0y f x order p).1 p f.length order.toNat
theorem v0r {jac:List (List (List Mn))}{xs:List (List Ivl)}{p:Int}{n k:Nat}(h:(varN jac xs p n k).2≠0): ∀d,varN jac xs p n (k+1+d)=([],(varN jac xs p n k).2)
 | 0=>by rw[Nat.add_zero,varN,if_pos h]
 | d+1=>by rw[<-Nat.add_assoc,varN,if_pos (by rw[v0r h d];exact h),v0r h d]
theorem J1t {jac:List (List (List Mn))}{xs:List (List Ivl)}{p:Int}{n k:Nat}(h:(matN jac xs p n k).2≠0): ∀d,matN jac xs p n (k+1+d)=([],(matN jac xs p n k).2)
 | 0=>by rw[Nat.add_zero,matN,if_pos h]
 | d+1=>by rw[<-Nat.add_assoc,matN,if_pos (by rw[J1t h d];exact h),J1t h d]
theorem z1m {G:Nat->Nat->Ivl×Int}{n:Nat}(h:(q0f G n).2=0):(q0f G n).1.length=n/\ ∀i,i<n->((q0f G n).1.getD i []).length=n/\ ∀j,j<n->(G i j).2=0/\atM (q0f G n).1 i j=(G i j).1:=by obtain⟨a1,a2,a3⟩:=V0f h;refine⟨a1,fun i hi=> ?_⟩;have e:(q0f G n).1.getD i []=(tabF (fun j=>G i j) 0 n []).1:=a3 i hi;obtain⟨b1,b2,b3⟩:=V0f (a2 i hi);rw[e];refine⟨b1,fun j hj=>⟨b2 j hj,?_⟩⟩;unfold atM;rw[e];exact b3 j hj
def allI (ms:List Mx):Prop:= ∀m∈ms,∀r∈m,∀x∈r,Q0m x=true
theorem G1u {ms:List Mx}(h:allI ms)(m l j:Nat):Q0m (atM (ms.getD m []) l j)=true:=by unfold atM;by_cases h1:m<ms.length;rw[show ms.getD m []=ms[m] by simp[q_a,h1]];by_cases h2:l<ms[m].length;rw[show ms[m].getD l []=ms[m][l] by simp[q_a,h2]];by_cases h3:j<ms[m][l].length;rw[show ms[m][l].getD j default=ms[m][l][j] by simp[q_a,h3]];exact h _ (List.getElem_mem h1) _ (List.getElem_mem h2) _ (List.getElem_mem h3);rw[show ms[m][l].getD j default=default by simp[q_a,List.getElem?_eq_none (Nat.le_of_not_lt h3)]];rfl;rw[show ms[m].getD l []= [] by simp[q_a,List.getElem?_eq_none (Nat.le_of_not_lt h2)]];rfl;rw[show ms.getD m []= [] by simp[q_a,List.getElem?_eq_none (Nat.le_of_not_lt h1)]];rfl
theorem Q1o (x y:Nat->Ivl)(p:Int): ∀n,Q0m (dotF x y p n).1=true
 | 0=>rfl
 | n+1=>by rw[dotF];split;rfl;split;rfl;split;exact X0t _ _ _ _;split;rfl;exact X0t _ _ _ _
theorem H2n {x y:Nat->Ivl}{p:Int}(hp:Z0q p=true)(hx: ∀t,Q0m (x t)=true)(hy: ∀t,Q0m (y t)=true): ∀n,e02 (dotF x y p n).2
 | 0=> .inl rfl
 | n+1=>by have ih:=H2n hp hx hy n;have h2:=Y1l (k:=2) (hx n) (hy n) hp;rw[dotF];split;exact ih;split;exact h2;split;exact h2;split;exact Y1l (Q1o _ _ _ _) (X0t _ _ _ _) hp;exact Y1l (Q1o _ _ _ _) (X0t _ _ _ _) hp
theorem Y1h (D:Nat->Nat->Ivl)(p:Int)(n:Nat)(ms:List Mx)(j:Nat){k:Nat}(hk:k<=10):Q0m (entV D p n ms j k).1=true:=by unfold entV;split;rfl;obtain⟨p1,p2,p3,_⟩:=W1n (k+1) (by omega) (by omega);refine Y1o ?_ p3 p2;have: ∀n,n<12->(ptW n).neg=false:=(by decide+kernel);exact this _ (by omega)
theorem Q2d {D:Nat->Nat->Ivl}{p:Int}{n:Nat}{ms:List Mx}{j k:Nat}(hp:Z0q p=true)(hD: ∀l q,Q0m (D l q)=true)(hm:allI ms):e02 (entV D p n ms j k).2:=by unfold entV;split;exact H2n hp (fun t=>hD _ _) (fun t=>G1u hm _ _ _) _;exact W3q (Q1o _ _ _ _) hp
theorem Y1e {G:Nat->Nat->Ivl×Int}{n:Nat}(h: ∀i j,Q0m (G i j).1=true): ∀r∈(q0f G n).1,∀x∈r,Q0m x=true:=
 W0x (fun r:List Ivl=> ∀x∈r,Q0m x=true) n 0 [] (fun i _ _=>W0x (fun x=>Q0m x=true) n 0 [] (fun j _ _=>h i j) (fun x hx=>by cases hx)) (fun x hx=>by cases hx)
theorem Q2c {G:Nat->Nat->Ivl×Int}{n:Nat}(h: ∀i j,e02 (G i j).2):e02 (q0f G n).2:=v0g _ _ _ fun i _ _=>v0g _ _ _ fun j _ _=>h i j
theorem y1v (n:Int): ∀r∈idM n,∀x∈r,Q0m x=true:=fun r hr x hx=>by unfold idM at hr;split at hr;obtain⟨i,_,rfl⟩:=List.mem_map.1 hr;obtain⟨j,_,rfl⟩:=List.mem_map.1 hx;split<;>rfl;cases hr
theorem U2h {jac:List (List (List Mn))}{xs:List (List Ivl)}{p:Int}{n:Nat}(hp:Z0q p=true): ∀k,k<=10->e02 (matN jac xs p n k).2/\allI (matN jac xs p n k).1
 | 0,_=>⟨.inl rfl,fun m hm=>by rw[List.mem_singleton.1 hm];exact y1v _⟩
 | k+1,hk=>by obtain⟨h1,h2⟩:=U2h (jac:=jac) (xs:=xs) (n:=n) hp k (by omega);have h3:e02 (matV jac xs p n (matN jac xs p n k).1 k).2:=Q2c fun i j=>Q2d hp (fun l q=>q0q _ _ _ _) h2;have nilI:allI []:=fun m hm=>(by cases hm);rw[matN];split;exact⟨h1,nilI⟩;split;exact⟨h3,nilI⟩;refine⟨.inl rfl,fun m hm=> ?_⟩;rcases List.mem_append.1 hm with hm | hm;exact h2 m hm;rw[List.mem_singleton.1 hm];exact Y1e fun i j=>Y1h _ _ _ _ _ (by omega)
theorem w1e {jac:List (List (List Mn))}{xs:List (List Ivl)}{p:Int}{n:Nat} : ∀k,(∀q,q<k->slB jac xs p n q=true)->varN jac xs p n k=matN jac xs p n k
 | 0,_=>rfl
 | k+1,h=>by rw[varN,matN,w1e k fun q hq=>h q (by omega),h k (by omega)];rfl
theorem U1b {jac:List (List (List Mn))}{xs:List (List Ivl)}{p:Int}{n:Nat}(hp:Z0q p=true): ∀k,k<=10->e02 (varN jac xs p n k).2/\allI (varN jac xs p n k).1
 | 0,_=>⟨.inl rfl,fun m hm=>by rw[List.mem_singleton.1 hm];exact y1v _⟩
 | k+1,hk=>by obtain⟨h1,h2⟩:=U1b (jac:=jac) (xs:=xs) (n:=n) hp k (by omega);have h3:e02 (matV jac xs p n (varN jac xs p n k).1 k).2:=Q2c fun i j=>Q2d hp (fun l q=>q0q _ _ _ _) h2;have nilI:allI []:=fun m hm=>(by cases hm);rw[varN];split;exact⟨h1,nilI⟩;split;exact⟨.inr rfl,nilI⟩;split;exact⟨h3,nilI⟩;refine⟨.inl rfl,fun m hm=> ?_⟩;rcases List.mem_append.1 hm with hm | hm;exact h2 m hm;rw[List.mem_singleton.1 hm];exact Y1e fun i j=>Y1h _ _ _ _ _ (by omega)
theorem x2b {jac:List (List (List Mn))}{xs:List (List Ivl)}{p:Int}{n k q:Nat}(hp:Z0q p=true)(hk:k<=10)(hq:q<k)(h:slB jac xs p n q=false):varN jac xs p n k=([],2):=by
 have h1:varN jac xs p n (q+1)=([],2):=by rw[varN];by_cases c:(varN jac xs p n q).2=0;rw[if_neg (by rw[c];decide),if_pos h];rw[if_pos c];rcases (U1b (jac:=jac) (xs:=xs) (n:=n) hp q (by omega)).1 with e | e;exact absurd e c;rw[e]
 by_cases e:k=q+1;rw[e];exact h1;have:=v0r (jac:=jac) (xs:=xs) (p:=p) (n:=n) (k:=q+1) (by rw[h1];decide) (k-(q+2));rw[show q+1+1+(k-(q+2))=k by omega,h1] at this;exact this
theorem U1c {jac:List (List (List Mn))}{xs:List (List Ivl)}{p:Int}{n:Nat} : ∀k,(varN jac xs p n k).2=0->(varN jac xs p n k).1.length=k+1/\ ∀m,m<=k->((varN jac xs p n k).1.getD m [])=if m=0 then idM n else(matV jac xs p n (varN jac xs p n (m-1)).1 (m-1)).1
 | 0,_=>⟨rfl,fun m hm=>by rw[Nat.le_zero.1 hm];rfl⟩
 | k+1,h=>by
  have c:(varN jac xs p n k).2=0:=Classical.byContradiction fun c=>by rw[varN,if_pos c] at h;exact c h
  obtain⟨h1,h2⟩:=U1c k c;rw[varN,if_neg (by rw[c];decide)] at h⊢;by_cases d:slB jac xs p n k=false;rw[if_pos d] at h;cases h;rw[if_neg d] at h⊢;by_cases e:(matV jac xs p n (varN jac xs p n k).1 k).2=0;rw[if_neg (by rw[e];decide)];refine⟨by simp[h1],fun m hm=> ?_⟩;by_cases hmk:m<=k;show((varN jac xs p n k).1++_).getD m []=_;rw[Q0k _ _ _ _ (by omega)];exact h2 m hmk;obtain rfl:m=k+1:=(by omega);show((varN jac xs p n k).1++_).getD (k+1) []=_;rw[Q0n _ _ _ _ (by omega),h1,Nat.sub_self,if_neg (by omega)];rfl;rw[if_pos e] at h;exact absurd h e
theorem K1n {x y:Nat->Ivl}{p:Int}{t:Nat}(h:(dotF x y p t).2=0):dotF x y p (t+1)=if (opI 2 (x t) (y t) p).2≠0 then(default,(opI 2 (x t) (y t) p).2) else if t=0 then opI 2 (x t) (y t) p else opI 0 (dotF x y p t).1 (opI 2 (x t) (y t) p).1 p:=by rw[dotF,if_neg (by rw[h];decide)];split;rfl;split;rfl;split;rename_i c;exact Prod.ext (J1q 0 _ _ _ c).symm rfl;rfl
theorem H2s {x y:Nat->Ivl}{p:Int} : ∀t,(dotF x y p t).2≠0->(dotF x y p t).1=default
 | 0,h=>absurd rfl h
 | t+1,h=>by by_cases c:(dotF x y p t).2=0;rw[K1n c] at h⊢;split;rfl;rename_i d;rw[if_neg d] at h;split;rename_i e;rw[if_pos e] at h;exact J1q _ _ _ _ h;rename_i e;rw[if_neg e] at h;exact J1q _ _ _ _ h;rw[dotF,if_pos c]
theorem j0q {x y:Nat->Ivl}{p:Int}{t:Nat}(h:(dotF x y p t).2≠0): ∀d,dotF x y p (t+d)=(default,(dotF x y p t).2)
 | 0=>Prod.ext (H2s t h) rfl
 | d+1=>by rw[<-Nat.add_assoc,dotF,if_pos (by rw[j0q h d];exact h),j0q h d]
theorem V2a (D:Nat->Nat->Ivl)(k l:Nat){q:Nat}(hq:q<=k):varX D k (l*(k+1)+q)=D l q:=by unfold varX;rw[Nat.mul_comm l,Nat.mul_add_div (by omega),Nat.mul_add_mod,Nat.div_eq_of_lt (by omega),Nat.mod_eq_of_lt (by omega),Nat.add_zero]
theorem K2z (ms:List Mx)(j k l:Nat){q:Nat}(hq:q<=k):varY ms j k (l*(k+1)+q)=atM (ms.getD (k-q) []) l j:=by unfold varY;rw[Nat.mul_comm l,Nat.mul_add_div (by omega),Nat.mul_add_mod,Nat.div_eq_of_lt (by omega),Nat.mod_eq_of_lt (by omega),Nat.add_zero]
def okC (l:List Mx):Bool:=l.all fun m=>X0f m&&decide (m.length=(l.getD 0 []).length)
def J0t (l:List Mx)(h:Ivl)(p:Int):Nat->Mx×Int
 | 0=>(l.getD (l.length-1) [],0)
 | i+1=>if (J0t l h p i).2≠0 then([],(J0t l h p i).2) else
  if (K0w h (J0t l h p i).1 p).2≠0 then([],(K0w h (J0t l h p i).1 p).2) else opM 0 (K0w h (J0t l h p i).1 p).1 (l.getD (l.length-2-i) []) p
def v0y (l:List Mx)(h:Ivl)(p:Int):Mx×Int:=
 if 1<=l.length/\l.length<=11/\Q0m h=true/\Z0q p=true/\okC l=true then J0t l h p (l.length-1) else([],1)
theorem okC_iff {l:List Mx} :okC l=true<-> ∀i,i<l.length->X0f (l.getD i [])=true/\(l.getD i []).length=(l.getD 0 []).length:=by unfold okC;simp only[q_d,q_i,decide_eq_true_eq];constructor;intro h i hi;exact h _ (by rw[show l.getD i []=l[i] by simp[q_a,hi]];exact List.getElem_mem hi);intro h m hm;obtain⟨i,hi,e⟩:=List.mem_iff_getElem.1 hm;have:=h i hi;rw[show l.getD i []=m by simp[q_a,hi,e]] at this;exact this
theorem y0s {l:List Mx}{h:Ivl}{p:Int}{k:Nat}(he:(J0t l h p k).2≠0): ∀d,J0t l h p (k+1+d)=([],(J0t l h p k).2)
 | 0=>by rw[Nat.add_zero,J0t,if_pos he]
 | d+1=>by rw[<-Nat.add_assoc,J0t,if_pos (by rw[y0s he d];exact he),y0s he d]
end Go.Pv
end
