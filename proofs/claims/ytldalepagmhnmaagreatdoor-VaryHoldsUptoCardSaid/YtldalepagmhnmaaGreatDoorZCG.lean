/- Parts of the walk: M65, M66, N109, M68, M69, M70, M71, M72. -/
import Derived.Test.YtldalepagmhnmaaGreatDoorZCC
import Derived.Test.YtldalepagmhnmaaGreatDoorZBV
set_option linter.unusedVariables false
set_option linter.unusedSimpArgs false
section
namespace Go.Pv
theorem w2j {N B:Nat}(hB:0<B)(j:Int):2*j<=((2*(N/B)+(if N % B=0 then 0 else 1):Nat):Int)<->j*B<=(N:Int):=by
 have h3:j<=((N/B:Nat):Int)<->j*B<=(N:Int):=by rw[Int.natCast_ediv];exact Int.le_ediv_iff_mul_le (by omega)
 rw[<-h3];generalize N/B=F;split<;>omega
theorem w2i {N B:Nat}(hB:0<B)(j:Int):2*j<= -((2*(N/B)+(if N % B=0 then 0 else 1):Nat):Int)<->j*B<= -(N:Int):=by
 have h1:=Nat.div_add_mod N B;have h2:=Nat.mod_lt N hB;generalize N/B=F at*
 generalize N % B=r at*
 have hB':(0:Int)<B:=(by exact_mod_cast hB);have h1':(B:Int)*F+r=N:=(by exact_mod_cast h1);have h2':(r:Int)<B:=(by exact_mod_cast h2);clear h1 h2;have up: ∀i:Int,i<=j->i*B<=j*B:=fun i hi=>Int.mul_le_mul_of_nonneg_right hi (Int.le_of_lt hB');have dn: ∀i:Int,j<=i->j*B<=i*B:=fun i hi=>Int.mul_le_mul_of_nonneg_right hi (Int.le_of_lt hB');have e0: -(F:Int)*B= -((B:Int)*F):=(by rw[Int.neg_mul,Int.mul_comm]);have e1:(-(F:Int)-1)*B= -((B:Int)*F)-B:=(by rw[Int.sub_mul,e0,Int.one_mul]);have e2:(-(F:Int)+1)*B= -((B:Int)*F)+B:=(by rw[Int.add_mul,e0,Int.one_mul]);generalize (B:Int)*F=Z at*
 have u0:=up (-(F:Int));have u2:=up (-(F:Int)+1);have d0:=dn (-(F:Int));have d1:=dn (-(F:Int)-1);rw[e0] at u0 d0;rw[e1] at d1;rw[e2] at u2;generalize j*(B:Int)=W at*
 clear up dn e0 e1 e2;split;constructor;intro h;have:=d0 (by omega);omega;intro h;refine Int.not_lt.1 fun hn=> ?_;have:=u2 (by omega);omega;constructor;intro h;have:=d1 (by omega);omega;intro h;refine Int.not_lt.1 fun hn=> ?_;have:=u0 (by omega);omega
theorem G3p {p:Nat}{x:Rat}(h:w1t p x)(g:Int):(∃j:Int,x=qM j g)\/(qM (-((2^p:Nat):Int)) g<=x/\x<=qM ((2^p:Nat):Int) g):=by
 obtain⟨m,e,rfl,hm⟩:=h;by_cases he:g<=e;exact .inl ⟨_,v1m m e g he⟩;right;have hpos:(1:Int)<=2^(g-e).toNat:=by
  have:0<2^(g-e).toNat:=Nat.two_pow_pos _
  exact_mod_cast this
 rw[v1m _ g e (by omega),v1m _ g e (by omega),qM_le,qM_le,Int.neg_mul];generalize 2^p=P at*
 have h1:(P:Int)<=P*2^(g-e).toNat:=by
  calc (P:Int)=P*1:=(Int.mul_one _).symm
   _<=_:=Int.mul_le_mul_of_nonneg_left hpos (Int.natCast_nonneg _)
 generalize (P:Int)*2^(g-e).toNat=Z at*
 omega
theorem y2v {A B p:Nat}(hA:A≠0):2^(p+1)*B<=A*2^G0w A B p:=by
 have h1:=w0k hA;have h2:=Nat.le_of_lt (Z0g B);have h0:1<=Q0j A:=(by unfold Q0j;rw[if_neg hA];omega);unfold G0w
 calc 2^(p+1)*B<=2^(p+1)*2^Q0j B:=Nat.mul_le_mul_left _ h2
  _=2^(p+1+Q0j B):=by rw[<-Nat.pow_add]
  _<=2^((Q0j A-1)+(p+2+Q0j B-Q0j A)):=Nat.pow_le_pow_right (by decide) (by omega)
  _=2^(Q0j A-1)*2^(p+2+Q0j B-Q0j A):=Nat.pow_add ..
  _<=A*2^(p+2+Q0j B-Q0j A):=Nat.mul_le_mul_right _ h1
theorem U2y {a b:Vl}{p:Nat}(hb:b.neg=false)(hB:0<b.m){x:Rat}(hx:w1t p x):x<=qV (ratV a b p)<->x*qV b<=qV a:=by
 have hqb:qV b=qM (b.m:Int) b.e:=by unfold qV X0i;rw[hb];rfl
 have hb0:0<qV b:=by rw[hqb,<-K0h b.e,qM_lt];omega
 by_cases hA:a.m=0;have e1:qV (ratV a b p)=0:=(by unfold ratV;rw[if_pos hA];exact K0h 0);rw[e1,Z1w hA];constructor;intro h;have:=Rat.mul_le_mul_of_nonneg_right h (Rat.le_of_lt hb0);rwa [Rat.zero_mul] at this;intro h;exact Rat.le_of_mul_le_mul_right (by rwa [Rat.zero_mul]) hb0;obtain⟨t,ht⟩: ∃t,G0w a.m b.m p=t:=⟨_,rfl⟩;have big:=y2v (B:=b.m) (p:=p) hA;rw[ht] at big;have hv:qV (ratV a b p)=qM (if a.neg=true then -((2*(a.m*2^t/b.m)+(if a.m*2^t % b.m=0 then 0 else 1):Nat):Int) else((2*(a.m*2^t/b.m)+(if a.m*2^t % b.m=0 then 0 else 1):Nat):Int)) (a.e-b.e-(t:Int)-1):=by unfold ratV H0l;rw[if_neg hA,z0n,hb,ht,Bool.bne_false]
 have ha:qV a=qM (if a.neg=true then -((a.m*2^t:Nat):Int) else((a.m*2^t:Nat):Int)) (a.e-(t:Int)):=by
  have e1:(if a.neg=true then -((a.m*2^t:Nat):Int) else((a.m*2^t:Nat):Int))=X0i a*2^t:=by unfold X0i;cases a.neg<;>simp[Int.neg_mul]
  rw[e1,H0c];unfold qV;congr 1;omega
 rw[hqb] at hb0;rw[hv,ha,hqb];generalize a.m*2^t=N at*
 have hg: ∀j:Int,qM j (a.e-b.e-(t:Int))*qM (b.m:Int) b.e=qM (j*b.m) (a.e-(t:Int)):=fun j=>by rw[<-Q2y];congr 1;omega
 have hg2: ∀j:Int,qM j (a.e-b.e-(t:Int))=qM (2*j) (a.e-b.e-(t:Int)-1):=fun j=>by rw[Int.mul_comm,show(2:Int)=2^1 from rfl,H0c];congr 1;omega
 rcases G3p hx (a.e-b.e-(t:Int)) with ⟨j,rfl⟩ | ⟨l1,l2⟩;rw[hg,hg2,qM_le,qM_le];cases a.neg;exact w2j hB j;exact w2i hB j;have hF:2^(p+1)<=N/b.m:=(Nat.le_div_iff_mul_le hB).2 big;have hP:=Nat.two_pow_pos p;rw[Nat.pow_succ] at hF big;generalize 2^p=P at*
 have big2:2*((P:Int)*b.m)<=N:=by
  have:P*2*b.m<=N:=big;have e:P*2*b.m=2*(P*b.m):=(by rw[Nat.mul_comm P 2,Nat.mul_assoc]);rw[e] at this
  exact_mod_cast this
 have hPB:(0:Int)<(P:Int)*b.m:=by
  have:=Nat.mul_pos hP hB
  exact_mod_cast this
 cases hn:a.neg;rw[if_neg Bool.false_ne_true,if_neg Bool.false_ne_true];refine⟨fun _=> ?_,fun _=> ?_⟩;refine Rat.le_trans (Rat.mul_le_mul_of_nonneg_right l2 (Rat.le_of_lt hb0)) ?_;rw[hg,qM_le];omega;refine Rat.le_trans l2 ?_;rw[hg2,qM_le];omega;rw[if_pos rfl,if_pos rfl];constructor;intro h;exfalso;have:=Rat.le_trans l1 h;rw[hg2,qM_le] at this;omega;intro h;exfalso;have:=Rat.le_trans (Rat.mul_le_mul_of_nonneg_right l1 (Rat.le_of_lt hb0)) h;rw[hg,qM_le,Int.neg_mul] at this;omega
theorem v2f (a:Vl){b:Vl}(p:Nat)(hb:b.neg=false):qV (ratV (V0r a) b p)= -qV (ratV a b p):=by by_cases h0:a.m=0;have e:V0r a=a:=(by unfold V0r;rw[if_pos h0]);have e1:qV (ratV a b p)=0:=(by unfold ratV;rw[if_pos h0];exact K0h 0);rw[e,e1];rfl;have e3:(V0r a).neg= !a.neg:=(by unfold V0r;rw[if_neg h0]);unfold ratV;rw[X1v,X1w,e3,if_neg h0,if_neg h0,z0n,z0n,<-z1a,hb];congr 1;cases a.neg<;>simp
theorem x1r {p:Nat}{x:Rat}(hx:w1t p x):w1t p (-x):=by obtain⟨m,e,rfl,h⟩:=hx;exact⟨-m,e,(z1a _ _).symm,by rw[Int.natAbs_neg];exact h⟩
theorem K3j {a b:Vl}{p:Nat}(hb:b.neg=false)(hB:0<b.m){x:Rat}(hx:w1t p x):qV (ratV a b p)<=x<->qV a<=x*qV b:=by have:=U2y (a:=V0r a) hb hB (x1r hx);rw[v2f a p hb,H0m,Rat.neg_mul] at this;constructor;intro h;have:=this.1 (by grind);grind;intro h;have:=this.2 (by grind);grind
theorem z2q (v:Vl)(p:Nat):w1t p (qV (Z0z v p true)):=by rw[K2e];exact x1r (w1s _ _)
theorem j1n {a:Ivl}{c:Nm}{p:Int}(h:(divI a c p).2=0):Q0p a=true/\Z0p p=true:=by unfold divI at h;split at h;assumption;cases h
theorem x2s {a:Ivl}{c:Nm}{p:Int}(h:(divI a c p).2=0):qN (divI a c p).1.lo=qV (Z0z (ratV (ofN a.lo) (ofN c) p.toNat) p.toNat false)/\qN (divI a c p).1.hi=qV (Z0z (ratV (ofN a.hi) (ofN c) p.toNat) p.toNat true):=by have hr:=j1n h;unfold divI at h⊢;rw[if_pos hr] at h⊢;exact Z3u (X0t (H0g _ _ _) _ _) (X0t (H0g _ _ _) _ _) h
theorem H1a {a:Ivl}{c:Nm}{p:Int}(hc:c.neg=false)(h0:0<valW c.w)(h:(divI a c p).2=0){X:Rat}(hX:memI (X*qN c) a):memI X (divI a c p).1:=by
 obtain⟨e1,e2⟩:=x2s h;have hq:0<qV (ofN c):=by unfold qV;rw[<-K0h (ofN c).e,qM_lt];show 0<mant c;unfold mant;rw[hc,if_neg (by simp)];omega
 have r1:=(U2y (a:=ofN a.lo) (b:=ofN c) hc h0 (w1s (ratV (ofN a.lo) (ofN c) p.toNat) p.toNat)).1 (w0f _ _);have r2:=(K3j (a:=ofN a.hi) (b:=ofN c) hc h0 (z2q (ratV (ofN a.hi) (ofN c) p.toNat) p.toNat)).1 (w0g _ _);rw[K0n,K0n] at r1 r2;rw[K0n] at hq;rw[<-e1] at r1;rw[<-e2] at r2;exact⟨Rat.le_of_mul_le_mul_right (Rat.le_trans r1 hX.1) hq,Rat.le_of_mul_le_mul_right (Rat.le_trans hX.2 r2) hq⟩
theorem Z2c : ∀n,n<12->0<n->(ptW n).neg=false/\0<valW (ptW n).w/\0<=(ptW n).exp/\(ptW n).exp+(Q0j (valW (ptW n).w):Int)<=4:=by decide+kernel
theorem K3i {L U:Nat}{a b:Vl}{p:Nat}(ha:canV a)(h:luQ L U (qV a))(hb:b.neg=false)(hB:0<b.m)(he:0<=b.e)(he':b.e+(Q0j b.m:Int)<=4):luQ (L+p+8) (U+2) (qV (ratV a b p)):=by
 by_cases hA:a.m=0;have e1:qV (ratV a b p)=0:=(by unfold ratV;rw[if_pos hA];exact K0h 0);rw[e1];exact z0c _ _;rcases G1m ha h with h1 | ⟨h1,h2⟩;exact absurd h1 hA;obtain⟨t,ht⟩: ∃t,G0w a.m b.m p=t:=⟨_,rfl⟩;have htl:t<=p+2+Q0j b.m:=(by rw[<-ht];unfold G0w;omega);have hv:qV (ratV a b p)=qM (if a.neg=true then -((H0l a.m b.m p:Nat):Int) else((H0l a.m b.m p:Nat):Int)) (a.e-b.e-(t:Int)-1):=by unfold ratV;rw[if_neg hA,z0n,hb,ht,Bool.bne_false]
 have hq:H0l a.m b.m p<=2^(2+Q0j a.m+t):=by
  unfold H0l;rw[ht];have h3:a.m*2^t/b.m<=a.m*2^t:=Nat.div_le_self _ _;have h4:1<=a.m*2^t:=Nat.mul_pos (by omega) (Nat.two_pow_pos t);have h5:a.m*2^t<=2^Q0j a.m*2^t:=Nat.mul_le_mul_right _ (Nat.le_of_lt (Z0g a.m));rw[Nat.pow_add,Nat.pow_add,Nat.mul_assoc];generalize a.m*2^t=N at*
  generalize 2^Q0j a.m*2^t=M at*
  split<;>omega
 rw[hv];refine⟨(if a.neg=true then -((H0l a.m b.m p:Nat):Int) else((H0l a.m b.m p:Nat):Int))*2^(a.e-b.e-(t:Int)-1+((L+p+8:Nat):Int)).toNat,?_,?_⟩;rw[H0c];congr 1;omega;have e3:((if a.neg=true then -((H0l a.m b.m p:Nat):Int) else((H0l a.m b.m p:Nat):Int))*2^(a.e-b.e-(t:Int)-1+((L+p+8:Nat):Int)).toNat).natAbs=H0l a.m b.m p*2^(a.e-b.e-(t:Int)-1+((L+p+8:Nat):Int)).toNat:=by rw[Int.natAbs_mul,Int.natAbs_pow];generalize H0l a.m b.m p=M;split;rw[Int.natAbs_neg];rfl;rfl
 rw[e3]
 calc H0l a.m b.m p*2^(a.e-b.e-(t:Int)-1+((L+p+8:Nat):Int)).toNat<=2^(2+Q0j a.m+t)*2^(a.e-b.e-(t:Int)-1+((L+p+8:Nat):Int)).toNat:=Nat.mul_le_mul_right _ hq
  _=2^(2+Q0j a.m+t+(a.e-b.e-(t:Int)-1+((L+p+8:Nat):Int)).toNat):=(Nat.pow_add ..).symm
  _<=_:=Nat.pow_le_pow_right (by decide) (by omega)
theorem x2r {L U n:Nat}{a:Ivl}{p:Int}(ha:luI L U a)(hn:0<n)(hn2:n<12)(hp:Z0p p=true)(hbd:L+U+p.toNat+12<=4096):(divI a (ptW n) p).2=0/\luI (L+p.toNat+8) (U+3) (divI a (ptW n) p).1:=by obtain⟨c1,c2,c3,c4⟩:=Z2c n hn2 hn;have pp:=J1s hp;have ca:=canI ha.1;have l1:luQ (L+p.toNat+8) (U+2) (qV (ratV (ofN a.lo) (ofN (ptW n)) p.toNat)):=K3i ca.1 ha.2.1 c1 c2 c3 c4;have l2:luQ (L+p.toNat+8) (U+2) (qV (ratV (ofN a.hi) (ofN (ptW n)) p.toNat)):=K3i ca.2 ha.2.2 c1 c2 c3 c4;have r1:=(U2y (a:=ofN a.lo) (b:=ofN (ptW n)) c1 c2 (w1s (ratV (ofN a.lo) (ofN (ptW n)) p.toNat) p.toNat)).1 (w0f _ _);have r2:=(K3j (a:=ofN a.hi) (b:=ofN (ptW n)) c1 c2 (z2q (ratV (ofN a.hi) (ofN (ptW n)) p.toNat) p.toNat)).1 (w0g _ _);have hq:0<qV (ofN (ptW n)):=(by rw[K0n];exact(z1e n hn2 hn).2.1);have hle:qV (ofN a.lo)<=qV (ofN a.hi):=q0d ha.1;unfold divI;rw[if_pos ⟨ha.1,hp⟩];exact G1w (X0t (H0g _ _ _) _ _) (X0t (H0g _ _ _) _ _) (q0i (H0g _ _ _) l1 _ pp _) (q0i (H0g _ _ _) l2 _ pp _) (by omega) (Rat.le_of_mul_le_mul_right (Rat.le_trans r1 (Rat.le_trans hle r2)) hq)
theorem X2j {p:Int}{L U:Nat}(hp:Z0p p=true): ∀(l:List (Ivl×Ivl)) (sm:Bool) (s:Ivl) (U0:Nat),(∀x∈l,∃L1 U1 L2 U2,luI L1 U1 x.1/\luI L2 U2 x.2/\L1+L2<=L/\U1+U2+1<=U)->U<=U0->luI L U0 s->L+U0+2*l.length+3<=4096->
 (z0t p l sm s).2=0/\luI L (U0+2*l.length) (z0t p l sm s).1
 | [],sm,s,U0,_,_,hs,_=>⟨rfl,hs⟩
 | x::l,sm,s,U0,h,hU,hs,hb=>by
  obtain⟨L1,U1,L2,U2,a1,a2,a3,a4⟩:=h x (List.mem_cons_self ..);simp only[List.length_cons] at hb⊢;obtain⟨c,d⟩:=G2z a1 a2 hp (by omega);have d':=d.mono a3 (show U1+U2+1<=U0 by omega);have ih:=fun s U0=>X2j hp l true s U0 (fun y hy=>h y (List.mem_cons_of_mem _ hy));rw[U0v,if_pos c];cases sm with
  | false=>
   rw[if_neg (by decide)];obtain⟨e1,e2⟩:=ih _ U0 hU d' (by omega);exact⟨e1,e2.mono (Nat.le_refl _) (by omega)⟩
  | true=>
   rw[if_pos rfl];obtain⟨f1,f2⟩:=H2a (k:=0) (by decide) hs d' hp (by omega);rw[if_pos f1];obtain⟨e1,e2⟩:=ih _ (U0+2) (by omega) f2 (by omega);exact⟨e1,e2.mono (Nat.le_refl _) (by omega)⟩
def grI (a u s r k:Nat)(l:List Ivl):Prop:=k<l.length/\ ∀j,j<=k->luI (a*j+s) (u*j+r) (l.getD j default)
theorem W2g {a b:List Ivl}{k:Nat}{p:Int}(h:(V0p a b k p).2=0):V0p a b k p=z0t p (z0s a b k) false default:=by unfold V0p at h⊢;split;rfl;rename_i c;rw[if_neg c] at h;cases h
theorem X3n {a u s r s' r' k:Nat}{l l':List Ivl}{p:Int}(hp:Z0p p=true)(h:grI a u s r k l)(h':grI a u s' r' k l')(hb:a*k+(s+s')+(u*k+(r+r'+1))+2*k+5<=4096):
 (V0p l l' k p).2=0/\luI (a*k+(s+s')) (u*k+(r+r'+2*k+3)) (V0p l l' k p).1:=by
 have u1:K0k l k=true:=U0i h.1 fun j hj=>(h.2 j hj).1;have u2:K0k l' k=true:=U0i h'.1 fun j hj=>(h'.2 j hj).1;unfold V0p;rw[if_pos ⟨hp,u1,u2⟩];have hl:(z0s l l' k).length=k+1:=(by simp[z0s]);have key:=X2j (L:=a*k+(s+s')) (U:=u*k+(r+r'+1)) hp (z0s l l' k) false default (u*k+(r+r'+1)) (fun x hx=> ?_) (Nat.le_refl _) (w0s _ _) (by rw[hl];omega);refine⟨key.1,key.2.mono (Nat.le_refl _) ?_⟩;rw[hl];omega;obtain⟨i,hi,rfl⟩:=List.mem_map.1 hx;have hi:=List.mem_range.1 hi;refine⟨_,_,_,_,h.2 i (by omega),h'.2 (k-i) (by omega),?_,?_⟩;have:a*i+a*(k-i)=a*k:=(by rw[<-Nat.mul_add];congr 1;omega);omega;have:u*i+u*(k-i)=u*k:=(by rw[<-Nat.mul_add];congr 1;omega);omega
theorem grI.low {a u s r k j:Nat}{l:List Ivl}(h:grI a u s r k l)(hj:j<=k):grI a u s r j l:=⟨by have:=h.1;omega,fun i hi=>h.2 i (by omega)⟩
theorem Y2l {a u s r s' r' k K:Nat}{l l':List Ivl}{p:Int}(hp:Z0p p=true)(h:grI a u s r k l)(h':grI a u s' r' k l')(hk:k<=K)(hb:a*k+(s+s')+(u*k+(r+r'+1))+2*k+5<=4096):
 (Y0p l l' k p).2=0/\grI a u (s+s') (r+r'+2*K+3) k (Y0p l l' k p).1:=by
 have mono: ∀j,j<=k->a*j<=a*k/\u*j<=u*k:=fun j hj=>⟨Nat.mul_le_mul_left _ hj,Nat.mul_le_mul_left _ hj⟩;have key: ∀j,j<=k->_:=fun j hj=>X3n hp (h.low hj) (h'.low hj) (by have:=mono j hj;omega);have h0:(tabF (fun j=>V0p l l' j p) 0 (k+1) []).2=0:=q0v _ _ _ fun j _ hj=>(key j (by omega)).1;obtain⟨x1,x2,x3⟩:=J0t h0;refine⟨h0,by unfold Y0p;omega,fun j hj=> ?_⟩;show luI _ _ ((tabF (fun j=>V0p l l' j p) 0 (k+1) []).1.getD j default);rw[x3 j (by omega)];exact(key j hj).2.mono (Nat.le_refl _) (by omega)
theorem Z2i {a u s r s1 r1 k K N:Nat}{l x:List Ivl}{p:Int}(hp:Z0p p=true)(hl:grI a u s r k l)(hx:grI a u s1 r1 k x)(hk:k<=K)(hb:a*k+(s+N*s1)+(u*k+(r+N*(r1+2*K+3)))+2*k+5<=4096):
 ∀n,n<=N->(V0a l x k p n).2=0/\grI a u (s+n*s1) (r+n*(r1+2*K+3)) k (V0a l x k p n).1
 | 0,_=>⟨rfl,by rw[Nat.zero_mul,Nat.zero_mul];exact hl⟩
 | n+1,hn=>by obtain⟨e1,e2⟩:=Z2i hp hl hx hk hb n (by omega);rw[V0a,if_neg (by rw[e1];decide)];have m1:(n+1)*s1<=N*s1:=Nat.mul_le_mul_right _ hn;have m2:(n+1)*(r1+2*K+3)<=N*(r1+2*K+3):=Nat.mul_le_mul_right _ hn;have q1:(n+1)*s1=n*s1+s1:=Nat.succ_mul _ _;have q2:(n+1)*(r1+2*K+3)=n*(r1+2*K+3)+(r1+2*K+3):=Nat.succ_mul _ _;obtain⟨f1,f2⟩:=Y2l hp e2 hx hk (by omega);refine⟨f1,?_⟩;rw[show s+(n+1)*s1=s+n*s1+s1 by omega,show r+(n+1)*(r1+2*K+3)=r+n*(r1+2*K+3)+r1+2*K+3 by omega];exact f2
theorem U3k {a u Lc Uc k:Nat}{c:Nm}(hr:Q0q c=true)(hc:luQ Lc Uc (qN c)):grI a u Lc Uc k (numS c k):=by
 refine⟨by simp[numS],fun j hj=> ?_⟩;cases j with
 | zero=>
  show luI _ _ (⟨c,c⟩:Ivl);exact(show luI Lc Uc ⟨c,c⟩ from⟨q0z hr,hc,hc⟩).mono (by omega) (by omega)
 | succ j=>
  have:(numS c k).getD (j+1) default=default:=by show(List.replicate k (default:Ivl)).getD j default=default;simp[q_a,(by omega:j<k)]
  rw[this];exact w0s _ _
theorem Z2g {m:Mn}{xs:List (List Ivl)}{p:Int}{a u Lc Uc s1 r1 k K D:Nat}(hp:Z0p p=true)(hm:Q0q m.c=true/\luQ Lc Uc (qN m.c))(hr:J0w m.ks=true)(hD:m.ks.sum<=D)(hlen:m.ks.length=xs.length)(hx: ∀i,i<xs.length->grI a u s1 r1 k (xs.getD i []))(hk:k<=K)
 (hb:a*k+(Lc+D*s1)+(u*k+(Uc+D*(r1+2*K+3)))+2*k+5<=4096):
 ∀i,i<=xs.length->(X0v m xs k p i).2=0/\grI a u (Lc+sumK m.ks i*s1) (Uc+sumK m.ks i*(r1+2*K+3)) k (X0v m xs k p i).1
 | 0,_=>⟨rfl,by have e:sumK m.ks 0=0:=(by simp[sumK]);rw[e,Nat.zero_mul,Nat.zero_mul];exact U3k hm.1 hm.2⟩
 | i+1,hi=>by
  obtain⟨e1,e2⟩:=Z2g hp hm hr hD hlen hx hk hb i (by omega);have hs:=q0c hr (i+1) (by omega);have hs0:=q0c hr i (by omega);have hat:=X0n hr i (by omega);have hst:=q0w m.ks i (by omega);have hsum:sumK m.ks (i+1)=sumK m.ks i+(m.ks.getD i 0).toNat:=(by unfold sumK;omega);have hle:(sumK m.ks (i+1):Int)<=D:=Y2v hr hD (by omega);have hle':sumK m.ks (i+1)<=D:=(by omega);rw[X0v,if_neg (by rw[e1];decide),hsum];rw[hsum] at hle';generalize (m.ks.getD i 0).toNat=n at*
  generalize sumK m.ks i=t at*
  have m1:(t+n)*s1<=D*s1:=Nat.mul_le_mul_right _ hle';have m2:(t+n)*(r1+2*K+3)<=D*(r1+2*K+3):=Nat.mul_le_mul_right _ hle';rw[Nat.add_mul] at m1 m2;obtain⟨f1,f2⟩:=Z2i hp e2 (hx i (by omega)) hk (N:=n) (by omega) n (Nat.le_refl _);refine⟨f1,?_⟩;rw[Nat.add_mul,Nat.add_mul,<-Nat.add_assoc,<-Nat.add_assoc];exact f2
theorem H2d {q:List Mn}{xs:List (List Ivl)}{p:Int}{a u Lc Uc s1 r1 k K D:Nat}(hp:Z0p p=true)
 (hq: ∀j,j<q.length->Q0q (q.getD j default).c=true/\luQ Lc Uc (qN (q.getD j default).c)/\J0w (q.getD j default).ks=true/\(q.getD j default).ks.sum<=D/\(q.getD j default).ks.length=xs.length)
 (hx: ∀i,i<xs.length->grI a u s1 r1 k (xs.getD i [])) (hk:k<=K) (hb:a*k+(Lc+D*s1)+(u*k+(Uc+D*(r1+2*K+3)))+2*k+2*q.length+5<=4096):
 ∀i,i<=q.length->(ofS q xs k p i).2=0/\luI (a*k+(Lc+D*s1)) (u*k+(Uc+D*(r1+2*K+3))+2*i) (ofS q xs k p i).1
 | 0,_=>⟨rfl,w0s _ _⟩
 | i+1,hi=>by obtain⟨e1,e2⟩:=H2d hp hq hx hk hb i (by omega);obtain⟨q1,q2,q3,q4,q5⟩:=hq i (by omega);obtain⟨f1,f2⟩:=Z2g hp ⟨q1,q2⟩ q3 q4 q5 hx hk (by omega) xs.length (Nat.le_refl _);have hle:(sumK (q.getD i default).ks xs.length:Int)<=D:=Y2v q3 q4 (by omega);have hle':sumK (q.getD i default).ks xs.length<=D:=(by omega);have m1:sumK (q.getD i default).ks xs.length*s1<=D*s1:=Nat.mul_le_mul_right _ hle';have m2:sumK (q.getD i default).ks xs.length*(r1+2*K+3)<=D*(r1+2*K+3):=Nat.mul_le_mul_right _ hle';have f3:=(f2.2 k (Nat.le_refl _)).mono (L':=a*k+(Lc+D*s1)) (U':=u*k+(Uc+D*(r1+2*K+3))+2*i) (by omega) (by omega);rw[ofS,if_neg (by rw[e1];decide),if_neg (by rw[f1];decide)];obtain⟨g1,g2⟩:=H2a (k:=0) (by decide) e2 f3 hp (by omega);exact⟨g1,g2.mono (Nat.le_refl _) (by omega)⟩
theorem W1u {q:List Mn}{xs:List (List Ivl)}{k p:Int}(h:(U0a q xs k p).2=0):Z1d k p=true/\U0a q xs k p=ofS q xs k.toNat p q.length:=by unfold U0a at h⊢;split;rename_i c;exact⟨c.1,rfl⟩;rename_i c;rw[if_neg c] at h;cases h
theorem G1v {f:List (List Mn)}{x:List Ivl}{p:Int}{n M:Nat}(hf:okField n M 3 f)(hM:M<=3)(hn1:1<=n)(hn4:n<=4)(hl:x.length=n)(hx: ∀j,j<n->luI 62 105 (x.getD j default))(hp:Z0p p=true):
 ∀k,k<=5->(Z0o f x p k).2=0/\ ∀i,i<n->grI 400 280 62 105 k ((Z0o f x p k).1.getD i [])
 | 0,_=>by refine⟨rfl,fun i hi=> ?_⟩;have e1:(Z0o f x p 0).1.getD i []= [x.getD i default]:=(by simp[Z0o,q_a,(by omega:i<x.length)]);rw[e1];refine⟨by simp,fun j hj=> ?_⟩;obtain rfl:j=0:=(by omega);exact hx i hi
 | k+1,hk=>by
  obtain⟨c,hg⟩:=G1v hf hM hn1 hn4 hl hx hp k (by omega);have hfl:=hf.1;have wx: ∀a∈x,wI a:=fun a ha=>by obtain⟨i,hi,rfl⟩:=List.mem_iff_getElem.1 ha;have:=(hx i (by omega)).1;rw[show x.getD i default=x[i] by simp[q_a,hi]] at this;exact x0b this
  obtain⟨a1,a2⟩:=z0e (f:=f) (p:=p) (by omega) wx k c;have hpp:p.toNat<=256:=by unfold Z0p at hp;simp only[q_i,decide_eq_true_eq] at hp;omega
  have key: ∀i,i<n->(G0v f (Z0o f x p k).1 k p i).2=0/\luI (400*(k+1)+62) (280*(k+1)+105) (G0v f (Z0o f x p k).1 k p i).1:=fun i hi=>by
   have okP:=hf.at (i:=i) (by omega);have hql:(f.getD i []).length<=M:=okP.2.1;have hk4:k<=4:=(by omega);have m1:400*k<=400*4:=Nat.mul_le_mul_left _ hk4;have m2:280*k<=280*4:=Nat.mul_le_mul_left _ hk4;obtain⟨o1,o2⟩:=H2d (q:=f.getD i []) (xs:=(Z0o f x p k).1) (p:=p) (a:=400) (u:=280) (Lc:=12) (Uc:=18+M) (s1:=62) (r1:=105) (k:=k) (K:=4) (D:=3) hp
    (fun j hj=>by obtain⟨z1,z2,z3,z4,z5,z6⟩:=okP.at hj;exact⟨z4,z6,z2,z3,by omega⟩)
    (fun j hj=>hg j (by omega)) hk4 (by omega) _ (Nat.le_refl _)
   have hser:U0a (f.getD i []) (Z0o f x p k).1 k p=ofS (f.getD i []) (Z0o f x p k).1 k p (f.getD i []).length:=by unfold U0a;rw[Int.toNat_natCast,if_pos];refine⟨?_,?_,?_⟩;unfold Z1d;rw[hp];simp;omega;rw[a1,hl];exact okP.1;rw[q_d];intro r hr;obtain⟨j,hj,rfl⟩:=List.mem_iff_getElem.1 hr;have g:=hg j (by omega);rw[show(Z0o f x p k).1.getD j []=(Z0o f x p k).1[j] by simp[q_a,hj]] at g;exact U0i g.1 fun t ht=>(g.2 t ht).1
   unfold G0v;rw[hser,if_neg (by rw[o1];decide)];obtain⟨d1,d2⟩:=x2r (n:=k+1) o2 (by omega) (by omega) hp (by omega);exact⟨d1,d2.mono (by omega) (by omega)⟩
  have d:(J1g f (Z0o f x p k).1 k p).2=0:=q0v _ _ _ fun j _ hj=>(key j (by omega)).1;obtain⟨g1,g2,g3⟩:=J0t d;rw[Z0o,if_neg (by rw[c];decide),if_neg (by rw[d];decide)];refine⟨rfl,fun i hi=> ?_⟩;show grI _ _ _ _ _ ((Y0o _ _ _).getD i []);rw[H0w _ _ i (by omega),if_pos (by omega)];obtain⟨l1,_⟩:=a2 i (by omega);refine⟨by rw[List.length_append,l1];simp,fun j hj=> ?_⟩;by_cases hjk:j<=k;rw[Q0g _ _ _ _ (by omega)];exact(hg i hi).2 j hjk;obtain rfl:j=k+1:=(by omega);rw[Q0k _ _ _ _ (by omega),l1,Nat.sub_self];show luI _ _ ((tabF (G0v f (Z0o f x p k).1 k p) 0 f.length []).1.getD i default);rw[g3 i (by omega)];exact(key i hi).2
set_option maxRecDepth 100000
open Go.Proofs
theorem w1r {f:List (List Mn)}{x:List Ivl}{p:Int}{n k:Nat}(hf:okField n 3 3 f)(hn1:1<=n)(hn4:n<=4)(hl:x.length=n)(hx: ∀j,j<n->luI 62 105 (x.getD j default))(hp:Z0p p=true)(hk:k<=5):
 W0s f x k p=Z0o f x p k/\(W0s f x k p).2=0/\(W0s f x k p).1.length=n/\ ∀i,i<n->((W0s f x k p).1.getD i []).length=k+1/\(∀y∈(W0s f x k p).1.getD i [],wI y)/\ ∀j,j<=k->Q0p (((W0s f x k p).1.getD i []).getD j default)=true:=by
 have hfl:=hf.1;have rx:rightB x=true:=q1q (fun j hj=>(hx j (by omega)).1) (by omega) (by omega);have rf:=hf.right hn1 hn4;have e:W0s f x k p=Z0o f x p k:=by unfold W0s;rw[if_pos ⟨rf,rx,by omega,by omega,by omega,hp⟩,Int.toNat_natCast]
 have wx: ∀a∈x,wI a:=fun a ha=>by obtain⟨i,hi,rfl⟩:=List.mem_iff_getElem.1 ha;have:=(hx i (by omega)).1;rw[show x.getD i default=x[i] by simp[q_a,hi]] at this;exact x0b this
 obtain⟨s0,s1⟩:=G1v hf (by omega) hn1 hn4 hl hx hp k hk;obtain⟨a1,a2⟩:=z0e (f:=f) (p:=p) (by omega) wx k s0;rw[e];exact⟨rfl,s0,by omega,fun i hi=>⟨(a2 i (by omega)).1,(a2 i (by omega)).2,fun j hj=>((s1 i hi).2 j hj).1⟩⟩
theorem X1z (c:Rat)(g:Nat->Rat): ∀n,sumR (fun i=>c*g i) n=c*sumR g n
 | 0=>by rw[sumR,sumR];grind
 | n+1=>by rw[sumR,sumR,X1z c g n];grind
def j1t (a b:Nat->Rat)(k:Nat):Rat:=sumR (fun i=>a i*b (k-i)) (k+1)
def powR (s x:Nat->Rat):Nat->Nat->Rat
 | 0=>s
 | n+1=>fun j=>j1t (powR s x n) x j
def monR (c:Rat)(ks:List Int)(xs:Nat->Nat->Rat):Nat->Nat->Rat
 | 0=>fun j=>if j=0 then c else 0
 | i+1=>powR (monR c ks xs i) (xs i) (ks.getD i 0).toNat
def polR (q:List Mn)(n:Nat)(xs:Nat->Nat->Rat)(k:Nat):Nat->Rat
 | 0=>0
 | i+1=>polR q n xs k i+monR (qN (q.getD i default).c) (q.getD i default).ks xs n k
def memL (k:Nat)(a:Nat->Rat)(l:List Ivl):Prop:= ∀j,j<=k->memI (a j) (l.getD j default)
theorem j1u {p:Int}(g h:Nat->Rat)(a b:Nat->Ivl): ∀(n m:Nat) (sm:Bool) (s:Ivl) (S:Rat),(∀i,m<=i->i<m+n->memI (g i) (a i)/\memI (h i) (b i))->memI S s->(sm=false->S=0)->
 (z0t p ((List.range' m n).map fun i=>(a i,b i)) sm s).2=0->memI (S+(sumR (fun i=>g i*h i) (m+n)-sumR (fun i=>g i*h i) m)) (z0t p ((List.range' m n).map fun i=>(a i,b i)) sm s).1
 | 0,m,sm,s,S,_,h0,_,_=>by
  have e:S+(sumR (fun i=>g i*h i) (m+0)-sumR (fun i=>g i*h i) m)=S:=by rw[Nat.add_zero];grind
  rw[e];exact h0
 | n+1,m,sm,s,S,hs,h0,hz,hh=>by
  obtain⟨x1,x2⟩:=hs m (by omega) (by omega);have ih:=fun sm s S=>j1u (p:=p) g h a b n (m+1) sm s S (fun i h1 h2=>hs i (by omega) (by omega));rw[show m+(n+1)=m+1+n by omega];rw[List.range'_succ,List.map_cons] at hh⊢;rw[U0v] at hh⊢;have es:sumR (fun i=>g i*h i) (m+1)=sumR (fun i=>g i*h i) m+g m*h m:=rfl;by_cases c:(opI 2 (a m) (b m) p).2=0;rw[if_pos c] at hh⊢;have h2:memI (g m*h m) (opI 2 (a m) (b m) p).1:=K1b 2 c x1 x2;cases sm with
  | false=>
   rw[if_neg (by decide)] at hh⊢;have r:=ih true _ _ h2 (fun e=>by cases e) hh;rw[hz rfl];rw[es] at r;rw[show(0:Rat)+(sumR (fun i=>g i*h i) (m+1+n)-sumR (fun i=>g i*h i) m)=g m*h m+(sumR (fun i=>g i*h i) (m+1+n)-(sumR (fun i=>g i*h i) m+g m*h m)) by grind];exact r
  | true=>
   rw[if_pos rfl] at hh⊢;by_cases d:(opI 0 s (opI 2 (a m) (b m) p).1 p).2=0;rw[if_pos d] at hh⊢;have h3:memI (S+g m*h m) (opI 0 s (opI 2 (a m) (b m) p).1 p).1:=K1b 0 d h0 h2;have r:=ih true _ _ h3 (fun e=>by cases e) hh;rw[es] at r;rw[show S+(sumR (fun i=>g i*h i) (m+1+n)-sumR (fun i=>g i*h i) m)=S+g m*h m+(sumR (fun i=>g i*h i) (m+1+n)-(sumR (fun i=>g i*h i) m+g m*h m)) by grind];exact r;rw[if_neg d] at hh;exact absurd hh d
  rw[if_neg c] at hh;exact absurd hh c
theorem K1g :memI 0 default:=by show qN default<=0/\0<=qN default;have e:qN default=0:=(by decide+kernel);rw[e];exact⟨Rat.le_refl,Rat.le_refl⟩
theorem j2d {a b:List Ivl}{k:Nat}{p:Int}{g h:Nat->Rat}(hh:(V0p a b k p).2=0)(ha:memL k g a)(hb:memL k h b):memI (j1t g h k) (V0p a b k p).1:=by
 have n1:=W2g hh;rw[n1] at hh⊢;have e:z0s a b k=(List.range' 0 (k+1)).map fun i=>(a.getD i default,b.getD (k-i) default):=by unfold z0s;rw[List.range_eq_range']
 rw[e] at hh⊢;have r:=j1u (p:=p) g (fun i=>h (k-i)) (fun i=>a.getD i default) (fun i=>b.getD (k-i) default) (k+1) 0 false default 0 (fun i _ hi=>⟨ha i (by omega),hb (k-i) (by omega)⟩) K1g (fun _=>rfl) hh;unfold j1t;rw[Nat.zero_add] at r;rw[show(0:Rat)+(sumR (fun i=>g i*h (k-i)) (k+1)-sumR (fun i=>g i*h (k-i)) 0)=sumR (fun i=>g i*h (k-i)) (k+1) by simp only[show sumR (fun i=>g i*h (k-i)) 0=0 from rfl];grind] at r;exact r
theorem J2k {a b:List Ivl}{k:Nat}{p:Int}{g h:Nat->Rat}(hh:(Y0p a b k p).2=0)(ha:memL k g a)(hb:memL k h b):memL k (fun j=>j1t g h j) (Y0p a b k p).1:=by obtain⟨x1,x2,x3⟩:=J0t hh;intro j hj;show memI _ ((tabF (fun j=>V0p a b j p) 0 (k+1) []).1.getD j default);rw[x3 j (by omega)];exact j2d (x2 j (by omega)) (fun i hi=>ha i (by omega)) (fun i hi=>hb i (by omega))
theorem z1j {s x:List Ivl}{k:Nat}{p:Int}{g h:Nat->Rat}(hs:memL k g s)(hx:memL k h x): ∀n,(V0a s x k p n).2=0->memL k (powR g h n) (V0a s x k p n).1
 | 0,_=>hs
 | n+1,hh=>by rw[V0a] at hh⊢;by_cases c:(V0a s x k p n).2=0;rw[if_neg (by rw[c];decide)] at hh⊢;exact J2k hh (z1j hs hx n c) hx;rw[if_pos c] at hh;exact absurd hh c
def memX (k:Nat)(c:Nat->Nat->Rat)(xs:List (List Ivl)):Prop:= ∀i,i<xs.length->memL k (c i) (xs.getD i [])
theorem z1g {m:Mn}{xs:List (List Ivl)}{k:Nat}{p:Int}{c:Nat->Nat->Rat}(hx:memX k c xs): ∀i,i<=xs.length->(X0v m xs k p i).2=0->memL k (monR (qN m.c) m.ks c i) (X0v m xs k p i).1
 | 0,_,_=>fun j hj=>by
  show memI _ ((numS m.c k).getD j default);unfold numS;cases j with
  | zero=>exact⟨Rat.le_refl,Rat.le_refl⟩
  | succ j=>
   rw[show(⟨m.c,m.c⟩::List.replicate k (default:Ivl)).getD (j+1) default=default by simp[q_a,List.getElem?_replicate];split<;>rfl];exact K1g
 | i+1,hi,hh=>by rw[X0v] at hh⊢;by_cases d:(X0v m xs k p i).2=0;rw[if_neg (by rw[d];decide)] at hh⊢;exact z1j (z1g hx i (by omega) d) (hx i (by omega)) _ hh;rw[if_pos d] at hh;exact absurd hh d
theorem w1a {q:List Mn}{xs:List (List Ivl)}{k:Nat}{p:Int}{c:Nat->Nat->Rat}(hx:memX k c xs): ∀i,i<=q.length->(ofS q xs k p i).2=0->memI (polR q xs.length c k i) (ofS q xs k p i).1
 | 0,_,_=>K1g
 | i+1,hi,h=>by by_cases d:(ofS q xs k p i).2=0;have n1: ¬(ofS q xs k p i).2≠0:=fun x=>x d;rw[ofS,if_neg n1] at h;by_cases e:(X0v (q.getD i default) xs k p xs.length).2=0;have m1: ¬(X0v (q.getD i default) xs k p xs.length).2≠0:=fun x=>x e;rw[if_neg m1] at h;have e1:ofS q xs k p (i+1)=opI 0 (ofS q xs k p i).1 ((X0v (q.getD i default) xs k p xs.length).1.getD k default) p:=(by rw[ofS,if_neg n1,if_neg m1]);rw[e1];exact K1b 0 h (w1a hx i (by omega) d) (z1g hx xs.length (Nat.le_refl _) e k (Nat.le_refl _));rw[if_pos e] at h;exact absurd h e;rw[ofS,if_pos d] at h;exact absurd h d
theorem k3i : ∀n,n<12->0<n->qN (ptW n)=(n:Rat):=by decide+kernel
theorem H2o {f:List (List Mn)}{xs:List (List Ivl)}{k:Nat}{p:Int}{i:Nat}{c:Nat->Nat->Rat}(hx:memX k c xs)(h:(G0v f xs k p i).2=0){X:Rat}(hX:X*((k+1:Nat):Rat)=polR (f.getD i []) xs.length c k (f.getD i []).length):memI X (G0v f xs k p i).1:=by
 unfold G0v at h⊢;by_cases d:(U0a (f.getD i []) xs k p).2=0;rw[if_neg (by rw[d];decide)] at h⊢;obtain⟨v,e⟩:=W1u d;have hk:k<=10:=by unfold Z1d at v;simp only[q_i,decide_eq_true_eq] at v;omega
 obtain⟨c1,c2,_⟩:=Z2c (k+1) (by omega) (by omega);refine H1a c1 c2 h ?_;rw[k3i (k+1) (by omega) (by omega),hX];rw[e] at d⊢;rw[Int.toNat_natCast] at*
 exact w1a hx _ (Nat.le_refl _) d;rw[if_pos d] at h;exact absurd h d
def serR (f:List (List Mn))(c:Nat->Nat->Rat)(K:Nat):Prop:= ∀k,k<K-> ∀i,i<f.length->c i (k+1)*((k+1:Nat):Rat)=polR (f.getD i []) f.length c k (f.getD i []).length
theorem x1k {f:List (List Mn)}{x:List Ivl}{p:Int}{c:Nat->Nat->Rat}(hx:x.length=f.length)(wx: ∀a∈x,wI a)(hc: ∀i,i<f.length->memI (c i 0) (x.getD i default)):
 ∀k,serR f c k->(Z0o f x p k).2=0->memX k c (Z0o f x p k).1
 | 0,_,_=>by intro i hi j hj;have hi':i<f.length:=(by simpa[Z0o,hx] using hi);obtain rfl:j=0:=(by omega);have e1:(Z0o f x p 0).1.getD i []= [x.getD i default]:=(by simp[Z0o,q_a,(by omega:i<x.length)]);rw[e1];exact hc i hi'
 | k+1,hR,h=>by by_cases d:(Z0o f x p k).2=0;have ih:=x1k hx wx hc k (fun j hj=>hR j (by omega)) d;obtain⟨a1,a2⟩:=z0e hx wx k d;rw[Z0o,if_neg (by rw[d];decide)] at h⊢;by_cases e:(J1g f (Z0o f x p k).1 k p).2=0;rw[if_neg (by rw[e];decide)];obtain⟨g1,g2,g3⟩:=J0t e;intro i hi;have hi':i<f.length:=(by rw[V0b,a1] at hi;omega);show memL _ _ ((Y0o _ _ _).getD i []);rw[H0w _ _ i (by omega),if_pos hi'];obtain⟨l1,_⟩:=a2 i (by omega);intro j hj;by_cases hjk:j<=k;rw[Q0g _ _ _ _ (by omega)];exact ih i (by omega) j hjk;obtain rfl:j=k+1:=(by omega);rw[Q0k _ _ _ _ (by omega),l1,Nat.sub_self];show memI _ ((tabF (G0v f (Z0o f x p k).1 k p) 0 f.length []).1.getD i default);rw[g3 i hi'];exact H2o ih (g2 i hi') (by rw[a1,hx];exact hR k (by omega) i hi');rw[if_pos e] at h;exact absurd h e;rw[Z0o,if_pos d] at h;exact absurd h d
def binN (k:Nat):Nat->Nat
 | 0=>1
 | i+1=>binN k i*(k-i)/(i+1)
def fctN :Nat->Nat
 | 0=>1
 | n+1=>(n+1)*fctN n
theorem q3e : ∀k,k<12-> ∀i,i<=k->binN k i*(fctN i*fctN (k-i))=fctN k:=by decide+kernel
theorem X2p : ∀k,k<12-> ∀i,i<=k->binN k i<=512:=by decide+kernel
def k0y (a b:Nat->Rat)(k:Nat):Rat:=sumR (fun i=>(binN k i:Rat)*(a i*b (k-i))) (k+1)
def powL (s x:Nat->Rat):Nat->Nat->Rat
 | 0=>s
 | n+1=>fun j=>k0y (powL s x n) x j
def monL (c:Rat)(ks:List Int)(xs:Nat->Nat->Rat):Nat->Nat->Rat
 | 0=>fun j=>if j=0 then c else 0
 | i+1=>powL (monL c ks xs i) (xs i) (ks.getD i 0).toNat
def polL (q:List Mn)(n:Nat)(xs:Nat->Nat->Rat)(k:Nat):Nat->Rat
 | 0=>0
 | i+1=>polL q n xs k i+monL (qN (q.getD i default).c) (q.getD i default).ks xs n k
def facs (k:Nat)(a α:Nat->Rat):Prop:= ∀j,j<=k->a j=(fctN j:Rat)*α j
theorem z1z {a b α β:Nat->Rat}{k:Nat}(hk:k<12)(ha:facs k a α)(hb:facs k b β):k0y a b k=(fctN k:Rat)*j1t α β k:=by unfold k0y j1t;rw[<-X1z];refine U0o fun i hi=> ?_;rw[ha i (by omega),hb (k-i) (by omega),<-q3e k hk i (by omega)];simp only[Rat.natCast_mul];grind
theorem facs.low {k j:Nat}{a α:Nat->Rat}(h:facs k a α)(hj:j<=k):facs j a α:=fun i hi=>h i (by omega)
theorem Z2d {s σ x ξ:Nat->Rat}{k:Nat}(hk:k<12)(hs:facs k s σ)(hx:facs k x ξ): ∀n,facs k (powL s x n) (powR σ ξ n)
 | 0=>hs
 | n+1=>fun j hj=>z1z (by omega) ((Z2d hk hs hx n).low hj) (hx.low hj)
theorem Z2p {c:Rat}{ks:List Int}{xs ξ:Nat->Nat->Rat}{k n:Nat}(hk:k<12)(hx: ∀i,i<n->facs k (xs i) (ξ i)): ∀i,i<=n->facs k (monL c ks xs i) (monR c ks ξ i)
 | 0,_=>fun j hj=>by show(if j=0 then c else 0)=_*(if j=0 then c else 0);split;rename_i e;subst e;show c=((1:Nat):Rat)*c;grind;grind
 | i+1,hi=>Z2d hk (Z2p hk hx i (by omega)) (hx i (by omega)) _
theorem G1c {q:List Mn}{xs ξ:Nat->Nat->Rat}{k n:Nat}(hk:k<12)(hx: ∀i,i<n->facs k (xs i) (ξ i)): ∀i,polL q n xs k i=(fctN k:Rat)*polR q n ξ k i
 | 0=>by simp only[polL,polR];grind
 | i+1=>by rw[polL,polR,G1c hk hx i,Z2p hk hx n (Nat.le_refl _) k (Nat.le_refl _)];grind
def derR (f:List (List Mn))(D:Nat->Nat->Rat)(K:Nat):Prop:= ∀k,k<K-> ∀i,i<f.length->D i (k+1)=polL (f.getD i []) f.length D k (f.getD i []).length
theorem w1u : ∀k,0<fctN k
 | 0=>by decide
 | k+1=>Nat.mul_pos (by omega) (w1u k)
theorem x1u (k:Nat):(fctN k:Rat)≠0:=by have:=w1u k;intro e;have:fctN k=0:=(by exact_mod_cast e);omega
def q0a (D:Nat->Nat->Rat):Nat->Nat->Rat:=fun i k=>D i k/(fctN k:Rat)
theorem y0v (D:Nat->Nat->Rat)(i k:Nat):facs k (D i) (q0a D i):=fun j _=>by have:=x1u j;unfold q0a;grind
theorem H3n {f:List (List Mn)}{D:Nat->Nat->Rat}{K:Nat}(hK:K<=12)(h:derR f D K):serR f (q0a D) K:=fun k hk i hi=>by
 have e:=h k hk i hi;rw[G1c (ξ:=q0a D) (by omega) (fun i _=>y0v D i k)] at e;have n1:=x1u k;have n2:=x1u (k+1);have n3:(fctN (k+1):Rat)=((k+1:Nat):Rat)*(fctN k:Rat):=by show(((k+1)*fctN k:Nat):Rat)=_;rw[Rat.natCast_mul]
 unfold q0a;unfold q0a at e;rw[e,n3];rw[n3] at n2;generalize polR _ _ _ _ _=P;generalize (fctN k:Rat)=F at*
 generalize ((k+1:Nat):Rat)=N at*
 grind
def grQ (a u s r k:Nat)(g:Nat->Rat):Prop:= ∀j,j<=k->luQ (a*j+s) (u*j+r) (g j)
theorem grQ.low {a u s r k j:Nat}{g:Nat->Rat}(h:grQ a u s r k g)(hj:j<=k):grQ a u s r j g:=fun i hi=>h i (by omega)
theorem k0w {m n:Nat}(h:m<=2^n):luQ 0 n (m:Rat):=by
 have:=q2d (z:=(m:Int)) (n:=n) (by simp;omega) 0;have e:qM (m:Int) 0=(m:Rat):=by unfold qM;rw[J1y,Rat.mul_one];rfl
 rw[e] at this;exact this
theorem U1t {L U:Nat}{g:Nat->Rat} : ∀n,(∀i,i<n->luQ L U (g i))->luQ L (U+n) (sumR g n)
 | 0,_=>z0c _ _
 | n+1,h=>Q1l (U1t n fun i hi=>h i (by omega)) ((h n (by omega)).up (U':=U+n) (by omega))
theorem z1y {a u s r s' r' k i:Nat}{g h:Nat->Rat}(hk:k<12)(hg:grQ a u s r k g)(hh:grQ a u s' r' k h)(hi:i<=k):luQ (a*k+(s+s')) (u*k+(r+r'+9)) ((binN k i:Rat)*(g i*h (k-i))):=by have h1:=k0w (n:=9) (X2p k hk i hi);have h2:=x0j h1 (x0j (hg i hi) (hh (k-i) (by omega)));have e1:a*i+a*(k-i)=a*k:=(by rw[<-Nat.mul_add];congr 1;omega);have e2:u*i+u*(k-i)=u*k:=(by rw[<-Nat.mul_add];congr 1;omega);exact h2.mono (by omega) (by omega)
theorem G1o {a u s r s' r' k:Nat}{g h:Nat->Rat}(hk:k<12)(hg:grQ a u s r k g)(hh:grQ a u s' r' k h): ∀n,n<=k+1->luQ (a*k+(s+s')) (u*k+(r+r'+21)) (sumR (fun i=>(binN k i:Rat)*(g i*h (k-i))) n):=fun n hn=>
 (U1t n fun i hi=>z1y hk hg hh (by omega)).up (by omega)
theorem v1q {a u s r s1 r1 k:Nat}{g x:Nat->Rat}(hk:k<12)(hg:grQ a u s r k g)(hx:grQ a u s1 r1 k x): ∀n,grQ a u (s+n*s1) (r+n*(r1+21)) k (powL g x n)
 | 0=>by rw[Nat.zero_mul,Nat.zero_mul];exact hg
 | n+1=>fun j hj=>by have:=G1o (by omega) ((v1q hk hg hx n).low hj) (hx.low hj) (j+1) (Nat.le_refl _);have q1:(n+1)*s1=n*s1+s1:=Nat.succ_mul _ _;have q2:(n+1)*(r1+21)=n*(r1+21)+(r1+21):=Nat.succ_mul _ _;rw[q1,q2];exact this.mono (by omega) (by omega)
def sumE (ks:List Int):Nat->Nat
 | 0=>0
 | i+1=>sumE ks i+(ks.getD i 0).toNat
theorem w1e {a u Lc Uc s1 r1 k n:Nat}{c:Rat}{ks:List Int}{xs:Nat->Nat->Rat}(hk:k<12)(hc:luQ Lc Uc c)(hx: ∀i,i<n->grQ a u s1 r1 k (xs i)): ∀i,i<=n->grQ a u (Lc+sumE ks i*s1) (Uc+sumE ks i*(r1+21)) k (monL c ks xs i)
 | 0,_=>fun j hj=>by show luQ _ _ (if j=0 then c else 0);split;exact hc.mono (by omega) (by omega);exact z0c _ _
 | i+1,hi=>fun j hj=>by have:=v1q hk (w1e (ks:=ks) hk hc hx i (by omega)) (hx i (by omega)) (ks.getD i 0).toNat j hj;show luQ _ _ (powL (monL c ks xs i) (xs i) (ks.getD i 0).toNat j);rw[show sumE ks (i+1)=sumE ks i+(ks.getD i 0).toNat from rfl,Nat.add_mul,Nat.add_mul,<-Nat.add_assoc Lc,<-Nat.add_assoc Uc];exact this
theorem J1u {a u Lc Uc s1 r1 k n D:Nat}{q:List Mn}{xs:Nat->Nat->Rat}(hk:k<12)(hq: ∀i,i<q.length->luQ Lc Uc (qN (q.getD i default).c)/\sumE (q.getD i default).ks n<=D)(hx: ∀i,i<n->grQ a u s1 r1 k (xs i)):
 ∀i,i<=q.length->luQ (a*k+(Lc+D*s1)) (u*k+(Uc+D*(r1+21))+i) (polL q n xs k i)
 | 0,_=>z0c _ _
 | i+1,hi=>by obtain⟨q1,q2⟩:=hq i (by omega);have h1:=J1u hk hq hx i (by omega);have h2:=w1e (ks:=(q.getD i default).ks) hk q1 hx n (Nat.le_refl _) k (Nat.le_refl _);have m1:sumE (q.getD i default).ks n*s1<=D*s1:=Nat.mul_le_mul_right _ q2;have m2:sumE (q.getD i default).ks n*(r1+21)<=D*(r1+21):=Nat.mul_le_mul_right _ q2;exact Q1l h1 (h2.mono (L':=a*k+(Lc+D*s1)) (U':=u*k+(Uc+D*(r1+21))+i) (by omega) (by omega))
theorem X2h {a u Lc Uc s1 r1 K D M:Nat}{f:List (List Mn)}{X:Nat->Nat->Rat}(hK:K<12)(hX:derR f X K)(hM: ∀i,i<f.length->(f.getD i []).length<=M)
 (hq: ∀i,i<f.length-> ∀j,j<(f.getD i []).length->luQ Lc Uc (qN ((f.getD i []).getD j default).c)/\sumE ((f.getD i []).getD j default).ks f.length<=D) (h0: ∀i,i<f.length->luQ s1 r1 (X i 0))
 (ha:Lc+D*s1<=a+s1) (hu:Uc+D*(r1+21)+M<=u+r1): ∀k,k<=K-> ∀i,i<f.length->grQ a u s1 r1 k (X i)
 | 0,_,i,hi=>fun j hj=>by obtain rfl:j=0:=(by omega);exact(h0 i hi).mono (by omega) (by omega)
 | k+1,hk,i,hi=>fun j hj=>by by_cases hjk:j<=k;exact X2h hK hX hM hq h0 ha hu k (by omega) i hi j hjk;obtain rfl:j=k+1:=(by omega);rw[hX k (by omega) i hi];have hp:=J1u (by omega) (hq i hi) (fun i hi=>X2h hK hX hM hq h0 ha hu k (by omega) i hi) _ (Nat.le_refl _);have:=hM i hi;have e1:a*(k+1)=a*k+a:=Nat.mul_succ _ _;have e2:u*(k+1)=u*k+u:=Nat.mul_succ _ _;exact hp.mono (by omega) (by omega)
def RV (x:Rat)(v:Vl):Prop:=canV v/\qV v=x
theorem RV.zero :RV 0 ⟨false,0,0⟩:=⟨.inr rfl,by decide+kernel⟩
theorem RV.plus {x y:Rat}{u v:Vl}(h:RV x u)(h':RV y v):RV (x+y) (V0x u v):=⟨G0s h.1 h'.1,by rw[U0z,h.2,h'.2]⟩
theorem RV.by {x y:Rat}{u v:Vl}(h:RV x u)(h':RV y v):RV (x*y) (byV u v):=⟨Z1a h.1 h'.1,by rw[x0e,h.2,h'.2]⟩
theorem RV.whole (n:Nat):RV (n:Rat) (oddV false n 0):=⟨U0l _ _ _,j0j n⟩
theorem RV.num {x:Nm}(h:Q0q x=true):RV (qN x) (ofN x):=⟨W0u h,K0n x⟩
theorem RV.same {x y:Rat}{v:Vl}(h:RV x v)(e:x=y):RV y v:=e▸h
theorem RV.sm {x:Rat}{v:Vl}(h:RV x v){L U:Nat}(hl:luQ L U x)(hb:L+U<=1000000):smV v:=by rw[<-h.2] at hl;have:=q2a h.1 hl;exact⟨by have:=this.1;omega,by have:=this.2.1;omega,by have:=this.2.2;omega⟩
def RL (k:Nat)(g:Nat->Rat)(l:List Vl):Prop:=l.length=k+1/\ ∀j,j<=k->RV (g j) (l.getD j default)
theorem RL.snoc {k:Nat}{g:Nat->Rat}{l:List Vl}{v:Vl}(h:RL k g l)(hv:RV (g (k+1)) v):RL (k+1) g (l++ [v]):=by refine⟨by rw[List.length_append,h.1];rfl,fun j hj=> ?_⟩;by_cases e:j<=k;rw[Q0g _ _ _ _ (by have:=h.1;omega)];exact h.2 j e;obtain rfl:j=k+1:=(by omega);rw[Q0k _ _ _ _ (by have:=h.1;omega),h.1,Nat.sub_self];exact hv
theorem RV.uniq {x:Rat}{v w:Vl}(h:RV x v)(h':RV x w):v=w:=X2m h.1 h'.1 (by rw[h.2,h'.2])
theorem RV.ex {L U:Nat}{x:Rat}(h:luQ L U x): ∃v,RV x v:=by obtain⟨z,e,_⟩:=h;exact⟨mkV z (-(L:Int)),j2l _ _,by rw[w2l,e]⟩
theorem K1k {a a' b b':Nat->Rat}{k:Nat}(ha: ∀j,j<=k->a j=a' j)(hb: ∀j,j<=k->b j=b' j):k0y a b k=k0y a' b' k:=
 U0o fun i hi=>by rw[ha i (by omega),hb (k-i) (by omega)]
theorem Y1a {s s' x x':Nat->Rat}{k:Nat}(hs: ∀j,j<=k->s j=s' j)(hx: ∀j,j<=k->x j=x' j): ∀n,∀j,j<=k->powL s x n j=powL s' x' n j
 | 0=>hs
 | n+1=>fun j hj=>K1k (fun i hi=>Y1a hs hx n i (by omega)) (fun i hi=>hx i (by omega))
theorem Y1e {c:Rat}{ks:List Int}{X Y:Nat->Nat->Rat}{k n:Nat}(h: ∀i,i<n-> ∀j,j<=k->X i j=Y i j): ∀i,i<=n-> ∀j,j<=k->monL c ks X i j=monL c ks Y i j
 | 0,_=>fun _ _=>rfl
 | i+1,hi=>Y1a (Y1e h i (by omega)) (h i (by omega)) _
theorem Q1c {q:List Mn}{X Y:Nat->Nat->Rat}{k n:Nat}(h: ∀i,i<n-> ∀j,j<=k->X i j=Y i j): ∀i,polL q n X k i=polL q n Y k i
 | 0=>rfl
 | i+1=>by rw[polL,polL,Q1c h i,Y1e h n (Nat.le_refl _) k (Nat.le_refl _)]
def z1t (X:Nat->Nat->Rat)(k:Nat)(g:Nat->Rat):Nat->Nat->Rat:=fun i j=>if j=k+1 then g i else X i j
theorem x0i (X:Nat->Nat->Rat)(k:Nat)(g:Nat->Rat){i j:Nat}(h:j<=k):z1t X k g i j=X i j:=by unfold z1t;rw[if_neg (by omega)]
theorem H2r {f:List (List Mn)}{X:Nat->Nat->Rat}{k:Nat}(h:derR f X k):derR f (z1t X k fun i=>polL (f.getD i []) f.length X k (f.getD i []).length) (k+1):=fun j hj i hi=>by by_cases e:j=k;subst e;rw[Q1c (Y:=X) fun i _ j hj=>x0i _ _ _ hj];unfold z1t;rw[if_pos rfl];rw[x0i _ _ _ (show j+1<=k by omega),h j (by omega) i hi,Q1c fun i _ m hm=>(x0i _ _ _ (show m<=k by omega)).symm]
theorem y2w {X:Nat->Nat->Rat}{k i:Nat}{g:Nat->Rat}{l:List Vl}{v:Vl}(h:RL k (X i) l)(hv:RV (g i) v):RL (k+1) (z1t X k g i) (l++ [v]):=by have h':RL k (z1t X k g i) l:=⟨h.1,fun j hj=>by rw[x0i _ _ _ hj];exact h.2 j hj⟩;refine h'.snoc ?_;unfold z1t;rw[if_pos rfl];exact hv
theorem Y2w {ks:List Int}(h:J0w ks=true): ∀i,i<=ks.length->(sumE ks i:Int)=(ks.take i).sum
 | 0,_=>by simp[sumE]
 | i+1,hi=>by
  have ih:=Y2w h i (by omega);have hk:=X0n h i (by omega);have e:(ks.take (i+1)).sum=(ks.take i).sum+ks.getD i 0:=by rw[List.take_succ_eq_append_getElem (by omega),List.sum_append];simp[q_a,(show i<ks.length by omega)]
  rw[e,<-ih,sumE];omega
theorem okField.der {n M:Nat}{D:Nat}{f:List (List Mn)}(h:okField n M D f): ∀i,i<f.length-> ∀j,j<(f.getD i []).length->Q0q ((f.getD i []).getD j default).c=true/\luQ 12 (18+M) (qN ((f.getD i []).getD j default).c)/\J0w ((f.getD i []).getD j default).ks=true/\((f.getD i []).getD j default).ks.length=f.length/\sumE ((f.getD i []).getD j default).ks f.length<=D:=fun i hi j hj=>by obtain⟨a1,a2,a3,a4,a5,a6⟩:=(h.at hi).at hj;have hfl:=h.1;refine⟨a4,a6,a2,by omega,?_⟩;have h1:=Y2w a2 f.length (by omega);rw[List.take_of_length_le (by omega)] at h1;omega
theorem k3w {x F lo hi:Rat}(hF:0<F)(h:lo<=x/F/\x/F<=hi):lo*F<=x/\x<=hi*F:=by have e:x/F*F=x:=(by grind);have h1:=Rat.mul_le_mul_of_nonneg_right h.1 (Rat.le_of_lt hF);have h2:=Rat.mul_le_mul_of_nonneg_right h.2 (Rat.le_of_lt hF);rw[e] at h1 h2;exact⟨h1,h2⟩
theorem Z3m (k:Nat):(0:Rat)<(fctN k:Rat):=by
 have:=w1u k
 exact_mod_cast this
theorem W1s (X:Nat->Nat->Rat)(i:Nat):q0a X i 0=X i 0:=by unfold q0a;show X i 0/((1:Nat):Rat)=X i 0;grind
end Go.Pv
end
