/- Parts of the walk: N66, N67, N68, N69, N70, N71, N72, M59, M52, M53, M54, M65, M66, PvBn, M96. -/
import Derived.Test.YtldalepagmhnmaaGreatDoorZBQ
import Derived.Test.YtldalepagmhnmaaGreatDoorZBE
set_option linter.unusedVariables false
set_option linter.unusedSimpArgs false
section
set_option maxRecDepth 100000
namespace Go.Pv
open Go.Proofs
def y2d (f:List (List Mn))(x a:List Ivl)(h:Nm)(p:Int):List Ivl×Int:=
 if x1m f=true/\rightB x=true/\rightB a=true/\x.length=f.length/\a.length=f.length/\Q0h h=true/\ ¬sgnN (ownN h)<=0/\Z0b p=true then
  if (Y0r f a p).2=0 then
   if (k0o ⟨default,h⟩ (Y0r f a p).1 p).2=0 then opB 0 x (k0o ⟨default,h⟩ (Y0r f a p).1 p).1 p else([],(k0o ⟨default,h⟩ (Y0r f a p).1 p).2)
  else([],(Y0r f a p).2)
 else([],1)
theorem j1b (p:Int)(st:Q0g):PR 143 [.sc (.int .i64 p)] st (.sc (.bool (Z0b p))):=by refine J4z Tryz.func143 fun E=> ?_;by_cases h:8<=p;simp-dsimp only[go_sem,ge_iff_le,h,decide_true];simp[Z0b,h];simp-dsimp only[go_sem,ge_iff_le,h,decide_false];simp[Z0b,h]
theorem w1x {k:Nat}{a b:List Ivl}{p:Int}(h:(opB k a b p).2=0):(rightB a=true/\rightB b=true/\a.length=b.length/\Z0b p=true)/\(opB k a b p).1.length=a.length/\
 (∀j,j<a.length->(opI k (a.getD j default) (b.getD j default) p).2=0)/\ ∀j,j<a.length->(opB k a b p).1.getD j default=(opI k (a.getD j default) (b.getD j default) p).1:=by
 unfold opB at h⊢;by_cases c:rightB a=true/\rightB b=true/\a.length=b.length/\Z0b p=true;rw[if_pos c,W0a] at h;rw[if_pos c,W0a];exact⟨c,U0u h⟩;rw[if_neg c] at h;exact absurd h (by decide)
theorem K2o {x:Ivl}{b:List Ivl}{p:Int}(h:(k0o x b p).2=0):(rightB b=true/\Q0y x=true/\Z0b p=true)/\(k0o x b p).1.length=b.length/\
 (∀j,j<b.length->(opI 2 x (b.getD j default) p).2=0)/\ ∀j,j<b.length->(k0o x b p).1.getD j default=(opI 2 x (b.getD j default) p).1:=by
 unfold k0o at h⊢;by_cases c:rightB b=true/\Q0y x=true/\Z0b p=true;rw[if_pos c,W0a] at h;rw[if_pos c,W0a];exact⟨c,U0u h⟩;rw[if_neg c] at h;exact absurd h (by decide)
theorem v2n {h:Nm}(hr:Q0h h=true):(¬sgnN (ownN h)<=0)<->0<qN h:=by unfold ownN;rw[if_pos hr,<-Y3d];omega
structure NextOK (f:List (List Mn)) (x a:List Ivl) (h:Nm) (p:Int):Prop where
 rf:x1m f=true
 rx:rightB x=true
 ra:rightB a=true
 lx:x.length=f.length
 la:a.length=f.length
 rh:Q0h h=true
 ph:0<qN h
 pp:Z0b p=true
 e1:(Y0r f a p).2=0
 e2:(k0o ⟨default,h⟩ (Y0r f a p).1 p).2=0
 e3:(opB 0 x (k0o ⟨default,h⟩ (Y0r f a p).1 p).1 p).2=0
theorem NextOK.val {f:List (List Mn)}{x a:List Ivl}{h:Nm}{p:Int}(n:NextOK f x a h p):(y2d f x a h p).1=(opB 0 x (k0o ⟨default,h⟩ (Y0r f a p).1 p).1 p).1:=by unfold y2d;rw[if_pos ⟨n.rf,n.rx,n.ra,n.lx,n.la,n.rh,(v2n n.rh).2 n.ph,n.pp⟩,if_pos n.e1,if_pos n.e2]
theorem w1n {f:List (List Mn)}{a:List Ivl}{p:Int}(h:(Y0r f a p).2=0):(x1m f=true/\a.length=f.length)/\(Y0r f a p).1.length=f.length/\ ∀j,j<f.length->(Y0r f a p).1.getD j default=(k0q (f.getD j []) a p (f.getD j []).length).1/\(k0q (f.getD j []) a p (f.getD j []).length).2=0:=by unfold Y0r at h⊢;by_cases c:x1m f=true/\a.length=f.length;rw[if_pos c] at h⊢;obtain⟨g1,g2,g3⟩:=U0u h;refine⟨c,g1,fun j hj=> ?_⟩;have e:=g2 j hj;rw[g3 j hj];show(Z2w (f.getD j []) a p).1=_/\_;replace e:(Z2w (f.getD j []) a p).2=0:=e;unfold Z2w at e⊢;split at e;rename_i d;rw[if_pos d];exact⟨rfl,e⟩;exact absurd e (by decide);rw[if_neg c] at h;exact absurd h (by decide)
structure NextAt (f:List (List Mn)) (x a:List Ivl) (h:Nm) (p:Int) (j:Nat):Prop where
 r0:(k0q (f.getD j []) a p (f.getD j []).length).2=0
 t0:(opI 2 ⟨default,h⟩ (k0q (f.getD j []) a p (f.getD j []).length).1 p).2=0
 s0:(opI 0 (x.getD j default) (opI 2 ⟨default,h⟩ (k0q (f.getD j []) a p (f.getD j []).length).1 p).1 p).2=0
 val:(y2d f x a h p).1.getD j default=(opI 0 (x.getD j default) (opI 2 ⟨default,h⟩ (k0q (f.getD j []) a p (f.getD j []).length).1 p).1 p).1
theorem NextOK.at {f:List (List Mn)}{x a:List Ivl}{h:Nm}{p:Int}(n:NextOK f x a h p){j:Nat}(hj:j<f.length):NextAt f x a h p j:=by obtain⟨_,r1,r2⟩:=w1n n.e1;obtain⟨r3,r4⟩:=r2 j hj;obtain⟨_,t1,t2,t3⟩:=K2o n.e2;obtain⟨_,s1,s2,s3⟩:=w1x n.e3;have t2:=t2 j oG;have t3:=t3 j oG;have s2:=s2 j (by rw[n.lx];exact hj);have s3:=s3 j (by rw[n.lx];exact hj);rw[r3] at t2 t3;rw[t3] at s2 s3;exact⟨r4,t2,s2,by rw[n.val];exact s3⟩
theorem G0a {k:Nat}{a b:List Ivl}{p:Int}(h:(opB k a b p).2=0):rightB (opB k a b p).1=true:=by obtain⟨c,l,_,v⟩:=w1x h;have:=W0t c.1;exact G0k (fun j hj=>by rw[v j oG];exact G0n _ _ _ _) oG oG
theorem NextOK.rightB {f:List (List Mn)}{x a:List Ivl}{h:Nm}{p:Int}(n:NextOK f x a h p):Go.Pv.rightB (y2d f x a h p).1=true:=by rw[n.val];exact G0a n.e3
theorem V2k {k:Nat}{a b:Nm}{p:Int}{up:Bool}(h:(Q0r k a b p up).2=0):Q0h a=true/\Q0h b=true/\Z0b p=true:=by unfold Q0r at h;split at h;assumption;exact absurd h (by decide)
theorem G0m {k:Nat}{a b:Nm}{p:Int}{up:Bool}(h:(Q0r k a b p up).2=0):qN (Q0r k a b p up).1=qV (Z0o (exV k (ofN a) (ofN b)) p.toNat up):=by have c:=V2k h;unfold Q0r at h⊢;rw[if_pos c] at h⊢;exact(j0y (V0a (Q2m k (Y0e c.1) (Y0e c.2.1)) _ _) h).2
theorem x3t (e:Int):p2 e=qM 1 e:=by simp[qM]
theorem U3a {a b:Int}(h:a<=b):p2 a<=p2 b:=by rw[x3t,x3t,show b=a+((b-a).toNat:Int) from oG,<-H0k,qM_le];have:0<(2:Int)^(b-a).toNat:=Int.pow_pos (by decide);omega
def magQ (e:Int)(x:Rat):Prop:= -(p2 e)<=x/\x<=p2 e
theorem magQ.up {e g:Int}{x:Rat}(h:magQ e x)(he:e<=g):magQ g x:=by have:=U3a he;exact⟨by have:=h.1;grind,by have:=h.2;grind⟩
def ampI (e:Int)(a:Ivl):Prop:=magQ e (qN a.lo)/\magQ e (qN a.hi)
theorem ampI.up {e g:Int}{a:Ivl}(h:ampI e a)(he:e<=g):ampI g a:=⟨h.1.up he,h.2.up he⟩
def U3g (n M:Nat)(D:Int)(p:List Mn):Prop:=Z2o p n=true/\p.length<=M/\ ∀m∈p,okMn n 6 (8+M) D m
def okFieldT (n M:Nat)(D:Int)(f:List (List Mn)):Prop:=f.length=n/\ ∀p∈f,U3g n M D p
theorem okFieldT.at {n M:Nat}{D:Int}{f:List (List Mn)}(h:okFieldT n M D f){i j:Nat}(hi:i<f.length)(hj:j<(f.getD i []).length):okMn n 6 (8+M) D ((f.getD i []).getD j default):=by have e:f.getD i []=f[i]:=(by simp[q_a,hi]);rw[e] at hj⊢;exact j1w (h.2 _ (List.getElem_mem hi)).2.2 hj
theorem w2f {N B:Nat}(hB:0<B)(j:Int):2*j<=((2*(N/B)+(if N % B=0 then 0 else 1):Nat):Int)<->j*B<=(N:Int):=by
 have h3:j<=((N/B:Nat):Int)<->j*B<=(N:Int):=by rw[Int.natCast_ediv];exact Int.le_ediv_iff_mul_le oG
 rw[<-h3];generalize N/B=F;split<;>omega
theorem w2e {N B:Nat}(hB:0<B)(j:Int):2*j<= -((2*(N/B)+(if N % B=0 then 0 else 1):Nat):Int)<->j*B<= -(N:Int):=by
 have h1:=Nat.div_add_mod N B;have h2:=Nat.mod_lt N hB;generalize N/B=F at*
 generalize N % B=r at*
 have hB':(0:Int)<B:=(by exact_mod_cast hB);have h1':(B:Int)*F+r=N:=(by exact_mod_cast h1);have h2':(r:Int)<B:=(by exact_mod_cast h2);clear h1 h2;have up: ∀i:Int,i<=j->i*B<=j*B:=fun i hi=>Int.mul_le_mul_of_nonneg_right hi (Int.le_of_lt hB');have dn: ∀i:Int,j<=i->j*B<=i*B:=fun i hi=>Int.mul_le_mul_of_nonneg_right hi (Int.le_of_lt hB');have e0: -(F:Int)*B= -((B:Int)*F):=(by rw[Int.neg_mul,Int.mul_comm]);have e1:(-(F:Int)-1)*B= -((B:Int)*F)-B:=(by rw[Int.sub_mul,e0,Int.one_mul]);have e2:(-(F:Int)+1)*B= -((B:Int)*F)+B:=(by rw[Int.add_mul,e0,Int.one_mul]);generalize (B:Int)*F=Z at*
 have u0:=up (-(F:Int));have u2:=up (-(F:Int)+1);have d0:=dn (-(F:Int));have d1:=dn (-(F:Int)-1);rw[e0] at u0 d0;rw[e1] at d1;rw[e2] at u2;generalize j*(B:Int)=W at*
 clear up dn e0 e1 e2;split;constructor;intro h;have:=d0 oG;omega;intro h;refine Int.not_lt.1 fun hn=> ?_;have:=u2 oG;omega;constructor;intro h;have:=d1 oG;omega;intro h;refine Int.not_lt.1 fun hn=> ?_;have:=u0 oG;omega
theorem G3o {p:Nat}{x:Rat}(h:q1h p x)(g:Int):(∃j:Int,x=qM j g)\/(qM (-((2^p:Nat):Int)) g<=x/\x<=qM ((2^p:Nat):Int) g):=by
 obtain⟨m,e,rfl,hm⟩:=h;by_cases he:g<=e;exact .inl ⟨_,x1y m e g he⟩;right;have hpos:(1:Int)<=2^(g-e).toNat:=by
  have:0<2^(g-e).toNat:=Nat.two_pow_pos _
  exact_mod_cast this
 rw[x1y _ g e oG,x1y _ g e oG,qM_le,qM_le,Int.neg_mul];generalize 2^p=P at*
 have h1:(P:Int)<=P*2^(g-e).toNat:=by
  calc (P:Int)=P*1:=(Int.mul_one _).symm
   _<=_:=Int.mul_le_mul_of_nonneg_left hpos (Int.natCast_nonneg _)
 generalize (P:Int)*2^(g-e).toNat=Z at*
 omega
theorem y2l {A B p:Nat}(hA:A≠0):2^(p+1)*B<=A*2^K0t A B p:=by
 have h1:=z0h hA;have h2:=Nat.le_of_lt (Z0g B);have h0:1<=Q0i A:=(by unfold Q0i;rw[if_neg hA];omega);unfold K0t
 calc 2^(p+1)*B<=2^(p+1)*2^Q0i B:=Nat.mul_le_mul_left _ h2
  _=2^(p+1+Q0i B):=by rw[<-Nat.pow_add]
  _<=2^((Q0i A-1)+(p+2+Q0i B-Q0i A)):=Nat.pow_le_pow_right (by decide) oG
  _=2^(Q0i A-1)*2^(p+2+Q0i B-Q0i A):=Nat.pow_add ..
  _<=A*2^(p+2+Q0i B-Q0i A):=Nat.mul_le_mul_right _ h1
theorem x3f {a b:Vl}{p:Nat}(hb:b.neg=false)(hB:0<b.m){x:Rat}(hx:q1h p x):x<=qV (ratV a b p)<->x*qV b<=qV a:=by
 have hqb:qV b=qM (b.m:Int) b.e:=by unfold qV J0j;rw[hb];rfl
 have hb0:0<qV b:=by rw[hqb,<-K0k b.e,qM_lt];omega
 by_cases hA:a.m=0;have e1:qV (ratV a b p)=0:=(by unfold ratV;rw[if_pos hA];exact K0k 0);rw[e1,H1g hA];constructor;intro h;have:=Rat.mul_le_mul_of_nonneg_right h (Rat.le_of_lt hb0);rwa [Rat.zero_mul] at this;intro h;exact Rat.le_of_mul_le_mul_right (by rwa [Rat.zero_mul]) hb0;obtain⟨t,ht⟩: ∃t,K0t a.m b.m p=t:=⟨_,rfl⟩;have big:=y2l (B:=b.m) (p:=p) hA;rw[ht] at big;have hv:qV (ratV a b p)=qM (if a.neg=true then -((2*(a.m*2^t/b.m)+(if a.m*2^t % b.m=0 then 0 else 1):Nat):Int) else((2*(a.m*2^t/b.m)+(if a.m*2^t % b.m=0 then 0 else 1):Nat):Int)) (a.e-b.e-(t:Int)-1):=by unfold ratV v0f;rw[if_neg hA,X1h,hb,ht,Bool.bne_false]
 have ha:qV a=qM (if a.neg=true then -((a.m*2^t:Nat):Int) else((a.m*2^t:Nat):Int)) (a.e-(t:Int)):=by
  have e1:(if a.neg=true then -((a.m*2^t:Nat):Int) else((a.m*2^t:Nat):Int))=J0j a*2^t:=by unfold J0j;cases a.neg<;>simp[Int.neg_mul]
  rw[e1,H0k];unfold qV;congr 1;omega
 rw[hqb] at hb0;rw[hv,ha,hqb];generalize a.m*2^t=N at*
 have hg: ∀j:Int,qM j (a.e-b.e-(t:Int))*qM (b.m:Int) b.e=qM (j*b.m) (a.e-(t:Int)):=fun j=>by rw[<-G2j];congr 1;omega
 have hg2: ∀j:Int,qM j (a.e-b.e-(t:Int))=qM (2*j) (a.e-b.e-(t:Int)-1):=fun j=>by rw[Int.mul_comm,show(2:Int)=2^1 from rfl,H0k];congr 1;omega
 rcases G3o hx (a.e-b.e-(t:Int)) with ⟨j,rfl⟩ | ⟨l1,l2⟩;rw[hg,hg2,qM_le,qM_le];cases a.neg;exact w2f hB j;exact w2e hB j;have hF:2^(p+1)<=N/b.m:=(Nat.le_div_iff_mul_le hB).2 big;have hP:=Nat.two_pow_pos p;rw[Nat.pow_succ] at hF big;generalize 2^p=P at*
 have big2:2*((P:Int)*b.m)<=N:=by
  have:P*2*b.m<=N:=big;have e:P*2*b.m=2*(P*b.m):=(by rw[Nat.mul_comm P 2,Nat.mul_assoc]);rw[e] at this
  exact_mod_cast this
 have hPB:(0:Int)<(P:Int)*b.m:=by
  have:=Nat.mul_pos hP hB
  exact_mod_cast this
 cases hn:a.neg;rw[if_neg Bool.false_ne_true,if_neg Bool.false_ne_true];refine⟨fun _=> ?_,fun _=> ?_⟩;refine Rat.le_trans (Rat.mul_le_mul_of_nonneg_right l2 (Rat.le_of_lt hb0)) ?_;rw[hg,qM_le];omega;refine Rat.le_trans l2 ?_;rw[hg2,qM_le];omega;rw[if_pos rfl,if_pos rfl];constructor;intro h;exfalso;have:=Rat.le_trans l1 h;rw[hg2,qM_le] at this;omega;intro h;exfalso;have:=Rat.le_trans (Rat.mul_le_mul_of_nonneg_right l1 (Rat.le_of_lt hb0)) h;rw[hg,qM_le,Int.neg_mul] at this;omega
theorem k2y (a:Vl){b:Vl}(p:Nat)(hb:b.neg=false):qV (ratV (V0g a) b p)= -qV (ratV a b p):=by by_cases h0:a.m=0;have e:V0g a=a:=(by unfold V0g;rw[if_pos h0]);have e1:qV (ratV a b p)=0:=(by unfold ratV;rw[if_pos h0];exact K0k 0);rw[e,e1];rfl;have e3:(V0g a).neg= !a.neg:=(by unfold V0g;rw[if_neg h0]);unfold ratV;rw[Q1n,Q1o,e3,if_neg h0,if_neg h0,X1h,X1h,<-X1j,hb];congr 1;cases a.neg<;>simp
theorem k1a {p:Nat}{x:Rat}(hx:q1h p x):q1h p (-x):=by obtain⟨m,e,rfl,h⟩:=hx;exact⟨-m,e,(X1j _ _).symm,by rw[Int.natAbs_neg];exact h⟩
theorem x3g {a b:Vl}{p:Nat}(hb:b.neg=false)(hB:0<b.m){x:Rat}(hx:q1h p x):qV (ratV a b p)<=x<->qV a<=x*qV b:=by have:=x3f (a:=V0g a) hb hB (k1a hx);rw[k2y a p hb,H0x,Rat.neg_mul] at this;constructor;intro h;have:=this.1 (by grind);grind;intro h;have:=this.2 (by grind);grind
theorem G3m (v:Vl)(p:Nat):q1h p (qV (Z0o v p true)):=by rw[V2a];exact k1a (G3n _ _)
theorem v2a {α:Type}(d:α)(l:List α){i:Nat}(h:i<l.length):l.take (i+1)=l.take i++ [l.getD i d]:=by rw[List.take_succ_eq_append_getElem h];simp[q_a,h]
def e02 (e:Int):Prop:=e=0\/e=2
theorem q1m {β:Type}{G:Nat->β×Int} : ∀(k i:Nat) (acc:List β),(∀j,i<=j->j<i+k->e02 (G j).2)->e02 (tabF G i k acc).2
 | 0,i,acc,_=> .inl rfl
 | k+1,i,acc,h=>by simp only[tabF];split;exact h i oG oG;exact q1m k _ _ fun j h1 h2=>h j oG oG
end Go.Pv
end
