/- Parts of the walk: M47, M48, M49, M50, M51. -/
import Derived.Test.YtldalepagmhnmaaGreatDoorZBE
set_option linter.unusedVariables false
set_option linter.unusedSimpArgs false
section
namespace Go.Pv
def insT (t:Tm):List Tm->List Tm
 | []=> [t]
 | o::r=>if ordK o.ks t.ks>0 then o::insT t r else if ordK o.ks t.ks=0 then⟨V0v o.v t.v,o.ks⟩::r else t::o::r
def gatT :List Tm->List Tm->List Tm
 | [],acc=>acc
 | t::r,acc=>gatT r (insT t acc)
theorem G1u (t:Tm): ∀(k:Nat) (O:List Tm),k<=O.length->(∀q,q<k->ordK (O.getD q default).ks t.ks>0)->insT t O=O.take k++insT t (O.drop k)
 | 0,O,_,_=>by simp
 | k+1,[],h,_=>by simp at h
 | k+1,o::r,h,h1=>by have h0:ordK o.ks t.ks>0:=h1 0 (by omega);rw[insT,if_pos h0,G1u t k r (by simpa using h) (fun q hq=>h1 (q+1) (by omega))];simp
theorem Z3f {t:Tm}{O:List Tm}(h: ∀q,q<O.length->ordK (O.getD q default).ks t.ks>0):insT t O=O++ [t]:=by rw[G1u t O.length O (Nat.le_refl _) h,List.take_length,List.drop_length,insT]
theorem z2m {t:Tm}{O:List Tm}{k:Nat}(hk:k<O.length)(h: ∀q,q<k->ordK (O.getD q default).ks t.ks>0)(h0:ordK (O.getD k default).ks t.ks=0):
 insT t O=O.set k ⟨V0v (O.getD k default).v t.v,(O.getD k default).ks⟩:=by
 rw[G1u t k O (by omega) h,show O.drop k=O.getD k default::O.drop (k+1) from by rw[List.drop_eq_getElem_cons hk];simp[q_a,hk],insT,if_neg (by omega),if_pos h0,List.set_eq_take_append_cons_drop,if_pos hk]
theorem z2n {t:Tm}{O:List Tm}{k:Nat}(hk:k<O.length)(h: ∀q,q<k->ordK (O.getD q default).ks t.ks>0)(h0: ¬ordK (O.getD k default).ks t.ks>0)(h1:ordK (O.getD k default).ks t.ks≠0):
 insT t O=O.take k++t::O.drop k:=by
 rw[G1u t k O (by omega) h,show O.drop k=O.getD k default::O.drop (k+1) from by rw[List.drop_eq_getElem_cons hk];simp[q_a,hk],insT,if_neg h0,if_neg h1]
theorem G1t {t x:Tm} : ∀ {O:List Tm},x∈insT t O->x=t\/x∈O\/ ∃o∈O,x=⟨V0v o.v t.v,o.ks⟩
 | [],h=>by rw[insT] at h;exact .inl (List.mem_singleton.1 h)
 | o::r,h=>by rw[insT] at h;split at h;rcases List.mem_cons.1 h with rfl | h;exact .inr (.inl (by simp));rcases G1t h with h | h | ⟨o',h1,h2⟩;exact .inl h;exact .inr (.inl (by simp[h]));exact .inr (.inr ⟨o',by simp[h1],h2⟩);split at h;rcases List.mem_cons.1 h with h | h;exact .inr (.inr ⟨o,by simp,h⟩);exact .inr (.inl (by simp[h]));rcases List.mem_cons.1 h with h | h;exact .inl h;exact .inr (.inl h)
theorem G3q {t x:Tm}{O:List Tm}(h:x∈insT t O):x.ks=t.ks\/ ∃o∈O,x.ks=o.ks:=by rcases G1t h with h | h | ⟨o',h1,h2⟩;exact .inl (by rw[h]);exact .inr ⟨x,h,rfl⟩;exact .inr ⟨o',h1,by rw[h2]⟩
theorem z1s : ∀(a b:List Int),a.length=b.length->ordK a b= -ordK b a
 | [],[],_=>rfl
 | x::a,y::b,h=>by rw[ordK,ordK,z1s a b (by simpa using h)];by_cases h1:x>y;rw[if_pos h1,if_neg (by omega),if_pos (by omega)];rfl;rw[if_neg h1];by_cases h2:x<y;rw[if_pos h2,if_pos (by omega)];rw[if_neg h2,if_neg (by omega),if_neg (by omega)]
theorem Y1m {t:Tm}{n:Nat}(ht:t.ks.length=n): ∀ {O:List Tm},(∀o∈O,o.ks.length=n)->G0d (O.map Tm.ks)->G0d ((insT t O).map Tm.ks)
 | [],_,_=>List.pairwise_singleton _ _
 | o::r,hl,h=>by
  obtain⟨h1,h2⟩:=List.pairwise_cons.1 h;have lo:o.ks.length=n:=hl o (by simp);have ih:=Y1m ht (O:=r) (fun x hx=>hl x (by simp[hx])) h2;rw[insT];split;rename_i hg;have hg1:ordK o.ks t.ks=1:=by rcases X1g o.ks t.ks with e | e | e<;>omega
  refine List.pairwise_cons.2 ⟨fun k hk=> ?_,ih⟩;obtain⟨x,hx,rfl⟩:=List.mem_map.1 hk;rcases G3q hx with e | ⟨o',e1,e2⟩;rw[e];exact hg1;rw[e2];exact h1 _ (List.mem_map.2 ⟨o',e1,rfl⟩);split;exact List.pairwise_cons.2 ⟨h1,h2⟩;rename_i hg h0;have hg1:ordK t.ks o.ks=1:=by rw[z1s _ _ (by rw[ht,lo])];rcases X1g o.ks t.ks with e | e | e<;>omega
  refine List.pairwise_cons.2 ⟨fun k hk=> ?_,h⟩;rcases List.mem_cons.1 hk with rfl | hk;exact hg1;obtain⟨x,hx,rfl⟩:=List.mem_map.1 hk;exact Q1b _ _ _ (by rw[ht,lo]) (by rw[lo,hl x (by simp[hx])]) hg1 (h1 _ (List.mem_map.2 ⟨x,hx,rfl⟩))
theorem k0u (t:Tm): ∀(O:List Tm),(insT t O).length<=O.length+1
 | []=>by simp[insT]
 | o::r=>by have:=k0u t r;rw[insT];split;simpa using this;split<;>simp
def okT (n L U:Nat)(D:Int)(t:Tm):Prop:=t.ks.length=n/\K0d t.ks=true/\t.ks.sum<=D/\canV t.v/\luQ L U (qV t.v)
theorem okT.up {n L U U':Nat}{D:Int}{t:Tm}(h:okT n L U D t)(hu:U<=U'):okT n L U' D t:=⟨h.1,h.2.1,h.2.2.1,h.2.2.2.1,h.2.2.2.2.up hu⟩
theorem G3p {n L U:Nat}{D:Int}{t:Tm}{O:List Tm}(ht:okT n L U D t)(hO: ∀o∈O,okT n L U D o): ∀x∈insT t O,okT n L (U+1) D x:=fun x hx=>by rcases G1t hx with rfl | h | ⟨o,h1,rfl⟩;exact ht.up (by omega);exact(hO x h).up (by omega);obtain⟨a1,a2,a3,a4,a5⟩:=hO o h1;exact⟨a1,a2,a3,G0o a4 ht.2.2.2.1,by show luQ L (U+1) (qV (V0v o.v t.v));rw[U0q];exact k0s a5 ht.2.2.2.2⟩
theorem w1v {n L:Nat}{D:Int} : ∀(ts acc:List Tm) (U:Nat),(∀t∈ts,okT n L U D t)->(∀t∈acc,okT n L U D t)->G0d (acc.map Tm.ks)->
 (∀t∈gatT ts acc,okT n L (U+ts.length) D t)/\G0d ((gatT ts acc).map Tm.ks)/\(gatT ts acc).length<=acc.length+ts.length
 | [],acc,U,_,h2,h3=>⟨h2,h3,Nat.le_refl _⟩
 | t::r,acc,U,h1,h2,h3=>by have h4:=G3p (h1 t (by simp)) h2;have h5:=Y1m (h1 t (by simp)).1 (fun o ho=>(h2 o ho).1) h3;obtain⟨a1,a2,a3⟩:=w1v r (insT t acc) (U+1) (fun x hx=>(h1 x (by simp[hx])).up (by omega)) h4 h5;have h6:=k0u t acc;rw[gatT];refine⟨fun x hx=> ?_,a2,by simp only[List.length_cons];omega⟩;have:=a1 x hx;rw[List.length_cons,show U+(r.length+1)=U+1+r.length from by omega];exact this
theorem x1m (t:Tm): ∀(ts acc:List Tm),gatT (ts++ [t]) acc=insT t (gatT ts acc)
 | [],acc=>rfl
 | x::r,acc=>by show gatT (r++ [t]) (insT x acc)=insT t (gatT r (insT x acc));exact x1m t r _
def monT (t:Tm):Mn:=⟨(numV t.v).1,t.ks⟩
theorem G1v {n L U:Nat}{D:Int}(hb:L+U+1<=4096): ∀(ts:List Tm) (acc:List Mn),(∀t∈ts,okT n L U D t)->H0p ts acc=(acc++(ts.filter (fun t=>decide (K0p t.v≠0))).map monT,0)
 | [],acc,_=>by simp[H0p]
 | t::r,acc,h=>by obtain⟨a1,a2,a3,a4,a5⟩:=h t (by simp);have ih:=fun acc=>G1v hb r acc fun t ht=>h t (by simp[ht]);rw[H0p];by_cases c:K0p t.v=0;rw[if_pos c,ih,List.filter_cons_of_neg (by simp[c])];rw[if_neg c,if_neg (by rw[j0i a4 a5 hb];decide),ih,List.filter_cons_of_pos (by simp[c]),List.map_cons,List.append_assoc];rfl
def okMn (n L U:Nat)(D:Int)(m:Mn):Prop:=m.ks.length=n/\K0d m.ks=true/\m.ks.sum<=D/\Q0n m.c=true/\m.c.w.length≠0/\luQ L U (qN m.c)
theorem K3q {x:Nm}(h:x.w.length=0):qN x=0:=by have e:x.w= []:=List.eq_nil_of_length_eq_zero h;rw[<-K0i];refine Z1t ?_;show valW x.w=0;rw[e];rfl
theorem q2b {n L U:Nat}{D:Int}{t:Tm}(hb:L+U+1<=4096)(h:okT n L U D t)(hs:K0p t.v≠0):okMn n L U D (monT t):=by obtain⟨a1,a2,a3,a4,a5⟩:=h;have h0:=j0i a4 a5 hb;obtain⟨v1,v2⟩:=K0k a4 h0;refine⟨a1,a2,a3,X0p (G0p a4),fun e=>hs ?_,?_⟩;have e1:=K3q e;have e2:qV t.v=0:=(by rw[<-v2];exact e1);have p1:=Q2x t.v;have p2:=Q2y t.v;have p3:=Q2z t.v;rw[e2] at p1 p2 p3;have:=p2.2 Rat.le_refl;have:=p3.2 Rat.le_refl;omega;show luQ L U (qN (numV t.v).1);rw[v2];exact a5
theorem q1v {p:List Mn}{n:Nat}{L U:Nat}{D:Int}(hn:1<=n)(hn4:n<=4)(hl:p.length<=24)(hp: ∀m∈p,okMn n L U D m)(hf:G0d (p.map Mn.ks)):X0v p n=true:=by
 refine(X0g p n).2 ⟨⟨by omega,by omega,hl⟩,fun i hi=>(U0s p n i).2 ?_⟩;have hg: ∀j,j<p.length->okMn n L U D (p.getD j default):=fun j hj=>by rw[show p.getD j default=p[j] by simp[q_a,hj]];exact hp _ (List.getElem_mem hj)
 obtain⟨a1,a2,a3,a4,a5,a6⟩:=hg i hi;refine⟨(U0w _ _).2 ⟨by omega,a2,a4⟩,a5,?_⟩;by_cases h0:i=0;exact .inl h0;refine .inr ?_;have:=List.pairwise_iff_getElem.1 hf (i-1) i (by simp;omega) (by simpa using hi) (by omega);simpa[q_a,hi,(by omega:i-1<p.length)] using this
theorem V2y {n L U:Nat}{D:Int}{ts:List Tm}(hb:L+U+ts.length+1<=4096)(hn:1<=n)(hn4:n<=4)(hl:ts.length<=24)(h: ∀t∈ts,okT n L U D t):
 (H0p (gatT ts []) []).2=0/\X0v (H0p (gatT ts []) []).1 n=true/\(∀m∈(H0p (gatT ts []) []).1,okMn n L (U+ts.length) D m)/\(H0p (gatT ts []) []).1.length<=ts.length:=by
 obtain⟨g1,g2,g3⟩:=w1v ts [] U h (fun t ht=>by cases ht) List.Pairwise.nil;rw[G1v (n:=n) (L:=L) (U:=U+ts.length) (D:=D) (by omega) _ _ g1];have hfl:((gatT ts []).filter (fun t=>decide (K0p t.v≠0))).length<=ts.length:=by have:=List.length_filter_le (fun t:Tm=>decide (K0p t.v≠0)) (gatT ts []);simp only[List.length_nil] at g3;omega
 have hm: ∀m∈((gatT ts []).filter (fun t=>decide (K0p t.v≠0))).map monT,okMn n L (U+ts.length) D m:=fun m hm=>by obtain⟨t,ht,rfl⟩:=List.mem_map.1 hm;obtain⟨t1,t2⟩:=List.mem_filter.1 ht;exact q2b (by omega) (g1 t t1) (q_b t2)
 refine⟨rfl,?_,by simpa using hm,by simpa using hfl⟩;rw[List.nil_append];refine q1v hn hn4 (by simp only[List.length_map];omega) hm ?_;rw[List.map_map];have:G0d (((gatT ts []).filter (fun t=>decide (K0p t.v≠0))).map Tm.ks):=by unfold G0d at g2⊢;rw[List.pairwise_map] at g2⊢;exact g2.filter _
 exact this
def w1x (p:Nat)(x:Rat):Prop:= ∃m e:Int,x=qM m e/\m.natAbs<=2^p
theorem w2d (v:Vl)(p:Nat)(h: ¬Q0h v.m<=p): ∃k:Int,qV (Z0w v p false)=qM (k*2^(Q0h v.m-p)) v.e/\k*2^(Q0h v.m-p)<=X0e v/\(∀j:Int,j*2^(Q0h v.m-p)<=X0e v->j<=k)/\k.natAbs<=2^p:=by
 unfold Z0w;rw[if_neg h,z0e,j0b];have hb:=Z0c v.m;have hbp:2^Q0h v.m=2^p*2^(Q0h v.m-p):=(by rw[<-Nat.pow_add];congr 1;omega);generalize Q0h v.m-p=d at*
 have hD:=Nat.two_pow_pos d;have h1:=Nat.div_add_mod v.m (2^d);have h2:=Nat.mod_lt v.m hD;have hq:v.m/2^d<2^p:=by rw[Nat.div_lt_iff_lt_mul hD,<-hbp];exact hb
 have hcast:((2^d:Nat):Int)=(2:Int)^d:=(by simp);have hD':(0:Int)<(2:Int)^d:=(by rw[<-hcast];exact_mod_cast hD);unfold X0e;cases hn:v.neg;refine⟨((v.m/2^d:Nat):Int),?_,?_,fun j hj=> ?_,by rw[Int.natAbs_natCast];exact Nat.le_of_lt hq⟩;rw[if_neg (by simp),if_neg (by simp),Nat.add_zero,Int.natCast_mul,hcast];rw[if_neg (by simp),<-hcast,<-Int.natCast_mul];have:=Nat.div_mul_le_self v.m (2^d);omega;rw[if_neg (by simp)] at hj;by_cases hj0:j<0;have:(0:Int)<=((v.m/2^d:Nat):Int):=Int.natCast_nonneg _;omega;obtain⟨n,rfl⟩:=Int.eq_ofNat_of_zero_le (by omega:0<=j);rw[<-hcast,<-Int.natCast_mul] at hj;have hj':n*2^d<=v.m:=(by exact_mod_cast hj);have:=(Nat.le_div_iff_mul_le hD).2 hj'
 exact_mod_cast this
 generalize hc':(if v.m % 2^d≠0/\false≠true then 1 else 0)=c;have hc:(v.m % 2^d≠0/\c=1)\/(v.m % 2^d=0/\c=0):=by by_cases h3:v.m % 2^d=0;rw[if_neg (by simp[h3])] at hc';exact .inr ⟨h3,hc'.symm⟩;rw[if_pos ⟨h3,by simp⟩] at hc';exact .inl ⟨h3,hc'.symm⟩
 refine⟨-((v.m/2^d+c:Nat):Int),?_,?_,fun j hj=> ?_,by rw[Int.natAbs_neg];simp only[Int.natAbs_natCast];omega⟩;rw[if_pos rfl];congr 1;rw[Int.neg_mul,<-hcast,<-Int.natCast_mul];rw[if_pos rfl,Int.neg_mul,<-hcast,<-Int.natCast_mul];have:v.m<=(v.m/2^d+c)*2^d:=by rw[Nat.mul_comm] at h1;rw[Nat.add_mul];rcases hc with ⟨a,rfl⟩ | ⟨a,rfl⟩<;>omega
 omega;rw[if_pos rfl] at hj;by_cases hj0:0<j;have:0<j*(2:Int)^d:=Int.mul_pos hj0 hD';omega;obtain⟨n,hn'⟩:=Int.eq_ofNat_of_zero_le (by omega:0<= -j);obtain rfl:j= -(n:Int):=(by omega);rw[Int.neg_mul,<-hcast,<-Int.natCast_mul] at hj;have hj':v.m<=n*2^d:=(by omega);have:v.m/2^d+c<=n:=by
  rcases hc with ⟨a,rfl⟩ | ⟨a,rfl⟩;have:v.m/2^d<n:=by refine Nat.lt_of_not_le fun hle=> ?_;have:=Nat.mul_le_mul_right (2^d) hle;rw[Nat.mul_comm] at h1;omega
  omega;have:=Nat.div_le_div_right (c:=2^d) hj';rw[Nat.mul_div_cancel _ hD] at this;omega
 omega
theorem w1w (v:Vl)(p:Nat):w1x p (qV (Z0w v p false)):=by by_cases h:Q0h v.m<=p;unfold Z0w;rw[if_pos h];refine⟨X0e v,v.e,rfl,?_⟩;rw[j0h];exact Nat.le_of_lt (q_e (Z0c v.m) (Nat.pow_le_pow_right (by decide) h));obtain⟨k,h1,h2,h3,h4⟩:=w2d v p h;exact⟨k,v.e+((Q0h v.m-p:Nat):Int),by rw[h1,G0z],h4⟩
theorem K2n (v:Vl)(p:Nat):qV (Z0w v p true)= -qV (Z0w (V0m v) p false):=by
 by_cases h0:v.m=0;have e:V0m v=v:=(by unfold V0m;rw[if_pos h0]);have hb:Q0h v.m<=p:=(by rw[h0,J0h];omega);rw[e];unfold Z0w;rw[if_pos hb,if_pos hb,Z1t h0];rfl;have e1:(V0m v).m=v.m:=X1x v;have e2:(V0m v).e=v.e:=X1y v;have e3:(V0m v).neg= !v.neg:=(by unfold V0m;rw[if_neg h0]);unfold Z0w;rw[e1,e2,e3];split;rw[H0m];grind;rw[z0e,z0e];have ec:(if v.m % 2^(Q0h v.m-p)≠0/\false≠ !v.neg then 1 else 0)=(if v.m % 2^(Q0h v.m-p)≠0/\true≠v.neg then 1 else 0):=by cases v.neg<;>simp
 rw[ec];generalize v.m/2^(Q0h v.m-p)+(if v.m % 2^(Q0h v.m-p)≠0/\true≠v.neg then 1 else 0)=M;rw[<-W1x];congr 1;cases v.neg<;>simp
theorem Z3x {lo hi:Vl}(h1:canV lo)(h2:canV hi)(h:(U0a lo hi).2=0):qN (U0a lo hi).1.lo=qV lo/\qN (U0a lo hi).1.hi=qV hi:=by unfold U0a at h⊢;split;rename_i hh;exact⟨(K0k h1 hh.1).2,(K0k h2 hh.2).2⟩;rename_i hh;rw[if_neg hh] at h;cases h
def sumK (ks:List Int)(i:Nat):Nat:=(ks.take i).sum.toNat
def H0f (m:Mn)(j:Nat)(X:Nat->Rat)(i:Nat):Rat:=((m.ks.getD j 0:Int):Rat)*z0j ⟨m.c,decK m.ks j⟩ X i
def sumR (f:Nat->Rat):Nat->Rat
 | 0=>0
 | i+1=>sumR f i+f i
theorem Q0y {f g:Nat->Rat} : ∀ {n:Nat},(∀j,j<n->f j=g j)->sumR f n=sumR g n
 | 0,_=>rfl
 | n+1,h=>by rw[sumR,sumR,Q0y (fun j hj=>h j (by omega)),h n (by omega)]
theorem q1g {f:Nat->Rat} : ∀ {n:Nat},(∀j,j<n->f j=0)->sumR f n=0
 | 0,_=>rfl
 | n+1,h=>by rw[sumR,q1g (fun j hj=>h j (by omega)),h n (by omega)];grind
theorem w0v (ks:List Int)(j i:Nat)(hj:j<ks.length):(decK ks j).getD i 0=if j=i then ks.getD i 0-1 else ks.getD i 0:=by unfold decK;by_cases h:j=i;subst h;rw[if_pos rfl,Q0r _ _ _ _ hj];rw[if_neg h,Q0l _ _ _ _ _ h]
theorem Z1a {m:Mn}{j:Nat} : ∀(i:Nat),i<=j->j<m.ks.length-> ∀X,z0j ⟨m.c,decK m.ks j⟩ X i=z0j m X i
 | 0,_,_,_=>rfl
 | i+1,hi,hj,X=>by rw[z0j,z0j,Z1a i (by omega) hj];show _*powQ (X i) ((decK m.ks j).getD i 0).toNat=_;rw[w0v _ _ _ hj,if_neg (by omega)]
theorem y1f {m:Mn}{j i:Nat}(hij:j<i)(hj:j<m.ks.length)(X:Nat->Rat):H0f m j X (i+1)=H0f m j X i*powQ (X i) (m.ks.getD i 0).toNat:=by unfold H0f;rw[z0j];show _*(_*powQ (X i) ((decK m.ks j).getD i 0).toNat)=_;rw[w0v _ _ _ hj,if_neg (by omega)];grind
def Q1q (p:List Mn)(j:Nat)(X:Nat->Rat)(n:Nat):Nat->Rat
 | 0=>0
 | i+1=>Q1q p j X n i+H0f (p.getD i default) j X n
def v1t (ks:List Int)(X:Nat->Rat):Nat->Rat
 | 0=>1
 | i+1=>v1t ks X i*powQ (X i) (ks.getD i 0).toNat
theorem y0l (m:Mn)(X:Nat->Rat): ∀i,z0j m X i=qN m.c*v1t m.ks X i
 | 0=>by show qN m.c=qN m.c*1;rw[Rat.mul_one]
 | i+1=>by rw[z0j,y0l m X i,v1t,Rat.mul_assoc]
def sumT (X:Nat->Rat)(n:Nat):List Tm->Rat
 | []=>0
 | t::r=>qV t.v*v1t t.ks X n+sumT X n r
def valS (X:Nat->Rat)(n:Nat):List Mn->Rat
 | []=>0
 | m::r=>z0j m X n+valS X n r
def Q1p (k:Nat)(X:Nat->Rat)(n:Nat):List Mn->Rat
 | []=>0
 | m::r=>H0f m k X n+Q1p k X n r
theorem Q2o (X:Nat->Rat)(n:Nat): ∀(p q:List Mn),valS X n (p++q)=valS X n p+valS X n q
 | [],q=>by rw[List.nil_append,valS];grind
 | m::r,q=>by rw[List.cons_append,valS,valS,Q2o X n r q];grind
theorem j1m (k:Nat)(X:Nat->Rat)(n:Nat): ∀(p q:List Mn),Q1p k X n (p++q)=Q1p k X n p+Q1p k X n q
 | [],q=>by rw[List.nil_append,Q1p];grind
 | m::r,q=>by rw[List.cons_append,Q1p,Q1p,j1m k X n r q];grind
theorem W1o (a:List Mn)(i:Nat)(h:i<a.length):a.take (i+1)=a.take i++ [a.getD i default]:=by rw[List.take_add_one,List.getElem?_eq_getElem h];simp[q_a,h]
theorem q1d (p:List Mn)(X:Nat->Rat)(n:Nat): ∀i,i<=p.length->valQ p X n i=valS X n (p.take i)
 | 0,_=>rfl
 | i+1,h=>by rw[W1o p i h,Q2o,valQ,q1d p X n i (by omega),valS,valS];grind
theorem j3o (p:List Mn)(X:Nat->Rat)(n:Nat):valQ p X n p.length=valS X n p:=by rw[q1d p X n _ (Nat.le_refl _),List.take_length]
theorem Y1x (p:List Mn)(k:Nat)(X:Nat->Rat)(n:Nat): ∀i,i<=p.length->Q1q p k X n i=Q1p k X n (p.take i)
 | 0,_=>rfl
 | i+1,h=>by rw[W1o p i h,j1m,Q1q,Y1x p k X n i (by omega),Q1p,Q1p];grind
theorem H3x (p:List Mn)(k:Nat)(X:Nat->Rat)(n:Nat):Q1q p k X n p.length=Q1p k X n p:=by rw[Y1x p k X n _ (Nat.le_refl _),List.take_length]
theorem Y3s {v:Vl}(h:K0p v=0):qV v=0:=Z1t (y0n h)
theorem q1c {n L U:Nat}{D:Int}(hb:L+U+1<=4096)(X:Nat->Rat)(N:Nat): ∀(ts:List Tm),(∀t∈ts,okT n L U D t)->valS X N ((ts.filter (fun t=>decide (K0p t.v≠0))).map monT)=sumT X N ts
 | [],_=>rfl
 | t::r,h=>by have ih:=q1c hb X N r fun x hx=>h x (by simp[hx]);obtain⟨a1,a2,a3,a4,a5⟩:=h t (by simp);by_cases c:K0p t.v=0;rw[List.filter_cons_of_neg (by simp[c]),ih,sumT,Y3s c,Rat.zero_mul,Rat.zero_add];rw[List.filter_cons_of_pos (by simp[c]),List.map_cons,valS,ih,sumT,y0l];show qN (numV t.v).1*v1t t.ks X N+_=_;rw[(K0k a4 (j0i a4 a5 hb)).2]
theorem J1a {k:Nat}(X:Nat->Rat)(N:Nat): ∀(p:List Mn),(∀m∈p,0<=m.ks.getD k 0)->sumT X N (W0o k p)=Q1p k X N p
 | [],_=>rfl
 | m::r,h=>by
  have ih:=J1a (k:=k) X N r fun x hx=>h x (by simp[hx]);have h0:=h m (by simp);rw[W0o,Q1p];by_cases c:m.ks.getD k 0=0;rw[if_pos c,ih];have:H0f m k X N=0:=by unfold H0f;rw[c,Rat.intCast_zero,Rat.zero_mul]
  rw[this,Rat.zero_add]
  . rw[if_neg c,sumT,ih];congr 1;show qV (byV (ofN m.c) (oddV false (m.ks.getD k 0).toNat 0))*v1t (decK m.ks k) X N=_;rw[z0z,K0i,j0d];unfold H0f;rw[y0l];show _=_*(qN m.c*v1t (decK m.ks k) X N);have hc:(((m.ks.getD k 0).toNat:Nat):Rat)=((m.ks.getD k 0:Int):Rat):=by
     have:(((m.ks.getD k 0).toNat:Int))=m.ks.getD k 0:=Int.toNat_of_nonneg h0
     conv=>rhs;rw[<-this]
     rfl
    rw[hc];grind
theorem U2e {ks:List Int}{k:Nat}(hk:k<ks.length):(decK ks k).sum=ks.sum-1:=by
 unfold decK
 induction ks generalizing k with
 | nil=>simp at hk
 | cons x r ih=>
  cases k with
  | zero=>simp;omega
  | succ k=>
   have:=ih (k:=k) (by simpa using hk);simp only[List.set_cons_succ,List.sum_cons,List.getD_cons_succ,this];omega
theorem W1u {ks:List Int}{k:Nat}(h:K0d ks=true)(hk:k<ks.length)(hne:ks.getD k 0≠0):K0d (decK ks k)=true:=by obtain⟨h1,h2⟩:=(J0c ks).1 h;refine(J0c _).2 ⟨fun j hj=> ?_,by rw[U2e hk];omega⟩;rw[G0k] at hj;rw[w0v _ _ _ hk];have:=h1 j hj;split;rename_i e;subst e;have:=h1 k hk;omega;exact this
theorem q2l {k:Nat}(hk:k<=8):luQ 0 3 (k:Rat):=by
 have:=q2m (z:=(k:Int)) (n:=3) (by simp;omega) 0;have e:qM (k:Int) 0=(k:Rat):=by unfold qM;rw[J1w,Rat.mul_one];rfl
 rw[e] at this;exact this
theorem j1n {n M k:Nat}{L U:Nat}{D:Int}(hk:k<n): ∀ {p:List Mn},(∀m∈p,okMn n L U D m)-> ∀t∈W0o k p,okT n L (U+3) D t
 | [],_,t,ht=>by cases ht
 | m::r,h,t,ht=>by obtain⟨a1,a2,a3,a4,a5,a6⟩:=h m (by simp);have ih:=j1n (M:=M) hk (p:=r) fun x hx=>h x (by simp[hx]);rw[W0o] at ht;split at ht;exact ih t ht;rename_i hne;rcases List.mem_cons.1 ht with rfl | ht;have hat:=J0f a2 k (by omega);refine⟨by rw[G0k];exact a1,W1u a2 (by omega) hne,by show(decK m.ks k).sum<=D;rw[U2e (by omega)];omega,Q1w (V0j a4) (U0c _ _ _),?_⟩;show luQ L (U+3) (qV (byV (ofN m.c) (oddV false (m.ks.getD k 0).toNat 0)));rw[z0z,K0i,j0d];exact x0e a6 (q2l (by omega));exact ih t ht
theorem X3j {n L U:Nat}{D:Int}{p:List Mn}{k:Nat}(hn1:1<=n)(hn4:n<=4)(hr:X0v p n=true)(hp: ∀m∈p,okMn n L U D m)(hk:k<n)(hb:L+U+4<=4096):
 (G0i p k n).2=0/\X0v (G0i p k n).1 n=true/\(G0i p k n).1.length<=p.length/\(∀m∈(G0i p k n).1,okMn n L (U+3) D m)/\ ∀X,valQ (G0i p k n).1 X n (G0i p k n).1.length=Q1q p k X n p.length:=by
 have hl:=((X0g p n).1 hr).1.2.2;have hat: ∀m∈p,Q0n m.c=true/\m.c.w.length≠0/\0<=m.ks.getD k 0/\m.ks.getD k 0<=8:=fun m hm=>by obtain⟨a1,a2,a3,a4,a5,a6⟩:=hp m hm;have:=J0f a2 k (by omega);exact⟨a4,a5,this.1,this.2⟩
 have hok:=j1n (M:=0) hk hp;have e:G0i p k n=(((W0o k p).filter (fun t=>decide (K0p t.v≠0))).map monT,0):=by unfold G0i;rw[if_pos ⟨hr,by omega,by omega⟩];show G0j (k:Int).toNat p []=_;rw[Int.toNat_natCast,<-Y1o p [] hat,G1v (by omega) _ _ hok,List.nil_append]
 have hfl:((W0o k p).filter (fun t=>decide (K0p t.v≠0))).length<=p.length:=Nat.le_trans (List.length_filter_le _ _) (w0s k p);have hm: ∀m∈((W0o k p).filter (fun t=>decide (K0p t.v≠0))).map monT,okMn n L (U+3) D m:=fun m hm=>by obtain⟨t,ht,rfl⟩:=List.mem_map.1 hm;obtain⟨t1,t2⟩:=List.mem_filter.1 ht;exact q2b (by omega) (hok t t1) (q_b t2)
 have hff:G0d ((((W0o k p).filter (fun t=>decide (K0p t.v≠0))).map monT).map Mn.ks):=by
  rw[List.map_map];have h1:=Z1l (i:=k) (Z1c hr);have:G0d (((W0o k p).filter (fun t=>decide (K0p t.v≠0))).map Tm.ks):=by unfold G0d at h1⊢;rw[List.pairwise_map] at h1⊢;exact h1.filter _
  exact this
 rw[e];refine⟨rfl,q1v hn1 hn4 (by rw[List.length_map];omega) hm hff,by rw[List.length_map];exact hfl,hm,fun X=> ?_⟩;rw[j3o,H3x,q1c (by omega) X n _ hok,J1a X n p fun m hm=>(hat m hm).2.2.1]
end Go.Pv
end
