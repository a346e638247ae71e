/- Parts of the walk: M104, M105, M107, M108, M106, M109, M110, N177, N178, N179. -/
import Derived.Test.YtldalepagmhnmaaGreatDoorZFF
set_option linter.unusedVariables false
set_option linter.unusedSimpArgs false
section
namespace Go.Pv
def dotX (u v:List Nm)(p:Int)(i:Nat)(acc:Nm):Nm×Int:=
 if (Q0r 2 (u.getD i default) (v.getD i default) p false).2=0/\0<i then Q0r 0 acc (Q0r 2 (u.getD i default) (v.getD i default) p false).1 p false else Q0r 2 (u.getD i default) (v.getD i default) p false
def dotG (u v:List Nm)(p:Int):Nat->Nat->Nm->Nm×Int
 | _,0,acc=>(acc,0)
 | i,k+1,acc=>if (dotX u v p i acc).2≠0 then(default,(dotX u v p i acc).2) else dotG u v p (i+1) k (dotX u v p i acc).1
theorem k1r (u v:List Nm)(p:Int){i n:Nat}(h:i<n)(acc:Nm):dotG u v p i (n-i) acc=if (dotX u v p i acc).2≠0 then(default,(dotX u v p i acc).2) else dotG u v p (i+1) (n-(i+1)) (dotX u v p i acc).1:=by rw[show n-i=(n-(i+1))+1 from oG,dotG]
theorem J2l (u v:List Nm)(p:Int)(n:Nat)(acc:Nm):dotG u v p n (n-n) acc=(acc,0):=by rw[Nat.sub_self];rfl
def dotC (u v:List Nm)(p:Int):Nm×Int:=dotG u v p 0 u.length default
theorem k0c (u v:List Nm)(p:Int)(i:Nat)(acc:Nm):Q0h (dotX u v p i acc).1=true:=by unfold dotX;split<;>exact Z0k _ _ _ _ _
theorem G1g (u v:List Nm)(p:Int): ∀(k i:Nat) (acc:Nm),Q0h acc=true->Q0h (dotG u v p i k acc).1=true
 | 0,_,_,h=>h
 | k+1,i,acc,h=>by unfold dotG;split;rfl;exact G1g u v p k _ _ (k0c _ _ _ _ _)
theorem k0d (u v:List Nm)(p:Int):Q0h (dotC u v p).1=true:=G1g _ _ _ _ _ _ rfl
def rowR (n:Nat)(v:List Nm):Prop:=v.length=n/\ ∀c∈v,Q0h c=true
theorem rowR.at {n:Nat}{v:List Nm}(h:rowR n v)(i:Nat):Q0h (v.getD i default)=true:=by by_cases hi:i<v.length;exact h.2 _ (Q0q _ _ _ hi);rw[q_a,List.getElem?_eq_none oG];rfl
theorem k3j {u v:List Nm}{n m:Nat}{p:Int}(hu:rowR n u)(hv:rowR m v)(hp:Z0b p=true)(i:Nat){acc:Nm}(ha:Q0h acc=true):e02 (dotX u v p i acc).2:=by unfold dotX;split;exact j0v ha (Z0k _ _ _ _ _) hp;exact j0v (hu.at i) (hv.at i) hp
theorem V3k {u v:List Nm}{n m:Nat}{p:Int}(hu:rowR n u)(hv:rowR m v)(hp:Z0b p=true): ∀(k i:Nat) (acc:Nm),Q0h acc=true->e02 (dotG u v p i k acc).2
 | 0,_,_,_=> .inl rfl
 | k+1,i,acc,h=>by unfold dotG;split;exact k3j hu hv hp i h;exact V3k hu hv hp k _ _ (k0c _ _ _ _ _)
theorem V3l {u v:List Nm}{n m:Nat}{p:Int}(hu:rowR n u)(hv:rowR m v)(hp:Z0b p=true):e02 (dotC u v p).2:=V3k hu hv hp _ _ _ rfl
def k0n (v u:List Nm)(p:Int):List Nm×Int:=
 if (dotC u v p).2≠0 then([],(dotC u v p).2) else if (dotC u u p).2≠0 then([],(dotC u u p).2)
 else if (W0n (dotC u v p).1 (dotC u u p).1 p false).2≠0 then([],(W0n (dotC u v p).1 (dotC u u p).1 p false).2)
 else tabF (fun i=>W0c (v.getD i default) (W0n (dotC u v p).1 (dotC u u p).1 p false).1 (u.getD i default) p) 0 v.length []
theorem z1t {G:Nat->Nm×Int}{n:Nat}(hg: ∀i,Q0h (G i).1=true)(h:(tabF G 0 n []).2=0):rowR n (tabF G 0 n []).1:=
 ⟨(U0u h).1,z0a (fun x=>Q0h x=true) n 0 [] (fun j _ _=>hg j) (fun x hx=>by cases hx)⟩
theorem V1j {v u:List Nm}{n:Nat}{p:Int}(hv:rowR n v)(h:(k0n v u p).2=0):rowR n (k0n v u p).1:=by unfold k0n at h⊢;split at h;rename_i c;exact absurd h c;rename_i c;rw[if_neg c];split at h;rename_i c;exact absurd h c;rename_i c;rw[if_neg c];split at h;rename_i c;exact absurd h c;rename_i c;rw[if_neg c];have:=z1t (fun i=>W1x _ _ _ _) h;rwa [hv.1] at this⊢
def topG (v:List Nm):Nat->Nm
 | 0=>default
 | i+1=>if cmpR (absN (v.getD i default)) (topG v i)>0 then absN (v.getD i default) else topG v i
theorem j0n (v:List Nm): ∀i,Q0h (topG v i)=true
 | 0=>rfl
 | i+1=>by unfold topG;split;exact K0n _;exact j0n v i
def topC (v:List Nm):Nm:=topG v v.length
def x0j (t:Nm):Int:= -t.exp-(X0m t.w:Nat)
def G1z (v:List Nm):List Nm×Int:=if (topC v).w= [] then([],3) else tabF (fun i=>Y0o (v.getD i default) (x0j (topC v))) 0 v.length []
theorem U2l {v:List Nm}{n:Nat}(hv:rowR n v)(h:(G1z v).2=0):rowR n (G1z v).1:=by unfold G1z at h⊢;split at h;exact absurd h (by decide);rename_i c;rw[if_neg c];have:=z1t (fun i=>x1c _ _) h;rwa [hv.1] at this⊢
def uprG (made:List (List Nm))(p:Int):Nat->Nat->List Nm->List Nm×Int
 | _,0,v=>(v,0)
 | i,k+1,v=>if (k0n v (made.getD i []) p).2≠0 then([],(k0n v (made.getD i []) p).2) else uprG made p (i+1) k (k0n v (made.getD i []) p).1
theorem z1q (made:List (List Nm))(p:Int){i n:Nat}(h:i<n)(v:List Nm):uprG made p i (n-i) v=if (k0n v (made.getD i []) p).2≠0 then([],(k0n v (made.getD i []) p).2) else uprG made p (i+1) (n-(i+1)) (k0n v (made.getD i []) p).1:=by rw[show n-i=(n-(i+1))+1 from oG,uprG]
theorem Z2b (made:List (List Nm))(p:Int)(n:Nat)(v:List Nm):uprG made p n (n-n) v=(v,0):=by rw[Nat.sub_self];rfl
theorem Z2a {made:List (List Nm)}{n:Nat}{p:Int} : ∀(k i:Nat) (v:List Nm),rowR n v->(uprG made p i k v).2=0->rowR n (uprG made p i k v).1
 | 0,_,_,h,_=>h
 | k+1,i,v,hv,h=>by unfold uprG at h⊢;split at h;rename_i c;exact absurd h c;rename_i c;rw[if_neg c];exact Z2a k _ _ (V1j hv (Classical.not_not.1 c)) h
def uprC (v:List Nm)(made:List (List Nm))(p:Int):List Nm×Int:=
 if (uprG made p 0 made.length v).2≠0 then([],(uprG made p 0 made.length v).2) else G1z (uprG made p 0 made.length v).1
theorem G1q {v:List Nm}{made:List (List Nm)}{n:Nat}{p:Int}(hv:rowR n v)(h:(uprC v made p).2=0):rowR n (uprC v made p).1:=by unfold uprC at h⊢;split at h;rename_i c;exact absurd h c;rename_i c;rw[if_neg c];exact U2l (Z2a _ _ _ hv (Classical.not_not.1 c)) h
def colC (a:List (List Nm))(j:Nat):List Nm:=(List.range a.length).map fun i=>entQ a i j
theorem q1p {a:List (List Nm)}(h:X0p a=true){j:Nat}(hj:j<a.length):rowR a.length (colC a j):=by refine⟨by simp[colC],fun c hc=> ?_⟩;simp only[colC,List.mem_map] at hc;obtain⟨i,hi,rfl⟩:=hc;rw[List.mem_range] at hi;have:=(rightQ_iff.1 h).1 i hi;unfold Z0w at this;rw[q_i] at this;refine(Y0h _ Q0h).1 this.1 j ?_;have:=q_b this.2;omega
def q0c (a:List (List Nm))(p:Int):Nat->Nat->List (List Nm)->List (List Nm)×Int
 | _,0,made=>(made,0)
 | j,k+1,made=>if (uprC (colC a j) made p).2≠0 then([],(uprC (colC a j) made p).2) else q0c a p (j+1) k (made++ [(uprC (colC a j) made p).1])
theorem G1i (a:List (List Nm))(p:Int){i n:Nat}(h:i<n)(made:List (List Nm)):q0c a p i (n-i) made=if (uprC (colC a i) made p).2≠0 then([],(uprC (colC a i) made p).2) else q0c a p (i+1) (n-(i+1)) (made++ [(uprC (colC a i) made p).1]):=by rw[show n-i=(n-(i+1))+1 from oG,q0c]
theorem v1b (a:List (List Nm))(p:Int)(n:Nat)(made:List (List Nm)):q0c a p n (n-n) made=(made,0):=by rw[Nat.sub_self];rfl
def z0z (n:Nat)(cols:List (List Nm)):List (List Nm):=(List.range n).map fun i=>cols.map fun c=>c.getD i default
def W0q (a:List (List Nm))(p:Int):List (List Nm)×Int:=
 if X0p a=true/\Z0b p=true then(if (q0c a p 0 a.length []).2≠0 then([],(q0c a p 0 a.length []).2) else(z0z a.length (q0c a p 0 a.length []).1,0)) else([],1)
theorem v1a {a:List (List Nm)}{p:Int}(ha:X0p a=true): ∀(k j:Nat) (made:List (List Nm)),j+k<=a.length->made.length=j->(∀c∈made,rowR a.length c)->(q0c a p j k made).2=0->(q0c a p j k made).1.length=j+k/\ ∀c∈(q0c a p j k made).1,rowR a.length c
 | 0,j,made,_,hl,hm,_=>⟨hl,hm⟩
 | k+1,j,made,hj,hl,hm,h=>by unfold q0c at h⊢;split at h;rename_i c;exact absurd h c;rename_i c;rw[if_neg c];have h0:=Classical.not_not.1 c;have:=v1a ha k (j+1) (made++ [(uprC (colC a j) made p).1]) oG (by simp;omega) (fun x hx=>by rcases List.mem_append.1 hx with hx | hx;exact hm x hx;rw[List.mem_singleton.1 hx];exact G1q (q1p ha oG) h0) h;exact⟨by rw[this.1];omega,this.2⟩
theorem J2p {a:List (List Nm)}{p:Int}(h:(W0q a p).2=0):X0p a=true/\Z0b p=true/\(q0c a p 0 a.length []).2=0/\(W0q a p).1=z0z a.length (q0c a p 0 a.length []).1:=by unfold W0q at h⊢;split at h;rename_i c;rw[if_pos c];split at h;rename_i c2;exact absurd h c2;rename_i c2;rw[if_neg c2];exact⟨c.1,c.2,Classical.not_not.1 c2,rfl⟩;exact absurd h (by decide)
theorem J2o {a:List (List Nm)}{p:Int}(h:(W0q a p).2=0):sqR a.length (W0q a p).1:=by obtain⟨h1,h2,h3,h4⟩:=J2p h;rw[h4];obtain⟨q1,q2⟩:=v1a h1 a.length 0 [] oG rfl (fun c hc=>by cases hc) h3;refine⟨by simp[z0z],fun r hr=> ?_⟩;simp only[z0z,List.mem_map] at hr;obtain⟨i,_,rfl⟩:=hr;refine⟨by simp[q1],fun c hc=> ?_⟩;simp only[List.mem_map] at hc;obtain⟨l,hl,rfl⟩:=hc;exact(q2 l hl).at i
theorem U2n (n:Nat)(cols:List (List Nm)){i:Nat}(hi:i<n):(z0z n cols).getD i []=cols.map fun c=>c.getD i default:=by simp[z0z,q_a,hi]
def magX (x:Nm):Int:=x.exp+(X0m x.w:Nat)
def W0y (v:List Nm):Nat->Int×Bool
 | 0=>(0,false)
 | i+1=>if (v.getD i default).w= [] then W0y v i else if (W0y v i).2=false\/magX (v.getD i default)>(W0y v i).1 then(magX (v.getD i default),true) else W0y v i
theorem Y3r {s e f:Int}(hs:0<=s)(h:e<=f):qM s e<=qM s f:=by rw[x1y s f e h,qM_le];have h2:(2:Int)^(f-e).toNat=((2^(f-e).toNat:Nat):Int):=(by simp);have h1:(1:Int)<=2^(f-e).toNat:=(by rw[h2];exact Int.ofNat_le.2 Nat.one_le_two_pow);have:=Int.mul_le_mul_of_nonneg_left h1 hs;rwa [Int.mul_one] at this
theorem q2h {a b:Nm}(ha:Q0h a=true)(hb:Q0h b=true)(na:a.neg=false)(nb:b.neg=false)(h0:a.w≠ [])(h:qN a<=qN b):magX a<=magX b:=by
 refine Int.not_lt.1 fun hlt=> ?_;have hm:valW a.w≠0:=fun e=>h0 ((X0b ha).1 e);have h1:qM ((2^(X0m a.w-1):Nat):Int) a.exp<=qN a:=by unfold qN mant;rw[na,if_neg (by decide),qM_le];exact Int.ofNat_le.2 (z0h hm)
 have h2:qN b<qM ((2^X0m b.w:Nat):Int) b.exp:=by unfold qN mant;rw[nb,if_neg (by decide),qM_lt];exact Int.ofNat_lt.2 (Z0g _)
 have e: ∀(k:Nat) (x:Int),qM ((2^k:Nat):Int) x=qM 1 (x+k):=fun k x=>by rw[<-H0k 1 k x,Int.one_mul];rfl
 rw[e] at h1 h2;have hp:=U0a hm;have h3:qM 1 (b.exp+(X0m b.w:Nat))<=qM 1 (a.exp+(X0m a.w-1:Nat)):=Y3r (by decide) (by unfold magX X0m at hlt;unfold X0m;omega);grind
theorem j2z {x:Nm}(h:Q0h x=true):absN x=⟨false,x.exp,x.w⟩:=if_pos h
theorem H1i {x:Nm}(h:x.w= []):qN x=0:=by unfold qN mant;rw[h];show qM (if x.neg=true then -((valW []:Nat):Int) else((valW []:Nat):Int)) _=0;rw[show valW []=0 from rfl];split<;>exact K0k _
theorem G2i {x:Nm}(h:Q0h x=true):0<=qN (absN x):=by have:=Q3c x;unfold qN;rw[<-K0k (absN x).exp,qM_le];exact this
theorem Y2q (v:List Nm): ∀i,(topG v i).neg=false/\0<=qN (topG v i)
 | 0=>⟨rfl,by show 0<=qN (default:Nm);rw[H1i rfl];exact Rat.le_refl⟩
 | i+1=>by unfold topG;split;rename_i h;have hr:Q0h (absN (v.getD i default))=true:=K0n _;by_cases hx:Q0h (v.getD i default)=true;exact⟨by rw[j2z hx],G2i hx⟩;rw[show absN (v.getD i default)=default from if_neg hx];exact⟨rfl,by rw[H1i rfl];exact Rat.le_refl⟩;exact Y2q v i
theorem V1f {v:List Nm}(hv: ∀i,Q0h (v.getD i default)=true): ∀i,((W0y v i).2=false->(topG v i).w= []/\(W0y v i).1=0)/\((W0y v i).2=true->(topG v i).w≠ []/\(W0y v i).1=magX (topG v i))
 | 0=>⟨fun _=>⟨rfl,rfl⟩,fun h=>by cases h⟩
 | i+1=>by
  obtain⟨ih1,ih2⟩:=V1f hv i;obtain⟨t1,t2⟩:=Y2q v i;have tr:=j0n v i;have hx:=hv i;have ea:=j2z hx;have ar:=K0n (v.getD i default);have a0:=G2i hx;unfold W0y topG;rw[H3q ar tr];by_cases hw:(v.getD i default).w= [];rw[if_pos hw];have: ¬cmpN (absN (v.getD i default)) (topG v i)>0:=fun h=>by have:=cmpN_gt.1 h;have e0:qN (absN (v.getD i default))=0:=H1i (by rw[ea];exact hw);rw[e0] at this;grind
  rw[if_neg this];exact⟨ih1,ih2⟩;rw[if_neg hw];have hwa:(absN (v.getD i default)).w≠ []:=(by rw[ea];exact hw);have em:magX (absN (v.getD i default))=magX (v.getD i default):=(by rw[ea];rfl);have hpos:0<qN (absN (v.getD i default)):=by have hm:valW (v.getD i default).w≠0:=fun e=>hw ((X0b hx).1 e);rw[ea];unfold qN mant;rw[if_neg Bool.false_ne_true,<-K0k (v.getD i default).exp,qM_lt];show(0:Int)<(valW (v.getD i default).w:Nat);omega
  by_cases hc:cmpN (absN (v.getD i default)) (topG v i)>0;rw[if_pos hc];cases hb:(W0y v i).2 with
  | false=>
   rw[if_pos (.inl rfl)];exact⟨fun h=>(by cases h),fun _=>⟨hwa,em.symm⟩⟩
  | true=>
   obtain⟨q1,q2⟩:=ih2 hb;have hle:=q2h tr ar t1 (by rw[ea]) q1 (by have:=cmpN_gt.1 hc;grind);rw[em] at hle;by_cases hg:magX (v.getD i default)>(W0y v i).1;rw[if_pos (.inr hg)];exact⟨fun h=>(by cases h),fun _=>⟨hwa,em.symm⟩⟩;rw[if_neg (fun h=>h.elim (fun h=>by cases h) hg)];exact⟨fun h=>(by rw[hb] at h;cases h),fun _=>⟨hwa,by rw[em];omega⟩⟩
  rw[if_neg hc];have hle:qN (absN (v.getD i default))<=qN (topG v i):=Rat.not_lt.1 fun h=>hc (cmpN_gt.2 h);cases hb:(W0y v i).2 with
  | false=>
   have e0:=H1i (ih1 hb).1;rw[e0] at hle;grind
  | true=>
   obtain⟨q1,q2⟩:=ih2 hb;have:=q2h ar tr (by rw[ea]) t1 hwa hle;rw[em] at this;rw[if_neg (fun h=>h.elim (fun h=>by cases h) fun h=>oG)];exact⟨fun h=>(by rw[hb] at h;cases h),fun _=>⟨q1,q2⟩⟩
def luR (L U:Nat)(v:List Nm):Prop:= ∀i,luQ L U (qN (v.getD i default))
theorem luR.mono {L U L' U':Nat}{v:List Nm}(h:luR L U v)(hl:L<=L')(hu:U<=U'):luR L' U' v:=fun i=>(h i).mono hl hu
def X1r (f:Fm)(p:Int):List Ivl×Int:=
 if X0n f=true/\Z0b p=true then(if (vecM (ofM f.a) f.r p).2≠0 then([],(vecM (ofM f.a) f.r p).2) else opB 0 (ofB f.m) (vecM (ofM f.a) f.r p).1 p) else([],1)
def ownF (c:Mx)(p:Int):(List (List Nm)×Mx)×Int:=
 if (midM c p).2≠0 then(([],[]),(midM c p).2)
 else if (W0q (midM c p).1 p).2≠0 then(([],[]),(W0q (midM c p).1 p).2)
 else(((W0q (midM c p).1 p).1,(V0l (W0q (midM c p).1 p).1 p).1),(V0l (W0q (midM c p).1 p).1 p).2)
def W0x (c:Mx)(p:Int):(List (List Nm)×Mx)×Int:=if (ownF c p).2=3 then((oneQ c.length,idM c.length),0) else ownF c p
def H1d (v c:Mx)(r z:List Ivl)(p:Int):List Ivl×Int:=
 if (mulM v c p).2≠0 then([],(mulM v c p).2)
 else if (vecM (mulM v c p).1 r p).2≠0 then([],(vecM (mulM v c p).1 r p).2)
 else if (vecM v z p).2≠0 then([],(vecM v z p).2)
 else opB 0 (vecM (mulM v c p).1 r p).1 (vecM v z p).1 p
def H2m (f:Fm)(m:List Nm)(c:Mx)(t:List (List Nm)×Mx)(d:List Ivl)(p:Int):Fm×Int:=
 if (H1d t.2 c f.r d p).2≠0 then(default,(H1d t.2 c f.r d p).2) else(⟨m,t.1,(H1d t.2 c f.r d p).1⟩,0)
def H2o (f:Fm)(z:List Ivl)(m:List Nm)(c:Mx)(t:List (List Nm)×Mx)(p:Int):Fm×Int:=
 if (opB 1 z (ofB m) p).2≠0 then(default,(opB 1 z (ofB m) p).2) else H2m f m c t (opB 1 z (ofB m) p).1 p
def y2c (f:Fm)(z:List Ivl)(m:List Nm)(c:Mx)(p:Int):Fm×Int:=
 if (W0x c p).2≠0 then(default,(W0x c p).2) else H2o f z m c (W0x c p).1 p
def y2f (f:Fm)(z:List Ivl)(s:Mx)(m:List Nm)(p:Int):Fm×Int:=
 if (mulM s (ofM f.a) p).2≠0 then(default,(mulM s (ofM f.a) p).2) else y2c f z m (mulM s (ofM f.a) p).1 p
def H2n (f:Fm)(z:List Ivl)(s:Mx)(p:Int):Fm×Int:=
 if (midB z p).2≠0 then(default,(midB z p).2) else y2f f z s (midB z p).1 p
def X2q (f:Fm)(z:List Ivl)(s:Mx)(p:Int):Bool:=X0n f&&rightB z&&rightM s&&decide (z.length=f.m.length)&&decide (s.length=f.m.length)&&Z0b p
def z0u (f:Fm)(z:List Ivl)(s:Mx)(p:Int):Fm×Int:=if X2q f z s p=true then H2n f z s p else(default,1)
theorem U3r {a:Ivl}{p:Int}(ha:Q0y a=true)(hp:Z0b p=true):e02 (midI a p).2:=by unfold midI;rw[if_pos ⟨ha,hp⟩];split;exact .inl rfl;exact y1a _
theorem k1n {α β:Type}[Inhabited α](F:Nat->α->β×Int)(l:List α)(h: ∀i,i<l.length->e02 (F i (l.getD i default)).2):e02 (V0d F 0 l []).2:=by rw[W0a];exact q1m _ _ _ fun j _ hj=>h j oG
theorem U3t {b:List Ivl}{p:Int}(hb:rightB b=true)(hp:Z0b p=true):e02 (midB b p).2:=by unfold midB;rw[if_pos ⟨hb,hp⟩];exact k1n _ _ fun i hi=>U3r (x0m hb hi) hp
theorem x3w {k:Nat}{a b:List Ivl}{p:Int}(ha:rightB a=true)(hb:rightB b=true)(hl:a.length=b.length)(hp:Z0b p=true):e02 (opB k a b p).2:=by unfold opB;rw[if_pos ⟨ha,hb,hl,hp⟩];exact k1n _ _ fun i hi=>G2z (x0m ha hi) (x0m hb oG) hp
theorem W3e {m:Mx}{b:List Ivl}{p:Int}(hm:rightM m=true)(hb:rightB b=true)(hl:m.length=b.length)(hp:Z0b p=true):e02 (vecM m b p).2:=by unfold vecM;rw[if_pos ⟨hm,hb,hl,hp⟩];exact q1m _ _ _ fun i _ hi=>Q2c hp _ fun k hk=>⟨G0j hm oG oG,x0m hb hk⟩
theorem j3g {c:Mx}{p:Int} :(midM c p).2≠3:=by unfold midM;split;rename_i h;have:e02 (tabF (fun i=>midB (c.getD i []) p) 0 c.length []).2:=q1m _ _ _ fun i _ hi=>U3t (X0f h.1 oG).2 h.2;rcases this with e | e<;>rw[e]<;>decide;decide
theorem k2s {m:Mx}{b:List Ivl}{p:Int}(h:(vecM m b p).2=0):(rightM m=true/\rightB b=true/\m.length=b.length/\Z0b p=true)/\(vecM m b p).1.length=m.length/\
 ∀i,i<m.length->(dotF (atM m i) (fun k=>b.getD k default) p m.length).2=0/\(vecM m b p).1.getD i default=(dotF (atM m i) (fun k=>b.getD k default) p m.length).1:=by
 unfold vecM at h⊢;split at h;rename_i c;rw[if_pos c];obtain⟨t1,t2,t3⟩:=U0u h;refine⟨c,t1,fun i hi=> ?_⟩;have:=t2 i hi;have:=t3 i hi;simp only[<-c.2.2.1] at*
 exact⟨by assumption,by assumption⟩;exact absurd h (by decide)
theorem W3d {m:Mx}{b:List Ivl}{p:Int}(h:(vecM m b p).2=0):rightB (vecM m b p).1=true/\(vecM m b p).1.length=m.length:=by obtain⟨⟨r1,r2,r3,r4⟩,v1,v2⟩:=k2s h;have:=Z0x r1;refine⟨G0k (fun i hi=> ?_) oG oG,v1⟩;rw[(v2 i oG).2];exact W0w _ _ _ _
theorem j1i {f:Fm}{z:List Ivl}{s:Mx}{p:Int}(h:X2q f z s p=true):X0n f=true/\rightB z=true/\rightM s=true/\z.length=f.m.length/\s.length=f.m.length/\Z0b p=true:=by unfold X2q at h;simp only[q_i,decide_eq_true_eq] at h;exact⟨h.1.1.1.1.1,h.1.1.1.1.2,h.1.1.1.2,h.1.1.2,h.1.2,h.2⟩
set_option maxRecDepth 20000
def bdK (n:Nat)(B:Nat->Nat)(D U:Nat)(l:List Nm):Prop:= ∀j,j<n->luQ (B j+D) U (qN (l.getD j default))
theorem bdK.mono {n D U D' U':Nat}{B:Nat->Nat}{l:List Nm}(h:bdK n B D U l)(hd:D<=D')(hu:U<=U'):bdK n B D' U' l:=fun j hj=>(h j hj).mono oG hu
set_option maxRecDepth 100000
open Go.Proofs
set_option maxHeartbeats 4000000 in
theorem H1k (a:List (List Nm))(st:Q0g)(hw:wQs a):PR 244 [.sl .no (encQ a)] st (.sc (.bool (X0p a))):=by
 obtain⟨hl,hw⟩:=hw;refine J4z Tryz.func244 fun E=> ?_;refine Q0d [true,false,false,false,false,false,false,true,true,true] 0 0 (fun n s=> ∃i,n=a.length-i/\i<=a.length/\(∀j,j<i->Z0w (a.getD j []) a.length=true)/\s=⟨[.sl .no (encQ a),.junk,.junk,.junk,.junk,.junk,.junk,.sl .no (encQ a),.sc (.int .i64 a.length),.sc (.int .i64 (i:Nat))]++jk 27,[],[],st⟩) a.length ?_ ?_;refine K4w ?_;exact⟨0,oG,oG,fun j hj=>oG,rfl⟩;rintro n s ⟨i,rfl,hi,hr,rfl⟩;refine K4a (fun h=> ?_) (fun h=> ?_);have hlt:i<a.length:=(oT h);have e1:=X0z a i hlt;have e3:=Z0s i oG;have wi:=hw i hlt;have wil:=wi.1;simp-dsimp only[go_sem,e1];refine⟨oG,?_⟩;refine ck (fun h2=> ?_) (fun h2=> ?_);have hn:=z0v h2;refine K4w ?_;have:X0p a=false:=Bool.eq_false_iff.2 fun e=>hn (by have:=(rightQ_iff.1 e).1 i hlt;unfold Z0w at this;simp at this;exact this.2);rw[this];have hn:=G0q h2;refine K4w ?_;refine Q0d ([true,false,false,false,false,false,false,true,true,true]++rF 8++ [true,true,true]) 0 0 (fun n s=> ∃k,n=(a.getD i []).length-k/\k<=(a.getD i []).length/\(∀j,j<k->Q0h ((a.getD i []).getD j default)=true)/\s=⟨[.sl .no (encQ a),.junk,.junk,.junk,.junk,.junk,.junk,.sl .no (encQ a),.sc (.int .i64 a.length),.sc (.int .i64 (i:Nat))]++jk 8++ [.sl .no (Q0t (a.getD i [])),.sc (.int .i64 (a.getD i []).length),.sc (.int .i64 (k:Nat))]++jk 16,[],[],st⟩) (a.getD i []).length ?_ ?_;refine K4w ?_;exact⟨0,oG,oG,fun j hj=>oG,rfl⟩;rintro n s ⟨k,rfl,hk,hrk,rfl⟩;refine K4a (fun h5=> ?_) (fun h5=> ?_);have hklt:k<(a.getD i []).length:=(oT h5);have e2:=Z0d (a.getD i []) k hklt;have e4:=Z0s k oG;have wk:=wi.2 k hklt;unfold wN at wk;simp-dsimp only[go_sem,e2];refine⟨oG,?_⟩;refine(X0l _ st oG).Q ?_;refine ck (fun h6=> ?_) (fun h6=> ?_);have hf:Q0h ((a.getD i []).getD k default)=false:=(by simpa using h6);refine K4w ?_;have:X0p a=false:=Bool.eq_false_iff.2 fun e=>by have:=(rightQ_iff.1 e).1 i hlt;unfold Z0w at this;rw[q_i] at this;rw[(Y0h _ Q0h).1 this.1 k hklt] at hf;cases hf
 rw[this];have ht:Q0h ((a.getD i []).getD k default)=true:=(by simpa using h6);simp-dsimp only[go_sem,e4];refine⟨(a.getD i []).length-(k+1),oG,k+1,rfl,oG,fun j hj=> ?_,rfl⟩;by_cases e:j=k;subst e;exact ht;exact hrk j oG;have hge:k=(a.getD i []).length:=(oF h5);refine K4w ?_;refine Q0a ?_;simp-dsimp only[go_sem,e3];refine⟨a.length-(i+1),oG,i+1,rfl,oG,fun j hj=> ?_,rfl⟩;by_cases e:j=i;subst e;unfold Z0w;rw[q_i];exact⟨(Y0h _ Q0h).2 fun b hb=>hrk b oG,q_h hn⟩;exact hr j oG;have hge:i=a.length:=(oF h);subst hge;refine K4w ?_;refine J4y ?_;have fin:X0p a=(decide ((a.length:Int)>=1)&&decide ((a.length:Int)<=4)):=by rw[Bool.eq_iff_iff,rightQ_iff,q_i,decide_eq_true_iff,decide_eq_true_iff];exact⟨fun h=>⟨oG,oG⟩,fun h=>⟨hr,oG,oG⟩⟩
 rw[fin];refine gkT (fun h1=> ?_) (fun h1=> ?_);simp-dsimp only[go_sem,h1]
 try rfl
 simp-dsimp only[go_sem,h1]
 try rfl
theorem U0s {n:Nat}{v:List Nm}(h:rowR n v): ∀i,wN (v.getD i default):=fun i=>Q0o (h.at i)
set_option maxHeartbeats 8000000 in
theorem U1i (u v:List Nm)(n:Nat)(p:Int)(st:Q0g)(hu:rowR n u)(hv:rowR n v)(hn:n<=4):PCalls Tryz.prog 309 [.sl .no (Q0t u),.sl .no (Q0t v),.sc (.int .i64 p)] st
 (fun r st'=>r= .tup [.agg (encN (dotC u v p).1),.sc (.int .i64 (dotC u v p).2)]/\st'=st):=by
 have hlu:=hu.1;have hlv:=hv.1;refine Q0b none Tryz.func309 rfl fun E=>Q0a ?_;unfold dotC;rw[hlu];generalize hT:dotG u v p 0 n default=T;simp-dsimp only[go_sem,hlu];refine J0v 1 ?_;refine K4w ?_;refine Q0d [true,true,true,false,false,false,true,false,true,false,false,false,false,true,true] 2 0
  (fun m s=> ∃(i:Nat) (acc:Nm),m=n-i/\i<=n/\Q0h acc=true/\(i=0->acc=default)/\T=dotG u v p i (n-i) acc/\
   s=⟨[.sl .no (Q0t u),.sl .no (Q0t v),.sc (.int .i64 p),.junk,.junk,.junk,.lp 0 0,.junk,.lp 1 0,.junk,.junk,.junk,.junk,.sc (.int .i64 n),.sc (.int .i64 (i:Nat))]++jk 35,
   [[.sc (.bool false),.sc (.int .i64 0),.sl .full []],encN acc],[],st⟩) n ?_ ?_
 refine K4w ?_;exact⟨0,default,oG,oG,rfl,fun _=>rfl,hT.symm,rfl⟩;rintro m s ⟨i,acc,rfl,hi,har,h00,hr,rfl⟩;refine K4a (fun h=> ?_) (fun h=> ?_);rotate_left;have hge:i=n:=(oF h);subst hge;rw[J2l] at hr;rw[hr];refine K4w ?_;refine Q0a ?_;exact K4v;have hlt:i<n:=(oT h);have g1:=Z0d u i oG;have g2:=Z0d v i oG;have e3:=Z0s i oG;rw[k1r u v p hlt acc] at hr;have hx:dotX u v p i acc=if (Q0r 2 (u.getD i default) (v.getD i default) p false).2=0/\0<i then Q0r 0 acc (Q0r 2 (u.getD i default) (v.getD i default) p false).1 p false else Q0r 2 (u.getD i default) (v.getD i default) p false:=rfl;refine K4w ?_;refine Q0k Z0c 50 (Z2k [0,1,2,3,4,5,6,7,8] (.alt (Z2k [9,10,11,12] (.step 13 [3,7] (.step 14 [] (.step 15 [] (.done))))) (.step 13 [3,7] (Z2k [9,10,11,12,14,15] .done)))) (by decide+kernel) (by simp) ?_;simp-dsimp only[go_sem,hlu,hlv,g1,g2];refine⟨oG,oG,And.intro ?_ ?_⟩
 all_goals
  refine(w0v (u.getD i default) (v.getD i default) p false _ (U0s hu i) (U0s hv i)).w ?_;rintro st' rfl;have hmr:=Z0k 2 (u.getD i default) (v.getD i default) p false;by_cases hm:(Q0r 2 (u.getD i default) (v.getD i default) p false).2=0;by_cases h0:0<i;rw[if_pos ⟨hm,h0⟩] at hx;have z1:((Q0r 2 (u.getD i default) (v.getD i default) p false).2==0)=true:=(by rw[hm];rfl);have z2:decide ((i:Int)>0)=true:=q_h oG;generalize (Q0r 2 (u.getD i default) (v.getD i default) p false)=Z at*
  simp-dsimp only[go_sem,z1,z2];refine(H1b acc Z.1 p false _ (Q0o har) (Q0o hmr)).w ?_;rintro st' rfl;rw[<-hx];rw[<-hx] at*
  by_cases hz:(dotX u v p i acc).2=0;have z3:((dotX u v p i acc).2 !=0)=false:=(by rw[hz];rfl);rw[if_neg (fun e=>e hz)] at hr;simp-dsimp only[go_sem,z3,e3];exact⟨n-(i+1),oG,i+1,_,rfl,oG,k0c _ _ _ _ _,fun e=>oG,hr,rfl⟩;have z3:((dotX u v p i acc).2 !=0)=true:=bne_iff_ne.2 hz;rw[if_pos hz] at hr;rw[hr];simp-dsimp only[go_sem,z3]
  try rfl
  rw[if_neg (fun h=>h0 h.2)] at hx;have z1:((Q0r 2 (u.getD i default) (v.getD i default) p false).2==0)=true:=(by rw[hm];rfl);have z2:decide ((i:Int)>0)=false:=q_g oG;have z3:((Q0r 2 (u.getD i default) (v.getD i default) p false).2 !=0)=false:=(by rw[hm];rfl);rw[hx,if_neg (fun e=>e hm)] at hr;generalize (Q0r 2 (u.getD i default) (v.getD i default) p false)=Z at*
  simp-dsimp only[go_sem,z1,z2,z3,e3];exact⟨n-(i+1),oG,i+1,_,rfl,oG,hmr,fun e=>oG,hr,rfl⟩;rw[if_neg (fun h=>hm h.1)] at hx;have z1:((Q0r 2 (u.getD i default) (v.getD i default) p false).2==0)=false:=(by simpa using hm);have z3:((Q0r 2 (u.getD i default) (v.getD i default) p false).2 !=0)=true:=bne_iff_ne.2 hm;rw[hx,if_pos hm] at hr;rw[hr];generalize (Q0r 2 (u.getD i default) (v.getD i default) p false)=Z at*
  simp-dsimp only[go_sem,z1,z3]
  try rfl
set_option maxHeartbeats 8000000 in
theorem w1v (v u:List Nm)(n:Nat)(p:Int)(st:Q0g)(hv:rowR n v)(hu:rowR n u)(hn:n<=4)(hp:Z0b p=true):PCalls Tryz.prog 282 [.sl .no (Q0t v),.sl .no (Q0t u),.sc (.int .i64 p)] st
 (fun r st'=>r= .tup [.sl .no (Q0t (k0n v u p).1),.sc (.int .i64 (k0n v u p).2)]/\st'=st):=by
 have hlu:=hu.1;have hlv:=hv.1;have ar:=k0d u v p;have br:=k0d u u p;refine Q0b none Tryz.func282 rfl fun E=>Q0c (Q0a ?_);unfold k0n;refine K4w ?_;refine J4x ?_;refine(U1i u v n p _ hu hv hn).w ?_;rintro st' rfl;generalize dotC u v p=A at*
 refine K4w ?_;refine Q0c (Q0a ?_);by_cases h1:A.2=0;rotate_left;have z1:(A.2 !=0)=true:=bne_iff_ne.2 h1;rw[if_pos h1];simp-dsimp only[go_sem,z1]
 try rfl
 have z1:(A.2 !=0)=false:=by rw[h1];rfl
 rw[if_neg (fun e=>e h1)];simp-dsimp only[go_sem,z1];refine J4x ?_;refine(U1i u u n p _ hu hu hn).w ?_;rintro st' rfl;generalize dotC u u p=B at*
 refine K4w ?_;refine Q0c (Q0a ?_);by_cases h2:B.2=0;rotate_left;have z2:(B.2 !=0)=true:=bne_iff_ne.2 h2;rw[if_pos h2];simp-dsimp only[go_sem,z2]
 try rfl
 have z2:(B.2 !=0)=false:=by rw[h2];rfl
 rw[if_neg (fun e=>e h2)];simp-dsimp only[go_sem,z2];refine J4x ?_;refine(x1i A.1 B.1 p false _ ar br hp).w ?_;rintro st' rfl;have cr:=v0e A.1 B.1 p false;generalize W0n A.1 B.1 p false=C at*
 refine K4w ?_;refine Q0c (Q0a ?_);by_cases h3:C.2=0;rotate_left;have z3:(C.2 !=0)=true:=bne_iff_ne.2 h3;rw[if_pos h3];simp-dsimp only[go_sem,z3]
 try rfl
 have z3:(C.2 !=0)=false:=by rw[h3];rfl
 rw[if_neg (fun e=>e h3),hlv];generalize hT:tabF (fun i=>W0c (v.getD i default) C.1 (u.getD i default) p) 0 n []=T;simp-dsimp only[go_sem,z3];refine J4x ?_;refine Z0j 12 3 ?_;refine K4w ?_;refine Q0a ?_;simp-dsimp only[go_sem,hlv];refine Q0d ([true,true,true]++rF 8++ [true,true]++rF 34++ [true,true]) 3 1
  (fun c s=> ∃(i:Nat) (o:List Nm),c=n-i/\i<=n/\o.length=i/\T=tabF (fun i=>W0c (v.getD i default) C.1 (u.getD i default) p) i (n-i) o/\
   s=⟨[.sl .no (Q0t v),.sl .no (Q0t u),.sc (.int .i64 p)]++jk 8++ [.lp 2 0,.sl (.own 0) (Q0t o)]++jk 34++ [.sc (.int .i64 n),.sc (.int .i64 (i:Nat))]++jk 34,[encN A.1,encN B.1,encN C.1],[(o.length,3)],st'⟩) n ?_ ?_
 refine K4w ?_;exact⟨0,[],oG,oG,rfl,hT.symm,rfl⟩;rintro c s ⟨i,o,rfl,hi,ho,hr,rfl⟩;refine K4a (fun h=> ?_) (fun h=> ?_);rotate_left;have hge:i=n:=(oF h);subst hge;rw[K0q] at hr;rw[hr];refine K4w ?_;refine U0l (rF 12++ [true]) (Q0a ?_);exact K4v;have hlt:i<n:=(oT h);have g1:=Z0d u i oG;have g2:=Z0d v i oG;have e3:=Z0s i oG;rw[J0l _ hlt o] at hr;have hx:W0c (v.getD i default) C.1 (u.getD i default) p=if (Q0r 2 C.1 (u.getD i default) p false).2≠0 then Q0r 2 C.1 (u.getD i default) p false else Q0r 1 (v.getD i default) (Q0r 2 C.1 (u.getD i default) p false).1 p false:=rfl;refine K4w ?_;refine Q0k Z0c 83 (Z2k [0,1,2,3,4,5] (.alt (Z2k [6,7,8,9] (.step 10 [0,4] (.step 11 [] (.step 12 [] (.done))))) (.step 10 [0,4] (Z2k [6,7,8,9,11,12] .done)))) (by decide+kernel) (by simp) ?_;simp-dsimp only[go_sem,hlu,g1];refine⟨oG,And.intro ?_ ?_⟩
 all_goals
  refine(w0v C.1 (u.getD i default) p false _ (Q0o cr) (U0s hu i)).w ?_;rintro st' rfl;have hmr:=Z0k 2 C.1 (u.getD i default) p false;generalize (Q0r 2 C.1 (u.getD i default) p false)=Z at*
  by_cases hm:Z.2=0;rw[if_neg (fun e=>e hm)] at hx;have z4:(Z.2 !=0)=false:=(by rw[hm];rfl);simp-dsimp only[go_sem,z4];refine Q0k Z0c 83 (Z2k [0,1,2,3,4,5,6,7,8,9,10,11] .done) (by decide+kernel) (by simp) ?_;simp-dsimp only[go_sem,hlv,g2];refine⟨oG,?_⟩;refine(w0u (v.getD i default) Z.1 p false _ (U0s hv i) (Q0o hmr)).w ?_;rintro st' rfl;rw[<-hx];generalize hW:W0c (v.getD i default) C.1 (u.getD i default) p=W at*
  by_cases hz:W.2=0;have z5:(W.2 !=0)=false:=(by rw[hz];rfl);rw[if_neg (fun e=>e hz)] at hr;simp-dsimp only[go_sem,z5,e3];exact⟨oG,n-(i+1),oG,i+1,o++ [W.1],rfl,oG,by simp;omega,hr,by simp[Q0t,encN]⟩;have z5:(W.2 !=0)=true:=bne_iff_ne.2 hz;rw[if_pos hz] at hr;rw[hr];simp-dsimp only[go_sem,z5]
  try rfl
  rw[if_pos hm] at hx;have z4:(Z.2 !=0)=true:=bne_iff_ne.2 hm;rw[hx,if_pos hm] at hr;rw[hr];simp-dsimp only[go_sem,z4]
  try rfl
theorem w0w {x:Nm}(h:Q0h x=true): -65536<=x.exp/\x.exp<=65536/\X0m x.w<=4096:=by have:=J0c h;exact⟨this.2.1,this.2.2,this.1⟩
theorem K2x {t:Nm}(h:Q0h t=true):IntKind.i64.wrap (IntKind.i64.wrap (0-t.exp)-(X0m t.w:Nat))=x0j t:=by obtain⟨h1,h2,h3⟩:=w0w h;rw[Q0s (0-t.exp) oG oG,Q0s _ oG oG];unfold x0j;omega
set_option maxHeartbeats 4000000 in
theorem H1l (v:List Nm)(n:Nat)(st:Q0g)(hv:rowR n v)(hn:n<=4):PCalls Tryz.prog 283 [.sl .no (Q0t v)] st
 (fun r st'=>r= .tup [.sl .no (Q0t (G1z v).1),.sc (.int .i64 (G1z v).2)]/\st'=st):=by
 have hlv:=hv.1;refine Q0b none Tryz.func283 rfl fun E=>Q0c (Q0a ?_);unfold G1z topC;rw[hlv];refine K4w ?_;refine J4x ?_;refine J0v 0 ?_;refine K4w ?_;refine Q0a ?_;simp-dsimp only[go_sem,hlv];refine Q0d ([true,false,false,false,true]++rF 7++ [true,true,true]) 1 0
  (fun m s=> ∃i:Nat,m=n-i/\i<=n/\
   s=⟨[.sl .no (Q0t v),.junk,.junk,.junk,.lp 0 0]++jk 7++ [.sl .no (Q0t v),.sc (.int .i64 n),.sc (.int .i64 (i:Nat))]++jk 41,[encN (topG v i)],[],st⟩) n ?_ ?_
 refine K4w ?_;exact⟨0,oG,oG,rfl⟩;rintro m s ⟨i,rfl,hi,rfl⟩;refine K4a (fun h=> ?_) (fun h=> ?_);have hlt:i<n:=(oT h);have g1:=Z0d v i oG;have e3:=Z0s i oG;have ht:topG v (i+1)=if cmpR (absN (v.getD i default)) (topG v i)>0 then absN (v.getD i default) else topG v i:=rfl;have hb:=(J0c (K0n (v.getD i default))).1;simp-dsimp only[go_sem,hlv,g1];refine⟨oG,?_⟩;refine Q0k Z0c 56 (.step 0 [] (.step 2 [] (.step 1 [2] (.step 3 [] (.step 4 [] (.done)))))) (by decide+kernel) (by simp) ?_;refine K4w ?_;refine(J1h (v.getD i default) _ (U0s hv i)).w ?_;rintro st' rfl;refine K4w ?_;have wa:=Q0o (K0n (v.getD i default));have wt:=Q0o (j0n v i);unfold wN at wa wt;refine(J1g (absN (v.getD i default)) (topG v i) _ oG oG).w ?_;rintro st' rfl;refine K4a (fun h2=> ?_) (fun h2=> ?_);have hc:cmpR (absN (v.getD i default)) (topG v i)>0:=q_b h2;rw[if_pos hc] at ht;refine K4w ?_;refine(J1h (v.getD i default) _ (U0s hv i)).w ?_;rintro st' rfl;simp-dsimp only[go_sem,e3];exact⟨n-(i+1),oG,i+1,rfl,oG,by rw[ht]⟩;have hc: ¬cmpR (absN (v.getD i default)) (topG v i)>0:=q_c h2;rw[if_neg hc] at ht;simp-dsimp only[go_sem,e3];exact⟨n-(i+1),oG,i+1,rfl,oG,by rw[ht]⟩;have hge:i=n:=(oF h);subst hge;have tr:=j0n v i;have tw:=Q0o tr;have hsh:=K2x tr;obtain⟨tx1,tx2,tx3⟩:=w0w tr;generalize topG v i=t at*
 unfold wN at tw;refine K4w ?_;refine J4y ?_;refine(V1c t _ oG).w ?_;rintro st' rfl;by_cases h0:t.w= [];have z1:(sgnN (ownN t)==0)=true:=by unfold sgnN ownN;rw[if_pos tr,h0];rfl
 rw[if_pos h0];simp-dsimp only[go_sem,z1]
 try rfl
 have z1:(sgnN (ownN t)==0)=false:=by have hm:valW t.w≠0:=fun e=>h0 ((X0b tr).1 e);unfold sgnN ownN;rw[if_pos tr,if_neg hm];split<;>rfl
 rw[if_neg h0];generalize hT:tabF (fun k=>Y0o (v.getD k default) (x0j t)) 0 i []=T;simp-dsimp only[go_sem,z1];refine Z0j 7 3 ?_;refine K4w ?_;refine Q0d ([false,false,false,false,true,false,false,true]++rF 21++ [true,true,true]) 1 1
  (fun c s=> ∃(k:Nat) (o:List Nm),c=i-k/\k<=i/\o.length=k/\T=tabF (fun k=>Y0o (v.getD k default) (x0j t)) k (i-k) o/\
   s=⟨[.junk,.junk,.junk,.junk,.lp 0 0,.junk,.junk,.sl (.own 0) (Q0t o)]++jk 21++ [.sl .no (Q0t v),.sc (.int .i64 i),.sc (.int .i64 (k:Nat))]++jk 24,[encN t],[(o.length,3)],st'⟩) i ?_ ?_
 simp-dsimp only[go_sem,hlv];exact⟨0,[],oG,oG,rfl,hT.symm,rfl⟩;rintro c s ⟨k,o,rfl,hk,ho,hr,rfl⟩;refine K4a (fun h2=> ?_) (fun h2=> ?_);rotate_left;have hge:k=i:=(oF h2);subst hge;rw[K0q] at hr;rw[hr];refine K4w ?_;refine U0l (rF 7++ [true]) (Q0a ?_);exact K4v;have hlt:k<i:=(oT h2);have g1:=Z0d v k oG;have e3:=Z0s k oG;rw[J0l _ hlt o] at hr;simp-dsimp only[go_sem,hlv,g1];refine⟨oG,?_⟩;refine Q0k Z0c 56 (Z2k [0,1,2,3,4,5] (.alt (.step 6 [0,2] (.step 7 [] (.alt (Z2k [8,9,10,11] (.step 12 [0,2,5] (.step 13 [] (.step 14 [] (.done))))) (.step 12 [0,2,5] (Z2k [8,9,10,11,13,14] .done))))) (.step 12 [0,2,5] (.step 6 [0,2] (Z2k [7,8,9,10,11,13,14] .done))))) (by decide+kernel) (by simp) ?_;refine K4w ?_;refine And.intro ?_ ?_
 all_goals
  refine(U0o t.w _ oG).w ?_;rintro st' rfl;simp-dsimp only[go_sem,hsh]
  try refine And.intro ?_ ?_
 all_goals
  refine(V2s (v.getD k default) (x0j t) _ (U0s hv k)).w ?_;rintro st' rfl;generalize Y0o (v.getD k default) (x0j t)=W at*
  by_cases hz:W.2=0;have z5:(W.2 !=0)=false:=(by rw[hz];rfl);rw[if_neg (fun e=>e hz)] at hr;simp-dsimp only[go_sem,z5,e3];exact⟨oG,i-(k+1),oG,k+1,o++ [W.1],rfl,oG,by simp;omega,hr,by simp[Q0t,encN]⟩;have z5:(W.2 !=0)=true:=bne_iff_ne.2 hz;rw[if_pos hz] at hr;rw[hr];simp-dsimp only[go_sem,z5]
  try rfl
theorem Y1i (v:List Nm)(made:List (List Nm))(n:Nat)(p:Int)(st:Q0g)(hv:rowR n v)(hm: ∀i,i<made.length->rowR n (made.getD i []))(hml:made.length<=4)(hn:n<=4)(hp:Z0b p=true):
 PCalls Tryz.prog 245 [.sl .no (Q0t v),.sl .no (encQ made),.sc (.int .i64 p)] st
 (fun r st'=>r= .tup [.sl .no (Q0t (uprC v made p).1),.sc (.int .i64 (uprC v made p).2)]/\st'=st):=by
 refine Q0b none Tryz.func245 rfl fun E=>Q0a ?_;unfold uprC;generalize hT:uprG made p 0 made.length v=T;refine K4w ?_;refine Q0d ([true,false,true]++rF 9++ [true,true,true]) 0 0
  (fun m s=> ∃(i:Nat) (w:List Nm),m=made.length-i/\i<=made.length/\rowR n w/\T=uprG made p i (made.length-i) w/\
   s=⟨[.sl .no (Q0t w),.junk,.sc (.int .i64 p)]++jk 9++ [.sl .no (encQ made),.sc (.int .i64 made.length),.sc (.int .i64 (i:Nat))]++jk 19,[],[],st⟩) made.length ?_ ?_
 refine K4w ?_;exact⟨0,v,oG,oG,hv,hT.symm,rfl⟩;rintro m s ⟨i,w,rfl,hi,hw,hr,rfl⟩;refine K4a (fun h=> ?_) (fun h=> ?_);rotate_left;have hge:i=made.length:=(oF h);subst hge;rw[Z2b] at hr;rw[hr,if_neg (fun e=>e rfl)];refine K4w ?_;refine J4y ?_;refine(H1l w n _ hw hn).w ?_;rintro st' rfl;exact K4v;have hlt:i<made.length:=(oT h);have g1:=X0z made i hlt;have e3:=Z0s i oG;rw[z1q made p hlt w] at hr;simp-dsimp only[go_sem,g1];refine⟨oG,?_⟩;refine(w1v w (made.getD i []) n p _ hw (hm i hlt) hn hp).w ?_;rintro st' rfl;have hrow:=V1j (u:=made.getD i []) (p:=p) hw;generalize k0n w (made.getD i []) p=Z at*
 by_cases hz:Z.2=0;have z1:(Z.2 !=0)=false:=(by rw[hz];rfl);rw[if_neg (fun e=>e hz)] at hr;simp-dsimp only[go_sem,z1,e3];exact⟨made.length-(i+1),oG,i+1,Z.1,rfl,oG,hrow hz,hr,rfl⟩;have z1:(Z.2 !=0)=true:=bne_iff_ne.2 hz;rw[if_pos hz] at hr;rw[hr,if_pos hz];simp-dsimp only[go_sem,z1]
 try rfl
end Go.Pv
end
