/- Parts of the walk: M104, M105, M107, M108, M106, M109, M110, N177, N178, N179. -/
import Derived.Test.YtldalepagmhnmaaGreatDoorZFF
set_option linter.unusedVariables false
set_option linter.unusedSimpArgs false
section
namespace Go.Pv
def dotX (u v:List Nm)(p:Int)(i:Nat)(acc:Nm):Nm×Int:=
 if (Q0t 2 (u.getD i default) (v.getD i default) p false).2=0/\0<i then Q0t 0 acc (Q0t 2 (u.getD i default) (v.getD i default) p false).1 p false else Q0t 2 (u.getD i default) (v.getD i default) p false
def dotG (u v:List Nm)(p:Int):Nat->Nat->Nm->Nm×Int
 | _,0,acc=>(acc,0)
 | i,k+1,acc=>if (dotX u v p i acc).2≠0 then(default,(dotX u v p i acc).2) else dotG u v p (i+1) k (dotX u v p i acc).1
theorem v1r (u v:List Nm)(p:Int){i n:Nat}(h:i<n)(acc:Nm):dotG u v p i (n-i) acc=if (dotX u v p i acc).2≠0 then(default,(dotX u v p i acc).2) else dotG u v p (i+1) (n-(i+1)) (dotX u v p i acc).1:=by rw[show n-i=(n-(i+1))+1 from oG,dotG]
theorem K2s (u v:List Nm)(p:Int)(n:Nat)(acc:Nm):dotG u v p n (n-n) acc=(acc,0):=by rw[Nat.sub_self];rfl
def dotC (u v:List Nm)(p:Int):Nm×Int:=dotG u v p 0 u.length default
theorem k0s (u v:List Nm)(p:Int)(i:Nat)(acc:Nm):Q0h (dotX u v p i acc).1=true:=by unfold dotX;split<;>exact Z0l _ _ _ _ _
theorem G1y (u v:List Nm)(p:Int): ∀(k i:Nat) (acc:Nm),Q0h acc=true->Q0h (dotG u v p i k acc).1=true
 | 0,_,_,h=>h
 | k+1,i,acc,h=>by unfold dotG;split;rfl;exact G1y u v p k _ _ (k0s _ _ _ _ _)
theorem k0t (u v:List Nm)(p:Int):Q0h (dotC u v p).1=true:=G1y _ _ _ _ _ _ rfl
def rowR (n:Nat)(v:List Nm):Prop:=v.length=n/\ ∀c∈v,Q0h c=true
theorem rowR.at {n:Nat}{v:List Nm}(h:rowR n v)(i:Nat):Q0h (v.getD i default)=true:=by by_cases hi:i<v.length;exact h.2 _ (Q0r _ _ _ hi);rw[q_a,List.getElem?_eq_none oG];rfl
theorem w3u {u v:List Nm}{n m:Nat}{p:Int}(hu:rowR n u)(hv:rowR m v)(hp:Z0c p=true)(i:Nat){acc:Nm}(ha:Q0h acc=true):e02 (dotX u v p i acc).2:=by unfold dotX;split;exact k0m ha (Z0l _ _ _ _ _) hp;exact k0m (hu.at i) (hv.at i) hp
theorem Y3r {u v:List Nm}{n m:Nat}{p:Int}(hu:rowR n u)(hv:rowR m v)(hp:Z0c p=true): ∀(k i:Nat) (acc:Nm),Q0h acc=true->e02 (dotG u v p i k acc).2
 | 0,_,_,_=> .inl rfl
 | k+1,i,acc,h=>by unfold dotG;split;exact w3u hu hv hp i h;exact Y3r hu hv hp k _ _ (k0s _ _ _ _ _)
theorem Y3s {u v:List Nm}{n m:Nat}{p:Int}(hu:rowR n u)(hv:rowR m v)(hp:Z0c p=true):e02 (dotC u v p).2:=Y3r hu hv hp _ _ _ rfl
def v0b (v u:List Nm)(p:Int):List Nm×Int:=
 if (dotC u v p).2≠0 then([],(dotC u v p).2) else if (dotC u u p).2≠0 then([],(dotC u u p).2)
 else if (W0t (dotC u v p).1 (dotC u u p).1 p false).2≠0 then([],(W0t (dotC u v p).1 (dotC u u p).1 p false).2)
 else tabF (fun i=>W0e (v.getD i default) (W0t (dotC u v p).1 (dotC u u p).1 p false).1 (u.getD i default) p) 0 v.length []
theorem x1n {G:Nat->Nm×Int}{n:Nat}(hg: ∀i,Q0h (G i).1=true)(h:(tabF G 0 n []).2=0):rowR n (tabF G 0 n []).1:=
 ⟨(G0g h).1,z0q (fun x=>Q0h x=true) n 0 [] (fun j _ _=>hg j) (fun x hx=>by cases hx)⟩
theorem V1w {v u:List Nm}{n:Nat}{p:Int}(hv:rowR n v)(h:(v0b v u p).2=0):rowR n (v0b v u p).1:=by unfold v0b at h⊢;split at h;rename_i c;exact absurd h c;rename_i c;rw[if_neg c];split at h;rename_i c;exact absurd h c;rename_i c;rw[if_neg c];split at h;rename_i c;exact absurd h c;rename_i c;rw[if_neg c];have:=x1n (fun i=>Y1m _ _ _ _) h;rwa [hv.1] at this⊢
def topG (v:List Nm):Nat->Nm
 | 0=>default
 | i+1=>if cmpR (absN (v.getD i default)) (topG v i)>0 then absN (v.getD i default) else topG v i
theorem k0f (v:List Nm): ∀i,Q0h (topG v i)=true
 | 0=>rfl
 | i+1=>by unfold topG;split;exact J0a _;exact k0f v i
def topC (v:List Nm):Nm:=topG v v.length
def j0b (t:Nm):Int:= -t.exp-(X0o t.w:Nat)
def H1t (v:List Nm):List Nm×Int:=if (topC v).w= [] then([],3) else tabF (fun i=>Y0x (v.getD i default) (j0b (topC v))) 0 v.length []
theorem H2e {v:List Nm}{n:Nat}(hv:rowR n v)(h:(H1t v).2=0):rowR n (H1t v).1:=by unfold H1t at h⊢;split at h;exact absurd h (by decide);rename_i c;rw[if_neg c];have:=x1n (fun i=>x1x _ _) h;rwa [hv.1] at this⊢
def uprG (made:List (List Nm))(p:Int):Nat->Nat->List Nm->List Nm×Int
 | _,0,v=>(v,0)
 | i,k+1,v=>if (v0b v (made.getD i []) p).2≠0 then([],(v0b v (made.getD i []) p).2) else uprG made p (i+1) k (v0b v (made.getD i []) p).1
theorem x1k (made:List (List Nm))(p:Int){i n:Nat}(h:i<n)(v:List Nm):uprG made p i (n-i) v=if (v0b v (made.getD i []) p).2≠0 then([],(v0b v (made.getD i []) p).2) else uprG made p (i+1) (n-(i+1)) (v0b v (made.getD i []) p).1:=by rw[show n-i=(n-(i+1))+1 from oG,uprG]
theorem X2g (made:List (List Nm))(p:Int)(n:Nat)(v:List Nm):uprG made p n (n-n) v=(v,0):=by rw[Nat.sub_self];rfl
theorem X2f {made:List (List Nm)}{n:Nat}{p:Int} : ∀(k i:Nat) (v:List Nm),rowR n v->(uprG made p i k v).2=0->rowR n (uprG made p i k v).1
 | 0,_,_,h,_=>h
 | k+1,i,v,hv,h=>by unfold uprG at h⊢;split at h;rename_i c;exact absurd h c;rename_i c;rw[if_neg c];exact X2f k _ _ (V1w hv (Classical.not_not.1 c)) h
def uprC (v:List Nm)(made:List (List Nm))(p:Int):List Nm×Int:=
 if (uprG made p 0 made.length v).2≠0 then([],(uprG made p 0 made.length v).2) else H1t (uprG made p 0 made.length v).1
theorem H1k {v:List Nm}{made:List (List Nm)}{n:Nat}{p:Int}(hv:rowR n v)(h:(uprC v made p).2=0):rowR n (uprC v made p).1:=by unfold uprC at h⊢;split at h;rename_i c;exact absurd h c;rename_i c;rw[if_neg c];exact H2e (X2f _ _ _ hv (Classical.not_not.1 c)) h
def colC (a:List (List Nm))(j:Nat):List Nm:=(List.range a.length).map fun i=>entQ a i j
theorem z1k {a:List (List Nm)}(h:X0r a=true){j:Nat}(hj:j<a.length):rowR a.length (colC a j):=by refine⟨by simp[colC],fun c hc=> ?_⟩;simp only[colC,List.mem_map] at hc;obtain⟨i,hi,rfl⟩:=hc;rw[List.mem_range] at hi;have:=(rightQ_iff.1 h).1 i hi;unfold X0c at this;rw[q_i] at this;refine(Y0s _ Q0h).1 this.1 j ?_;have:=q_b this.2;omega
def q0s (a:List (List Nm))(p:Int):Nat->Nat->List (List Nm)->List (List Nm)×Int
 | _,0,made=>(made,0)
 | j,k+1,made=>if (uprC (colC a j) made p).2≠0 then([],(uprC (colC a j) made p).2) else q0s a p (j+1) k (made++ [(uprC (colC a j) made p).1])
theorem H1a (a:List (List Nm))(p:Int){i n:Nat}(h:i<n)(made:List (List Nm)):q0s a p i (n-i) made=if (uprC (colC a i) made p).2≠0 then([],(uprC (colC a i) made p).2) else q0s a p (i+1) (n-(i+1)) (made++ [(uprC (colC a i) made p).1]):=by rw[show n-i=(n-(i+1))+1 from oG,q0s]
theorem w1c (a:List (List Nm))(p:Int)(n:Nat)(made:List (List Nm)):q0s a p n (n-n) made=(made,0):=by rw[Nat.sub_self];rfl
def x0r (n:Nat)(cols:List (List Nm)):List (List Nm):=(List.range n).map fun i=>cols.map fun c=>c.getD i default
def W0x (a:List (List Nm))(p:Int):List (List Nm)×Int:=
 if X0r a=true/\Z0c p=true then(if (q0s a p 0 a.length []).2≠0 then([],(q0s a p 0 a.length []).2) else(x0r a.length (q0s a p 0 a.length []).1,0)) else([],1)
theorem w1b {a:List (List Nm)}{p:Int}(ha:X0r a=true): ∀(k j:Nat) (made:List (List Nm)),j+k<=a.length->made.length=j->(∀c∈made,rowR a.length c)->(q0s a p j k made).2=0->(q0s a p j k made).1.length=j+k/\ ∀c∈(q0s a p j k made).1,rowR a.length c
 | 0,j,made,_,hl,hm,_=>⟨hl,hm⟩
 | k+1,j,made,hj,hl,hm,h=>by unfold q0s at h⊢;split at h;rename_i c;exact absurd h c;rename_i c;rw[if_neg c];have h0:=Classical.not_not.1 c;have:=w1b ha k (j+1) (made++ [(uprC (colC a j) made p).1]) oG (by simp;omega) (fun x hx=>by rcases List.mem_append.1 hx with hx | hx;exact hm x hx;rw[List.mem_singleton.1 hx];exact H1k (z1k ha oG) h0) h;exact⟨by rw[this.1];omega,this.2⟩
theorem K2w {a:List (List Nm)}{p:Int}(h:(W0x a p).2=0):X0r a=true/\Z0c p=true/\(q0s a p 0 a.length []).2=0/\(W0x a p).1=x0r a.length (q0s a p 0 a.length []).1:=by unfold W0x at h⊢;split at h;rename_i c;rw[if_pos c];split at h;rename_i c2;exact absurd h c2;rename_i c2;rw[if_neg c2];exact⟨c.1,c.2,Classical.not_not.1 c2,rfl⟩;exact absurd h (by decide)
theorem K2v {a:List (List Nm)}{p:Int}(h:(W0x a p).2=0):sqR a.length (W0x a p).1:=by obtain⟨h1,h2,h3,h4⟩:=K2w h;rw[h4];obtain⟨q1,q2⟩:=w1b h1 a.length 0 [] oG rfl (fun c hc=>by cases hc) h3;refine⟨by simp[x0r],fun r hr=> ?_⟩;simp only[x0r,List.mem_map] at hr;obtain⟨i,_,rfl⟩:=hr;refine⟨by simp[q1],fun c hc=> ?_⟩;simp only[List.mem_map] at hc;obtain⟨l,hl,rfl⟩:=hc;exact(q2 l hl).at i
theorem H2g (n:Nat)(cols:List (List Nm)){i:Nat}(hi:i<n):(x0r n cols).getD i []=cols.map fun c=>c.getD i default:=by simp[x0r,q_a,hi]
def magX (x:Nm):Int:=x.exp+(X0o x.w:Nat)
def Y0k (v:List Nm):Nat->Int×Bool
 | 0=>(0,false)
 | i+1=>if (v.getD i default).w= [] then Y0k v i else if (Y0k v i).2=false\/magX (v.getD i default)>(Y0k v i).1 then(magX (v.getD i default),true) else Y0k v i
theorem G3w {s e f:Int}(hs:0<=s)(h:e<=f):qM s e<=qM s f:=by rw[j1w s f e h,qM_le];have h2:(2:Int)^(f-e).toNat=((2^(f-e).toNat:Nat):Int):=(by simp);have h1:(1:Int)<=2^(f-e).toNat:=(by rw[h2];exact Int.ofNat_le.2 Nat.one_le_two_pow);have:=Int.mul_le_mul_of_nonneg_left h1 hs;rwa [Int.mul_one] at this
theorem x2c {a b:Nm}(ha:Q0h a=true)(hb:Q0h b=true)(na:a.neg=false)(nb:b.neg=false)(h0:a.w≠ [])(h:qN a<=qN b):magX a<=magX b:=by
 refine Int.not_lt.1 fun hlt=> ?_;have hm:valW a.w≠0:=fun e=>h0 ((X0f ha).1 e);have h1:qM ((2^(X0o a.w-1):Nat):Int) a.exp<=qN a:=by unfold qN mant;rw[na,if_neg (by decide),qM_le];exact Int.ofNat_le.2 (z0x hm)
 have h2:qN b<qM ((2^X0o b.w:Nat):Int) b.exp:=by unfold qN mant;rw[nb,if_neg (by decide),qM_lt];exact Int.ofNat_lt.2 (Z0h _)
 have e: ∀(k:Nat) (x:Int),qM ((2^k:Nat):Int) x=qM 1 (x+k):=fun k x=>by rw[<-H0v 1 k x,Int.one_mul];rfl
 rw[e] at h1 h2;have hp:=U0k hm;have h3:qM 1 (b.exp+(X0o b.w:Nat))<=qM 1 (a.exp+(X0o a.w-1:Nat)):=G3w (by decide) (by unfold magX X0o at hlt;unfold X0o;omega);grind
theorem Z2y {x:Nm}(h:Q0h x=true):absN x=⟨false,x.exp,x.w⟩:=if_pos h
theorem q1d {x:Nm}(h:x.w= []):qN x=0:=by unfold qN mant;rw[h];show qM (if x.neg=true then -((valW []:Nat):Int) else((valW []:Nat):Int)) _=0;rw[show valW []=0 from rfl];split<;>exact J0v _
theorem q2d {x:Nm}(h:Q0h x=true):0<=qN (absN x):=by have:=q1u x;unfold qN;rw[<-J0v (absN x).exp,qM_le];exact this
theorem G2h (v:List Nm): ∀i,(topG v i).neg=false/\0<=qN (topG v i)
 | 0=>⟨rfl,by show 0<=qN (default:Nm);rw[q1d rfl];exact Rat.le_refl⟩
 | i+1=>by unfold topG;split;rename_i h;have hr:Q0h (absN (v.getD i default))=true:=J0a _;by_cases hx:Q0h (v.getD i default)=true;exact⟨by rw[Z2y hx],q2d hx⟩;rw[show absN (v.getD i default)=default from if_neg hx];exact⟨rfl,by rw[q1d rfl];exact Rat.le_refl⟩;exact G2h v i
theorem V1r {v:List Nm}(hv: ∀i,Q0h (v.getD i default)=true): ∀i,((Y0k v i).2=false->(topG v i).w= []/\(Y0k v i).1=0)/\((Y0k v i).2=true->(topG v i).w≠ []/\(Y0k v i).1=magX (topG v i))
 | 0=>⟨fun _=>⟨rfl,rfl⟩,fun h=>by cases h⟩
 | i+1=>by
  obtain⟨ih1,ih2⟩:=V1r hv i;obtain⟨t1,t2⟩:=G2h v i;have tr:=k0f v i;have hx:=hv i;have ea:=Z2y hx;have ar:=J0a (v.getD i default);have a0:=q2d hx;unfold Y0k topG;rw[z3v ar tr];by_cases hw:(v.getD i default).w= [];rw[if_pos hw];have: ¬cmpN (absN (v.getD i default)) (topG v i)>0:=fun h=>by have:=cmpN_gt.1 h;have e0:qN (absN (v.getD i default))=0:=q1d (by rw[ea];exact hw);rw[e0] at this;grind
  rw[if_neg this];exact⟨ih1,ih2⟩;rw[if_neg hw];have hwa:(absN (v.getD i default)).w≠ []:=(by rw[ea];exact hw);have em:magX (absN (v.getD i default))=magX (v.getD i default):=(by rw[ea];rfl);have hpos:0<qN (absN (v.getD i default)):=by have hm:valW (v.getD i default).w≠0:=fun e=>hw ((X0f hx).1 e);rw[ea];unfold qN mant;rw[if_neg Bool.false_ne_true,<-J0v (v.getD i default).exp,qM_lt];show(0:Int)<(valW (v.getD i default).w:Nat);omega
  by_cases hc:cmpN (absN (v.getD i default)) (topG v i)>0;rw[if_pos hc];cases hb:(Y0k v i).2 with
  | false=>
   rw[if_pos (.inl rfl)];exact⟨fun h=>(by cases h),fun _=>⟨hwa,em.symm⟩⟩
  | true=>
   obtain⟨q1,q2⟩:=ih2 hb;have hle:=x2c tr ar t1 (by rw[ea]) q1 (by have:=cmpN_gt.1 hc;grind);rw[em] at hle;by_cases hg:magX (v.getD i default)>(Y0k v i).1;rw[if_pos (.inr hg)];exact⟨fun h=>(by cases h),fun _=>⟨hwa,em.symm⟩⟩;rw[if_neg (fun h=>h.elim (fun h=>by cases h) hg)];exact⟨fun h=>(by rw[hb] at h;cases h),fun _=>⟨hwa,by rw[em];omega⟩⟩
  rw[if_neg hc];have hle:qN (absN (v.getD i default))<=qN (topG v i):=Rat.not_lt.1 fun h=>hc (cmpN_gt.2 h);cases hb:(Y0k v i).2 with
  | false=>
   have e0:=q1d (ih1 hb).1;rw[e0] at hle;grind
  | true=>
   obtain⟨q1,q2⟩:=ih2 hb;have:=x2c ar tr (by rw[ea]) t1 hwa hle;rw[em] at this;rw[if_neg (fun h=>h.elim (fun h=>by cases h) fun h=>oG)];exact⟨fun h=>(by rw[hb] at h;cases h),fun _=>⟨q1,q2⟩⟩
def luR (L U:Nat)(v:List Nm):Prop:= ∀i,luQ L U (qN (v.getD i default))
theorem luR.mono {L U L' U':Nat}{v:List Nm}(h:luR L U v)(hl:L<=L')(hu:U<=U'):luR L' U' v:=fun i=>(h i).mono hl hu
def J1h (f:Fm)(p:Int):List Ivl×Int:=
 if X0m f=true/\Z0c p=true then(if (vecM (ofM f.a) f.r p).2≠0 then([],(vecM (ofM f.a) f.r p).2) else opB 0 (ofB f.m) (vecM (ofM f.a) f.r p).1 p) else([],1)
def ownF (c:Mx)(p:Int):(List (List Nm)×Mx)×Int:=
 if (midM c p).2≠0 then(([],[]),(midM c p).2)
 else if (W0x (midM c p).1 p).2≠0 then(([],[]),(W0x (midM c p).1 p).2)
 else(((W0x (midM c p).1 p).1,(V0o (W0x (midM c p).1 p).1 p).1),(V0o (W0x (midM c p).1 p).1 p).2)
def Y0j (c:Mx)(p:Int):(List (List Nm)×Mx)×Int:=if (ownF c p).2=3 then((oneQ c.length,idM c.length),0) else ownF c p
def H1x (v c:Mx)(r z:List Ivl)(p:Int):List Ivl×Int:=
 if (mulM v c p).2≠0 then([],(mulM v c p).2)
 else if (vecM (mulM v c p).1 r p).2≠0 then([],(vecM (mulM v c p).1 r p).2)
 else if (vecM v z p).2≠0 then([],(vecM v z p).2)
 else opB 0 (vecM (mulM v c p).1 r p).1 (vecM v z p).1 p
def z2i (f:Fm)(m:List Nm)(c:Mx)(t:List (List Nm)×Mx)(d:List Ivl)(p:Int):Fm×Int:=
 if (H1x t.2 c f.r d p).2≠0 then(default,(H1x t.2 c f.r d p).2) else(⟨m,t.1,(H1x t.2 c f.r d p).1⟩,0)
def z2k (f:Fm)(z:List Ivl)(m:List Nm)(c:Mx)(t:List (List Nm)×Mx)(p:Int):Fm×Int:=
 if (opB 1 z (ofB m) p).2≠0 then(default,(opB 1 z (ofB m) p).2) else z2i f m c t (opB 1 z (ofB m) p).1 p
def Z3j (f:Fm)(z:List Ivl)(m:List Nm)(c:Mx)(p:Int):Fm×Int:=
 if (Y0j c p).2≠0 then(default,(Y0j c p).2) else z2k f z m c (Y0j c p).1 p
def Z3m (f:Fm)(z:List Ivl)(s:Mx)(m:List Nm)(p:Int):Fm×Int:=
 if (mulM s (ofM f.a) p).2≠0 then(default,(mulM s (ofM f.a) p).2) else Z3j f z m (mulM s (ofM f.a) p).1 p
def z2j (f:Fm)(z:List Ivl)(s:Mx)(p:Int):Fm×Int:=
 if (midB z p).2≠0 then(default,(midB z p).2) else Z3m f z s (midB z p).1 p
def J2w (f:Fm)(z:List Ivl)(s:Mx)(p:Int):Bool:=X0m f&&rightB z&&rightM s&&decide (z.length=f.m.length)&&decide (s.length=f.m.length)&&Z0c p
def x0l (f:Fm)(z:List Ivl)(s:Mx)(p:Int):Fm×Int:=if J2w f z s p=true then z2j f z s p else(default,1)
theorem H3w {a:Ivl}{p:Int}(ha:Q0w a=true)(hp:Z0c p=true):e02 (midI a p).2:=by unfold midI;rw[if_pos ⟨ha,hp⟩];split;exact .inl rfl;exact Q2e _
theorem v1n {α β:Type}[Inhabited α](F:Nat->α->β×Int)(l:List α)(h: ∀i,i<l.length->e02 (F i (l.getD i default)).2):e02 (V0g F 0 l []).2:=by rw[W0c];exact z1g _ _ _ fun j _ hj=>h j oG
theorem H3y {b:List Ivl}{p:Int}(hb:rightB b=true)(hp:Z0c p=true):e02 (midB b p).2:=by unfold midB;rw[if_pos ⟨hb,hp⟩];exact v1n _ _ fun i hi=>H3w (q0y hb hi) hp
theorem v3e {k:Nat}{a b:List Ivl}{p:Int}(ha:rightB a=true)(hb:rightB b=true)(hl:a.length=b.length)(hp:Z0c p=true):e02 (opB k a b p).2:=by unfold opB;rw[if_pos ⟨ha,hb,hl,hp⟩];exact v1n _ _ fun i hi=>q2x (q0y ha hi) (q0y hb oG) hp
theorem U3m {m:Mx}{b:List Ivl}{p:Int}(hm:rightM m=true)(hb:rightB b=true)(hl:m.length=b.length)(hp:Z0c p=true):e02 (vecM m b p).2:=by unfold vecM;rw[if_pos ⟨hm,hb,hl,hp⟩];exact z1g _ _ _ fun i _ hi=>Z2e hp _ fun k hk=>⟨U0u hm oG oG,q0y hb hk⟩
theorem v3o {c:Mx}{p:Int} :(midM c p).2≠3:=by unfold midM;split;rename_i h;have:e02 (tabF (fun i=>midB (c.getD i []) p) 0 c.length []).2:=z1g _ _ _ fun i _ hi=>H3y (Z0y h.1 oG).2 h.2;rcases this with e | e<;>rw[e]<;>decide;decide
theorem w2q {m:Mx}{b:List Ivl}{p:Int}(h:(vecM m b p).2=0):(rightM m=true/\rightB b=true/\m.length=b.length/\Z0c p=true)/\(vecM m b p).1.length=m.length/\
 ∀i,i<m.length->(dotF (atM m i) (fun k=>b.getD k default) p m.length).2=0/\(vecM m b p).1.getD i default=(dotF (atM m i) (fun k=>b.getD k default) p m.length).1:=by
 unfold vecM at h⊢;split at h;rename_i c;rw[if_pos c];obtain⟨t1,t2,t3⟩:=G0g h;refine⟨c,t1,fun i hi=> ?_⟩;have:=t2 i hi;have:=t3 i hi;simp only[<-c.2.2.1] at*
 exact⟨by assumption,by assumption⟩;exact absurd h (by decide)
theorem U3l {m:Mx}{b:List Ivl}{p:Int}(h:(vecM m b p).2=0):rightB (vecM m b p).1=true/\(vecM m b p).1.length=m.length:=by obtain⟨⟨r1,r2,r3,r4⟩,v1,v2⟩:=w2q h;have:=Z0u r1;refine⟨U0v (fun i hi=> ?_) oG oG,v1⟩;rw[(v2 i oG).2];exact Y0i _ _ _ _
theorem k1g {f:Fm}{z:List Ivl}{s:Mx}{p:Int}(h:J2w f z s p=true):X0m f=true/\rightB z=true/\rightM s=true/\z.length=f.m.length/\s.length=f.m.length/\Z0c p=true:=by unfold J2w at h;simp only[q_i,decide_eq_true_eq] at h;exact⟨h.1.1.1.1.1,h.1.1.1.1.2,h.1.1.1.2,h.1.1.2,h.1.2,h.2⟩
set_option maxRecDepth 20000
def bdK (n:Nat)(B:Nat->Nat)(D U:Nat)(l:List Nm):Prop:= ∀j,j<n->luQ (B j+D) U (qN (l.getD j default))
theorem bdK.mono {n D U D' U':Nat}{B:Nat->Nat}{l:List Nm}(h:bdK n B D U l)(hd:D<=D')(hu:U<=U'):bdK n B D' U' l:=fun j hj=>(h j hj).mono oG hu
set_option maxRecDepth 100000
open Go.Proofs
set_option maxHeartbeats 4000000 in
theorem q1g (a:List (List Nm))(st:Q0f)(hw:wQs a):PR 244 [.sl .no (encQ a)] st (.sc (.bool (X0r a))):=by
 obtain⟨hl,hw⟩:=hw;refine W4y Tryz.func244 fun E=> ?_;refine Q0e [true,false,false,false,false,false,false,true,true,true] 0 0 (fun n s=> ∃i,n=a.length-i/\i<=a.length/\(∀j,j<i->X0c (a.getD j []) a.length=true)/\s=⟨[.sl .no (encQ a),.junk,.junk,.junk,.junk,.junk,.junk,.sl .no (encQ a),.sc (.int .i64 a.length),.sc (.int .i64 (i:Nat))]++jk 27,[],[],st⟩) a.length ?_ ?_;refine Y4w ?_;exact⟨0,oG,oG,fun j hj=>oG,rfl⟩;rintro n s ⟨i,rfl,hi,hr,rfl⟩;refine W4z (fun h=> ?_) (fun h=> ?_);have hlt:i<a.length:=(oT h);have e1:=J0d a i hlt;have e3:=Z0x i oG;have wi:=hw i hlt;have wil:=wi.1;simp-dsimp only[go_sem,e1];refine⟨oG,?_⟩;refine ck (fun h2=> ?_) (fun h2=> ?_);have hn:=x0m h2;refine Y4w ?_;have:X0r a=false:=Bool.eq_false_iff.2 fun e=>hn (by have:=(rightQ_iff.1 e).1 i hlt;unfold X0c at this;simp at this;exact this.2);rw[this];have hn:=H0b h2;refine Y4w ?_;refine Q0e ([true,false,false,false,false,false,false,true,true,true]++rF 8++ [true,true,true]) 0 0 (fun n s=> ∃k,n=(a.getD i []).length-k/\k<=(a.getD i []).length/\(∀j,j<k->Q0h ((a.getD i []).getD j default)=true)/\s=⟨[.sl .no (encQ a),.junk,.junk,.junk,.junk,.junk,.junk,.sl .no (encQ a),.sc (.int .i64 a.length),.sc (.int .i64 (i:Nat))]++jk 8++ [.sl .no (Q0u (a.getD i [])),.sc (.int .i64 (a.getD i []).length),.sc (.int .i64 (k:Nat))]++jk 16,[],[],st⟩) (a.getD i []).length ?_ ?_;refine Y4w ?_;exact⟨0,oG,oG,fun j hj=>oG,rfl⟩;rintro n s ⟨k,rfl,hk,hrk,rfl⟩;refine W4z (fun h5=> ?_) (fun h5=> ?_);have hklt:k<(a.getD i []).length:=(oT h5);have e2:=Z0k (a.getD i []) k hklt;have e4:=Z0x k oG;have wk:=wi.2 k hklt;unfold wN at wk;simp-dsimp only[go_sem,e2];refine⟨oG,?_⟩;refine(X0p _ st oG).Q ?_;refine ck (fun h6=> ?_) (fun h6=> ?_);have hf:Q0h ((a.getD i []).getD k default)=false:=(by simpa using h6);refine Y4w ?_;have:X0r a=false:=Bool.eq_false_iff.2 fun e=>by have:=(rightQ_iff.1 e).1 i hlt;unfold X0c at this;rw[q_i] at this;rw[(Y0s _ Q0h).1 this.1 k hklt] at hf;cases hf
 rw[this];have ht:Q0h ((a.getD i []).getD k default)=true:=(by simpa using h6);simp-dsimp only[go_sem,e4];refine⟨(a.getD i []).length-(k+1),oG,k+1,rfl,oG,fun j hj=> ?_,rfl⟩;by_cases e:j=k;subst e;exact ht;exact hrk j oG;have hge:k=(a.getD i []).length:=(oF h5);refine Y4w ?_;refine Q0a ?_;simp-dsimp only[go_sem,e3];refine⟨a.length-(i+1),oG,i+1,rfl,oG,fun j hj=> ?_,rfl⟩;by_cases e:j=i;subst e;unfold X0c;rw[q_i];exact⟨(Y0s _ Q0h).2 fun b hb=>hrk b oG,q_h hn⟩;exact hr j oG;have hge:i=a.length:=(oF h);subst hge;refine Y4w ?_;refine W4u ?_;have fin:X0r a=(decide ((a.length:Int)>=1)&&decide ((a.length:Int)<=4)):=by rw[Bool.eq_iff_iff,rightQ_iff,q_i,decide_eq_true_iff,decide_eq_true_iff];exact⟨fun h=>⟨oG,oG⟩,fun h=>⟨hr,oG,oG⟩⟩
 rw[fin];refine gkT (fun h1=> ?_) (fun h1=> ?_);simp-dsimp only[go_sem,h1]
 try rfl
 simp-dsimp only[go_sem,h1]
 try rfl
theorem G0c {n:Nat}{v:List Nm}(h:rowR n v): ∀i,wN (v.getD i default):=fun i=>Q0o (h.at i)
set_option maxHeartbeats 8000000 in
theorem U1z (u v:List Nm)(n:Nat)(p:Int)(st:Q0f)(hu:rowR n u)(hv:rowR n v)(hn:n<=4):PCalls Tryz.prog 309 [.sl .no (Q0u u),.sl .no (Q0u v),.sc (.int .i64 p)] st
 (fun r st'=>r= .tup [.agg (encN (dotC u v p).1),.sc (.int .i64 (dotC u v p).2)]/\st'=st):=by
 have hlu:=hu.1;have hlv:=hv.1;refine Q0b none Tryz.func309 rfl fun E=>Q0a ?_;unfold dotC;rw[hlu];generalize hT:dotG u v p 0 n default=T;simp-dsimp only[go_sem,hlu];refine J0q 1 ?_;refine Y4w ?_;refine Q0e [true,true,true,false,false,false,true,false,true,false,false,false,false,true,true] 2 0
  (fun m s=> ∃(i:Nat) (acc:Nm),m=n-i/\i<=n/\Q0h acc=true/\(i=0->acc=default)/\T=dotG u v p i (n-i) acc/\
   s=⟨[.sl .no (Q0u u),.sl .no (Q0u v),.sc (.int .i64 p),.junk,.junk,.junk,.lp 0 0,.junk,.lp 1 0,.junk,.junk,.junk,.junk,.sc (.int .i64 n),.sc (.int .i64 (i:Nat))]++jk 35,
   [[.sc (.bool false),.sc (.int .i64 0),.sl .full []],encN acc],[],st⟩) n ?_ ?_
 refine Y4w ?_;exact⟨0,default,oG,oG,rfl,fun _=>rfl,hT.symm,rfl⟩;rintro m s ⟨i,acc,rfl,hi,har,h00,hr,rfl⟩;refine W4z (fun h=> ?_) (fun h=> ?_);rotate_left;have hge:i=n:=(oF h);subst hge;rw[K2s] at hr;rw[hr];refine Y4w ?_;refine Q0a ?_;exact Y4v;have hlt:i<n:=(oT h);have g1:=Z0k u i oG;have g2:=Z0k v i oG;have e3:=Z0x i oG;rw[v1r u v p hlt acc] at hr;have hx:dotX u v p i acc=if (Q0t 2 (u.getD i default) (v.getD i default) p false).2=0/\0<i then Q0t 0 acc (Q0t 2 (u.getD i default) (v.getD i default) p false).1 p false else Q0t 2 (u.getD i default) (v.getD i default) p false:=rfl;refine Y4w ?_;refine Q0k Z0b 50 (X2p [0,1,2,3,4,5,6,7,8] (.alt (X2p [9,10,11,12] (.step 13 [3,7] (.step 14 [] (.step 15 [] (.done))))) (.step 13 [3,7] (X2p [9,10,11,12,14,15] .done)))) (by decide+kernel) (by simp) ?_;simp-dsimp only[go_sem,hlu,hlv,g1,g2];refine⟨oG,oG,And.intro ?_ ?_⟩
 all_goals
  refine(y0i (u.getD i default) (v.getD i default) p false _ (G0c hu i) (G0c hv i)).w ?_;rintro st' rfl;have hmr:=Z0l 2 (u.getD i default) (v.getD i default) p false;by_cases hm:(Q0t 2 (u.getD i default) (v.getD i default) p false).2=0;by_cases h0:0<i;rw[if_pos ⟨hm,h0⟩] at hx;have z1:((Q0t 2 (u.getD i default) (v.getD i default) p false).2==0)=true:=(by rw[hm];rfl);have z2:decide ((i:Int)>0)=true:=q_h oG;generalize (Q0t 2 (u.getD i default) (v.getD i default) p false)=Z at*
  simp-dsimp only[go_sem,z1,z2];refine(H1v acc Z.1 p false _ (Q0o har) (Q0o hmr)).w ?_;rintro st' rfl;rw[<-hx];rw[<-hx] at*
  by_cases hz:(dotX u v p i acc).2=0;have z3:((dotX u v p i acc).2 !=0)=false:=(by rw[hz];rfl);rw[if_neg (fun e=>e hz)] at hr;simp-dsimp only[go_sem,z3,e3];exact⟨n-(i+1),oG,i+1,_,rfl,oG,k0s _ _ _ _ _,fun e=>oG,hr,rfl⟩;have z3:((dotX u v p i acc).2 !=0)=true:=bne_iff_ne.2 hz;rw[if_pos hz] at hr;rw[hr];simp-dsimp only[go_sem,z3]
  try rfl
  rw[if_neg (fun h=>h0 h.2)] at hx;have z1:((Q0t 2 (u.getD i default) (v.getD i default) p false).2==0)=true:=(by rw[hm];rfl);have z2:decide ((i:Int)>0)=false:=q_g oG;have z3:((Q0t 2 (u.getD i default) (v.getD i default) p false).2 !=0)=false:=(by rw[hm];rfl);rw[hx,if_neg (fun e=>e hm)] at hr;generalize (Q0t 2 (u.getD i default) (v.getD i default) p false)=Z at*
  simp-dsimp only[go_sem,z1,z2,z3,e3];exact⟨n-(i+1),oG,i+1,_,rfl,oG,hmr,fun e=>oG,hr,rfl⟩;rw[if_neg (fun h=>hm h.1)] at hx;have z1:((Q0t 2 (u.getD i default) (v.getD i default) p false).2==0)=false:=(by simpa using hm);have z3:((Q0t 2 (u.getD i default) (v.getD i default) p false).2 !=0)=true:=bne_iff_ne.2 hm;rw[hx,if_pos hm] at hr;rw[hr];generalize (Q0t 2 (u.getD i default) (v.getD i default) p false)=Z at*
  simp-dsimp only[go_sem,z1,z3]
  try rfl
set_option maxHeartbeats 8000000 in
theorem y1z (v u:List Nm)(n:Nat)(p:Int)(st:Q0f)(hv:rowR n v)(hu:rowR n u)(hn:n<=4)(hp:Z0c p=true):PCalls Tryz.prog 282 [.sl .no (Q0u v),.sl .no (Q0u u),.sc (.int .i64 p)] st
 (fun r st'=>r= .tup [.sl .no (Q0u (v0b v u p).1),.sc (.int .i64 (v0b v u p).2)]/\st'=st):=by
 have hlu:=hu.1;have hlv:=hv.1;have ar:=k0t u v p;have br:=k0t u u p;refine Q0b none Tryz.func282 rfl fun E=>Q0d (Q0a ?_);unfold v0b;refine Y4w ?_;refine W4t ?_;refine(U1z u v n p _ hu hv hn).w ?_;rintro st' rfl;generalize dotC u v p=A at*
 refine Y4w ?_;refine Q0d (Q0a ?_);by_cases h1:A.2=0;rotate_left;have z1:(A.2 !=0)=true:=bne_iff_ne.2 h1;rw[if_pos h1];simp-dsimp only[go_sem,z1]
 try rfl
 have z1:(A.2 !=0)=false:=by rw[h1];rfl
 rw[if_neg (fun e=>e h1)];simp-dsimp only[go_sem,z1];refine W4t ?_;refine(U1z u u n p _ hu hu hn).w ?_;rintro st' rfl;generalize dotC u u p=B at*
 refine Y4w ?_;refine Q0d (Q0a ?_);by_cases h2:B.2=0;rotate_left;have z2:(B.2 !=0)=true:=bne_iff_ne.2 h2;rw[if_pos h2];simp-dsimp only[go_sem,z2]
 try rfl
 have z2:(B.2 !=0)=false:=by rw[h2];rfl
 rw[if_neg (fun e=>e h2)];simp-dsimp only[go_sem,z2];refine W4t ?_;refine(j1d A.1 B.1 p false _ ar br hp).w ?_;rintro st' rfl;have cr:=v0r A.1 B.1 p false;generalize W0t A.1 B.1 p false=C at*
 refine Y4w ?_;refine Q0d (Q0a ?_);by_cases h3:C.2=0;rotate_left;have z3:(C.2 !=0)=true:=bne_iff_ne.2 h3;rw[if_pos h3];simp-dsimp only[go_sem,z3]
 try rfl
 have z3:(C.2 !=0)=false:=by rw[h3];rfl
 rw[if_neg (fun e=>e h3),hlv];generalize hT:tabF (fun i=>W0e (v.getD i default) C.1 (u.getD i default) p) 0 n []=T;simp-dsimp only[go_sem,z3];refine W4t ?_;refine Z0d 12 3 ?_;refine Y4w ?_;refine Q0a ?_;simp-dsimp only[go_sem,hlv];refine Q0e ([true,true,true]++rF 8++ [true,true]++rF 34++ [true,true]) 3 1
  (fun c s=> ∃(i:Nat) (o:List Nm),c=n-i/\i<=n/\o.length=i/\T=tabF (fun i=>W0e (v.getD i default) C.1 (u.getD i default) p) i (n-i) o/\
   s=⟨[.sl .no (Q0u v),.sl .no (Q0u u),.sc (.int .i64 p)]++jk 8++ [.lp 2 0,.sl (.own 0) (Q0u o)]++jk 34++ [.sc (.int .i64 n),.sc (.int .i64 (i:Nat))]++jk 34,[encN A.1,encN B.1,encN C.1],[(o.length,3)],st'⟩) n ?_ ?_
 refine Y4w ?_;exact⟨0,[],oG,oG,rfl,hT.symm,rfl⟩;rintro c s ⟨i,o,rfl,hi,ho,hr,rfl⟩;refine W4z (fun h=> ?_) (fun h=> ?_);rotate_left;have hge:i=n:=(oF h);subst hge;rw[K0s] at hr;rw[hr];refine Y4w ?_;refine K0w (rF 12++ [true]) (Q0a ?_);exact Y4v;have hlt:i<n:=(oT h);have g1:=Z0k u i oG;have g2:=Z0k v i oG;have e3:=Z0x i oG;rw[J0t _ hlt o] at hr;have hx:W0e (v.getD i default) C.1 (u.getD i default) p=if (Q0t 2 C.1 (u.getD i default) p false).2≠0 then Q0t 2 C.1 (u.getD i default) p false else Q0t 1 (v.getD i default) (Q0t 2 C.1 (u.getD i default) p false).1 p false:=rfl;refine Y4w ?_;refine Q0k Z0b 83 (X2p [0,1,2,3,4,5] (.alt (X2p [6,7,8,9] (.step 10 [0,4] (.step 11 [] (.step 12 [] (.done))))) (.step 10 [0,4] (X2p [6,7,8,9,11,12] .done)))) (by decide+kernel) (by simp) ?_;simp-dsimp only[go_sem,hlu,g1];refine⟨oG,And.intro ?_ ?_⟩
 all_goals
  refine(y0i C.1 (u.getD i default) p false _ (Q0o cr) (G0c hu i)).w ?_;rintro st' rfl;have hmr:=Z0l 2 C.1 (u.getD i default) p false;generalize (Q0t 2 C.1 (u.getD i default) p false)=Z at*
  by_cases hm:Z.2=0;rw[if_neg (fun e=>e hm)] at hx;have z4:(Z.2 !=0)=false:=(by rw[hm];rfl);simp-dsimp only[go_sem,z4];refine Q0k Z0b 83 (X2p [0,1,2,3,4,5,6,7,8,9,10,11] .done) (by decide+kernel) (by simp) ?_;simp-dsimp only[go_sem,hlv,g2];refine⟨oG,?_⟩;refine(y0h (v.getD i default) Z.1 p false _ (G0c hv i) (Q0o hmr)).w ?_;rintro st' rfl;rw[<-hx];generalize hW:W0e (v.getD i default) C.1 (u.getD i default) p=W at*
  by_cases hz:W.2=0;have z5:(W.2 !=0)=false:=(by rw[hz];rfl);rw[if_neg (fun e=>e hz)] at hr;simp-dsimp only[go_sem,z5,e3];exact⟨oG,n-(i+1),oG,i+1,o++ [W.1],rfl,oG,by simp;omega,hr,by simp[Q0u,encN]⟩;have z5:(W.2 !=0)=true:=bne_iff_ne.2 hz;rw[if_pos hz] at hr;rw[hr];simp-dsimp only[go_sem,z5]
  try rfl
  rw[if_pos hm] at hx;have z4:(Z.2 !=0)=true:=bne_iff_ne.2 hm;rw[hx,if_pos hm] at hr;rw[hr];simp-dsimp only[go_sem,z4]
  try rfl
theorem y0j {x:Nm}(h:Q0h x=true): -65536<=x.exp/\x.exp<=65536/\X0o x.w<=4096:=by have:=X0x h;exact⟨this.2.1,this.2.2,this.1⟩
theorem W2h {t:Nm}(h:Q0h t=true):IntKind.i64.wrap (IntKind.i64.wrap (0-t.exp)-(X0o t.w:Nat))=j0b t:=by obtain⟨h1,h2,h3⟩:=y0j h;rw[Q0q (0-t.exp) oG oG,Q0q _ oG oG];unfold j0b;omega
set_option maxHeartbeats 4000000 in
theorem q1h (v:List Nm)(n:Nat)(st:Q0f)(hv:rowR n v)(hn:n<=4):PCalls Tryz.prog 283 [.sl .no (Q0u v)] st
 (fun r st'=>r= .tup [.sl .no (Q0u (H1t v).1),.sc (.int .i64 (H1t v).2)]/\st'=st):=by
 have hlv:=hv.1;refine Q0b none Tryz.func283 rfl fun E=>Q0d (Q0a ?_);unfold H1t topC;rw[hlv];refine Y4w ?_;refine W4t ?_;refine J0q 0 ?_;refine Y4w ?_;refine Q0a ?_;simp-dsimp only[go_sem,hlv];refine Q0e ([true,false,false,false,true]++rF 7++ [true,true,true]) 1 0
  (fun m s=> ∃i:Nat,m=n-i/\i<=n/\
   s=⟨[.sl .no (Q0u v),.junk,.junk,.junk,.lp 0 0]++jk 7++ [.sl .no (Q0u v),.sc (.int .i64 n),.sc (.int .i64 (i:Nat))]++jk 41,[encN (topG v i)],[],st⟩) n ?_ ?_
 refine Y4w ?_;exact⟨0,oG,oG,rfl⟩;rintro m s ⟨i,rfl,hi,rfl⟩;refine W4z (fun h=> ?_) (fun h=> ?_);have hlt:i<n:=(oT h);have g1:=Z0k v i oG;have e3:=Z0x i oG;have ht:topG v (i+1)=if cmpR (absN (v.getD i default)) (topG v i)>0 then absN (v.getD i default) else topG v i:=rfl;have hb:=(X0x (J0a (v.getD i default))).1;simp-dsimp only[go_sem,hlv,g1];refine⟨oG,?_⟩;refine Q0k Z0b 56 (.step 0 [] (.step 2 [] (.step 1 [2] (.step 3 [] (.step 4 [] (.done)))))) (by decide+kernel) (by simp) ?_;refine Y4w ?_;refine(J1z (v.getD i default) _ (G0c hv i)).w ?_;rintro st' rfl;refine Y4w ?_;have wa:=Q0o (J0a (v.getD i default));have wt:=Q0o (k0f v i);unfold wN at wa wt;refine(J1y (absN (v.getD i default)) (topG v i) _ oG oG).w ?_;rintro st' rfl;refine W4z (fun h2=> ?_) (fun h2=> ?_);have hc:cmpR (absN (v.getD i default)) (topG v i)>0:=q_b h2;rw[if_pos hc] at ht;refine Y4w ?_;refine(J1z (v.getD i default) _ (G0c hv i)).w ?_;rintro st' rfl;simp-dsimp only[go_sem,e3];exact⟨n-(i+1),oG,i+1,rfl,oG,by rw[ht]⟩;have hc: ¬cmpR (absN (v.getD i default)) (topG v i)>0:=q_c h2;rw[if_neg hc] at ht;simp-dsimp only[go_sem,e3];exact⟨n-(i+1),oG,i+1,rfl,oG,by rw[ht]⟩;have hge:i=n:=(oF h);subst hge;have tr:=k0f v i;have tw:=Q0o tr;have hsh:=W2h tr;obtain⟨tx1,tx2,tx3⟩:=y0j tr;generalize topG v i=t at*
 unfold wN at tw;refine Y4w ?_;refine W4u ?_;refine(V1o t _ oG).w ?_;rintro st' rfl;by_cases h0:t.w= [];have z1:(sgnN (ownN t)==0)=true:=by unfold sgnN ownN;rw[if_pos tr,h0];rfl
 rw[if_pos h0];simp-dsimp only[go_sem,z1]
 try rfl
 have z1:(sgnN (ownN t)==0)=false:=by have hm:valW t.w≠0:=fun e=>h0 ((X0f tr).1 e);unfold sgnN ownN;rw[if_pos tr,if_neg hm];split<;>rfl
 rw[if_neg h0];generalize hT:tabF (fun k=>Y0x (v.getD k default) (j0b t)) 0 i []=T;simp-dsimp only[go_sem,z1];refine Z0d 7 3 ?_;refine Y4w ?_;refine Q0e ([false,false,false,false,true,false,false,true]++rF 21++ [true,true,true]) 1 1
  (fun c s=> ∃(k:Nat) (o:List Nm),c=i-k/\k<=i/\o.length=k/\T=tabF (fun k=>Y0x (v.getD k default) (j0b t)) k (i-k) o/\
   s=⟨[.junk,.junk,.junk,.junk,.lp 0 0,.junk,.junk,.sl (.own 0) (Q0u o)]++jk 21++ [.sl .no (Q0u v),.sc (.int .i64 i),.sc (.int .i64 (k:Nat))]++jk 24,[encN t],[(o.length,3)],st'⟩) i ?_ ?_
 simp-dsimp only[go_sem,hlv];exact⟨0,[],oG,oG,rfl,hT.symm,rfl⟩;rintro c s ⟨k,o,rfl,hk,ho,hr,rfl⟩;refine W4z (fun h2=> ?_) (fun h2=> ?_);rotate_left;have hge:k=i:=(oF h2);subst hge;rw[K0s] at hr;rw[hr];refine Y4w ?_;refine K0w (rF 7++ [true]) (Q0a ?_);exact Y4v;have hlt:k<i:=(oT h2);have g1:=Z0k v k oG;have e3:=Z0x k oG;rw[J0t _ hlt o] at hr;simp-dsimp only[go_sem,hlv,g1];refine⟨oG,?_⟩;refine Q0k Z0b 56 (X2p [0,1,2,3,4,5] (.alt (.step 6 [0,2] (.step 7 [] (.alt (X2p [8,9,10,11] (.step 12 [0,2,5] (.step 13 [] (.step 14 [] (.done))))) (.step 12 [0,2,5] (X2p [8,9,10,11,13,14] .done))))) (.step 12 [0,2,5] (.step 6 [0,2] (X2p [7,8,9,10,11,13,14] .done))))) (by decide+kernel) (by simp) ?_;refine Y4w ?_;refine And.intro ?_ ?_
 all_goals
  refine(U0z t.w _ oG).w ?_;rintro st' rfl;simp-dsimp only[go_sem,hsh]
  try refine And.intro ?_ ?_
 all_goals
  refine(Y2c (v.getD k default) (j0b t) _ (G0c hv k)).w ?_;rintro st' rfl;generalize Y0x (v.getD k default) (j0b t)=W at*
  by_cases hz:W.2=0;have z5:(W.2 !=0)=false:=(by rw[hz];rfl);rw[if_neg (fun e=>e hz)] at hr;simp-dsimp only[go_sem,z5,e3];exact⟨oG,i-(k+1),oG,k+1,o++ [W.1],rfl,oG,by simp;omega,hr,by simp[Q0u,encN]⟩;have z5:(W.2 !=0)=true:=bne_iff_ne.2 hz;rw[if_pos hz] at hr;rw[hr];simp-dsimp only[go_sem,z5]
  try rfl
theorem Y1x (v:List Nm)(made:List (List Nm))(n:Nat)(p:Int)(st:Q0f)(hv:rowR n v)(hm: ∀i,i<made.length->rowR n (made.getD i []))(hml:made.length<=4)(hn:n<=4)(hp:Z0c p=true):
 PCalls Tryz.prog 245 [.sl .no (Q0u v),.sl .no (encQ made),.sc (.int .i64 p)] st
 (fun r st'=>r= .tup [.sl .no (Q0u (uprC v made p).1),.sc (.int .i64 (uprC v made p).2)]/\st'=st):=by
 refine Q0b none Tryz.func245 rfl fun E=>Q0a ?_;unfold uprC;generalize hT:uprG made p 0 made.length v=T;refine Y4w ?_;refine Q0e ([true,false,true]++rF 9++ [true,true,true]) 0 0
  (fun m s=> ∃(i:Nat) (w:List Nm),m=made.length-i/\i<=made.length/\rowR n w/\T=uprG made p i (made.length-i) w/\
   s=⟨[.sl .no (Q0u w),.junk,.sc (.int .i64 p)]++jk 9++ [.sl .no (encQ made),.sc (.int .i64 made.length),.sc (.int .i64 (i:Nat))]++jk 19,[],[],st⟩) made.length ?_ ?_
 refine Y4w ?_;exact⟨0,v,oG,oG,hv,hT.symm,rfl⟩;rintro m s ⟨i,w,rfl,hi,hw,hr,rfl⟩;refine W4z (fun h=> ?_) (fun h=> ?_);rotate_left;have hge:i=made.length:=(oF h);subst hge;rw[X2g] at hr;rw[hr,if_neg (fun e=>e rfl)];refine Y4w ?_;refine W4u ?_;refine(q1h w n _ hw hn).w ?_;rintro st' rfl;exact Y4v;have hlt:i<made.length:=(oT h);have g1:=J0d made i hlt;have e3:=Z0x i oG;rw[x1k made p hlt w] at hr;simp-dsimp only[go_sem,g1];refine⟨oG,?_⟩;refine(y1z w (made.getD i []) n p _ hw (hm i hlt) hn hp).w ?_;rintro st' rfl;have hrow:=V1w (u:=made.getD i []) (p:=p) hw;generalize v0b w (made.getD i []) p=Z at*
 by_cases hz:Z.2=0;have z1:(Z.2 !=0)=false:=(by rw[hz];rfl);rw[if_neg (fun e=>e hz)] at hr;simp-dsimp only[go_sem,z1,e3];exact⟨made.length-(i+1),oG,i+1,Z.1,rfl,oG,hrow hz,hr,rfl⟩;have z1:(Z.2 !=0)=true:=bne_iff_ne.2 hz;rw[if_pos hz] at hr;rw[hr,if_pos hz];simp-dsimp only[go_sem,z1]
 try rfl
end Go.Pv
end
