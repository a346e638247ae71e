/- Parts of the walk: M98. -/
import Derived.Test.YtldalepagmhnmaaGreatDoorZGA
set_option linter.unusedVariables false
set_option linter.unusedSimpArgs false
section
namespace Go.Pv
theorem q1i (g:Nat->Rat)(m:Nat): ∀n,sumR g (m+n)=sumR g m+sumR (fun i=>g (m+i)) n
 | 0=>by rw[Nat.add_zero];simp only[sumR];grind
 | n+1=>by rw[<-Nat.add_assoc,sumR,q1i g m n,sumR];grind
theorem q1h (G:Nat->Nat->Rat){K:Nat}(hK:0<K): ∀n,sumR (fun t=>G (t/K) (t % K)) (n*K)=sumR (fun l=>sumR (fun q=>G l q) K) n
 | 0=>by rw[Nat.zero_mul];rfl
 | n+1=>by rw[Nat.succ_mul,q1i,q1h G hK n,sumR];congr 1;refine Q0y fun q hq=> ?_;rw[Nat.mul_comm n K,Nat.mul_add_div hK,Nat.mul_add_mod,Nat.div_eq_of_lt hq,Nat.mod_eq_of_lt hq,Nat.add_zero]
theorem H1b (X Y:Nat->Rat): ∀n,dotQ X Y n=sumR (fun t=>X t*Y t) n
 | 0=>rfl
 | n+1=>by rw[dotQ,sumR,H1b X Y n]
def polJ (jac:List (List (List Mn)))(n:Nat)(c:Nat->Nat->Rat)(i l:Nat):Nat->Rat:=fun q=>polR ((jac.getD i []).getD l []) n c q ((jac.getD i []).getD l []).length
def varR (jac:List (List (List Mn)))(n:Nat)(c:Nat->Nat->Rat)(W:Nat->Nat->Nat->Rat)(K:Nat):Prop:=
 (∀i j,i<n->j<n->W i j 0=V1h i j)/\ ∀k,k<K-> ∀i j,i<n->j<n->W i j (k+1)*((k+1:Nat):Rat)=sumR (fun l=>J0m (polJ jac n c i l) (W l j) k) n
theorem U2m {jac:List (List (List Mn))}{xs:List (List Ivl)}{p:Int}{n i l q:Nat}{c:Nat->Nat->Rat}(hx:memX q c xs)(hn:xs.length=n)(h:(K0u jac xs p i l q).2=0):memI (polJ jac n c i l q) (K0u jac xs p i l q).1:=by
 unfold K0u at h⊢;obtain⟨v,e⟩:=W1s h;rw[e] at h⊢;rw[Int.toNat_natCast] at*
 have:=w1f hx _ (Nat.le_refl _) h;rw[hn] at this;exact this
theorem Y2r {jac:List (List (List Mn))}{xs:List (List Ivl)}{p:Int}{n:Nat} : ∀k,(varN jac xs p n k).2=0-> ∀q,q<k->slB jac xs p n q=true
 | 0,_=>fun q hq=>by omega
 | k+1,h=>by
  have c:(varN jac xs p n k).2=0:=Classical.byContradiction fun c=>by rw[varN,if_pos c] at h;exact c h
  rw[varN,if_neg (by rw[c];decide)] at h;intro q hq;by_cases e:q=k;rw[e];cases d:slB jac xs p n k with
  | true=>rfl
  | false=>rw[if_pos d] at h;cases h
  exact Y2r k c q (by omega)
theorem Q2l {jac:List (List (List Mn))}{xs:List (List Ivl)}{p:Int}{n K:Nat}{c:Nat->Nat->Rat}{W:Nat->Nat->Nat->Rat}(h1:1<=n)(h4:n<=4)(hK:K<=10)(hx:memX K c xs)(hn:xs.length=n)(hW:varR jac n c W K):
 ∀k,k<=K->(varN jac xs p n k).2=0-> ∀m,m<=k-> ∀i j,i<n->j<n->memI (W i j m) (atM ((varN jac xs p n k).1.getD m []) i j)
 | 0,_,_=>fun m hm i j hi hj=>by obtain rfl:m=0:=(by omega);rw[hW.1 i j hi hj];exact q2g h1 h4 hi hj
 | k+1,hk,h=>by
  have hs:=Y2r (k+1) h;have c0:(varN jac xs p n k).2=0:=Classical.byContradiction fun c=>by rw[varN,if_pos c] at h;exact c h
  have ih:=Q2l (p:=p) h1 h4 hK hx hn hW k (by omega) c0;have hl:=(v0i (jac:=jac) (xs:=xs) (p:=p) (n:=n) k c0).1;rw[varN,if_neg (by rw[c0];decide),if_neg (by rw[hs k (by omega)];decide)] at h⊢;by_cases e:(matV jac xs p n (varN jac xs p n k).1 k).2=0;rotate_left;rw[if_pos e] at h;exact absurd h e;rw[if_neg (by rw[e];decide)];intro m hm i j hi hj;show memI _ (atM (((varN jac xs p n k).1++_).getD m []) i j);by_cases hmk:m<=k;rw[Q0i _ _ _ _ (by omega)];exact ih m hmk i j hi hj;obtain rfl:m=k+1:=(by omega);rw[Q0k _ _ _ _ (by omega),hl,Nat.sub_self];show memI _ (atM (matV jac xs p n (varN jac xs p n k).1 k).1 i j);obtain⟨_,g2⟩:=K1v e;obtain⟨g3,g4⟩:=(g2 i hi).2 j hj;rw[show atM (matV jac xs p n (varN jac xs p n k).1 k).1 i j=_ from g4];unfold entV at g3⊢;by_cases d:(dotF (varX (rowD jac xs p i) k) (varY (varN jac xs p n k).1 j k) p (n*(k+1))).2=0;rotate_left;rw[if_pos d] at g3;exact absurd g3 d;rw[if_neg (by rw[d];decide)] at g3⊢;obtain⟨c1,c2,_⟩:=Z2m (k+1) (by omega) (by omega);refine H1f c1 c2 g3 ?_;rw[k3u (k+1) (by omega) (by omega),hW.2 k (by omega) i j hi hj];have hm:=H1d (X:=fun t=>polJ jac n c i (t/(k+1)) (t % (k+1))) (Y:=fun t=>W (t/(k+1)) j (k-t % (k+1))) (n*(k+1)) d fun t ht=>by have hl':t/(k+1)<n:=(Nat.div_lt_iff_lt_mul (by omega)).2 ht;have hq:t % (k+1)<k+1:=Nat.mod_lt _ (by omega);exact⟨U2m (fun i hi j hj=>hx i hi j (by omega)) hn (slB_iff.1 (hs _ (by omega)) i hi _ hl'),ih _ (by omega) _ _ hl' hj⟩
  rw[H1b,q1h (fun l q=>polJ jac n c i l q*W l j (k-q)) (by omega)] at hm;exact hm
theorem H1e {L U:Nat}{x y:Nat->Ivl}{p:Int}(hp:Z0m p=true): ∀n,(∀k,k<n-> ∃L1 U1 L2 U2,luI L1 U1 (x k)/\luI L2 U2 (y k)/\L1+L2<=L/\U1+U2+1<=U)->L+U+2*n+4<=4096->(dotF x y p n).2=0/\luI L (U+2*n) (dotF x y p n).1
 | 0,_,_=>⟨rfl,w0h _ _⟩
 | n+1,h,hb=>by
  obtain⟨h1,h2⟩:=H1e hp n (fun k hk=>h k (by omega)) (by omega);obtain⟨L1,U1,L2,U2,a1,a2,a3,a4⟩:=h n (by omega);obtain⟨m1,m2⟩:=H2j a1 a2 hp (by omega);have m3:=m2.mono a3 a4;have e:dotF x y p (n+1)=if n=0 then opI 2 (x n) (y n) p else
   if (opI 0 (dotF x y p n).1 (opI 2 (x n) (y n) p).1 p).2≠0 then(default,(opI 0 (dotF x y p n).1 (opI 2 (x n) (y n) p).1 p).2) else opI 0 (dotF x y p n).1 (opI 2 (x n) (y n) p).1 p:=by
   rw[dotF,if_neg (by rw[h1];decide),if_neg (by rw[m1];decide)]
  rw[e];split;exact⟨m1,m3.mono (by omega) (by omega)⟩;obtain⟨s1,s2⟩:=H2k (k:=0) (by omega) h2 (m3.mono (Nat.le_refl _) (show U<=U+2*n by omega)) hp (by omega);rw[if_neg (by rw[s1];decide)];exact⟨s1,s2.mono (by omega) (by omega)⟩
theorem v2t {jac:List (List (List Mn))}{xs:List (List Ivl)}{p:Int}{n K q i l:Nat}(hp:Z0m p=true)(h1:1<=n)(hn:xs.length=n)(hj:okJ n jac)(hm: ∀i,i<n-> ∀l,l<n-> ∀m∈(jac.getD i []).getD l [],okMn n 12 24 3 m)(hK:K<=4)
 (hx: ∀i,i<n->grI 400 280 62 105 K (xs.getD i [])) (hq:q<=K) (hq3:q<=3) (hi:i<n) (hl:l<n):(K0u jac xs p i l q).2=0/\luI (400*q+198) (280*q+420) (K0u jac xs p i l q).1:=by
 have hr:=(hj.2 i hi).2 l hl;have hlen:=((X0g _ _).1 hr).1.2.2;unfold K0u;generalize hP:(jac.getD i []).getD l []=P at*
 have hm':=hm i hi l hl;rw[hP] at hm';obtain⟨o1,o2⟩:=H2n (q:=P) (xs:=xs) (p:=p) (a:=400) (u:=280) (Lc:=12) (Uc:=24) (s1:=62) (r1:=105) (k:=q) (K:=4) (D:=3) hp
  (fun j hj=>by obtain⟨z1,z2,z3,z4,z5,z6⟩:=hm' _ (Q0s P j default hj);exact⟨z4,z6,z2,z3,by omega⟩)
  (fun j hj=>(hx j (by omega)).low hq) (by omega) (by omega) _ (Nat.le_refl _)
 have hser:Y0s P xs q p=ofS P xs q p P.length:=by unfold Y0s;rw[Int.toNat_natCast,if_pos];refine⟨?_,by rw[hn];exact hr,?_⟩;unfold Q1y;rw[hp];simp;omega;exact all_hasUp.2 fun j hj=>by have g:=(hx j (by omega)).low hq;exact Y0z g.1 fun t ht=>(g.2 t ht).1
 rw[hser];exact⟨o1,o2.mono (by omega) (by omega)⟩
theorem v3x {n i j:Nat}(h1:1<=n)(h4:n<=4)(hi:i<n)(hj:j<n):luI 0 1 (atM (idM (n:Int)) i j):=by rw[(X2h h1 h4 hi hj).2.2];split;have e:qN oneN=((1:Nat):Rat):=(by decide+kernel);have h:=Q1h (m:=1) (n:=1) (by decide);rw[<-e] at h;exact⟨by decide,h,h⟩;exact w0h _ _
theorem k1v {jac:List (List (List Mn))}{xs:List (List Ivl)}{p:Int}{n K:Nat}(hp:Z0m p=true)(h1:1<=n)(h2:n<=2)(hn:xs.length=n)(hj:okJ n jac)(hm: ∀i,i<n-> ∀l,l<n-> ∀m∈(jac.getD i []).getD l [],okMn n 12 24 3 m)(hK:K<=4)
 (hx: ∀i,i<n->grI 400 280 62 105 K (xs.getD i [])): ∀k,k<=K->(varN jac xs p n k).2=0/\ ∀m,m<=k-> ∀i j,i<n->j<n->luI (462*m) (440*m+1) (atM ((varN jac xs p n k).1.getD m []) i j)
 | 0,_=>⟨rfl,fun m hm i j hi hj=>by obtain rfl:m=0:=(by omega);exact v3x h1 (by omega) hi hj⟩
 | k+1,hk=>by
  obtain⟨c0,ih⟩:=k1v hp h1 h2 hn hj hm hK hx k (by omega);have hl:=(v0i (jac:=jac) (xs:=xs) (p:=p) (n:=n) k c0).1;have hsl:=fun q (hq:q<=k) i l hi hl=>v2t (p:=p) (i:=i) (l:=l) hp h1 hn hj hm hK hx (q:=q) (by omega) (by omega) hi hl;have hs:slB jac xs p n k=true:=slB_iff.2 fun i hi l hl=>(hsl k (Nat.le_refl _) i l hi hl).1;have hpp:p.toNat<=256:=by unfold Z0m at hp;simp only[q_i,decide_eq_true_eq] at hp;omega
  have hnk:n*(k+1)<=8:=Nat.le_trans (Nat.mul_le_mul_right _ h2) (by omega);have key: ∀i j,i<n->j<n->(entV (rowD jac xs p i) p n (varN jac xs p n k).1 j k).2=0/\luI (462*(k+1)) (440*(k+1)+1) (entV (rowD jac xs p i) p n (varN jac xs p n k).1 j k).1:=fun i j hi hj=>by obtain⟨d1,d2⟩:=H1e (L:=462*k+198) (U:=440*k+422) (x:=varX (rowD jac xs p i) k) (y:=varY (varN jac xs p n k).1 j k) hp (n*(k+1)) (fun t ht=>by have hl':t/(k+1)<n:=(Nat.div_lt_iff_lt_mul (by omega)).2 ht;have hq:t % (k+1)<k+1:=Nat.mod_lt _ (by omega);refine⟨_,_,_,_,(hsl (t % (k+1)) (by omega) i (t/(k+1)) hi hl').2,ih (k-t % (k+1)) (by omega) (t/(k+1)) j hl' hj,?_,?_⟩;omega;omega) (by omega);unfold entV;rw[if_neg (by rw[d1];decide)];obtain⟨e1,e2⟩:=x2z (n:=k+1) d2 (by omega) (by omega) hp (by omega);exact⟨e1,e2.mono (by omega) (by omega)⟩
  have hM:(matV jac xs p n (varN jac xs p n k).1 k).2=0:=G0w _ _ _ fun i _ hi=>G0w _ _ _ fun j _ hj=>(key i j (by omega) (by omega)).1;rw[varN,if_neg (by rw[c0];decide),if_neg (by rw[hs];decide),if_neg (by rw[hM];decide)];refine⟨rfl,fun m hm i j hi hj=> ?_⟩;show luI _ _ (atM (((varN jac xs p n k).1++_).getD m []) i j);by_cases hmk:m<=k;rw[Q0i _ _ _ _ (by omega)];exact ih m hmk i j hi hj;obtain rfl:m=k+1:=(by omega);rw[Q0k _ _ _ _ (by omega),hl,Nat.sub_self];show luI _ _ (atM (matV jac xs p n (varN jac xs p n k).1 k).1 i j);rw[show atM (matV jac xs p n (varN jac xs p n k).1 k).1 i j=_ from(((K1v hM).2 i hi).2 j hj).2];exact(key i j hi hj).2
def polD (jac:List (List (List Mn)))(n:Nat)(X:Nat->Nat->Rat)(i l:Nat):Nat->Rat:=fun q=>polL ((jac.getD i []).getD l []) n X q ((jac.getD i []).getD l []).length
def varD (jac:List (List (List Mn)))(n:Nat)(X:Nat->Nat->Rat)(V:Nat->Nat->Nat->Rat)(K:Nat):Prop:=
 (∀i j,i<n->j<n->V i j 0=V1h i j)/\ ∀k,k<K-> ∀i j,i<n->j<n->V i j (k+1)=sumR (fun l=>Z1v (polD jac n X i l) (V l j) k) n
theorem Q2m {jac:List (List (List Mn))}{n K:Nat}{X:Nat->Nat->Rat}{V:Nat->Nat->Nat->Rat}(hK:K<=12)(h:varD jac n X V K):varR jac n (G0y X) (fun i j=>G0y (V i) j) K:=by
 refine⟨fun i j hi hj=>(y0o (V i) j).trans (h.1 i j hi hj),fun k hk i j hi hj=> ?_⟩;have e:=h.2 k hk i j hi hj;have hlt: ∀l,l<n->Z1v (polD jac n X i l) (V l j) k=(fctN k:Rat)*J0m (polJ jac n (G0y X) i l) (G0y (V l) j) k:=fun l hl=>
  x1g (by omega) (fun q hq=>G1c (by omega) (fun i _=>y0p X i q) _) (y0p (V l) j k)
 rw[Q0y hlt,K0x] at e;have n1:=j1b k;have n2:=j1b (k+1);have n3:(fctN (k+1):Rat)=((k+1:Nat):Rat)*(fctN k:Rat):=by show(((k+1)*fctN k:Nat):Rat)=_;rw[Rat.natCast_mul]
 show V i j (k+1)/(fctN (k+1):Rat)*_=_;rw[e,n3];rw[n3] at n2;generalize sumR _ _=P;generalize (fctN k:Rat)=F at*
 generalize ((k+1:Nat):Rat)=N at*
 grind
end Go.Pv
end
