/- Parts of the walk: N13, N14. -/
import Derived.Test.YtldalepagmhnmaaGreatDoorZAB
import Derived.Test.YtldalepagmhnmaaGreatDoorZH
set_option linter.unusedVariables false
set_option linter.unusedSimpArgs false
section
set_option maxRecDepth 100000
namespace Go.Pv
open Go.Proofs
theorem G3e (a:Ivl)(x:Nm)(st:Q0g)(ha:wI a)(hx:wN x):PR 58 [.agg (encI a),.agg (encN x)] st (.sc (.bool (hasI a x))):=by
 refine Q0b none Tryz.func58 rfl fun E=>Q0a ?_;unfold hasI;refine K4w ?_;refine(G0v a _ ha).q ?_;cases r1:Q0y a with
 | false=>simp-dsimp only[go_sem];try rfl
 | true=>
  refine K4w ?_;refine(X0l x _ (by unfold wN at hx;omega)).q ?_;cases r2:Q0h x with
  | false=>simp-dsimp only[go_sem];try rfl
  | true=>
   have s1:=Z0n (Q0x r1).1;have s2:=Z0n (Q0x r1).2.1;have s3:=Z0n r2;refine K4w ?_;refine(Z1r a.lo x _ s1 s3).q ?_;cases c1:decide (cmpN a.lo x<=0) with
   | false=>simp-dsimp only[go_sem,c1];try rfl
   | true=>
    simp-dsimp only[go_sem,c1];refine(Z1r x a.hi _ s3 s2).q ?_;simp-dsimp only[go_sem,c1]
    try rfl
theorem Q3t (lo hi:Nm)(st:Q0g)(h1:wN lo)(h2:wN hi):PR 128 [.agg (encN lo),.agg (encN hi)] st (.tup [.agg (encI (q2g lo hi).1),.sc (.int .i64 (q2g lo hi).2)]):=by
 refine Q0b none Tryz.func128 rfl fun E=>Q0a ?_;unfold q2g;refine K4w ?_;refine(G0v ⟨lo,hi⟩ _ ⟨h1,h2⟩).q ?_;cases r1:Q0y ⟨lo,hi⟩ with
 | false=>
  rw[if_neg (by simp)];simp-dsimp only[go_sem];try rfl
 | true=>
  rw[if_pos rfl];refine K4w ?_;refine(x3z lo hi _ h1 h2).Q0
theorem V1l (a b:Ivl)(p:Int)(st:Q0g)(ha:wI a)(hb:wI b):PR 215 [.agg (encI a),.agg (encI b),.sc (.int .i64 p)] st (.sc (.bool (Q0y a&&Q0y b&&Z0b p))):=by
 refine J4z Tryz.func215 fun E=> ?_;refine(G0v a _ ha).q ?_;cases r1:Q0y a with
 | false=>simp-dsimp only[go_sem];try rfl
 | true=>
  refine K4w ?_;refine(G0v b _ hb).q ?_;cases r2:Q0y b with
  | false=>simp-dsimp only[go_sem];try rfl
  | true=>
   refine K4w ?_;refine(K0x p _).q ?_;simp-dsimp only[go_sem]
   try rfl
theorem X2m (v:Vl):(numV v).2=0\/numV v=(default,2):=by unfold numV;split;exact .inl rfl;split;exact .inr rfl;exact .inl rfl
theorem K1x (lo hi:Nm)(p:Nat)(st:Q0g)(hl:bd 1000000 1000000 lo)(hh:bd 1000000 1000000 hi)(hp0:0<p)(hp:p<=1000000000):PCalls Tryz.prog 234 [.agg (encN lo),.agg (encN hi),.sc (.int .i64 p)] st
 (fun r st'=>r= .tup [.agg (encI (x0c (Z0o (ofX lo) p false) (Z0o (ofX hi) p true)).1),.sc (.int .i64 (x0c (Z0o (ofX lo) p false) (Z0o (ofX hi) p true)).2)]/\st'=st):=by
 refine Q0b none Tryz.func234 rfl fun E=>Q0a ?_;unfold x0c;refine K4w ?_;refine(j0u lo p false _ hl hp0 hp).Q ?_;refine ck (fun h=> ?_) (fun h=> ?_);have hne:=W0z h;refine K4w ?_;rw[if_neg (fun hh=>hne hh.1)];rcases X2m (Z0o (ofX lo) p false) with e | e;exact absurd e hne;rw[e];rfl;have he:=Y0n h;refine K4w ?_;refine(j0u hi p true _ hh hp0 hp).Q ?_;refine ck (fun h=> ?_) (fun h=> ?_);have hne:=W0z h;refine K4w ?_;rw[if_neg (fun hh=>hne hh.2)];rcases X2m (Z0o (ofX hi) p true) with e | e;exact absurd e hne;rw[e];rfl;have he2:=Y0n h;refine K4w ?_;rw[if_pos ⟨he,he2⟩]
 try rfl
theorem q2v (a b:Ivl)(p:Int)(st:Q0g)(ha:wI a)(hb:wI b):PR 167 [.agg (encI a),.agg (encI b),.sc (.int .i64 p)] st (.tup [.agg (encI (opI 0 a b p).1),.sc (.int .i64 (opI 0 a b p).2)]):=by refine J4z Tryz.func167 fun E=> ?_;refine(V1l a b p _ ha hb).Q ?_;refine ck (fun h=> ?_) (fun h=> ?_);refine K4w ?_;rw[opI,if_neg (fun hh=>by simp[hh.1,hh.2.1,hh.2.2] at h)];rfl;have hv:Q0y a=true/\Q0y b=true/\Z0b p=true:=(by simpa[and_assoc] using h);obtain⟨r1,r2,r3⟩:=hv;obtain⟨q,rfl,q1,q2,q3⟩:=J0w r3;obtain⟨a1,a2,_⟩:=Q0x r1;obtain⟨b1,b2,_⟩:=Q0x r2;refine K4w ?_;refine Q0k Z0c 28 (Z2k [0,1,2,3,5,6,7,8,10] (.step 4 [6,8] (Z2k [9,11,12,13,14,15] .done))) (by decide+kernel) (by simp) ?_;refine K4w ?_;refine(G3s a.lo b.lo a1 b1 _).mono ?_;rintro r st ⟨y,y1,y2,rfl,rfl⟩;refine K4w ?_;refine(G3s a.hi b.hi a2 b2 _).mono ?_;rintro r st ⟨z,z1,z2,rfl,rfl⟩;refine K4w ?_;refine(K1x y z q _ y1 z1 oG oG).q ?_;have ca:=canI r1;have cb:=canI r2;have e1:ofX y=loV 0 (ofN a.lo) (ofN a.hi) (ofN b.lo) (ofN b.hi):=X1l (q1x 0 ca.1 ca.2 cb.1 cb.2) (by rw[y2,exQ0,loV0,v0g];rfl);have e2:ofX z=hiV 0 (ofN a.lo) (ofN a.hi) (ofN b.lo) (ofN b.hi):=X1l (q1z 0 ca.1 ca.2 cb.1 cb.2) (by rw[z2,exQ0,hiV0,v0g];rfl);refine K4w ?_;rw[opI,if_pos ⟨r1,r2,r3⟩,e1,e2,q3]
theorem q2t (a b:Ivl)(p:Int)(st:Q0g)(ha:wI a)(hb:wI b):PR 188 [.agg (encI a),.agg (encI b),.sc (.int .i64 p)] st (.tup [.agg (encI (opI 1 a b p).1),.sc (.int .i64 (opI 1 a b p).2)]):=by refine J4z Tryz.func188 fun E=> ?_;refine(V1l a b p _ ha hb).Q ?_;refine ck (fun h=> ?_) (fun h=> ?_);refine K4w ?_;rw[opI,if_neg (fun hh=>by simp[hh.1,hh.2.1,hh.2.2] at h)];rfl;have hv:Q0y a=true/\Q0y b=true/\Z0b p=true:=(by simpa[and_assoc] using h);obtain⟨r1,r2,r3⟩:=hv;obtain⟨q,rfl,q1,q2,q3⟩:=J0w r3;obtain⟨a1,a2,_⟩:=Q0x r1;obtain⟨b1,b2,_⟩:=Q0x r2;refine K4w ?_;refine Q0k Z0c 28 (Z2k [0,1,2,3,5,6,7,8,10] (.step 4 [6,8] (Z2k [9,11,12,13,14,15] .done))) (by decide+kernel) (by simp) ?_;refine K4w ?_;refine(G3r a.lo b.hi a1 b2 _).mono ?_;rintro r st ⟨y,y1,y2,rfl,rfl⟩;refine K4w ?_;refine(G3r a.hi b.lo a2 b1 _).mono ?_;rintro r st ⟨z,z1,z2,rfl,rfl⟩;refine K4w ?_;refine(K1x y z q _ y1 z1 oG oG).q ?_;have ca:=canI r1;have cb:=canI r2;have e1:ofX y=loV 1 (ofN a.lo) (ofN a.hi) (ofN b.lo) (ofN b.hi):=X1l (q1x 1 ca.1 ca.2 cb.1 cb.2) (by rw[y2,exQ1,loV1,v0h];rfl);have e2:ofX z=hiV 1 (ofN a.lo) (ofN a.hi) (ofN b.lo) (ofN b.hi):=X1l (q1z 1 ca.1 ca.2 cb.1 cb.2) (by rw[z2,exQ1,hiV1,v0h];rfl);refine K4w ?_;rw[opI,if_pos ⟨r1,r2,r3⟩,e1,e2,q3]
theorem G3d (a:Ivl)(p:Int)(st:Q0g)(ha:wI a):PR 178 [.agg (encI a),.sc (.int .i64 p)] st (.tup [.agg (encN (midI a p).1),.sc (.int .i64 (midI a p).2)]):=by
 refine J4z Tryz.func178 fun E=> ?_;refine(G0v a _ ha).q ?_;cases r1:Q0y a with
 | false=>
  refine K4w ?_;rw[midI,if_neg (by simp[r1])];rfl
 | true=>
  refine K4w ?_;refine(K0x p _).q ?_;cases r3:Z0b p with
  | false=>
   refine K4w ?_;rw[midI,if_neg (by simp[r3])];rfl
  | true=>
   obtain⟨q,rfl,q1,q2,q3⟩:=J0w r3;obtain⟨a1,a2,_⟩:=Q0x r1;have ca:=canI r1;have hm:midI a q=if W0d (midV a q) (ofN a.lo)<0 then(a.lo,0) else numV (midV a q):=(by rw[midI,if_pos ⟨r1,r3⟩,q3]);rw[hm];refine K4w ?_;refine Q0k Z0c 36 (Z2k [0,1,2,3,4,5,8] (.alt (.step 6 [1] (.alt (.step 7 [1] (.alt (.step 9 [1] (.alt (.step 10 [3,5] (.step 11 [1,3,5] (.step 12 [] (.done)))) (.step 11 [1,3,5] (.step 10 [3,5] (.step 12 [] (.done)))))) (.step 11 [1,3,5] (.step 9 [1] (.step 10 [3,5] (.step 12 [] (.done))))))) (.step 11 [1,3,5] (.step 7 [1] (.step 9 [1] (.step 10 [3,5] (.step 12 [] (.done)))))))) (.step 11 [1,3,5] (.step 6 [1] (.step 7 [1] (.step 9 [1] (.step 10 [3,5] (.step 12 [] (.done))))))))) (by decide+kernel) (by simp) ?_;refine K4w ?_;refine And.intro ?_ ?_
   all_goals
    refine(y1x a.lo a.hi 64 65536 _ (Z0v a1) (Z0v a2) oG oG).mono ?_;rintro r st ⟨y,y1,y2,rfl,rfl⟩;have b1:=y1.1;have b2:=y1.2.1;have b3:=y1.2.2;have e1:ofX { y with exp:=y.exp-1 } =y0r (U0v (ofN a.lo) (ofN a.hi)):=w2u (q0w ca.1 ca.2) (by rw[y2,v0g];rfl);simp-dsimp only[go_sem]
    try refine And.intro ?_ ?_
    all_goals
     refine(Z3w y _ oG oG).q ?_;have hbd:bd 65601 65537 { y with exp:=y.exp-1 } :=⟨b1,by simp only;omega,by simp only;omega⟩;generalize ({ y with exp:=y.exp-1 } :Nm)=z at*
     have c1:=hbd.1;have c2:=hbd.2.1;have c3:=hbd.2.2;have hz:=U2q z q false _ _ hbd;have e2:ofX (rndX z q false)=midV a q:=(by rw[Z2m z q false oG,e1];rfl);simp-dsimp only[go_sem]
     try refine And.intro ?_ ?_
     all_goals
      refine(U1e z q false _ oG oG oG oG).q ?_;generalize rndX z q false=x at*
      have d1:=hz.1;have d2:=hz.2.1;have d3:=hz.2.2;have hs:sm x:=⟨oG,oG,oG⟩;have hg:sm (X0y a.lo x):=y0t (Z0n a1) hs;have e3:=j1m (p:=q) r1 e2;simp-dsimp only[go_sem]
      try refine And.intro ?_ ?_
      all_goals
       refine(Z1l a.lo x _ (Z0n a1) hs).q ?_;generalize X0y a.lo x=g at*
       have g1:=hg.1;have g2:=hg.2.1;have g3:=hg.2.2;refine K4w ?_;refine(y0g g.neg g.w g.exp _ oG oG oG).q ?_;rw[y1h,e3];simp-dsimp only[go_sem]
theorem H1y (x a b:Nm)(i j:Nat)(st:Q0g)(hij:i≠j)(hi:st.getD i []=encN a)(hj:st.getD j []=encN b)(hx:sm x)(ha:sm a)(hb:sm b):
 PCalls Tryz.prog 231 ([.agg (encN x)]++ [.gp i 0,.gp j 0]) st (fun r st'=>r= .tup []/\st'=(st.set i (encN (K0g a x))).set j (encN (X0y b x))):=by
 refine Q0b none Tryz.func231 rfl fun E=>Q0a ?_;unfold encN at hi hj;refine K4w ?_;refine Q0k Z0c 10 (Z2k [0,1,3,4] (.step 2 [3,4] (Z2k [5,6,7] .done))) (by decide+kernel) (by simp) ?_;simp-dsimp only[go_sem,hi,hj];refine(G3a a x _ ha hx).q ?_;simp-dsimp only[go_sem,hi,hj];refine(Z1l b x _ hb hx).q ?_;simp-dsimp only[go_sem,hi,hj];rw[Q0l _ _ _ _ _ hij,hj];exact⟨⟨by simp,by simp⟩,rfl⟩
theorem J2v (n:Nat)(x:Nm):Bnd n (.agg (encN x)):=by
 refine .agg _ fun j hj=> ?_
 match j,hj with
 | 0,_=>exact .sc _
 | 1,_=>exact .sc _
 | 2,_=>
  refine .sl _ _ 1 (fun i hi=> ?_) (fun i j hi hj=> ?_);rw[Z0t] at hi;rw[Z0m x.w i hi];rfl;rw[Z0t] at hi;rw[Z0m x.w i hi];have:j=0:=oG;subst this;exact .sc _
theorem J3a (n:Nat)(x:Ivl): ∀j,j<(encI x).length->Bnd n ((encI x).getD j .junk):=fun j hj=>by
 have h1:=J2v n x.lo;have h2:=J2v n x.hi;cases h1 with
 | agg _ h1=>
  cases h2 with
  | agg _ h2=>
   match j,hj with
   | 0,_=>exact h1 0 (show _<3 by omega)
   | 1,_=>exact h1 1 (show _<3 by omega)
   | 2,_=>exact h1 2 (show _<3 by omega)
   | 3,_=>exact h2 0 (show _<3 by omega)
   | 4,_=>exact h2 1 (show _<3 by omega)
   | 5,_=>exact h2 2 (show _<3 by omega)
theorem v1l (n:Nat)(x:Ivl)(e:Int):Bnd n (.tup [.agg (encI x),.sc (.int .i64 e)]):=by
 refine .tup _ fun j hj=> ?_
 match j,hj with
 | 0,_=>exact .agg _ (J3a n x)
 | 1,_=>exact .sc _
theorem Z2d (st:Q0g)(l h:List PV):(st++ [l]++ [h]).getD st.length []=l:=by rw[List.append_assoc,q_a,List.getElem?_append_right (Nat.le_refl _)];simp
theorem Z2e (st:Q0g)(l h:List PV):(st++ [l]++ [h]).getD (st.length+1) []=h:=by rw[List.append_assoc,q_a,List.getElem?_append_right oG];simp
theorem w1d (st:Q0g)(l h l' h':List PV):((st++ [l]++ [h]).set st.length l').set (st.length+1) h'=st++ [l']++ [h']:=by rw[List.append_assoc,List.set_append_right _ _ (Nat.le_refl _),List.set_append_right _ _ oG];simp
theorem z1z {n k:Nat}{x:Nm}(h:bd n k x)(h1:n<=1000000)(h2:k<=1000000000):sm x:=⟨by have:=h.1;omega,by have:=h.2.1;omega,by have:=h.2.2;omega⟩
theorem V1k {n k:Nat}{a b:Nm}(ha:bd n k a)(hb:bd n k b):bd n k (K0g a b):=q2p ha hb
theorem V1t {n k:Nat}{a b:Nm}(ha:bd n k a)(hb:bd n k b):bd n k (X0y a b):=y0t ha hb
theorem G3c (a b:Ivl)(p:Int)(st:Q0g)(ha:wI a)(hb:wI b):PR 166 [.agg (encI a),.agg (encI b),.sc (.int .i64 p)] st (.tup [.agg (encI (opI 2 a b p).1),.sc (.int .i64 (opI 2 a b p).2)]):=by
 refine PCalls.drop ?_;refine Q0b none Tryz.func166 rfl fun E=>Q0c (Q0a ?_);refine K4w ?_;refine J4x ?_;refine(V1l a b p _ ha hb).Q ?_;refine ck (fun h=> ?_) (fun h=> ?_);refine K4w ?_;refine⟨v1l _ default 1,[],(List.append_nil _).symm,?_⟩;rw[opI,if_neg (fun hh=>by simp[hh.1,hh.2.1,hh.2.2] at h)];rfl;have hv:Q0y a=true/\Q0y b=true/\Z0b p=true:=(by simpa[and_assoc] using h);obtain⟨r1,r2,r3⟩:=hv;obtain⟨q,rfl,q1,q2,q3⟩:=J0w r3;obtain⟨a1,a2,_⟩:=Q0x r1;obtain⟨b1,b2,_⟩:=Q0x r2;refine K4w ?_;refine J4x ?_;refine(W1h a.lo b.lo 64 65536 64 65536 _ (Z0v a1) (Z0v b1) oG oG oG oG).mono ?_;rintro r st ⟨y1,y1b,y1q,rfl,rfl⟩;refine K4w ?_;refine J4x ?_;refine z0g 3 (by simp[go_sem]) (by simp) ?_;refine K4w ?_;refine z0g 4 (by simp[go_sem]) (by simp) (Q0a ?_);refine K4w ?_;have s1:=z1z y1b oG oG;refine(W1h a.lo b.hi 64 65536 64 65536 _ (Z0v a1) (Z0v b2) oG oG oG oG).mono ?_;rintro r st2 ⟨y2,y2b,y2q,rfl,rfl⟩;have s2:=z1z y2b oG oG;refine K4w ?_;refine(H1y y2 y1 y1 st.length (st.length+1) _ oG (Z2d _ _ _) (Z2e _ _ _) s2 s1 s1).w ?_;rintro st3 rfl;rw[w1d];have l2:=V1k y1b y2b;have g2:=V1t y1b y2b;have l2s:=z1z l2 oG oG;have g2s:=z1z g2 oG oG;refine K4w ?_;refine(W1h a.hi b.lo 64 65536 64 65536 _ (Z0v a2) (Z0v b1) oG oG oG oG).mono ?_;rintro r st3 ⟨y3,y3b,y3q,rfl,rfl⟩;have s3:=z1z y3b oG oG;refine K4w ?_;refine(H1y y3 (K0g y1 y2) (X0y y1 y2) st.length (st.length+1) _ oG (Z2d _ _ _) (Z2e _ _ _) s3 l2s g2s).w ?_;rintro st4 rfl;rw[w1d];have l3:=V1k l2 y3b;have g3:=V1t g2 y3b;have l3s:=z1z l3 oG oG;have g3s:=z1z g3 oG oG;refine K4w ?_;refine(W1h a.hi b.hi 64 65536 64 65536 _ (Z0v a2) (Z0v b2) oG oG oG oG).mono ?_;rintro r st4 ⟨y4,y4b,y4q,rfl,rfl⟩;have s4:=z1z y4b oG oG;refine K4w ?_;refine(H1y y4 (K0g (K0g y1 y2) y3) (X0y (X0y y1 y2) y3) st.length (st.length+1) _ oG (Z2d _ _ _) (Z2e _ _ _) s4 l3s g3s).w ?_;rintro st5 rfl;rw[w1d];have l4:=V1k l3 y4b;have g4:=V1t g3 y4b;have e1:=W2n r1 r2 y1q y2q y3q y4q;have e2:=q1g r1 r2 y1q y2q y3q y4q;generalize K0g (K0g (K0g y1 y2) y3) y4=L at*
 generalize X0y (X0y (X0y y1 y2) y3) y4=H at*
 have hL:=Z2d st (encN L) (encN H);have hH:=Z2e st (encN L) (encN H);unfold encN at hL hH⊢;simp-dsimp only[go_sem,hL,hH];refine(K1x L H q _ (l4.mono oG oG) (g4.mono oG oG) oG oG).w ?_;rintro st6 rfl;have hm:opI 2 a b q=x0c (Z0o (ofX L) q false) (Z0o (ofX H) q true):=(by rw[opI,if_pos ⟨r1,r2,r3⟩,e1,e2,q3]);rw[hm];simp-dsimp only[go_sem,hL,hH];exact⟨v1l _ _ _,_,List.append_assoc _ _ _⟩
theorem G2r (g:FuncId)(caps:List PV)(G:Ivl->Ivl->Ivl×Int)(i:Nat)(x:Ivl)(b:List Ivl)(st:Q0g)(hc:Q0e Tryz.prog g=true)(hi:i<b.length)
 (h1c:caps.all PV.closed2=true) (h1':caps.all PV.closed1=true) (h2c:caps.map PV.forget2=caps) (h2':caps.map PV.forget1=caps) (hlim:caps.all (PV.lim1 0 1)=true)
 (h:PR g ([.agg (encI x),.agg (encI (b.getD i default))]++caps) st (.tup [.agg (encI (G x (b.getD i default)).1),.sc (.int .i64 (G x (b.getD i default)).2)])):
 PR 253 ([.sc (.int .i64 i),.agg (encI x)]++ [.ep [.fn (.func g) [] caps] 0,.ep [.sl .no (Q0z b)] 0]) st (.tup [.agg (encI (G x (b.getD i default)).1),.sc (.int .i64 (G x (b.getD i default)).2)]):=by
 refine J4z Tryz.func253 fun E=> ?_;have e1:=Z0p b i hi;refine Q0k Z0c 17 (Z2k [0,1,2,3,4,5,6,7,8,9,10] .done) (by decide+kernel) (by simp) ?_;simp-dsimp only[go_sem,e1,hc,h1c,h1',h2c,h2'];refine⟨oG,?_⟩;refine h.Q0
theorem X2e (g:FuncId)(caps:List PV)(G:Ivl->Ivl->Ivl×Int)(a b:List Ivl)(st:Q0g)(hc:Q0e Tryz.prog g=true)(ha:wB a)(hb:wB b)(h1c:caps.all PV.closed2=true)(h1':caps.all PV.closed1=true)(h2c:caps.map PV.forget2=caps)(h2':caps.map PV.forget1=caps)(hlim:caps.all (PV.lim1 0 1)=true)(hfz: ∀i cs,caps.map (PV.frz1 i cs)=caps)
 (h:rightB a=true->rightB b=true-> ∀i,i<a.length->i<b.length->PR g ([.agg (encI (a.getD i default)),.agg (encI (b.getD i default))]++caps) st (.tup [.agg (encI (G (a.getD i default) (b.getD i default)).1),.sc (.int .i64 (G (a.getD i default) (b.getD i default)).2)])):
 PR 186 [.sl .no (Q0z a),.sl .no (Q0z b),.fn (.func g) [] caps] st (.tup [.sl .no (Q0z (U1h G a b).1),.sc (.int .i64 (U1h G a b).2)]):=by
 refine Q0b none Tryz.func186 rfl fun E=>Q0c (Q0a ?_);simp-dsimp only[go_sem,h1c,h1',h2c,h2',hfz];refine Z0l 0 ?_ ?_;simp-dsimp only[go_sem,h1c,h1',h2c,h2',hfz];simp-dsimp only[go_sem,h1c,h1',h2c,h2',hfz];refine Z0l 1 ?_ ?_;simp-dsimp only[go_sem,h1c,h1',h2c,h2',hfz];refine Q0a ?_;simp-dsimp only[go_sem,h1c,h1',h2c,h2',hfz];refine(G0f a st ha).q ?_;simp-dsimp only[go_sem,h1c,h1',h2c,h2',hfz];have bad: ∀st:Q0g,¬(rightB a=true/\rightB b=true/\a.length=b.length)->U1h G a b=([],1):=fun _ h=>if_neg h;refine gkF (fun h1=> ?_) (fun h1=> ?_);have r1:rightB a=true:=(by simpa using h1);simp-dsimp only[go_sem,h1c,h1',h2c,h2',hfz,r1];refine(G0f b st hb).q ?_;simp-dsimp only[go_sem,h1c,h1',h2c,h2',hfz,r1];refine gkF (fun h2=> ?_) (fun h2=> ?_);have r2:rightB b=true:=(by simpa using h2);simp-dsimp only[go_sem,h1c,h1',h2c,h2',hfz,r1,r2];refine ck (fun h3=> ?_) (fun h3=> ?_);have hne:=z0v h3;simp-dsimp only[go_sem,h1c,h1',h2c,h2',hfz];rw[bad st (fun h=>hne h.2.2)];rfl;have hl:=G0q h3;simp-dsimp only[go_sem,h1c,h1',h2c,h2',hfz];refine(k3i _ [.ep [.fn (.func g) [] caps] 0,.ep [.sl .no (Q0z b)] 0] (fun i x=>G x (b.getD i default)) a st rfl ha.1 rfl rfl rfl rfl rfl fun i hi=>G2r g caps G i _ b st hc oG h1c h1' h2c h2' hlim (h r1 r2 i hi oG)).q ?_;simp-dsimp only[go_sem,h1c,h1',h2c,h2',hfz];rw[U1h,if_pos ⟨r1,r2,hl⟩];have r2:rightB b=false:=(by simpa using h2);simp-dsimp only[go_sem,h1c,h1',h2c,h2',hfz,r1,r2];rw[bad st (fun h=>by simp[r2] at h)];rfl;have r1:rightB a=false:=(by simpa using h1);simp-dsimp only[go_sem,h1c,h1',h2c,h2',hfz,r1];rw[bad st (fun h=>by simp[r1] at h)];rfl
theorem H3e (g:FuncId)(caps:List PV)(F:Nat->Ivl->Nm×Int)(l:List Ivl)(st:Q0g)(hc:Q0e Tryz.prog g=true)(hl:l.length<=100000000000)(h1:caps.all PV.closed2=true)(h1':caps.all PV.closed1=true)(h2:caps.map PV.forget2=caps)(h2':caps.map PV.forget1=caps)(hlim:caps.all (PV.lim1 0 1)=true)
 (h: ∀i,i<l.length->PR g ([.sc (.int .i64 i),.agg (encI (l.getD i default))]++caps) st (.tup [.agg (encN (F i (l.getD i default)).1),.sc (.int .i64 (F i (l.getD i default)).2)])):
 PR 176 [.sl .no (Q0z l),.fn (.func g) [] caps] st (.tup [.sl .no (Q0t (V0d F 0 l []).1),.sc (.int .i64 (V0d F 0 l []).2)]):=by
 refine J4z Tryz.func176 fun E=> ?_;refine Z0j 6 3 ?_;refine K4w ?_;refine Q0d [false,true,false,false,false,false,true,false,false,false,false,true,true,true] 0 1 (fun n s=> ∃i o,n=l.length-i/\i<=l.length/\o.length=i/\V0d F 0 l []=V0d F i (l.drop i) o/\s=⟨[.junk,.fn (.func g) [] caps,.junk,.junk,.junk,.junk,.sl (.own 0) (Q0t o),.junk,.junk,.junk,.junk,.sl .no (Q0z l),.sc (.int .i64 l.length),.sc (.int .i64 i)]++jk 20,[],[(o.length,3)],st⟩) l.length ?_ ?_;simp-dsimp only[go_sem,hlim];exact⟨0,[],oG,oG,rfl,rfl,rfl⟩;rintro n s ⟨i,o,rfl,hi,ho,hr,rfl⟩;refine K4a (fun h'=> ?_) (fun h'=> ?_);have hlt:i<l.length:=(by have:=q_b h';omega);have e1:=Z0p l i hlt;have e3:IntKind.i64.wrap ((i:Int)+1)=((i+1:Nat):Int):=(by rw[Q0s _ oG oG];omega);have e4:=q0t F l i o hlt;simp-dsimp only[go_sem,e1,hc,h1,h2];refine⟨oG,?_⟩;refine(h i hlt).q ?_;simp-dsimp only[go_sem,e1];refine ck (fun h2=> ?_) (fun h2=> ?_);have hne:=W0z h2;refine K4w ?_;rw[hr,e4,if_pos hne];rfl;have he:=Y0n h2;simp-dsimp only[go_sem,e3,hlim];refine⟨oG,l.length-(i+1),oG,i+1,o++ [(F i (l.getD i default)).1],rfl,oG,by simp[ho],?_,?_⟩;rw[hr,e4,if_neg (fun hh=>hh he)];simp[Q0t,encN];have hge:i=l.length:=(by have:=q_c h';omega);refine K4w ?_;refine J4y ?_;rw[hr,hge,List.drop_length];rfl
theorem K3q (k:Nat)(a b:List Ivl)(p:Int):opB k a b p=U1h (fun x y=>opI k x y p) a b:=by
 unfold opB U1h;by_cases h:rightB a=true/\rightB b=true/\a.length=b.length;rw[if_pos h];cases hp:Z0b p with
 | true=>rw[if_pos ⟨h.1,h.2.1,h.2.2,rfl⟩]
 | false=>
  rw[if_neg (fun hh=>by simp at hh),W1j _ a (W0t h.1).1 1 (by decide) (fun i x=>by simp only[U3d hp])]
 rw[if_neg h,if_neg (fun hh=>h ⟨hh.1,hh.2.1,hh.2.2.1⟩)]
theorem j2e (x y:Ivl)(p:Int)(st:Q0g)(hx:wI x)(hy:wI y):PR 194 ([.agg (encI x),.agg (encI y)]++ [.ep [.sc (.int .i64 p)] 0]) st (.tup [.agg (encI (opI 0 x y p).1),.sc (.int .i64 (opI 0 x y p).2)]):=by refine J4z Tryz.func194 fun E=> ?_;refine(q2v x y p _ hx hy).Q0
theorem j2b (x y:Ivl)(p:Int)(st:Q0g)(hx:wI x)(hy:wI y):PR 187 ([.agg (encI x),.agg (encI y)]++ [.ep [.sc (.int .i64 p)] 0]) st (.tup [.agg (encI (opI 1 x y p).1),.sc (.int .i64 (opI 1 x y p).2)]):=by refine J4z Tryz.func187 fun E=> ?_;refine(q2t x y p _ hx hy).Q0
theorem J2u (a b:List Ivl)(p:Int)(st:Q0g)(ha:wB a)(hb:wB b):PR 125 [.sl .no (Q0z a),.sl .no (Q0z b),.sc (.int .i64 p)] st (.tup [.sl .no (Q0z (opB 0 a b p).1),.sc (.int .i64 (opB 0 a b p).2)]):=by rw[K3q];refine Q0b none Tryz.func125 rfl fun E=>Q0c (Q0a ?_);refine K4w ?_;refine Z0l 0 ?_ ?_;exact K4v;refine J4y ?_;refine(X2e _ [.ep [.sc (.int .i64 p)] 0] (fun x y=>opI 0 x y p) a b st rfl ha hb rfl rfl rfl rfl rfl (fun _ _=>rfl) fun _ _ i h1 h2=>j2e _ _ p st (ha.2 i h1) (hb.2 i h2)).Q0
theorem J2t (a b:List Ivl)(p:Int)(st:Q0g)(ha:wB a)(hb:wB b):PR 106 [.sl .no (Q0z a),.sl .no (Q0z b),.sc (.int .i64 p)] st (.tup [.sl .no (Q0z (opB 1 a b p).1),.sc (.int .i64 (opB 1 a b p).2)]):=by rw[K3q];refine Q0b none Tryz.func106 rfl fun E=>Q0c (Q0a ?_);refine K4w ?_;refine Z0l 0 ?_ ?_;exact K4v;refine J4y ?_;refine(X2e _ [.ep [.sc (.int .i64 p)] 0] (fun x y=>opI 1 x y p) a b st rfl ha hb rfl rfl rfl rfl rfl (fun _ _=>rfl) fun _ _ i h1 h2=>j2b _ _ p st (ha.2 i h1) (hb.2 i h2)).Q0
theorem j2d (i:Int)(a:Ivl)(p:Int)(st:Q0g)(ha:wI a):PR 177 ([.sc (.int .i64 i),.agg (encI a)]++ [.ep [.sc (.int .i64 p)] 0]) st (.tup [.agg (encN (midI a p).1),.sc (.int .i64 (midI a p).2)]):=by refine J4z Tryz.func177 fun E=> ?_;refine(G3d a p _ ha).Q0
theorem U3s (b:List Ivl)(p:Int)(h:rightB b=true):midB b p=V0d (fun _ a=>midI a p) 0 b []:=by
 unfold midB;cases hp:Z0b p with
 | true=>rw[if_pos ⟨h,rfl⟩]
 | false=>rw[if_neg (fun hh=>by simp at hh),W1j _ b (W0t h).1 1 (by decide) (fun i x=>by simp only[y2u hp])]
theorem z1a (b:List Ivl)(p:Int)(st:Q0g)(hb:wB b):PR 103 [.sl .no (Q0z b),.sc (.int .i64 p)] st (.tup [.sl .no (Q0t (midB b p).1),.sc (.int .i64 (midB b p).2)]):=by
 refine Q0b none Tryz.func103 rfl fun E=>Q0c (Q0a ?_);refine K4w ?_;refine Z0l 0 ?_ ?_;exact K4v;refine J4y ?_;refine(G0f b st hb).q ?_;cases r1:rightB b with
 | false=>
  refine K4w ?_;rw[midB,if_neg (by simp[r1])];rfl
 | true=>
  rw[U3s b p r1];refine K4w ?_;refine(H3e _ [.ep [.sc (.int .i64 p)] 0] (fun _ a=>midI a p) b st rfl hb.1 rfl rfl rfl rfl rfl fun i hi=>j2d _ _ p st (hb.2 i hi)).Q0
end Go.Pv
end
