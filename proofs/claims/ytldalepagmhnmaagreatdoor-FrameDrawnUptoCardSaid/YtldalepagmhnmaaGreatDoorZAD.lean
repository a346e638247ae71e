/- Parts of the walk: N13, N14. -/
import Derived.Test.YtldalepagmhnmaaGreatDoorZAB
import Derived.Test.YtldalepagmhnmaaGreatDoorZH
set_option linter.unusedVariables false
set_option linter.unusedSimpArgs false
section
set_option maxRecDepth 100000
namespace Go.Pv
open Go.Proofs
theorem q3j (a:Ivl)(x:Nm)(st:Q0f)(ha:wI a)(hx:wN x):PR 58 [.agg (encI a),.agg (encN x)] st (.sc (.bool (hasI a x))):=by
 refine Q0b none Tryz.func58 rfl fun E=>Q0a ?_;unfold hasI;refine Y4w ?_;refine(H0f a _ ha).q ?_;cases r1:Q0w a with
 | false=>simp-dsimp only[go_sem];try rfl
 | true=>
  refine Y4w ?_;refine(X0p x _ (by unfold wN at hx;omega)).q ?_;cases r2:Q0h x with
  | false=>simp-dsimp only[go_sem];try rfl
  | true=>
   have s1:=Z0n (Q0x r1).1;have s2:=Z0n (Q0x r1).2.1;have s3:=Z0n r2;refine Y4w ?_;refine(X1h a.lo x _ s1 s3).q ?_;cases c1:decide (cmpN a.lo x<=0) with
   | false=>simp-dsimp only[go_sem,c1];try rfl
   | true=>
    simp-dsimp only[go_sem,c1];refine(X1h x a.hi _ s3 s2).q ?_;simp-dsimp only[go_sem,c1]
    try rfl
theorem X3z (lo hi:Nm)(st:Q0f)(h1:wN lo)(h2:wN hi):PR 128 [.agg (encN lo),.agg (encN hi)] st (.tup [.agg (encI (x2b lo hi).1),.sc (.int .i64 (x2b lo hi).2)]):=by
 refine Q0b none Tryz.func128 rfl fun E=>Q0a ?_;unfold x2b;refine Y4w ?_;refine(H0f ⟨lo,hi⟩ _ ⟨h1,h2⟩).q ?_;cases r1:Q0w ⟨lo,hi⟩ with
 | false=>
  rw[if_neg (by simp)];simp-dsimp only[go_sem];try rfl
 | true=>
  rw[if_pos rfl];refine Y4w ?_;refine(v3h lo hi _ h1 h2).Q0
theorem V1y (a b:Ivl)(p:Int)(st:Q0f)(ha:wI a)(hb:wI b):PR 215 [.agg (encI a),.agg (encI b),.sc (.int .i64 p)] st (.sc (.bool (Q0w a&&Q0w b&&Z0c p))):=by
 refine W4y Tryz.func215 fun E=> ?_;refine(H0f a _ ha).q ?_;cases r1:Q0w a with
 | false=>simp-dsimp only[go_sem];try rfl
 | true=>
  refine Y4w ?_;refine(H0f b _ hb).q ?_;cases r2:Q0w b with
  | false=>simp-dsimp only[go_sem];try rfl
  | true=>
   refine Y4w ?_;refine(V0b p _).q ?_;simp-dsimp only[go_sem]
   try rfl
theorem J2s (v:Vl):(numV v).2=0\/numV v=(default,2):=by unfold numV;split;exact .inl rfl;split;exact .inr rfl;exact .inl rfl
theorem V1m (lo hi:Nm)(p:Nat)(st:Q0f)(hl:bd 1000000 1000000 lo)(hh:bd 1000000 1000000 hi)(hp0:0<p)(hp:p<=1000000000):PCalls Tryz.prog 234 [.agg (encN lo),.agg (encN hi),.sc (.int .i64 p)] st
 (fun r st'=>r= .tup [.agg (encI (x0t (Z0p (ofX lo) p false) (Z0p (ofX hi) p true)).1),.sc (.int .i64 (x0t (Z0p (ofX lo) p false) (Z0p (ofX hi) p true)).2)]/\st'=st):=by
 refine Q0b none Tryz.func234 rfl fun E=>Q0a ?_;unfold x0t;refine Y4w ?_;refine(k0l lo p false _ hl hp0 hp).Q ?_;refine ck (fun h=> ?_) (fun h=> ?_);have hne:=W0k h;refine Y4w ?_;rw[if_neg (fun hh=>hne hh.1)];rcases J2s (Z0p (ofX lo) p false) with e | e;exact absurd e hne;rw[e];rfl;have he:=W0y h;refine Y4w ?_;refine(k0l hi p true _ hh hp0 hp).Q ?_;refine ck (fun h=> ?_) (fun h=> ?_);have hne:=W0k h;refine Y4w ?_;rw[if_neg (fun hh=>hne hh.2)];rcases J2s (Z0p (ofX hi) p true) with e | e;exact absurd e hne;rw[e];rfl;have he2:=W0y h;refine Y4w ?_;rw[if_pos ⟨he,he2⟩]
 try rfl
theorem x2q (a b:Ivl)(p:Int)(st:Q0f)(ha:wI a)(hb:wI b):PR 167 [.agg (encI a),.agg (encI b),.sc (.int .i64 p)] st (.tup [.agg (encI (opI 0 a b p).1),.sc (.int .i64 (opI 0 a b p).2)]):=by refine W4y Tryz.func167 fun E=> ?_;refine(V1y a b p _ ha hb).Q ?_;refine ck (fun h=> ?_) (fun h=> ?_);refine Y4w ?_;rw[opI,if_neg (fun hh=>by simp[hh.1,hh.2.1,hh.2.2] at h)];rfl;have hv:Q0w a=true/\Q0w b=true/\Z0c p=true:=(by simpa[and_assoc] using h);obtain⟨r1,r2,r3⟩:=hv;obtain⟨q,rfl,q1,q2,q3⟩:=K0c r3;obtain⟨a1,a2,_⟩:=Q0x r1;obtain⟨b1,b2,_⟩:=Q0x r2;refine Y4w ?_;refine Q0k Z0b 28 (X2p [0,1,2,3,5,6,7,8,10] (.step 4 [6,8] (X2p [9,11,12,13,14,15] .done))) (by decide+kernel) (by simp) ?_;refine Y4w ?_;refine(q3y a.lo b.lo a1 b1 _).mono ?_;rintro r st ⟨y,y1,y2,rfl,rfl⟩;refine Y4w ?_;refine(q3y a.hi b.hi a2 b2 _).mono ?_;rintro r st ⟨z,z1,z2,rfl,rfl⟩;refine Y4w ?_;refine(V1m y z q _ y1 z1 oG oG).q ?_;have ca:=canI r1;have cb:=canI r2;have e1:ofX y=loV 0 (ofN a.lo) (ofN a.hi) (ofN b.lo) (ofN b.hi):=X1z (z1s 0 ca.1 ca.2 cb.1 cb.2) (by rw[y2,exQ0,loV0,j0l];rfl);have e2:ofX z=hiV 0 (ofN a.lo) (ofN a.hi) (ofN b.lo) (ofN b.hi):=X1z (z1u 0 ca.1 ca.2 cb.1 cb.2) (by rw[z2,exQ0,hiV0,j0l];rfl);refine Y4w ?_;rw[opI,if_pos ⟨r1,r2,r3⟩,e1,e2,q3]
theorem x2o (a b:Ivl)(p:Int)(st:Q0f)(ha:wI a)(hb:wI b):PR 188 [.agg (encI a),.agg (encI b),.sc (.int .i64 p)] st (.tup [.agg (encI (opI 1 a b p).1),.sc (.int .i64 (opI 1 a b p).2)]):=by refine W4y Tryz.func188 fun E=> ?_;refine(V1y a b p _ ha hb).Q ?_;refine ck (fun h=> ?_) (fun h=> ?_);refine Y4w ?_;rw[opI,if_neg (fun hh=>by simp[hh.1,hh.2.1,hh.2.2] at h)];rfl;have hv:Q0w a=true/\Q0w b=true/\Z0c p=true:=(by simpa[and_assoc] using h);obtain⟨r1,r2,r3⟩:=hv;obtain⟨q,rfl,q1,q2,q3⟩:=K0c r3;obtain⟨a1,a2,_⟩:=Q0x r1;obtain⟨b1,b2,_⟩:=Q0x r2;refine Y4w ?_;refine Q0k Z0b 28 (X2p [0,1,2,3,5,6,7,8,10] (.step 4 [6,8] (X2p [9,11,12,13,14,15] .done))) (by decide+kernel) (by simp) ?_;refine Y4w ?_;refine(q3x a.lo b.hi a1 b2 _).mono ?_;rintro r st ⟨y,y1,y2,rfl,rfl⟩;refine Y4w ?_;refine(q3x a.hi b.lo a2 b1 _).mono ?_;rintro r st ⟨z,z1,z2,rfl,rfl⟩;refine Y4w ?_;refine(V1m y z q _ y1 z1 oG oG).q ?_;have ca:=canI r1;have cb:=canI r2;have e1:ofX y=loV 1 (ofN a.lo) (ofN a.hi) (ofN b.lo) (ofN b.hi):=X1z (z1s 1 ca.1 ca.2 cb.1 cb.2) (by rw[y2,exQ1,loV1,v0t];rfl);have e2:ofX z=hiV 1 (ofN a.lo) (ofN a.hi) (ofN b.lo) (ofN b.hi):=X1z (z1u 1 ca.1 ca.2 cb.1 cb.2) (by rw[z2,exQ1,hiV1,v0t];rfl);refine Y4w ?_;rw[opI,if_pos ⟨r1,r2,r3⟩,e1,e2,q3]
theorem q3i (a:Ivl)(p:Int)(st:Q0f)(ha:wI a):PR 178 [.agg (encI a),.sc (.int .i64 p)] st (.tup [.agg (encN (midI a p).1),.sc (.int .i64 (midI a p).2)]):=by
 refine W4y Tryz.func178 fun E=> ?_;refine(H0f a _ ha).q ?_;cases r1:Q0w a with
 | false=>
  refine Y4w ?_;rw[midI,if_neg (by simp[r1])];rfl
 | true=>
  refine Y4w ?_;refine(V0b p _).q ?_;cases r3:Z0c p with
  | false=>
   refine Y4w ?_;rw[midI,if_neg (by simp[r3])];rfl
  | true=>
   obtain⟨q,rfl,q1,q2,q3⟩:=K0c r3;obtain⟨a1,a2,_⟩:=Q0x r1;have ca:=canI r1;have hm:midI a q=if W0g (midV a q) (ofN a.lo)<0 then(a.lo,0) else numV (midV a q):=(by rw[midI,if_pos ⟨r1,r3⟩,q3]);rw[hm];refine Y4w ?_;refine Q0k Z0b 36 (X2p [0,1,2,3,4,5,8] (.alt (.step 6 [1] (.alt (.step 7 [1] (.alt (.step 9 [1] (.alt (.step 10 [3,5] (.step 11 [1,3,5] (.step 12 [] (.done)))) (.step 11 [1,3,5] (.step 10 [3,5] (.step 12 [] (.done)))))) (.step 11 [1,3,5] (.step 9 [1] (.step 10 [3,5] (.step 12 [] (.done))))))) (.step 11 [1,3,5] (.step 7 [1] (.step 9 [1] (.step 10 [3,5] (.step 12 [] (.done)))))))) (.step 11 [1,3,5] (.step 6 [1] (.step 7 [1] (.step 9 [1] (.step 10 [3,5] (.step 12 [] (.done))))))))) (by decide+kernel) (by simp) ?_;refine Y4w ?_;refine And.intro ?_ ?_
   all_goals
    refine(Q2z a.lo a.hi 64 65536 _ (X0a a1) (X0a a2) oG oG).mono ?_;rintro r st ⟨y,y1,y2,rfl,rfl⟩;have b1:=y1.1;have b2:=y1.2.1;have b3:=y1.2.2;have e1:ofX { y with exp:=y.exp-1 } =Q1e (Y0n (ofN a.lo) (ofN a.hi)):=Z3b (H0l ca.1 ca.2) (by rw[y2,j0l];rfl);simp-dsimp only[go_sem]
    try refine And.intro ?_ ?_
    all_goals
     refine(K3d y _ oG oG).q ?_;have hbd:bd 65601 65537 { y with exp:=y.exp-1 } :=⟨b1,by simp only;omega,by simp only;omega⟩;generalize ({ y with exp:=y.exp-1 } :Nm)=z at*
     have c1:=hbd.1;have c2:=hbd.2.1;have c3:=hbd.2.2;have hz:=H2j z q false _ _ hbd;have e2:ofX (rndX z q false)=midV a q:=(by rw[X2r z q false oG,e1];rfl);simp-dsimp only[go_sem]
     try refine And.intro ?_ ?_
     all_goals
      refine(U1t z q false _ oG oG oG oG).q ?_;generalize rndX z q false=x at*
      have d1:=hz.1;have d2:=hz.2.1;have d3:=hz.2.2;have hs:sm x:=⟨oG,oG,oG⟩;have hg:sm (J0c a.lo x):=Q1g (Z0n a1) hs;have e3:=k1l (p:=q) r1 e2;simp-dsimp only[go_sem]
      try refine And.intro ?_ ?_
      all_goals
       refine(X1c a.lo x _ (Z0n a1) hs).q ?_;generalize J0c a.lo x=g at*
       have g1:=hg.1;have g2:=hg.2.1;have g3:=hg.2.2;refine Y4w ?_;refine(y0u g.neg g.w g.exp _ oG oG oG).q ?_;rw[Q2k,e3];simp-dsimp only[go_sem]
theorem q1w (x a b:Nm)(i j:Nat)(st:Q0f)(hij:i≠j)(hi:st.getD i []=encN a)(hj:st.getD j []=encN b)(hx:sm x)(ha:sm a)(hb:sm b):
 PCalls Tryz.prog 231 ([.agg (encN x)]++ [.gp i 0,.gp j 0]) st (fun r st'=>r= .tup []/\st'=(st.set i (encN (K0j a x))).set j (encN (J0c b x))):=by
 refine Q0b none Tryz.func231 rfl fun E=>Q0a ?_;unfold encN at hi hj;refine Y4w ?_;refine Q0k Z0b 10 (X2p [0,1,3,4] (.step 2 [3,4] (X2p [5,6,7] .done))) (by decide+kernel) (by simp) ?_;simp-dsimp only[go_sem,hi,hj];refine(q3f a x _ ha hx).q ?_;simp-dsimp only[go_sem,hi,hj];refine(X1c b x _ hb hx).q ?_;simp-dsimp only[go_sem,hi,hj];rw[Q0l _ _ _ _ _ hij,hj];exact⟨⟨by simp,by simp⟩,rfl⟩
theorem V2c (n:Nat)(x:Nm):Bnd n (.agg (encN x)):=by
 refine .agg _ fun j hj=> ?_
 match j,hj with
 | 0,_=>exact .sc _
 | 1,_=>exact .sc _
 | 2,_=>
  refine .sl _ _ 1 (fun i hi=> ?_) (fun i j hi hj=> ?_);rw[Z0z] at hi;rw[Z0m x.w i hi];rfl;rw[Z0z] at hi;rw[Z0m x.w i hi];have:j=0:=oG;subst this;exact .sc _
theorem V3k (n:Nat)(x:Ivl): ∀j,j<(encI x).length->Bnd n ((encI x).getD j .junk):=fun j hj=>by
 have h1:=V2c n x.lo;have h2:=V2c n x.hi;cases h1 with
 | agg _ h1=>
  cases h2 with
  | agg _ h2=>
   match j,hj with
   | 0,_=>exact h1 0 (show _<3 by omega)
   | 1,_=>exact h1 1 (show _<3 by omega)
   | 2,_=>exact h1 2 (show _<3 by omega)
   | 3,_=>exact h2 0 (show _<3 by omega)
   | 4,_=>exact h2 1 (show _<3 by omega)
   | 5,_=>exact h2 2 (show _<3 by omega)
theorem w1m (n:Nat)(x:Ivl)(e:Int):Bnd n (.tup [.agg (encI x),.sc (.int .i64 e)]):=by
 refine .tup _ fun j hj=> ?_
 match j,hj with
 | 0,_=>exact .agg _ (V3k n x)
 | 1,_=>exact .sc _
theorem X2i (st:Q0f)(l h:List PV):(st++ [l]++ [h]).getD st.length []=l:=by rw[List.append_assoc,q_a,List.getElem?_append_right (Nat.le_refl _)];simp
theorem X2j (st:Q0f)(l h:List PV):(st++ [l]++ [h]).getD (st.length+1) []=h:=by rw[List.append_assoc,q_a,List.getElem?_append_right oG];simp
theorem y1g (st:Q0f)(l h l' h':List PV):((st++ [l]++ [h]).set st.length l').set (st.length+1) h'=st++ [l']++ [h']:=by rw[List.append_assoc,List.set_append_right _ _ (Nat.le_refl _),List.set_append_right _ _ oG];simp
theorem x1u {n k:Nat}{x:Nm}(h:bd n k x)(h1:n<=1000000)(h2:k<=1000000000):sm x:=⟨by have:=h.1;omega,by have:=h.2.1;omega,by have:=h.2.2;omega⟩
theorem V1x {n k:Nat}{a b:Nm}(ha:bd n k a)(hb:bd n k b):bd n k (K0j a b):=x2k ha hb
theorem W1g {n k:Nat}{a b:Nm}(ha:bd n k a)(hb:bd n k b):bd n k (J0c a b):=Q1g ha hb
theorem q3h (a b:Ivl)(p:Int)(st:Q0f)(ha:wI a)(hb:wI b):PR 166 [.agg (encI a),.agg (encI b),.sc (.int .i64 p)] st (.tup [.agg (encI (opI 2 a b p).1),.sc (.int .i64 (opI 2 a b p).2)]):=by
 refine PCalls.drop ?_;refine Q0b none Tryz.func166 rfl fun E=>Q0d (Q0a ?_);refine Y4w ?_;refine W4t ?_;refine(V1y a b p _ ha hb).Q ?_;refine ck (fun h=> ?_) (fun h=> ?_);refine Y4w ?_;refine⟨w1m _ default 1,[],(List.append_nil _).symm,?_⟩;rw[opI,if_neg (fun hh=>by simp[hh.1,hh.2.1,hh.2.2] at h)];rfl;have hv:Q0w a=true/\Q0w b=true/\Z0c p=true:=(by simpa[and_assoc] using h);obtain⟨r1,r2,r3⟩:=hv;obtain⟨q,rfl,q1,q2,q3⟩:=K0c r3;obtain⟨a1,a2,_⟩:=Q0x r1;obtain⟨b1,b2,_⟩:=Q0x r2;refine Y4w ?_;refine W4t ?_;refine(W1u a.lo b.lo 64 65536 64 65536 _ (X0a a1) (X0a b1) oG oG oG oG).mono ?_;rintro r st ⟨y1,y1b,y1q,rfl,rfl⟩;refine Y4w ?_;refine W4t ?_;refine H0w 3 (by simp[go_sem]) (by simp) ?_;refine Y4w ?_;refine H0w 4 (by simp[go_sem]) (by simp) (Q0a ?_);refine Y4w ?_;have s1:=x1u y1b oG oG;refine(W1u a.lo b.hi 64 65536 64 65536 _ (X0a a1) (X0a b2) oG oG oG oG).mono ?_;rintro r st2 ⟨y2,y2b,y2q,rfl,rfl⟩;have s2:=x1u y2b oG oG;refine Y4w ?_;refine(q1w y2 y1 y1 st.length (st.length+1) _ oG (X2i _ _ _) (X2j _ _ _) s2 s1 s1).w ?_;rintro st3 rfl;rw[y1g];have l2:=V1x y1b y2b;have g2:=W1g y1b y2b;have l2s:=x1u l2 oG oG;have g2s:=x1u g2 oG oG;refine Y4w ?_;refine(W1u a.hi b.lo 64 65536 64 65536 _ (X0a a2) (X0a b1) oG oG oG oG).mono ?_;rintro r st3 ⟨y3,y3b,y3q,rfl,rfl⟩;have s3:=x1u y3b oG oG;refine Y4w ?_;refine(q1w y3 (K0j y1 y2) (J0c y1 y2) st.length (st.length+1) _ oG (X2i _ _ _) (X2j _ _ _) s3 l2s g2s).w ?_;rintro st4 rfl;rw[y1g];have l3:=V1x l2 y3b;have g3:=W1g g2 y3b;have l3s:=x1u l3 oG oG;have g3s:=x1u g3 oG oG;refine Y4w ?_;refine(W1u a.hi b.hi 64 65536 64 65536 _ (X0a a2) (X0a b2) oG oG oG oG).mono ?_;rintro r st4 ⟨y4,y4b,y4q,rfl,rfl⟩;have s4:=x1u y4b oG oG;refine Y4w ?_;refine(q1w y4 (K0j (K0j y1 y2) y3) (J0c (J0c y1 y2) y3) st.length (st.length+1) _ oG (X2i _ _ _) (X2j _ _ _) s4 l3s g3s).w ?_;rintro st5 rfl;rw[y1g];have l4:=V1x l3 y4b;have g4:=W1g g3 y4b;have e1:=Y2x r1 r2 y1q y2q y3q y4q;have e2:=z1a r1 r2 y1q y2q y3q y4q;generalize K0j (K0j (K0j y1 y2) y3) y4=L at*
 generalize J0c (J0c (J0c y1 y2) y3) y4=H at*
 have hL:=X2i st (encN L) (encN H);have hH:=X2j st (encN L) (encN H);unfold encN at hL hH⊢;simp-dsimp only[go_sem,hL,hH];refine(V1m L H q _ (l4.mono oG oG) (g4.mono oG oG) oG oG).w ?_;rintro st6 rfl;have hm:opI 2 a b q=x0t (Z0p (ofX L) q false) (Z0p (ofX H) q true):=(by rw[opI,if_pos ⟨r1,r2,r3⟩,e1,e2,q3]);rw[hm];simp-dsimp only[go_sem,hL,hH];exact⟨w1m _ _ _,_,List.append_assoc _ _ _⟩
theorem q2o (g:FuncId)(caps:List PV)(G:Ivl->Ivl->Ivl×Int)(i:Nat)(x:Ivl)(b:List Ivl)(st:Q0f)(hc:Q0c Tryz.prog g=true)(hi:i<b.length)
 (h1c:caps.all PV.closed2=true) (h1':caps.all PV.closed1=true) (h2c:caps.map PV.forget2=caps) (h2':caps.map PV.forget1=caps) (hlim:caps.all (PV.lim1 0 1)=true)
 (h:PR g ([.agg (encI x),.agg (encI (b.getD i default))]++caps) st (.tup [.agg (encI (G x (b.getD i default)).1),.sc (.int .i64 (G x (b.getD i default)).2)])):
 PR 253 ([.sc (.int .i64 i),.agg (encI x)]++ [.ep [.fn (.func g) [] caps] 0,.ep [.sl .no (Q0z b)] 0]) st (.tup [.agg (encI (G x (b.getD i default)).1),.sc (.int .i64 (G x (b.getD i default)).2)]):=by
 refine W4y Tryz.func253 fun E=> ?_;have e1:=Z0q b i hi;refine Q0k Z0b 17 (X2p [0,1,2,3,4,5,6,7,8,9,10] .done) (by decide+kernel) (by simp) ?_;simp-dsimp only[go_sem,e1,hc,h1c,h1',h2c,h2'];refine⟨oG,?_⟩;refine h.Q0
theorem J2k (g:FuncId)(caps:List PV)(G:Ivl->Ivl->Ivl×Int)(a b:List Ivl)(st:Q0f)(hc:Q0c Tryz.prog g=true)(ha:wB a)(hb:wB b)(h1c:caps.all PV.closed2=true)(h1':caps.all PV.closed1=true)(h2c:caps.map PV.forget2=caps)(h2':caps.map PV.forget1=caps)(hlim:caps.all (PV.lim1 0 1)=true)(hfz: ∀i cs,caps.map (PV.frz1 i cs)=caps)
 (h:rightB a=true->rightB b=true-> ∀i,i<a.length->i<b.length->PR g ([.agg (encI (a.getD i default)),.agg (encI (b.getD i default))]++caps) st (.tup [.agg (encI (G (a.getD i default) (b.getD i default)).1),.sc (.int .i64 (G (a.getD i default) (b.getD i default)).2)])):
 PR 186 [.sl .no (Q0z a),.sl .no (Q0z b),.fn (.func g) [] caps] st (.tup [.sl .no (Q0z (U1y G a b).1),.sc (.int .i64 (U1y G a b).2)]):=by
 refine Q0b none Tryz.func186 rfl fun E=>Q0d (Q0a ?_);simp-dsimp only[go_sem,h1c,h1',h2c,h2',hfz];refine Z0j 0 ?_ ?_;simp-dsimp only[go_sem,h1c,h1',h2c,h2',hfz];simp-dsimp only[go_sem,h1c,h1',h2c,h2',hfz];refine Z0j 1 ?_ ?_;simp-dsimp only[go_sem,h1c,h1',h2c,h2',hfz];refine Q0a ?_;simp-dsimp only[go_sem,h1c,h1',h2c,h2',hfz];refine(G0s a st ha).q ?_;simp-dsimp only[go_sem,h1c,h1',h2c,h2',hfz];have bad: ∀st:Q0f,¬(rightB a=true/\rightB b=true/\a.length=b.length)->U1y G a b=([],1):=fun _ h=>if_neg h;refine gkF (fun h1=> ?_) (fun h1=> ?_);have r1:rightB a=true:=(by simpa using h1);simp-dsimp only[go_sem,h1c,h1',h2c,h2',hfz,r1];refine(G0s b st hb).q ?_;simp-dsimp only[go_sem,h1c,h1',h2c,h2',hfz,r1];refine gkF (fun h2=> ?_) (fun h2=> ?_);have r2:rightB b=true:=(by simpa using h2);simp-dsimp only[go_sem,h1c,h1',h2c,h2',hfz,r1,r2];refine ck (fun h3=> ?_) (fun h3=> ?_);have hne:=x0m h3;simp-dsimp only[go_sem,h1c,h1',h2c,h2',hfz];rw[bad st (fun h=>hne h.2.2)];rfl;have hl:=H0b h3;simp-dsimp only[go_sem,h1c,h1',h2c,h2',hfz];refine(w3t _ [.ep [.fn (.func g) [] caps] 0,.ep [.sl .no (Q0z b)] 0] (fun i x=>G x (b.getD i default)) a st rfl ha.1 rfl rfl rfl rfl rfl fun i hi=>q2o g caps G i _ b st hc oG h1c h1' h2c h2' hlim (h r1 r2 i hi oG)).q ?_;simp-dsimp only[go_sem,h1c,h1',h2c,h2',hfz];rw[U1y,if_pos ⟨r1,r2,hl⟩];have r2:rightB b=false:=(by simpa using h2);simp-dsimp only[go_sem,h1c,h1',h2c,h2',hfz,r1,r2];rw[bad st (fun h=>by simp[r2] at h)];rfl;have r1:rightB a=false:=(by simpa using h1);simp-dsimp only[go_sem,h1c,h1',h2c,h2',hfz,r1];rw[bad st (fun h=>by simp[r1] at h)];rfl
theorem z3j (g:FuncId)(caps:List PV)(F:Nat->Ivl->Nm×Int)(l:List Ivl)(st:Q0f)(hc:Q0c Tryz.prog g=true)(hl:l.length<=100000000000)(h1:caps.all PV.closed2=true)(h1':caps.all PV.closed1=true)(h2:caps.map PV.forget2=caps)(h2':caps.map PV.forget1=caps)(hlim:caps.all (PV.lim1 0 1)=true)
 (h: ∀i,i<l.length->PR g ([.sc (.int .i64 i),.agg (encI (l.getD i default))]++caps) st (.tup [.agg (encN (F i (l.getD i default)).1),.sc (.int .i64 (F i (l.getD i default)).2)])):
 PR 176 [.sl .no (Q0z l),.fn (.func g) [] caps] st (.tup [.sl .no (Q0u (V0g F 0 l []).1),.sc (.int .i64 (V0g F 0 l []).2)]):=by
 refine W4y Tryz.func176 fun E=> ?_;refine Z0d 6 3 ?_;refine Y4w ?_;refine Q0e [false,true,false,false,false,false,true,false,false,false,false,true,true,true] 0 1 (fun n s=> ∃i o,n=l.length-i/\i<=l.length/\o.length=i/\V0g F 0 l []=V0g F i (l.drop i) o/\s=⟨[.junk,.fn (.func g) [] caps,.junk,.junk,.junk,.junk,.sl (.own 0) (Q0u o),.junk,.junk,.junk,.junk,.sl .no (Q0z l),.sc (.int .i64 l.length),.sc (.int .i64 i)]++jk 20,[],[(o.length,3)],st⟩) l.length ?_ ?_;simp-dsimp only[go_sem,hlim];exact⟨0,[],oG,oG,rfl,rfl,rfl⟩;rintro n s ⟨i,o,rfl,hi,ho,hr,rfl⟩;refine W4z (fun h'=> ?_) (fun h'=> ?_);have hlt:i<l.length:=(by have:=q_b h';omega);have e1:=Z0q l i hlt;have e3:IntKind.i64.wrap ((i:Int)+1)=((i+1:Nat):Int):=(by rw[Q0q _ oG oG];omega);have e4:=z0k F l i o hlt;simp-dsimp only[go_sem,e1,hc,h1,h2];refine⟨oG,?_⟩;refine(h i hlt).q ?_;simp-dsimp only[go_sem,e1];refine ck (fun h2=> ?_) (fun h2=> ?_);have hne:=W0k h2;refine Y4w ?_;rw[hr,e4,if_pos hne];rfl;have he:=W0y h2;simp-dsimp only[go_sem,e3,hlim];refine⟨oG,l.length-(i+1),oG,i+1,o++ [(F i (l.getD i default)).1],rfl,oG,by simp[ho],?_,?_⟩;rw[hr,e4,if_neg (fun hh=>hh he)];simp[Q0u,encN];have hge:i=l.length:=(by have:=q_c h';omega);refine Y4w ?_;refine W4u ?_;rw[hr,hge,List.drop_length];rfl
theorem W3w (k:Nat)(a b:List Ivl)(p:Int):opB k a b p=U1y (fun x y=>opI k x y p) a b:=by
 unfold opB U1y;by_cases h:rightB a=true/\rightB b=true/\a.length=b.length;rw[if_pos h];cases hp:Z0c p with
 | true=>rw[if_pos ⟨h.1,h.2.1,h.2.2,rfl⟩]
 | false=>
  rw[if_neg (fun hh=>by simp at hh),W1w _ a (Y0b h.1).1 1 (by decide) (fun i x=>by simp only[H3g hp])]
 rw[if_neg h,if_neg (fun hh=>h ⟨hh.1,hh.2.1,hh.2.2.1⟩)]
theorem v2e (x y:Ivl)(p:Int)(st:Q0f)(hx:wI x)(hy:wI y):PR 194 ([.agg (encI x),.agg (encI y)]++ [.ep [.sc (.int .i64 p)] 0]) st (.tup [.agg (encI (opI 0 x y p).1),.sc (.int .i64 (opI 0 x y p).2)]):=by refine W4y Tryz.func194 fun E=> ?_;refine(x2q x y p _ hx hy).Q0
theorem v2b (x y:Ivl)(p:Int)(st:Q0f)(hx:wI x)(hy:wI y):PR 187 ([.agg (encI x),.agg (encI y)]++ [.ep [.sc (.int .i64 p)] 0]) st (.tup [.agg (encI (opI 1 x y p).1),.sc (.int .i64 (opI 1 x y p).2)]):=by refine W4y Tryz.func187 fun E=> ?_;refine(x2o x y p _ hx hy).Q0
theorem V2b (a b:List Ivl)(p:Int)(st:Q0f)(ha:wB a)(hb:wB b):PR 125 [.sl .no (Q0z a),.sl .no (Q0z b),.sc (.int .i64 p)] st (.tup [.sl .no (Q0z (opB 0 a b p).1),.sc (.int .i64 (opB 0 a b p).2)]):=by rw[W3w];refine Q0b none Tryz.func125 rfl fun E=>Q0d (Q0a ?_);refine Y4w ?_;refine Z0j 0 ?_ ?_;exact Y4v;refine W4u ?_;refine(J2k _ [.ep [.sc (.int .i64 p)] 0] (fun x y=>opI 0 x y p) a b st rfl ha hb rfl rfl rfl rfl rfl (fun _ _=>rfl) fun _ _ i h1 h2=>v2e _ _ p st (ha.2 i h1) (hb.2 i h2)).Q0
theorem V2a (a b:List Ivl)(p:Int)(st:Q0f)(ha:wB a)(hb:wB b):PR 106 [.sl .no (Q0z a),.sl .no (Q0z b),.sc (.int .i64 p)] st (.tup [.sl .no (Q0z (opB 1 a b p).1),.sc (.int .i64 (opB 1 a b p).2)]):=by rw[W3w];refine Q0b none Tryz.func106 rfl fun E=>Q0d (Q0a ?_);refine Y4w ?_;refine Z0j 0 ?_ ?_;exact Y4v;refine W4u ?_;refine(J2k _ [.ep [.sc (.int .i64 p)] 0] (fun x y=>opI 1 x y p) a b st rfl ha hb rfl rfl rfl rfl rfl (fun _ _=>rfl) fun _ _ i h1 h2=>v2b _ _ p st (ha.2 i h1) (hb.2 i h2)).Q0
theorem v2d (i:Int)(a:Ivl)(p:Int)(st:Q0f)(ha:wI a):PR 177 ([.sc (.int .i64 i),.agg (encI a)]++ [.ep [.sc (.int .i64 p)] 0]) st (.tup [.agg (encN (midI a p).1),.sc (.int .i64 (midI a p).2)]):=by refine W4y Tryz.func177 fun E=> ?_;refine(q3i a p _ ha).Q0
theorem H3x (b:List Ivl)(p:Int)(h:rightB b=true):midB b p=V0g (fun _ a=>midI a p) 0 b []:=by
 unfold midB;cases hp:Z0c p with
 | true=>rw[if_pos ⟨h,rfl⟩]
 | false=>rw[if_neg (fun hh=>by simp at hh),W1w _ b (Y0b h).1 1 (by decide) (fun i x=>by simp only[X3b hp])]
theorem z1w (b:List Ivl)(p:Int)(st:Q0f)(hb:wB b):PR 103 [.sl .no (Q0z b),.sc (.int .i64 p)] st (.tup [.sl .no (Q0u (midB b p).1),.sc (.int .i64 (midB b p).2)]):=by
 refine Q0b none Tryz.func103 rfl fun E=>Q0d (Q0a ?_);refine Y4w ?_;refine Z0j 0 ?_ ?_;exact Y4v;refine W4u ?_;refine(G0s b st hb).q ?_;cases r1:rightB b with
 | false=>
  refine Y4w ?_;rw[midB,if_neg (by simp[r1])];rfl
 | true=>
  rw[H3x b p r1];refine Y4w ?_;refine(z3j _ [.ep [.sc (.int .i64 p)] 0] (fun _ a=>midI a p) b st rfl hb.1 rfl rfl rfl rfl rfl fun i hi=>v2d _ _ p st (hb.2 i hi)).Q0
end Go.Pv
end
