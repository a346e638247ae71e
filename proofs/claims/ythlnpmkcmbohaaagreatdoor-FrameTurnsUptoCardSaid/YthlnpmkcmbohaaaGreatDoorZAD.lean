/- Parts of the walk: N13, N14. -/
import Derived.Test.YthlnpmkcmbohaaaGreatDoorZAB
import Derived.Test.YthlnpmkcmbohaaaGreatDoorZH
set_option linter.unusedVariables false
set_option linter.unusedSimpArgs false
section
set_option maxRecDepth 100000
namespace Go.Pv
open Go.Proofs
theorem x0j (a:Ivl)(x:Nm)(st:Qf)(ha:wI a)(hx:wN x):PR 34 [.agg (ZQ a),.agg (Q9 x)] st (.sc (.bool (qm a x))):=by
 refine Qb none Tryz.func34 rfl fun E=>Qa ?_;unfold qm;refine G2s ?_;refine(XS a _ ha).q ?_;cases r1:Qs a with
 | false=>simp-dsimp only[go_sem];try rfl
 | true=>
  refine G2s ?_;refine(Zh x _ (by unfold wN at hx;omega)).q ?_;cases r2:Qg x with
  | false=>simp-dsimp only[go_sem];try rfl
  | true=>
   have s1:=Q6 (Q1 r1).1;have s2:=Q6 (Q1 r1).2.1;have s3:=Q6 r2;refine G2s ?_;refine(WC a.lo x _ s1 s3).q ?_;cases c1:decide (VP a.lo x<=0) with
   | false=>simp-dsimp only[go_sem,c1];try rfl
   | true=>
    simp-dsimp only[go_sem,c1];refine(WC x a.hi _ s3 s2).q ?_;simp-dsimp only[go_sem,c1]
    try rfl
theorem J1e (lo hi:Nm)(st:Qf)(h1:wN lo)(h2:wN hi):PR 143 [.agg (Q9 lo),.agg (Q9 hi)] st (.tup [.agg (ZQ (z0u lo hi).1),.sc (.int .i64 (z0u lo hi).2)]):=by
 refine Qb none Tryz.func143 rfl fun E=>Qa ?_;unfold z0u;refine G2s ?_;refine(XS ⟨lo,hi⟩ _ ⟨h1,h2⟩).q ?_;cases r1:Qs ⟨lo,hi⟩ with
 | false=>
  rw[BA (by simp)];simp-dsimp only[go_sem];try rfl
 | true=>
  rw[BC rfl];refine G2s ?_;refine(v1u lo hi _ h1 h2).Q0
theorem qk (a b:Ivl)(p:Int)(st:Qf)(ha:wI a)(hb:wI b):PR 146 [.agg (ZQ a),.agg (ZQ b),.sc (.int .i64 p)] st (.sc (.bool (Qs a&&Qs b&&Q4 p))):=by
 refine U2m Tryz.func146 fun E=> ?_;refine(XS a _ ha).q ?_;cases r1:Qs a with
 | false=>simp-dsimp only[go_sem];try rfl
 | true=>
  refine G2s ?_;refine(XS b _ hb).q ?_;cases r2:Qs b with
  | false=>simp-dsimp only[go_sem];try rfl
  | true=>
   refine G2s ?_;refine(Xp p _).q ?_;simp-dsimp only[go_sem]
   try rfl
theorem J0l (v:Vl):(Kg v).2=0\/Kg v=(default,2):=by unfold Kg;split;exact .inl rfl;split;exact .inr rfl;exact .inl rfl
theorem IR (lo hi:Nm)(p:Nat)(st:Qf)(hl:bd 1000000 1000000 lo)(hh:bd 1000000 1000000 hi)(hp0:0<p)(hp:p<=1000000000):PCalls Tryz.prog 147 [.agg (Q9 lo),.agg (Q9 hi),.sc (.int .i64 p)] st
 (fun r st'=>r= .tup [.agg (ZQ (WD (QX (ofX lo) p false) (QX (ofX hi) p true)).1),.sc (.int .i64 (WD (QX (ofX lo) p false) (QX (ofX hi) p true)).2)]/\st'=st):=by
 refine Qb none Tryz.func147 rfl fun E=>Qa ?_;unfold WD;refine G2s ?_;refine(Yd lo p false _ hl hp0 hp).Q ?_;refine ck (fun h=> ?_) (fun h=> ?_);have hne:=VT h;refine G2s ?_;rw[BA (fun hh=>hne hh.1)];rcases J0l (QX (ofX lo) p false) with e | e;exact absurd e hne;rw[e];rfl
 . have he:=Wh h;refine G2s ?_;refine(Yd hi p true _ hh hp0 hp).Q ?_;refine ck (fun h=> ?_) (fun h=> ?_);have hne:=VT h;refine G2s ?_;rw[BA (fun hh=>hne hh.2)];rcases J0l (QX (ofX hi) p true) with e | e;exact absurd e hne;rw[e];rfl
   . have he2:=Wh h;refine G2s ?_;rw[BC ⟨he,he2⟩]
     try rfl
theorem x0k (a b:Ivl)(p:Int)(st:Qf)(ha:wI a)(hb:wI b):PR 119 [.agg (ZQ a),.agg (ZQ b),.sc (.int .i64 p)] st (.tup [.agg (ZQ (opI 0 a b p).1),.sc (.int .i64 (opI 0 a b p).2)]):=by refine U2m Tryz.func119 fun E=> ?_;refine(qk a b p _ ha hb).Q ?_;refine ck (fun h=> ?_) (fun h=> ?_);refine G2s ?_;rw[opI,BA (fun hh=>by simp[hh.1,hh.2.1,hh.2.2] at h)];rfl;have hv:Qs a=true/\Qs b=true/\Q4 p=true:=(by simpa[and_assoc] using h);obtain⟨r1,r2,r3⟩:=hv;obtain⟨q,rfl,q1,q2,q3⟩:=Vn r3;obtain⟨a1,a2,_⟩:=Q1 r1;obtain⟨b1,b2,_⟩:=Q1 r2;refine G2s ?_;refine Qm QH 28 (X0p [0,1,2,3,5,6,7,8,10] (.step 4 [6,8] (X0p [9,11,12,13,14,15] .done))) (by decide+kernel) (by simp) ?_;refine G2s ?_;refine(z1h a.lo b.lo a1 b1 _).mono ?_;rintro r st ⟨y,y1,y2,rfl,rfl⟩;refine G2s ?_;refine(z1h a.hi b.hi a2 b2 _).mono ?_;rintro r st ⟨z,z1,z2,rfl,rfl⟩;refine G2s ?_;refine(IR y z q _ y1 z1 oG oG).q ?_;have ca:=Hx r1;have cb:=Hx r2;have e1:ofX y=loV 0 (ofN a.lo) (ofN a.hi) (ofN b.lo) (ofN b.hi):=UX (VR 0 ca.1 ca.2 cb.1 cb.2) (by rw[y2,Y0p,G2w,Jb];rfl);have e2:ofX z=hiV 0 (ofN a.lo) (ofN a.hi) (ofN b.lo) (ofN b.hi):=UX (VS 0 ca.1 ca.2 cb.1 cb.2) (by rw[z2,Y0p,H2b,Jb];rfl);refine G2s ?_;rw[opI,BC ⟨r1,r2,r3⟩,e1,e2,q3]
theorem x0h (a b:Ivl)(p:Int)(st:Qf)(ha:wI a)(hb:wI b):PR 108 [.agg (ZQ a),.agg (ZQ b),.sc (.int .i64 p)] st (.tup [.agg (ZQ (opI 1 a b p).1),.sc (.int .i64 (opI 1 a b p).2)]):=by refine U2m Tryz.func108 fun E=> ?_;refine(qk a b p _ ha hb).Q ?_;refine ck (fun h=> ?_) (fun h=> ?_);refine G2s ?_;rw[opI,BA (fun hh=>by simp[hh.1,hh.2.1,hh.2.2] at h)];rfl;have hv:Qs a=true/\Qs b=true/\Q4 p=true:=(by simpa[and_assoc] using h);obtain⟨r1,r2,r3⟩:=hv;obtain⟨q,rfl,q1,q2,q3⟩:=Vn r3;obtain⟨a1,a2,_⟩:=Q1 r1;obtain⟨b1,b2,_⟩:=Q1 r2;refine G2s ?_;refine Qm QH 28 (X0p [0,1,2,3,5,6,7,8,10] (.step 4 [6,8] (X0p [9,11,12,13,14,15] .done))) (by decide+kernel) (by simp) ?_;refine G2s ?_;refine(K1j a.lo b.hi a1 b2 _).mono ?_;rintro r st ⟨y,y1,y2,rfl,rfl⟩;refine G2s ?_;refine(K1j a.hi b.lo a2 b1 _).mono ?_;rintro r st ⟨z,z1,z2,rfl,rfl⟩;refine G2s ?_;refine(IR y z q _ y1 z1 oG oG).q ?_;have ca:=Hx r1;have cb:=Hx r2;have e1:ofX y=loV 1 (ofN a.lo) (ofN a.hi) (ofN b.lo) (ofN b.hi):=UX (VR 1 ca.1 ca.2 cb.1 cb.2) (by rw[y2,Q0z,G2v,Kc];rfl);have e2:ofX z=hiV 1 (ofN a.lo) (ofN a.hi) (ofN b.lo) (ofN b.hi):=UX (VS 1 ca.1 ca.2 cb.1 cb.2) (by rw[z2,Q0z,H2a,Kc];rfl);refine G2s ?_;rw[opI,BC ⟨r1,r2,r3⟩,e1,e2,q3]
theorem q1r (a:Ivl)(p:Int)(st:Qf)(ha:wI a):PR 96 [.agg (ZQ a),.sc (.int .i64 p)] st (.tup [.agg (Q9 (Ki a p).1),.sc (.int .i64 (Ki a p).2)]):=by
 refine U2m Tryz.func96 fun E=> ?_;refine(XS a _ ha).q ?_;cases r1:Qs a with
 | false=>
  refine G2s ?_;rw[Ki,BA (by simp[r1])];rfl
 | true=>
  refine G2s ?_;refine(Xp p _).q ?_;cases r3:Q4 p with
  | false=>
   refine G2s ?_;rw[Ki,BA (by simp[r3])];rfl
  | true=>
   obtain⟨q,rfl,q1,q2,q3⟩:=Vn r3;obtain⟨a1,a2,_⟩:=Q1 r1;have ca:=Hx r1;have hm:Ki a q=if J7 (vC a q) (ofN a.lo)<0 then(a.lo,0) else Kg (vC a q):=(by rw[Ki,BC ⟨r1,r3⟩,q3]);rw[hm];refine G2s ?_;refine Qm QH 36 (X0p [0,1,2,3,4,5,8] (.alt (.step 6 [1] (.alt (.step 7 [1] (.alt (.step 9 [1] (.alt (.step 10 [3,5] (.step 11 [1,3,5] (.step 12 [] (.done)))) (.step 11 [1,3,5] (.step 10 [3,5] (.step 12 [] (.done)))))) (.step 11 [1,3,5] (.step 9 [1] (.step 10 [3,5] (.step 12 [] (.done))))))) (.step 11 [1,3,5] (.step 7 [1] (.step 9 [1] (.step 10 [3,5] (.step 12 [] (.done)))))))) (.step 11 [1,3,5] (.step 6 [1] (.step 7 [1] (.step 9 [1] (.step 10 [3,5] (.step 12 [] (.done))))))))) (by decide+kernel) (by simp) ?_;refine G2s ?_;refine And.intro ?_ ?_
   all_goals
    refine(Z0a a.lo a.hi 64 65536 _ (Zc a1) (Zc a2) oG oG).mono ?_;rintro r st ⟨y,y1,y2,rfl,rfl⟩;have b1:=y1.1;have b2:=y1.2.1;have b3:=y1.2.2;have e1:ofX { y with exp:=y.exp-1 } =vJ (Jc (ofN a.lo) (ofN a.hi)):=Z1g (XB ca.1 ca.2) (by rw[y2,Jb];rfl);simp-dsimp only[go_sem]
    try refine And.intro ?_ ?_
    all_goals
     refine(K1k y _ oG oG).q ?_;have hbd:bd 65601 65537 { y with exp:=y.exp-1 } :=⟨b1,by simp only;omega,by simp only;omega⟩;generalize ({ y with exp:=y.exp-1 } :Nm)=z at*
     have c1:=hbd.1;have c2:=hbd.2.1;have c3:=hbd.2.2;have hz:=H0i z q false _ _ hbd;have e2:ofX (W0f z q false)=vC a q:=(by rw[X0s z q false oG,e1];rfl);simp-dsimp only[go_sem]
     try refine And.intro ?_ ?_
     all_goals
      refine(zL z q false _ oG oG oG oG).q ?_;generalize W0f z q false=x at*
      have d1:=hz.1;have d2:=hz.2.1;have d3:=hz.2.2;have hs:sm x:=⟨oG,oG,oG⟩;have hg:sm (Z4 a.lo x):=Gn (Q6 a1) hs;have e3:=v9 (p:=q) r1 e2;simp-dsimp only[go_sem]
      try refine And.intro ?_ ?_
      all_goals
       refine(Hf a.lo x _ (Q6 a1) hs).q ?_;generalize Z4 a.lo x=g at*
       have g1:=hg.1;have g2:=hg.2.1;have g3:=hg.2.2;refine G2s ?_;refine(Ga g.neg g.w g.exp _ oG oG oG).q ?_;rw[Q0g,e3];simp-dsimp only[go_sem]
theorem jB (x a b:Nm)(i j:Nat)(st:Qf)(hij:i≠j)(hi:st.getD i []=Q9 a)(hj:st.getD j []=Q9 b)(hx:sm x)(ha:sm a)(hb:sm b):
 PCalls Tryz.prog 163 ([.agg (Q9 x)]++ [.gp i 0,.gp j 0]) st (fun r st'=>r= .tup []/\st'=(st.set i (Q9 (ZP a x))).set j (Q9 (Z4 b x))):=by
 refine Qb none Tryz.func163 rfl fun E=>Qa ?_;unfold Q9 at hi hj;refine G2s ?_;refine Qm QH 10 (X0p [0,1,3,4] (.step 2 [3,4] (X0p [5,6,7] .done))) (by decide+kernel) (by simp) ?_;simp-dsimp only[go_sem,hi,hj];refine(q1p a x _ ha hx).q ?_;simp-dsimp only[go_sem,hi,hj];refine(Hf b x _ hb hx).q ?_;simp-dsimp only[go_sem,hi,hj];rw[Qo _ _ _ _ _ hij,hj];exact⟨⟨by simp,by simp⟩,rfl⟩
theorem K0r (n:Nat)(x:Nm):Bnd n (.agg (Q9 x)):=by
 refine .agg _ fun j hj=> ?_
 match j,hj with
 | 0,_=>exact .sc _
 | 1,_=>exact .sc _
 | 2,_=>
  refine .sl _ _ 1 (fun i hi=> ?_) (fun i j hi hj=> ?_);rw[Za] at hi;rw[QC x.w i hi];rfl;rw[Za] at hi;rw[QC x.w i hi];have:j=0:=oG;subst this;exact .sc _
theorem V1r (n:Nat)(x:Ivl): ∀j,j<(ZQ x).length->Bnd n ((ZQ x).getD j .junk):=fun j hj=>by
 have h1:=K0r n x.lo;have h2:=K0r n x.hi;cases h1 with
 | agg _ h1=>
  cases h2 with
  | agg _ h2=>
   match j,hj with
   | 0,_=>exact h1 0 (show _<3 by omega)
   | 1,_=>exact h1 1 (show _<3 by omega)
   | 2,_=>exact h1 2 (show _<3 by omega)
   | 3,_=>exact h2 0 (show _<3 by omega)
   | 4,_=>exact h2 1 (show _<3 by omega)
   | 5,_=>exact h2 2 (show _<3 by omega)
theorem yf (n:Nat)(x:Ivl)(e:Int):Bnd n (.tup [.agg (ZQ x),.sc (.int .i64 e)]):=by
 refine .tup _ fun j hj=> ?_
 match j,hj with
 | 0,_=>exact .agg _ (V1r n x)
 | 1,_=>exact .sc _
theorem X0j (st:Qf)(l h:List PV):(st++ [l]++ [h]).getD st.length []=l:=by rw[BP,q_a,CA (BD _)];simp
theorem X0k (st:Qf)(l h:List PV):(st++ [l]++ [h]).getD (st.length+1) []=h:=by rw[BP,q_a,CA oG];simp
theorem yA (st:Qf)(l h l' h':List PV):((st++ [l]++ [h]).set st.length l').set (st.length+1) h'=st++ [l']++ [h']:=by rw[BP,CJ _ _ (BD _),CJ _ _ oG];simp
theorem k6 {n k:Nat}{x:Nm}(h:bd n k x)(h1:n<=1000000)(h2:k<=1000000000):sm x:=⟨by have:=h.1;omega,by have:=h.2.1;omega,by have:=h.2.2;omega⟩
theorem qi {n k:Nat}{a b:Nm}(ha:bd n k a)(hb:bd n k b):bd n k (ZP a b):=x0f ha hb
theorem qq {n k:Nat}{a b:Nm}(ha:bd n k a)(hb:bd n k b):bd n k (Z4 a b):=Gn ha hb
theorem q1q (a b:Ivl)(p:Int)(st:Qf)(ha:wI a)(hb:wI b):PR 134 [.agg (ZQ a),.agg (ZQ b),.sc (.int .i64 p)] st (.tup [.agg (ZQ (opI 2 a b p).1),.sc (.int .i64 (opI 2 a b p).2)]):=by
 refine PCalls.drop ?_;refine Qb none Tryz.func134 rfl fun E=>Qe (Qa ?_);refine G2s ?_;refine U2h ?_;refine(qk a b p _ ha hb).Q ?_;refine ck (fun h=> ?_) (fun h=> ?_);refine G2s ?_;refine⟨yf _ default 1,[],(B9 _).symm,?_⟩;rw[opI,BA (fun hh=>by simp[hh.1,hh.2.1,hh.2.2] at h)];rfl;have hv:Qs a=true/\Qs b=true/\Q4 p=true:=(by simpa[and_assoc] using h);obtain⟨r1,r2,r3⟩:=hv;obtain⟨q,rfl,q1,q2,q3⟩:=Vn r3;obtain⟨a1,a2,_⟩:=Q1 r1;obtain⟨b1,b2,_⟩:=Q1 r2;refine G2s ?_;refine U2h ?_;refine(qE a.lo b.lo 64 65536 64 65536 _ (Zc a1) (Zc b1) oG oG oG oG).mono ?_;rintro r st ⟨y1,y1b,y1q,rfl,rfl⟩;refine G2s ?_;refine U2h ?_;refine Yh 3 (by simp[go_sem]) (by simp) ?_;refine G2s ?_;refine Yh 4 (by simp[go_sem]) (by simp) (Qa ?_);refine G2s ?_;have s1:=k6 y1b oG oG;refine(qE a.lo b.hi 64 65536 64 65536 _ (Zc a1) (Zc b2) oG oG oG oG).mono ?_;rintro r st2 ⟨y2,y2b,y2q,rfl,rfl⟩;have s2:=k6 y2b oG oG;refine G2s ?_;refine(jB y2 y1 y1 st.length (st.length+1) _ oG (X0j _ _ _) (X0k _ _ _) s2 s1 s1).w ?_;rintro st3 rfl;rw[yA];have l2:=qi y1b y2b;have g2:=qq y1b y2b;have l2s:=k6 l2 oG oG;have g2s:=k6 g2 oG oG;refine G2s ?_;refine(qE a.hi b.lo 64 65536 64 65536 _ (Zc a2) (Zc b1) oG oG oG oG).mono ?_;rintro r st3 ⟨y3,y3b,y3q,rfl,rfl⟩;have s3:=k6 y3b oG oG;refine G2s ?_;refine(jB y3 (ZP y1 y2) (Z4 y1 y2) st.length (st.length+1) _ oG (X0j _ _ _) (X0k _ _ _) s3 l2s g2s).w ?_;rintro st4 rfl;rw[yA];have l3:=qi l2 y3b;have g3:=qq g2 y3b;have l3s:=k6 l3 oG oG;have g3s:=k6 g3 oG oG;refine G2s ?_;refine(qE a.hi b.hi 64 65536 64 65536 _ (Zc a2) (Zc b2) oG oG oG oG).mono ?_;rintro r st4 ⟨y4,y4b,y4q,rfl,rfl⟩;have s4:=k6 y4b oG oG;refine G2s ?_;refine(jB y4 (ZP (ZP y1 y2) y3) (Z4 (Z4 y1 y2) y3) st.length (st.length+1) _ oG (X0j _ _ _) (X0k _ _ _) s4 l3s g3s).w ?_;rintro st5 rfl;rw[yA];have l4:=qi l3 y4b;have g4:=qq g3 y4b;have e1:=Y0l r1 r2 y1q y2q y3q y4q;have e2:=jI r1 r2 y1q y2q y3q y4q;generalize ZP (ZP (ZP y1 y2) y3) y4=L at*
 generalize Z4 (Z4 (Z4 y1 y2) y3) y4=H at*
 have hL:=X0j st (Q9 L) (Q9 H);have hH:=X0k st (Q9 L) (Q9 H);unfold Q9 at hL hH⊢;simp-dsimp only[go_sem,hL,hH];refine(IR L H q _ (l4.mono oG oG) (g4.mono oG oG) oG oG).w ?_;rintro st6 rfl;have hm:opI 2 a b q=WD (QX (ofX L) q false) (QX (ofX H) q true):=(by rw[opI,BC ⟨r1,r2,r3⟩,e1,e2,q3]);rw[hm];simp-dsimp only[go_sem,hL,hH];exact⟨yf _ _ _,_,BP _ _ _⟩
theorem q0k (g:FuncId)(caps:List PV)(G:Ivl->Ivl->Ivl×Int)(i:Nat)(x:Ivl)(b:List Ivl)(st:Qf)(hc:Qc Tryz.prog g=true)(hi:i<b.length)
 (h1c:caps.all PV.closed2=true) (h1':caps.all PV.closed1=true) (h2c:caps.map PV.forget2=caps) (h2':caps.map PV.forget1=caps) (hlim:caps.all (PV.lim1 0 1)=true)
 (h:PR g ([.agg (ZQ x),.agg (ZQ (b.getD i default))]++caps) st (.tup [.agg (ZQ (G x (b.getD i default)).1),.sc (.int .i64 (G x (b.getD i default)).2)])):
 PR 145 ([.sc (.int .i64 i),.agg (ZQ x)]++ [.ep [.fn (.func g) [] caps] 0,.ep [.sl .no (QE b)] 0]) st (.tup [.agg (ZQ (G x (b.getD i default)).1),.sc (.int .i64 (G x (b.getD i default)).2)]):=by
 refine U2m Tryz.func145 fun E=> ?_;have e1:=Zl b i hi;refine Qm QH 17 (X0p [0,1,2,3,4,5,6,7,8,9,10] .done) (by decide+kernel) (by simp) ?_;simp-dsimp only[go_sem,e1,hc,h1c,h1',h2c,h2'];refine⟨oG,?_⟩;refine h.Q0
theorem J0e (g:FuncId)(caps:List PV)(G:Ivl->Ivl->Ivl×Int)(a b:List Ivl)(st:Qf)(hc:Qc Tryz.prog g=true)(ha:wB a)(hb:wB b)(h1c:caps.all PV.closed2=true)(h1':caps.all PV.closed1=true)(h2c:caps.map PV.forget2=caps)(h2':caps.map PV.forget1=caps)(hlim:caps.all (PV.lim1 0 1)=true)(hfz: ∀i cs,caps.map (PV.frz1 i cs)=caps)
 (h:rightB a=true->rightB b=true-> ∀i,i<a.length->i<b.length->PR g ([.agg (ZQ (a.getD i default)),.agg (ZQ (b.getD i default))]++caps) st (.tup [.agg (ZQ (G (a.getD i default) (b.getD i default)).1),.sc (.int .i64 (G (a.getD i default) (b.getD i default)).2)])):
 PR 106 [.sl .no (QE a),.sl .no (QE b),.fn (.func g) [] caps] st (.tup [.sl .no (QE (zQ G a b).1),.sc (.int .i64 (zQ G a b).2)]):=by
 refine Qb none Tryz.func106 rfl fun E=>Qe (Qa ?_);simp-dsimp only[go_sem,h1c,h1',h2c,h2',hfz];refine QD 0 ?_ ?_;simp-dsimp only[go_sem,h1c,h1',h2c,h2',hfz];simp-dsimp only[go_sem,h1c,h1',h2c,h2',hfz];refine QD 1 ?_ ?_;simp-dsimp only[go_sem,h1c,h1',h2c,h2',hfz];refine Qa ?_;simp-dsimp only[go_sem,h1c,h1',h2c,h2',hfz];refine(Jq a st ha).q ?_;simp-dsimp only[go_sem,h1c,h1',h2c,h2',hfz];have bad: ∀st:Qf,¬(rightB a=true/\rightB b=true/\a.length=b.length)->zQ G a b=([],1):=fun _ h=>BA h;refine gkF (fun h1=> ?_) (fun h1=> ?_);have r1:rightB a=true:=(by simpa using h1);simp-dsimp only[go_sem,h1c,h1',h2c,h2',hfz,r1];refine(Jq b st hb).q ?_;simp-dsimp only[go_sem,h1c,h1',h2c,h2',hfz,r1];refine gkF (fun h2=> ?_) (fun h2=> ?_);have r2:rightB b=true:=(by simpa using h2);simp-dsimp only[go_sem,h1c,h1',h2c,h2',hfz,r1,r2];refine ck (fun h3=> ?_) (fun h3=> ?_);have hne:=YG h3;simp-dsimp only[go_sem,h1c,h1',h2c,h2',hfz];rw[bad st (fun h=>hne h.2.2)];rfl;have hl:=Vq h3;simp-dsimp only[go_sem,h1c,h1',h2c,h2',hfz];refine(y1m _ [.ep [.fn (.func g) [] caps] 0,.ep [.sl .no (QE b)] 0] (fun i x=>G x (b.getD i default)) a st rfl ha.1 rfl rfl rfl rfl rfl fun i hi=>q0k g caps G i _ b st hc oG h1c h1' h2c h2' hlim (h r1 r2 i hi oG)).q ?_;simp-dsimp only[go_sem,h1c,h1',h2c,h2',hfz];rw[zQ,BC ⟨r1,r2,hl⟩];have r2:rightB b=false:=(by simpa using h2);simp-dsimp only[go_sem,h1c,h1',h2c,h2',hfz,r1,r2];rw[bad st (fun h=>by simp[r2] at h)];rfl;have r1:rightB a=false:=(by simpa using h1);simp-dsimp only[go_sem,h1c,h1',h2c,h2',hfz,r1];rw[bad st (fun h=>by simp[r1] at h)];rfl
theorem z1t (g:FuncId)(caps:List PV)(F:Nat->Ivl->Nm×Int)(l:List Ivl)(st:Qf)(hc:Qc Tryz.prog g=true)(hl:l.length<=100000000000)(h1:caps.all PV.closed2=true)(h1':caps.all PV.closed1=true)(h2:caps.map PV.forget2=caps)(h2':caps.map PV.forget1=caps)(hlim:caps.all (PV.lim1 0 1)=true)
 (h: ∀i,i<l.length->PR g ([.sc (.int .i64 i),.agg (ZQ (l.getD i default))]++caps) st (.tup [.agg (Q9 (F i (l.getD i default)).1),.sc (.int .i64 (F i (l.getD i default)).2)])):
 PR 94 [.sl .no (QE l),.fn (.func g) [] caps] st (.tup [.sl .no (Qy (Jr F 0 l []).1),.sc (.int .i64 (Jr F 0 l []).2)]):=by
 refine U2m Tryz.func94 fun E=> ?_;refine QQ 6 3 ?_;refine G2s ?_;refine Qd [false,true,false,false,false,false,true,false,false,false,false,true,true,true] 0 1 (fun n s=> ∃i o,n=l.length-i/\i<=l.length/\o.length=i/\Jr F 0 l []=Jr F i (l.drop i) o/\s=⟨[.junk,.fn (.func g) [] caps,.junk,.junk,.junk,.junk,.sl (.own 0) (Qy o),.junk,.junk,.junk,.junk,.sl .no (QE l),.sc (.int .i64 l.length),.sc (.int .i64 i)]++jk 20,[],[(o.length,3)],st⟩) l.length ?_ ?_;simp-dsimp only[go_sem,hlim];exact⟨0,[],oG,oG,rfl,rfl,rfl⟩;rintro n s ⟨i,o,rfl,hi,ho,hr,rfl⟩;refine U2n (fun h'=> ?_) (fun h'=> ?_);have hlt:i<l.length:=(by have:=q_b h';omega);have e1:=Zl l i hlt;have e3:IntKind.i64.wrap ((i:Int)+1)=((i+1:Nat):Int):=(by rw[Qw _ oG oG];omega);have e4:=xt F l i o hlt;simp-dsimp only[go_sem,e1,hc,h1,h2];refine⟨oG,?_⟩;refine(h i hlt).q ?_;simp-dsimp only[go_sem,e1];refine ck (fun h2=> ?_) (fun h2=> ?_);have hne:=VT h2;refine G2s ?_;rw[hr,e4,BC hne];rfl;have he:=Wh h2;simp-dsimp only[go_sem,e3,hlim];refine⟨oG,l.length-(i+1),oG,i+1,o++ [(F i (l.getD i default)).1],rfl,oG,by simp[ho],?_,?_⟩;rw[hr,e4,BA (fun hh=>hh he)];simp[Qy,Q9];have hge:i=l.length:=(by have:=q_c h';omega);refine G2s ?_;refine U2i ?_;rw[hr,hge,List.drop_length];rfl
theorem Y1d (k:Nat)(a b:List Ivl)(p:Int):opB k a b p=zQ (fun x y=>opI k x y p) a b:=by
 unfold opB zQ;by_cases h:rightB a=true/\rightB b=true/\a.length=b.length;rw[BC h];cases hp:Q4 p with
 | true=>rw[BC ⟨h.1,h.2.1,h.2.2,rfl⟩]
 | false=>
  rw[BA (fun hh=>by simp at hh),qI _ a (Jk h.1).1 1 (by decide) (fun i x=>by simp only[H1m hp])]
 rw[BA h,BA (fun hh=>h ⟨hh.1,hh.2.1,hh.2.2.1⟩)]
theorem v0o (x y:Ivl)(p:Int)(st:Qf)(hx:wI x)(hy:wI y):PR 118 ([.agg (ZQ x),.agg (ZQ y)]++ [.ep [.sc (.int .i64 p)] 0]) st (.tup [.agg (ZQ (opI 0 x y p).1),.sc (.int .i64 (opI 0 x y p).2)]):=by refine U2m Tryz.func118 fun E=> ?_;refine(x0k x y p _ hx hy).Q0
theorem v0k (x y:Ivl)(p:Int)(st:Qf)(hx:wI x)(hy:wI y):PR 107 ([.agg (ZQ x),.agg (ZQ y)]++ [.ep [.sc (.int .i64 p)] 0]) st (.tup [.agg (ZQ (opI 1 x y p).1),.sc (.int .i64 (opI 1 x y p).2)]):=by refine U2m Tryz.func107 fun E=> ?_;refine(x0h x y p _ hx hy).Q0
theorem K0q (a b:List Ivl)(p:Int)(st:Qf)(ha:wB a)(hb:wB b):PR 77 [.sl .no (QE a),.sl .no (QE b),.sc (.int .i64 p)] st (.tup [.sl .no (QE (opB 0 a b p).1),.sc (.int .i64 (opB 0 a b p).2)]):=by rw[Y1d];refine Qb none Tryz.func77 rfl fun E=>Qe (Qa ?_);refine G2s ?_;refine QD 0 ?_ ?_;exact G2r;refine U2i ?_;refine(J0e _ [.ep [.sc (.int .i64 p)] 0] (fun x y=>opI 0 x y p) a b st rfl ha hb rfl rfl rfl rfl rfl (fun _ _=>rfl) fun _ _ i h1 h2=>v0o _ _ p st (ha.2 i h1) (hb.2 i h2)).Q0
theorem K0o (a b:List Ivl)(p:Int)(st:Qf)(ha:wB a)(hb:wB b):PR 55 [.sl .no (QE a),.sl .no (QE b),.sc (.int .i64 p)] st (.tup [.sl .no (QE (opB 1 a b p).1),.sc (.int .i64 (opB 1 a b p).2)]):=by rw[Y1d];refine Qb none Tryz.func55 rfl fun E=>Qe (Qa ?_);refine G2s ?_;refine QD 0 ?_ ?_;exact G2r;refine U2i ?_;refine(J0e _ [.ep [.sc (.int .i64 p)] 0] (fun x y=>opI 1 x y p) a b st rfl ha hb rfl rfl rfl rfl rfl (fun _ _=>rfl) fun _ _ i h1 h2=>v0k _ _ p st (ha.2 i h1) (hb.2 i h2)).Q0
theorem v0m (i:Int)(a:Ivl)(p:Int)(st:Qf)(ha:wI a):PR 95 ([.sc (.int .i64 i),.agg (ZQ a)]++ [.ep [.sc (.int .i64 p)] 0]) st (.tup [.agg (Q9 (Ki a p).1),.sc (.int .i64 (Ki a p).2)]):=by refine U2m Tryz.func95 fun E=> ?_;refine(q1r a p _ ha).Q0
theorem q1e (b:List Ivl)(p:Int)(h:rightB b=true):Xc b p=Jr (fun _ a=>Ki a p) 0 b []:=by
 unfold Xc;cases hp:Q4 p with
 | true=>rw[BC ⟨h,rfl⟩]
 | false=>rw[BA (fun hh=>by simp at hh),qI _ b (Jk h).1 1 (by decide) (fun i x=>by simp only[X1j hp])]
theorem jW (b:List Ivl)(p:Int)(st:Qf)(hb:wB b):PR 51 [.sl .no (QE b),.sc (.int .i64 p)] st (.tup [.sl .no (Qy (Xc b p).1),.sc (.int .i64 (Xc b p).2)]):=by
 refine Qb none Tryz.func51 rfl fun E=>Qe (Qa ?_);refine G2s ?_;refine QD 0 ?_ ?_;exact G2r;refine U2i ?_;refine(Jq b st hb).q ?_;cases r1:rightB b with
 | false=>
  refine G2s ?_;rw[Xc,BA (by simp[r1])];rfl
 | true=>
  rw[q1e b p r1];refine G2s ?_;refine(z1t _ [.ep [.sc (.int .i64 p)] 0] (fun _ a=>Ki a p) b st rfl hb.1 rfl rfl rfl rfl rfl fun i hi=>v0m _ _ p st (hb.2 i hi)).Q0
end Go.Pv
end
