/- Parts of the walk: N13, N14. -/
import Derived.Test.YtldalepagmhnmaaGreatDoorZAB
import Derived.Test.YtldalepagmhnmaaGreatDoorZH
set_option linter.unusedVariables false
set_option linter.unusedSimpArgs false
section
set_option maxRecDepth 100000
namespace Go.Pv
open Go.Proofs
theorem Z2t (lo hi:Nm)(st:Q0f)(h1:wN lo)(h2:wN hi):PCalls Tryz.prog 128 [.agg (encN lo),.agg (encN hi)] st (fun r st'=>r= .tup [.agg (encI (w1h lo hi).1),.sc (.int .i64 (w1h lo hi).2)]/\st'=st):=by
 refine Q0b none Tryz.func128 rfl fun E=>Q0a ?_;unfold w1h;simp-dsimp only[go_sem];refine(Y0v ⟨lo,hi⟩ _ ⟨h1,h2⟩).mono ?_;rintro r st ⟨rfl,rfl⟩;cases r1:Q0p ⟨lo,hi⟩ with
 | false=>
  rw[if_neg (by simp)];simp-dsimp only[go_sem];try rfl
 | true=>
  rw[if_pos rfl];simp-dsimp only[go_sem];refine(k3q lo hi _ h1 h2).mono ?_;rintro r st ⟨rfl,rfl⟩;simp-dsimp only[go_sem]
theorem K1m (a b:Ivl)(p:Int)(st:Q0f)(ha:wI a)(hb:wI b):PCalls Tryz.prog 215 [.agg (encI a),.agg (encI b),.sc (.int .i64 p)] st (fun r st'=>r= .sc (.bool (Q0p a&&Q0p b&&Z0p p))/\st'=st):=by
 refine Q0b none Tryz.func215 rfl fun E=>Q0a ?_;simp-dsimp only[go_sem];refine(Y0v a _ ha).mono ?_;rintro r st ⟨rfl,rfl⟩;cases r1:Q0p a with
 | false=>simp-dsimp only[go_sem];try rfl
 | true=>
  simp-dsimp only[go_sem];refine(Y0v b _ hb).mono ?_;rintro r st ⟨rfl,rfl⟩;cases r2:Q0p b with
  | false=>simp-dsimp only[go_sem];try rfl
  | true=>
   simp-dsimp only[go_sem];refine(U0p p _).mono ?_;rintro r st ⟨rfl,rfl⟩;simp-dsimp only[go_sem]
   try rfl
theorem G1j (v:Vl):(numV v).2=0\/numV v=(default,2):=by unfold numV;split;exact .inl rfl;split;exact .inr rfl;exact .inl rfl
theorem z1l (lo hi:Nm)(p:Nat)(st:Q0f)(hl:bd 1000000 1000000 lo)(hh:bd 1000000 1000000 hi)(hp0:0<p)(hp:p<=1000000000):PCalls Tryz.prog 234 [.agg (encN lo),.agg (encN hi),.sc (.int .i64 p)] st
 (fun r st'=>r= .tup [.agg (encI (U0j (Z0z (ofX lo) p false) (Z0z (ofX hi) p true)).1),.sc (.int .i64 (U0j (Z0z (ofX lo) p false) (Z0z (ofX hi) p true)).2)]/\st'=st):=by
 refine Q0b none Tryz.func234 rfl fun E=>Q0a ?_;unfold U0j;simp-dsimp only[go_sem];refine(y0y lo p false _ hl hp0 hp).mono ?_;rintro r st ⟨rfl,rfl⟩;simp-dsimp only[go_sem];refine ck (fun h=> ?_) (fun h=> ?_);have hne:=G0x h;simp-dsimp only[go_sem];rw[if_neg (fun hh=>hne hh.1)];rcases G1j (Z0z (ofX lo) p false) with e | e;exact absurd e hne;rw[e];rfl;have he:=H0t h;simp-dsimp only[go_sem];refine(y0y hi p true _ hh hp0 hp).mono ?_;rintro r st ⟨rfl,rfl⟩;simp-dsimp only[go_sem];refine ck (fun h=> ?_) (fun h=> ?_);have hne:=G0x h;simp-dsimp only[go_sem];rw[if_neg (fun hh=>hne hh.2)];rcases G1j (Z0z (ofX hi) p true) with e | e;exact absurd e hne;rw[e];rfl;have he2:=H0t h;simp-dsimp only[go_sem];rw[if_pos ⟨he,he2⟩]
 try rfl
theorem G1q (a b:Ivl)(p:Int)(st:Q0f)(ha:wI a)(hb:wI b):PCalls Tryz.prog 167 [.agg (encI a),.agg (encI b),.sc (.int .i64 p)] st (fun r st'=>r= .tup [.agg (encI (opI 0 a b p).1),.sc (.int .i64 (opI 0 a b p).2)]/\st'=st):=by refine Q0b none Tryz.func167 rfl fun E=>Q0a ?_;simp-dsimp only[go_sem];refine(K1m a b p _ ha hb).mono ?_;rintro r st ⟨rfl,rfl⟩;simp-dsimp only[go_sem];refine ck (fun h=> ?_) (fun h=> ?_);simp-dsimp only[go_sem];rw[opI,if_neg (fun hh=>by simp[hh.1,hh.2.1,hh.2.2] at h)];rfl;have hv:Q0p a=true/\Q0p b=true/\Z0p p=true:=(by simpa[and_assoc] using h);obtain⟨r1,r2,r3⟩:=hv;obtain⟨q,rfl,q1,q2,q3⟩:=J1t r3;obtain⟨a1,a2,_⟩:=Z0s r1;obtain⟨b1,b2,_⟩:=Z0s r2;simp-dsimp only[go_sem];refine Q0o Z0m 28 (.step 0 [] (.step 1 [] (.step 2 [] (.step 3 [] (.step 5 [] (.step 6 [] (.step 7 [] (.step 8 [] (.step 10 [] (.step 4 [6,8] (.step 9 [] (.step 11 [] (.step 12 [] (.step 13 [] (.step 14 [] (.step 15 [] (.done))))))))))))))))) (by decide+kernel) (by simp) ?_;simp-dsimp only[go_sem];refine(w3b a.lo b.lo a1 b1 _).mono ?_;rintro r st ⟨y,y1,y2,rfl,rfl⟩;simp-dsimp only[go_sem];refine(w3b a.hi b.hi a2 b2 _).mono ?_;rintro r st ⟨z,z1,z2,rfl,rfl⟩;simp-dsimp only[go_sem];refine(z1l y z q _ y1 z1 (by omega) (by omega)).mono ?_;rintro r st ⟨rfl,rfl⟩;have ca:=canI r1;have cb:=canI r2;have e1:ofX y=loV 0 (ofN a.lo) (ofN a.hi) (ofN b.lo) (ofN b.hi):=z1n (V1l 0 ca.1 ca.2 cb.1 cb.2) (by rw[y2,exQ0,loV0,U0z];rfl);have e2:ofX z=hiV 0 (ofN a.lo) (ofN a.hi) (ofN b.lo) (ofN b.hi):=z1n (V1n 0 ca.1 ca.2 cb.1 cb.2) (by rw[z2,exQ0,hiV0,U0z];rfl);simp-dsimp only[go_sem];rw[opI,if_pos ⟨r1,r2,r3⟩,e1,e2,q3]
theorem G1p (x a b:Nm)(i j:Nat)(st:Q0f)(hij:i≠j)(hi:st.getD i []=encN a)(hj:st.getD j []=encN b)(hx:sm x)(ha:sm a)(hb:sm b):
 PCalls Tryz.prog 231 ([.agg (encN x)]++ [.gp i 0,.gp j 0]) st (fun r st'=>r= .tup []/\st'=(st.set i (encN (J0x a x))).set j (encN (J0y b x))):=by
 refine Q0b none Tryz.func231 rfl fun E=>Q0a ?_;unfold encN at hi hj;simp-dsimp only[go_sem];refine Q0o Z0m 10 (.step 0 [] (.step 1 [] (.step 3 [] (.step 4 [] (.step 2 [3,4] (.step 5 [] (.step 6 [] (.step 7 [] (.done))))))))) (by decide+kernel) (by simp) ?_;simp-dsimp only[go_sem,hi,hj];refine(U3z a x _ ha hx).mono ?_;rintro r st ⟨rfl,rfl⟩;simp-dsimp only[go_sem,hi,hj];refine(V2m b x _ hb hx).mono ?_;rintro r st ⟨rfl,rfl⟩;simp-dsimp only[go_sem,hi,hj];rw[Q0i _ _ _ _ _ hij,hj];exact⟨⟨by simp,by simp⟩,rfl⟩
theorem X2o (n:Nat)(x:Nm):Bnd n (.agg (encN x)):=by
 refine .agg _ fun j hj=> ?_
 match j,hj with
 | 0,_=>exact .sc _
 | 1,_=>exact .sc _
 | 2,_=>
  refine .sl _ _ 1 (fun i hi=> ?_) (fun i j hi hj=> ?_);rw[X0l] at hi;rw[Z0j x.w i hi];rfl;rw[X0l] at hi;rw[Z0j x.w i hi];have:j=0:=(by omega);subst this;exact .sc _
theorem J3g (n:Nat)(x:Ivl): ∀j,j<(encI x).length->Bnd n ((encI x).getD j .junk):=fun j hj=>by
 have h1:=X2o n x.lo;have h2:=X2o n x.hi;cases h1 with
 | agg _ h1=>
  cases h2 with
  | agg _ h2=>
   match j,hj with
   | 0,_=>exact h1 0 (show _<3 by omega)
   | 1,_=>exact h1 1 (show _<3 by omega)
   | 2,_=>exact h1 2 (show _<3 by omega)
   | 3,_=>exact h2 0 (show _<3 by omega)
   | 4,_=>exact h2 1 (show _<3 by omega)
   | 5,_=>exact h2 2 (show _<3 by omega)
theorem k1d (n:Nat)(x:Ivl)(e:Int):Bnd n (.tup [.agg (encI x),.sc (.int .i64 e)]):=by
 refine .tup _ fun j hj=> ?_
 match j,hj with
 | 0,_=>exact .agg _ (J3g n x)
 | 1,_=>exact .sc _
theorem Q2k (st:Q0f)(l h:List PV):(st++ [l]++ [h]).getD st.length []=l:=by rw[List.append_assoc,q_a,List.getElem?_append_right (Nat.le_refl _)];simp
theorem Q2l (st:Q0f)(l h:List PV):(st++ [l]++ [h]).getD (st.length+1) []=h:=by rw[List.append_assoc,q_a,List.getElem?_append_right (by omega)];simp
theorem k1w (st:Q0f)(l h l' h':List PV):((st++ [l]++ [h]).set st.length l').set (st.length+1) h'=st++ [l']++ [h']:=by rw[List.append_assoc,List.set_append_right _ _ (Nat.le_refl _),List.set_append_right _ _ (by omega)];simp
theorem q1d {n k:Nat}{x:Nm}(h:bd n k x)(h1:n<=1000000)(h2:k<=1000000000):sm x:=⟨by have:=h.1;omega,by have:=h.2.1;omega,by have:=h.2.2;omega⟩
theorem K1l {n k:Nat}{a b:Nm}(ha:bd n k a)(hb:bd n k b):bd n k (J0x a b):=q2r ha hb
theorem K1p {n k:Nat}{a b:Nm}(ha:bd n k a)(hb:bd n k b):bd n k (J0y a b):=z2g ha hb
theorem w1m (a b:Ivl)(p:Int)(st:Q0f)(ha:wI a)(hb:wI b):PCalls Tryz.prog 166 [.agg (encI a),.agg (encI b),.sc (.int .i64 p)] st (fun r st'=>r= .tup [.agg (encI (opI 2 a b p).1),.sc (.int .i64 (opI 2 a b p).2)]/\st'=st):=by
 refine PCalls.drop ?_;refine Q0b none Tryz.func166 rfl fun E=>Q0h (Q0a ?_);simp-dsimp only[go_sem];refine Q0h (Q0a ?_);simp-dsimp only[go_sem];refine(K1m a b p _ ha hb).mono ?_;rintro r st ⟨rfl,rfl⟩;simp-dsimp only[go_sem];refine ck (fun h=> ?_) (fun h=> ?_);simp-dsimp only[go_sem];refine⟨k1d _ default 1,[],(List.append_nil _).symm,?_⟩;rw[opI,if_neg (fun hh=>by simp[hh.1,hh.2.1,hh.2.2] at h)];rfl;have hv:Q0p a=true/\Q0p b=true/\Z0p p=true:=(by simpa[and_assoc] using h);obtain⟨r1,r2,r3⟩:=hv;obtain⟨q,rfl,q1,q2,q3⟩:=J1t r3;obtain⟨a1,a2,_⟩:=Z0s r1;obtain⟨b1,b2,_⟩:=Z0s r2;simp-dsimp only[go_sem];refine Q0h (Q0a ?_);simp-dsimp only[go_sem];refine(K1v a.lo b.lo 64 65536 64 65536 _ (X0j a1) (X0j b1) (by omega) (by omega) (by omega) (by omega)).mono ?_;rintro r st ⟨y1,y1b,y1q,rfl,rfl⟩;simp-dsimp only[go_sem];refine Q0h (Q0a ?_);simp-dsimp only[go_sem];refine j0k 3 (by simp[go_sem]) (by simp) ?_;simp-dsimp only[go_sem];refine j0k 4 (by simp[go_sem]) (by simp) (Q0a ?_);simp-dsimp only[go_sem];have s1:=q1d y1b (by omega) (by omega);refine(K1v a.lo b.hi 64 65536 64 65536 _ (X0j a1) (X0j b2) (by omega) (by omega) (by omega) (by omega)).mono ?_;rintro r st2 ⟨y2,y2b,y2q,rfl,rfl⟩;have s2:=q1d y2b (by omega) (by omega);simp-dsimp only[go_sem];refine(G1p y2 y1 y1 st.length (st.length+1) _ (by omega) (Q2k _ _ _) (Q2l _ _ _) s2 s1 s1).mono ?_;rintro r st3 ⟨rfl,rfl⟩;rw[k1w];have l2:=K1l y1b y2b;have g2:=K1p y1b y2b;have l2s:=q1d l2 (by omega) (by omega);have g2s:=q1d g2 (by omega) (by omega);simp-dsimp only[go_sem];refine(K1v a.hi b.lo 64 65536 64 65536 _ (X0j a2) (X0j b1) (by omega) (by omega) (by omega) (by omega)).mono ?_;rintro r st3 ⟨y3,y3b,y3q,rfl,rfl⟩;have s3:=q1d y3b (by omega) (by omega);simp-dsimp only[go_sem];refine(G1p y3 (J0x y1 y2) (J0y y1 y2) st.length (st.length+1) _ (by omega) (Q2k _ _ _) (Q2l _ _ _) s3 l2s g2s).mono ?_;rintro r st4 ⟨rfl,rfl⟩;rw[k1w];have l3:=K1l l2 y3b;have g3:=K1p g2 y3b;have l3s:=q1d l3 (by omega) (by omega);have g3s:=q1d g3 (by omega) (by omega);simp-dsimp only[go_sem];refine(K1v a.hi b.hi 64 65536 64 65536 _ (X0j a2) (X0j b2) (by omega) (by omega) (by omega) (by omega)).mono ?_;rintro r st4 ⟨y4,y4b,y4q,rfl,rfl⟩;have s4:=q1d y4b (by omega) (by omega);simp-dsimp only[go_sem];refine(G1p y4 (J0x (J0x y1 y2) y3) (J0y (J0y y1 y2) y3) st.length (st.length+1) _ (by omega) (Q2k _ _ _) (Q2l _ _ _) s4 l3s g3s).mono ?_;rintro r st5 ⟨rfl,rfl⟩;rw[k1w];have l4:=K1l l3 y4b;have g4:=K1p g3 y4b;have e1:=V2r r1 r2 y1q y2q y3q y4q;have e2:=G1u r1 r2 y1q y2q y3q y4q;generalize J0x (J0x (J0x y1 y2) y3) y4=L at*
 generalize J0y (J0y (J0y y1 y2) y3) y4=H at*
 have hL:=Q2k st (encN L) (encN H);have hH:=Q2l st (encN L) (encN H);unfold encN at hL hH⊢;simp-dsimp only[go_sem,hL,hH];refine(z1l L H q _ (l4.mono (by omega) (by omega)) (g4.mono (by omega) (by omega)) (by omega) (by omega)).mono ?_;rintro r st6 ⟨rfl,rfl⟩;have hm:opI 2 a b q=U0j (Z0z (ofX L) q false) (Z0z (ofX H) q true):=(by rw[opI,if_pos ⟨r1,r2,r3⟩,e1,e2,q3]);rw[hm];simp-dsimp only[go_sem,hL,hH];exact⟨k1d _ _ _,_,List.append_assoc _ _ _⟩
end Go.Pv
end
