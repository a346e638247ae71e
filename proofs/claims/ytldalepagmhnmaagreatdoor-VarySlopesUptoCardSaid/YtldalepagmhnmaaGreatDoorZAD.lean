/- Parts of the walk: N13, N14. -/
import Derived.Test.YtldalepagmhnmaaGreatDoorZAB
import Derived.Test.YtldalepagmhnmaaGreatDoorZH
set_option linter.unusedVariables false
set_option linter.unusedSimpArgs false
section
set_option maxRecDepth 100000
namespace Go.Pv
open Go.Proofs
theorem X2e (lo hi:Nm)(st:Q0e)(h1:wN lo)(h2:wN hi):PCalls Tryz.prog 128 [.agg (encN lo),.agg (encN hi)] st (fun r st'=>r= .tup [.agg (encI (w1n lo hi).1),.sc (.int .i64 (w1n lo hi).2)]/\st'=st):=by
 refine Q0b none Tryz.func128 rfl fun E=>Q0a ?_;unfold w1n;simp-dsimp only[go_sem];refine(U0y ⟨lo,hi⟩ _ ⟨h1,h2⟩).mono ?_;rintro r st ⟨rfl,rfl⟩;cases r1:Q0o ⟨lo,hi⟩ with
 | false=>
  rw[if_neg (by simp)];simp-dsimp only[go_sem];try rfl
 | true=>
  rw[if_pos rfl];simp-dsimp only[go_sem];refine(v3b lo hi _ h1 h2).mono ?_;rintro r st ⟨rfl,rfl⟩;simp-dsimp only[go_sem]
theorem K1j (a b:Ivl)(p:Int)(st:Q0e)(ha:wI a)(hb:wI b):PCalls Tryz.prog 215 [.agg (encI a),.agg (encI b),.sc (.int .i64 p)] st (fun r st'=>r= .sc (.bool (Q0o a&&Q0o b&&Z0m p))/\st'=st):=by
 refine Q0b none Tryz.func215 rfl fun E=>Q0a ?_;simp-dsimp only[go_sem];refine(U0y a _ ha).mono ?_;rintro r st ⟨rfl,rfl⟩;cases r1:Q0o a with
 | false=>simp-dsimp only[go_sem];try rfl
 | true=>
  simp-dsimp only[go_sem];refine(U0y b _ hb).mono ?_;rintro r st ⟨rfl,rfl⟩;cases r2:Q0o b with
  | false=>simp-dsimp only[go_sem];try rfl
  | true=>
   simp-dsimp only[go_sem];refine(U0f p _).mono ?_;rintro r st ⟨rfl,rfl⟩;simp-dsimp only[go_sem]
   try rfl
theorem G1k (v:Vl):(numV v).2=0\/numV v=(default,2):=by unfold numV;split;exact .inl rfl;split;exact .inr rfl;exact .inl rfl
theorem z1r (lo hi:Nm)(p:Nat)(st:Q0e)(hl:bd 1000000 1000000 lo)(hh:bd 1000000 1000000 hi)(hp0:0<p)(hp:p<=1000000000):PCalls Tryz.prog 234 [.agg (encN lo),.agg (encN hi),.sc (.int .i64 p)] st
 (fun r st'=>r= .tup [.agg (encI (U0a (Z0w (ofX lo) p false) (Z0w (ofX hi) p true)).1),.sc (.int .i64 (U0a (Z0w (ofX lo) p false) (Z0w (ofX hi) p true)).2)]/\st'=st):=by
 refine Q0b none Tryz.func234 rfl fun E=>Q0a ?_;unfold U0a;simp-dsimp only[go_sem];refine(y0s lo p false _ hl hp0 hp).mono ?_;rintro r st ⟨rfl,rfl⟩;simp-dsimp only[go_sem];refine ck (fun h=> ?_) (fun h=> ?_);have hne:=z0b h;simp-dsimp only[go_sem];rw[if_neg (fun hh=>hne hh.1)];rcases G1k (Z0w (ofX lo) p false) with e | e;exact absurd e hne;rw[e];rfl;have he:=z0m h;simp-dsimp only[go_sem];refine(y0s hi p true _ hh hp0 hp).mono ?_;rintro r st ⟨rfl,rfl⟩;simp-dsimp only[go_sem];refine ck (fun h=> ?_) (fun h=> ?_);have hne:=z0b h;simp-dsimp only[go_sem];rw[if_neg (fun hh=>hne hh.2)];rcases G1k (Z0w (ofX hi) p true) with e | e;exact absurd e hne;rw[e];rfl;have he2:=z0m h;simp-dsimp only[go_sem];rw[if_pos ⟨he,he2⟩]
 try rfl
theorem K1l (a b:Ivl)(p:Int)(st:Q0e)(ha:wI a)(hb:wI b):PCalls Tryz.prog 167 [.agg (encI a),.agg (encI b),.sc (.int .i64 p)] st (fun r st'=>r= .tup [.agg (encI (opI 0 a b p).1),.sc (.int .i64 (opI 0 a b p).2)]/\st'=st):=by refine Q0b none Tryz.func167 rfl fun E=>Q0a ?_;simp-dsimp only[go_sem];refine(K1j a b p _ ha hb).mono ?_;rintro r st ⟨rfl,rfl⟩;simp-dsimp only[go_sem];refine ck (fun h=> ?_) (fun h=> ?_);simp-dsimp only[go_sem];rw[opI,if_neg (fun hh=>by simp[hh.1,hh.2.1,hh.2.2] at h)];rfl;have hv:Q0o a=true/\Q0o b=true/\Z0m p=true:=(by simpa[and_assoc] using h);obtain⟨r1,r2,r3⟩:=hv;obtain⟨q,rfl,q1,q2,q3⟩:=J1s r3;obtain⟨a1,a2,_⟩:=Z0s r1;obtain⟨b1,b2,_⟩:=Z0s r2;simp-dsimp only[go_sem];refine Q0p Z0n 28 (.step 0 [] (.step 1 [] (.step 2 [] (.step 3 [] (.step 5 [] (.step 6 [] (.step 7 [] (.step 8 [] (.step 10 [] (.step 4 [6,8] (.step 9 [] (.step 11 [] (.step 12 [] (.step 13 [] (.step 14 [] (.step 15 [] (.done))))))))))))))))) (by decide+kernel) (by simp) ?_;simp-dsimp only[go_sem];refine(w3m a.lo b.lo a1 b1 _).mono ?_;rintro r st ⟨y,y1,y2,rfl,rfl⟩;simp-dsimp only[go_sem];refine(w3m a.hi b.hi a2 b2 _).mono ?_;rintro r st ⟨z,z1,z2,rfl,rfl⟩;simp-dsimp only[go_sem];refine(z1r y z q _ y1 z1 (by omega) (by omega)).mono ?_;rintro r st ⟨rfl,rfl⟩;have ca:=canI r1;have cb:=canI r2;have e1:ofX y=loV 0 (ofN a.lo) (ofN a.hi) (ofN b.lo) (ofN b.hi):=z1t (V1o 0 ca.1 ca.2 cb.1 cb.2) (by rw[y2,exQ0,loV0,U0q];rfl);have e2:ofX z=hiV 0 (ofN a.lo) (ofN a.hi) (ofN b.lo) (ofN b.hi):=z1t (V1p 0 ca.1 ca.2 cb.1 cb.2) (by rw[z2,exQ0,hiV0,U0q];rfl);simp-dsimp only[go_sem];rw[opI,if_pos ⟨r1,r2,r3⟩,e1,e2,q3]
theorem G1s (x a b:Nm)(i j:Nat)(st:Q0e)(hij:i≠j)(hi:st.getD i []=encN a)(hj:st.getD j []=encN b)(hx:sm x)(ha:sm a)(hb:sm b):
 PCalls Tryz.prog 231 ([.agg (encN x)]++ [.gp i 0,.gp j 0]) st (fun r st'=>r= .tup []/\st'=(st.set i (encN (J0t a x))).set j (encN (J0u b x))):=by
 refine Q0b none Tryz.func231 rfl fun E=>Q0a ?_;unfold encN at hi hj;simp-dsimp only[go_sem];refine Q0p Z0n 10 (.step 0 [] (.step 1 [] (.step 3 [] (.step 4 [] (.step 2 [3,4] (.step 5 [] (.step 6 [] (.step 7 [] (.done))))))))) (by decide+kernel) (by simp) ?_;simp-dsimp only[go_sem,hi,hj];refine(G3m a x _ ha hx).mono ?_;rintro r st ⟨rfl,rfl⟩;simp-dsimp only[go_sem,hi,hj];refine(V2v b x _ hb hx).mono ?_;rintro r st ⟨rfl,rfl⟩;simp-dsimp only[go_sem,hi,hj];rw[Q0l _ _ _ _ _ hij,hj];exact⟨⟨by simp,by simp⟩,rfl⟩
theorem X2x (n:Nat)(x:Nm):Bnd n (.agg (encN x)):=by
 refine .agg _ fun j hj=> ?_
 match j,hj with
 | 0,_=>exact .sc _
 | 1,_=>exact .sc _
 | 2,_=>
  refine .sl _ _ 1 (fun i hi=> ?_) (fun i j hi hj=> ?_);rw[X0i] at hi;rw[Z0e x.w i hi];rfl;rw[X0i] at hi;rw[Z0e x.w i hi];have:j=0:=(by omega);subst this;exact .sc _
theorem J3h (n:Nat)(x:Ivl): ∀j,j<(encI x).length->Bnd n ((encI x).getD j .junk):=fun j hj=>by
 have h1:=X2x n x.lo;have h2:=X2x n x.hi;cases h1 with
 | agg _ h1=>
  cases h2 with
  | agg _ h2=>
   match j,hj with
   | 0,_=>exact h1 0 (show _<3 by omega)
   | 1,_=>exact h1 1 (show _<3 by omega)
   | 2,_=>exact h1 2 (show _<3 by omega)
   | 3,_=>exact h2 0 (show _<3 by omega)
   | 4,_=>exact h2 1 (show _<3 by omega)
   | 5,_=>exact h2 2 (show _<3 by omega)
theorem k1h (n:Nat)(x:Ivl)(e:Int):Bnd n (.tup [.agg (encI x),.sc (.int .i64 e)]):=by
 refine .tup _ fun j hj=> ?_
 match j,hj with
 | 0,_=>exact .agg _ (J3h n x)
 | 1,_=>exact .sc _
theorem Q2q (st:Q0e)(l h:List PV):(st++ [l]++ [h]).getD st.length []=l:=by rw[List.append_assoc,q_a,List.getElem?_append_right (Nat.le_refl _)];simp
theorem Q2r (st:Q0e)(l h:List PV):(st++ [l]++ [h]).getD (st.length+1) []=h:=by rw[List.append_assoc,q_a,List.getElem?_append_right (by omega)];simp
theorem k1z (st:Q0e)(l h l' h':List PV):((st++ [l]++ [h]).set st.length l').set (st.length+1) h'=st++ [l']++ [h']:=by rw[List.append_assoc,List.set_append_right _ _ (Nat.le_refl _),List.set_append_right _ _ (by omega)];simp
theorem q1m {n k:Nat}{x:Nm}(h:bd n k x)(h1:n<=1000000)(h2:k<=1000000000):sm x:=⟨by have:=h.1;omega,by have:=h.2.1;omega,by have:=h.2.2;omega⟩
theorem K1i {n k:Nat}{a b:Nm}(ha:bd n k a)(hb:bd n k b):bd n k (J0t a b):=z2c ha hb
theorem K1o {n k:Nat}{a b:Nm}(ha:bd n k a)(hb:bd n k b):bd n k (J0u a b):=z2r ha hb
theorem G1r (a b:Ivl)(p:Int)(st:Q0e)(ha:wI a)(hb:wI b):PCalls Tryz.prog 166 [.agg (encI a),.agg (encI b),.sc (.int .i64 p)] st (fun r st'=>r= .tup [.agg (encI (opI 2 a b p).1),.sc (.int .i64 (opI 2 a b p).2)]/\st'=st):=by
 refine PCalls.drop ?_;refine Q0b none Tryz.func166 rfl fun E=>Q0g (Q0a ?_);simp-dsimp only[go_sem];refine Q0g (Q0a ?_);simp-dsimp only[go_sem];refine(K1j a b p _ ha hb).mono ?_;rintro r st ⟨rfl,rfl⟩;simp-dsimp only[go_sem];refine ck (fun h=> ?_) (fun h=> ?_);simp-dsimp only[go_sem];refine⟨k1h _ default 1,[],(List.append_nil _).symm,?_⟩;rw[opI,if_neg (fun hh=>by simp[hh.1,hh.2.1,hh.2.2] at h)];rfl;have hv:Q0o a=true/\Q0o b=true/\Z0m p=true:=(by simpa[and_assoc] using h);obtain⟨r1,r2,r3⟩:=hv;obtain⟨q,rfl,q1,q2,q3⟩:=J1s r3;obtain⟨a1,a2,_⟩:=Z0s r1;obtain⟨b1,b2,_⟩:=Z0s r2;simp-dsimp only[go_sem];refine Q0g (Q0a ?_);simp-dsimp only[go_sem];refine(K1x a.lo b.lo 64 65536 64 65536 _ (Z0x a1) (Z0x b1) (by omega) (by omega) (by omega) (by omega)).mono ?_;rintro r st ⟨y1,y1b,y1q,rfl,rfl⟩;simp-dsimp only[go_sem];refine Q0g (Q0a ?_);simp-dsimp only[go_sem];refine j0e 3 (by simp[go_sem]) (by simp) ?_;simp-dsimp only[go_sem];refine j0e 4 (by simp[go_sem]) (by simp) (Q0a ?_);simp-dsimp only[go_sem];have s1:=q1m y1b (by omega) (by omega);refine(K1x a.lo b.hi 64 65536 64 65536 _ (Z0x a1) (Z0x b2) (by omega) (by omega) (by omega) (by omega)).mono ?_;rintro r st2 ⟨y2,y2b,y2q,rfl,rfl⟩;have s2:=q1m y2b (by omega) (by omega);simp-dsimp only[go_sem];refine(G1s y2 y1 y1 st.length (st.length+1) _ (by omega) (Q2q _ _ _) (Q2r _ _ _) s2 s1 s1).mono ?_;rintro r st3 ⟨rfl,rfl⟩;rw[k1z];have l2:=K1i y1b y2b;have g2:=K1o y1b y2b;have l2s:=q1m l2 (by omega) (by omega);have g2s:=q1m g2 (by omega) (by omega);simp-dsimp only[go_sem];refine(K1x a.hi b.lo 64 65536 64 65536 _ (Z0x a2) (Z0x b1) (by omega) (by omega) (by omega) (by omega)).mono ?_;rintro r st3 ⟨y3,y3b,y3q,rfl,rfl⟩;have s3:=q1m y3b (by omega) (by omega);simp-dsimp only[go_sem];refine(G1s y3 (J0t y1 y2) (J0u y1 y2) st.length (st.length+1) _ (by omega) (Q2q _ _ _) (Q2r _ _ _) s3 l2s g2s).mono ?_;rintro r st4 ⟨rfl,rfl⟩;rw[k1z];have l3:=K1i l2 y3b;have g3:=K1o g2 y3b;have l3s:=q1m l3 (by omega) (by omega);have g3s:=q1m g3 (by omega) (by omega);simp-dsimp only[go_sem];refine(K1x a.hi b.hi 64 65536 64 65536 _ (Z0x a2) (Z0x b2) (by omega) (by omega) (by omega) (by omega)).mono ?_;rintro r st4 ⟨y4,y4b,y4q,rfl,rfl⟩;have s4:=q1m y4b (by omega) (by omega);simp-dsimp only[go_sem];refine(G1s y4 (J0t (J0t y1 y2) y3) (J0u (J0u y1 y2) y3) st.length (st.length+1) _ (by omega) (Q2q _ _ _) (Q2r _ _ _) s4 l3s g3s).mono ?_;rintro r st5 ⟨rfl,rfl⟩;rw[k1z];have l4:=K1i l3 y4b;have g4:=K1o g3 y4b;have e1:=W2a r1 r2 y1q y2q y3q y4q;have e2:=G1x r1 r2 y1q y2q y3q y4q;generalize J0t (J0t (J0t y1 y2) y3) y4=L at*
 generalize J0u (J0u (J0u y1 y2) y3) y4=H at*
 have hL:=Q2q st (encN L) (encN H);have hH:=Q2r st (encN L) (encN H);unfold encN at hL hH⊢;simp-dsimp only[go_sem,hL,hH];refine(z1r L H q _ (l4.mono (by omega) (by omega)) (g4.mono (by omega) (by omega)) (by omega) (by omega)).mono ?_;rintro r st6 ⟨rfl,rfl⟩;have hm:opI 2 a b q=U0a (Z0w (ofX L) q false) (Z0w (ofX H) q true):=(by rw[opI,if_pos ⟨r1,r2,r3⟩,e1,e2,q3]);rw[hm];simp-dsimp only[go_sem,hL,hH];exact⟨k1h _ _ _,_,List.append_assoc _ _ _⟩
end Go.Pv
end
