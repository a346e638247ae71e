/- Parts of the walk: N13, N14. -/
import Derived.Test.YtofoadghajnglaaGreatDoorZAB
import Derived.Test.YtofoadghajnglaaGreatDoorZY
import Derived.Test.YtofoadghajnglaaGreatDoorZH
import Derived.Test.YtofoadghajnglaaGreatDoorZK
import Derived.Test.YtofoadghajnglaaGreatDoorZP
set_option linter.unusedVariables false
set_option linter.unusedSimpArgs false
section
set_option maxRecDepth 100000
namespace Go.Pv
open Go.Proofs
theorem w1n (lo hi:Nm) (st:Q0f) (h1:wN lo) (h2:wN hi):PCalls Tryz.prog 69 [.agg (encN lo),.agg (encN hi)] st (fun r st'=>r= .tup [.agg (encI (j1k lo hi).1),.sc (.int .i64 (j1k lo hi).2)]/\st'=st):=by
 refine Q0b none Tryz.func69 rfl fun E=>Q0a ?_;unfold j1k;simp -dsimp only [go_sem];refine(G0d ⟨lo,hi⟩ _ ⟨h1,h2⟩).mono ?_;rintro r st ⟨rfl,rfl⟩;cases r1:Q0l ⟨lo,hi⟩ with
 | false=>
  rw [if_neg (by simp)];simp -dsimp only [go_sem];try rfl
 | true=>
  rw [if_pos rfl];simp -dsimp only [go_sem];refine(G3o lo hi _ h1 h2).mono ?_;rintro r st ⟨rfl,rfl⟩;simp -dsimp only [go_sem]
theorem J1e (a b:Ivl) (p:Int) (st:Q0f) (ha:wI a) (hb:wI b):PCalls Tryz.prog 212 [.agg (encI a),.agg (encI b),.sc (.int .i64 p)] st (fun r st'=>r= .sc (.bool (Q0l a&&Q0l b&&Z0m p))/\st'=st):=by
 refine Q0b none Tryz.func212 rfl fun E=>Q0a ?_;simp -dsimp only [go_sem];refine(G0d a _ ha).mono ?_;rintro r st ⟨rfl,rfl⟩;cases r1:Q0l a with
 | false=>simp -dsimp only [go_sem];try rfl
 | true=>
  simp -dsimp only [go_sem];refine(G0d b _ hb).mono ?_;rintro r st ⟨rfl,rfl⟩;cases r2:Q0l b with
  | false=>simp -dsimp only [go_sem];try rfl
  | true=>
   simp -dsimp only [go_sem];refine(U0n p _).mono ?_;rintro r st ⟨rfl,rfl⟩;simp -dsimp only [go_sem]
   try rfl
theorem Y1z (v:Vl):(numV v).2=0\/numV v=(default,2):=by unfold numV;split;exact .inl rfl;split;exact .inr rfl;exact .inl rfl
theorem H1q (lo hi:Nm) (p:Nat) (st:Q0f) (hl:bd 1000000 1000000 lo) (hh:bd 1000000 1000000 hi) (hp0:0<p) (hp:p<=1000000000):PCalls Tryz.prog 216 [.agg (encN lo),.agg (encN hi),.sc (.int .i64 p)] st
 (fun r st'=>r= .tup [.agg (encI (Y0a (Z0c (ofX lo) p false) (Z0c (ofX hi) p true)).1),.sc (.int .i64 (Y0a (Z0c (ofX lo) p false) (Z0c (ofX hi) p true)).2)]/\st'=st):=by
 refine Q0b none Tryz.func216 rfl fun E=>Q0a ?_;unfold Y0a;simp -dsimp only [go_sem];refine(y0d lo p false _ hl hp0 hp).mono ?_;rintro r st ⟨rfl,rfl⟩;simp -dsimp only [go_sem];refine ck (fun h=> ?_) (fun h=> ?_);have hne:=U0u h;simp -dsimp only [go_sem];rw [if_neg (fun hh=>hne hh.1)];rcases Y1z (Z0c (ofX lo) p false) with e | e;exact absurd e hne;rw [e];rfl;have he:=G0o h;simp -dsimp only [go_sem];refine(y0d hi p true _ hh hp0 hp).mono ?_;rintro r st ⟨rfl,rfl⟩;simp -dsimp only [go_sem];refine ck (fun h=> ?_) (fun h=> ?_);have hne:=U0u h;simp -dsimp only [go_sem];rw [if_neg (fun hh=>hne hh.2)];rcases Y1z (Z0c (ofX hi) p true) with e | e;exact absurd e hne;rw [e];rfl;have he2:=G0o h;simp -dsimp only [go_sem];rw [if_pos ⟨he,he2⟩]
 try rfl
theorem U1e (a b:Ivl) (p:Int) (st:Q0f) (ha:wI a) (hb:wI b):PCalls Tryz.prog 148 [.agg (encI a),.agg (encI b),.sc (.int .i64 p)] st (fun r st'=>r= .tup [.agg (encI (opI 0 a b p).1),.sc (.int .i64 (opI 0 a b p).2)]/\st'=st):=by refine Q0b none Tryz.func148 rfl fun E=>Q0a ?_;simp -dsimp only [go_sem];refine(J1e a b p _ ha hb).mono ?_;rintro r st ⟨rfl,rfl⟩;simp -dsimp only [go_sem];refine ck (fun h=> ?_) (fun h=> ?_);simp -dsimp only [go_sem];rw [opI,if_neg (fun hh=>by simp [hh.1,hh.2.1,hh.2.2] at h)];rfl;have hv:Q0l a=true/\Q0l b=true/\Z0m p=true:=(by simpa [and_assoc] using h);obtain⟨r1,r2,r3⟩:=hv;obtain⟨q,rfl,q1,q2,q3⟩:=H0o r3;obtain⟨a1,a2,_⟩:=Z0l r1;obtain⟨b1,b2,_⟩:=Z0l r2;simp -dsimp only [go_sem];refine Q0k Z0d 28 (.step 0 [] (.step 1 [] (.step 2 [] (.step 3 [] (.step 5 [] (.step 6 [] (.step 7 [] (.step 8 [] (.step 10 [] (.step 4 [6,8] (.step 9 [] (.step 11 [] (.step 12 [] (.step 13 [] (.step 14 [] (.step 15 [] (.done))))))))))))))))) (by decide+kernel) (by simp) ?_;simp -dsimp only [go_sem];refine(H3v a.lo b.lo a1 b1 _).mono ?_;rintro r st ⟨y,y1,y2,rfl,rfl⟩;simp -dsimp only [go_sem];refine(H3v a.hi b.hi a2 b2 _).mono ?_;rintro r st ⟨z,z1,z2,rfl,rfl⟩;simp -dsimp only [go_sem];refine(H1q y z q _ y1 z1 (by omega) (by omega)).mono ?_;rintro r st ⟨rfl,rfl⟩;have ca:=canI r1;have cb:=canI r2;have e1:ofX y=loV 0 (ofN a.lo) (ofN a.hi) (ofN b.lo) (ofN b.hi):=H1s (G2v 0 ca.1 ca.2 cb.1 cb.2) (by rw [y2,exQ0,loV0,y0f];rfl);have e2:ofX z=hiV 0 (ofN a.lo) (ofN a.hi) (ofN b.lo) (ofN b.hi):=H1s (G2w 0 ca.1 ca.2 cb.1 cb.2) (by rw [z2,exQ0,hiV0,y0f];rfl);simp -dsimp only [go_sem];rw [opI,if_pos ⟨r1,r2,r3⟩,e1,e2,q3]
theorem U1d (x a b:Nm) (i j:Nat) (st:Q0f) (hij:i≠j) (hi:st.getD i []=encN a) (hj:st.getD j []=encN b) (hx:sm x) (ha:sm a) (hb:sm b):
 PCalls Tryz.prog 213 ([.agg (encN x)]++ [.gp i 0,.gp j 0]) st (fun r st'=>r= .tup []/\st'=(st.set i (encN (J0y a x))).set j (encN (J0z b x))):=by
 refine Q0b none Tryz.func213 rfl fun E=>Q0a ?_;unfold encN at hi hj;simp -dsimp only [go_sem];refine Q0k Z0d 10 (.step 0 [] (.step 1 [] (.step 3 [] (.step 4 [] (.step 2 [3,4] (.step 5 [] (.step 6 [] (.step 7 [] (.done))))))))) (by decide+kernel) (by simp) ?_;simp -dsimp only [go_sem,hi,hj];refine(J3r a x _ ha hx).mono ?_;rintro r st ⟨rfl,rfl⟩;simp -dsimp only [go_sem,hi,hj];refine(X2f b x _ hb hx).mono ?_;rintro r st ⟨rfl,rfl⟩;simp -dsimp only [go_sem,hi,hj];rw [Q0n _ _ _ _ _ hij,hj];exact⟨⟨by simp,by simp⟩,rfl⟩
theorem y1e (n:Nat) (x:Nm):Bnd n (.agg (encN x)):=by
 refine .agg _ fun j hj=> ?_
 match j,hj with
 | 0,_=>exact .sc _
 | 1,_=>exact .sc _
 | 2,_=>
  refine .sl _ _ 1 (fun i hi=> ?_) (fun i j hi hj=> ?_);rw [X0k] at hi;rw [Z0g x.w i hi];rfl;rw [X0k] at hi;rw [Z0g x.w i hi];have:j=0:=(by omega);subst this;exact .sc _
theorem w2l (n:Nat) (x:Ivl): ∀j,j<(encI x).length->Bnd n ((encI x).getD j .junk):=fun j hj=>by
 have h1:=y1e n x.lo;have h2:=y1e n x.hi;cases h1 with
 | agg _ h1=>
  cases h2 with
  | agg _ h2=>
   match j,hj with
   | 0,_=>exact h1 0 (show _<3 by omega)
   | 1,_=>exact h1 1 (show _<3 by omega)
   | 2,_=>exact h1 2 (show _<3 by omega)
   | 3,_=>exact h2 0 (show _<3 by omega)
   | 4,_=>exact h2 1 (show _<3 by omega)
   | 5,_=>exact h2 2 (show _<3 by omega)
theorem z1l (n:Nat) (x:Ivl) (e:Int):Bnd n (.tup [.agg (encI x),.sc (.int .i64 e)]):=by
 refine .tup _ fun j hj=> ?_
 match j,hj with
 | 0,_=>exact .agg _ (w2l n x)
 | 1,_=>exact .sc _
theorem v1f (st:Q0f) (l h:List PV):(st++ [l]++ [h]).getD st.length []=l:=by rw [List.append_assoc,List.getD_eq_getElem?_getD,List.getElem?_append_right (Nat.le_refl _)];simp
theorem v1g (st:Q0f) (l h:List PV):(st++ [l]++ [h]).getD (st.length+1) []=h:=by rw [List.append_assoc,List.getD_eq_getElem?_getD,List.getElem?_append_right (by omega)];simp
theorem x1e (st:Q0f) (l h l' h':List PV):((st++ [l]++ [h]).set st.length l').set (st.length+1) h'=st++ [l']++ [h']:=by rw [List.append_assoc,List.set_append_right _ _ (Nat.le_refl _),List.set_append_right _ _ (by omega)];simp
theorem G1p {n k:Nat} {x:Nm} (h:bd n k x) (h1:n<=1000000) (h2:k<=1000000000):sm x:=⟨by have:=h.1;omega,by have:=h.2.1;omega,by have:=h.2.2;omega⟩
theorem J1d {n k:Nat} {a b:Nm} (ha:bd n k a) (hb:bd n k b):bd n k (J0y a b):=Y2m ha hb
theorem J1g {n k:Nat} {a b:Nm} (ha:bd n k a) (hb:bd n k b):bd n k (J0z a b):=Y2y ha hb
theorem j1p (a b:Ivl) (p:Int) (st:Q0f) (ha:wI a) (hb:wI b):PCalls Tryz.prog 147 [.agg (encI a),.agg (encI b),.sc (.int .i64 p)] st (fun r st'=>r= .tup [.agg (encI (opI 2 a b p).1),.sc (.int .i64 (opI 2 a b p).2)]/\st'=st):=by
 refine PCalls.drop ?_;refine Q0b none Tryz.func147 rfl fun E=>Q0h (Q0a ?_);simp -dsimp only [go_sem];refine Q0h (Q0a ?_);simp -dsimp only [go_sem];refine(J1e a b p _ ha hb).mono ?_;rintro r st ⟨rfl,rfl⟩;simp -dsimp only [go_sem];refine ck (fun h=> ?_) (fun h=> ?_);simp -dsimp only [go_sem];refine⟨z1l _ default 1,[],(List.append_nil _).symm,?_⟩;rw [opI,if_neg (fun hh=>by simp [hh.1,hh.2.1,hh.2.2] at h)];rfl;have hv:Q0l a=true/\Q0l b=true/\Z0m p=true:=(by simpa [and_assoc] using h);obtain⟨r1,r2,r3⟩:=hv;obtain⟨q,rfl,q1,q2,q3⟩:=H0o r3;obtain⟨a1,a2,_⟩:=Z0l r1;obtain⟨b1,b2,_⟩:=Z0l r2;simp -dsimp only [go_sem];refine Q0h (Q0a ?_);simp -dsimp only [go_sem];refine(J1n a.lo b.lo 64 65536 64 65536 _ (X0g a1) (X0g b1) (by omega) (by omega) (by omega) (by omega)).mono ?_;rintro r st ⟨y1,y1b,y1q,rfl,rfl⟩;simp -dsimp only [go_sem];refine Q0h (Q0a ?_);simp -dsimp only [go_sem];refine v0p 3 (by simp [go_sem]) (by simp) ?_;simp -dsimp only [go_sem];refine v0p 4 (by simp [go_sem]) (by simp) (Q0a ?_);simp -dsimp only [go_sem];have s1:=G1p y1b (by omega) (by omega);refine(J1n a.lo b.hi 64 65536 64 65536 _ (X0g a1) (X0g b2) (by omega) (by omega) (by omega) (by omega)).mono ?_;rintro r st2 ⟨y2,y2b,y2q,rfl,rfl⟩;have s2:=G1p y2b (by omega) (by omega);simp -dsimp only [go_sem];refine(U1d y2 y1 y1 st.length (st.length+1) _ (by omega) (v1f _ _ _) (v1g _ _ _) s2 s1 s1).mono ?_;rintro r st3 ⟨rfl,rfl⟩;rw [x1e];have l2:=J1d y1b y2b;have g2:=J1g y1b y2b;have l2s:=G1p l2 (by omega) (by omega);have g2s:=G1p g2 (by omega) (by omega);simp -dsimp only [go_sem];refine(J1n a.hi b.lo 64 65536 64 65536 _ (X0g a2) (X0g b1) (by omega) (by omega) (by omega) (by omega)).mono ?_;rintro r st3 ⟨y3,y3b,y3q,rfl,rfl⟩;have s3:=G1p y3b (by omega) (by omega);simp -dsimp only [go_sem];refine(U1d y3 (J0y y1 y2) (J0z y1 y2) st.length (st.length+1) _ (by omega) (v1f _ _ _) (v1g _ _ _) s3 l2s g2s).mono ?_;rintro r st4 ⟨rfl,rfl⟩;rw [x1e];have l3:=J1d l2 y3b;have g3:=J1g g2 y3b;have l3s:=G1p l3 (by omega) (by omega);have g3s:=G1p g3 (by omega) (by omega);simp -dsimp only [go_sem];refine(J1n a.hi b.hi 64 65536 64 65536 _ (X0g a2) (X0g b2) (by omega) (by omega) (by omega) (by omega)).mono ?_;rintro r st4 ⟨y4,y4b,y4q,rfl,rfl⟩;have s4:=G1p y4b (by omega) (by omega);simp -dsimp only [go_sem];refine(U1d y4 (J0y (J0y y1 y2) y3) (J0z (J0z y1 y2) y3) st.length (st.length+1) _ (by omega) (v1f _ _ _) (v1g _ _ _) s4 l3s g3s).mono ?_;rintro r st5 ⟨rfl,rfl⟩;rw [x1e];have l4:=J1d l3 y4b;have g4:=J1g g3 y4b;have e1:=X2k r1 r2 y1q y2q y3q y4q;have e2:=U1f r1 r2 y1q y2q y3q y4q;generalize J0y (J0y (J0y y1 y2) y3) y4=L at*
 generalize J0z (J0z (J0z y1 y2) y3) y4=H at*
 have hL:=v1f st (encN L) (encN H);have hH:=v1g st (encN L) (encN H);unfold encN at hL hH⊢;simp -dsimp only [go_sem,hL,hH];refine(H1q L H q _ (l4.mono (by omega) (by omega)) (g4.mono (by omega) (by omega)) (by omega) (by omega)).mono ?_;rintro r st6 ⟨rfl,rfl⟩;have hm:opI 2 a b q=Y0a (Z0c (ofX L) q false) (Z0c (ofX H) q true):=(by rw [opI,if_pos ⟨r1,r2,r3⟩,e1,e2,q3]);rw [hm];simp -dsimp only [go_sem,hL,hH];exact⟨z1l _ _ _,_,List.append_assoc _ _ _⟩
end Go.Pv
end
