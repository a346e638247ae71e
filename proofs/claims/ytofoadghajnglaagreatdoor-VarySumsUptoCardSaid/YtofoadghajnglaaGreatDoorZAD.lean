/- Parts of the walk: N13, N14. -/
import Derived.Test.YtofoadghajnglaaGreatDoorZAB
import Derived.Test.YtofoadghajnglaaGreatDoorZY
import Derived.Test.YtofoadghajnglaaGreatDoorZH
import Derived.Test.YtofoadghajnglaaGreatDoorZL
import Derived.Test.YtofoadghajnglaaGreatDoorZP
set_option linter.unusedVariables false
set_option linter.unusedSimpArgs false
section
/-iv.Has,Make,Meet,valid,outward,Add,Sub,Wide,Mid,Mul. -/
set_option maxRecDepth 100000
namespace Go.Pv
open Go.Proofs
theorem j1o (lo hi:Nm) (st:Q0e) (h1:wN lo) (h2:wN hi):PCalls Tryz.prog 69 [.agg (encN lo),.agg (encN hi)] st (fun r st'=>r= .tup [.agg (encI (q1r lo hi).1),.sc (.int .i64 (q1r lo hi).2)]∧st'=st):=by
 refine Q0b none Tryz.func69 rfl fun E=>Q0a ?_
 unfold q1r
 simp -dsimp only [go_sem]
 refine(Y0u ⟨lo,hi⟩ _ ⟨h1,h2⟩).mono ?_
 rintro r st ⟨rfl,rfl⟩
 cases r1:Q0m ⟨lo,hi⟩ with
 | false=>
  rw [if_neg (by simp)]
  simp -dsimp only [go_sem];try rfl
 | true=>
  rw [if_pos rfl]
  simp -dsimp only [go_sem]
  refine(W3e lo hi _ h1 h2).mono ?_
  rintro r st ⟨rfl,rfl⟩
  simp -dsimp only [go_sem]
theorem Q1y (a b:Ivl) (p:Int) (st:Q0e) (ha:wI a) (hb:wI b):PCalls Tryz.prog 212 [.agg (encI a),.agg (encI b),.sc (.int .i64 p)] st (fun r st'=>r= .sc (.bool (Q0m a&&Q0m b&&Z0i p))∧st'=st):=by
 refine Q0b none Tryz.func212 rfl fun E=>Q0a ?_
 simp -dsimp only [go_sem]
 refine(Y0u a _ ha).mono ?_
 rintro r st ⟨rfl,rfl⟩
 cases r1:Q0m a with
 | false=>simp -dsimp only [go_sem];try rfl
 | true=>
  simp -dsimp only [go_sem]
  refine(Y0u b _ hb).mono ?_
  rintro r st ⟨rfl,rfl⟩
  cases r2:Q0m b with
  | false=>simp -dsimp only [go_sem];try rfl
  | true=>
   simp -dsimp only [go_sem]
   refine(Y0b p _).mono ?_
   rintro r st ⟨rfl,rfl⟩
   simp -dsimp only [go_sem]
   try rfl
theorem j1e (v:Vl):(numV v).2=0∨numV v=(default,2):=by
 unfold numV
 split
 · exact .inl rfl
 · split
   · exact .inr rfl
   · exact .inl rfl
theorem U1b (lo hi:Nm) (p:Nat) (st:Q0e) (hl:bd 1000000 1000000 lo) (hh:bd 1000000 1000000 hi) (hp0:0<p) (hp:p≤1000000000):PCalls Tryz.prog 216 [.agg (encN lo),.agg (encN hi),.sc (.int .i64 p)] st
 (fun r st'=>r= .tup [.agg (encI (W0s (Z0f (ofX lo) p false) (Z0f (ofX hi) p true)).1),.sc (.int .i64 (W0s (Z0f (ofX lo) p false) (Z0f (ofX hi) p true)).2)]∧st'=st):=by
 refine Q0b none Tryz.func216 rfl fun E=>Q0a ?_
 unfold W0s
 simp -dsimp only [go_sem]
 refine(v0n lo p false _ hl hp0 hp).mono ?_
 rintro r st ⟨rfl,rfl⟩
 simp -dsimp only [go_sem]
 refine ck (fun h=> ?_) (fun h=> ?_)
 · have hne:=H0b h
   simp -dsimp only [go_sem]
   rw [if_neg (fun hh=>hne hh.1)]
   rcases j1e (Z0f (ofX lo) p false) with e | e
   · exact absurd e hne
   · rw [e];rfl
 · have he:=H0i h
   simp -dsimp only [go_sem]
   refine(v0n hi p true _ hh hp0 hp).mono ?_
   rintro r st ⟨rfl,rfl⟩
   simp -dsimp only [go_sem]
   refine ck (fun h=> ?_) (fun h=> ?_)
   · have hne:=H0b h
     simp -dsimp only [go_sem]
     rw [if_neg (fun hh=>hne hh.2)]
     rcases j1e (Z0f (ofX hi) p true) with e | e
     · exact absurd e hne
     · rw [e];rfl
   · have he2:=H0i h
     simp -dsimp only [go_sem]
     rw [if_pos ⟨he,he2⟩]
     try rfl
theorem V1q (a b:Ivl) (p:Int) (st:Q0e) (ha:wI a) (hb:wI b):PCalls Tryz.prog 148 [.agg (encI a),.agg (encI b),.sc (.int .i64 p)] st (fun r st'=>r= .tup [.agg (encI (opI 0 a b p).1),.sc (.int .i64 (opI 0 a b p).2)]∧st'=st):=by
 refine Q0b none Tryz.func148 rfl fun E=>Q0a ?_
 simp -dsimp only [go_sem]
 refine(Q1y a b p _ ha hb).mono ?_
 rintro r st ⟨rfl,rfl⟩
 simp -dsimp only [go_sem]
 refine ck (fun h=> ?_) (fun h=> ?_)
 · simp -dsimp only [go_sem]
   rw [opI,if_neg (fun hh=>by simp [hh.1,hh.2.1,hh.2.2] at h)];rfl
 · have hv:Q0m a=true∧Q0m b=true∧Z0i p=true:=by simpa [and_assoc] using h
   obtain⟨r1,r2,r3⟩:=hv
   obtain⟨q,rfl,q1,q2,q3⟩:=H0w r3
   obtain⟨a1,a2,_⟩:=Z0n r1
   obtain⟨b1,b2,_⟩:=Z0n r2
   simp -dsimp only [go_sem]
   refine Q0p Z0g 28 (.step 0 [] (.step 1 [] (.step 2 [] (.step 3 [] (.step 5 [] (.step 6 [] (.step 7 [] (.step 8 [] (.step 10 [] (.step 4 [6,8] (.step 9 [] (.step 11 [] (.step 12 [] (.step 13 [] (.step 14 [] (.step 15 [] (.done))))))))))))))))) (by decide+kernel) (by simp) ?_
   simp -dsimp only [go_sem]
   refine(Y3l a.lo b.lo a1 b1 _).mono ?_
   rintro r st ⟨y,y1,y2,rfl,rfl⟩
   simp -dsimp only [go_sem]
   refine(Y3l a.hi b.hi a2 b2 _).mono ?_
   rintro r st ⟨z,z1,z2,rfl,rfl⟩
   simp -dsimp only [go_sem]
   refine(U1b y z q _ y1 z1 (by omega) (by omega)).mono ?_
   rintro r st ⟨rfl,rfl⟩
   have ca:=canI r1
   have cb:=canI r2
   have e1:ofX y=loV 0 (ofN a.lo) (ofN a.hi) (ofN b.lo) (ofN b.hi):=U1e (W2p 0 ca.1 ca.2 cb.1 cb.2) (by rw [y2,exQ0,loV0,v0p];rfl)
   have e2:ofX z=hiV 0 (ofN a.lo) (ofN a.hi) (ofN b.lo) (ofN b.hi):=U1e (W2q 0 ca.1 ca.2 cb.1 cb.2) (by rw [z2,exQ0,hiV0,v0p];rfl)
   simp -dsimp only [go_sem]
   rw [opI,if_pos ⟨r1,r2,r3⟩,e1,e2,q3]
theorem V1p (x a b:Nm) (i j:Nat) (st:Q0e) (hij:i≠j) (hi:st.getD i []=encN a) (hj:st.getD j []=encN b) (hx:sm x) (ha:sm a) (hb:sm b):
 PCalls Tryz.prog 213 ([.agg (encN x)]++ [.gp i 0,.gp j 0]) st (fun r st'=>r= .tup []∧st'=(st.set i (encN (J0e a x))).set j (encN (J0f b x))):=by
 refine Q0b none Tryz.func213 rfl fun E=>Q0a ?_
 unfold encN at hi hj
 simp -dsimp only [go_sem]
 refine Q0p Z0g 10 (.step 0 [] (.step 1 [] (.step 3 [] (.step 4 [] (.step 2 [3,4] (.step 5 [] (.step 6 [] (.step 7 [] (.done))))))))) (by decide+kernel) (by simp) ?_
 simp -dsimp only [go_sem,hi,hj]
 refine(Q3c a x _ ha hx).mono ?_
 rintro r st ⟨rfl,rfl⟩
 simp -dsimp only [go_sem,hi,hj]
 refine(w1y b x _ hb hx).mono ?_
 rintro r st ⟨rfl,rfl⟩
 simp -dsimp only [go_sem,hi,hj]
 rw [Q0i _ _ _ _ _ hij,hj]
 exact⟨⟨by simp,by simp⟩,rfl⟩
theorem k1b (n:Nat) (x:Nm):Bnd n (.agg (encN x)):=by
 refine .agg _ fun j hj=> ?_
 match j,hj with
 | 0,_=>exact .sc _
 | 1,_=>exact .sc _
 | 2,_=>
  refine .sl _ _ 1 (fun i hi=> ?_) (fun i j hi hj=> ?_)
  · rw [X0c] at hi;rw [Q0z x.w i hi];rfl
  · rw [X0c] at hi;rw [Q0z x.w i hi]
    have:j=0:=by omega
    subst this;exact .sc _
theorem x2y (n:Nat) (x:Ivl): ∀j,j<(encI x).length→Bnd n ((encI x).getD j .junk):=fun j hj=>by
 have h1:=k1b n x.lo
 have h2:=k1b n x.hi
 cases h1 with
 | agg _ h1=>
  cases h2 with
  | agg _ h2=>
   match j,hj with
   | 0,_=>exact h1 0 (show _<3 by omega)
   | 1,_=>exact h1 1 (show _<3 by omega)
   | 2,_=>exact h1 2 (show _<3 by omega)
   | 3,_=>exact h2 0 (show _<3 by omega)
   | 4,_=>exact h2 1 (show _<3 by omega)
   | 5,_=>exact h2 2 (show _<3 by omega)
theorem G1s (n:Nat) (x:Ivl) (e:Int):Bnd n (.tup [.agg (encI x),.sc (.int .i64 e)]):=by
 refine .tup _ fun j hj=> ?_
 match j,hj with
 | 0,_=>exact .agg _ (x2y n x)
 | 1,_=>exact .sc _
theorem x1j (st:Q0e) (l h:List PV):(st++ [l]++ [h]).getD st.length []=l:=by
 rw [List.append_assoc,List.getD_eq_getElem?_getD,List.getElem?_append_right (Nat.le_refl _)];simp
theorem x1k (st:Q0e) (l h:List PV):(st++ [l]++ [h]).getD (st.length+1) []=h:=by
 rw [List.append_assoc,List.getD_eq_getElem?_getD,List.getElem?_append_right (by omega)];simp
theorem H1j (st:Q0e) (l h l' h':List PV):((st++ [l]++ [h]).set st.length l').set (st.length+1) h'=st++ [l']++ [h']:=by
 rw [List.append_assoc,List.set_append_right _ _ (Nat.le_refl _),List.set_append_right _ _ (by omega)];simp
theorem W1v {n k:Nat} {x:Nm} (h:bd n k x) (h1:n≤1000000) (h2:k≤1000000000):sm x:=⟨by have:=h.1;omega,by have:=h.2.1;omega,by have:=h.2.2;omega⟩
theorem Q1x {n k:Nat} {a b:Nm} (ha:bd n k a) (hb:bd n k b):bd n k (J0e a b):=K2e ha hb
theorem Z1b {n k:Nat} {a b:Nm} (ha:bd n k a) (hb:bd n k b):bd n k (J0f a b):=K2s ha hb
theorem q1v (a b:Ivl) (p:Int) (st:Q0e) (ha:wI a) (hb:wI b):PCalls Tryz.prog 147 [.agg (encI a),.agg (encI b),.sc (.int .i64 p)] st (fun r st'=>r= .tup [.agg (encI (opI 2 a b p).1),.sc (.int .i64 (opI 2 a b p).2)]∧st'=st):=by
 refine PCalls.drop ?_
 refine Q0b none Tryz.func147 rfl fun E=>Q0h (Q0a ?_)
 simp -dsimp only [go_sem]
 refine Q0h (Q0a ?_)
 simp -dsimp only [go_sem]
 refine(Q1y a b p _ ha hb).mono ?_
 rintro r st ⟨rfl,rfl⟩
 simp -dsimp only [go_sem]
 refine ck (fun h=> ?_) (fun h=> ?_)
 · simp -dsimp only [go_sem]
   refine⟨G1s _ default 1,[],(List.append_nil _).symm,?_⟩
   rw [opI,if_neg (fun hh=>by simp [hh.1,hh.2.1,hh.2.2] at h)];rfl
 · have hv:Q0m a=true∧Q0m b=true∧Z0i p=true:=by simpa [and_assoc] using h
   obtain⟨r1,r2,r3⟩:=hv
   obtain⟨q,rfl,q1,q2,q3⟩:=H0w r3
   obtain⟨a1,a2,_⟩:=Z0n r1
   obtain⟨b1,b2,_⟩:=Z0n r2
   simp -dsimp only [go_sem]
   refine Q0h (Q0a ?_)
   simp -dsimp only [go_sem]
   refine(Z1i a.lo b.lo 64 65536 64 65536 _ (Z0z a1) (Z0z b1) (by omega) (by omega) (by omega) (by omega)).mono ?_
   rintro r st ⟨y1,y1b,y1q,rfl,rfl⟩
   simp -dsimp only [go_sem]
   refine Q0h (Q0a ?_)
   simp -dsimp only [go_sem]
   refine z0f 3 (by simp [go_sem]) (by simp) ?_
   simp -dsimp only [go_sem]
   refine z0f 4 (by simp [go_sem]) (by simp) (Q0a ?_)
   simp -dsimp only [go_sem]
   have s1:=W1v y1b (by omega) (by omega)
   refine(Z1i a.lo b.hi 64 65536 64 65536 _ (Z0z a1) (Z0z b2) (by omega) (by omega) (by omega) (by omega)).mono ?_
   rintro r st2 ⟨y2,y2b,y2q,rfl,rfl⟩
   have s2:=W1v y2b (by omega) (by omega)
   simp -dsimp only [go_sem]
   refine(V1p y2 y1 y1 st.length (st.length+1) _ (by omega) (x1j _ _ _) (x1k _ _ _) s2 s1 s1).mono ?_
   rintro r st3 ⟨rfl,rfl⟩
   rw [H1j]
   have l2:=Q1x y1b y2b
   have g2:=Z1b y1b y2b
   have l2s:=W1v l2 (by omega) (by omega)
   have g2s:=W1v g2 (by omega) (by omega)
   simp -dsimp only [go_sem]
   refine(Z1i a.hi b.lo 64 65536 64 65536 _ (Z0z a2) (Z0z b1) (by omega) (by omega) (by omega) (by omega)).mono ?_
   rintro r st3 ⟨y3,y3b,y3q,rfl,rfl⟩
   have s3:=W1v y3b (by omega) (by omega)
   simp -dsimp only [go_sem]
   refine(V1p y3 (J0e y1 y2) (J0f y1 y2) st.length (st.length+1) _ (by omega) (x1j _ _ _) (x1k _ _ _) s3 l2s g2s).mono ?_
   rintro r st4 ⟨rfl,rfl⟩
   rw [H1j]
   have l3:=Q1x l2 y3b
   have g3:=Z1b g2 y3b
   have l3s:=W1v l3 (by omega) (by omega)
   have g3s:=W1v g3 (by omega) (by omega)
   simp -dsimp only [go_sem]
   refine(Z1i a.hi b.hi 64 65536 64 65536 _ (Z0z a2) (Z0z b2) (by omega) (by omega) (by omega) (by omega)).mono ?_
   rintro r st4 ⟨y4,y4b,y4q,rfl,rfl⟩
   have s4:=W1v y4b (by omega) (by omega)
   simp -dsimp only [go_sem]
   refine(V1p y4 (J0e (J0e y1 y2) y3) (J0f (J0f y1 y2) y3) st.length (st.length+1) _ (by omega) (x1j _ _ _) (x1k _ _ _) s4 l3s g3s).mono ?_
   rintro r st5 ⟨rfl,rfl⟩
   rw [H1j]
   have l4:=Q1x l3 y4b
   have g4:=Z1b g3 y4b
   have e1:=y1e r1 r2 y1q y2q y3q y4q
   have e2:=V1r r1 r2 y1q y2q y3q y4q
   generalize J0e (J0e (J0e y1 y2) y3) y4=L at*
   generalize J0f (J0f (J0f y1 y2) y3) y4=H at*
   have hL:=x1j st (encN L) (encN H)
   have hH:=x1k st (encN L) (encN H)
   unfold encN at hL hH⊢
   simp -dsimp only [go_sem,hL,hH]
   refine(U1b L H q _ (l4.mono (by omega) (by omega)) (g4.mono (by omega) (by omega)) (by omega) (by omega)).mono ?_
   rintro r st6 ⟨rfl,rfl⟩
   have hm:opI 2 a b q=W0s (Z0f (ofX L) q false) (Z0f (ofX H) q true):=by rw [opI,if_pos ⟨r1,r2,r3⟩,e1,e2,q3]
   rw [hm]
   simp -dsimp only [go_sem,hL,hH]
   exact⟨G1s _ _ _,_,List.append_assoc _ _ _⟩
end Go.Pv
end
