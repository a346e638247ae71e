/- Parts of the walk: N13, N14. -/
import Derived.Test.YtagacielooaapaaGreatDoorZAB
import Derived.Test.YtagacielooaapaaGreatDoorZY
import Derived.Test.YtagacielooaapaaGreatDoorZH
import Derived.Test.YtagacielooaapaaGreatDoorZL
import Derived.Test.YtagacielooaapaaGreatDoorZP
set_option linter.unusedVariables false
set_option linter.unusedSimpArgs false
section
/-iv.Has,Make,Meet,valid,outward,Add,Sub,Wide,Mid,Mul. -/
set_option maxRecDepth 100000
namespace Go.Pv
open Go.Proofs
theorem K1d (a b:Ivl) (p:Int) (st:Q0e) (ha:wI a) (hb:wI b):PCalls Tryz.prog 155 [.agg (encI a),.agg (encI b),.sc (.int .i64 p)] st (fun r st'=>r= .sc (.bool (Q0h a&&Q0h b&&Z0l p))∧st'=st):=by
 refine Q0b none Tryz.func155 rfl fun E=>Q0a ?_
 simp -dsimp only [go_sem]
 refine(K0q a _ ha).mono ?_
 rintro r st ⟨rfl,rfl⟩
 cases r1:Q0h a with
 | false=>simp -dsimp only [go_sem];try rfl
 | true=>
  simp -dsimp only [go_sem]
  refine(K0q b _ hb).mono ?_
  rintro r st ⟨rfl,rfl⟩
  cases r2:Q0h b with
  | false=>simp -dsimp only [go_sem];try rfl
  | true=>
   simp -dsimp only [go_sem]
   refine(j0b p _).mono ?_
   rintro r st ⟨rfl,rfl⟩
   simp -dsimp only [go_sem]
   try rfl
theorem Z2c (v:Vl):(numV v).2=0∨numV v=(default,2):=by
 unfold numV
 split
 · exact .inl rfl
 · split
   · exact .inr rfl
   · exact .inl rfl
theorem U0t (lo hi:Nm) (p:Nat) (st:Q0e) (hl:bd 1000000 1000000 lo) (hh:bd 1000000 1000000 hi) (hp0:0<p) (hp:p≤1000000000):PCalls Tryz.prog 211 [.agg (encN lo),.agg (encN hi),.sc (.int .i64 p)] st
 (fun r st'=>r= .tup [.agg (encI (H0g (Q0y (ofX lo) p false) (Q0y (ofX hi) p true)).1),.sc (.int .i64 (H0g (Q0y (ofX lo) p false) (Q0y (ofX hi) p true)).2)]∧st'=st):=by
 refine Q0b none Tryz.func211 rfl fun E=>Q0a ?_
 unfold H0g
 simp -dsimp only [go_sem]
 refine(j0a lo p false _ hl hp0 hp).mono ?_
 rintro r st ⟨rfl,rfl⟩
 simp -dsimp only [go_sem]
 refine ck (fun h=> ?_) (fun h=> ?_)
 · have hne:=V0p h
   simp -dsimp only [go_sem]
   rw [if_neg (fun hh=>hne hh.1)]
   rcases Z2c (Q0y (ofX lo) p false) with e | e
   · exact absurd e hne
   · rw [e];rfl
 · have he:=W0y h
   simp -dsimp only [go_sem]
   refine(j0a hi p true _ hh hp0 hp).mono ?_
   rintro r st ⟨rfl,rfl⟩
   simp -dsimp only [go_sem]
   refine ck (fun h=> ?_) (fun h=> ?_)
   · have hne:=V0p h
     simp -dsimp only [go_sem]
     rw [if_neg (fun hh=>hne hh.2)]
     rcases Z2c (Q0y (ofX hi) p true) with e | e
     · exact absurd e hne
     · rw [e];rfl
   · have he2:=W0y h
     simp -dsimp only [go_sem]
     rw [if_pos ⟨he,he2⟩]
     try rfl
theorem H2k (a b:Ivl) (p:Int) (st:Q0e) (ha:wI a) (hb:wI b):PCalls Tryz.prog 154 [.agg (encI a),.agg (encI b),.sc (.int .i64 p)] st (fun r st'=>r= .tup [.agg (encI (opI 0 a b p).1),.sc (.int .i64 (opI 0 a b p).2)]∧st'=st):=by
 refine Q0b none Tryz.func154 rfl fun E=>Q0a ?_
 simp -dsimp only [go_sem]
 refine(K1d a b p _ ha hb).mono ?_
 rintro r st ⟨rfl,rfl⟩
 simp -dsimp only [go_sem]
 refine ck (fun h=> ?_) (fun h=> ?_)
 · simp -dsimp only [go_sem]
   rw [opI,if_neg (fun hh=>by simp [hh.1,hh.2.1,hh.2.2] at h)];rfl
 · have hv:Q0h a=true∧Q0h b=true∧Z0l p=true:=by simpa [and_assoc] using h
   obtain⟨r1,r2,r3⟩:=hv
   obtain⟨q,rfl,q1,q2,q3⟩:=z0r r3
   obtain⟨a1,a2,_⟩:=Q0n r1
   obtain⟨b1,b2,_⟩:=Q0n r2
   simp -dsimp only [go_sem]
   refine Q0l Z0x 28 (.step 0 [] (.step 1 [] (.step 2 [] (.step 3 [] (.step 5 [] (.step 6 [] (.step 7 [] (.step 8 [] (.step 10 [] (.step 4 [6,8] (.step 9 [] (.step 11 [] (.step 12 [] (.step 13 [] (.step 14 [] (.step 15 [] (.done))))))))))))))))) (by decide+kernel) (by simp) ?_
   simp -dsimp only [go_sem]
   refine(Y3v a.lo b.lo a1 b1 _).mono ?_
   rintro r st ⟨y,y1,y2,rfl,rfl⟩
   simp -dsimp only [go_sem]
   refine(Y3v a.hi b.hi a2 b2 _).mono ?_
   rintro r st ⟨z,z1,z2,rfl,rfl⟩
   simp -dsimp only [go_sem]
   refine(U0t y z q _ y1 z1 (by omega) (by omega)).mono ?_
   rintro r st ⟨rfl,rfl⟩
   have ca:=canI r1
   have cb:=canI r2
   have e1:ofX y=loV 0 (ofN a.lo) (ofN a.hi) (ofN b.lo) (ofN b.hi):=w0l (H0j 0 ca.1 ca.2 cb.1 cb.2) (by rw [y2,exQ0,loV0,J0n];rfl)
   have e2:ofX z=hiV 0 (ofN a.lo) (ofN a.hi) (ofN b.lo) (ofN b.hi):=w0l (H0k 0 ca.1 ca.2 cb.1 cb.2) (by rw [z2,exQ0,hiV0,J0n];rfl)
   simp -dsimp only [go_sem]
   rw [opI,if_pos ⟨r1,r2,r3⟩,e1,e2,q3]
theorem w2t (a:Ivl) (p:Int) (st:Q0e) (ha:wI a):PCalls Tryz.prog 251 [.agg (encI a),.sc (.int .i64 p)] st (fun r st'=>r= .tup [.agg (encN (J0f a p).1),.sc (.int .i64 (J0f a p).2)]∧st'=st):=by
 refine Q0b none Tryz.func251 rfl fun E=>Q0a ?_
 simp -dsimp only [go_sem]
 refine(K0q a _ ha).mono ?_
 rintro r st ⟨rfl,rfl⟩
 cases r1:Q0h a with
 | false=>
  simp -dsimp only [go_sem]
  rw [J0f,if_neg (by simp [r1])];rfl
 | true=>
  simp -dsimp only [go_sem]
  refine(j0b p _).mono ?_
  rintro r st ⟨rfl,rfl⟩
  cases r3:Z0l p with
  | false=>
   simp -dsimp only [go_sem]
   rw [J0f,if_neg (by simp [r3])];rfl
  | true=>
   obtain⟨q,rfl,q1,q2,q3⟩:=z0r r3
   obtain⟨a1,a2,_⟩:=Q0n r1
   simp -dsimp only [go_sem]
   refine(k3s a.hi a.lo a2 a1 _).mono ?_
   rintro r st ⟨y,y1,y2,rfl,rfl⟩
   simp -dsimp only [go_sem]
   refine(j0a y q true _ y1 (by omega) (by omega)).mono ?_
   rintro r st ⟨rfl,rfl⟩
   have ca:=canI r1
   have e1:ofX y=H0c (ofN a.hi) (ofN a.lo):=w0l (Y0m ca.2 ca.1) (by rw [y2,exQ1,W0o];rfl)
   simp -dsimp only [go_sem]
   rw [J0f,if_pos ⟨r1,r3⟩,e1,q3]
theorem G1w (x a b:Nm) (i j:Nat) (st:Q0e) (hij:i≠j) (hi:st.getD i []=encN a) (hj:st.getD j []=encN b) (hx:sm x) (ha:sm a) (hb:sm b):
 PCalls Tryz.prog 216 ([.agg (encN x)]++ [.gp i 0,.gp j 0]) st (fun r st'=>r= .tup []∧st'=(st.set i (encN (Z0c a x))).set j (encN (Z0d b x))):=by
 refine Q0b none Tryz.func216 rfl fun E=>Q0a ?_
 unfold encN at hi hj
 simp -dsimp only [go_sem]
 refine Q0l Z0x 10 (.step 0 [] (.step 1 [] (.step 3 [] (.step 4 [] (.step 2 [3,4] (.step 5 [] (.step 6 [] (.step 7 [] (.done))))))))) (by decide+kernel) (by simp) ?_
 simp -dsimp only [go_sem,hi,hj]
 refine(v1z a x _ ha hx).mono ?_
 rintro r st ⟨rfl,rfl⟩
 simp -dsimp only [go_sem,hi,hj]
 refine(Q1q b x _ hb hx).mono ?_
 rintro r st ⟨rfl,rfl⟩
 simp -dsimp only [go_sem,hi,hj]
 rw [Q0q _ _ _ _ _ hij,hj]
 exact⟨⟨by simp,by simp⟩,rfl⟩
theorem X2i (n:Nat) (x:Nm):Bnd n (.agg (encN x)):=by
 refine .agg _ fun j hj=> ?_
 match j,hj with
 | 0,_=>exact .sc _
 | 1,_=>exact .sc _
 | 2,_=>
  refine .sl _ _ 1 (fun i hi=> ?_) (fun i j hi hj=> ?_)
  · rw [J0a] at hi;rw [Z0n x.w i hi];rfl
  · rw [J0a] at hi;rw [Z0n x.w i hi]
    have:j=0:=by omega
    subst this;exact .sc _
theorem Q3x (n:Nat) (x:Ivl): ∀j,j<(encI x).length→Bnd n ((encI x).getD j .junk):=fun j hj=>by
 have h1:=X2i n x.lo
 have h2:=X2i n x.hi
 cases h1 with
 | agg _ h1=>
  cases h2 with
  | agg _ h2=>
   match j,hj with
   | 0,_=>exact h1 0 (show _<3 by omega)
   | 1,_=>exact h1 1 (show _<3 by omega)
   | 2,_=>exact h1 2 (show _<3 by omega)
   | 3,_=>exact h2 0 (show _<3 by omega)
   | 4,_=>exact h2 1 (show _<3 by omega)
   | 5,_=>exact h2 2 (show _<3 by omega)
theorem j1z (n:Nat) (x:Ivl) (e:Int):Bnd n (.tup [.agg (encI x),.sc (.int .i64 e)]):=by
 refine .tup _ fun j hj=> ?_
 match j,hj with
 | 0,_=>exact .agg _ (Q3x n x)
 | 1,_=>exact .sc _
theorem y1p (st:Q0e) (l h:List PV):(st++ [l]++ [h]).getD st.length []=l:=by
 rw [List.append_assoc,List.getD_eq_getElem?_getD,List.getElem?_append_right (Nat.le_refl _)];simp
theorem y1r (st:Q0e) (l h:List PV):(st++ [l]++ [h]).getD (st.length+1) []=h:=by
 rw [List.append_assoc,List.getD_eq_getElem?_getD,List.getElem?_append_right (by omega)];simp
theorem k1o (st:Q0e) (l h l' h':List PV):((st++ [l]++ [h]).set st.length l').set (st.length+1) h'=st++ [l']++ [h']:=by
 rw [List.append_assoc,List.set_append_right _ _ (Nat.le_refl _),List.set_append_right _ _ (by omega)];simp
theorem V1l {n k:Nat} {x:Nm} (h:bd n k x) (h1:n≤1000000) (h2:k≤1000000000):sm x:=⟨by have:=h.1;omega,by have:=h.2.1;omega,by have:=h.2.2;omega⟩
theorem w0z {n k:Nat} {a b:Nm} (ha:bd n k a) (hb:bd n k b):bd n k (Z0c a b):=w0y ha hb
theorem y0c {n k:Nat} {a b:Nm} (ha:bd n k a) (hb:bd n k b):bd n k (Z0d a b):=y0b ha hb
theorem H2j (a b:Ivl) (p:Int) (st:Q0e) (ha:wI a) (hb:wI b):PCalls Tryz.prog 159 [.agg (encI a),.agg (encI b),.sc (.int .i64 p)] st (fun r st'=>r= .tup [.agg (encI (opI 2 a b p).1),.sc (.int .i64 (opI 2 a b p).2)]∧st'=st):=by
 refine PCalls.drop ?_
 refine Q0b none Tryz.func159 rfl fun E=>Q0v (Q0a ?_)
 simp -dsimp only [go_sem]
 refine Q0v (Q0a ?_)
 simp -dsimp only [go_sem]
 refine(K1d a b p _ ha hb).mono ?_
 rintro r st ⟨rfl,rfl⟩
 simp -dsimp only [go_sem]
 refine ck (fun h=> ?_) (fun h=> ?_)
 · simp -dsimp only [go_sem]
   refine⟨j1z _ default 1,[],(List.append_nil _).symm,?_⟩
   rw [opI,if_neg (fun hh=>by simp [hh.1,hh.2.1,hh.2.2] at h)];rfl
 · have hv:Q0h a=true∧Q0h b=true∧Z0l p=true:=by simpa [and_assoc] using h
   obtain⟨r1,r2,r3⟩:=hv
   obtain⟨q,rfl,q1,q2,q3⟩:=z0r r3
   obtain⟨a1,a2,_⟩:=Q0n r1
   obtain⟨b1,b2,_⟩:=Q0n r2
   simp -dsimp only [go_sem]
   refine Q0v (Q0a ?_)
   simp -dsimp only [go_sem]
   refine(K1q a.lo b.lo 64 65536 64 65536 _ (X0e a1) (X0e b1) (by omega) (by omega) (by omega) (by omega)).mono ?_
   rintro r st ⟨y1,y1b,y1q,rfl,rfl⟩
   simp -dsimp only [go_sem]
   refine Q0v (Q0a ?_)
   simp -dsimp only [go_sem]
   refine w0a 3 (by simp [go_sem]) (by simp) ?_
   simp -dsimp only [go_sem]
   refine w0a 4 (by simp [go_sem]) (by simp) (Q0a ?_)
   simp -dsimp only [go_sem]
   have s1:=V1l y1b (by omega) (by omega)
   refine(K1q a.lo b.hi 64 65536 64 65536 _ (X0e a1) (X0e b2) (by omega) (by omega) (by omega) (by omega)).mono ?_
   rintro r st2 ⟨y2,y2b,y2q,rfl,rfl⟩
   have s2:=V1l y2b (by omega) (by omega)
   simp -dsimp only [go_sem]
   refine(G1w y2 y1 y1 st.length (st.length+1) _ (by omega) (y1p _ _ _) (y1r _ _ _) s2 s1 s1).mono ?_
   rintro r st3 ⟨rfl,rfl⟩
   rw [k1o]
   have l2:=w0z y1b y2b
   have g2:=y0c y1b y2b
   have l2s:=V1l l2 (by omega) (by omega)
   have g2s:=V1l g2 (by omega) (by omega)
   simp -dsimp only [go_sem]
   refine(K1q a.hi b.lo 64 65536 64 65536 _ (X0e a2) (X0e b1) (by omega) (by omega) (by omega) (by omega)).mono ?_
   rintro r st3 ⟨y3,y3b,y3q,rfl,rfl⟩
   have s3:=V1l y3b (by omega) (by omega)
   simp -dsimp only [go_sem]
   refine(G1w y3 (Z0c y1 y2) (Z0d y1 y2) st.length (st.length+1) _ (by omega) (y1p _ _ _) (y1r _ _ _) s3 l2s g2s).mono ?_
   rintro r st4 ⟨rfl,rfl⟩
   rw [k1o]
   have l3:=w0z l2 y3b
   have g3:=y0c g2 y3b
   have l3s:=V1l l3 (by omega) (by omega)
   have g3s:=V1l g3 (by omega) (by omega)
   simp -dsimp only [go_sem]
   refine(K1q a.hi b.hi 64 65536 64 65536 _ (X0e a2) (X0e b2) (by omega) (by omega) (by omega) (by omega)).mono ?_
   rintro r st4 ⟨y4,y4b,y4q,rfl,rfl⟩
   have s4:=V1l y4b (by omega) (by omega)
   simp -dsimp only [go_sem]
   refine(G1w y4 (Z0c (Z0c y1 y2) y3) (Z0d (Z0d y1 y2) y3) st.length (st.length+1) _ (by omega) (y1p _ _ _) (y1r _ _ _) s4 l3s g3s).mono ?_
   rintro r st5 ⟨rfl,rfl⟩
   rw [k1o]
   have l4:=w0z l3 y4b
   have g4:=y0c g3 y4b
   have e1:=V2g r1 r2 y1q y2q y3q y4q
   have e2:=H1c r1 r2 y1q y2q y3q y4q
   generalize Z0c (Z0c (Z0c y1 y2) y3) y4=L at*
   generalize Z0d (Z0d (Z0d y1 y2) y3) y4=H at*
   have hL:=y1p st (encN L) (encN H)
   have hH:=y1r st (encN L) (encN H)
   unfold encN at hL hH⊢
   simp -dsimp only [go_sem,hL,hH]
   refine(U0t L H q _ (l4.mono (by omega) (by omega)) (g4.mono (by omega) (by omega)) (by omega) (by omega)).mono ?_
   rintro r st6 ⟨rfl,rfl⟩
   have hm:opI 2 a b q=H0g (Q0y (ofX L) q false) (Q0y (ofX H) q true):=by rw [opI,if_pos ⟨r1,r2,r3⟩,e1,e2,q3]
   rw [hm]
   simp -dsimp only [go_sem,hL,hH]
   exact⟨j1z _ _ _,_,List.append_assoc _ _ _⟩
end Go.Pv
end
section
/-Boxes:pairs and each with closures;Meet,Add,Sub,Times,Mid. -/
set_option maxRecDepth 100000
namespace Go.Pv
open Go.Proofs
theorem U2q (g:FuncId) (caps:List PV) (G:Ivl→Ivl→Ivl×Int) (i:Nat) (x:Ivl) (b:List Ivl) (st:Q0e) (hc:Q0c Tryz.prog g=true) (hi:i<b.length)
 (h1c:caps.all PV.closed2=true) (h1':caps.all PV.closed1=true) (h2c:caps.map PV.forget2=caps) (h2':caps.map PV.forget1=caps) (hlim:caps.all (PV.lim1 0 1)=true)
 (h:PCalls Tryz.prog g ([.agg (encI x),.agg (encI (b.getD i default))]++caps) st (fun r st'=>r= .tup [.agg (encI (G x (b.getD i default)).1),.sc (.int .i64 (G x (b.getD i default)).2)]∧st'=st)):
 PCalls Tryz.prog 229 ([.sc (.int .i64 i),.agg (encI x)]++ [.ep [.fn (.func g) [] caps] 0,.ep [.sl .no (Q0m b)] 0]) st (fun r st'=>r= .tup [.agg (encI (G x (b.getD i default)).1),.sc (.int .i64 (G x (b.getD i default)).2)]∧st'=st):=by
 refine Q0b none Tryz.func229 rfl fun E=>Q0a ?_
 simp -dsimp only [go_sem]
 have e1:=K0t b i hi
 refine Q0l Z0x 17 (.step 0 [] (.step 1 [] (.step 2 [] (.step 3 [] (.step 4 [] (.step 5 [] (.step 6 [] (.step 7 [] (.step 8 [] (.step 9 [] (.step 10 [] (.done)))))))))))) (by decide+kernel) (by simp) ?_
 simp -dsimp only [go_sem,e1,hc,h1c,h1',h2c,h2']
 refine⟨by omega,?_⟩
 refine h.mono ?_
 rintro r st ⟨rfl,rfl⟩
 simp -dsimp only [go_sem]
theorem Q2s (g:FuncId) (caps:List PV) (G:Ivl→Ivl→Ivl×Int) (a b:List Ivl) (st:Q0e) (hc:Q0c Tryz.prog g=true) (ha:wB a) (hb:wB b) (h1c:caps.all PV.closed2=true) (h1':caps.all PV.closed1=true) (h2c:caps.map PV.forget2=caps) (h2':caps.map PV.forget1=caps) (hlim:caps.all (PV.lim1 0 1)=true) (hfz: ∀i cs,caps.map (PV.frz1 i cs)=caps)
 (h:rightB a=true→rightB b=true→ ∀i,i<a.length→i<b.length→PCalls Tryz.prog g ([.agg (encI (a.getD i default)),.agg (encI (b.getD i default))]++caps) st (fun r st'=>r= .tup [.agg (encI (G (a.getD i default) (b.getD i default)).1),.sc (.int .i64 (G (a.getD i default) (b.getD i default)).2)]∧st'=st)):
 PCalls Tryz.prog 183 [.sl .no (Q0m a),.sl .no (Q0m b),.fn (.func g) [] caps] st (fun r st'=>r= .tup [.sl .no (Q0m (H0t G a b).1),.sc (.int .i64 (H0t G a b).2)]∧st'=st):=by
 refine Q0b none Tryz.func183 rfl fun E=>Q0v (Q0a ?_)
 simp -dsimp only [go_sem,h1c,h1',h2c,h2',hfz]
 refine Z0w 0 ?_ ?_
 · simp -dsimp only [go_sem,h1c,h1',h2c,h2',hfz]
 simp -dsimp only [go_sem,h1c,h1',h2c,h2',hfz]
 refine Z0w 1 ?_ ?_
 · simp -dsimp only [go_sem,h1c,h1',h2c,h2',hfz]
 refine Q0a ?_
 simp -dsimp only [go_sem,h1c,h1',h2c,h2',hfz]
 refine(K0g a st ha).mono ?_
 rintro r st ⟨rfl,rfl⟩
 simp -dsimp only [go_sem,h1c,h1',h2c,h2',hfz]
 have bad: ∀st:Q0e,¬(rightB a=true∧rightB b=true∧a.length=b.length)→H0t G a b=([],1):=fun _ h=>if_neg h
 refine gkF (fun h1=> ?_) (fun h1=> ?_)
 · have r1:rightB a=true:=by simpa using h1
   simp -dsimp only [go_sem,h1c,h1',h2c,h2',hfz,r1]
   refine(K0g b st hb).mono ?_
   rintro r st ⟨rfl,rfl⟩
   simp -dsimp only [go_sem,h1c,h1',h2c,h2',hfz,r1]
   refine gkF (fun h2=> ?_) (fun h2=> ?_)
   · have r2:rightB b=true:=by simpa using h2
     simp -dsimp only [go_sem,h1c,h1',h2c,h2',hfz,r1,r2]
     refine ck (fun h3=> ?_) (fun h3=> ?_)
     · have hne:=Z1i h3
       simp -dsimp only [go_sem,h1c,h1',h2c,h2',hfz]
       rw [bad st (fun h=>hne h.2.2)];rfl
     · have hl:=j0v h3
       simp -dsimp only [go_sem,h1c,h1',h2c,h2',hfz]
       refine(q2r _ [.ep [.fn (.func g) [] caps] 0,.ep [.sl .no (Q0m b)] 0] (fun i x=>G x (b.getD i default)) a st rfl ha.1 rfl rfl rfl rfl rfl fun i hi=>U2q g caps G i _ b st hc (by omega) h1c h1' h2c h2' hlim (h r1 r2 i hi (by omega))).mono ?_
       rintro r st ⟨rfl,rfl⟩
       simp -dsimp only [go_sem,h1c,h1',h2c,h2',hfz]
       rw [H0t,if_pos ⟨r1,r2,hl⟩]
   · have r2:rightB b=false:=by simpa using h2
     simp -dsimp only [go_sem,h1c,h1',h2c,h2',hfz,r1,r2]
     rw [bad st (fun h=>by simp [r2] at h)];rfl
 · have r1:rightB a=false:=by simpa using h1
   simp -dsimp only [go_sem,h1c,h1',h2c,h2',hfz,r1]
   rw [bad st (fun h=>by simp [r1] at h)];rfl
theorem x3x (k:Nat) (a b:List Ivl) (p:Int):opB k a b p=H0t (fun x y=>opI k x y p) a b:=by
 unfold opB H0t
 by_cases h:rightB a=true∧rightB b=true∧a.length=b.length
 · rw [if_pos h]
   cases hp:Z0l p with
   | true=>rw [if_pos ⟨h.1,h.2.1,h.2.2,rfl⟩]
   | false=>
    rw [if_neg (fun hh=>by simp at hh),k0z _ a (U0b h.1).1 1 (by decide) (fun i x=>by simp only [U2x hp])]
 · rw [if_neg h,if_neg (fun hh=>h ⟨hh.1,hh.2.1,hh.2.2.1⟩)]
theorem W2s (x:Ivl) (b:List Ivl) (p:Int) (hx:Q0h x=true):J0r x b p=H0t (fun y _=>opI 2 x y p) b b:=by
 unfold H0t
 by_cases h:rightB b=true
 · rw [if_pos ⟨h,h,rfl⟩]
   unfold J0r
   cases hp:Z0l p with
   | true=>rw [if_pos ⟨h,hx,rfl⟩]
   | false=>
    rw [if_neg (fun hh=>by simp at hh),k0z _ b (U0b h).1 1 (by decide) (fun i x=>by simp only [U2x hp])]
 · rw [if_neg (fun hh=>h hh.1)]
   unfold J0r
   rw [if_neg (fun hh=>h hh.1)]
theorem z2u (x y:Ivl) (p:Int) (st:Q0e) (hx:wI x) (hy:wI y):PCalls Tryz.prog 185 ([.agg (encI x),.agg (encI y)]++ [.ep [.sc (.int .i64 p)] 0]) st (fun r st'=>r= .tup [.agg (encI (opI 0 x y p).1),.sc (.int .i64 (opI 0 x y p).2)]∧st'=st):=by
 refine Q0b none Tryz.func185 rfl fun E=>Q0a ?_
 simp -dsimp only [go_sem]
 refine(H2k x y p _ hx hy).mono ?_
 rintro r st ⟨rfl,rfl⟩
 simp -dsimp only [go_sem]
theorem y1d (x y z:Ivl) (p:Int) (st:Q0e) (hx:wI x) (hy:wI y):PCalls Tryz.prog 184 ([.agg (encI y),.agg (encI z)]++ [.ep (encI x) 0,.ep [.sc (.int .i64 p)] 0]) st (fun r st'=>r= .tup [.agg (encI (opI 2 x y p).1),.sc (.int .i64 (opI 2 x y p).2)]∧st'=st):=by
 refine Q0b none Tryz.func184 rfl fun E=>Q0a ?_
 simp -dsimp only [go_sem]
 refine(H2j x y p _ hx hy).mono ?_
 rintro r st ⟨rfl,rfl⟩
 simp -dsimp only [go_sem]
theorem Q3w (a b:List Ivl) (p:Int) (st:Q0e) (ha:wB a) (hb:wB b):PCalls Tryz.prog 122 [.sl .no (Q0m a),.sl .no (Q0m b),.sc (.int .i64 p)] st (fun r st'=>r= .tup [.sl .no (Q0m (opB 0 a b p).1),.sc (.int .i64 (opB 0 a b p).2)]∧st'=st):=by
 rw [x3x]
 refine Q0b none Tryz.func122 rfl fun E=>Q0v (Q0a ?_)
 simp -dsimp only [go_sem]
 refine Z0w 0 ?_ ?_
 · simp -dsimp only [go_sem]
 refine Q0a ?_
 simp -dsimp only [go_sem]
 refine(Q2s _ [.ep [.sc (.int .i64 p)] 0] (fun x y=>opI 0 x y p) a b st rfl ha hb rfl rfl rfl rfl rfl (fun _ _=>rfl) fun _ _ i h1 h2=>z2u _ _ p st (ha.2 i h1) (hb.2 i h2)).mono ?_
 rintro r st ⟨rfl,rfl⟩
 simp -dsimp only [go_sem]
theorem V2t (x:Ivl) (b:List Ivl) (p:Int) (st:Q0e) (hx:wI x) (hb:wB b):PCalls Tryz.prog 121 [.agg (encI x),.sl .no (Q0m b),.sc (.int .i64 p)] st (fun r st'=>r= .tup [.sl .no (Q0m (J0r x b p).1),.sc (.int .i64 (J0r x b p).2)]∧st'=st):=by
 refine Q0b none Tryz.func121 rfl fun E=>Q0v (Q0a ?_)
 simp -dsimp only [go_sem]
 refine Z0w 0 ?_ ?_
 · simp -dsimp only [go_sem]
 simp -dsimp only [go_sem]
 refine Z0w 1 ?_ ?_
 · simp -dsimp only [go_sem]
 refine Q0a ?_
 simp -dsimp only [go_sem]
 refine(K0q x st hx).mono ?_
 rintro r st ⟨rfl,rfl⟩
 cases r1:Q0h x with
 | false=>
  simp -dsimp only [go_sem]
  rw [J0r,if_neg (by simp [r1])];rfl
 | true=>
  rw [W2s x b p r1]
  simp -dsimp only [go_sem]
  refine(Q2s _ [.ep (encI x) 0,.ep [.sc (.int .i64 p)] 0] (fun y _=>opI 2 x y p) b b st rfl hb hb rfl rfl rfl rfl rfl (fun _ _=>rfl) fun _ _ i h1 h2=>y1d x _ _ p st hx (hb.2 i h1)).mono ?_
  rintro r st ⟨rfl,rfl⟩
  simp -dsimp only [go_sem]
end Go.Pv
end
