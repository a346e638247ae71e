/- Parts of the walk: M73, N106. -/
import Derived.Test.YtagacielooaapaaGreatDoorZDB
import Derived.Test.YtagacielooaapaaGreatDoorZCE
import Derived.Test.YtagacielooaapaaGreatDoorZDE
import Derived.Test.YtagacielooaapaaGreatDoorZDG
import Derived.Test.YtagacielooaapaaGreatDoorZDF
import Derived.Test.YtagacielooaapaaGreatDoorZCC
set_option linter.unusedVariables false
set_option linter.unusedSimpArgs false
section
/-Stairs:their coefficients and sums do not fail. No program in it. -/
namespace Go.Pv
theorem z1c {f:List (List Mn)} {x:List Ivl} {p:Int} {n M:Nat} (hf:okField n M 2 f) (hM:M≤3) (hn1:1≤n) (hn4:n≤4) (hl:x.length=n) (hx: ∀j,j<n→luI 62 105 (x.getD j default)) (hp:Z0h p=true):
 ∀k,k≤7→(Z0r f x p k).2=0∧ ∀i,i<n→grI 340 170 62 105 k ((Z0r f x p k).1.getD i [])
 | 0,_=>by
  refine⟨rfl,fun i hi=> ?_⟩
  have e1:(Z0r f x p 0).1.getD i []= [x.getD i default]:=by simp [Z0r,List.getD_eq_getElem?_getD,(by omega:i<x.length)]
  rw [e1]
  refine⟨by simp,fun j hj=> ?_⟩
  obtain rfl:j=0:=by omega
  exact hx i hi
 | k+1,hk=>by
  obtain⟨c,hg⟩:=z1c hf hM hn1 hn4 hl hx hp k (by omega)
  have hfl:=hf.1
  have wx: ∀a∈x,wI a:=fun a ha=>by
   obtain⟨i,hi,rfl⟩:=List.mem_iff_getElem.1 ha
   have:=(hx i (by omega)).1
   rw [show x.getD i default=x[i] by simp [List.getD_eq_getElem?_getD,hi]] at this
   exact v0b this
  obtain⟨a1,a2⟩:=x0r (f:=f) (p:=p) (by omega) wx k c
  have hpp:p.toNat≤256:=by
   unfold Z0h at hp
   simp only [Bool.and_eq_true,decide_eq_true_eq] at hp
   omega
  have key: ∀i,i<n→(H0i f (Z0r f x p k).1 k p i).2=0∧luI (340*(k+1)+62) (170*(k+1)+105) (H0i f (Z0r f x p k).1 k p i).1:=fun i hi=>by
   have okP:=hf.at (i:=i) (by omega)
   have hql:(f.getD i []).length≤M:=okP.2.1
   have hk4:k≤6:=by omega
   have m1:340*k≤340*6:=Nat.mul_le_mul_left _ hk4
   have m2:170*k≤170*6:=Nat.mul_le_mul_left _ hk4
   obtain⟨o1,o2⟩:=Z3q (q:=f.getD i []) (xs:=(Z0r f x p k).1) (p:=p) (a:=340) (u:=170) (Lc:=12) (Uc:=18+M) (s1:=62) (r1:=105) (k:=k) (K:=6) (D:=2) hp
    (fun j hj=>by
     obtain⟨z1,z2,z3,z4,z5,z6⟩:=okP.at hj
     exact⟨z4,z6,z2,z3,by omega⟩)
    (fun j hj=>hg j (by omega)) hk4 (by omega) _ (Nat.le_refl _)
   have hser:q0y (f.getD i []) (Z0r f x p k).1 k p=ofS (f.getD i []) (Z0r f x p k).1 k p (f.getD i []).length:=by
    unfold q0y
    rw [Int.toNat_natCast,if_pos]
    refine⟨?_,?_,?_⟩
    · unfold K1z;rw [hp];simp;omega
    · rw [a1,hl];exact okP.1
    · rw [List.all_eq_true]
      intro r hr
      obtain⟨j,hj,rfl⟩:=List.mem_iff_getElem.1 hr
      have g:=hg j (by omega)
      rw [show(Z0r f x p k).1.getD j []=(Z0r f x p k).1[j] by simp [List.getD_eq_getElem?_getD,hj]] at g
      exact Z1j g.1 fun t ht=>(g.2 t ht).1
   unfold H0i
   rw [hser,if_neg (by rw [o1];decide)]
   obtain⟨d1,d2⟩:=Y3o (n:=k+1) o2 (by omega) (by omega) hp (by omega)
   exact⟨d1,d2.mono (by omega) (by omega)⟩
  have d:(G1z f (Z0r f x p k).1 k p).2=0:=Y0o _ _ _ fun j _ hj=>(key j (by omega)).1
  obtain⟨g1,g2,g3⟩:=K0v d
  rw [Z0r,if_neg (by rw [c];decide),if_neg (by rw [d];decide)]
  refine⟨rfl,fun i hi=> ?_⟩
  show grI _ _ _ _ _ ((Y0e _ _ _).getD i [])
  rw [z0c _ _ i (by omega),if_pos (by omega)]
  obtain⟨l1,_⟩:=a2 i (by omega)
  refine⟨by rw [List.length_append,l1];simp,fun j hj=> ?_⟩
  by_cases hjk:j≤k
  · rw [Q0p _ _ _ _ (by omega)]
    exact(hg i hi).2 j hjk
  · obtain rfl:j=k+1:=by omega
    rw [Q0s _ _ _ _ (by omega),l1,Nat.sub_self]
    show luI _ _ ((tabF (H0i f (Z0r f x p k).1 k p) 0 f.length []).1.getD i default)
    rw [g3 i (by omega)]
    exact(key i hi).2
theorem W2b {a:List Ivl} {h:Ivl} {p:Int} {L U:Nat} (hp:Z0h p=true) (ha: ∀j,j<a.length→luI L U (a.getD j default)) (hh:luI 12 18 h) (h1:1≤a.length) (h8:a.length≤8) (hb:L+U+84+147+40≤4096):
 ∀i,i<a.length→(sumN a h p i).2=0∧luI (L+12*i) (U+21*i) (sumN a h p i).1
 | 0,_=>⟨rfl,ha _ (by omega)⟩
 | i+1,hi=>by
  obtain⟨c1,c2⟩:=W2b hp ha hh h1 h8 hb i (by omega)
  obtain⟨d1,d2⟩:=Y1z c2 hh hp (by omega)
  obtain⟨e1,e2⟩:=q1c (k:=0) (by decide) d2 ((ha (a.length-2-i) (by omega)).mono (L':=L+12*i+12) (U':=U+21*i+18+1) (by omega) (by omega)) hp (by omega)
  rw [sumN,if_neg (by rw [c1];decide),if_neg (by rw [d1];decide)]
  exact⟨e1,e2.mono (by omega) (by omega)⟩
theorem W2n {a:List Ivl} {h:Ivl} {p:Int} {L U:Nat} (hp:Z0h p=true) (ha: ∀j,j<a.length→luI L U (a.getD j default)) (hh:luI 12 18 h) (h1:1≤a.length) (h8:a.length≤8) (hb:L+U+84+147+40≤4096):(Z0n a h p).2=0∧Q0j (Z0n a h p).1=true:=by
 have key:=W2b hp ha hh h1 h8 hb (a.length-1) (by omega)
 unfold Z0n
 rw [if_pos ⟨h1,by omega,Z1j (by omega) (fun j hj=>(ha j (by omega)).1),hh.1,hp⟩]
 exact⟨key.1,key.2.1⟩
end Go.Pv
end
section
/-Layer 15:FlowStairs. -/
set_option maxRecDepth 100000
namespace Go.Pv
open Go.Proofs
theorem k1z {f:List (List Mn)} {x:List Ivl} {p:Int} {n k:Nat} (hf:okField n 3 2 f) (hn1:1≤n) (hn4:n≤4) (hl:x.length=n) (hx: ∀j,j<n→luI 62 105 (x.getD j default)) (hp:Z0h p=true) (hk:k≤7):
 H0n f x k p=Z0r f x p k∧(H0n f x k p).2=0∧(H0n f x k p).1.length=n∧ ∀i,i<n→((H0n f x k p).1.getD i []).length=k+1∧(∀y∈(H0n f x k p).1.getD i [],wI y)∧ ∀j,j≤k→luI 2442 1295 (((H0n f x k p).1.getD i []).getD j default):=by
 have hfl:=hf.1
 have rx:rightB x=true:=V0a (fun j hj=>(hx j (by omega)).1) (by omega) (by omega)
 have rf:=hf.right hn1 hn4
 have e:H0n f x k p=Z0r f x p k:=by
  unfold H0n
  rw [if_pos ⟨rf,rx,by omega,by omega,by omega,hp⟩,Int.toNat_natCast]
 have wx: ∀a∈x,wI a:=fun a ha=>by
  obtain⟨i,hi,rfl⟩:=List.mem_iff_getElem.1 ha
  have:=(hx i (by omega)).1
  rw [show x.getD i default=x[i] by simp [List.getD_eq_getElem?_getD,hi]] at this
  exact v0b this
 obtain⟨s0,s1⟩:=z1c hf (by omega) hn1 hn4 hl hx hp k hk
 obtain⟨a1,a2⟩:=x0r (f:=f) (p:=p) (by omega) wx k s0
 rw [e]
 exact⟨rfl,s0,by omega,fun i hi=>⟨(a2 i (by omega)).1,(a2 i (by omega)).2,fun j hj=>((s1 i hi).2 j hj).mono (by omega) (by omega)⟩⟩
set_option maxHeartbeats 8000000 in
theorem q1z (l:List UInt64):PCalls Tryz.prog 7 [.sl .no (encW l)] [] (fun r st'=>r= .sc (.bool true)):=by
 refine Q0b none Tryz.func7 rfl fun E=>Q0n (Q0a ?_)
 simp -dsimp only [go_sem]
 refine Q0n (Q0a ?_)
 simp -dsimp only [go_sem]
 refine(G2v _).mono ?_
 rintro r st ⟨rfl,rfl⟩
 simp -dsimp only [go_sem]
 refine Q0n (Q0a ?_)
 simp -dsimp only [go_sem]
 refine(y2g l _).mono ?_
 rintro r st ⟨rfl,rfl⟩
 simp -dsimp only [go_sem]
 refine Q0n (Q0a ?_)
 simp -dsimp only [go_sem]
 refine(z0x l 0 0 3 [dk l 0] rfl (by omega) (by omega) (by omega)).mono ?_
 rintro r st ⟨rfl,rfl⟩
 have hk:=q1d l 0 (n:=3) (by omega)
 have x1:IntKind.i64.wrap (1+((nx l 0 3:Nat):Int))=((1+nx l 0 3:Nat):Int):=by rw [Q0h _ (by omega) (by omega)];omega
 simp -dsimp only [go_sem,x1]
 generalize hn:1+nx l 0 3=n
 refine Q0n (Q0a ?_)
 simp -dsimp only [go_sem]
 refine(K3f l 1 0 n 3 2 [dk l 1] rfl (by omega) (by omega) (by omega) (by omega) (by omega)).mono ?_
 rintro r st ⟨f,raw,X0,j1,hf,_,hj1,hj2,rfl,rfl⟩
 have at2: ∀j,atD ([dk l 1].set 0 (dk l j)++X0) 0 l j:=fun j=>rfl
 have st2: ∀a b,([dk l 1].set 0 (dk l a)++X0).set 0 (dk l b)= [dk l 1].set 0 (dk l b)++X0:=fun a b=>rfl
 simp -dsimp only [go_sem]
 refine(j1g l j1 0 n _ (at2 j1) (by omega) (by omega)).mono ?_
 rintro r st ⟨x,j2,hxl,hx,hj3,hj4,rfl,rfl⟩
 rw [st2]
 simp -dsimp only [go_sem]
 refine(V1j l j2 0 _ (at2 j2) (by omega)).mono ?_
 rintro r st ⟨h,j3,hh,hj5,hj6,rfl,rfl⟩
 rw [st2]
 simp -dsimp only [go_sem]
 refine(z3v l j3 0 _ (at2 j3) (by omega)).mono ?_
 rintro r st ⟨p,j4,hp1,hp2,hj7,hj8,rfl,rfl⟩
 rw [st2]
 have wf:=hf.wF (by omega) (by omega)
 have wx:=z3b hxl (by omega) hx
 have hpp:Z0h (p:Int)=true:=by unfold Z0h;simp;omega
 have hx2: ∀j,j<n→luI 62 105 (x.getD j default):=fun j hj=>(Z3a (hx j (by omega))).mono (by omega) (by omega)
 have hfl:=hf.1
 simp -dsimp only [go_sem]
 refine Q0n (Q0a ?_)
 simp -dsimp only [go_sem]
 refine(K3r n _ (by omega) (by omega)).mono ?_
 rintro r st ⟨rfl,rfl⟩
 have ho:rchN 2 (n-1)≤7:=by
  have: ∀i,i<3→rchN 2 i≤7:=by decide
  exact this _ (by omega)
 generalize rchN 2 (n-1)=o at ho⊢
 obtain⟨a0,a1,a2,a3⟩:=k1z (k:=o) hf (by omega) (by omega) hxl hx2 hpp ho
 obtain⟨w1,w2⟩:=W3s f x (o:Int) (p:Int) wx
 simp -dsimp only [go_sem]
 refine Q0n (Q0a ?_)
 simp -dsimp only [go_sem]
 refine(z1a f x o p _ wf wx).mono ?_
 rintro r st ⟨rfl,rfl⟩
 have hmem: ∀c:Nat→Nat→Rat,(∀i,i<f.length→memI (c i 0) (x.getD i default))→serR f c o→memX o c (H0n f x o p).1:=fun c h1 h2=>by
  rw [a0] at a1⊢
  refine z1b (by omega) (fun a ha=> ?_) h1 o h2 a1
  obtain⟨i,hi,rfl⟩:=List.mem_iff_getElem.1 ha
  have:=wx.2 i hi
  rwa [show x.getD i default=x[i] by simp [List.getD_eq_getElem?_getD,hi]] at this
 clear a0
 generalize H0n f x o p=A at a1 a2 a3 hmem w1 w2⊢
 have z1:(A.2 !=0)=false:=by rw [a1];rfl
 simp -dsimp only [go_sem]
 refine Q0n (Q0a ?_)
 simp -dsimp only [go_sem]
 refine(q1y A.1 h p _ w1 (G0d hh.1)).mono ?_
 rintro r st ⟨rfl,rfl⟩
 have hhl:luI 12 18 h:=Z3a hh
 have hser: ∀i,i<n→(Z0n (A.1.getD i []) h p).2=0∧Q0j (Z0n (A.1.getD i []) h p).1=true:=fun i hi=>by
  obtain⟨c1,c2,c3⟩:=a3 i hi
  exact W2n hpp (fun j hj=>c3 j (by omega)) hhl (by omega) (by omega) (by omega)
 have hsum:(j0m A.1 h p).2=0∧(j0m A.1 h p).1.length=n∧ ∀i,i<n→(j0m A.1 h p).1.getD i default=(Z0n (A.1.getD i []) h p).1:=by
  have hno: ¬(A.1.any fun a=>decide ((Z0n a h p).2=1))=true:=fun hc=>by
   obtain⟨j,hj,e⟩:=any_one.1 hc
   have:=(hser j (by omega)).1
   omega
  have hs:j0m A.1 h p=tabF (fun j=>Z0n (A.1.getD j []) h p) 0 A.1.length []:=by
   unfold j0m
   rw [if_pos ⟨by omega,by omega⟩,if_neg hno]
  have h0:(tabF (fun j=>Z0n (A.1.getD j []) h p) 0 A.1.length []).2=0:=Y0o _ _ _ fun j _ hj=>(hser j (by omega)).1
  obtain⟨t1,t2,t3⟩:=K0v h0
  rw [hs]
  exact⟨h0,by omega,fun i hi=>t3 i (by omega)⟩
 have w3:=K3c (h:=h) (p:=(p:Int)) w1
 generalize j0m A.1 h p=Sm at hsum w3⊢
 obtain⟨q1,q2,q3⟩:=hsum
 have z2:(Sm.2 !=0)=false:=by rw [q1];rfl
 have z3:((Sm.1.length:Int) !=(n:Int))=false:=by rw [q2];simp
 refine Q0n (Q0a ?_)
 simp -dsimp only [go_sem,z1,z2,z3]
 have hst: ∀j,[dk l 1].set 0 (dk l j)++X0=dk l j::X0:=fun j=>rfl
 refine G0j [false,false,false,false,true,false,false,false,false,false,false,false,true,false,true,true] 2 0
  (fun s=> ∃(X:Nat→Nat→Rat) (V:List (List Vl)) (y:List Nm) (t:Nm),(∀j,j<x.length→ ∃n,n≤8∧y.getD j default=inN (x.getD j default) n)∧(∀i,i<f.length→X i 0=qN (y.getD i default))∧derR f X o∧V.length=f.length∧(∀i,i<f.length→RL o (X i) (V.getD i []))∧(∃m,m≤8∧t=inN h m)∧
   s=⟨[.junk,.junk,.junk,.junk,.sc (.int .i64 (n:Nat)),.junk,.junk,.junk,.junk,.junk,.junk,.junk,.sl .no (Q0t Sm.1),.junk,.sl .no (Z0f V),.lp 1 0]++List.replicate 89 .junk,[encI h,encV (ofN t)],[],[dk l 1].set 0 (dk l (j4+x.length+1))++X0⟩) ?_ ?_
 · simp -dsimp only [go_sem]
   refine y1a Z0t 105 [0,1,2,3,4,5,6,7,8,9] [10] [11,12] (.step 0 [] (.step 1 [] (.step 2 [] (.step 4 [] (.step 6 [] (.step 7 [] (.step 3 [7] (.step 5 [7] (.step 8 [] (.step 9 [] (.done))))))))))) (.step 11 [] (.step 12 [] (.done))) (by decide+kernel) (by simp) ?_
   simp -dsimp only [go_sem]
   refine(w2e l j4 0 x _ (at2 j4) (by omega) (by omega) (fun j hj=>(hx j hj).1)).mono ?_
   rintro r st ⟨y,hyl,hy,rfl,rfl⟩
   have hyp:=x3t hx hy
   rw [st2]
   simp -dsimp only [go_sem]
   refine(U1v (a:=136) (u:=297) (Lc:=12) (Uc:=21) (s1:=62) (r1:=105) (D:=2) (M:=3) f y o _ wf (by omega) (by omega) (by omega) (by omega) (fun i hi=>(hyp i (by omega)).1) (fun i hi=>(hf.at hi).2.1) hf.der (fun i hi=>(hyp i (by omega)).2.2) (by omega) (by omega) (by omega)).mono ?_
   rintro r st ⟨X,V,hX0,hX,hVl,hV,rfl,rfl⟩
   simp -dsimp only [go_sem]
   refine(Q2t l (j4+x.length) 0 h _ (at2 _) (by omega) hh.1).mono ?_
   rintro r st ⟨rfl,rfl⟩
   have hm0:=q1d l (j4+x.length) (n:=9) (by omega)
   have hpt:=K3x hh (n:=nx l (j4+x.length) 9) (by omega)
   rw [st2]
   simp -dsimp only [go_sem]
   refine(of_c (inN h (nx l (j4+x.length) 9)) _ (by have:=X0x hpt.1;unfold wN at this;omega)).mono ?_
   rintro r st ⟨rfl,rfl⟩
   simp -dsimp only [go_sem]
   exact⟨X,V,y,inN h (nx l (j4+x.length) 9),hy,hX0,hX,hVl,hV,⟨_,by omega,rfl⟩,rfl⟩
 rintro s ⟨X,V,y,t,hy,hX0,hX,hVl,hV,⟨m0,hm0,rfl⟩,rfl⟩
 have hyp:=x3t hx hy
 have hpt:=K3x hh hm0
 have hin:=hmem (j0d X) (fun i hi=>by rw [X2j,hX0 i hi];exact(hyp i (by omega)).2.1) (Y3s (by omega) hX)
 have hgr:=Q2s (K:=o) (a:=136) (u:=297) (Lc:=12) (Uc:=21) (s1:=62) (r1:=105) (D:=2) (M:=3) (by omega) hX (fun i hi=>(hf.at hi).2.1) (fun i hi j hj=>⟨(hf.der i hi j hj).2.1,(hf.der i hi j hj).2.2.2.2⟩) (fun i hi=>by rw [hX0 i hi];exact(hyp i (by omega)).2.2) (by omega) (by omega) o (Nat.le_refl _)
 clear hmem hyp
 generalize inN h m0=t at hpt⊢
 refine Q0a ?_
 simp -dsimp only [go_sem]
 refine Z0y [false,false,false,false,true,false,false,false,false,false,false,false,true,false,true,true,true] 2 0 (fun m s=> ∃i,i≤n∧m=n-i∧
  s=⟨[.junk,.junk,.junk,.junk,.sc (.int .i64 (n:Nat)),.junk,.junk,.junk,.junk,.junk,.junk,.junk,.sl .no (Q0t Sm.1),.junk,.sl .no (Z0f V),.lp 1 0,.sc (.int .i64 (i:Nat))]++List.replicate 88 .junk,[encI h,encV (ofN t)],[],[dk l 1].set 0 (dk l (j4+x.length+1))++X0⟩) n ?_ ?_
 · simp -dsimp only [go_sem]
   exact⟨0,by omega,by omega,rfl⟩
 · rintro m s ⟨i,hi,rfl,rfl⟩
   refine Q0n (Q0a ?_)
   simp -dsimp only [go_sem]
   refine ck (fun h'=> ?_) (fun h'=> ?_)
   · have hlt:i<n:=by have:=of_decide_eq_true h';omega
     have e1:=J0u Sm.1 i (by omega)
     have e2:=J1y V i (by omega)
     have e3:IntKind.i64.wrap ((i:Int)+1)=((i+1:Nat):Int):=by rw [Q0h _ (by omega) (by omega)];omega
     obtain⟨c1,c2,c3⟩:=a3 i hlt
     have hg:=hgr i (by omega)
     have hat:=fun st=>at_c (V.getD i []) (ofN t) o (X i) (qN t) st (by omega) (hV i (by omega)) (RV.num hpt.1) hg hpt.2.2 (by omega)
     have hms:=X2m (a:=A.1.getD i []) (h:=h) (p:=(p:Int)) (c:=j0d X i) (t:=qN t) (by rw [c1];exact hin i (by omega)) hpt.2.1 (hser i hlt).1
     rw [c1,←q3 i hlt] at hms
     have hr:Q0j (Sm.1.getD i default)=true:=by rw [q3 i hlt];exact(hser i hlt).2
     have w4:wI (Sm.1.getD i default):=w3.2 i (by omega)
     have hv2:=z2q (g:=X i) (t:=qN t) (K:=o) (by omega) o (Nat.le_refl _)
     have hlu:=Y1k (o+1) fun k hk=>(z2p (k:=k) (K:=o) (by omega) hg hpt.2.2 (by omega)).1
     have hl1:=hlu.mono (L':=5000) (U':=5000) (by omega) (by omega)
     have hl2:=(j3k o (by omega)).mono (L':=5000) (U':=5000) (by omega) (by omega)
     have hpos:=w2r o
     have hmk:qN (Sm.1.getD i default).lo*(fctN o:Rat)≤sumR (atT (X i) (qN t) o) (o+1)∧sumR (atT (X i) (qN t) o) (o+1)≤qN (Sm.1.getD i default).hi*(fctN o:Rat):=by
      rw [hv2,Rat.mul_comm (fctN o:Rat)]
      have hms:qN (Sm.1.getD i default).lo≤valR (fun k=>X i k/(fctN k:Rat)) (qN t) o∧valR (fun k=>X i k/(fctN k:Rat)) (qN t) o≤qN (Sm.1.getD i default).hi:=hms
      exact⟨Rat.mul_le_mul_of_nonneg_right hms.1 (Rat.le_of_lt hpos),Rat.mul_le_mul_of_nonneg_right hms.2 (Rat.le_of_lt hpos)⟩
     clear hv2 hlu hms hin hgr hser
     simp -dsimp only [go_sem]
     refine Q0n (K0m ?_)
     refine G0j [false,false,false,false,true,false,false,false,false,false,false,false,true,false,true,true,true,true,true] 4 0
      (fun s=> ∃v w,RV (sumR (atT (X i) (qN t) o) (o+1)) v∧RV (fctN o:Rat) w∧
       (s=⟨[.junk,.junk,.junk,.junk,.sc (.int .i64 (n:Nat)),.junk,.junk,.junk,.junk,.junk,.junk,.junk,.sl .no (Q0t Sm.1),.junk,.sl .no (Z0f V),.lp 1 0,.sc (.int .i64 (i:Nat)),.lp 2 0,.lp 3 0]++List.replicate 86 .junk,[encI h,encV (ofN t),encV v,encV w],[],[dk l 1].set 0 (dk l (j4+x.length+1))++X0⟩∨
        s=⟨[.junk,.junk,.junk,.junk,.sc (.int .i64 (n:Nat)),.junk,.junk,.junk,.junk,.junk,.junk,.junk,.sl .no (Q0t Sm.1),.junk,.sl .no (Z0f V),.lp 1 0,.sc (.int .i64 (i:Nat)),.lp 3 0,.lp 2 0]++List.replicate 86 .junk,[encI h,encV (ofN t),encV w,encV v],[],[dk l 1].set 0 (dk l (j4+x.length+1))++X0⟩)) ?_ ?_
     · simp -dsimp only [go_sem]
       refine Q0l Z0t 105 (.step 0 [] (.step 1 [] (.step 2 [] (.step 3 [] (.step 4 [] (.alt (.step 5 [] (.step 6 [] (.step 7 [] (.step 8 [] (.alt (.step 9 [3,4] (.step 10 [3,4] (.step 11 [] (.step 12 [] (.done))))) (.step 10 [3,4] (.step 9 [3,4] (.step 11 [] (.step 12 [] (.done)))))))))) (.alt (.step 9 [3,4] (.alt (.step 5 [] (.step 6 [] (.step 7 [] (.step 8 [] (.step 10 [3,4] (.step 11 [] (.step 12 [] (.done)))))))) (.step 10 [3,4] (.step 5 [] (.step 6 [] (.step 7 [] (.step 8 [] (.step 11 [] (.step 12 [] (.done)))))))))) (.step 10 [3,4] (.alt (.step 5 [] (.step 6 [] (.step 7 [] (.step 8 [] (.step 9 [3,4] (.step 11 [] (.step 12 [] (.done)))))))) (.step 9 [3,4] (.step 5 [] (.step 6 [] (.step 7 [] (.step 8 [] (.step 11 [] (.step 12 [] (.done))))))))))))))))) (by decide+kernel) (by simp) ?_
       simp -dsimp only [go_sem,e2]
       refine And.intro (by omega) (And.intro ?_ (And.intro (And.intro ?_ ?_) (And.intro ?_ ?_)))
       · refine(hat _).mono ?_
         rintro r st ⟨v,w,hv1,hw1,rfl,rfl⟩
         simp -dsimp only [go_sem]
         refine And.intro ?_ ?_
         · exact⟨v,w,hv1,hw1,.inl rfl⟩
         · exact⟨v,w,hv1,hw1,.inr rfl⟩
       all_goals
        refine(hat _).mono ?_
        rintro r st ⟨v,w,hv1,hw1,rfl,rfl⟩
        simp -dsimp only [go_sem]
        first | exact⟨v,w,hv1,hw1,.inl rfl⟩ | exact⟨v,w,hv1,hw1,.inr rfl⟩
     rintro s ⟨v,w,hv1,hw1,rfl | rfl⟩
     all_goals
      refine Q0a ?_
      simp -dsimp only [go_sem]
      refine Q0l Z0t 105 (.step 0 [] (.step 1 [] (.step 2 [] (.step 3 [] (.step 4 [] (.step 5 [] (.step 6 [] (.step 7 [] (.step 8 [] (.step 9 [] (.step 10 [] (.step 11 [] (.step 12 [] (.step 13 [] (.step 14 [] (.step 15 [] (.done))))))))))))))))) (by decide+kernel) (by simp) ?_
      simp -dsimp only [go_sem,e1]
      refine⟨by omega,?_⟩
      refine(U0o _ _ w4).mono ?_
      rintro r st ⟨rfl,rfl⟩
      rw [hr]
      simp -dsimp only [go_sem,e1]
      refine⟨by omega,?_⟩
      refine(G1v v w (Sm.1.getD i default) _ _ _ hv1 hw1 hr hl1 hl2 (by omega) hmk.1 hmk.2).mono ?_
      rintro r st ⟨rfl,rfl⟩
      simp -dsimp only [go_sem,e3]
      refine Q0a ?_
      simp -dsimp only [go_sem,e3]
      exact⟨n-(i+1),by omega,i+1,by omega,rfl,rfl⟩
   · simp -dsimp only [go_sem]
     refine Q0a ?_
     simp -dsimp only [go_sem]
end Go.Pv
end
