/- Parts of the walk: N100, N101, N102, N103. -/
import Derived.Test.YtagacielooaapaaGreatDoorZDB
import Derived.Test.YtagacielooaapaaGreatDoorZAE
import Derived.Test.YtagacielooaapaaGreatDoorZH
import Derived.Test.YtagacielooaapaaGreatDoorZAR
import Derived.Test.YtagacielooaapaaGreatDoorZDA
import Derived.Test.YtagacielooaapaaGreatDoorZBF
set_option linter.unusedVariables false
set_option linter.unusedSimpArgs false
section
/-The seat's binomial,factorial,and derivative of a product. -/
set_option maxRecDepth 100000
namespace Go.Pv
open Go.Proofs
theorem Z3c (k j:Nat) (hk:k<12) (hj:j<k):IntKind.i64.wrap ((IntKind.i64.wrap ((binN k j:Int)*IntKind.i64.wrap ((k:Int)-(j:Int)))).tdiv (IntKind.i64.wrap ((j:Int)+1)))=(binN k (j+1):Int):=by
 have h:=X2j k hk j (by omega)
 have h2:=X2j k hk (j+1) (by omega)
 have e1:IntKind.i64.wrap ((k:Int)-(j:Int))=((k-j:Nat):Int):=by rw [Q0j _ (by omega) (by omega)];omega
 have e2:IntKind.i64.wrap ((j:Int)+1)=((j+1:Nat):Int):=by rw [Q0j _ (by omega) (by omega)];omega
 have m:binN k j*(k-j)≤512*12:=Nat.mul_le_mul h (by omega)
 have e3:IntKind.i64.wrap ((binN k j:Int)*((k-j:Nat):Int))=((binN k j*(k-j):Nat):Int):=by
  rw [show(binN k j:Int)*((k-j:Nat):Int)=((binN k j*(k-j):Nat):Int) by rw [Int.natCast_mul],Q0j _ (by omega) (by omega)]
 rw [e1,e2,e3]
 have e4:((binN k j*(k-j):Nat):Int).tdiv ((j+1:Nat):Int)=((binN k (j+1):Nat):Int):=rfl
 rw [e4,Q0j _ (by omega) (by omega)]
set_option maxHeartbeats 4000000 in
theorem V2x (k i:Nat) (st:Q0e) (hk:k<12) (hi:i≤k):PCalls Tryz.prog 177 [.sc (.int .i64 k),.sc (.int .i64 i)] st (fun r st'=>r= .sc (.int .i64 (binN k i))∧st'=st):=by
 refine Q0b none Tryz.func177 rfl fun E=>Q0a ?_
 simp -dsimp only [go_sem]
 refine Q0f [true,true,false,false,false,true,true] 0 0 (fun n s=> ∃j,j≤i∧n=i-j∧
  s=⟨[.sc (.int .i64 (k:Nat)),.sc (.int .i64 (i:Nat)),.junk,.junk,.junk,.sc (.int .i64 (binN k j:Nat)),.sc (.int .i64 (j:Nat))]++List.replicate 14 .junk,[],[],st⟩) i ?_ ?_
 · simp -dsimp only [go_sem]
   exact⟨0,by omega,by omega,rfl⟩
 · rintro n s ⟨j,hj,rfl,rfl⟩
   simp -dsimp only [go_sem]
   refine ck (fun h'=> ?_) (fun h'=> ?_)
   · have hlt:j<i:=by have:=of_decide_eq_true h';omega
     have e1:=Z3c k j hk (by omega)
     have e2:IntKind.i64.wrap ((j:Int)+1)=((j+1:Nat):Int):=by rw [Q0j _ (by omega) (by omega)];omega
     rw [e2] at e1
     have n0:(((j+1:Nat):Int) !=0)=true:=by simp;omega
     simp -dsimp only [go_sem,e1,e2]
     exact⟨n0,i-(j+1),by omega,j+1,by omega,rfl,rfl⟩
   · have hge:j=i:=by have:=of_decide_eq_false h';omega
     subst hge
     simp -dsimp only [go_sem]
     refine Q0a ?_
     simp -dsimp only [go_sem]
theorem k3q : ∀k,k<12→luQ 0 40 (fctN k:Rat):=fun k hk=>U0x (by
 have: ∀k,k<12→fctN k≤2^40:=by decide+kernel
 exact this k hk)
def dnN (k:Nat):Nat→Nat
 | 0=>1
 | j+1=>dnN k j*(k-j)
theorem U4i : ∀k,k<12→ ∀j,j≤k→dnN k j≤2^40:=by decide+kernel
theorem w3r : ∀k,k<12→dnN k (k-1)=fctN k:=by decide+kernel
set_option maxHeartbeats 4000000 in
theorem w1m (k:Nat) (st:Q0e) (hk:k<12):PCalls Tryz.prog 39 [.sc (.int .i64 k)] st (fun r st'=> ∃v,RV (fctN k:Rat) v∧r= .agg (encV v)∧st'=st):=by
 refine Q0b none Tryz.func39 rfl fun E=>Q0a ?_
 simp -dsimp only [go_sem]
 refine(q0g 1 _ (by decide)).mono ?_
 rintro r st ⟨rfl,rfl⟩
 have hw:=RV.whole 1
 simp -dsimp only [go_sem]
 generalize oddV false 1 0=w1 at hw⊢
 refine X0o 0 ?_
 simp -dsimp only [go_sem]
 refine Q0f [true,false,true,true] 2 0 (fun n s=> ∃j v,j≤k∧n=k-j∧(j=0∨j≤k-1)∧RV (dnN k j:Rat) v∧
  s=⟨[.sc (.int .i64 ((k-j:Nat):Int)),.junk,.lp 0 0,.lp 1 0]++List.replicate 10 .junk,[encV ⟨false,0,0⟩,encV v],[],st⟩) k ?_ ?_
 · simp -dsimp only [go_sem]
   exact⟨0,w1,by omega,by omega,.inl rfl,hw,by simp only [Z0f,G0w];rfl⟩
 · rintro n s ⟨j,v,hj,rfl,hj2,hv,rfl⟩
   have hs:=hv.sm (U0x (U4i k hk j hj)) (by omega)
   simp -dsimp only [go_sem]
   refine ck (fun h'=> ?_) (fun h'=> ?_)
   · have hlt:1<k-j:=by have:=of_decide_eq_true h';omega
     have e2:IntKind.i64.wrap (((k-j:Nat):Int)-1)=((k-(j+1):Nat):Int):=by rw [Q0j _ (by omega) (by omega)];omega
     simp -dsimp only [go_sem]
     refine Q0l Z0x 14 (.step 0 [] (.step 1 [] (.step 2 [0] (.step 3 [] (.step 4 [] (.done)))))) (by decide+kernel) (by simp) ?_
     simp -dsimp only [go_sem]
     refine(q0g (k-j) _ (by omega)).mono ?_
     rintro r st ⟨rfl,rfl⟩
     have hw2:=RV.whole (k-j)
     have hs2:=hw2.sm (U0x (n:=40) (by omega)) (by omega)
     simp -dsimp only [go_sem]
     refine(by_c v (oddV false (k-j) 0) _ hs hs2).mono ?_
     rintro r st ⟨rfl,rfl⟩
     simp -dsimp only [go_sem,e2]
     exact⟨k-(j+1),by omega,j+1,_,by omega,rfl,.inr (by omega),(hv.by hw2).same (by rw [dnN,Rat.natCast_mul]),rfl⟩
   · have hge:k-j≤1:=by have:=of_decide_eq_false h';omega
     have hf:dnN k j=fctN k:=by
      rw [←w3r k hk]
      rcases hj2 with rfl | hj2
      · rw [show k-1=0 by omega]
      · rw [show k-1=j by omega]
     rw [hf] at hv
     simp -dsimp only [go_sem]
     refine Q0a ?_
     simp -dsimp only [go_sem]
     exact⟨v,hv,rfl⟩
set_option maxHeartbeats 4000000 in
theorem H2c {aa u s r s' r':Nat} (a b:List Vl) (k K K':Nat) (g h:Nat→Rat) (st:Q0e) (hk:k<12) (ha:RL K g a) (hb:RL K' h b) (hK:k≤K) (hK':k≤K') (hg:grQ aa u s r k g) (hh:grQ aa u s' r' k h) (hbd:aa*k+(s+s')+(u*k+(r+r'+100))≤100000):
 PCalls Tryz.prog 111 [.sl .no (Z0o a),.sl .no (Z0o b),.sc (.int .i64 k)] st (fun x st'=> ∃v,RV (v1x g h k) v∧x= .agg (encV v)∧st'=st):=by
 have la:=ha.1
 have lb:=hb.1
 have mono: ∀j,j≤k→aa*j≤aa*k∧u*j≤u*k:=fun j hj=>⟨Nat.mul_le_mul_left _ hj,Nat.mul_le_mul_left _ hj⟩
 refine Q0b none Tryz.func111 rfl fun E=>Q0a ?_
 simp -dsimp only [go_sem]
 refine X0o 0 ?_
 simp -dsimp only [go_sem]
 refine X0o 1 ?_
 simp -dsimp only [go_sem]
 refine Q0f [true,true,true,false,false,false,true,true,true] 2 0 (fun n s=> ∃i v,i≤k+1∧n=k+1-i∧RV (sumR (fun i=>(binN k i:Rat)*(g i*h (k-i))) i) v∧
  s=⟨[.sl .no (Z0o a),.sl .no (Z0o b),.sc (.int .i64 (k:Nat)),.junk,.junk,.junk,.lp 0 0,.lp 1 0,.sc (.int .i64 (i:Nat))]++List.replicate 24 .junk,[encV ⟨false,0,0⟩,encV v],[],st⟩) (k+1) ?_ ?_
 · simp -dsimp only [go_sem]
   exact⟨0,⟨false,0,0⟩,by omega,by omega,RV.zero,by simp only [Z0f,G0w];rfl⟩
 · rintro n s ⟨i,v,hi,rfl,hv,rfl⟩
   simp -dsimp only [go_sem]
   refine ck (fun h'=> ?_) (fun h'=> ?_)
   · have hlt:i≤k:=by have:=of_decide_eq_true h';omega
     have e2:IntKind.i64.wrap ((i:Int)+1)=((i+1:Nat):Int):=by rw [Q0j _ (by omega) (by omega)];omega
     have e3:IntKind.i64.wrap ((k:Int)-(i:Int))=((k-i:Nat):Int):=by rw [Q0j _ (by omega) (by omega)];omega
     have g1:=G0c a i (by omega)
     have g2:=G0c b (k-i) (by omega)
     have r1:=ha.2 i (by omega)
     have r2:=hb.2 (k-i) (by omega)
     have m1:=mono i hlt
     have m2:=mono (k-i) (by omega)
     have s1:=r1.sm (hg i hlt) (by omega)
     have s2:=r2.sm (hh (k-i) (by omega)) (by omega)
     have hbl:=X2j k hk i hlt
     have t0:=H2d hk hg hh i (by omega)
     have t1:=x1f hk hg hh hlt
     have t2:=W0r (hg i hlt) (hh (k-i) (by omega))
     have e4:aa*i+aa*(k-i)=aa*k:=by rw [←Nat.mul_add];congr 1;omega
     have e5:u*i+u*(k-i)=u*k:=by rw [←Nat.mul_add];congr 1;omega
     have s0:=hv.sm t0 (by omega)
     have hw:=RV.whole (binN k i)
     have s3:=hw.sm (U0x (n:=9) (by omega)) (by omega)
     have hp:=r1.by r2
     have s4:=hp.sm t2 (by omega)
     have hq:=hw.by hp
     have s5:=hq.sm t1 (by omega)
     simp -dsimp only [go_sem]
     refine Q0l Z0x 33 (.step 0 [] (.step 1 [] (.step 2 [] (.step 5 [] (.step 6 [] (.step 7 [] (.step 8 [] (.step 9 [] (.step 10 [] (.step 11 [] (.step 12 [] (.step 13 [] (.step 14 [] (.step 3 [0,8,14] (.step 4 [0,8,14] (.step 15 [0] (.step 16 [0] (.step 17 [] (.step 18 [] (.done)))))))))))))))))))) (by decide+kernel) (by simp) ?_
     simp -dsimp only [go_sem,g1,g2,e3]
     refine⟨by omega,by omega,?_⟩
     refine(V2x k i _ hk hlt).mono ?_
     rintro x st ⟨rfl,rfl⟩
     simp -dsimp only [go_sem]
     refine(q0g (binN k i) _ (by omega)).mono ?_
     rintro x st ⟨rfl,rfl⟩
     simp -dsimp only [go_sem]
     refine(by_c _ _ _ s1 s2).mono ?_
     rintro x st ⟨rfl,rfl⟩
     simp -dsimp only [go_sem]
     refine(by_c _ _ _ s3 s4).mono ?_
     rintro x st ⟨rfl,rfl⟩
     simp -dsimp only [go_sem]
     refine(W1u _ _ _ s0 s5).mono ?_
     rintro x st ⟨rfl,rfl⟩
     simp -dsimp only [go_sem,e2]
     exact⟨k+1-(i+1),by omega,i+1,_,by omega,rfl,hv.plus hq,rfl⟩
   · have hge:i=k+1:=by have:=of_decide_eq_false h';omega
     subst hge
     simp -dsimp only [go_sem]
     refine Q0a ?_
     simp -dsimp only [go_sem]
     exact⟨v,hv,rfl⟩
end Go.Pv
end
section
/-The seat's derivative of a polynomial along curves. -/
set_option maxRecDepth 100000
namespace Go.Pv
open Go.Proofs
def valL (c:Nm) (k:Nat):List Vl:=ofN c::List.replicate k default
theorem j2a (c:Nm) (k:Nat):over (flat (Z0o (List.replicate (k+1) default))) 0 (encV (ofN c))=flat (Z0o (valL c k)):=by
 have:=H2w (List.replicate (k+1) default) 0 (ofN c) (by simp)
 rw [Nat.zero_mul] at this
 rw [this];rfl
theorem V3k (n:Nat):repC n [.sc (.bool false),.sl .no [],.sc (.int .i64 0)]=flat (Z0o (List.replicate n default)):=by
 rw [←x3j]
 congr 1
 show _= [PV.sc (.bool false),.sl .no (encD (Q0d 0)),.sc (.int .i64 0)]
 rw [Z0f,G0w]
theorem K3m {c:Nm} (ks:List Int) (X:Nat→Nat→Rat) (k:Nat) (h:Q0g c=true):RL k (monL (qN c) ks X 0) (valL c k):=by
 refine⟨by simp [valL],fun j hj=> ?_⟩
 cases j with
 | zero=>exact RV.num h
 | succ j=>
  have e:(valL c k).getD (j+1) default=⟨false,0,0⟩:=by
   simp [valL,List.getD_eq_getElem?_getD,List.getElem?_replicate]
   split<;>rfl
  rw [e]
  exact RV.zero
theorem q1f {ks:List Int} {i:Nat} : ∀n,i≤n→sumE ks i≤sumE ks n
 | 0,h=>by obtain rfl:i=0:=by omega
           exact Nat.le_refl _
 | n+1,h=>by
  by_cases e:i=n+1
  · rw [e];exact Nat.le_refl _
  · exact Nat.le_trans (q1f n (by omega)) (Nat.le_add_right _ _)
set_option maxHeartbeats 4000000 in
theorem G3q {a u Lc Uc s1 r1 D:Nat} (q:List Mn) (xs:List (List Vl)) (k K:Nat) (X:Nat→Nat→Rat) (st:Q0e) (hk:k<12) (hK:k≤K) (wq:wP q) (lx:xs.length≤1000)
 (hx: ∀i,i<xs.length→RL K (X i) (xs.getD i [])∧grQ a u s1 r1 k (X i))
 (hq: ∀j,j<q.length→Q0g (q.getD j default).c=true∧luQ Lc Uc (qN (q.getD j default).c)∧K0a (q.getD j default).ks=true∧(q.getD j default).ks.length=xs.length∧sumE (q.getD j default).ks xs.length≤D)
 (hb:a*k+(Lc+D*s1)+(u*k+(Uc+D*(r1+21))+q.length)+200≤100000):
 PCalls Tryz.prog 69 [.sl .no (X0c q),.sl .no (Z0g xs),.sc (.int .i64 k)] st (fun r st'=> ∃v,RV (polL q xs.length X k q.length) v∧r= .agg (encV v)∧st'=st):=by
 have wk:IntKind.i64.wrap ((k:Int)+1)=((k+1:Nat):Int):=by rw [Q0j _ (by omega) (by omega)];omega
 have wq1:=wq.1
 obtain⟨R1,hR1⟩: ∃R1,R1=r1+21:=⟨_,rfl⟩
 rw [←hR1] at hb
 have hpl:=G1e (D:=D) (Lc:=Lc) (Uc:=Uc) hk (fun i hi=>⟨(hq i hi).2.1,(hq i hi).2.2.2.2⟩) (fun i hi=>(hx i hi).2)
 rw [←hR1] at hpl
 refine Q0b none Tryz.func69 rfl fun E=>Q0a ?_
 simp -dsimp only [go_sem]
 refine X0o 0 ?_
 simp -dsimp only [go_sem]
 refine X0o 1 ?_
 simp -dsimp only [go_sem]
 refine Q0f [true,true,true,false,false,false,true,true,true] 2 0
  (fun c s=> ∃m v,m≤q.length∧c=q.length-m∧RV (polL q xs.length X k m) v∧
   s=⟨[.sl .no (X0c q),.sl .no (Z0g xs),.sc (.int .i64 (k:Nat)),.junk,.junk,.junk,.lp 0 0,.lp 1 0,.sc (.int .i64 (m:Nat))]++List.replicate 63 .junk,[encV ⟨false,0,0⟩,encV v],[],st⟩) q.length ?_ ?_
 · simp -dsimp only [go_sem]
   exact⟨0,⟨false,0,0⟩,by omega,by omega,RV.zero,by simp only [Z0f,G0w];rfl⟩
 · rintro c s ⟨m,v,hm,rfl,hv,rfl⟩
   simp -dsimp only [go_sem]
   refine ck (fun h2=> ?_) (fun h2=> ?_)
   · have hlt:m<q.length:=by have:=of_decide_eq_true h2;omega
     have e3:IntKind.i64.wrap ((m:Int)+1)=((m+1:Nat):Int):=by rw [Q0j _ (by omega) (by omega)];omega
     have g3:=x0h q m hlt
     obtain⟨p1,p2,p3,p4,p5⟩:=hq m hlt
     have hwm:=wq.2 m hlt
     have hstep:polL q xs.length X k (m+1)=polL q xs.length X k m+monL (qN (q.getD m default).c) (q.getD m default).ks X xs.length k:=rfl
     have hsv:=hv.sm (hpl m hm) (by omega)
     simp -dsimp only [go_sem,wk,g3]
     refine⟨⟨by omega,by omega,by omega⟩,⟨by omega,by omega⟩,?_⟩
     generalize q.getD m default=mo at g3 hwm p1 p2 p3 p4 p5 hstep
     refine(of_c mo.c _ (by have:=hwm.1;unfold wN at this;omega)).mono ?_
     rintro r st ⟨rfl,rfl⟩
     simp -dsimp only [go_sem,g3]
     have r1:over (repC (k+1) [.sc (.bool false),.sl .no [],.sc (.int .i64 0)]) 0 [.sc (.bool (ofN mo.c).neg),.sl .no (encD (Q0d (ofN mo.c).m)),.sc (.int .i64 (ofN mo.c).e)]=flat (Z0o (valL mo.c k)):=by
      have:=j2a mo.c k
      rw [←V3k] at this
      exact this
     refine⟨by simp [k0g];omega,?_⟩
     refine k0i 2 3 ?_ ?_
     · simp only [U0z]
       exact Y3o (Y3n rfl) rfl
     have r2:=Q3q (valL mo.c k) (k+1) (by simp [valL])
     have r3:(flat (Z0o (valL mo.c k))).length=(k+1)*3:=by rw [x1s];simp [valL]
     simp -dsimp only [go_sem,v2b,j2w,r1,r2,r3]
     have hR0:=K3m mo.ks X k p1
     have hmon:=v1s (ks:=mo.ks) hk p2 (fun i hi=>(hx i hi).2)
     rw [←hR1] at hmon
     refine Q0f [true,true,true,false,false,false,true,true,true,true,true] 2 0
      (fun c s=> ∃i sl,i≤xs.length∧c=xs.length-i∧RL k (monL (qN mo.c) mo.ks X i) sl∧
       s=⟨[.sl .no (X0c q),.sl .no (Z0g xs),.sc (.int .i64 (k:Nat)),.junk,.junk,.junk,.lp 0 0,.lp 1 0,.sc (.int .i64 (m:Nat)),.sl .no (Z0o sl),.sc (.int .i64 (i:Nat))]++List.replicate 61 .junk,[encV ⟨false,0,0⟩,encV v],[],st⟩) xs.length ?_ ?_
     · simp -dsimp only [go_sem]
       exact⟨0,_,by omega,by omega,hR0,rfl⟩
     · rintro c s ⟨i,sl,hi,rfl,hsl,rfl⟩
       simp -dsimp only [go_sem]
       refine ck (fun h3=> ?_) (fun h3=> ?_)
       · have hlt2:i<xs.length:=by have:=of_decide_eq_true h3;omega
         have e5:IntKind.i64.wrap ((i:Int)+1)=((i+1:Nat):Int):=by rw [Q0j _ (by omega) (by omega)];omega
         have g1:=Y0x mo.ks i (by omega)
         have g2:=K1v xs i hlt2
         have hat:=V0b p3 i (by omega)
         have hk8:mo.ks.getD i 0=((mo.ks.getD i 0).toNat:Int):=by omega
         obtain⟨hx1,hx2⟩:=hx i hlt2
         have hm1:=hmon i (by omega)
         have hsum:sumE mo.ks i+(mo.ks.getD i 0).toNat≤D:=Nat.le_trans (q1f (i:=i+1) xs.length (by omega)) p5
         have hmS:monL (qN mo.c) mo.ks X (i+1)=powL (monL (qN mo.c) mo.ks X i) (X i) (mo.ks.getD i 0).toNat:=rfl
         rw [hk8] at g1
         have hn8:(mo.ks.getD i 0).toNat≤8:=by omega
         generalize (mo.ks.getD i 0).toNat=n at g1 hsum hmS hn8
         clear hmon hpl
         generalize monL (qN mo.c) mo.ks X i=G at hsl hm1 hmS
         generalize sumE mo.ks i=T at hsum hm1
         have hpow:=v1e hk hm1 hx2
         rw [←hR1] at hpow
         simp -dsimp only [go_sem]
         refine Q0f [true,true,true,false,false,false,true,true,true,true,true,true] 2 0
          (fun c s=> ∃j s2,j≤n∧c=n-j∧RL k (powL G (X i) j) s2∧
           s=⟨[.sl .no (X0c q),.sl .no (Z0g xs),.sc (.int .i64 (k:Nat)),.junk,.junk,.junk,.lp 0 0,.lp 1 0,.sc (.int .i64 (m:Nat)),.sl .no (Z0o s2),.sc (.int .i64 (i:Nat)),.sc (.int .i64 (j:Nat))]++List.replicate 60 .junk,[encV ⟨false,0,0⟩,encV v],[],st⟩) n ?_ ?_
         · simp -dsimp only [go_sem]
           exact⟨0,_,by omega,by omega,hsl,rfl⟩
         · rintro c s ⟨j,s2,hj,rfl,hs2,rfl⟩
           simp -dsimp only [go_sem,g3,g1]
           refine⟨⟨by omega,by omega⟩,⟨by omega,by omega⟩,?_⟩
           refine ck (fun h4=> ?_) (fun h4=> ?_)
           · have hlt3:j<n:=by have:=of_decide_eq_true h4;omega
             have e4:IntKind.i64.wrap ((j:Int)+1)=((j+1:Nat):Int):=by rw [Q0j _ (by omega) (by omega)];omega
             have hpj:=hpow j
             have m1:(T+j+1)*s1≤D*s1:=Nat.mul_le_mul_right _ (by omega)
             have m2:(T+j+1)*R1≤D*R1:=Nat.mul_le_mul_right _ (by omega)
             rw [Nat.add_mul,Nat.add_mul,Nat.one_mul] at m1 m2
             have q1:0≤j*s1:=Nat.zero_le _
             have hmS2: ∀z,powL G (X i) (j+1) z=v1x (powL G (X i) j) (X i) z:=fun z=>by rw [powL]
             simp -dsimp only [go_sem]
             refine X0y 12 3 ?_
             simp -dsimp only [go_sem]
             refine Q0f [true,true,true,false,false,false,true,true,true,true,true,true,true,true] 2 1
              (fun c s=> ∃z o,z≤k+1∧c=k+1-z∧o.length=z∧(∀t,t<z→RV (powL G (X i) (j+1) t) (o.getD t default))∧
               s=⟨[.sl .no (X0c q),.sl .no (Z0g xs),.sc (.int .i64 (k:Nat)),.junk,.junk,.junk,.lp 0 0,.lp 1 0,.sc (.int .i64 (m:Nat)),.sl .no (Z0o s2),.sc (.int .i64 (i:Nat)),.sc (.int .i64 (j:Nat)),.sl (.own 0) (Z0o o),.sc (.int .i64 (z:Nat))]++List.replicate 58 .junk,[encV ⟨false,0,0⟩,encV v],[(o.length,3)],st⟩) (k+1) ?_ ?_
             · simp -dsimp only [go_sem]
               exact⟨0,[],by omega,by omega,rfl,fun t ht=>by omega,rfl⟩
             · rintro c s ⟨z,o,hz,rfl,ho,hov,rfl⟩
               simp -dsimp only [go_sem]
               refine ck (fun h5=> ?_) (fun h5=> ?_)
               · have hlt4:z≤k:=by have:=of_decide_eq_true h5;omega
                 have e6:IntKind.i64.wrap ((z:Int)+1)=((z+1:Nat):Int):=by rw [Q0j _ (by omega) (by omega)];omega
                 have b1:a*z≤a*k:=Nat.mul_le_mul_left _ hlt4
                 have b2:u*z≤u*k:=Nat.mul_le_mul_left _ hlt4
                 have hlz:=fun st=>H2c s2 (xs.getD i []) z k K (powL G (X i) j) (X i) st (by omega) hs2 hx1 hlt4 (by omega) (hpj.low hlt4) (hx2.low hlt4) (by omega)
                 simp -dsimp only [go_sem,g2]
                 refine⟨by omega,?_⟩
                 refine(hlz _).mono ?_
                 rintro r st2 ⟨y,hy,rfl,rfl⟩
                 have hsn:Z0o o++ [.agg [.sc (.bool y.neg),.sl .no (encD (Q0d y.m)),.sc (.int .i64 y.e)]]=Z0o (o++ [y]):=Q1t o y
                 simp -dsimp only [go_sem,e6,hsn]
                 refine⟨by omega,k+1-(z+1),by omega,z+1,o++ [y],by omega,rfl,by simp [ho],fun t ht=> ?_,by rw [List.length_append];rfl⟩
                 by_cases e:t<z
                 · rw [q1h _ _ _ _ (by omega)];exact hov t e
                 · obtain rfl:t=z:=by omega
                   rw [hmS2,←ho,Z1b,ho];exact hy
               · have hge:z=k+1:=by have:=of_decide_eq_false h5;omega
                 subst hge
                 simp -dsimp only [go_sem]
                 refine V0c [false,false,false,false,false,false,false,false,false,false,false,false,true] (Q0a ?_)
                 simp -dsimp only [go_sem,e4]
                 refine Q0a ?_
                 simp -dsimp only [go_sem,e4]
                 exact⟨n-(j+1),by omega,j+1,_,by omega,rfl,⟨ho,fun t ht=>hov t (by omega)⟩,rfl⟩
           · have hge:j=n:=by have:=of_decide_eq_false h4;omega
             subst hge
             simp -dsimp only [go_sem]
             refine Q0a ?_
             simp -dsimp only [go_sem,e5]
             exact⟨xs.length-(i+1),by omega,i+1,_,by omega,rfl,by rw [hmS];exact hs2,rfl⟩
       · have hge:i=xs.length:=by have:=of_decide_eq_false h3;omega
         subst hge
         have gI:=G0c sl k (by have:=hsl.1;omega)
         have hvk:=hsl.2 k (Nat.le_refl _)
         have lk:=(hmon xs.length (Nat.le_refl _)) k (Nat.le_refl _)
         have hmul1:sumE mo.ks xs.length*s1≤D*s1:=Nat.mul_le_mul_right _ p5
         have hmul2:sumE mo.ks xs.length*R1≤D*R1:=Nat.mul_le_mul_right _ p5
         have hsk:=hvk.sm lk (by omega)
         simp -dsimp only [go_sem]
         refine Q0a ?_
         simp -dsimp only [go_sem]
         refine Q0l Z0x 72 (.step 0 [] (.step 1 [] (.step 2 [] (.step 3 [] (.step 4 [] (.step 5 [] (.step 6 [] (.done)))))))) (by decide+kernel) (by simp) ?_
         simp -dsimp only [go_sem,gI]
         refine⟨⟨by omega,by have:=hsl.1;omega⟩,?_⟩
         refine(W1u v (sl.getD k default) _ hsv hsk).mono ?_
         rintro r st2 ⟨rfl,rfl⟩
         simp -dsimp only [go_sem,e3]
         refine Q0a ?_
         simp -dsimp only [go_sem,e3]
         exact⟨q.length-(m+1),by omega,m+1,_,by omega,rfl,by rw [hstep];exact hv.plus hvk,rfl⟩
   · have hge:m=q.length:=by have:=of_decide_eq_false h2;omega
     subst hge
     simp -dsimp only [go_sem]
     refine Q0a ?_
     simp -dsimp only [go_sem]
     exact⟨v,hv,rfl⟩
end Go.Pv
end
section
/-The seat's derivatives of a solution. -/
set_option maxRecDepth 100000
namespace Go.Pv
open Go.Proofs
theorem fq2 {R:List PV} (h:R.all PV.quiet=true):(R.map PV.forget2).all PV.quiet=true:=by
 rw [List.all_eq_true] at h⊢
 intro p hp
 obtain⟨x,hx,rfl⟩:=List.mem_map.1 hp
 have:=h x hx
 cases x with
 | agg l=>cases this
 | fn a b c=>cases this
 | _=>first | rfl | exact this
set_option maxHeartbeats 4000000 in
theorem H1h {a u Lc Uc s1 r1 D M:Nat} (f:List (List Mn)) (x:List Nm) (o:Nat) (st:Q0e) (wf:wF f) (ho:o<12) (hl:x.length=f.length) (hf1:1≤f.length) (hf4:f.length≤4) (wx: ∀i,i<x.length→Q0g (x.getD i default)=true)
 (hM: ∀i,i<f.length→(f.getD i []).length≤M)
 (hq: ∀i,i<f.length→ ∀j,j<(f.getD i []).length→Q0g ((f.getD i []).getD j default).c=true∧luQ Lc Uc (qN ((f.getD i []).getD j default).c)∧K0a ((f.getD i []).getD j default).ks=true∧((f.getD i []).getD j default).ks.length=f.length∧sumE ((f.getD i []).getD j default).ks f.length≤D)
 (h0: ∀i,i<f.length→luQ s1 r1 (qN (x.getD i default)))
 (ha:Lc+D*s1≤a+s1) (hu:Uc+D*(r1+21)+M≤u+r1) (hb:a*o+(Lc+D*s1)+(u*o+(Uc+D*(r1+21))+M)+200≤100000):
 PCalls Tryz.prog 23 [.sl .no (X0k f),.sl .no (J0h x),.sc (.int .i64 o)] st
 (fun r st'=> ∃X l,(∀i,i<f.length→X i 0=qN (x.getD i default))∧derR f X o∧l.length=f.length∧(∀i,i<f.length→RL o (X i) (l.getD i []))∧r= .sl .no (Z0g l)∧st'=st):=by
 have wf1:=wf.1
 refine Q0b none Tryz.func23 rfl fun E=>Q0a ?_
 simp -dsimp only [go_sem]
 refine z1i ?_
 refine Q1c 7 0 (by simp) (by rfl) ?_
 simp -dsimp only [go_sem]
 refine J0g [true,true,true,false,false,false,false,true,true] 1 0
  (fun c s=> ∃(i cap:Nat) (R:List PV),c=f.length-i∧i≤f.length∧i≤cap∧R.length=cap-i∧R.all PV.quiet=true∧
   s=⟨[.sl .no (X0k f),.sl .no (J0h x),.sc (.int .i64 (o:Nat)),.junk,.junk,.junk,.junk,.mr 0 i cap,.sc (.int .i64 (i:Nat))]++List.replicate 62 .junk,
    [Z0g ((x.take i).map fun a=> [ofN a])++R],[],st⟩) f.length ?_ ?_
 · simp -dsimp only [go_sem]
   exact⟨0,0,[],by omega,by omega,by omega,rfl,rfl,rfl⟩
 · rintro c s ⟨i,cap,R,rfl,hi,r1,r2,r3,rfl⟩
   have hall:(Z0g ((x.take i).map fun a=> [ofN a])++R).all PV.quiet=true:=by rw [List.all_append,U0g,r3];rfl
   refine Q0v (Q0a ?_)
   simp -dsimp only [go_sem,hl]
   refine ck (fun h=> ?_) (fun h=> ?_)
   · have hlt:i<f.length:=by have:=of_decide_eq_true h;omega
     have e3:IntKind.i64.wrap ((i:Int)+1)=((i+1:Nat):Int):=by rw [Q0j _ (by omega) (by omega)];omega
     have gI:=j1g x i (by omega)
     have wi:=V0a (wx i (by omega))
     simp -dsimp only [go_sem]
     refine Q0v (Y0c ?_)
     refine X1c [false,false,false,false,false,false,false,false,true,false] ?_
     have hxl:((x.take i).map fun a=> [ofN a]).length=i:=by simp;omega
     have t1:(Z0g ((x.take i).map fun a=> [ofN a])++R).take i=Z0g ((x.take i).map fun a=> [ofN a]):=by
      have:=X0r ((x.take i).map fun a=> [ofN a])
      rw [hxl] at this
      rw [List.take_append_of_le_length (by omega),List.take_of_length_le (by omega)]
     simp -dsimp only [go_sem,gI]
     refine⟨by omega,?_⟩
     refine(of_c (x.getD i default) _ (by unfold wN at wi;omega)).mono ?_
     rintro r st ⟨rfl,rfl⟩
     simp -dsimp only [go_sem,gI,Nat.mul_one,t1]
     refine⟨j2r hxl.symm r1 r2 r3 (by omega) (by omega),?_⟩
     intro c1 R1 g1 g2 g3
     have hsn:Z0g ((x.take i).map fun a=> [ofN a])++(flat [PV.sl .no [PV.agg [.sc (.bool (ofN (x.getD i default)).neg),.sl .no (encD (Q0d (ofN (x.getD i default)).m)),.sc (.int .i64 (ofN (x.getD i default)).e)]]]++R1)=Z0g ((x.take (i+1)).map fun a=> [ofN a])++R1:=by
      have e:(x.take (i+1)).map (fun a=> [ofN a])=(x.take i).map (fun a=> [ofN a])++ [[ofN (x.getD i default)]]:=by
       rw [List.take_succ_eq_append_getElem (by omega),List.map_append]
       simp [List.getD_eq_getElem?_getD,(show i<x.length by omega)]
      rw [e]
      unfold Z0g
      rw [List.map_append,List.append_assoc];rfl
     have hall2:(Z0g ((x.take (i+1)).map fun a=> [ofN a])++R1).all PV.quiet=true:=by rw [List.all_append,U0g,g3];rfl
     have hlims:=W0m (a:=1) (b:=0) hall2
     refine Q0a ?_
     simp -dsimp only [go_sem,e3,hsn,hlims]
     exact⟨f.length-(i+1),by omega,i+1,c1,R1,rfl,by omega,g1,g2,g3,rfl⟩
   · have hge:i=f.length:=by have:=of_decide_eq_false h;omega
     subst hge
     simp -dsimp only [go_sem]
     refine Q0a ?_
     simp -dsimp only [go_sem]
     refine J0g [true,false,true,false,false,false,false,true,false,true] 1 0
      (fun c s=> ∃(k cap:Nat) (R:List PV) (X:Nat→Nat→Rat) (rows:List (List Vl)),c=o-k∧k≤o∧f.length≤cap∧R.length=cap-f.length∧R.all PV.quiet=true∧
       (∀i,i<f.length→X i 0=qN (x.getD i default))∧derR f X k∧rows.length=f.length∧(∀i,i<f.length→RL k (X i) (rows.getD i []))∧
       s=⟨[.sl .no (X0k f),.junk,.sc (.int .i64 (o:Nat)),.junk,.junk,.junk,.junk,.mr 0 f.length cap,.junk,.sc (.int .i64 (k:Nat))]++List.replicate 61 .junk,
        [Z0g rows++R],[],st⟩) o ?_ ?_
     · have hlims:(Z0g ((x.take f.length).map fun a=> [ofN a])++R).all (PV.lim 1 0)=true:=W0m hall
       simp -dsimp only [go_sem,hlims]
       refine⟨0,cap,R,fun i j=>if j=0 then qN (x.getD i default) else 0,(x.take f.length).map fun a=> [ofN a],by omega,by omega,r1,r2,r3,fun i _=>rfl,fun k hk=>absurd hk (Nat.not_lt_zero _),by simp;omega,fun i hi=> ?_,rfl⟩
       have e:((x.take f.length).map fun a=> [ofN a]).getD i []= [ofN (x.getD i default)]:=by
        simp [List.getD_eq_getElem?_getD,hi,(show i<x.length by omega)]
       rw [e]
       refine⟨rfl,fun j hj=> ?_⟩
       obtain rfl:j=0:=by omega
       exact RV.num (wx i (by omega))
     · rintro c s ⟨k,cap,R,X,rows,rfl,hk,r1,r2,r3,hX0,hX,hrl,hrows,rfl⟩
       refine Q0v (Q0a ?_)
       simp -dsimp only [go_sem]
       refine ck (fun h=> ?_) (fun h=> ?_)
       · have hlt:k<o:=by have:=of_decide_eq_true h;omega
         have e3:IntKind.i64.wrap ((k:Int)+1)=((k+1:Nat):Int):=by rw [Q0j _ (by omega) (by omega)];omega
         have hq1:(Z0g rows++R).all PV.quiet=true:=by rw [List.all_append,U0g,r3];rfl
         have hlim1:(Z0g rows++R).all (PV.lim 1 1)=true:=W0m hq1
         have hgr:=X2a (K:=k) (by omega) hX hM (fun i hi j hj=>⟨(hq i hi j hj).2.1,(hq i hi j hj).2.2.2.2⟩) (fun i hi=>by rw [hX0 i hi];exact h0 i hi) ha hu k (Nat.le_refl _)
         have b1:a*k≤a*o:=Nat.mul_le_mul_left _ (by omega)
         have b2:u*k≤u*o:=Nat.mul_le_mul_left _ (by omega)
         simp -dsimp only [go_sem]
         refine Q0v (Y0c (Q0v (Q0a ?_)))
         simp -dsimp only [go_sem]
         refine X0y 10 3 ?_
         simp -dsimp only [go_sem]
         refine Q0v (Q0a ?_)
         simp -dsimp only [go_sem]
         refine J0g [true,false,true,false,false,false,false,true,false,true,true,true] 1 1
          (fun c s=> ∃(i:Nat) (w:List Vl),c=f.length-i∧i≤f.length∧w.length=i∧(∀j,j<i→RV (polL (f.getD j []) f.length X k (f.getD j []).length) (w.getD j default))∧
           s=⟨[.sl .no (X0k f),.junk,.sc (.int .i64 (o:Nat)),.junk,.junk,.junk,.junk,.mr 0 f.length cap,.junk,.sc (.int .i64 (k:Nat)),.sl (.own 0) (Z0o w),.sc (.int .i64 (i:Nat))]++List.replicate 59 .junk,
            [Z0g rows++R],[(i,3)],st⟩) f.length ?_ ?_
         · simp -dsimp only [go_sem,hlim1]
           exact⟨0,[],by omega,by omega,rfl,fun j hj=>absurd hj (Nat.not_lt_zero _),rfl⟩
         · rintro c s ⟨i,w,rfl,hi,hw,hwv,rfl⟩
           refine Q0v (Q0a ?_)
           simp -dsimp only [go_sem]
           refine ck (fun h=> ?_) (fun h=> ?_)
           · have hlt2:i<f.length:=by have:=of_decide_eq_true h;omega
             have e4:IntKind.i64.wrap ((i:Int)+1)=((i+1:Nat):Int):=by rw [Q0j _ (by omega) (by omega)];omega
             have gF:=K1y f i hlt2
             have hMi:=hM i hlt2
             obtain⟨v,hv⟩:=RV.ex (G1e (n:=f.length) (show k<12 by omega) (fun j hj=>⟨(hq i hlt2 j hj).2.1,(hq i hlt2 j hj).2.2.2.2⟩) hgr _ (Nat.le_refl _))
             have hal:=fun st=>G3q (D:=D) (f.getD i []) rows k k X st (by omega) (Nat.le_refl _) (wf.2 i hlt2) (by omega) (fun j hj=>⟨hrows j (by omega),hgr j (by omega)⟩) (fun j hj=>by rw [hrl];exact hq i hlt2 j hj) (by omega)
             rw [hrl] at hal
             simp -dsimp only [go_sem]
             refine Q0v (Y0c (k2g [f.length] [false,false,false,false,false,false,false,true,false,false,false] ?_))
             simp -dsimp only [go_sem,gF]
             refine⟨by omega,?_⟩
             have lfl:=j3o (f.getD i []) rows k cap R
             rw [hrl] at lfl
             refine H4c (.agg (encV v)) (by simp only [go_sem]) ?_ ?_ ?_ ?_
             · exact lfl.1
             · exact K3b _
             · have:=hal []
               rw [←lfl.2] at this
               exact this.mono fun r st ⟨y,hy,e1,e2⟩=>⟨by rw [e1,hy.uniq hv],e2⟩
             · have hsn:Z0o w++ [.agg [.sc (.bool v.neg),.sl .no (encD (Q0d v.m)),.sc (.int .i64 v.e)]]=Z0o (w++ [v]):=Q1t w v
               simp -dsimp only [go_sem,hsn]
               refine⟨by omega,by rw [hw],?_⟩
               refine Q0a ?_
               simp -dsimp only [go_sem,e4,hlim1]
               refine⟨f.length-(i+1),by omega,i+1,w++ [v],rfl,by omega,by simp [hw],fun j hj=> ?_,by rw [hw]⟩
               by_cases e:j<i
               · rw [q1h _ _ _ _ (by omega)];exact hwv j e
               · obtain rfl:j=i:=by omega
                 rw [←hw,Z1b,hw];exact hv
           · have hge2:i=f.length:=by have:=of_decide_eq_false h;omega
             subst hge2
             simp -dsimp only [go_sem]
             refine V0c [false,false,false,false,false,false,false,false,false,false,true] (Q0a ?_)
             simp -dsimp only [go_sem]
             have hlimU: ∀(rows:List (List Vl)) (R:List PV),R.all PV.quiet=true→(Z0g rows++R).all (PV.lim 1 0)=true:=fun rows R h=>W0m (by rw [List.all_append,U0g,h];rfl)
             refine J0g [true,false,true,false,false,false,false,true,false,true,true,false,true] 1 0
              (fun c s=> ∃(i:Nat) (R:List PV) (B:List (List Vl)),c=f.length-i∧i≤f.length∧R.length=cap-f.length∧R.all PV.quiet=true∧B.length=f.length∧
               (∀j,j<f.length→if j<i then B.getD j []=rows.getD j []++ [w.getD j default] else B.getD j []=rows.getD j [])∧
               s=⟨[.sl .no (X0k f),.junk,.sc (.int .i64 (o:Nat)),.junk,.junk,.junk,.junk,.mr 0 f.length cap,.junk,.sc (.int .i64 (k:Nat)),.sl .no (Z0o w),.junk,.sc (.int .i64 (i:Nat))]++List.replicate 58 .junk,
                [Z0g B++R],[],st⟩) f.length ?_ ?_
             · have hlim0:=hlimU rows R r3
               simp -dsimp only [go_sem,hlim0]
               exact⟨0,R,rows,by omega,by omega,r2,r3,hrl,fun j hj=>by rw [if_neg (by omega)],rfl⟩
             · rintro c s ⟨i,R,B,rfl,hi,r2,r3,hBl,hB,rfl⟩
               refine Q0v (Q0a ?_)
               simp -dsimp only [go_sem]
               refine ck (fun h=> ?_) (fun h=> ?_)
               · have hlt2:i<f.length:=by have:=of_decide_eq_true h;omega
                 have e4:IntKind.i64.wrap ((i:Int)+1)=((i+1:Nat):Int):=by rw [Q0j _ (by omega) (by omega)];omega
                 have gO:=G0c w i (by omega)
                 have hil:i<B.length:=by omega
                 have gC:=K1w B R i hil
                 have gU:=hB i hlt2
                 rw [if_neg (by omega)] at gU
                 rw [gU] at gC
                 have gV:=q2i B R i hil (.own 0) (rows.getD i []++ [w.getD i default])
                 have gW:=j1f (rows:=B) (i:=i) (k:=0) (r:=rows.getD i []++ [w.getD i default]) r3
                 have gX:=q2j B R i (.own 0) (rows.getD i []++ [w.getD i default])
                 have gY:=fq2 r3
                 have gZ:(R.map PV.forget2).length=cap-f.length:=by rw [List.length_map,r2]
                 have hsn:Z0o (rows.getD i [])++ [.agg [.sc (.bool (w.getD i default).neg),.sl .no (encD (Q0d (w.getD i default).m)),.sc (.int .i64 (w.getD i default).e)]]=Z0o (rows.getD i []++ [w.getD i default]):=Q1t _ _
                 have hrl2:=(hrows i hlt2).1
                 have hlimV:=hlimU (B.set i (rows.getD i []++ [w.getD i default])) _ gY
                 have hBs: ∀j,j<f.length→if j<i+1 then(B.set i (rows.getD i []++ [w.getD i default])).getD j []=rows.getD j []++ [w.getD j default] else(B.set i (rows.getD i []++ [w.getD i default])).getD j []=rows.getD j []:=fun j hj=>by
                  have:=hB j hj
                  by_cases e:j=i
                  · subst e
                    rw [if_pos (by omega)]
                    simp [List.getD_eq_getElem?_getD,hil]
                  · rw [show(B.set i (rows.getD i []++ [w.getD i default])).getD j []=B.getD j [] by simp [List.getD_eq_getElem?_getD,List.getElem?_set_ne (Ne.symm e)]]
                    by_cases e2:j<i
                    · rw [if_pos (by omega)];rwa [if_pos e2] at this
                    · rw [if_neg (by omega)];rwa [if_neg e2] at this
                 simp -dsimp only [go_sem]
                 refine Q0v (Y0c ?_)
                 refine Q0l Z0x 71 (.step 0 [] (.step 1 [] (.step 2 [] (.step 3 [] (.step 4 [] (.step 5 [] (.step 6 [] (.step 8 [] (.step 9 [] (.step 10 [] (.step 11 [] (.step 12 [] (.step 7 [11] (.step 13 [] (.step 14 [] (.step 15 [] (.done))))))))))))))))) (by decide+kernel) (by simp) ?_
                 simp -dsimp only [go_sem,gC,gO]
                 refine⟨⟨by omega,hlt2⟩,by omega,⟨by omega,by omega⟩,⟨by omega,by omega⟩,⟨by omega,by omega⟩,⟨by omega,hlt2⟩,⟨by omega,by omega⟩,?_⟩
                 rw [hsn,gV]
                 refine X0o 0 ?_
                 simp -dsimp only [go_sem,gW,gX]
                 refine Q0a ?_
                 simp -dsimp only [go_sem,e4,hlimV]
                 exact⟨f.length-(i+1),by omega,i+1,_,_,rfl,by omega,gZ,gY,by rw [List.length_set];exact hBl,hBs,rfl⟩
               · have hge2:i=f.length:=by have:=of_decide_eq_false h;omega
                 subst hge2
                 have hlimE:=hlimU B R r3
                 simp -dsimp only [go_sem]
                 refine Q0a ?_
                 simp -dsimp only [go_sem,e3,hlimE]
                 refine⟨o-(k+1),by omega,k+1,cap,R,x1b X k fun i=>polL (f.getD i []) f.length X k (f.getD i []).length,B,rfl,by omega,r1,r2,r3,fun i hi=>by rw [z0y _ _ _ (by omega)];exact hX0 i hi,G2j hX,hBl,fun i hi=> ?_,rfl⟩
                 have:=hB i hi
                 rw [if_pos hi] at this
                 rw [this]
                 exact v2r (hrows i hi) (hwv i hi)
       · have hge:k=o:=by have:=of_decide_eq_false h;omega
         subst hge
         simp -dsimp only [go_sem]
         refine Q0v (Q0a ?_)
         simp -dsimp only [go_sem]
         refine k2f 6 0 f.length cap (by rfl) (by omega) ?_
         simp -dsimp only [go_sem]
         refine Z0w 0 ?_ (Q0a ?_)
         · simp only [U0z]
           have hq1:(Z0g rows++R).all PV.quiet=true:=by rw [List.all_append,U0g,r3];rfl
           exact U1w hq1
         have c1:(((Z0g rows++R).map PV.forget2).drop 0).take f.length=Z0g rows:=by
          rw [List.drop_zero,List.map_append,Z1m,List.take_append_of_le_length (by rw [X0r];omega),List.take_of_length_le (by rw [X0r];omega)]
         rw [List.drop_zero] at c1
         have c0:f.length≤rows.length+R.length:=by omega
         simp -dsimp only [go_sem,c0,c1]
         exact⟨X,rows,hX0,hX,hrl,hrows,rfl⟩
end Go.Pv
end
section
/-The seat's Within,At,Reach. -/
set_option maxRecDepth 100000
namespace Go.Pv
open Go.Proofs
set_option maxHeartbeats 4000000 in
theorem q1k (v w:Vl) (a:Ivl) (x y:Rat) {L U:Nat} (st:Q0e) (hv:RV x v) (hw:RV y w) (ra:Q0h a=true) (hx:luQ L U x) (hy:luQ L U y) (hb:L+U≤100000) (h1:qN a.lo*y≤x) (h2:x≤qN a.hi*y):
 PCalls Tryz.prog 33 [.agg (encV v),.agg (encV w),.agg (encI a)] st (fun r st'=>r= .sc (.bool true)∧st'=st):=by
 obtain⟨r1,r2,_⟩:=Q0n ra
 have q1:=RV.num r1
 have q2:=RV.num r2
 have l1:=x1c r1
 have l2:=x1c r2
 have p1:=q1.by hw
 have p2:=q2.by hw
 have sv:=hv.sm hx (by omega)
 have sw:=hw.sm hy (by omega)
 have s1:=q1.sm l1 (by omega)
 have s2:=q2.sm l2 (by omega)
 have s3:=p1.sm (W0r l1 hy) (by omega)
 have s4:=p2.sm (W0r l2 hy) (by omega)
 have o1:decide (V0d (byV (ofN a.lo) w) v≤0)=true:=decide_eq_true ((w0i _ _).2 (by rw [p1.2,hv.2];exact h1))
 have o2:decide (V0d v (byV (ofN a.hi) w)≤0)=true:=decide_eq_true ((w0i _ _).2 (by rw [p2.2,hv.2];exact h2))
 have w1:=(q1w ra).1
 have w2:=(q1w ra).2
 refine Q0b none Tryz.func33 rfl fun E=>Q0a ?_
 simp -dsimp only [go_sem]
 refine Q0l Z0x 25 (.step 0 [] (.step 1 [] (.step 3 [] (.step 5 [] (.step 2 [3,5] (.step 4 [5] (.step 6 [] (.step 7 [] (.step 8 [] (.step 9 [] (.step 10 [] (.step 11 [] (.step 13 [] (.step 12 [1,3,9,13] (.step 14 [1,3,9] (.step 15 [1,3] (.step 16 [] (.step 17 [] (.step 18 [] (.done)))))))))))))))))))) (by decide+kernel) (by simp) ?_
 simp -dsimp only [go_sem]
 refine(of_c a.lo _ (by have:=w1;unfold wN at this;omega)).mono ?_
 rintro r st ⟨rfl,rfl⟩
 simp -dsimp only [go_sem]
 refine(by_c _ _ _ s1 sw).mono ?_
 rintro r st ⟨rfl,rfl⟩
 simp -dsimp only [go_sem]
 refine(v1m _ _ _ s3 sv).mono ?_
 rintro r st ⟨rfl,rfl⟩
 simp -dsimp only [go_sem,o1]
 refine(of_c a.hi _ (by have:=w2;unfold wN at this;omega)).mono ?_
 rintro r st ⟨rfl,rfl⟩
 simp -dsimp only [go_sem,o1]
 refine(by_c _ _ _ s2 sw).mono ?_
 rintro r st ⟨rfl,rfl⟩
 simp -dsimp only [go_sem,o1]
 refine(v1m _ _ _ sv s4).mono ?_
 rintro r st ⟨rfl,rfl⟩
 simp -dsimp only [go_sem,o1,o2]
def rchN (deg:Nat):Nat→Nat
 | 0=>1
 | i+1=>rchN deg i*deg+1
theorem x3k : ∀i,i<4→rchN 2 i≤15:=by decide
set_option maxHeartbeats 4000000 in
theorem V3m (n:Nat) (st:Q0e) (h1:1≤n) (h4:n≤4):PCalls Tryz.prog 25 [.sc (.int .i64 n),.sc (.int .i64 2)] st (fun r st'=>r= .sc (.int .i64 (rchN 2 (n-1)))∧st'=st):=by
 refine Q0b none Tryz.func25 rfl fun E=>Q0a ?_
 simp -dsimp only [go_sem]
 refine Q0f [true,true,false,false,false,true,true] 0 0 (fun m s=> ∃i,i≤n-1∧m=n-1-i∧
  s=⟨[.sc (.int .i64 (n:Nat)),.sc (.int .i64 2),.junk,.junk,.junk,.sc (.int .i64 (rchN 2 i:Nat)),.sc (.int .i64 ((i+1:Nat):Int))]++List.replicate 10 .junk,[],[],st⟩) (n-1) ?_ ?_
 · simp -dsimp only [go_sem]
   exact⟨0,by omega,by omega,rfl⟩
 · rintro m s ⟨i,hi,rfl,rfl⟩
   simp -dsimp only [go_sem]
   refine ck (fun h'=> ?_) (fun h'=> ?_)
   · have hlt:i+1<n:=by have:=of_decide_eq_true h';omega
     have hr:=x3k i (by omega)
     have e1:IntKind.i64.wrap ((rchN 2 i:Int)*2)=((rchN 2 i*2:Nat):Int):=by rw [Q0j _ (by omega) (by omega)];omega
     have e2:IntKind.i64.wrap (((rchN 2 i*2:Nat):Int)+1)=((rchN 2 (i+1):Nat):Int):=by rw [Q0j _ (by omega) (by omega)];rfl
     have e3:IntKind.i64.wrap (((i+1:Nat):Int)+1)=((i+1+1:Nat):Int):=by rw [Q0j _ (by omega) (by omega)];omega
     simp -dsimp only [go_sem,e1,e2,e3]
     exact⟨n-1-(i+1),by omega,i+1,by omega,rfl,rfl⟩
   · have hge:i=n-1:=by have:=of_decide_eq_false h';omega
     subst hge
     simp -dsimp only [go_sem]
     refine Q0a ?_
     simp -dsimp only [go_sem]
set_option maxHeartbeats 4000000 in
theorem at_c {aa u s r L U:Nat} (d:List Vl) (t:Vl) (K:Nat) (g:Nat→Rat) (x:Rat) (st:Q0e) (hK:K<12) (hd:RL K g d) (ht:RV x t) (hg:grQ aa u s r K g) (hx:luQ L U x) (hb:(aa*K+s+L*K)+(u*K+r+U*K)+L+U≤100000):
 PCalls Tryz.prog 31 [.sl .no (Z0o d),.agg (encV t)] st (fun z st'=> ∃v w,RV (sumR (atT g x K) (K+1)) v∧RV (fctN K:Rat) w∧z= .tup [.agg (encV v),.agg (encV w)]∧st'=st):=by
 have ld:=hd.1
 have st0:=ht.sm hx (by omega)
 have e0:IntKind.i64.wrap ((d.length:Int)-1)=(K:Int):=by rw [Q0j _ (by omega) (by omega)];omega
 refine Q0b none Tryz.func31 rfl fun E=>Q0a ?_
 simp -dsimp only [go_sem,e0]
 refine(w1m K _ hK).mono ?_
 rintro z st ⟨w,hw,rfl,rfl⟩
 simp -dsimp only [go_sem]
 refine(q0g 1 _ (by decide)).mono ?_
 rintro z st ⟨rfl,rfl⟩
 have hw1:=RV.whole 1
 simp -dsimp only [go_sem]
 generalize oddV false 1 0=w1 at hw1⊢
 refine X0o 1 ?_
 simp -dsimp only [go_sem]
 refine X0o 2 ?_
 simp -dsimp only [go_sem]
 refine X0o 3 ?_
 simp -dsimp only [go_sem]
 refine Q0f [true,false,false,true,true,true,true,true,true,true,true] 6 0 (fun n s'=> ∃k v q,k≤K+1∧n=K+1-k∧RV (sumR (atT g x K) k) v∧RV (x^k) q∧
  s'=⟨[.sl .no (Z0o d),.junk,.junk,.lp 0 0,.lp 1 0,.lp 2 0,.sc (.int .i64 (K:Nat)),.lp 3 0,.lp 4 0,.lp 5 0,.sc (.int .i64 (k:Nat))]++List.replicate 40 .junk,[encV t,encV ⟨false,0,0⟩,encV ⟨false,0,0⟩,encV v,encV w,encV q],[],st⟩) (K+1) ?_ ?_
 · simp -dsimp only [go_sem]
   exact⟨0,⟨false,0,0⟩,w1,by omega,by omega,RV.zero,hw1.same (by grind),by simp only [Z0f,G0w];rfl⟩
 · rintro n s' ⟨k,v,q,hk,rfl,hv,hq,rfl⟩
   simp -dsimp only [go_sem]
   refine ck (fun h'=> ?_) (fun h'=> ?_)
   · have hlt:k≤K:=by have:=of_decide_eq_true h';omega
     have e2:IntKind.i64.wrap ((k:Int)+1)=((k+1:Nat):Int):=by rw [Q0j _ (by omega) (by omega)];omega
     have g1:=G0c d k (by omega)
     have r1:=hd.2 k hlt
     obtain⟨t1,t2⟩:=x2c hK hg hx hlt
     have m1:aa*k≤aa*K:=Nat.mul_le_mul_left _ hlt
     have m2:u*k≤u*K:=Nat.mul_le_mul_left _ hlt
     have m3:L*k≤L*K:=Nat.mul_le_mul_left _ hlt
     have m4:U*k≤U*K:=Nat.mul_le_mul_left _ hlt
     have s1:=r1.sm (hg k hlt) (by omega)
     have s2:=hq.sm (G1s hx k) (by omega)
     have t3:=U1o k fun i hi=>(x2c (k:=i) hK hg hx (by omega)).1
     have s3:=hv.sm t3 (by omega)
     have hp:=r1.by hq
     have s4:=hp.sm t2 (by omega)
     simp -dsimp only [go_sem]
     refine(q0g 1 _ (by decide)).mono ?_
     rintro z st ⟨rfl,rfl⟩
     have hw2:=RV.whole 1
     simp -dsimp only [go_sem,e2]
     generalize oddV false 1 0=w2 at hw2⊢
     refine Q0f [true,false,false,true,true,true,true,true,true,true,true,true,true] 7 0 (fun n s'=> ∃m o,m≤K-k∧n=K-k-m∧RV (shN k m:Rat) o∧
      s'=⟨[.sl .no (Z0o d),.junk,.junk,.lp 0 0,.lp 1 0,.lp 2 0,.sc (.int .i64 (K:Nat)),.lp 3 0,.lp 4 0,.lp 5 0,.sc (.int .i64 (k:Nat)),.lp 6 0,.sc (.int .i64 ((k+1+m:Nat):Int))]++List.replicate 38 .junk,[encV t,encV ⟨false,0,0⟩,encV ⟨false,0,0⟩,encV v,encV w,encV q,encV o],[],st⟩) (K-k) ?_ ?_
     · simp -dsimp only [go_sem]
       exact⟨0,w2,by omega,by omega,hw2,rfl⟩
     · rintro n s' ⟨m,o,hm,rfl,ho,rfl⟩
       have s5:=ho.sm (U0x (x3d K hK k hlt m hm)) (by omega)
       simp -dsimp only [go_sem]
       refine ck (fun h2=> ?_) (fun h2=> ?_)
       · have hlt2:m<K-k:=by have:=of_decide_eq_true h2;omega
         have e3:IntKind.i64.wrap (((k+1+m:Nat):Int)+1)=((k+1+(m+1):Nat):Int):=by rw [Q0j _ (by omega) (by omega)];omega
         simp -dsimp only [go_sem]
         refine Q0l Z0x 51 (.step 0 [] (.step 1 [] (.step 2 [0] (.step 3 [] (.step 4 [] (.done)))))) (by decide+kernel) (by simp) ?_
         simp -dsimp only [go_sem]
         refine(q0g (k+1+m) _ (by omega)).mono ?_
         rintro z st ⟨rfl,rfl⟩
         have hw3:=RV.whole (k+1+m)
         have s6:=hw3.sm (U0x (n:=40) (by omega)) (by omega)
         simp -dsimp only [go_sem]
         refine(by_c _ _ _ s5 s6).mono ?_
         rintro z st ⟨rfl,rfl⟩
         simp -dsimp only [go_sem,e3]
         exact⟨K-k-(m+1),by omega,m+1,_,by omega,rfl,(ho.by hw3).same (by rw [shN,Rat.natCast_mul,show k+m+1=k+1+m by omega]),rfl⟩
       · have hge:m=K-k:=by have:=of_decide_eq_false h2;omega
         subst hge
         simp -dsimp only [go_sem]
         refine Q0a ?_
         simp -dsimp only [go_sem]
         refine Q0l Z0x 51 (.step 0 [] (.step 1 [] (.step 2 [] (.step 3 [] (.step 4 [] (.step 5 [] (.step 7 [] (.step 6 [0,7] (.step 8 [0] (.step 9 [] (.step 10 [] (.done)))))))))))) (by decide+kernel) (by simp) ?_
         simp -dsimp only [go_sem,g1]
         refine⟨by omega,?_⟩
         refine(by_c _ _ _ s1 s2).mono ?_
         rintro z st ⟨rfl,rfl⟩
         simp -dsimp only [go_sem]
         refine(by_c _ _ _ s4 s5).mono ?_
         rintro z st ⟨rfl,rfl⟩
         have hp2:=hp.by ho
         have s6:=hp2.sm t1 (by omega)
         simp -dsimp only [go_sem]
         refine(W1u _ _ _ s3 s6).mono ?_
         rintro z st ⟨rfl,rfl⟩
         simp -dsimp only [go_sem]
         refine(by_c _ _ _ s2 st0).mono ?_
         rintro z st ⟨rfl,rfl⟩
         simp -dsimp only [go_sem,e2]
         refine Q0a ?_
         simp -dsimp only [go_sem,e2]
         exact⟨K+1-(k+1),by omega,k+1,_,_,by omega,rfl,hv.plus hp2,(hq.by ht).same (Rat.pow_succ ..).symm,rfl⟩
   · have hge:k=K+1:=by have:=of_decide_eq_false h';omega
     subst hge
     simp -dsimp only [go_sem]
     refine Q0a ?_
     simp -dsimp only [go_sem]
     refine Q0l Z0x 51 (.step 0 [] (.step 1 [] (.step 2 [1] (.step 3 [] (.done))))) (by decide+kernel) (by simp) ?_
     simp -dsimp only [go_sem]
     exact⟨v,w,hv,hw,rfl⟩
end Go.Pv
end
