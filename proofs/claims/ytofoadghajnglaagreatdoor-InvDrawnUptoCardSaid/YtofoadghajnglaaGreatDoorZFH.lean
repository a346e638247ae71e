/- Parts of the walk: N146, N147. -/
import Derived.Test.YtofoadghajnglaaGreatDoorZFE
import Derived.Test.YtofoadghajnglaaGreatDoorZFC
import Derived.Test.YtofoadghajnglaaGreatDoorZFF
import Derived.Test.YtofoadghajnglaaGreatDoorZY
set_option linter.unusedVariables false
set_option linter.unusedSimpArgs false
section
/-inv.pair.clear:a column becomes that of the matrix of ones. -/
set_option maxRecDepth 100000
namespace Go.Pv
open Go.Proofs
theorem K3o {x:Nm} (h:Q0j x=true):(sgnN (ownN x)==0)=decide (x.w= []):=by
 have e:ownN x=x:=by unfold ownN;rw [if_pos h]
 rw [e]
 by_cases hw:x.w= []
 · have:valW x.w=0:=(X0q h).2 hw
   rw [decide_eq_true hw]
   unfold sgnN
   rw [if_pos this];rfl
 · have:valW x.w≠0:=fun e=>hw ((X0q h).1 e)
   rw [decide_eq_false hw]
   unfold sgnN
   rw [if_neg this]
   split<;>rfl
theorem j0l {p:Int} {k:Nat} {x:GJ} {i:Nat} (h:(J0v p k x i).e≠0): ∀d,J0v p k x (i+d)=J0v p k x i
 | 0=>rfl
 | d+1=>by rw [←Nat.add_assoc,J0v,j0l h d,if_neg h]
set_option maxHeartbeats 1000000 in
theorem Q2k (a r:List (List Nm)) (A B base n:Nat) (ia ib:List Nat) (p:Int) (k:Nat) (st:Q0f) (h:PairO base n st A ia B ib a r) (hsa:sqR n a) (hsr:sqR n r) (hk:k<n) (h4:n≤4) (hp:Z0p p=true):
 PCalls Tryz.prog 92 [.agg [.ms true A 0 n,.ms true B 0 n,.sc (.int .i64 p)],.sc (.int .i64 (k:Nat))] st
 (fun res st'=> ∃ia' ib',Below base st st'∧res= .sc (.int .i64 (Q1a p n k ⟨a,r,0⟩).e)∧((Q1a p n k ⟨a,r,0⟩).e=0→PairO base n st' A ia' B ib' (Q1a p n k ⟨a,r,0⟩).a (Q1a p n k ⟨a,r,0⟩).r)):=by
 have hgr:PCalls Tryz.prog 151 [.agg [.ms true A 0 n,.ms true B 0 n,.sc (.int .i64 p)],.sc (.int .i64 (k:Nat))] st (fun r st'=>r= .sc (.int .i64 (pivN a k (n-(k+1)):Nat))∧st'=st):=by
  have:=Y1g a A B ia p k st h.qa (by rw [h.la];exact hk) (by rw [h.la];exact h4) (fun i j hi hj=>hsa.ent (by rw [←h.la];exact hi) (by rw [←h.la];exact hj))
  rwa [h.la] at this
 have hpv:=Z1z a k (n-(k+1))
 have hpn:pivN a k (n-(k+1))<n:=by omega
 have hcol0:Q1a p n k ⟨a,r,0⟩=if (entQ a (pivN a k (n-(k+1))) k).w= [] then⟨a,r,3⟩ else if (G0l p k ⟨Z0s [] a k (pivN a k (n-(k+1))),Z0s [] r k (pivN a k (n-(k+1))),0⟩).e=0 then J0v p k (G0l p k ⟨Z0s [] a k (pivN a k (n-(k+1))),Z0s [] r k (pivN a k (n-(k+1))),0⟩) n else G0l p k ⟨Z0s [] a k (pivN a k (n-(k+1))),Z0s [] r k (pivN a k (n-(k+1))),0⟩:=rfl
 generalize Q1a p n k ⟨a,r,0⟩=Y at*
 generalize pivN a k (n-(k+1))=P at*
 refine Q0b none Tryz.func92 rfl fun E=>Q0l (Q0a ?_)
 simp -dsimp only [go_sem]
 obtain⟨t1,t2⟩:=h.qa.top (show P<a.length by rw [h.la];exact hpn)
 obtain⟨n1,n2,_⟩:=h.qa.num (show P<a.length by rw [h.la];exact hpn) (show k<a.length by rw [h.la];exact hk)
 rw [h.la] at t1
 have hdr:Q0j (entQ a P k)=true:=hsa.ent hpn hk
 have hdw:=Q0u hdr
 unfold wN at hdw
 refine G1p (Q0l (Q0a ?_))
 simp -dsimp only [go_sem]
 refine hgr.mono ?_
 rintro res st' ⟨rfl,rfl⟩
 simp -dsimp only [go_sem]
 refine Q0l (Q0a ?_)
 simp -dsimp only [go_sem,t1,n1]
 refine⟨⟨by omega,hpn⟩,t2,⟨by omega,hk⟩,n2,?_⟩
 refine Q0l (Q0a ?_)
 simp -dsimp only [go_sem]
 refine(G1v _ _ (by omega)).mono ?_
 rintro res st' ⟨rfl,rfl⟩
 simp -dsimp only [go_sem,K3o hdr]
 refine ck (fun hz=> ?_) (fun hz=> ?_)
 · have hz:=of_decide_eq_true hz
   rw [if_pos hz] at hcol0
   subst hcol0
   simp -dsimp only [go_sem]
   exact⟨[],[],Below.refl _ _,fun h=>absurd h (by decide)⟩
 have hz:=of_decide_eq_false hz
 simp -dsimp only [go_sem]
 rw [if_neg hz] at hcol0
 obtain⟨RA,hRA⟩:=h.qa.2.top.2
 obtain⟨RB,hRB⟩:=h.qr.2.top.2
 have hla:=h.la
 have hlr:=h.lr
 have lia:=h.qa.lid
 have lib:=h.qr.lid
 obtain⟨u1,u2⟩:=h.qa.top (show k<a.length by omega)
 obtain⟨v1,v2⟩:=h.qr.top (show k<r.length by omega)
 obtain⟨v3,v4⟩:=h.qr.top (show P<r.length by omega)
 rw [hla] at u1
 rw [hlr] at v1 v3
 have ovA:over (over (st'.getD A []) k [.ms true (ia.getD P 0) 0 n]) P [.ms true (ia.getD k 0) 0 n]=(Z0s 0 ia k P).map (fun i=>PV.ms true i 0 n)++RA:=by
  rw [hRA,hla];exact k0z (by omega) (by omega)
 have ovB:over (over (st'.getD B []) k [.ms true (ib.getD P 0) 0 n]) P [.ms true (ib.getD k 0) 0 n]=(Z0s 0 ib k P).map (fun i=>PV.ms true i 0 n)++RB:=by
  rw [hRB,hlr];exact k0z (by omega) (by omega)
 have hAl:=h.qa.2.top.1
 have hBl:=h.qr.2.top.1
 have gst:=fun X=>y0o X hAl
 refine Q0l ?_
 refine Q0k Z0f 143 (.step 0 [] (.step 1 [] (.step 2 [] (.step 3 [] (.step 4 [] (.step 5 [] (.step 6 [] (.step 7 [] (.step 8 [] (.step 9 [] (.step 10 [] (.step 11 [] (.step 12 [] (.step 13 [] (.step 14 [] (.step 15 [] (.step 16 [] (.step 17 [4] (.step 18 [] (.step 19 [] (.done))))))))))))))))))))) (by decide+kernel) (by simp) ?_
 simp -dsimp only [go_sem,t1,u1,gst,List.set_set,ovA]
 have ol:(over (st'.getD A []) k [.ms true (ia.getD P 0) 0 n]).length=(st'.getD A []).length:=by
  rw [hRA,H0p (by rw [List.length_map];omega)];simp
 have ol2:(over (st'.getD B []) k [.ms true (ib.getD P 0) 0 n]).length=(st'.getD B []).length:=by
  rw [hRB,H0p (by rw [List.length_map];omega)];simp
 refine⟨⟨by omega,hpn⟩,t2,⟨by omega,hk⟩,u2,⟨by omega,hk⟩,⟨u2,by omega⟩,⟨by omega,hpn⟩,⟨by omega,by omega⟩,?_⟩
 obtain⟨s1,w1⟩:=h.swapA hk hpn RA
 have gB:(st'.set A ((Z0s 0 ia k P).map (fun i=>PV.ms true i 0 n)++RA)).getD B []=st'.getD B []:=Q0g _ _ _ _ _ h.ab
 generalize st'.set A ((Z0s 0 ia k P).map (fun i=>PV.ms true i 0 n)++RA)=st1 at*
 rw [←gB] at v1 v2 v3 v4 ovB ol2
 have hBl1:=s1.qr.2.top.1
 have gst1:=fun X=>y0o X hBl1
 refine Q0l ?_
 refine Q0k Z0f 143 (.step 0 [] (.step 1 [] (.step 2 [] (.step 3 [] (.step 4 [] (.step 5 [] (.step 6 [] (.step 7 [] (.step 8 [] (.step 9 [] (.step 10 [] (.step 11 [] (.step 12 [] (.step 13 [] (.step 14 [] (.step 15 [] (.step 16 [] (.step 17 [4] (.step 18 [] (.step 19 [] (.done))))))))))))))))))))) (by decide+kernel) (by simp) ?_
 simp -dsimp only [go_sem,v1,v3,gst1,List.set_set,ovB]
 refine⟨⟨by omega,hpn⟩,v4,⟨by omega,hk⟩,v2,⟨by omega,hk⟩,⟨v2,by omega⟩,⟨by omega,hpn⟩,⟨by omega,by omega⟩,?_⟩
 obtain⟨s2,w2⟩:=s1.swapR hk hpn RB
 have w12:=w1.trans w2
 generalize st1.set B ((Z0s 0 ib k P).map (fun i=>PV.ms true i 0 n)++RB)=st2 at*
 have q1:sqR n (Z0s [] a k P):=hsa.swap hk hpn
 have q2:sqR n (Z0s [] r k P):=hsr.swap hk hpn
 have hent:entQ (Z0s [] a k P) k k=entQ a P k:=by
  unfold entQ
  rw [Y0n [] a (by omega) (by omega)]
  split
  · rename_i e;rw [←e]
  · rw [if_pos rfl]
 rw [←hent] at hdr hdw hz
 simp only [←hent]
 generalize Z0s [] a k P=a1 at*
 generalize Z0s [] r k P=r1 at*
 generalize Z0s 0 ia k P=ja at*
 generalize Z0s 0 ib k P=jb at*
 clear ovA ovB ol ol2 hRA hRB t1 t2 n1 n2 u1 u2 v1 v2 v3 v4 gst gst1 gB s1
 have hl1:=s2.la
 have hl2:=s2.lr
 obtain⟨u1,u2⟩:=s2.qa.top (show k<a1.length by omega)
 obtain⟨v1,v2⟩:=s2.qr.top (show k<r1.length by omega)
 rw [hl1] at u1
 rw [hl2] at v1
 refine Q0l (Q0l ?_)
 refine Q0k Z0f 143 (.step 0 [] (.step 1 [] (.step 2 [] (.step 3 [] (.step 4 [] (.step 5 [] (.step 6 [] (.step 7 [] (.step 8 [] (.step 9 [] (.step 10 [] (.step 11 [] (.step 12 [] (.done)))))))))))))) (by decide+kernel) (by simp) ?_
 simp -dsimp only [go_sem,u1,v1]
 refine⟨⟨by omega,hk⟩,u2,⟨by omega,hk⟩,v2,?_⟩
 generalize hd:entQ a1 k k=d at*
 have hdiv0:G0l p k ⟨a1,r1,0⟩=if (H0v d p (a1.getD k [])&&H0v d p (r1.getD k []))=true then⟨a1.set k (divL d p (a1.getD k [])),r1.set k (divL d p (r1.getD k [])),0⟩ else⟨a1,r1,2⟩:=by rw [←hd];rfl
 have hd0:d.w≠ []:=hz
 refine J0u ?_
 refine Q0e [false,true,true,false,false,false,true,false,false,false,false,false,false,false,false,false,false,false,false,false,false,false,false,false,false,false,false,false,false,false,false,false,false,false,false,false,false,false,false,false,false,false,false,false,false,false,false,false,false,false,false,false,false,false,false,false,false,false,false,false,false,false,false,false,false,false,false,false,false,false,false,false,false,false,true,true,true] 2 0
  (fun m s=> ∃(i:Nat) (x y:List (List Nm)) (Z:Q0f),m=2-i∧i≤2∧PairO base n Z A ja B jb x y∧Below base st2 Z∧(1≤i→H0v d p (a1.getD k [])=true)∧(2≤i→H0v d p (r1.getD k [])=true)∧x=(if 1≤i then a1.set k (divL d p (a1.getD k [])) else a1)∧y=(if 2≤i then r1.set k (divL d p (r1.getD k [])) else r1)∧
   s=⟨[.junk,.sc (.int .i64 (k:Nat)),.lp 0 0,.junk,.junk,.junk,.lp 1 0,.junk,.junk,.junk,.junk,.junk,.junk,.junk,.junk,.junk,.junk,.junk,.junk,.junk,.junk,.junk,.junk,.junk,.junk,.junk,.junk,.junk,.junk,.junk,.junk,.junk,.junk,.junk,.junk,.junk,.junk,.junk,.junk,.junk,.junk,.junk,.junk,.junk,.junk,.junk,.junk,.junk,.junk,.junk,.junk,.junk,.junk,.junk,.junk,.junk,.junk,.junk,.junk,.junk,.junk,.junk,.junk,.junk,.junk,.junk,.junk,.junk,.junk,.junk,.junk,.junk,.junk,.junk,.sl .full [.ms true (ja.getD k 0) 0 n,.ms true (jb.getD k 0) 0 n],.sc (.int .i64 2),.sc (.int .i64 (i:Nat))]++List.replicate 66 .junk,[[.ms true A 0 n,.ms true B 0 n,.sc (.int .i64 p)],encN d],[],Z⟩) 2 ?_ ?_
 · simp -dsimp only [go_sem]
   refine⟨0,a1,r1,st2,by omega,by omega,s2,Below.refl _ _,fun h=>by omega,fun h=>by omega,rfl,rfl,rfl⟩
 · rintro m s ⟨i,x,y,Z,rfl,hi,hPZ,hBZ,ok1,ok2,hx,hy,rfl⟩
   simp -dsimp only [go_sem]
   refine ck (fun h1=> ?_) (fun h1=> ?_)
   · have hlt:i<2:=by have:=of_decide_eq_true h1;omega
     have x2:=X0y i (by omega)
     have hi2:i=0∨i=1:=by omega
     rcases hi2 with rfl | rfl
     · obtain⟨R,hR⟩:=(hPZ.qa.rowAt (i:=k) (by rw [hPZ.la];exact hk)).1.2
       have hobj:=(hPZ.qa.rowAt (i:=k) (by rw [hPZ.la];exact hk)).1.1
       rw [if_neg (by omega)] at hx hy
       subst hx hy
       have hlx:=(q1.row hk).1
       simp -dsimp only [go_sem]
       refine⟨by omega,?_⟩
       have hc:=w1a (x.getD k []) d A B n (ja.getD k 0) R p Z hobj hR (by rw [hlx];exact h4) (q1.row hk).2 hdr hd0 hp
       rw [hlx] at hc
       refine hc.mono ?_
       rintro res Z' (⟨o1,rfl,rfl⟩ | ⟨o1,rfl,z,hz,rfl⟩)
       · simp -dsimp only [go_sem,x2]
         obtain⟨p1,p2⟩:=hPZ.setA hk (G0d d p (x.getD k []) hlx).1 R
         refine⟨2-(0+1),by omega,0+1,_,_,_,by omega,by omega,p1,hBZ.trans p2,fun _=>o1,fun h=>by omega,by rw [if_pos (by omega)],by rw [if_neg (by omega)],rfl⟩
       · simp -dsimp only [go_sem]
         have hf:G0l p k ⟨x,y,0⟩=⟨x,y,2⟩:=by rw [hdiv0,if_neg (by rw [o1];simp)]
         rw [hf,if_neg (show¬(2:Int)=0 by decide)] at hcol0
         subst hcol0
         refine⟨[],[],(w12.trans hBZ).trans (Below.set (hPZ.gia _ (K0c (by rw [hPZ.qa.lid,hPZ.la];exact hk))) _),?_⟩
         exact⟨rfl,fun h=>absurd h (show¬(2:Int)=0 by decide)⟩
     · obtain⟨R,hR⟩:=(hPZ.qr.rowAt (i:=k) (by rw [hPZ.lr];exact hk)).1.2
       have hobj:=(hPZ.qr.rowAt (i:=k) (by rw [hPZ.lr];exact hk)).1.1
       rw [if_neg (by omega)] at hy
       subst hy
       have hlx:=(q2.row hk).1
       simp -dsimp only [go_sem]
       refine⟨by omega,?_⟩
       have hc:=w1a (y.getD k []) d A B n (jb.getD k 0) R p Z hobj hR (by rw [hlx];exact h4) (q2.row hk).2 hdr hd0 hp
       rw [hlx] at hc
       refine hc.mono ?_
       rintro res Z' (⟨o1,rfl,rfl⟩ | ⟨o1,rfl,z,hz,rfl⟩)
       · simp -dsimp only [go_sem,x2]
         obtain⟨p1,p2⟩:=hPZ.setR hk (G0d d p (y.getD k []) hlx).1 R
         refine⟨2-(1+1),by omega,1+1,_,_,_,by omega,by omega,p1,hBZ.trans p2,fun _=>ok1 (by omega),fun _=>o1,by rw [hx,if_pos (by omega),if_pos (by omega)],by rw [if_pos (by omega)],rfl⟩
       · simp -dsimp only [go_sem]
         have hf:G0l p k ⟨a1,y,0⟩=⟨a1,y,2⟩:=by rw [hdiv0,if_neg (by rw [o1];simp)]
         rw [hf,if_neg (show¬(2:Int)=0 by decide)] at hcol0
         subst hcol0
         refine⟨[],[],(w12.trans hBZ).trans (Below.set (hPZ.gib _ (K0c (by rw [hPZ.qr.lid,hPZ.lr];exact hk))) _),?_⟩
         exact⟨rfl,fun h=>absurd h (show¬(2:Int)=0 by decide)⟩
   · have hge:i=2:=by have:=of_decide_eq_false h1;omega
     subst hge
     rw [if_pos (by omega)] at hx hy
     have hf:G0l p k ⟨a1,r1,0⟩=⟨x,y,0⟩:=by rw [hdiv0,if_pos (by rw [ok1 (by omega),ok2 (by omega)];rfl),←hx,←hy]
     have qx:sqR n x:=by rw [hx];exact q1.set (G0d _ _ _ (q1.row hk).1)
     have qy:sqR n y:=by rw [hy];exact q2.set (G0d _ _ _ (q2.row hk).1)
     rw [hf,if_pos rfl] at hcol0
     have wZ:=w12.trans hBZ
     clear hdiv0 hf hx hy ok1 ok2 hBZ w12 w2 w1
     simp -dsimp only [go_sem]
     refine Q0l (Q0a ?_)
     simp -dsimp only [go_sem]
     refine Q0l (Q0l (Q0a ?_))
     simp -dsimp only [go_sem]
     refine J0u ?_
     refine Q0e [false,true,true,false,false,false,false,false,false,false,false,false,false,false,false,false,false,false,false,false,false,false,false,false,false,false,false,false,false,false,false,false,false,false,false,false,false,false,false,false,false,false,false,false,false,false,false,false,false,false,false,false,false,false,false,false,false,false,false,false,false,false,false,false,false,false,false,false,false,false,false,false,false,false,false,false,false,false,false,false,false,false,false,false,false,false,false,false,false,false,true,true] 1 0
      (fun m s=> ∃(i:Nat) (W:Q0f),m=n-i∧i≤n∧PairO base n W A ja B jb (J0v p k ⟨x,y,0⟩ i).a (J0v p k ⟨x,y,0⟩ i).r∧Below base st' W∧(J0v p k ⟨x,y,0⟩ i).e=0∧
       s=⟨[.junk,.sc (.int .i64 (k:Nat)),.lp 0 0,.junk,.junk,.junk,.junk,.junk,.junk,.junk,.junk,.junk,.junk,.junk,.junk,.junk,.junk,.junk,.junk,.junk,.junk,.junk,.junk,.junk,.junk,.junk,.junk,.junk,.junk,.junk,.junk,.junk,.junk,.junk,.junk,.junk,.junk,.junk,.junk,.junk,.junk,.junk,.junk,.junk,.junk,.junk,.junk,.junk,.junk,.junk,.junk,.junk,.junk,.junk,.junk,.junk,.junk,.junk,.junk,.junk,.junk,.junk,.junk,.junk,.junk,.junk,.junk,.junk,.junk,.junk,.junk,.junk,.junk,.junk,.junk,.junk,.junk,.junk,.junk,.junk,.junk,.junk,.junk,.junk,.junk,.junk,.junk,.junk,.junk,.junk,.sc (.int .i64 n),.sc (.int .i64 (i:Nat))]++List.replicate 51 .junk,[[.ms true A 0 n,.ms true B 0 n,.sc (.int .i64 p)]],[],W⟩) n ?_ ?_
     · simp -dsimp only [go_sem]
       refine⟨0,Z,by omega,by omega,hPZ,wZ,rfl,rfl⟩
     · rintro m s ⟨i,W,rfl,hi,hPW,hBW,he0,rfl⟩
       simp -dsimp only [go_sem]
       refine ck (fun h1=> ?_) (fun h1=> ?_)
       · have hlt:i<n:=by have:=of_decide_eq_true h1;omega
         have x2:=X0y i (by omega)
         obtain⟨sqa,sqr⟩:=v0o (p:=p) (k:=k) (x:=⟨x,y,0⟩) ⟨qx,qy⟩ hk i (by omega)
         have hnext:J0v p k ⟨x,y,0⟩ (i+1)=X1x p k i (J0v p k ⟨x,y,0⟩ i):=by rw [J0v,if_pos he0]
         have hend:(J0v p k ⟨x,y,0⟩ (i+1)).e≠0→Y=J0v p k ⟨x,y,0⟩ (i+1):=fun hne=>by
          have:=j0l hne (n-(i+1))
          rw [show i+1+(n-(i+1))=n by omega] at this
          rw [hcol0,this]
         generalize hw':J0v p k ⟨x,y,0⟩ (i+1)=w' at*
         generalize J0v p k ⟨x,y,0⟩ i=w at*
         have hlw:=hPW.la
         have hlv:=hPW.lr
         obtain⟨u1,u2⟩:=hPW.qa.top (show i<w.a.length by omega)
         obtain⟨u3,u4⟩:=hPW.qa.top (show k<w.a.length by omega)
         rw [hlw] at u1 u3
         obtain⟨n1,n2,_⟩:=hPW.qa.num (show i<w.a.length by omega) (show k<w.a.length by omega)
         have hmr:=sqa.ent hlt hk
         have hmw:=Q0u hmr
         unfold wN at hmw
         have hsg:=K3o hmr
         have hgr0:X1x p k i w=if i=k∨(entQ w.a i k).w= [] then w else if (q0e (entQ w.a i k) p (w.a.getD i []) (w.a.getD k [])&&q0e (entQ w.a i k) p (w.r.getD i []) (w.r.getD k []))=true then⟨w.a.set i (U0g (entQ w.a i k) p (w.a.getD i []) (w.a.getD k [])),w.r.set i (U0g (entQ w.a i k) p (w.r.getD i []) (w.r.getD k [])),0⟩ else⟨w.a,w.r,2⟩:=rfl
         rw [←hnext] at hgr0
         generalize entQ w.a i k=mm at*
         simp -dsimp only [go_sem,u1,n1]
         refine⟨⟨by omega,hlt⟩,u2,⟨by omega,hk⟩,n2,?_⟩
         by_cases hik:i=k
         · have g1:(((i:Nat):Int)==((k:Nat):Int))=true:=by rw [hik];exact beq_self_eq_true _
           rw [if_pos (.inl hik)] at hgr0
           simp -dsimp only [go_sem,g1,x2]
           exact⟨n-(i+1),by omega,i+1,W,rfl,by omega,by rw [hw',hgr0];exact hPW,hBW,by rw [hw',hgr0];exact he0,rfl⟩
         · have g1:(((i:Nat):Int)==((k:Nat):Int))=false:=beq_eq_false_iff_ne.2 fun e=>hik (by omega)
           simp -dsimp only [go_sem,g1]
           refine(G1v _ _ (by omega)).mono ?_
           rintro res Z' ⟨rfl,rfl⟩
           by_cases hm0:mm.w= []
           · rw [if_pos (.inr hm0)] at hgr0
             rw [decide_eq_true hm0] at hsg
             simp -dsimp only [go_sem,hsg,x2]
             exact⟨n-(i+1),by omega,i+1,Z',rfl,by omega,by rw [hw',hgr0];exact hPW,hBW,by rw [hw',hgr0];exact he0,rfl⟩
           · rw [if_neg (fun h=>h.elim hik hm0)] at hgr0
             rw [decide_eq_false hm0] at hsg
             have lja:=hPW.qa.lid
             have ljb:=hPW.qr.lid
             obtain⟨R1,hR1⟩:=(hPW.qa.rowAt (i:=i) (by omega)).1.2
             obtain⟨R2,hR2⟩:=(hPW.qa.rowAt (i:=k) (by omega)).1.2
             have c1:=H1f (w.a.getD i []) (w.a.getD k []) mm A B n (ja.getD i 0) (ja.getD k 0) _ _ p Z' (hPW.qa.rowAt (i:=i) (by omega)).1.1 (hPW.qa.rowAt (i:=k) (by omega)).1.1 (hPW.qa.2.nd i k (by omega) (by omega) hik) hR1 hR2 (by rw [(sqa.row hlt).1];exact h4) (by rw [(sqa.row hlt).1,(sqa.row hk).1]) (sqa.row hlt).2 (sqa.row hk).2 hmr hp
             rw [(sqa.row hlt).1,(sqa.row hk).1] at c1
             simp -dsimp only [go_sem,hsg]
             refine Q0k Z0f 143 (.step 0 [] (.step 1 [] (.step 2 [] (.step 3 [] (.step 4 [] (.step 5 [] (.step 6 [] (.step 7 [] (.step 8 [] (.step 9 [] (.step 10 [] (.step 11 [] (.step 12 [] (.step 13 [] (.done))))))))))))))) (by decide+kernel) (by simp) ?_
             simp -dsimp only [go_sem,u1,u3]
             refine⟨⟨by omega,hlt⟩,u2,⟨by omega,hk⟩,u4,?_⟩
             refine c1.mono ?_
             rintro res W1 (⟨o1,rfl,hW1⟩ | ⟨o1,rfl,z,hz,rfl⟩)
             · obtain⟨p1,p2⟩:=hPW.setA hlt (v0k mm p (w.a.getD i []) (w.a.getD k []) (sqa.row hlt).1).1 R1
               rw [←hW1] at p1 p2
               obtain⟨v1,v2⟩:=p1.qr.top (show i<w.r.length by omega)
               obtain⟨v3,v4⟩:=p1.qr.top (show k<w.r.length by omega)
               rw [hlv] at v1 v3
               obtain⟨R3,hR3⟩:=(p1.qr.rowAt (i:=i) (by omega)).1.2
               obtain⟨R4,hR4⟩:=(p1.qr.rowAt (i:=k) (by omega)).1.2
               have c2:=H1f (w.r.getD i []) (w.r.getD k []) mm A B n (jb.getD i 0) (jb.getD k 0) _ _ p W1 (p1.qr.rowAt (i:=i) (by omega)).1.1 (p1.qr.rowAt (i:=k) (by omega)).1.1 (p1.qr.2.nd i k (by omega) (by omega) hik) hR3 hR4 (by rw [(sqr.row hlt).1];exact h4) (by rw [(sqr.row hlt).1,(sqr.row hk).1]) (sqr.row hlt).2 (sqr.row hk).2 hmr hp
               rw [(sqr.row hlt).1,(sqr.row hk).1] at c2
               simp -dsimp only [go_sem]
               refine Q0k Z0f 143 (.step 0 [] (.step 1 [] (.step 2 [] (.step 3 [] (.step 4 [] (.step 5 [] (.step 6 [] (.step 7 [] (.step 8 [] (.step 9 [] (.step 10 [] (.step 11 [] (.step 12 [] (.step 13 [] (.done))))))))))))))) (by decide+kernel) (by simp) ?_
               simp -dsimp only [go_sem,v1,v3]
               refine⟨⟨by omega,hlt⟩,v2,⟨by omega,hk⟩,v4,?_⟩
               refine c2.mono ?_
               rintro res W2 (⟨o2,rfl,hW2⟩ | ⟨o2,rfl,z,hz,rfl⟩)
               · obtain⟨p3,p4⟩:=p1.setR hlt (v0k mm p (w.r.getD i []) (w.r.getD k []) (sqr.row hlt).1).1 R3
                 rw [←hW2] at p3 p4
                 rw [if_pos (by rw [o1,o2];rfl)] at hgr0
                 simp -dsimp only [go_sem,x2]
                 exact⟨n-(i+1),by omega,i+1,W2,rfl,by omega,by rw [hw',hgr0];exact p3,hBW.trans (p2.trans p4),by rw [hw',hgr0],rfl⟩
               · rw [if_neg (by rw [o2];simp)] at hgr0
                 have hY:=hend (by rw [hgr0];exact(show¬(2:Int)=0 by decide))
                 rw [hgr0] at hY
                 subst hY
                 simp -dsimp only [go_sem]
                 exact⟨[],[],(hBW.trans p2).trans (Below.set (p1.gib _ (K0c (by omega))) _),fun h=>absurd h (show¬(2:Int)=0 by decide)⟩
             · rw [if_neg (by rw [o1];simp)] at hgr0
               have hY:=hend (by rw [hgr0];exact(show¬(2:Int)=0 by decide))
               rw [hgr0] at hY
               subst hY
               simp -dsimp only [go_sem]
               exact⟨[],[],hBW.trans (Below.set (hPW.gia _ (K0c (by omega))) _),fun h=>absurd h (show¬(2:Int)=0 by decide)⟩
       · have hge:i=n:=by have:=of_decide_eq_false h1;omega
         subst hge
         simp -dsimp only [go_sem]
         refine Q0a ?_
         simp -dsimp only [go_sem]
         rw [←hcol0] at hPW he0
         rw [he0]
         exact⟨ja,jb,hBW,rfl,fun _=>hPW⟩
end Go.Pv
end
section
/-inv.Approx. -/
set_option maxRecDepth 100000
namespace Go.Pv
open Go.Proofs
theorem G1t (n:Nat):oneL n=K0l n:=by
 unfold oneL K0l rowQ
 refine List.map_congr_left fun i hi=> ?_
 rw [List.mem_range] at hi
 refine List.ext_getElem (by simp) fun j h1 h2=> ?_
 rw [List.length_set,List.length_replicate] at h1
 rw [List.getElem_set,List.getElem_map,List.getElem_range]
 by_cases e:i=j
 · rw [if_pos e,if_pos e];rfl
 · rw [if_neg e,if_neg e,List.getElem_replicate]
theorem PairO.mk2 {st X:Q0f} {A B:Nat} {ia ib:List Nat} {a r:List (List Nm)} {n:Nat} (ha:QO (st++X) A ia a) (la:a.length=n) (lr:r.length=n) (ga:st.length≤A) (gia: ∀x∈ia,st.length≤x) {Y:Q0f}
 (hb:QO (st++X++Y) B ib r) (gb:(st++X).length≤B) (gib: ∀x∈ib,(st++X).length≤x):PairO st.length n (st++X++Y) A ia B ib a r:=by
 have hA:=ha.2.top.1
 have hI: ∀x∈ia,x<(st++X).length:=fun x hx=>by
  obtain⟨j,hj,he⟩:=List.mem_iff_getElem.1 hx
  have h1:=(ha.2.row j (by rw [←ha.lid];exact hj)).1
  rw [List.getD_eq_getElem?_getD,List.getElem?_eq_getElem hj] at h1
  rw [←he];exact h1
 have hle:st.length≤(st++X).length:=by rw [List.length_append];omega
 refine⟨ha.mono (by simp) fun k hk=> ?_,hb,la,lr,by omega,fun hm=>by have:=gib _ hm;omega,fun hm=>by have:=hI _ hm;omega,fun x hx hx2=>by have:=gib _ hx2;have:=hI _ hx;omega,ga,by omega,gia,fun x hx=>by have:=gib x hx;omega⟩
 rcases hk with rfl | hk
 · exact Q0i _ _ _ _ hA
 · exact Q0i _ _ _ _ (hI _ hk)
theorem V1q (r:List (List Nm)): ∀x∈r.map Z0b,∀c∈x,c.cells.length=3∧ ∀d∈c.cells,Tame d:=by
 intro x hx c hc
 simp only [List.mem_map] at hx
 obtain⟨y,_,rfl⟩:=hx
 simp only [Z0b,List.mem_map] at hc
 obtain⟨z,_,rfl⟩:=hc
 refine⟨rfl,fun d hd=> ?_⟩
 exact k1d z d hd
theorem PairO.seenR {base n:Nat} {st:Q0f} {A B:Nat} {ia ib:List Nat} {a r:List (List Nm)} (h:PairO base n st A ia B ib a r):
 Seen st (eMat st B ib n 3) (.ms true B 0 n) (.sl .no (encQ r))∧(∀k,k<st.length→(eMat st B ib n 3).getD k 0≤(st.getD k []).length)∧ ∀k,k<base→k<st.length→(eMat st B ib n 3).getD k 0=0:=by
 have hm:=h.qr.2
 rw [h.lr] at hm
 have hfl:r.map rowC=(r.map Z0b).map flat:=by rw [List.map_map];rfl
 rw [hfl] at hm
 have hl: ∀x∈r.map Z0b,x.length=n:=fun x hx=>by
  simp only [List.mem_map] at hx
  obtain⟨y,hy,rfl⟩:=hx
  rw [X0w,h.qr.1 y hy,h.lr]
 have hB:=h.qr.2.top.1
 have hI: ∀x∈ib,x<st.length:=fun x hx=>by
  obtain⟨j,hj,he⟩:=List.mem_iff_getElem.1 hx
  have h1:=(h.qr.2.row j (by rw [←h.qr.lid];exact hj)).1
  rw [List.getD_eq_getElem?_getD,List.getElem?_eq_getElem hj] at h1
  rw [←he];exact h1
 refine⟨?_,hm.eLe hl (V1q r),fun k hk hks=> ?_⟩
 · have:=hm.seen (e:=eMat st B ib n 3) hl (V1q r) (by rw [G0c _ _ _ _ _ _ hB,if_pos rfl];exact Nat.le_refl _) fun i hi=>by
    rw [G0c _ _ _ _ _ _ (hI i hi),if_neg (fun e=>h.qr.2.na (by rw [←e];exact hi)),if_pos hi];exact Nat.le_refl _
   rw [List.map_map] at this
   exact this
 · have hb:=h.gb
   rw [G0c _ _ _ _ _ _ hks,if_neg (by omega),if_neg fun hm=>by have:=h.gib _ hm;omega]
theorem H0l {st:Q0f} {e:List Nat} {p q s:PV} (h:Seen st e p q) (hs:Tame s):Seen st e (.tup [p,s]) (.tup [q,s]):=by
 refine .tup rfl fun j hj=> ?_
 match j,hj with
 | 0,_=>exact h
 | 1,_=>exact .same hs
theorem q1z {a:List (List Nm)} {p:Int} (h:V0v a=true∧Z0p p=true):Q0q a p=if (X0a p a.length ⟨a,K0l a.length,0⟩ a.length).e=0 then((X0a p a.length ⟨a,K0l a.length,0⟩ a.length).r,0) else([],(X0a p a.length ⟨a,K0l a.length,0⟩ a.length).e):=by
 unfold Q0q;rw [if_pos h]
theorem x0h {a:List (List Nm)} {p:Int} (h: ¬(V0v a=true∧Z0p p=true)):Q0q a p=([],1):=by
 unfold Q0q;rw [if_neg h]
theorem j0m {p:Int} {n:Nat} {x:GJ} {i:Nat} (h:(X0a p n x i).e≠0): ∀d,X0a p n x (i+d)=X0a p n x i
 | 0=>rfl
 | d+1=>by rw [←Nat.add_assoc,X0a,j0m h d,if_neg h]
set_option maxHeartbeats 1000000 in
theorem j0j (a:List (List Nm)) (p:Int) (st:Q0f) (hw:wQs a):PCalls Tryz.prog 34 [.sl .no (encQ a),.sc (.int .i64 p)] st (fun r st'=>r= .tup [.sl .no (encQ (Q0q a p).1),.sc (.int .i64 (Q0q a p).2)]∧st'=st):=by
 refine j0c (Q:=fun q=>q= .tup [.sl .no (encQ (Q0q a p).1),.sc (.int .i64 (Q0q a p).2)]) ?_
 have hbad: ∀e:Int,Q0q a p=([],e)→ ∃X q e',st=st++X∧Seen st e' (.tup [.sl .no [],.sc (.int .i64 e)]) q∧(∀k,k<st.length→e'.getD k 0≤(st.getD k []).length)∧(∀k,k<st.length→e'.getD k 0=0)∧(PV.tup [.sl .no [],.sc (.int .i64 e)]).stale=true∧q.stale=true∧q= .tup [.sl .no (encQ (Q0q a p).1),.sc (.int .i64 (Q0q a p).2)]:=fun e he=>by
  exact⟨[],.tup [.sl .no [],.sc (.int .i64 e)],[],by simp,H0l (.same (.sl fun c hc=>by simp at hc)) (.sc _),fun k _=>Nat.zero_le _,fun k _=>rfl,rfl,rfl,by rw [he];rfl⟩
 refine Q0b none Tryz.func34 rfl fun E=>Q0a ?_
 have hnf: ∀b:Bool,(!b)=decide (b=false):=fun b=>by cases b<;>rfl
 simp -dsimp only [go_sem]
 refine(U2r a _ hw).mono ?_
 rintro res st' ⟨rfl,rfl⟩
 by_cases hq:V0v a=true
 rotate_left
 · have hq':V0v a=false:=Bool.eq_false_iff.2 hq
   rw [hq']
   simp -dsimp only [go_sem]
   exact hbad 1 (x0h fun h=>hq h.1)
 rw [hq]
 simp -dsimp only [go_sem]
 refine(Y0p _ _).mono ?_
 rintro res st' ⟨rfl,rfl⟩
 by_cases hp:Z0p p=true
 rotate_left
 · have hp':Z0p p=false:=Bool.eq_false_iff.2 hp
   rw [hp']
   simp -dsimp only [go_sem]
   exact hbad 1 (x0h fun h=>hp h.2)
 rw [hp]
 have hgo:=q1z ⟨hq,hp⟩
 obtain⟨sq,h1,h4⟩:=Z1l hq
 simp -dsimp only [go_sem]
 refine(x1s a st' (by omega) h4 fun r hr=>(sq.2 r hr).1).mono ?_
 rintro res st1 ⟨A,ia,X,rfl,rfl,qa,gA,gia⟩
 simp -dsimp only [go_sem]
 refine(V2a a.length _ (by omega) h4).mono ?_
 rintro res st1 ⟨B,ib,X2,rfl,rfl,qb,gB,gib⟩
 rw [X0z]
 have pr:=PairO.mk2 qa rfl (X0z a.length) gA gia qb gB gib
 rw [G1t] at pr
 rw [List.append_assoc] at pr⊢
 generalize X++X2=X at*
 simp -dsimp only [go_sem]
 refine Q0e [false,false,false,false,false,false,true,false,false,false,false,false,false,false,false,false,false,false,false,false,false,false,false,false,false,true,true] 1 0
  (fun m s=> ∃(i:Nat) (ja jb:List Nat) (Z:Q0f),m=a.length-i∧i≤a.length∧(X0a p a.length ⟨a,K0l a.length,0⟩ i).e=0∧PairO st'.length a.length (st'++Z) A ja B jb (X0a p a.length ⟨a,K0l a.length,0⟩ i).a (X0a p a.length ⟨a,K0l a.length,0⟩ i).r∧
   s=⟨[.junk,.junk,.junk,.junk,.junk,.junk,.lp 0 0,.junk,.junk,.junk,.junk,.junk,.junk,.junk,.junk,.junk,.junk,.junk,.junk,.junk,.junk,.junk,.junk,.junk,.junk,.sc (.int .i64 a.length),.sc (.int .i64 (i:Nat))]++List.replicate 11 .junk,[[.ms true A 0 a.length,.ms true B 0 a.length,.sc (.int .i64 p)]],[],st'++Z⟩) a.length ?_ ?_
 · simp -dsimp only [go_sem]
   exact⟨0,ia,ib,X,by omega,by omega,rfl,pr,rfl⟩
 · rintro m s ⟨i,ja,jb,Z,rfl,hi,he0,hPZ,rfl⟩
   simp -dsimp only [go_sem]
   refine ck (fun h1=> ?_) (fun h1=> ?_)
   · have hlt:i<a.length:=by have:=of_decide_eq_true h1;omega
     have x2:=X0y i (by omega)
     obtain⟨sqa,sqr⟩:=v0p (p:=p) (n:=a.length) (x:=⟨a,K0l a.length,0⟩) ⟨sq,z1o _⟩ i (by omega)
     have hc:=Q2k _ _ A B st'.length a.length ja jb p i (st'++Z) hPZ sqa sqr hlt h4 hp
     have hnext:X0a p a.length ⟨a,K0l a.length,0⟩ (i+1)=Q1a p a.length i ⟨(X0a p a.length ⟨a,K0l a.length,0⟩ i).a,(X0a p a.length ⟨a,K0l a.length,0⟩ i).r,0⟩:=by
      rw [X0a,if_pos he0]
      generalize X0a p a.length ⟨a,K0l a.length,0⟩ i=z at*
      cases z;cases he0;rfl
     rw [←hnext] at hc
     simp -dsimp only [go_sem]
     refine hc.mono ?_
     rintro res st2 ⟨ka,kb,hb,rfl,hP2⟩
     obtain⟨Z2,rfl⟩:=hb.app
     by_cases he:(X0a p a.length ⟨a,K0l a.length,0⟩ (i+1)).e=0
     · rw [he]
       simp -dsimp only [go_sem,x2]
       exact⟨a.length-(i+1),by omega,i+1,ka,kb,Z2,rfl,by omega,he,hP2 he,rfl⟩
     · have hst:=j0m he (a.length-(i+1))
       rw [show i+1+(a.length-(i+1))=a.length by omega] at hst
       rw [hst,if_neg he] at hgo
       have hne:((X0a p a.length ⟨a,K0l a.length,0⟩ (i+1)).e !=0)=true:=by simpa using he
       simp -dsimp only [go_sem,hne]
       exact⟨Z2,.tup [.sl .no [],.sc (.int .i64 (X0a p a.length ⟨a,K0l a.length,0⟩ (i+1)).e)],[],rfl,H0l (.same (.sl fun c hc=>by simp at hc)) (.sc _),fun k _=>Nat.zero_le _,fun k _=>rfl,rfl,rfl,by rw [hgo];rfl⟩
   · have hge:i=a.length:=by have:=of_decide_eq_false h1;omega
     subst hge
     rw [if_pos he0] at hgo
     simp -dsimp only [go_sem]
     refine Q0a ?_
     simp -dsimp only [go_sem]
     obtain⟨w1,w2,w3⟩:=hPZ.seenR
     exact⟨Z,_,_,rfl,H0l w1 (.sc _),fun k hk=>w2 k (by rw [List.length_append];exact hk),fun k hk=>w3 k hk (by rw [List.length_append];omega),rfl,rfl,by rw [hgo]⟩
end Go.Pv
end
