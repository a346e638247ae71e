/- Parts of the walk: N148. -/
import Derived.Test.YtofoadghajnglaaGreatDoorZFH
import Derived.Test.YtofoadghajnglaaGreatDoorZFG
import Derived.Test.YtofoadghajnglaaGreatDoorZFF
set_option linter.unusedVariables false
set_option linter.unusedSimpArgs false
section
/-The document's Approx. -/
set_option maxRecDepth 100000
namespace Go.Pv
open Go.Proofs
section
variable {base n:Nat} {st:Q0f} {A B:Nat} {ia ib:List Nat} {a r:List (List Nm)}
theorem PairO.tA (h:PairO base n st A ia B ib a r) {i:Nat} (hi:i<n):(st.getD A []).getD i .junk= .ms true (ia.getD i 0) 0 n:=by
 have:=(h.qa.top (i:=i) (by rw [h.la];exact hi)).1
 rwa [h.la] at this
theorem PairO.lA (h:PairO base n st A ia B ib a r) {i:Nat} (hi:i<n):i+1≤(st.getD A []).length:=(h.qa.top (i:=i) (by rw [h.la];exact hi)).2
theorem PairO.nA (h:PairO base n st A ia B ib a r) {i j:Nat} (hi:i<n) (hj:j<n):((st.getD (ia.getD i 0) []).drop (j*3)).take 3=encN (entQ a i j):=(h.qa.num (by rw [h.la];exact hi) (by rw [h.la];exact hj)).1
theorem PairO.mA (h:PairO base n st A ia B ib a r) {i j:Nat} (hi:i<n) (hj:j<n):j*3+3≤(st.getD (ia.getD i 0) []).length:=(h.qa.num (by rw [h.la];exact hi) (by rw [h.la];exact hj)).2.1
theorem PairO.wA (h:PairO base n st A ia B ib a r) {i j:Nat} (hi:i<n) (hj:j<n):(st.getD (ia.getD i 0) []).getD (j*3+2) .junk= .sl .no (encW (entQ a i j).w):=(h.qa.num (by rw [h.la];exact hi) (by rw [h.la];exact hj)).2.2
theorem PairO.stepA {D:List Nm} {a2:List (List Nm)} {k j:Nat} (h:PairO base n st A ia B ib (a2.set k D) r) (hk:k<n) (hj:j<n) (x:Nm):
 PairO base n (st.set (ia.getD k 0) (over (st.getD (ia.getD k 0) []) (j*3) (encN x))) A ia B ib (a2.set k (D.set j x)) r∧Below base st (st.set (ia.getD k 0) (over (st.getD (ia.getD k 0) []) (j*3) (encN x))):=by
 have hla:a2.length=n:=by have:=h.la;rwa [List.length_set] at this
 have hr:=h.qa.rowAt (i:=k) (by rw [h.la];exact hk)
 rw [z0f (by omega),if_pos rfl,h.la] at hr
 obtain⟨⟨_,R,hR⟩,hl⟩:=hr
 rw [hR,G0u D j R x (by omega)]
 have:=h.setA hk (x:=D.set j x) (by rw [List.length_set];exact hl) R
 rwa [List.set_set] at this
theorem PairO.stepR {D:List Nm} {r2:List (List Nm)} {k j:Nat} (h:PairO base n st A ia B ib a (r2.set k D)) (hk:k<n) (hj:j<n) (x:Nm):
 PairO base n (st.set (ib.getD k 0) (over (st.getD (ib.getD k 0) []) (j*3) (encN x))) A ia B ib a (r2.set k (D.set j x))∧Below base st (st.set (ib.getD k 0) (over (st.getD (ib.getD k 0) []) (j*3) (encN x))):=
 ⟨(h.symm.stepA hk hj x).1.symm,(h.symm.stepA hk hj x).2⟩
end
theorem Y1m {a:List (List Nm)} {i:Nat} {D:List Nm} (hi:i<a.length) (j:Nat):entQ (a.set i D) i j=D.getD j default:=by
 unfold entQ;rw [z0f hi,if_pos rfl]
theorem v1y {a:List (List Nm)} {i k:Nat} {D:List Nm} (hi:i<a.length) (h:k≠i) (j:Nat):entQ (a.set i D) k j=entQ a k j:=by
 unfold entQ;rw [z0f hi,if_neg h]
theorem H0w (d:Nm) (p:Int) (x:List Nm):(divL d p x).length=x.length:=by simp [divL]
theorem x2c (d:Nm) (p:Int) (x:List Nm) {j:Nat} (h:j<x.length):(divL d p x).getD j default=(divN (x.getD j default) d p false).1:=by
 unfold divL
 rw [List.getD_eq_getElem?_getD,List.getElem?_map,List.getD_eq_getElem?_getD,List.getElem?_eq_getElem h];rfl
theorem q1d {d:Nm} {p:Int} {x:List Nm} (h: ∀j,j<x.length→(divN (x.getD j default) d p false).2=0):H0v d p x=true:=by
 unfold H0v
 rw [List.all_eq_true]
 intro c hc
 obtain⟨j,hj,rfl⟩:=List.mem_iff_getElem.1 hc
 have:=h j hj
 rw [List.getD_eq_getElem?_getD,List.getElem?_eq_getElem hj] at this
 simpa using this
theorem k1t {a d:Nm} {p:Int} {up:Bool} (h:d.w≠ []):W0y a d p up=divN a d p up:=by unfold W0y;rw [if_neg h]
structure MidG (p:Int) (n k:Nat) (Y:GJ) (a2 r2:List (List Nm)) (d:Nm):Prop where
 q1:sqR n a2
 q2:sqR n r2
 dr:Q0j d=true
 d0:d.w≠ []
 dk:d=entQ a2 k k
 col:Y=if (G0l p k ⟨a2,r2,0⟩).e=0 then J0v p k (G0l p k ⟨a2,r2,0⟩) n else G0l p k ⟨a2,r2,0⟩
set_option maxHeartbeats 2000000 in
theorem Z1t (a:List (List Nm)) (p:Int) (st:Q0f) (hw:wQs a):PCalls Tryz.prog 58 [.sl .no (encQ a),.sc (.int .i64 p)] st (fun r st'=>r= .tup [.sl .no (encQ (Q0q a p).1),.sc (.int .i64 (Q0q a p).2)]∧st'=st):=by
 refine j0c (Q:=fun q=>q= .tup [.sl .no (encQ (Q0q a p).1),.sc (.int .i64 (Q0q a p).2)]) ?_
 have hbad: ∀(Z:Q0f) (e:Int),Q0q a p=([],e)→ ∃X q e',st++Z=st++X∧Seen (st++Z) e' (.tup [.sl .no [],.sc (.int .i64 e)]) q∧(∀k,k<st.length+Z.length→e'.getD k 0≤((st++Z).getD k []).length)∧(∀k,k<st.length→e'.getD k 0=0)∧(PV.tup [.sl .no [],.sc (.int .i64 e)]).stale=true∧q.stale=true∧q= .tup [.sl .no (encQ (Q0q a p).1),.sc (.int .i64 (Q0q a p).2)]:=fun Z e he=>
  ⟨Z,.tup [.sl .no [],.sc (.int .i64 e)],[],rfl,H0l (.same (.sl fun c hc=>by simp at hc)) (.sc _),fun k _=>Nat.zero_le _,fun k _=>rfl,rfl,rfl,by rw [he];rfl⟩
 have hbad0:=hbad []
 simp only [List.append_nil,List.length_nil,Nat.add_zero] at hbad0
 refine Q0b none Tryz.func58 rfl fun E=>Q0a ?_
 simp -dsimp only [go_sem]
 refine(W1n a _ hw).mono ?_
 rintro res st' ⟨rfl,rfl⟩
 by_cases hq:V0v a=true
 rotate_left
 · have hq':V0v a=false:=Bool.eq_false_iff.2 hq
   rw [hq']
   simp -dsimp only [go_sem]
   exact hbad0 1 (x0h fun h=>hq h.1)
 rw [hq]
 simp -dsimp only [go_sem]
 refine(k0w _ _).mono ?_
 rintro res st' ⟨rfl,rfl⟩
 by_cases hp:Z0p p=true
 rotate_left
 · have hp':Z0p p=false:=Bool.eq_false_iff.2 hp
   rw [hp']
   simp -dsimp only [go_sem]
   exact hbad0 1 (x0h fun h=>hp h.2)
 rw [hp]
 have hgo:=q1z ⟨hq,hp⟩
 obtain⟨sq,h1,h4⟩:=Z1l hq
 simp -dsimp only [go_sem]
 refine(z1s a st' (by omega) h4 fun r hr=>(sq.2 r hr).1).mono ?_
 rintro res st1 ⟨A,ia,X,rfl,rfl,qa,gA,gia⟩
 simp -dsimp only [go_sem]
 refine(J2b a.length _ (by omega) h4).mono ?_
 rintro res st1 ⟨B,ib,X2,rfl,rfl,qb,gB,gib⟩
 rw [X0z]
 have pr:=PairO.mk2 qa rfl (X0z a.length) gA gia qb gB gib
 rw [G1t] at pr
 rw [List.append_assoc] at pr⊢
 generalize X++X2=X at*
 simp -dsimp only [go_sem]
 refine Q0e [false,true,false,false,false,false,true,true,true,true] 0 0
  (fun m s=> ∃(k:Nat) (ja jb:List Nat) (Z:Q0f),m=a.length-k∧k≤a.length∧(X0a p a.length ⟨a,K0l a.length,0⟩ k).e=0∧PairO st'.length a.length (st'++Z) A ja B jb (X0a p a.length ⟨a,K0l a.length,0⟩ k).a (X0a p a.length ⟨a,K0l a.length,0⟩ k).r∧
   s=⟨[.junk,.sc (.int .i64 p),.junk,.junk,.junk,.junk,.ms true A 0 a.length,.ms true B 0 a.length,.sc (.int .i64 a.length),.sc (.int .i64 (k:Nat))]++List.replicate 245 .junk,[],[],st'++Z⟩) a.length ?_ ?_
 · simp -dsimp only [go_sem]
   exact⟨0,ia,ib,X,by omega,by omega,rfl,pr,rfl⟩
 · rintro m s ⟨k,ja,jb,Z,rfl,hk0,he0,hPZ,rfl⟩
   simp -dsimp only [go_sem]
   refine ck (fun h1=> ?_) (fun h1=> ?_)
   rotate_left
   · have hge:k=a.length:=by have:=of_decide_eq_false h1;omega
     subst hge
     rw [if_pos he0] at hgo
     simp -dsimp only [go_sem]
     refine Q0a ?_
     simp -dsimp only [go_sem]
     obtain⟨w1,w2,w3⟩:=hPZ.seenR
     exact⟨Z,_,_,rfl,H0l w1 (.sc _),fun k hk=>w2 k (by rw [List.length_append];exact hk),fun k hk=>w3 k hk (by rw [List.length_append];omega),rfl,rfl,by rw [hgo]⟩
   have hk:k<a.length:=by have:=of_decide_eq_true h1;omega
   have x2:=X0y k (by omega)
   obtain⟨sqa,sqr⟩:=v0p (p:=p) (n:=a.length) (x:=⟨a,K0l a.length,0⟩) ⟨sq,z1o _⟩ k (by omega)
   have hnext:X0a p a.length ⟨a,K0l a.length,0⟩ (k+1)=Q1a p a.length k ⟨(X0a p a.length ⟨a,K0l a.length,0⟩ k).a,(X0a p a.length ⟨a,K0l a.length,0⟩ k).r,0⟩:=by
    rw [X0a,if_pos he0]
    generalize X0a p a.length ⟨a,K0l a.length,0⟩ k=z at*
    cases z;cases he0;rfl
   have hstop: ∀e,e≠0→(X0a p a.length ⟨a,K0l a.length,0⟩ (k+1)).e=e→Q0q a p=([],e):=fun e hne he=>by
    have hst:=j0m (p:=p) (n:=a.length) (x:=⟨a,K0l a.length,0⟩) (i:=k+1) (by rw [he];exact hne) (a.length-(k+1))
    rw [show k+1+(a.length-(k+1))=a.length by omega] at hst
    rw [hst,he,if_neg hne] at hgo
    exact hgo
   generalize hY:X0a p a.length ⟨a,K0l a.length,0⟩ (k+1)=Y at*
   generalize (X0a p a.length ⟨a,K0l a.length,0⟩ k).a=a1 at*
   generalize (X0a p a.length ⟨a,K0l a.length,0⟩ k).r=r1 at*
   have hl1:=hPZ.la
   have hl2:=hPZ.lr
   simp -dsimp only [go_sem,x2]
   refine Q0e [false,true,false,false,false,false,true,true,true,true,true,true] 0 0
    (fun m s=> ∃(c:Nat),m=a.length-(k+1)-c∧c≤a.length-(k+1)∧
     s=⟨[.junk,.sc (.int .i64 p),.junk,.junk,.junk,.junk,.ms true A 0 a.length,.ms true B 0 a.length,.sc (.int .i64 a.length),.sc (.int .i64 (k:Nat)),.sc (.int .i64 (pivN a1 k c:Nat)),.sc (.int .i64 (k+1+c:Nat))]++List.replicate 243 .junk,[],[],st'++Z⟩) (a.length-(k+1)) ?_ ?_
   · simp -dsimp only [go_sem]
     exact⟨0,by omega,by omega,rfl⟩
   rintro m s ⟨c,rfl,hc,rfl⟩
   have hpv:=Z1z a1 k c
   simp -dsimp only [go_sem]
   refine ck (fun h2=> ?_) (fun h2=> ?_)
   · have hlt:k+1+c<a.length:=by have:=of_decide_eq_true h2;omega
     have x3:=X0y (k+1+c) (by omega)
     have hpn:pivN a1 k c<a.length:=by omega
     have t1:=hPZ.tA hlt
     have t2:=hPZ.lA hlt
     have t3:=hPZ.tA hpn
     have t4:=hPZ.lA hpn
     have n1:=hPZ.nA hlt hk
     have n2:=hPZ.mA hlt hk
     have n3:=hPZ.nA hpn hk
     have n4:=hPZ.mA hpn hk
     have w1:=Q0u (sqa.ent (i:=k+1+c) (j:=k) (by omega) (by omega))
     have w2:=Q0u (sqa.ent (i:=pivN a1 k c) (j:=k) (by omega) (by omega))
     have r1w:=Q0u (Y0w (entQ a1 (k+1+c) k))
     have r2w:=Q0u (Y0w (entQ a1 (pivN a1 k c) k))
     unfold wN at r1w r2w
     simp -dsimp only [go_sem]
     refine Q0k Z0f 255 (.step 0 [] (.step 1 [] (.step 2 [] (.step 3 [] (.step 4 [] (.step 5 [] (.step 6 [] (.step 8 [] (.step 9 [] (.step 10 [] (.step 11 [] (.step 12 [] (.step 13 [] (.step 14 [] (.step 7 [11,14] (.step 15 [3] (.step 16 [3,11] (.step 17 [] (.done))))))))))))))))))) (by decide+kernel) (by simp) ?_
     simp -dsimp only [go_sem,t1,t3,n1,n3]
     refine⟨⟨by omega,hlt⟩,t2,⟨by omega,hk⟩,n2,⟨by omega,hpn⟩,t4,⟨by omega,hk⟩,n4,?_⟩
     refine(j2a _ _ w1).mono ?_
     rintro res st1 ⟨rfl,rfl⟩
     simp -dsimp only [go_sem]
     refine⟨⟨⟨t4,t3.symm⟩,n4,by rw [n3];rfl⟩,?_⟩
     refine(j2a _ _ w2).mono ?_
     rintro res st1 ⟨rfl,rfl⟩
     simp -dsimp only [go_sem]
     refine⟨⟨t2,t1.symm⟩,?_⟩
     refine(v0v _ _ _ (by omega) (by omega)).mono ?_
     rintro res st1 ⟨rfl,rfl⟩
     simp -dsimp only [go_sem]
     refine⟨⟨⟨t2,t1.symm⟩,t4,t3.symm⟩,?_⟩
     refine ck (fun h3=> ?_) (fun h3=> ?_)
     · have hle: ¬cmpR (absN (entQ a1 (k+1+c) k)) (absN (entQ a1 (pivN a1 k c) k))≤0:=by have:=of_decide_eq_true h3;omega
       have hpv2:pivN a1 k (c+1)=k+1+c:=by rw [pivN,if_neg hle]
       simp -dsimp only [go_sem,x3]
       refine⟨a.length-(k+1)-(c+1),by omega,c+1,rfl,by omega,?_⟩
       rw [hpv2]
       try rfl
     · have hle:cmpR (absN (entQ a1 (k+1+c) k)) (absN (entQ a1 (pivN a1 k c) k))≤0:=by have:=of_decide_eq_false h3;omega
       have hpv2:pivN a1 k (c+1)=pivN a1 k c:=by rw [pivN,if_pos hle]
       simp -dsimp only [go_sem,x3]
       refine⟨a.length-(k+1)-(c+1),by omega,c+1,rfl,by omega,?_⟩
       rw [hpv2]
       try rfl
   · have hge:c=a.length-(k+1):=by have:=of_decide_eq_false h2;omega
     subst hge
     simp -dsimp only [go_sem]
     clear hc
     have hpn:pivN a1 k (a.length-(k+1))<a.length:=by omega
     have hcol0:Q1a p a.length k ⟨a1,r1,0⟩=if (entQ a1 (pivN a1 k (a.length-(k+1))) k).w= [] then⟨a1,r1,3⟩ else if (G0l p k ⟨Z0s [] a1 k (pivN a1 k (a.length-(k+1))),Z0s [] r1 k (pivN a1 k (a.length-(k+1))),0⟩).e=0 then J0v p k (G0l p k ⟨Z0s [] a1 k (pivN a1 k (a.length-(k+1))),Z0s [] r1 k (pivN a1 k (a.length-(k+1))),0⟩) a.length else G0l p k ⟨Z0s [] a1 k (pivN a1 k (a.length-(k+1))),Z0s [] r1 k (pivN a1 k (a.length-(k+1))),0⟩:=rfl
     rw [←hnext] at hcol0
     have t1:=hPZ.tA hpn
     have t2:=hPZ.lA hpn
     have n4:=hPZ.wA hpn hk
     have n2:=hPZ.mA hpn hk
     have u1:=hPZ.tA hk
     have u2:=hPZ.lA hk
     have v1:=hPZ.symm.tA hk
     have v2:=hPZ.symm.lA hk
     have v3:=hPZ.symm.tA hpn
     have v4:=hPZ.symm.lA hpn
     have hAl:=hPZ.qa.2.top.1
     have hBl:=hPZ.qr.2.top.1
     have lia:=hPZ.qa.lid
     have lib:=hPZ.qr.lid
     generalize pivN a1 k (a.length-(k+1))=P at*
     refine Exists.elim hPZ.qa.2.top.2 fun RA hRA=> ?_
     refine Exists.elim hPZ.qr.2.top.2 fun RB hRB=> ?_
     rw [hl1] at hRA
     rw [hl2] at hRB
     have ovA:over (over ((st'++Z).getD A []) k [.ms true (ja.getD P 0) 0 a.length]) P [.ms true (ja.getD k 0) 0 a.length]=(Z0s 0 ja k P).map (fun i=>PV.ms true i 0 a.length)++RA:=by
      rw [hRA];exact k0z (by omega) (by omega)
     have ovB:over (over ((st'++Z).getD B []) k [.ms true (jb.getD P 0) 0 a.length]) P [.ms true (jb.getD k 0) 0 a.length]=(Z0s 0 jb k P).map (fun i=>PV.ms true i 0 a.length)++RB:=by
      rw [hRB];exact k0z (by omega) (by omega)
     have gst:=fun X=>y0o X hAl
     have gsB:=fun X:List PV=>Q0g (st'++Z) A B X ([]:List PV) hPZ.ab
     have ol:(over ((st'++Z).getD A []) k [.ms true (ja.getD P 0) 0 a.length]).length=((st'++Z).getD A []).length:=by
      rw [hRA,H0p (by rw [List.length_map];omega)];simp
     have ol2:(over ((st'++Z).getD B []) k [.ms true (jb.getD P 0) 0 a.length]).length=((st'++Z).getD B []).length:=by
      rw [hRB,H0p (by rw [List.length_map];omega)];simp
     refine Q0a ?_
     simp -dsimp only [go_sem,t1,n4]
     refine⟨⟨by omega,hpn⟩,t2,⟨by omega,hk⟩,by omega,?_⟩
     refine ck (fun hz=> ?_) (fun hz=> ?_)
     · have hz2:(entQ a1 P k).w= []:=List.eq_nil_of_length_eq_zero (by simpa using hz)
       rw [if_pos hz2] at hcol0
       simp -dsimp only [go_sem]
       exact hbad Z 3 (hstop 3 (by decide) (by rw [hcol0]))
     have hz2:(entQ a1 P k).w≠ []:=fun e=>by rw [e] at hz;exact absurd hz (by decide)
     rw [if_neg hz2] at hcol0
     have s1:=(hPZ.swapA hk hpn RA).1
     have s2:=(s1.swapR hk hpn RB).1
     have q1:sqR a.length (Z0s [] a1 k P):=sqa.swap hk hpn
     have q2:sqR a.length (Z0s [] r1 k P):=sqr.swap hk hpn
     have hdr:Q0j (entQ (Z0s [] a1 k P) k k)=true:=q1.ent hk hk
     have hd0:(entQ (Z0s [] a1 k P) k k).w≠ []:=by
      have hent:entQ (Z0s [] a1 k P) k k=entQ a1 P k:=by
       unfold entQ
       rw [Y0n [] a1 (by omega) (by omega)]
       split
       · rename_i e;rw [←e]
       · rw [if_pos rfl]
      rw [hent];exact hz2
     simp -dsimp only [go_sem]
     refine Q0k Z0f 255 (.step 0 [] (.step 1 [] (.step 2 [] (.step 3 [] (.step 4 [] (.step 5 [] (.step 6 [] (.step 7 [] (.step 8 [] (.step 9 [] (.step 10 [] (.step 11 [] (.step 12 [] (.step 13 [] (.step 14 [] (.step 15 [] (.step 16 [] (.step 17 [] (.step 18 [] (.step 19 [] (.step 20 [] (.step 21 [] (.step 22 [] (.step 23 [] (.step 24 [] (.step 25 [] (.step 26 [] (.step 27 [] (.step 28 [] (.step 29 [] (.step 30 [] (.step 31 [] (.done))))))))))))))))))))))))))))))))) (by decide+kernel) (by simp) ?_
     have gs2: ∀X Y:List PV,(((st'++Z).set A X).set B Y).getD B []=Y:=fun X Y=>y0o Y (by rw [List.length_set];exact hBl)
     have gs3: ∀X Y:List PV,(((st'++Z).set A X).set B Y).getD A []=X:=fun X Y=>by rw [Q0g _ _ _ _ _ fun e=>hPZ.ab e.symm];exact gst X
     have t5:=s2.tA hk
     have t6:=s2.lA hk
     have n5:=s2.nA hk hk
     have n6:=s2.mA hk hk
     rw [gs3] at t5 t6
     simp -dsimp only [go_sem,t1,u1,v1,v3,gst,gsB,gs2,gs3,List.set_set,ovA,ovB,t5,n5]
     have z1:0<((st'++Z).getD A []).length:=by omega
     have z2:0<((st'++Z).getD B []).length:=by omega
     have z3:0≤(k:Int):=by omega
     have z4:0≤(P:Int):=by omega
     rw [List.length_append,List.length_map] at t6
     refine⟨⟨z4,hpn⟩,t2,⟨z3,hk⟩,u2,⟨z4,hpn⟩,v4,⟨z3,hk⟩,v2,⟨z3,hk⟩,⟨u2,z1⟩,⟨z4,hpn⟩,⟨by rw [ol];exact t2,by rw [ol];exact z1⟩,⟨z3,hk⟩,⟨v2,z2⟩,⟨z4,hpn⟩,⟨by rw [ol2];exact v4,by rw [ol2];exact z2⟩,⟨z3,hk⟩,?_⟩
     refine⟨t6,⟨z3,hk⟩,n6,?_⟩
     have hb2:=(hPZ.swapA hk hpn RA).2.trans (s1.swapR hk hpn RB).2
     refine Exists.elim hb2.app fun Z2 hZ2=> ?_
     have hM:MidG p a.length k Y (Z0s [] a1 k P) (Z0s [] r1 k P) (entQ (Z0s [] a1 k P) k k):=⟨q1,q2,hdr,hd0,rfl,hcol0⟩
     rw [hZ2] at s2
     refine Q0e [false,true,false,false,false,false,true,true,true,true,false,false,true,true] 1 0
      (fun m s=> ∃(j:Nat) (V:Q0f) (d:Nm) (a2 r2:List (List Nm)) (ja2 jb2:List Nat) (DA DR:List Nm),DA=(divL d p (a2.getD k [])).take j++(a2.getD k []).drop j∧DR=(divL d p (r2.getD k [])).take j++(r2.getD k []).drop j∧MidG p a.length k Y a2 r2 d∧m=a.length-j∧j≤a.length∧PairO st'.length a.length (st'++V) A ja2 B jb2 (a2.set k DA) (r2.set k DR)∧(∀i,i<j→(divN ((a2.getD k []).getD i default) d p false).2=0∧(divN ((r2.getD k []).getD i default) d p false).2=0)∧
       s=⟨[.junk,.sc (.int .i64 p),.junk,.junk,.junk,.junk,.ms true A 0 a.length,.ms true B 0 a.length,.sc (.int .i64 a.length),.sc (.int .i64 (k:Nat)),.junk,.junk,.lp 0 0,.sc (.int .i64 (j:Nat))]++List.replicate 241 .junk,[encN d],[],st'++V⟩) a.length ?_ ?_
     · simp -dsimp only [go_sem]
       refine⟨0,Z2,_,_,_,Z0s 0 ja k P,Z0s 0 jb k P,_,_,rfl,rfl,hM,by omega,by omega,?_,fun i hi=>by omega,by rw [←hZ2];rfl⟩
       rw [List.take_zero,List.nil_append,List.drop_zero,List.take_zero,List.nil_append,List.drop_zero,W1j (by rw [J0z];omega),W1j (by rw [J0z];omega)]
       exact s2
     clear hM hcol0 hdr hd0 q1 q2 s2
     rintro m s ⟨j,V,d,a2,r2,ja2,jb2,DA,DR,hDA,hDR,⟨q1,q2,hdr,hd0,hdk,hcol0⟩,rfl,hj,hV,hok,rfl⟩
     have hdiv0:G0l p k ⟨a2,r2,0⟩=if (H0v d p (a2.getD k [])&&H0v d p (r2.getD k []))=true then⟨a2.set k (divL d p (a2.getD k [])),r2.set k (divL d p (r2.getD k [])),0⟩ else⟨a2,r2,2⟩:=by rw [hdk];rfl
     have hla2:=q1.1
     have hlr2:=q2.1
     have hda:=(q1.row hk).1
     have hdr2:=(q2.row hk).1
     simp -dsimp only [go_sem]
     refine ck (fun h5=> ?_) (fun h5=> ?_)
     · have hlt:j<a.length:=by have:=of_decide_eq_true h5;omega
       have x4:=X0y j (by omega)
       have pA:=j0d default (divL d p (a2.getD k [])) (a2.getD k []) (H0w _ _ _) (show j<(a2.getD k []).length by omega)
       have pR:=j0d default (divL d p (r2.getD k [])) (r2.getD k []) (H0w _ _ _) (show j<(r2.getD k []).length by omega)
       rw [x2c _ _ _ (by omega)] at pA pR
       have bad2:((divN ((a2.getD k []).getD j default) d p false).2≠0∨(divN ((r2.getD k []).getD j default) d p false).2≠0)→Q0q a p=([],2):=fun hne=>by
        refine hstop 2 (by decide) ?_
        have hf:G0l p k ⟨a2,r2,0⟩=⟨a2,r2,2⟩:=by
         rw [hdiv0,if_neg]
         rcases hne with h | h
         · rw [J1i (show j<(a2.getD k []).length by omega) h];simp
         · rw [J1i (show j<(r2.getD k []).length by omega) h];simp
        rw [hcol0,hf,if_neg (show¬(2:Int)=0 by decide)]
       rw [←hDA] at pA
       rw [←hDR] at pR
       have eA:entQ (a2.set k DA) k j=(a2.getD k []).getD j default:=(Y1m (by omega) j).trans pA.2.1
       have eR:entQ (r2.set k DR) k j=(r2.getD k []).getD j default:=(Y1m (by omega) j).trans pR.2.1
       have t1:=hV.tA hk
       have t2:=hV.lA hk
       have n1:=hV.nA hk hlt
       have n2:=hV.mA hk hlt
       have v1:=hV.symm.tA hk
       have v2:=hV.symm.lA hk
       have m1:=hV.symm.nA hk hlt
       have m2:=hV.symm.mA hk hlt
       rw [eA] at n1
       rw [eR] at m1
       have hxr:=(q1.row hk).2 _ (Q0s (a2.getD k []) j default (by omega))
       have hyr:=(q2.row hk).2 _ (Q0s (r2.getD k []) j default (by omega))
       simp -dsimp only [go_sem]
       refine Q0k Z0f 255 (.step 0 [] (.step 1 [] (.step 2 [] (.step 3 [] (.step 4 [] (.step 5 [] (.step 6 [] (.step 7 [] (.step 8 [] (.alt (.step 9 [] (.step 10 [] (.step 11 [] (.step 12 [] (.step 13 [3,6,7] (.step 14 [] (.step 15 [] (.done)))))))) (.step 13 [3,6,7] (.step 9 [] (.step 10 [] (.step 11 [] (.step 12 [] (.step 14 [] (.step 15 [] (.done)))))))))))))))))) (by decide+kernel) (by simp) ?_
       simp -dsimp only [go_sem,t1,n1]
       refine⟨⟨by omega,hk⟩,t2,⟨by omega,hlt⟩,n2,?_⟩
       have qA:W0y ((a2.getD k []).getD j default) d p false=divN ((a2.getD k []).getD j default) d p false:=k1t hd0
       have qR:W0y ((r2.getD k []).getD j default) d p false=divN ((r2.getD k []).getD j default) d p false:=k1t hd0
       have p1:=(hV.stepA hk hlt (divN ((a2.getD k []).getD j default) d p false).1)
       have p2:=(p1.1.stepR hk hlt (divN ((r2.getD k []).getD j default) d p false).1)
       have m3:=p1.1.symm.mA hk hlt
       rw [pA.2.2] at p2
       rw [pR.2.2] at p2
       have cA:=q0s ((a2.getD k []).getD j default) d p false (st'++V) hxr hdr hp
       have cR:=q0s ((r2.getD k []).getD j default) d p false (st'++V) hyr hdr hp
       rw [qA] at cA
       rw [qR] at cR
       refine And.intro ?_ ?_
       all_goals
        first | refine cA.mono ?_ | (refine⟨⟨t2,n2⟩,?_⟩;refine cA.mono ?_)
        rintro res st1 ⟨rfl,rfl⟩
        simp -dsimp only [go_sem,t1,n1]
        try refine⟨⟨t2,n2⟩,?_⟩
        refine Q0k Z0f 255 (.step 0 [] (.step 1 [] (.step 2 [] (.step 3 [] (.step 4 [] (.step 5 [] (.step 6 [] (.step 7 [] (.step 8 [] (.alt (.step 9 [] (.step 10 [] (.step 11 [] (.step 12 [] (.step 13 [3,6,7] (.step 14 [] (.step 15 [] (.done)))))))) (.step 13 [3,6,7] (.step 9 [] (.step 10 [] (.step 11 [] (.step 12 [] (.step 14 [] (.step 15 [] (.done)))))))))))))))))) (by decide+kernel) (by simp) ?_
        simp -dsimp only [go_sem,v1,m1]
        refine⟨⟨by omega,hk⟩,v2,⟨by omega,hlt⟩,m2,?_⟩
        refine And.intro ?_ ?_
        all_goals
         first | refine cR.mono ?_ | (refine⟨⟨v2,m2⟩,?_⟩;refine cR.mono ?_)
         rintro res st1 ⟨rfl,rfl⟩
         by_cases fA:(divN ((a2.getD k []).getD j default) d p false).2=0
         · have g1:((divN ((a2.getD k []).getD j default) d p false).2 !=0)=false:=by simpa using fA
           by_cases fR:(divN ((r2.getD k []).getD j default) d p false).2=0
           · have g2:((divN ((r2.getD k []).getD j default) d p false).2 !=0)=false:=by simpa using fR
             simp -dsimp only [go_sem,v1,m1,g1,g2]
             try refine⟨⟨v2,m2⟩,?_⟩
             refine Q0k Z0f 255 (.step 0 [] (.step 1 [] (.step 2 [] (.step 3 [] (.step 4 [] (.step 5 [] (.step 6 [] (.step 7 [] (.step 8 [] (.step 9 [] (.step 10 [] (.step 11 [] (.step 12 [] (.step 13 [11] (.step 14 [] (.step 15 [] (.done))))))))))))))))) (by decide+kernel) (by simp) ?_
             simp -dsimp only [go_sem,t1,v1,x4]
             refine⟨⟨by omega,hk⟩,t2,⟨by omega,hk⟩,v2,⟨by omega,hlt⟩,⟨n2,by omega⟩,⟨by omega,hlt⟩,⟨m3,Nat.lt_of_lt_of_le (show 0<j*3+3 by omega) m3⟩,?_⟩
             refine Exists.elim (p1.2.trans p2.2).app fun V2 hV2=> ?_
             have p3:=p2.1
             rw [hV2] at p3
             refine⟨a.length-(j+1),by omega,j+1,V2,d,a2,r2,ja2,jb2,_,_,rfl,rfl,⟨q1,q2,hdr,hd0,hdk,hcol0⟩,rfl,by omega,p3,fun i hi=> ?_,by rw [←hV2];rfl⟩
             by_cases e:i=j
             · subst e;exact⟨fA,fR⟩
             · exact hok i (by omega)
           · have g2:((divN ((r2.getD k []).getD j default) d p false).2 !=0)=true:=by simpa using fR
             simp -dsimp only [go_sem,v1,m1,g1,g2]
             try refine⟨⟨v2,m2⟩,?_⟩
             exact hbad V 2 (bad2 (.inr fR))
         · have g1:((divN ((a2.getD k []).getD j default) d p false).2 !=0)=true:=by simpa using fA
           simp -dsimp only [go_sem,v1,m1,g1]
           try refine⟨⟨v2,m2⟩,?_⟩
           exact hbad V 2 (bad2 (.inl fA))
     · have hge:j=a.length:=by have:=of_decide_eq_false h5;omega
       subst hge
       simp -dsimp only [go_sem]
       have hAA:DA=divL d p (a2.getD k []):=by rw [hDA,List.take_of_length_le (by rw [H0w];omega),List.drop_of_length_le (by omega),List.append_nil]
       have hRR:DR=divL d p (r2.getD k []):=by rw [hDR,List.take_of_length_le (by rw [H0w];omega),List.drop_of_length_le (by omega),List.append_nil]
       have hf:G0l p k ⟨a2,r2,0⟩=⟨a2.set k DA,r2.set k DR,0⟩:=by
        rw [hdiv0,if_pos (by rw [q1d fun j hj=>(hok j (by omega)).1,q1d fun j hj=>(hok j (by omega)).2];rfl),←hAA,←hRR]
       rw [hf,if_pos rfl] at hcol0
       have hM3:sqR a.length (a2.set k DA)∧sqR a.length (r2.set k DR):=by
        rw [hAA,hRR];exact⟨q1.set (G0d _ _ _ hda),q2.set (G0d _ _ _ hdr2)⟩
       clear hf hdiv0 hok hDA hDR hAA hRR
       refine Q0l (Q0a ?_)
       simp -dsimp only [go_sem]
       refine J0u ?_
       refine Q0e [false,true,false,false,false,false,true,true,true,true,false,false,false,false,false,false,false,false,true] 0 0
        (fun m s=> ∃(i:Nat) (V:Q0f) (x y:List (List Nm)) (w:GJ) (ja2 jb2:List Nat),(sqR a.length x∧sqR a.length y)∧Y=J0v p k ⟨x,y,0⟩ a.length∧w=J0v p k ⟨x,y,0⟩ i∧w.e=0∧m=a.length-i∧i≤a.length∧PairO st'.length a.length (st'++V) A ja2 B jb2 w.a w.r∧
         s=⟨[.junk,.sc (.int .i64 p),.junk,.junk,.junk,.junk,.ms true A 0 a.length,.ms true B 0 a.length,.sc (.int .i64 a.length),.sc (.int .i64 (k:Nat)),.junk,.junk,.junk,.junk,.junk,.junk,.junk,.junk,.sc (.int .i64 (i:Nat))]++List.replicate 236 .junk,[],[],st'++V⟩) a.length ?_ ?_
       · simp -dsimp only [go_sem]
         exact⟨0,V,_,_,_,_,_,hM3,hcol0,rfl,rfl,by omega,by omega,hV,rfl⟩
       clear hM3 hcol0 hV q1 q2 hdr hd0 hla2 hlr2 hda hdr2 hdk
       rintro m s ⟨i,V,x,y,w,ja2,jb2,⟨qx,qy⟩,hcol0,hw,he0,rfl,hi,hV,rfl⟩
       simp -dsimp only [go_sem]
       refine ck (fun h6=> ?_) (fun h6=> ?_)
       · have hlt:i<a.length:=by have:=of_decide_eq_true h6;omega
         have x5:=X0y i (by omega)
         have sqg:=v0o (p:=p) (k:=k) (x:=⟨x,y,0⟩) ⟨qx,qy⟩ hk i (by omega)
         rw [←hw] at sqg
         have hnext2:J0v p k ⟨x,y,0⟩ (i+1)=X1x p k i w:=by rw [J0v,←hw,if_pos he0]
         have hend:(X1x p k i w).e≠0→Y=X1x p k i w:=fun hne=>by
          rw [←hnext2] at hne⊢
          have:=j0l hne (a.length-(i+1))
          rw [show i+1+(a.length-(i+1))=a.length by omega] at this
          rw [hcol0,this]
         have hgr0:X1x p k i w=if i=k∨(entQ w.a i k).w= [] then w else if (q0e (entQ w.a i k) p (w.a.getD i []) (w.a.getD k [])&&q0e (entQ w.a i k) p (w.r.getD i []) (w.r.getD k []))=true then⟨w.a.set i (U0g (entQ w.a i k) p (w.a.getD i []) (w.a.getD k [])),w.r.set i (U0g (entQ w.a i k) p (w.r.getD i []) (w.r.getD k [])),0⟩ else⟨w.a,w.r,2⟩:=rfl
         have hla:=(sqg.1.row hlt).1
         have hlb:=(sqg.2.row hlt).1
         have t1:=hV.tA hlt
         have t2:=hV.lA hlt
         have n1:=hV.nA hlt hk
         have n2:=hV.mA hlt hk
         have hmr:=sqg.1.ent hlt hk
         have hmw:=Q0u hmr
         simp -dsimp only [go_sem,t1,n1]
         refine⟨⟨by omega,hlt⟩,t2,⟨by omega,hk⟩,n2,?_⟩
         by_cases hik:i=k
         · have g1:(((i:Nat):Int)==((k:Nat):Int))=true:=by rw [hik];exact beq_self_eq_true _
           rw [if_pos (.inl hik)] at hgr0
           simp -dsimp only [go_sem,g1,x5]
           refine Q0a ?_
           simp -dsimp only [go_sem,x5]
           exact⟨a.length-(i+1),by omega,i+1,V,x,y,w,ja2,jb2,⟨qx,qy⟩,hcol0,by rw [hnext2,hgr0],he0,rfl,by omega,hV,rfl⟩
         · have g1:(((i:Nat):Int)==((k:Nat):Int))=false:=beq_eq_false_iff_ne.2 fun e=>hik (by omega)
           by_cases hm0:(entQ w.a i k).w= []
           · have g2:((((entQ w.a i k).w.length:Nat):Int)==0)=true:=by rw [hm0];rfl
             rw [if_pos (.inr hm0)] at hgr0
             simp -dsimp only [go_sem,g1,g2,x5]
             refine Q0a ?_
             simp -dsimp only [go_sem,x5]
             exact⟨a.length-(i+1),by omega,i+1,V,x,y,w,ja2,jb2,⟨qx,qy⟩,hcol0,by rw [hnext2,hgr0],he0,rfl,by omega,hV,rfl⟩
           · have g2:((((entQ w.a i k).w.length:Nat):Int)==0)=false:=beq_eq_false_iff_ne.2 fun e=>hm0 (List.eq_nil_of_length_eq_zero (by omega))
             rw [if_neg (fun h=>h.elim hik hm0)] at hgr0
             simp -dsimp only [go_sem,g1,g2]
             refine Q0e [false,true,false,false,false,false,true,true,true,true,false,false,false,false,false,false,false,false,true,true,true] 1 0
              (fun m s=> ∃(j:Nat) (V:Q0f) (LA LR:List Nm),LA=(U0g (entQ w.a i k) p (w.a.getD i []) (w.a.getD k [])).take j++(w.a.getD i []).drop j∧LR=(U0g (entQ w.a i k) p (w.r.getD i []) (w.r.getD k [])).take j++(w.r.getD i []).drop j∧m=a.length-j∧j≤a.length∧PairO st'.length a.length (st'++V) A ja2 B jb2 (w.a.set i LA) (w.r.set i LR)∧
               (∀q,q<j→(Y0e ((w.a.getD i []).getD q default) (entQ w.a i k) ((w.a.getD k []).getD q default) p).2=0∧(Y0e ((w.r.getD i []).getD q default) (entQ w.a i k) ((w.r.getD k []).getD q default) p).2=0)∧
               s=⟨[.junk,.sc (.int .i64 p),.junk,.junk,.junk,.junk,.ms true A 0 a.length,.ms true B 0 a.length,.sc (.int .i64 a.length),.sc (.int .i64 (k:Nat)),.junk,.junk,.junk,.junk,.junk,.junk,.junk,.junk,.sc (.int .i64 (i:Nat)),.lp 0 0,.sc (.int .i64 (j:Nat))]++List.replicate 234 .junk,[encN (entQ w.a i k)],[],st'++V⟩) a.length ?_ ?_
             · simp -dsimp only [go_sem]
               refine⟨0,V,_,_,rfl,rfl,by omega,by omega,?_,fun i hi=>by omega,rfl⟩
               rw [List.take_zero,List.nil_append,List.drop_zero,List.take_zero,List.nil_append,List.drop_zero,W1j (by rw [sqg.1.1];omega),W1j (by rw [sqg.2.1];omega)]
               exact hV
             clear hV t1 t2 n1 n2
             rintro m s ⟨j,V,LA,LR,hLA,hLR,rfl,hj,hV,hok,rfl⟩
             simp -dsimp only [go_sem]
             refine ck (fun h7=> ?_) (fun h7=> ?_)
             · have hjn:j<a.length:=by have:=of_decide_eq_true h7;omega
               have x6:=X0y j (by omega)
               have sla:=sqg.1.1
               have slr:=sqg.2.1
               have pA:=j0d default (U0g (entQ w.a i k) p (w.a.getD i []) (w.a.getD k [])) (w.a.getD i []) (V0x _ _ _ _) (show j<(w.a.getD i []).length by omega)
               have pR:=j0d default (U0g (entQ w.a i k) p (w.r.getD i []) (w.r.getD k [])) (w.r.getD i []) (V0x _ _ _ _) (show j<(w.r.getD i []).length by omega)
               rw [X1j _ _ _ _ (by omega),←hLA] at pA
               rw [X1j _ _ _ _ (by omega),←hLR] at pR
               have bad2:((Y0e ((w.a.getD i []).getD j default) (entQ w.a i k) ((w.a.getD k []).getD j default) p).2≠0∨(Y0e ((w.r.getD i []).getD j default) (entQ w.a i k) ((w.r.getD k []).getD j default) p).2≠0)→Q0q a p=([],2):=fun hne=>by
                refine hstop 2 (by decide) ?_
                have hf:X1x p k i w=⟨w.a,w.r,2⟩:=by
                 rw [hgr0,if_neg]
                 rcases hne with h | h
                 · rw [x0d (show j<(w.a.getD i []).length by omega) h];simp
                 · rw [x0d (show j<(w.r.getD i []).length by omega) h];simp
                rw [hend (by rw [hf];exact(show¬(2:Int)=0 by decide)),hf]
               have hki:k≠i:=fun e=>hik e.symm
               have eA:entQ (w.a.set i LA) i j=(w.a.getD i []).getD j default:=(Y1m (by omega) j).trans pA.2.1
               have eR:entQ (w.r.set i LR) i j=(w.r.getD i []).getD j default:=(Y1m (by omega) j).trans pR.2.1
               have eA2:entQ (w.a.set i LA) k j=(w.a.getD k []).getD j default:=v1y (by omega) hki j
               have eR2:entQ (w.r.set i LR) k j=(w.r.getD k []).getD j default:=v1y (by omega) hki j
               have t1:=hV.tA hlt
               have t2:=hV.lA hlt
               have t3:=hV.tA hk
               have t4:=hV.lA hk
               have n1:=hV.nA hlt hjn
               have n2:=hV.mA hlt hjn
               have n3:=hV.nA hk hjn
               have n4:=hV.mA hk hjn
               have v1:=hV.symm.tA hlt
               have v2:=hV.symm.lA hlt
               have v3:=hV.symm.tA hk
               have v4:=hV.symm.lA hk
               have m1:=hV.symm.nA hlt hjn
               have m2:=hV.symm.mA hlt hjn
               have m3:=hV.symm.nA hk hjn
               have m4:=hV.symm.mA hk hjn
               rw [eA] at n1
               rw [eA2] at n3
               rw [eR] at m1
               rw [eR2] at m3
               have wa1:=Q0u (sqg.1.ent hlt hjn)
               have wa2:=Q0u (sqg.1.ent hk hjn)
               have wr1:=Q0u (sqg.2.ent hlt hjn)
               have wr2:=Q0u (sqg.2.ent hk hjn)
               have cA:=G1l ((w.a.getD i []).getD j default) (entQ w.a i k) ((w.a.getD k []).getD j default) p (st'++V) wa1 hmw wa2
               have cR:=G1l ((w.r.getD i []).getD j default) (entQ w.a i k) ((w.r.getD k []).getD j default) p (st'++V) wr1 hmw wr2
               have p1:=(hV.stepA hlt hjn (Y0e ((w.a.getD i []).getD j default) (entQ w.a i k) ((w.a.getD k []).getD j default) p).1)
               have p2:=(p1.1.stepR hlt hjn (Y0e ((w.r.getD i []).getD j default) (entQ w.a i k) ((w.r.getD k []).getD j default) p).1)
               have m5:=p1.1.symm.mA hlt hjn
               rw [pA.2.2] at p2
               rw [pR.2.2] at p2
               simp -dsimp only [go_sem]
               refine Q0k Z0f 255 (.step 0 [] (.step 1 [] (.step 2 [] (.step 3 [] (.step 4 [] (.step 5 [] (.step 6 [] (.step 7 [] (.step 8 [] (.step 9 [] (.step 10 [] (.step 11 [] (.step 12 [] (.step 13 [] (.step 14 [] (.step 15 [] (.alt (.step 16 [] (.step 17 [] (.step 18 [] (.step 19 [] (.step 20 [3,6,7,11,14] (.step 21 [] (.step 22 [] (.done)))))))) (.step 20 [3,6,7,11,14] (.step 16 [] (.step 17 [] (.step 18 [] (.step 19 [] (.step 21 [] (.step 22 [] (.done))))))))))))))))))))))))) (by decide+kernel) (by simp) ?_
               simp -dsimp only [go_sem,t1,n1,t3,n3]
               refine⟨⟨by omega,hlt⟩,t2,⟨by omega,hjn⟩,n2,⟨by omega,hk⟩,t4,⟨by omega,hjn⟩,n4,?_⟩
               refine And.intro ?_ ?_
               all_goals
                first | refine cA.mono ?_ | (refine⟨⟨t2,n2,t4,n4⟩,?_⟩;refine cA.mono ?_)
                rintro res st1 ⟨rfl,rfl⟩
                simp -dsimp only [go_sem,t1,n1,t3,n3]
                try refine⟨⟨t2,n2,t4,n4⟩,?_⟩
                refine Q0k Z0f 255 (.step 0 [] (.step 1 [] (.step 2 [] (.step 3 [] (.step 4 [] (.step 5 [] (.step 6 [] (.step 7 [] (.step 8 [] (.step 9 [] (.step 10 [] (.step 11 [] (.step 12 [] (.step 13 [] (.step 14 [] (.step 15 [] (.alt (.step 16 [] (.step 17 [] (.step 18 [] (.step 19 [] (.step 20 [3,6,7,11,14] (.step 21 [] (.step 22 [] (.done)))))))) (.step 20 [3,6,7,11,14] (.step 16 [] (.step 17 [] (.step 18 [] (.step 19 [] (.step 21 [] (.step 22 [] (.done))))))))))))))))))))))))) (by decide+kernel) (by simp) ?_
                simp -dsimp only [go_sem,v1,m1,v3,m3]
                refine⟨⟨by omega,hlt⟩,v2,⟨by omega,hjn⟩,m2,⟨by omega,hk⟩,v4,⟨by omega,hjn⟩,m4,?_⟩
                refine And.intro ?_ ?_
                all_goals
                 first | refine cR.mono ?_ | (refine⟨⟨v2,m2,v4,m4⟩,?_⟩;refine cR.mono ?_)
                 rintro res st1 ⟨rfl,rfl⟩
                 by_cases fA:(Y0e ((w.a.getD i []).getD j default) (entQ w.a i k) ((w.a.getD k []).getD j default) p).2=0
                 · have g1:((Y0e ((w.a.getD i []).getD j default) (entQ w.a i k) ((w.a.getD k []).getD j default) p).2 !=0)=false:=by simpa using fA
                   by_cases fR:(Y0e ((w.r.getD i []).getD j default) (entQ w.a i k) ((w.r.getD k []).getD j default) p).2=0
                   · have g2:((Y0e ((w.r.getD i []).getD j default) (entQ w.a i k) ((w.r.getD k []).getD j default) p).2 !=0)=false:=by simpa using fR
                     simp -dsimp only [go_sem,v1,m1,v3,m3,g1,g2]
                     try refine⟨⟨v2,m2,v4,m4⟩,?_⟩
                     refine Q0k Z0f 255 (.step 0 [] (.step 1 [] (.step 2 [] (.step 3 [] (.step 4 [] (.step 5 [] (.step 6 [] (.step 7 [] (.step 8 [] (.step 9 [] (.step 10 [] (.step 11 [] (.step 12 [] (.step 13 [11] (.step 14 [] (.step 15 [] (.done))))))))))))))))) (by decide+kernel) (by simp) ?_
                     simp -dsimp only [go_sem,t1,v1,x6]
                     refine⟨⟨by omega,hlt⟩,t2,⟨by omega,hlt⟩,v2,⟨by omega,hjn⟩,⟨n2,by omega⟩,⟨by omega,hjn⟩,⟨m5,Nat.lt_of_lt_of_le (show 0<j*3+3 by omega) m5⟩,?_⟩
                     refine Exists.elim (p1.2.trans p2.2).app fun V2 hV2=> ?_
                     have p3:=p2.1
                     rw [hV2] at p3
                     refine⟨a.length-(j+1),by omega,j+1,V2,_,_,rfl,rfl,rfl,by omega,p3,fun q hq=> ?_,by rw [←hV2];rfl⟩
                     by_cases e:q=j
                     · subst e;exact⟨fA,fR⟩
                     · exact hok q (by omega)
                   · have g2:((Y0e ((w.r.getD i []).getD j default) (entQ w.a i k) ((w.r.getD k []).getD j default) p).2 !=0)=true:=by simpa using fR
                     simp -dsimp only [go_sem,v1,m1,v3,m3,g1,g2]
                     try refine⟨⟨v2,m2,v4,m4⟩,?_⟩
                     exact hbad V 2 (bad2 (.inr fR))
                 · have g1:((Y0e ((w.a.getD i []).getD j default) (entQ w.a i k) ((w.a.getD k []).getD j default) p).2 !=0)=true:=by simpa using fA
                   simp -dsimp only [go_sem,v1,m1,v3,m3,g1]
                   try refine⟨⟨v2,m2,v4,m4⟩,?_⟩
                   exact hbad V 2 (bad2 (.inl fA))
             · have hge:j=a.length:=by have:=of_decide_eq_false h7;omega
               subst hge
               have hAA:LA=U0g (entQ w.a i k) p (w.a.getD i []) (w.a.getD k []):=by rw [hLA,List.take_of_length_le (by rw [V0x];omega),List.drop_of_length_le (by omega),List.append_nil]
               have hRR:LR=U0g (entQ w.a i k) p (w.r.getD i []) (w.r.getD k []):=by rw [hLR,List.take_of_length_le (by rw [V0x];omega),List.drop_of_length_le (by omega),List.append_nil]
               have hf:X1x p k i w=⟨w.a.set i LA,w.r.set i LR,0⟩:=by
                rw [hgr0,if_pos (by rw [y0b fun q hq=>(hok q (by omega)).1,y0b fun q hq=>(hok q (by omega)).2];rfl),←hAA,←hRR]
               refine Q0a ?_
               simp -dsimp only [go_sem,x5]
               exact⟨a.length-(i+1),by omega,i+1,V,x,y,⟨w.a.set i LA,w.r.set i LR,0⟩,ja2,jb2,⟨qx,qy⟩,hcol0,by rw [hnext2,hf],rfl,rfl,by omega,hV,rfl⟩
       · have hge:i=a.length:=by have:=of_decide_eq_false h6;omega
         subst hge
         rw [←hw] at hcol0
         refine Q0a ?_
         simp -dsimp only [go_sem,x2]
         exact⟨a.length-(k+1),by omega,k+1,ja2,jb2,V,rfl,by omega,by rw [hY,hcol0];exact he0,by rw [hY,hcol0];exact hV,rfl⟩
end Go.Pv
end
