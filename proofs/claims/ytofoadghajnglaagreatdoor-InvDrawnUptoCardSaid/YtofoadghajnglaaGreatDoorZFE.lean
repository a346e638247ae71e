/- Parts of the walk: N142, N143, N144, N145. -/
import Derived.Test.YtofoadghajnglaaGreatDoorZFD
import Derived.Test.YtofoadghajnglaaGreatDoorZAQ
import Derived.Test.YtofoadghajnglaaGreatDoorZAR
set_option linter.unusedVariables false
set_option linter.unusedSimpArgs false
section
/-inv.copied,inv.ones:matrices that lie in the store. -/
set_option maxRecDepth 100000
namespace Go.Pv
open Go.Proofs
theorem z1q (x:List Nm):(Z0b x).all (fun x=>(x.cells.length==3)&&x.cells.all PV.cellOK)=true:=by
 simp only [Z0b,List.all_eq_true,List.mem_map]
 rintro _ ⟨c,_,rfl⟩
 rfl
theorem k0c {α:Type} (d:α) (l:List α) {i:Nat} (h:i<l.length):l.take (i+1)=l.take i++ [l.getD i d]:=by
 rw [List.take_add_one,List.getElem?_eq_getElem h,List.getD_eq_getElem?_getD,List.getElem?_eq_getElem h];rfl
theorem W0w (a:List (List Nm)) {i:Nat} (h:i<a.length):(a.take (i+1)).map rowC=(a.take i).map rowC++ [rowC (a.getD i [])]:=by
 rw [k0c [] a h,List.map_append];rfl
theorem v0b {x:List Nm} (h0:0<x.length) (h4:x.length≤4):GrowOK [] 0 0 (Z0b x) { id:=33,sz:=3,by_:=40,agg:=true,zok:=true,u8:=false } :=
 ⟨rfl,by decide,rfl,by rw [X0w];omega,by rw [X0w];show(0+x.length)*40≤_;omega,z1q x,by rw [X0w];exact h0⟩
theorem v0c (st:Q0f) (x:List Nm) (R:List PV):RowAt (st++ [flat (Z0b x)++R]) st.length (rowC x):=by
 refine⟨by simp,R,?_⟩
 rw [Q0o _ _ _ _ (Nat.le_refl _),Nat.sub_self];rfl
theorem U0y {P:Program} {f:FuncId} {args:List PV} {st:Q0f} {a:List (List Nm)} (h0:0<a.length) (hr: ∀r∈a,r.length=a.length)
 (h:PCalls P f args st fun r st'=> ∃ids cs X,st'=st++X∧Built st' st.length a.length a.length r ids cs (a.map rowC)):
 PCalls P f args st (fun r st'=> ∃A ids X,r= .ms true A 0 a.length∧st'=st++X∧QO st' A ids a∧st.length≤A∧ ∀i∈ids,st.length≤i):=by
 refine PCalls.unGr h ?_
 rintro r st' ⟨ids,cs,X,rfl,hB⟩
 obtain⟨A,cap,R,rfl,hA,hAl,hAc,hM,hU⟩:=hB.done h0
 refine⟨.ms true A 0 a.length,_,by rw [List.length_set],rfl,rfl,.gr _ _ _,hU,A,ids,X.set (A-st.length) ((ids.map fun i=>PV.ms true i 0 a.length)++R),rfl,?_,⟨hr,hM⟩,hA,hB.ge⟩
 rw [List.set_append_right _ _ hA]
set_option maxHeartbeats 1000000 in
theorem x1s (a:List (List Nm)) (st:Q0f) (h0:0<a.length) (h4:a.length≤4) (hr: ∀r∈a,r.length=a.length):
 PCalls Tryz.prog 90 [.sl .no (encQ a)] st (fun r st'=> ∃A ids X,r= .ms true A 0 a.length∧st'=st++X∧QO st' A ids a∧st.length≤A∧ ∀i∈ids,st.length≤i):=by
 refine U0y h0 hr ?_
 refine Q0b none Tryz.func90 rfl fun E=>Q0l (Q0a ?_)
 simp -dsimp only [go_sem]
 refine Q0l (Q0a ?_)
 simp -dsimp only [go_sem]
 refine Q0l (Q0a ?_)
 simp -dsimp only [go_sem]
 refine X0h [false,false,false,true,false,false,true,true,true] 0 0
  (fun m s=> ∃i out ids cs X,m=a.length-i∧i≤a.length∧Built (st++X) st.length a.length i out ids cs ((a.take i).map rowC)∧
   s=⟨[.junk,.junk,.junk,out,.junk,.junk,.sl .no (encQ a),.sc (.int .i64 a.length),.sc (.int .i64 (i:Nat))]++List.replicate 10 .junk,[],[],st++X⟩) a.length ?_ ?_
 · simp -dsimp only [go_sem]
   refine⟨0,.sl .full [],[],[],[],by omega,by omega,?_,by simp⟩
   rw [List.append_nil]
   exact Built.zero st _
 rintro m s ⟨i,out,ids,cs,X,rfl,hi,hB,rfl⟩
 refine Q0l (Q0a ?_)
 simp -dsimp only [go_sem]
 refine Q0l (Q0a ?_)
 simp -dsimp only [go_sem]
 refine ck (fun h=> ?_) (fun h=> ?_)
 · have hlt:i<a.length:=by have:=of_decide_eq_true h;omega
   have e1:=V0f a i hlt
   have e3:=X0y i (by omega)
   have hri:=hr _ (Q0s a i [] hlt)
   simp -dsimp only [go_sem]
   refine Q0l (J0u ?_)
   refine Q0l (Q0a ?_)
   simp -dsimp only [go_sem,e1]
   refine⟨by omega,?_⟩
   refine W0s [false,false,true,false,true] ?_
   rcases hB.out with ⟨rfl,rfl⟩ | ⟨hi0,A,cap,R,rfl,_⟩
   · simp -dsimp only [go_sem]
     refine⟨v0b (by omega) (by omega),fun cap' R hc' hR=>⟨GrowOK.mk_one rfl (by decide) rfl (by omega) (by omega) rfl rfl,fun cap2 R2 hc2 hR2=> ?_⟩⟩
     refine Q0a ?_
     simp -dsimp only [go_sem]
     have hY:RowAt (st++X++ [flat (Z0b (a.getD 0 []))++R]) (st.length+X.length) (rowC (a.getD 0 [])):=by have:=v0c (st++X) (a.getD 0 []) R;rwa [List.length_append] at this
     have hB2:=Built.first hB (Y:=st++X++ [flat (Z0b (a.getD 0 []))++R]) (c:= .gr (st.length+X.length) (a.getD 0 []).length cap') (by simp) (by rw [hri];exact .gr _ _ _) hY (by simp) hc2 (by rw [hR2];omega)
     obtain⟨X2,hX2⟩: ∃X2,st++X++ [flat (Z0b (a.getD 0 []))++R]++ [flat [PV.gr (st.length+X.length) (a.getD 0 []).length cap']++R2]=st++X2:=⟨_,by rw [List.append_assoc,List.append_assoc]⟩
     rw [hX2] at hB2⊢
     rw [←W0w a hlt] at hB2
     refine⟨a.length-(0+1),by omega,0+1,_,_,_,X2,rfl,by omega,hB2,?_⟩
     · rw [e3,show(st++X++ [flat (Z0b (a.getD 0 []))++R]).length=st.length+X.length+1 by simp;omega]
   · simp -dsimp only [go_sem]
     obtain⟨b1,b2,b3⟩:=hB.at hi0
     refine⟨v0b (by omega) (by omega),fun cap' R hc' hR=> ?_⟩
     have gA:(st++X++ [flat (Z0b (a.getD i []))++R]).getD A []=(st++X).getD A []:=Q0i _ _ _ _ b2
     refine⟨GrowOK.mk_one rfl (by decide) (by rw [gA,b3];omega) (by omega) (by omega) rfl rfl,fun A' cap2 st' hG=> ?_⟩
     refine Q0a ?_
     simp -dsimp only [go_sem]
     have hY:RowAt (st++X++ [flat (Z0b (a.getD i []))++R]) (st.length+X.length) (rowC (a.getD i [])):=by have:=v0c (st++X) (a.getD i []) R;rwa [List.length_append] at this
     have hB2:=Built.grow hB hi0 (Y:=st++X++ [flat (Z0b (a.getD i []))++R]) (c:= .gr (st.length+X.length) (a.getD i []).length cap') (by simp) (fun x hx=>Q0i _ _ _ _ hx) (by rw [hri];exact .gr _ _ _) hY (by simp) hG
     obtain⟨X2,rfl⟩: ∃X2,st'=st++X2:=by
      rw [List.append_assoc] at hG
      exact hG.app b1
     rw [←W0w a hlt] at hB2
     refine⟨a.length-(i+1),by omega,i+1,_,_,_,X2,rfl,by omega,hB2,?_⟩
     · rw [e3]
 · have hge:i=a.length:=by have:=of_decide_eq_false h;omega
   subst hge
   simp -dsimp only [go_sem]
   refine Q0a ?_
   rcases hB.out with ⟨hz,rfl⟩ | ⟨hi0,A,cap,R,rfl,_⟩
   · omega
   simp -dsimp only [go_sem]
   rw [List.take_length] at hB
   exact⟨ids,cs,X,rfl,hB⟩
end Go.Pv
end
section
/-inv:greatest,divide,less. -/
set_option maxRecDepth 100000
namespace Go.Pv
open Go.Proofs
theorem QO.top {st:Q0f} {A:Nat} {ids:List Nat} {a:List (List Nm)} (h:QO st A ids a) {i:Nat} (hi:i<a.length):(st.getD A []).getD i .junk= .ms true (ids.getD i 0) 0 a.length∧i+1≤(st.getD A []).length:=by
 obtain⟨R,hR⟩:=h.2.top.2
 have hii:i<ids.length:=by rw [h.2.lid];exact hi
 rw [hR]
 refine⟨?_,by rw [List.length_append,List.length_map];omega⟩
 rw [Q0i _ _ _ _ (by rw [List.length_map];exact hii),List.getD_eq_getElem?_getD,List.getElem?_map,List.getD_eq_getElem?_getD,List.getElem?_eq_getElem hii];rfl
theorem QO.rowAt {st:Q0f} {A:Nat} {ids:List Nat} {a:List (List Nm)} (h:QO st A ids a) {i:Nat} (hi:i<a.length):RowAt st (ids.getD i 0) (rowC (a.getD i []))∧(a.getD i []).length=a.length:=by
 have h1:=h.2.row i hi
 have e:(a.map rowC).getD i []=rowC (a.getD i []):=by
  rw [List.getD_eq_getElem?_getD,List.getElem?_map,List.getD_eq_getElem?_getD,List.getElem?_eq_getElem hi];rfl
 rw [e] at h1
 exact⟨h1,h.1 _ (Q0s _ _ _ hi)⟩
theorem RowAt.num {st:Q0f} {k:Nat} {x:List Nm} (h:RowAt st k (rowC x)) {j:Nat} (hj:j<x.length):((st.getD k []).drop (j*3)).take 3=encN (x.getD j default)∧j*3+3≤(st.getD k []).length∧(st.getD k []).getD (j*3+2) .junk= .sl .no (encW (x.getD j default).w):=by
 obtain⟨R,hR⟩:=h.2
 rw [hR]
 refine⟨G0t x j R hj,?_,K3s x j R hj⟩
 rw [List.length_append,J0n];omega
theorem QO.num {st:Q0f} {A:Nat} {ids:List Nat} {a:List (List Nm)} (h:QO st A ids a) {i j:Nat} (hi:i<a.length) (hj:j<a.length):((st.getD (ids.getD i 0) []).drop (j*3)).take 3=encN (entQ a i j)∧j*3+3≤(st.getD (ids.getD i 0) []).length∧(st.getD (ids.getD i 0) []).getD (j*3+2) .junk= .sl .no (encW (entQ a i j).w):=by
 obtain⟨h1,h2⟩:=h.rowAt hi
 exact h1.num (by rw [h2];exact hj)
set_option maxHeartbeats 1000000 in
theorem Y1g (a:List (List Nm)) (A B:Nat) (ids:List Nat) (p:Int) (k:Nat) (st:Q0f) (h:QO st A ids a) (hk:k<a.length) (h4:a.length≤4) (hw: ∀i j,i<a.length→j<a.length→Q0j (entQ a i j)=true):
 PCalls Tryz.prog 151 [.agg [.ms true A 0 a.length,.ms true B 0 a.length,.sc (.int .i64 p)],.sc (.int .i64 (k:Nat))] st (fun r st'=>r= .sc (.int .i64 (pivN a k (a.length-(k+1)):Nat))∧st'=st):=by
 have x1:=X0y k (by omega)
 refine Q0b none Tryz.func151 rfl fun E=>Q0a ?_
 simp -dsimp only [go_sem,x1]
 refine Q0e [false,true,true,false,false,true,true] 1 0
  (fun m s=> ∃c,m=a.length-(k+1)-c∧c≤a.length-(k+1)∧
   s=⟨[.junk,.sc (.int .i64 (k:Nat)),.lp 0 0,.junk,.junk,.sc (.int .i64 (pivN a k c:Nat)),.sc (.int .i64 (k+1+c:Nat))]++List.replicate 32 .junk,[[.ms true A 0 a.length,.ms true B 0 a.length,.sc (.int .i64 p)]],[],st⟩) (a.length-(k+1)) ?_ ?_
 · simp -dsimp only [go_sem]
   exact⟨0,by omega,by omega,rfl⟩
 rintro m s ⟨c,rfl,hc,rfl⟩
 have hp:=Z1z a k c
 simp -dsimp only [go_sem]
 refine ck (fun h1=> ?_) (fun h1=> ?_)
 · have hlt:k+1+c<a.length:=by have:=of_decide_eq_true h1;omega
   have x2:=X0y (k+1+c) (by omega)
   obtain⟨t1,t2⟩:=h.top hlt
   obtain⟨t3,t4⟩:=h.top (show pivN a k c<a.length by omega)
   obtain⟨n1,n2,_⟩:=h.num hlt hk
   obtain⟨n3,n4,_⟩:=h.num (show pivN a k c<a.length by omega) hk
   have w1:=Q0u (hw _ _ hlt hk)
   have w2:=Q0u (hw _ _ (show pivN a k c<a.length by omega) hk)
   simp -dsimp only [go_sem]
   refine Q0k Z0f 39 (.step 0 [] (.step 1 [] (.step 2 [] (.step 3 [] (.step 4 [] (.step 5 [] (.step 6 [] (.step 7 [] (.step 9 [] (.step 10 [] (.step 11 [] (.step 12 [] (.step 13 [] (.step 14 [] (.step 15 [] (.step 16 [] (.step 8 [1,10,13,16] (.step 17 [1,4,10] (.step 18 [1,4,10,13] (.step 19 [] (.done))))))))))))))))))))) (by decide+kernel) (by simp) ?_
   simp -dsimp only [go_sem,t1,t3,n1,n3]
   refine⟨⟨by omega,hlt⟩,t2,⟨by omega,by omega⟩,n2,⟨by omega,by omega⟩,t4,⟨by omega,by omega⟩,n4,?_⟩
   have r1:=Q0u (Y0w (entQ a (k+1+c) k))
   have r2:=Q0u (Y0w (entQ a (pivN a k c) k))
   unfold wN at r1 r2
   refine(v1i _ _ w1).mono ?_
   rintro r st' ⟨rfl,rfl⟩
   simp -dsimp only [go_sem]
   refine⟨⟨⟨t4,t3.symm⟩,n4,by rw [n3];rfl⟩,?_⟩
   refine(v1i _ _ w2).mono ?_
   rintro r st' ⟨rfl,rfl⟩
   simp -dsimp only [go_sem]
   refine⟨⟨t2,t1.symm⟩,?_⟩
   refine(Y1a _ _ _ (by omega) (by omega)).mono ?_
   rintro r st' ⟨rfl,rfl⟩
   simp -dsimp only [go_sem]
   refine⟨⟨⟨t2,t1.symm⟩,t4,t3.symm⟩,?_⟩
   refine ck (fun h2=> ?_) (fun h2=> ?_)
   · have hle:cmpR (absN (entQ a (k+1+c) k)) (absN (entQ a (pivN a k c) k))≤0:=of_decide_eq_true h2
     have hpv:pivN a k (c+1)=pivN a k c:=by rw [pivN,if_pos hle]
     simp -dsimp only [go_sem,x2]
     refine⟨a.length-(k+1)-(c+1),by omega,c+1,rfl,by omega,?_⟩
     rw [hpv]
     try rfl
   · have hle: ¬cmpR (absN (entQ a (k+1+c) k)) (absN (entQ a (pivN a k c) k))≤0:=of_decide_eq_false h2
     have hpv:pivN a k (c+1)=k+1+c:=by rw [pivN,if_neg hle]
     simp -dsimp only [go_sem,x2]
     refine⟨a.length-(k+1)-(c+1),by omega,c+1,rfl,by omega,?_⟩
     rw [hpv]
     try rfl
 · have hge:c=a.length-(k+1):=by have:=of_decide_eq_false h1;omega
   subst hge
   simp -dsimp only [go_sem]
   refine Q0a ?_
   simp -dsimp only [go_sem]
theorem W2d (d:Nm) (p:Int) (x:List Nm) {j:Nat} (hj:j<x.length):(divL d p (x.take j)++x.drop j).length=x.length∧(divL d p (x.take j)++x.drop j).getD j default=x.getD j default∧
 (divL d p (x.take j)++x.drop j).set j (divN (x.getD j default) d p false).1=divL d p (x.take (j+1))++x.drop (j+1):=by
 have hl:(divL d p (x.take j)).length=j:=by unfold divL;rw [List.length_map,List.length_take];omega
 refine⟨by rw [List.length_append,hl,List.length_drop];omega,?_,?_⟩
 · rw [Q0o _ _ _ _ (by omega),hl,Nat.sub_self,List.getD_eq_getElem?_getD,List.getElem?_drop,Nat.add_zero,←List.getD_eq_getElem?_getD]
 · rw [List.set_append_right _ _ (by omega),hl,Nat.sub_self]
   have e1:x.drop j=x.getD j default::x.drop (j+1):=by
    rw [List.getD_eq_getElem?_getD,List.getElem?_eq_getElem hj];exact List.drop_eq_getElem_cons hj
   rw [e1,List.set_cons_zero,k0c default x hj]
   unfold divL
   rw [List.map_append,List.append_assoc];rfl
theorem Q2z {d:Nm} {p:Int} {x:List Nm} {j:Nat} (hj:j<x.length) (h:H0v d p (x.take j)=true):H0v d p (x.take (j+1))=decide ((divN (x.getD j default) d p false).2=0):=by
 rw [k0c default x hj]
 unfold H0v at h⊢
 rw [List.all_append,h,Bool.true_and]
 simp only [List.all_cons,List.all_nil,Bool.and_true]
 by_cases e:(divN (x.getD j default) d p false).2=0
 · rw [e];rfl
 · rw [decide_eq_false e];simpa using e
theorem J1i {d:Nm} {p:Int} {x:List Nm} {j:Nat} (hj:j<x.length) (h:(divN (x.getD j default) d p false).2≠0):H0v d p x=false:=by
 refine Bool.eq_false_iff.2 fun e=>h ?_
 unfold H0v at e
 rw [List.all_eq_true] at e
 simpa using e _ (Q0s x j default hj)
set_option maxHeartbeats 1000000 in
theorem w1a (x:List Nm) (d:Nm) (A B n k:Nat) (R:List PV) (p:Int) (st:Q0f) (hk:k<st.length) (hg:st.getD k []=rowC x++R) (hx:x.length≤4) (hr: ∀c∈x,Q0j c=true) (hd:Q0j d=true) (hd0:d.w≠ []) (hp:Z0p p=true):
 PCalls Tryz.prog 153 [.agg [.ms true A 0 n,.ms true B 0 n,.sc (.int .i64 p)],.ms true k 0 x.length,.agg (encN d)] st
 (fun r st'=>(H0v d p x=true∧r= .sc (.int .i64 0)∧st'=st.set k (rowC (divL d p x)++R))∨(H0v d p x=false∧r= .sc (.int .i64 2)∧ ∃y,y.length=x.length∧st'=st.set k (rowC y++R))):=by
 have hdv:0<valW d.w:=Nat.pos_of_ne_zero fun e=>hd0 ((X0q hd).1 e)
 refine Q0b none Tryz.func153 rfl fun E=>Q0a ?_
 have hxl:=J0n x
 simp -dsimp only [go_sem]
 refine Q0e [false,true,false,true,false,true,false,false,false,false,false,true,true] 2 0
  (fun m s=> ∃j,m=x.length-j∧j≤x.length∧H0v d p (x.take j)=true∧
   s=⟨[.junk,.ms true k 0 x.length,.junk,.lp 0 0,.junk,.lp 1 0,.junk,.junk,.junk,.junk,.junk,.sc (.int .i64 x.length),.sc (.int .i64 (j:Nat))]++List.replicate 21 .junk,[[.ms true A 0 n,.ms true B 0 n,.sc (.int .i64 p)],encN d],[],st.set k (rowC (divL d p (x.take j)++x.drop j)++R)⟩) x.length ?_ ?_
 · simp -dsimp only [go_sem]
   refine⟨0,by omega,by omega,by simp [H0v],?_⟩
   rw [W1i hk (by rw [hg];simp [divL])]
   rfl
 rintro m s ⟨j,rfl,hj,ho,rfl⟩
 simp -dsimp only [go_sem]
 refine ck (fun h1=> ?_) (fun h1=> ?_)
 · have hlt:j<x.length:=by have:=of_decide_eq_true h1;omega
   have x2:=X0y j (by omega)
   obtain⟨d1,d2,d3⟩:=W2d d p x hlt
   have hok:=Q2z hlt ho
   generalize hD:divL d p (x.take j)++x.drop j=D at*
   have gst:=y0o (rowC D++R) hk
   have tk:=G0t D j R (by omega)
   rw [d2] at tk
   have hDl:=J0n D
   have hle:j*3+3≤(rowC D).length+R.length:=by omega
   have ov:=G0u D j R (divN (x.getD j default) d p false).1 (by omega)
   rw [d3] at ov
   unfold encN at ov
   have hxr:=hr _ (Q0s x j default hlt)
   simp -dsimp only [go_sem]
   refine Q0k Z0f 34 (.step 0 [] (.step 1 [] (.step 2 [] (.step 3 [] (.step 4 [] (.step 5 [] (.step 6 [] (.alt (.step 7 [] (.step 8 [] (.step 9 [] (.step 10 [] (.step 11 [3,4,6] (.step 12 [] (.step 13 [] (.done)))))))) (.step 11 [3,4,6] (.step 7 [] (.step 8 [] (.step 9 [] (.step 10 [] (.step 12 [] (.step 13 [] (.done)))))))))))))))) (by decide+kernel) (by simp) ?_
   simp -dsimp only [go_sem,gst,tk]
   refine⟨⟨by omega,hlt⟩,hle,?_⟩
   refine And.intro ?_ ?_
   all_goals
    first | refine(Z1j _ _ p false _ hxr hd hp hdv).mono ?_ | (refine⟨hle,?_⟩;refine(Z1j _ _ p false _ hxr hd hp hdv).mono ?_)
    rintro r st' ⟨rfl,rfl⟩
    by_cases he:(divN (x.getD j default) d p false).2=0
    · rw [he] at hok⊢
      simp -dsimp only [go_sem,gst,tk,x2,ov,List.set_set]
      try refine⟨hle,?_⟩
      refine⟨⟨by omega,hlt⟩,⟨hle,by omega⟩,x.length-(j+1),by omega,j+1,rfl,by omega,hok,rfl⟩
    · have h2:(divN (x.getD j default) d p false).2=2:=(J2x _).resolve_left he
      rw [h2]
      simp -dsimp only [go_sem,gst,tk]
      try refine⟨hle,?_⟩
      exact .inr ⟨J1i hlt he,D,d1,rfl⟩
 · have hge:j=x.length:=by have:=of_decide_eq_false h1;omega
   subst hge
   rw [List.take_length] at ho
   simp -dsimp only [go_sem]
   refine Q0a ?_
   simp -dsimp only [go_sem,ho]
   refine .inl ?_
   rw [List.take_length,List.drop_length,List.append_nil]
end Go.Pv
end
section
/-The document's copied;inv.ones and the document's One,as matrices that lie in the store. -/
set_option maxRecDepth 100000
namespace Go.Pv
open Go.Proofs
set_option maxHeartbeats 1000000 in
theorem z1s (a:List (List Nm)) (st:Q0f) (h0:0<a.length) (h4:a.length≤4) (hr: ∀r∈a,r.length=a.length):
 PCalls Tryz.prog 124 [.sl .no (encQ a)] st (fun r st'=> ∃A ids X,r= .ms true A 0 a.length∧st'=st++X∧QO st' A ids a∧st.length≤A∧ ∀i∈ids,st.length≤i):=by
 refine U0y h0 hr ?_
 refine Q0b none Tryz.func124 rfl fun E=>Q0l (Q0a ?_)
 simp -dsimp only [go_sem]
 refine Q0l (Q0a ?_)
 simp -dsimp only [go_sem]
 refine Q0l (Q0a ?_)
 simp -dsimp only [go_sem]
 refine X0h [true,false,false,true,true] 0 0
  (fun m s=> ∃i out ids cs X,m=a.length-i∧i≤a.length∧Built (st++X) st.length a.length i out ids cs ((a.take i).map rowC)∧
   s=⟨[.sl .no (encQ a),.junk,.junk,out,.sc (.int .i64 (i:Nat))]++List.replicate 16 .junk,[],[],st++X⟩) a.length ?_ ?_
 · simp -dsimp only [go_sem]
   refine⟨0,.sl .full [],[],[],[],by omega,by omega,?_,by simp⟩
   rw [List.append_nil]
   exact Built.zero st _
 rintro m s ⟨i,out,ids,cs,X,rfl,hi,hB,rfl⟩
 refine Q0l (Q0a ?_)
 simp -dsimp only [go_sem]
 refine ck (fun h=> ?_) (fun h=> ?_)
 · have hlt:i<a.length:=by have:=of_decide_eq_true h;omega
   have e1:=V0f a i hlt
   have e3:=X0y i (by omega)
   have hri:=hr _ (Q0s a i [] hlt)
   simp -dsimp only [go_sem]
   refine Q0l (J0u ?_)
   refine W0s [false,false,false,false,false,false,true,false,true] ?_
   rcases hB.out with ⟨rfl,rfl⟩ | ⟨hi0,A,cap,R,rfl,_⟩
   · simp -dsimp only [go_sem,e1]
     refine⟨by omega,?_⟩
     refine⟨v0b (by omega) (by omega),fun cap' R hc' hR=>⟨GrowOK.mk_one rfl (by decide) rfl (by omega) (by omega) rfl rfl,fun cap2 R2 hc2 hR2=> ?_⟩⟩
     refine Q0a ?_
     simp -dsimp only [go_sem]
     have hY:RowAt (st++X++ [flat (Z0b (a.getD 0 []))++R]) (st.length+X.length) (rowC (a.getD 0 [])):=by have:=v0c (st++X) (a.getD 0 []) R;rwa [List.length_append] at this
     have hB2:=Built.first hB (Y:=st++X++ [flat (Z0b (a.getD 0 []))++R]) (c:= .gr (st.length+X.length) (a.getD 0 []).length cap') (by simp) (by rw [hri];exact .gr _ _ _) hY (by simp) hc2 (by rw [hR2];omega)
     obtain⟨X2,hX2⟩: ∃X2,st++X++ [flat (Z0b (a.getD 0 []))++R]++ [flat [PV.gr (st.length+X.length) (a.getD 0 []).length cap']++R2]=st++X2:=⟨_,by rw [List.append_assoc,List.append_assoc]⟩
     rw [hX2] at hB2⊢
     rw [←W0w a hlt] at hB2
     refine⟨a.length-(0+1),by omega,0+1,_,_,_,X2,rfl,by omega,hB2,?_⟩
     · rw [e3,show(st++X++ [flat (Z0b (a.getD 0 []))++R]).length=st.length+X.length+1 by simp;omega]
   · simp -dsimp only [go_sem,e1]
     refine⟨by omega,?_⟩
     obtain⟨b1,b2,b3⟩:=hB.at hi0
     refine⟨v0b (by omega) (by omega),fun cap' R hc' hR=> ?_⟩
     have gA:(st++X++ [flat (Z0b (a.getD i []))++R]).getD A []=(st++X).getD A []:=Q0i _ _ _ _ b2
     refine⟨GrowOK.mk_one rfl (by decide) (by rw [gA,b3];omega) (by omega) (by omega) rfl rfl,fun A' cap2 st' hG=> ?_⟩
     refine Q0a ?_
     simp -dsimp only [go_sem]
     have hY:RowAt (st++X++ [flat (Z0b (a.getD i []))++R]) (st.length+X.length) (rowC (a.getD i [])):=by have:=v0c (st++X) (a.getD i []) R;rwa [List.length_append] at this
     have hB2:=Built.grow hB hi0 (Y:=st++X++ [flat (Z0b (a.getD i []))++R]) (c:= .gr (st.length+X.length) (a.getD i []).length cap') (by simp) (fun x hx=>Q0i _ _ _ _ hx) (by rw [hri];exact .gr _ _ _) hY (by simp) hG
     obtain⟨X2,rfl⟩: ∃X2,st'=st++X2:=by
      rw [List.append_assoc] at hG
      exact hG.app b1
     rw [←W0w a hlt] at hB2
     refine⟨a.length-(i+1),by omega,i+1,_,_,_,X2,rfl,by omega,hB2,?_⟩
     · rw [e3]
 · have hge:i=a.length:=by have:=of_decide_eq_false h;omega
   subst hge
   simp -dsimp only [go_sem]
   refine Q0a ?_
   rcases hB.out with ⟨hz,rfl⟩ | ⟨hi0,A,cap,R,rfl,_⟩
   · omega
   simp -dsimp only [go_sem]
   rw [List.take_length] at hB
   exact⟨ids,cs,X,rfl,hB⟩
theorem v1b (n i:Nat) (hi:i<n):over (repC n (encN default)) (i*3) (encN oneN)=rowC (rowQ n i):=by
 rw [j2w]
 have:=G0u (List.replicate n default) i [] oneN (by simp;exact hi)
 rw [List.append_nil,List.append_nil] at this
 exact this
theorem V2d {n i:Nat} (hi:i<n):(over (repC n [PV.sc (.bool false),.sc (.int .i64 0),.sl .full []]) (i*3) (encN oneN)).map PV.forget2=rowC (rowQ n i):=by
 rw [W1v,W1p]
 exact v1b n i hi
theorem z3y (n i:Nat):fzOK (over (repC n [PV.sc (.bool false),.sc (.int .i64 0),.sl .full []]) (i*3) (encN oneN))=true:=x1w (x1v rfl) rfl
theorem v1w {n i:Nat} (hi:i<n):(over (repC n [PV.sc (.bool false),.sc (.int .i64 0),.sl .full []]) (i*3) [PV.sc (.bool false),.sc (.int .i64 0),.sl .full [.sc (.int .u64 1)]]).map PV.forget2=rowC (rowQ n i):=by
 rw [W1v,W1p]
 exact v1b n i hi
theorem W3b (n i:Nat):fzOK (over (repC n [PV.sc (.bool false),.sc (.int .i64 0),.sl .full []]) (i*3) [PV.sc (.bool false),.sc (.int .i64 0),.sl .full [.sc (.int .u64 1)]])=true:=x1w (x1v rfl) rfl
theorem k1p (n:Nat) (z:List PV):(repC n z).length=n*z.length:=by
 unfold repC
 simp
theorem W1l (n i:Nat):(rowQ n i).length=n:=by simp [rowQ]
theorem v1d (n i:Nat) (h:i<n):(oneL n).getD i []=rowQ n i:=by
 unfold oneL
 rw [List.getD_eq_getElem?_getD,List.getElem?_map,List.getElem?_range h];rfl
theorem v1c (n:Nat): ∀r∈oneL n,r.length=(oneL n).length:=fun r hr=>by
 rw [X0z]
 simp only [oneL,List.mem_map] at hr
 obtain⟨i,_,rfl⟩:=hr
 exact W1l n i
theorem V1k (st:Q0f) (x:List Nm):RowAt (st++ [rowC x]) st.length (rowC x):=by
 refine⟨by simp,[],?_⟩
 rw [Q0o _ _ _ _ (Nat.le_refl _),Nat.sub_self,List.append_nil];rfl
set_option maxHeartbeats 1000000 in
theorem V2a (n:Nat) (st:Q0f) (h0:0<n) (h4:n≤4):
 PCalls Tryz.prog 91 [.sc (.int .i64 n)] st (fun r st'=> ∃A ids X,r= .ms true A 0 (oneL n).length∧st'=st++X∧QO st' A ids (oneL n)∧st.length≤A∧ ∀i∈ids,st.length≤i):=by
 have hl:=X0z n
 refine U0y (by omega) (v1c n) ?_
 refine Q0b none Tryz.func91 rfl fun E=>Q0l (Q0a ?_)
 simp -dsimp only [go_sem]
 refine Q0l (Q0a ?_)
 simp -dsimp only [go_sem]
 refine Q0l (Q0a ?_)
 simp -dsimp only [go_sem]
 refine X0h [true,false,false,true,false,false,true,true] 0 0
  (fun m s=> ∃i out ids cs X,m=n-i∧i≤n∧Built (st++X) st.length (oneL n).length i out ids cs (((oneL n).take i).map rowC)∧
   s=⟨[.sc (.int .i64 n),.junk,.junk,out,.junk,.junk,.sc (.int .i64 n),.sc (.int .i64 (i:Nat))]++List.replicate 14 .junk,[],[],st++X⟩) n ?_ ?_
 · simp -dsimp only [go_sem]
   refine⟨0,.sl .full [],[],[],[],by omega,by omega,?_,by simp⟩
   rw [List.append_nil]
   exact Built.zero st _
 rintro m s ⟨i,out,ids,cs,X,rfl,hi,hB,rfl⟩
 refine Q0l (Q0a ?_)
 simp -dsimp only [go_sem]
 refine Q0l (Q0a ?_)
 simp -dsimp only [go_sem]
 refine ck (fun h=> ?_) (fun h=> ?_)
 · have hlt:i<n:=by have:=of_decide_eq_true h;omega
   have e3:=X0y i (by omega)
   have hov:=v1b n i hlt
   have hog:=v1d n i hlt
   simp -dsimp only [go_sem]
   refine Q0l (J0u ?_)
   refine Q0l (Q0a ?_)
   simp -dsimp only [go_sem]
   refine Q0l (Q0a ?_)
   simp -dsimp only [go_sem]
   refine⟨⟨by omega,by omega,by omega⟩,?_⟩
   refine Q0l (Q0a ?_)
   simp -dsimp only [go_sem]
   refine(q0y _).mono ?_
   rintro r st' ⟨rfl,rfl⟩
   simp -dsimp only [go_sem]
   have hrl:=k1p n [PV.sc (.bool false),.sc (.int .i64 0),.sl .full []]
   simp only [List.length_cons,List.length_nil] at hrl
   refine⟨⟨by omega,hlt⟩,⟨by omega,by omega⟩,?_⟩
   have hgv:(over (repC n [PV.sc (.bool false),.sc (.int .i64 0),.sl .full []]) (i*3) [PV.sc (.bool oneN.neg),.sc (.int .i64 oneN.exp),.sl .no (encW oneN.w)]).map PV.forget2=rowC (rowQ n i):=V2d hlt
   have hfz:=z3y n i
   have hne:over (repC n [PV.sc (.bool false),.sc (.int .i64 0),.sl .full []]) (i*3) (encN oneN)≠ []:=fun e=>by
    have h2:=J0n (rowQ n i)
    rw [←V2d hlt,e,W1l] at h2
    simp at h2;omega
   have hgl:=V1k (st++X) (rowQ n i)
   rw [List.length_append] at hgl
   rcases hB.out with ⟨rfl,rfl⟩ | ⟨hi0,A,cap,R,rfl,_⟩
   · refine U0x 0 hfz hne ?_
     rw [Nat.zero_mul] at hgv
     simp -dsimp only [go_sem,hgv]
     refine W0s [false,false,false,true] ?_
     simp -dsimp only [go_sem]
     refine⟨GrowOK.mk_one rfl (by decide) rfl (by omega) (by omega) rfl rfl,fun cap2 R2 hc2 hR2=> ?_⟩
     refine Q0a ?_
     simp -dsimp only [go_sem]
     have hB2:=Built.first hB (Y:=st++X++ [rowC (rowQ n 0)]) (c:= .ms true (st.length+X.length) 0 n) (by simp) (by rw [hl];exact .same _) hgl (by simp) hc2 (by rw [hR2];omega)
     obtain⟨X2,hX2⟩: ∃X2,st++X++ [rowC (rowQ n 0)]++ [flat [PV.ms true (st.length+X.length) 0 n]++R2]=st++X2:=⟨_,by rw [List.append_assoc,List.append_assoc]⟩
     rw [hX2] at hB2⊢
     have hlen:(st++X++ [rowC (rowQ n 0)]).length=st.length+X.length+1:=by simp;omega
     rw [hlen,←hog,←W0w (oneL n) (by omega)] at hB2
     refine⟨n-(0+1),by omega,0+1,_,_,_,X2,rfl,by omega,hB2,?_⟩
     rw [e3]
   · refine U0x 0 hfz hne ?_
     simp -dsimp only [go_sem,hgv]
     refine W0s [false,false,false,true] ?_
     simp -dsimp only [go_sem]
     obtain⟨b1,b2,b3⟩:=hB.at hi0
     have gA:(st++X++ [rowC (rowQ n i)]).getD A []=(st++X).getD A []:=Q0i _ _ _ _ b2
     refine⟨GrowOK.mk_one rfl (by decide) (by rw [gA,b3];omega) (by omega) (by omega) rfl rfl,fun A' cap2 st' hG=> ?_⟩
     refine Q0a ?_
     simp -dsimp only [go_sem]
     have hB2:=Built.grow hB hi0 (Y:=st++X++ [rowC (rowQ n i)]) (c:= .ms true (st.length+X.length) 0 n) (by simp) (fun x hx=>Q0i _ _ _ _ hx) (by rw [hl];exact .same _) hgl (by simp) hG
     obtain⟨X2,rfl⟩: ∃X2,st'=st++X2:=by
      rw [List.append_assoc] at hG
      exact hG.app b1
     rw [←hog,←W0w (oneL n) (by omega)] at hB2
     refine⟨n-(i+1),by omega,i+1,_,_,_,X2,rfl,by omega,hB2,?_⟩
     rw [e3]
 · have hge:i=n:=by have:=of_decide_eq_false h;omega
   subst hge
   simp -dsimp only [go_sem]
   refine Q0a ?_
   rcases hB.out with ⟨hz,rfl⟩ | ⟨hi0,A,cap,R,rfl,_⟩
   · omega
   simp -dsimp only [go_sem]
   rw [List.take_of_length_le (by omega)] at hB
   rw [hl] at hB⊢
   exact⟨ids,cs,X,rfl,hB⟩
set_option maxHeartbeats 1000000 in
theorem J2b (n:Nat) (st:Q0f) (h0:0<n) (h4:n≤4):
 PCalls Tryz.prog 125 [.sc (.int .i64 n)] st (fun r st'=> ∃A ids X,r= .ms true A 0 (oneL n).length∧st'=st++X∧QO st' A ids (oneL n)∧st.length≤A∧ ∀i∈ids,st.length≤i):=by
 have hl:=X0z n
 refine U0y (by omega) (v1c n) ?_
 have d1:decide ((n:Int)<1)=false:=decide_eq_false (by omega)
 have d2:decide ((n:Int)>4)=false:=decide_eq_false (by omega)
 refine Q0b none Tryz.func125 rfl fun E=>Q0l (Q0a ?_)
 simp -dsimp only [go_sem]
 refine Q0l (Q0a ?_)
 simp -dsimp only [go_sem,d1,d2]
 refine Q0l (Q0a ?_)
 simp -dsimp only [go_sem]
 refine Q0l (Q0a ?_)
 simp -dsimp only [go_sem]
 refine X0h [true,false,false,true,true] 0 0
  (fun m s=> ∃i out ids cs X,m=n-i∧i≤n∧Built (st++X) st.length (oneL n).length i out ids cs (((oneL n).take i).map rowC)∧
   s=⟨[.sc (.int .i64 n),.junk,.junk,out,.sc (.int .i64 (i:Nat))]++List.replicate 24 .junk,[],[],st++X⟩) n ?_ ?_
 · simp -dsimp only [go_sem]
   refine⟨0,.sl .full [],[],[],[],by omega,by omega,?_,by simp⟩
   rw [List.append_nil]
   exact Built.zero st _
 rintro m s ⟨i,out,ids,cs,X,rfl,hi,hB,rfl⟩
 refine Q0l (Q0a ?_)
 simp -dsimp only [go_sem]
 refine ck (fun h=> ?_) (fun h=> ?_)
 · have hlt:i<n:=by have:=of_decide_eq_true h;omega
   have e3:=X0y i (by omega)
   have hov:=v1b n i hlt
   have hog:=v1d n i hlt
   simp -dsimp only [go_sem]
   refine Q0l (J0u ?_)
   refine Q0l (Q0a ?_)
   simp -dsimp only [go_sem]
   refine⟨⟨by omega,by omega,by omega⟩,?_⟩
   refine Q0l (Q0a ?_)
   simp -dsimp only [go_sem]
   have hrl:=k1p n [PV.sc (.bool false),.sc (.int .i64 0),.sl .full []]
   simp only [List.length_cons,List.length_nil] at hrl
   refine⟨⟨by omega,hlt⟩,⟨by omega,by omega⟩,?_⟩
   have hgv:(over (repC n [PV.sc (.bool false),.sc (.int .i64 0),.sl .full []]) (i*3) [PV.sc (.bool false),.sc (.int .i64 0),.sl .full [.sc (.int .u64 1)]]).map PV.forget2=rowC (rowQ n i):=v1w hlt
   have hfz:=W3b n i
   have hne:over (repC n [PV.sc (.bool false),.sc (.int .i64 0),.sl .full []]) (i*3) [PV.sc (.bool false),.sc (.int .i64 0),.sl .full [.sc (.int .u64 1)]]≠ []:=fun e=>by
    have h2:=J0n (rowQ n i)
    rw [←v1w hlt,e,W1l] at h2
    simp at h2;omega
   have hgl:=V1k (st++X) (rowQ n i)
   rw [List.length_append] at hgl
   rcases hB.out with ⟨rfl,rfl⟩ | ⟨hi0,A,cap,R,rfl,_⟩
   · refine U0x 0 hfz hne ?_
     rw [Nat.zero_mul] at hgv
     simp -dsimp only [go_sem,hgv]
     refine W0s [false,false,false,true] ?_
     simp -dsimp only [go_sem]
     refine⟨GrowOK.mk_one rfl (by decide) rfl (by omega) (by omega) rfl rfl,fun cap2 R2 hc2 hR2=> ?_⟩
     refine Q0a ?_
     simp -dsimp only [go_sem]
     have hB2:=Built.first hB (Y:=st++X++ [rowC (rowQ n 0)]) (c:= .ms true (st.length+X.length) 0 n) (by simp) (by rw [hl];exact .same _) hgl (by simp) hc2 (by rw [hR2];omega)
     obtain⟨X2,hX2⟩: ∃X2,st++X++ [rowC (rowQ n 0)]++ [flat [PV.ms true (st.length+X.length) 0 n]++R2]=st++X2:=⟨_,by rw [List.append_assoc,List.append_assoc]⟩
     rw [hX2] at hB2⊢
     have hlen:(st++X++ [rowC (rowQ n 0)]).length=st.length+X.length+1:=by simp;omega
     rw [hlen,←hog,←W0w (oneL n) (by omega)] at hB2
     refine⟨n-(0+1),by omega,0+1,_,_,_,X2,rfl,by omega,hB2,?_⟩
     rw [e3]
   · refine U0x 0 hfz hne ?_
     simp -dsimp only [go_sem,hgv]
     refine W0s [false,false,false,true] ?_
     simp -dsimp only [go_sem]
     obtain⟨b1,b2,b3⟩:=hB.at hi0
     have gA:(st++X++ [rowC (rowQ n i)]).getD A []=(st++X).getD A []:=Q0i _ _ _ _ b2
     refine⟨GrowOK.mk_one rfl (by decide) (by rw [gA,b3];omega) (by omega) (by omega) rfl rfl,fun A' cap2 st' hG=> ?_⟩
     refine Q0a ?_
     simp -dsimp only [go_sem]
     have hB2:=Built.grow hB hi0 (Y:=st++X++ [rowC (rowQ n i)]) (c:= .ms true (st.length+X.length) 0 n) (by simp) (fun x hx=>Q0i _ _ _ _ hx) (by rw [hl];exact .same _) hgl (by simp) hG
     obtain⟨X2,rfl⟩: ∃X2,st'=st++X2:=by
      rw [List.append_assoc] at hG
      exact hG.app b1
     rw [←hog,←W0w (oneL n) (by omega)] at hB2
     refine⟨n-(i+1),by omega,i+1,_,_,_,X2,rfl,by omega,hB2,?_⟩
     rw [e3]
 · have hge:i=n:=by have:=of_decide_eq_false h;omega
   subst hge
   simp -dsimp only [go_sem]
   refine Q0a ?_
   rcases hB.out with ⟨hz,rfl⟩ | ⟨hi0,A,cap,R,rfl,_⟩
   · omega
   simp -dsimp only [go_sem]
   rw [List.take_of_length_le (by omega)] at hB
   rw [hl] at hB⊢
   exact⟨ids,cs,X,rfl,hB⟩
end Go.Pv
end
section
/-inv.pair.less:a row less another one,times a number. -/
set_option maxRecDepth 100000
namespace Go.Pv
open Go.Proofs
theorem j0d {α:Type} (d:α) (F x:List α) {j:Nat} (hl:F.length=x.length) (hj:j<x.length):(F.take j++x.drop j).length=x.length∧(F.take j++x.drop j).getD j d=x.getD j d∧(F.take j++x.drop j).set j (F.getD j d)=F.take (j+1)++x.drop (j+1):=by
 have hlt:(F.take j).length=j:=by rw [List.length_take];omega
 refine⟨by rw [List.length_append,hlt,List.length_drop];omega,?_,?_⟩
 · rw [Q0o _ _ _ _ (by omega),hlt,Nat.sub_self,List.getD_eq_getElem?_getD,List.getElem?_drop,Nat.add_zero,←List.getD_eq_getElem?_getD]
 · rw [List.set_append_right _ _ (by omega),hlt,Nat.sub_self]
   have e1:x.drop j=x.getD j d::x.drop (j+1):=by
    rw [List.getD_eq_getElem?_getD,List.getElem?_eq_getElem hj];exact List.drop_eq_getElem_cons hj
   rw [e1,List.set_cons_zero,k0c d F (by omega),List.append_assoc];rfl
theorem V0x (m:Nm) (p:Int) (x y:List Nm):(U0g m p x y).length=x.length:=by simp [U0g]
theorem X1j (m:Nm) (p:Int) (x y:List Nm) {j:Nat} (h:j<x.length):(U0g m p x y).getD j default=(Y0e (x.getD j default) m (y.getD j default) p).1:=by
 unfold U0g
 exact H1i (fun j=>(Y0e (x.getD j default) m (y.getD j default) p).1) _ _ h
theorem x0d {m:Nm} {p:Int} {x y:List Nm} {j:Nat} (hj:j<x.length) (h:(Y0e (x.getD j default) m (y.getD j default) p).2≠0):q0e m p x y=false:=by
 refine Bool.eq_false_iff.2 fun e=>h ?_
 unfold q0e at e
 rw [List.all_eq_true] at e
 simpa using e j (List.mem_range.2 hj)
theorem y0b {m:Nm} {p:Int} {x y:List Nm} (h: ∀j,j<x.length→(Y0e (x.getD j default) m (y.getD j default) p).2=0):q0e m p x y=true:=by
 unfold q0e
 rw [List.all_eq_true]
 intro j hj
 rw [h j (List.mem_range.1 hj)];rfl
set_option maxHeartbeats 1000000 in
theorem H1f (x y:List Nm) (m:Nm) (A B n k o:Nat) (R R2:List PV) (p:Int) (st:Q0f) (hk:k<st.length) (ho:o<st.length) (hne:k≠o) (hg:st.getD k []=rowC x++R) (hgo:st.getD o []=rowC y++R2) (hx:x.length≤4) (hxy:x.length=y.length) (hr: ∀c∈x,Q0j c=true) (hry: ∀c∈y,Q0j c=true) (hm:Q0j m=true) (hp:Z0p p=true):
 PCalls Tryz.prog 154 [.agg [.ms true A 0 n,.ms true B 0 n,.sc (.int .i64 p)],.ms true k 0 x.length,.ms true o 0 y.length,.agg (encN m)] st
 (fun r st'=>(q0e m p x y=true∧r= .sc (.int .i64 0)∧st'=st.set k (rowC (U0g m p x y)++R))∨(q0e m p x y=false∧r= .sc (.int .i64 2)∧ ∃z,z.length=x.length∧st'=st.set k (rowC z++R))):=by
 have wm:=Q0u hm
 refine Q0b none Tryz.func154 rfl fun E=>Q0a ?_
 simp -dsimp only [go_sem]
 refine Q0e [false,true,true,false,true,false,false,true,false,false,false,false,false,true,true] 2 0
  (fun s' s=> ∃j,s'=x.length-j∧j≤x.length∧(∀i,i<j→(Y0e (x.getD i default) m (y.getD i default) p).2=0)∧
   s=⟨[.junk,.ms true k 0 x.length,.ms true o 0 y.length,.junk,.lp 0 0,.junk,.junk,.lp 1 0,.junk,.junk,.junk,.junk,.junk,.sc (.int .i64 x.length),.sc (.int .i64 (j:Nat))]++List.replicate 34 .junk,[[.ms true A 0 n,.ms true B 0 n,.sc (.int .i64 p)],encN m],[],st.set k (rowC ((U0g m p x y).take j++x.drop j)++R)⟩) x.length ?_ ?_
 · simp -dsimp only [go_sem]
   refine⟨0,by omega,by omega,fun i hi=>by omega,?_⟩
   rw [W1i hk (by rw [hg];simp)]
   rfl
 rintro m' s ⟨j,rfl,hj,hok,rfl⟩
 simp -dsimp only [go_sem]
 refine ck (fun h1=> ?_) (fun h1=> ?_)
 · have hlt:j<x.length:=by have:=of_decide_eq_true h1;omega
   have x2:=X0y j (by omega)
   obtain⟨d1,d2,d3⟩:=j0d default (U0g m p x y) x (V0x m p x y) hlt
   rw [X1j m p x y hlt] at d3
   generalize hD:(U0g m p x y).take j++x.drop j=D at*
   have gst:=y0o (rowC D++R) hk
   have gso:(st.set k (rowC D++R)).getD o []=rowC y++R2:=by rw [Q0g _ _ _ _ _ hne];exact hgo
   have tk:=G0t D j R (by omega)
   rw [d2] at tk
   have tko:=G0t y j R2 (by omega)
   have hDl:=J0n D
   have hyl:=J0n y
   have hle:j*3+3≤(rowC D).length+R.length:=by omega
   have hlo:j*3+3≤(rowC y).length+R2.length:=by omega
   have ov: ∀c,over (rowC D++R) (j*3) (encN c)=rowC (D.set j c)++R:=fun c=>G0u D j R c (by omega)
   unfold encN at ov
   have hxr:=Q0u (hr _ (Q0s x j default hlt))
   have hyr:=Q0u (hry _ (Q0s y j default (by omega)))
   have ha:Y0e (x.getD j default) m (y.getD j default) p=if (Q0t 2 m (y.getD j default) p false).2≠0 then Q0t 2 m (y.getD j default) p false else Q0t 1 (x.getD j default) (Q0t 2 m (y.getD j default) p false).1 p false:=rfl
   have wq:=Q0u (Z0k 2 m (y.getD j default) p false)
   have e2:=Q1i (k:=2) (up:=false) hm (hry _ (Q0s y j default (by omega))) hp
   have e1:=Q1i (k:=1) (up:=false) (hr _ (Q0s x j default hlt)) (Z0k 2 m (y.getD j default) p false) hp
   simp -dsimp only [go_sem]
   refine Q0k Z0f 49 (.step 0 [] (.step 1 [] (.step 2 [] (.step 3 [] (.step 4 [] (.step 5 [] (.step 6 [] (.alt (.step 7 [] (.step 8 [] (.step 9 [] (.step 10 [] (.step 11 [0,4,6] (.step 12 [] (.step 13 [] (.done)))))))) (.step 11 [0,4,6] (.step 7 [] (.step 8 [] (.step 9 [] (.step 10 [] (.step 12 [] (.step 13 [] (.done)))))))))))))))) (by decide+kernel) (by simp) ?_
   simp -dsimp only [go_sem,gso,tko]
   refine⟨⟨by omega,by omega⟩,hlo,?_⟩
   refine And.intro ?_ ?_
   all_goals
    first | refine(W1m _ _ p false _ wm hyr).mono ?_ | (refine⟨hlo,?_⟩;refine(W1m _ _ p false _ wm hyr).mono ?_)
    rintro r st' ⟨rfl,rfl⟩
    by_cases he:(Q0t 2 m (y.getD j default) p false).2=0
    · rw [if_neg (fun h=>h he)] at ha
      rw [he]
      simp -dsimp only [go_sem,gso,tko]
      try refine⟨hlo,?_⟩
      refine Q0k Z0f 49 (.step 0 [] (.step 1 [] (.step 2 [] (.step 3 [] (.step 4 [] (.step 5 [] (.step 6 [] (.step 7 [] (.step 8 [] (.step 9 [] (.step 10 [] (.step 11 [] (.step 12 [] (.step 13 [] (.step 14 [] (.step 15 [] (.done))))))))))))))))) (by decide+kernel) (by simp) ?_
      simp -dsimp only [go_sem,gst,tk]
      refine⟨⟨by omega,hlt⟩,hle,?_⟩
      refine(Q1g _ _ p false _ hxr wq).mono ?_
      rintro r st' ⟨rfl,rfl⟩
      by_cases hf:(Q0t 1 (x.getD j default) (Q0t 2 m (y.getD j default) p false).1 p false).2=0
      · rw [hf]
        rw [ha] at d3
        simp -dsimp only [go_sem,gst,tk,ov,x2,d3,List.set_set]
        refine⟨⟨by omega,hlt⟩,⟨hle,by omega⟩,x.length-(j+1),by omega,j+1,rfl,by omega,fun i hi=> ?_,rfl⟩
        by_cases e:i=j
        · subst e;rw [ha];exact hf
        · exact hok i (by omega)
      · have h2:(Q0t 1 (x.getD j default) (Q0t 2 m (y.getD j default) p false).1 p false).2=2:=e1.resolve_left hf
        rw [h2]
        simp -dsimp only [go_sem,gst,tk,ov,List.set_set]
        exact⟨⟨by omega,hlt⟩,⟨hle,by omega⟩,.inr ⟨x0d hlt (by rw [ha];exact hf),_,by rw [List.length_set];exact d1,rfl⟩⟩
    · have h2:(Q0t 2 m (y.getD j default) p false).2=2:=e2.resolve_left he
      rw [if_pos he] at ha
      rw [h2]
      simp -dsimp only [go_sem,gso,tko]
      try refine⟨hlo,?_⟩
      refine .inr ⟨x0d hlt (by rw [ha];exact he),D,d1,rfl⟩
 · have hge:j=x.length:=by have:=of_decide_eq_false h1;omega
   subst hge
   simp -dsimp only [go_sem]
   refine Q0a ?_
   simp -dsimp only [go_sem]
   refine .inl ⟨y0b hok,?_⟩
   rw [List.take_of_length_le (by rw [V0x];omega),List.drop_length,List.append_nil]
end Go.Pv
end
