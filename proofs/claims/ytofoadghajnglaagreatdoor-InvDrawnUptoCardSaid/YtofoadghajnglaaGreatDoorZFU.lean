/- Parts of the walk: N159, N160. -/
import Derived.Test.YtofoadghajnglaaGreatDoorZFK
import Derived.Test.YtofoadghajnglaaGreatDoorZFJ
import Derived.Test.YtofoadghajnglaaGreatDoorZFR
set_option linter.unusedVariables false
set_option linter.unusedSimpArgs false
section
/-The deck's small points as objects of the store. -/
set_option maxRecDepth 100000
namespace Go.Pv
open Go.Proofs
def Y2w (S:Q0f) (B i:Nat) (x:List Nm) (out:PV):Prop:=
 (i=0∧out= .sl .full [])∨(0<i∧ ∃kk cap R,out= .gr kk i cap∧B≤kk∧kk<S.length∧S.getD kk []=rowC x++R∧R.length=(cap-i)*3∧i≤cap)
theorem X2p (x:List Nm) (a:Nm):rowC (x++ [a])=rowC x++encN a:=by
 unfold rowC
 rw [show Z0b (x++ [a])=Z0b x++ [.agg (encN a)] by simp [Z0b],J1b]
 congr 1
def Beside (S S':Q0f) (k:Nat):Prop:=S.length≤S'.length∧ ∀p,p<S.length→p≠k→S'.getD p []=S.getD p []
theorem Beside.refl (S:Q0f) (k:Nat):Beside S S k:=⟨Nat.le_refl _,fun _ _ _=>rfl⟩
theorem Beside.trans {S S' S'':Q0f} {k:Nat} (h:Beside S S' k) (h':Beside S' S'' k):Beside S S'' k:=⟨Nat.le_trans h.1 h'.1,fun p hp hk=>(h'.2 p (Nat.lt_of_lt_of_le hp h.1) hk).trans (h.2 p hp hk)⟩
theorem Beside.deck {S S':Q0f} {k:Nat} (h:Beside S S' k) (c:List PV):Beside S (S'.set k c) k:=⟨by rw [List.length_set];exact h.1,fun p hp hk=>by rw [Q0g _ _ _ _ _ (fun e=>hk e.symm)];exact h.2 p hp hk⟩
set_option maxHeartbeats 4000000 in
theorem Y1p (l:List UInt64) (i k n:Nat) (st:Q0f) (h:atD st k l i) (hi:i≤600000000000) (hn:1≤n) (hn4:n≤4):PCalls Tryz.prog 18 [.gp k 0,.sc (.int .i64 n)] st
 (fun r st'=> ∃(q:List (List Nm)) (j A:Nat) (ids:List Nat) (Z:List PV),q.length=n∧(∀m,m<n→okRowS n (q.getD m []))∧i≤j∧j≤i+100∧r= .ms true A 0 n∧Beside st st' k∧atD st' k l j∧st.length≤A∧A<st'.length∧ids.length=n∧(st'.getD A []=(ids.map fun i=>PV.ms true i 0 n)++Z)∧
  (∀m,m<n→ids.getD m 0≠A∧st.length≤ids.getD m 0∧RowAt st' (ids.getD m 0) (rowC (q.getD m [])))∧ ∀a b,a<n→b<n→ids.getD a 0=ids.getD b 0→q.getD a []=q.getD b []):=by
 have hkl:=h.lt
 refine Q0b none Tryz.func18 rfl fun E=>Q0a ?_
 simp -dsimp only [go_sem]
 refine X0h [true,true,false,false,false,true,true] 0 0 (fun c s=> ∃(O:List (List Nm)) (j:Nat) (out:PV) (ids:List Nat) (cs:List PV) (S:Q0f),c=n-O.length∧O.length≤n∧(∀m,m<O.length→okRowS n (O.getD m []))∧i≤j∧j≤i+4*O.length∧Beside st S k∧atD S k l j∧Built S st.length n O.length out ids cs (O.map rowC)∧
  s=⟨[.gp k 0,.sc (.int .i64 n)]++(List.replicate 3 .junk++([out,.sc (.int .i64 O.length)]++(List.replicate 35 .junk))),[],[],S⟩) n ?_ ?_
 · simp -dsimp only [go_sem]
   exact⟨[],i,.sl .full [],[],[],st,by simp,by simp,fun m hm=>by simp at hm,by omega,by omega,.refl _ _,h,Built.zero st n,rfl⟩
 rintro c s ⟨O,j,out,ids,cs,S,rfl,hO,hr,hj,hj2,hS,hd,hB,rfl⟩
 refine Q0l (Q0a ?_)
 simp -dsimp only [go_sem]
 refine ck (fun h1=> ?_) (fun h1=> ?_)
 · have hlt:O.length<n:=by have:=of_decide_eq_true h1;omega
   have x1:=X0y O.length (by omega)
   have hol:out.lim 0 0=true:=by rcases hB.out with ⟨_,rfl⟩ | ⟨_,A,cap,R,rfl,_⟩<;>rfl
   have hkS:k<S.length:=Nat.lt_of_lt_of_le hkl hS.1
   simp -dsimp only [go_sem]
   refine Q0l (J0u ?_)
   refine Q0l (Q0a ?_)
   simp -dsimp only [go_sem]
   refine V0w [true,true,false,false,false,true,true,true] 0 0 (fun s=> ∃(q:List Nm) (j':Nat) (row:PV) (S':Q0f),okRowS n q∧j≤j'∧j'≤j+n∧Beside S S' k∧atD S' k l j'∧Y2w S' S.length n q row∧s=⟨[.gp k 0,.sc (.int .i64 n)]++(List.replicate 3 .junk++([out,.sc (.int .i64 O.length),row]++(List.replicate 34 .junk))),[],[],S'⟩) ?_ ?_
   · simp -dsimp only [go_sem]
     refine X0h [true,true,false,false,false,true,true,true,true] 0 0 (fun c s=> ∃(q:List Nm) (row:PV) (S':Q0f),c=n-q.length∧q.length≤n∧(∀m,m<q.length→smN (q.getD m default))∧Beside S S' k∧atD S' k l (j+q.length)∧Y2w S' S.length q.length q row∧
      s=⟨[.gp k 0,.sc (.int .i64 n)]++(List.replicate 3 .junk++([out,.sc (.int .i64 O.length),row,.sc (.int .i64 q.length)]++(List.replicate 33 .junk))),[],[],S'⟩) n ?_ ?_
     · simp -dsimp only [go_sem]
       exact⟨hol,[],.sl .full [],S,by simp,by simp,fun m hm=>by simp at hm,.refl _ _,hd,.inl ⟨rfl,rfl⟩,rfl⟩
     rintro c s ⟨q,row,S',rfl,hq,hqr,hS',hd',hL,rfl⟩
     refine Q0l (Q0a ?_)
     simp -dsimp only [go_sem]
     refine ck (fun h2=> ?_) (fun h2=> ?_)
     · have hlt2:q.length<n:=by have:=of_decide_eq_true h2;omega
       have x2:=X0y q.length (by omega)
       simp -dsimp only [go_sem]
       refine Q0l (J0u ?_)
       refine W0s [false,false,false,false,true] ?_
       rcases hL with ⟨h0,rfl⟩ | ⟨h0,kk,cap,R,rfl,k1,k2,k3,k4,k5⟩
       · have hq0:q= []:=List.eq_nil_of_length_eq_zero h0
         subst hq0
         simp -dsimp only [go_sem]
         refine(k1h l (j+0) k S' hd' (by omega)).mono ?_
         rintro res st' ⟨x,hx,rfl,rfl⟩
         simp -dsimp only [go_sem]
         refine⟨GrowOK.mk_one rfl (by decide) rfl (by omega) (by omega) rfl rfl,fun cap' R hc hR=> ?_⟩
         refine Q0a ?_
         simp -dsimp only [go_sem,x2]
         have hd1:atD (S'.set k (dk l (j+1))) k l (j+1):=hd'.set (j+1)
         have hb1:=hS'.deck (dk l (j+1))
         refine⟨hol,n-1,by omega,[x],.gr (S'.set k (dk l (j+1))).length 1 cap',S'.set k (dk l (j+1))++ [flat [.agg (encN x)]++R],by simp,by simp;omega,fun m hm=> ?_,?_,?_,.inr ⟨by simp,_,cap',R,rfl,?_,by simp,?_,?_,?_⟩,?_⟩
         · have:m=0:=by simpa using hm
           subst this;exact hx
         · exact⟨by simp;have:=hb1.1;simp at this;omega,fun p hp hk=>by rw [Q0i _ _ _ _ (Nat.lt_of_lt_of_le hp hb1.1)];exact hb1.2 p hp hk⟩
         · unfold atD at hd1⊢
           rw [Q0i _ _ _ _ (by have:=hd1;exact(hd'.set (j+1)).lt)];exact hd1
         · exact hb1.1
         · rw [Q0o _ _ _ _ (Nat.le_refl _),Nat.sub_self];rfl
         · simpa using hR
         · simpa using hc
         · rfl
       · simp -dsimp only [go_sem]
         refine(k1h l (j+q.length) k S' hd' (by omega)).mono ?_
         rintro res st' ⟨x,hx,rfl,rfl⟩
         simp -dsimp only [go_sem]
         have hrl:=J0n q
         have hge:((S'.set k (dk l (j+q.length+1))).getD kk [])=rowC q++R:=by rw [Q0g _ _ _ _ _ (by omega)];exact k3
         have hgl:((S'.set k (dk l (j+q.length+1))).getD kk []).length=cap*3:=by rw [hge,List.length_append,hrl,k4,←Nat.add_mul];congr 1;omega
         refine⟨GrowOK.mk_one rfl (by decide) hgl (by omega) (by omega) rfl rfl,fun k' cap' st' hG=> ?_⟩
         obtain⟨R',f1,f2,f3,f4,f5,f6,f7⟩:=GrowTo.facts (es:=Z0b q) hG (by rw [List.length_set];exact k2) hge (by show(rowC q).length=_;rw [hrl]) rfl k4 k5
         refine Q0a ?_
         simp -dsimp only [go_sem,x2]
         have hd1:atD (S'.set k (dk l (j+q.length+1))) k l (j+q.length+1):=hd'.set _
         have hb1:=hS'.deck (dk l (j+q.length+1))
         have hb2:Beside S st' k:=by
          refine⟨Nat.le_trans hb1.1 f6,fun p hp hk=> ?_⟩
          rw [f7 p (Nat.lt_of_lt_of_le hp hb1.1) (by omega)];exact hb1.2 p hp hk
         refine⟨hol,n-(q.length+1),by omega,q++ [x],_,st',by simp,by simp;omega,fun m hm=> ?_,hb2,?_,.inr ⟨by simp,k',cap',R',rfl,?_,f4,?_,?_,?_⟩,by simp⟩
         · by_cases hm2:m<q.length
           · rw [K3n _ _ _ _ hm2];exact hqr m hm2
           · have e:m=q.length:=by simp at hm;omega
             rw [e,j2r];exact hx
         · have hlt1:=hd1.lt
           unfold atD at hd1⊢
           rw [f7 k hlt1 (by omega),hd1,List.length_append];rfl
         · have:=hb1.1
           rcases f5 with rfl | rfl<;>omega
         · rw [f1,X2p,List.append_assoc];rfl
         · rw [f2];simp
         · simpa using f3
     · have hge:q.length=n:=by have:=of_decide_eq_false h2;omega
       simp -dsimp only [go_sem]
       have hrl:row.lim 0 0=true:=by rcases hL with ⟨_,rfl⟩ | ⟨_,kk,cap,R,rfl,_⟩<;>rfl
       exact⟨⟨hol,hrl⟩,q,j+q.length,row,S',⟨hge,fun m hm=>hqr m (by omega)⟩,by omega,by omega,hS',hd',by rw [←hge];exact hL,rfl⟩
   rintro s ⟨q,j',row,S',hrow,hj3,hj4,hS',hd',hL,rfl⟩
   have hB':=hB.below hkl (dk l j')
   have hag: ∀x,x<(S.set k (dk l j')).length→S'.getD x []=(S.set k (dk l j')).getD x []:=fun x hx=>by
    rw [List.length_set] at hx
    by_cases e:x=k
    · subst e
      rw [Q0p _ _ _ _ hkS];exact hd'
    · rw [Q0g _ _ _ _ _ (fun e2=>e e2.symm)];exact hS'.2 x hx e
   rcases hL with ⟨h0,_⟩ | ⟨h0,kk,cap,R,rfl,k1,k2,k3,k4,k5⟩
   · omega
   refine W0s [false,false,false,true] ?_
   rcases hB.out with ⟨hO0,rfl⟩ | ⟨hi0,A,capA,RA,rfl,a1,a2,a3,a4,a5,a6⟩
   · simp -dsimp only [go_sem]
     refine⟨GrowOK.mk_one rfl (by decide) rfl (by omega) (by omega) rfl rfl,fun cap2 R2 hc2 hR2=> ?_⟩
     refine Q0a ?_
     simp -dsimp only [go_sem,x1]
     have hO:O= []:=List.eq_nil_of_length_eq_zero hO0
     subst hO
     have hB2:=Built.first hB' (Y:=S') (c:= .gr kk n cap) (by rw [List.length_set];exact hS'.1) (.gr _ _ _) ⟨k2,R,k3⟩ (by rw [List.length_set];exact k1) hc2 (by rw [hR2];omega)
     have hb2:=hS.trans hS'
     refine⟨n-1,by simp;omega,[q],j',_,_,_,_,by simp,by simp;omega,fun m hm=> ?_,by omega,by simp;omega,?_,?_,hB2,rfl⟩
     · have:m=0:=by simpa using hm
       subst this;exact hrow
     · exact⟨by simp;have:=hb2.1;omega,fun p hp hk=>by rw [Q0i _ _ _ _ (Nat.lt_of_lt_of_le hp hb2.1)];exact hb2.2 p hp hk⟩
     · have hlt1:=hd'.lt
       unfold atD at hd'⊢
       rw [Q0i _ _ _ _ hlt1];exact hd'
   · simp -dsimp only [go_sem]
     have gA:S'.getD A []=S.getD A []:=hS'.2 A a2 (by omega)
     refine⟨GrowOK.mk_one rfl (by decide) (by rw [gA,a4,List.length_append,hB.lcs];omega) (by omega) (by omega) rfl rfl,fun A' cap2 st' hG=> ?_⟩
     refine Q0a ?_
     simp -dsimp only [go_sem,x1]
     have hB2:=Built.grow hB' hi0 (Y:=S') (c:= .gr kk n cap) (by rw [List.length_set];exact hS'.1) hag (.gr _ _ _) ⟨k2,R,k3⟩ (by rw [List.length_set];exact k1) hG
     have hb2:=hS.trans hS'
     have hfc:=hB.flat_cs
     obtain⟨R',f1,f2,f3,f4,f5,f6,f7⟩:=GrowTo.facts (es:=cs) hG (Nat.lt_of_lt_of_le a2 hS'.1) (by rw [gA,hfc];exact a4) (by rw [hfc,hB.lcs,Nat.mul_one]) rfl (by rw [Nat.mul_one];exact a5) a6
     refine⟨n-(O.length+1),by omega,O++ [q],j',_,_,_,st',by simp,by simp;omega,fun m hm=> ?_,by omega,by simp;omega,?_,?_,by rw [List.length_append,List.map_append];exact hB2,by simp⟩
     · by_cases hm2:m<O.length
       · rw [K3n _ _ _ _ hm2];exact hr m hm2
       · have e:m=O.length:=by simp at hm;omega
         rw [e,j2r];exact hrow
     · exact⟨Nat.le_trans hb2.1 f6,fun p hp hk=>by rw [f7 p (Nat.lt_of_lt_of_le hp hb2.1) (by omega)];exact hb2.2 p hp hk⟩
     · have hlt1:=hd'.lt
       unfold atD at hd'⊢
       rw [f7 k hlt1 (by omega)];exact hd'
 have hge:O.length=n:=by have:=of_decide_eq_false h1;omega
 rw [hge] at hB
 obtain⟨A,cap,R,rfl,hA,hAl,hAc,hM,hU⟩:=hB.done (by omega)
 have hid:ids.length=n:=hB.lid
 have hkA:k≠A:=by omega
 have hS2:Beside st (S.set A ((ids.map fun i=>PV.ms true i 0 n)++R)) k:=⟨by rw [List.length_set];exact hS.1,fun p hp hk=>by rw [Q0g _ _ _ _ _ (by omega)];exact hS.2 p hp hk⟩
 have hd2:atD (S.set A ((ids.map fun i=>PV.ms true i 0 n)++R)) k l j:=by
  unfold atD at hd⊢
  rw [Q0g _ _ _ _ _ (fun e=>hkA e.symm)];exact hd
 have tA:(S.set A ((ids.map fun i=>PV.ms true i 0 n)++R)).getD A []=(ids.map fun i=>PV.ms true i 0 n)++R:=Q0p _ _ _ _ hAl
 have hAl2:A<(S.set A ((ids.map fun i=>PV.ms true i 0 n)++R)).length:=by rw [List.length_set];exact hAl
 have hrow: ∀m,m<n→ids.getD m 0≠A∧st.length≤ids.getD m 0∧RowAt (S.set A ((ids.map fun i=>PV.ms true i 0 n)++R)) (ids.getD m 0) (rowC (O.getD m [])):=fun m hm=>by
  have hm':ids.getD m 0∈ids:=K0c (by omega)
  have h2:=hM.row m hm
  have e:(O.map rowC).getD m []=rowC (O.getD m []):=by
   rw [List.getD_eq_getElem?_getD,List.getElem?_map,List.getD_eq_getElem?_getD,List.getElem?_eq_getElem (show m<O.length by omega)];rfl
  rw [e] at h2
  exact⟨fun e=>hM.na (e▸hm'),hB.ge _ hm',h2⟩
 have hsm: ∀a b,a<n→b<n→ids.getD a 0=ids.getD b 0→O.getD a []=O.getD b []:=fun a b ha hb e=>by
  by_cases e2:a=b
  · rw [e2]
  · exact absurd e (hM.nd a b (by omega) (by omega) e2)
 refine G2s 5 A n cap rfl _ (by rw [List.length_set]) hU ?_
 revert hS2 hd2 tA hAl2 hrow
 generalize S.set A ((ids.map fun i=>PV.ms true i 0 n)++R)=S2
 intro hS2 hd2 tA hAl2 hrow
 simp -dsimp only [go_sem]
 refine V0w [true,true,false,false,false,true] 0 0 (fun s=> ∃(O':List (List Nm)) (j':Nat) (ids':List Nat) (S':Q0f),O'.length=n∧(∀m,m<n→okRowS n (O'.getD m []))∧j≤j'∧j'≤j+1∧Beside st S' k∧atD S' k l j'∧A<S'.length∧ids'.length=n∧(S'.getD A []=(ids'.map fun i=>PV.ms true i 0 n)++R)∧
  (∀m,m<n→ids'.getD m 0≠A∧st.length≤ids'.getD m 0∧RowAt S' (ids'.getD m 0) (rowC (O'.getD m [])))∧(∀a b,a<n→b<n→ids'.getD a 0=ids'.getD b 0→O'.getD a []=O'.getD b [])∧
  s=⟨[.gp k 0,.sc (.int .i64 n)]++(List.replicate 3 .junk++([.ms true A 0 n]++(List.replicate 36 .junk))),[],[],S'⟩) ?_ ?_
 · have hr': ∀m,m<n→okRowS n (O.getD m []):=fun m hm=>hr m (by omega)
   by_cases h3:1<n
   rotate_left
   · have d1:decide ((n:Int)>1)=false:=decide_eq_false (by omega)
     simp -dsimp only [go_sem,d1]
     exact⟨O,j,ids,S2,hge,hr',by omega,by omega,hS2,hd2,hAl2,hid,tA,hrow,hsm,rfl⟩
   have d1:decide ((n:Int)>1)=true:=decide_eq_true (by omega)
   simp -dsimp only [go_sem,d1]
   refine(J3y l j k 9 _ hd2 (by omega) (by omega) (by omega)).mono ?_
   rintro r st' ⟨rfl,rfl⟩
   simp -dsimp only [go_sem,d1]
   have hS3:=hS2.deck (dk l (j+1))
   have hd3:atD (S2.set k (dk l (j+1))) k l (j+1):=hd2.set (j+1)
   have tA3:(S2.set k (dk l (j+1))).getD A []=(ids.map fun i=>PV.ms true i 0 n)++R:=by rw [Q0g _ _ _ _ _ hkA];exact tA
   have hAl3:A<(S2.set k (dk l (j+1))).length:=by rw [List.length_set];exact hAl2
   have hrow3: ∀m,m<n→ids.getD m 0≠A∧st.length≤ids.getD m 0∧RowAt (S2.set k (dk l (j+1))) (ids.getD m 0) (rowC (O.getD m [])):=fun m hm=>by
    obtain⟨c1,c2,c3⟩:=hrow m hm
    exact⟨c1,c2,c3.mono (by simp) (Q0g _ _ _ _ _ (by omega))⟩
   revert hS3 hd3 tA3 hAl3 hrow3
   generalize S2.set k (dk l (j+1))=S3
   intro hS3 hd3 tA3 hAl3 hrow3
   refine ck (fun h4=> ?_) (fun h4=> ?_)
   rotate_left
   · simp -dsimp only [go_sem]
     exact⟨O,j+1,ids,S3,hge,hr',by omega,by omega,hS3,hd3,hAl3,hid,tA3,hrow3,hsm,rfl⟩
   have x3:IntKind.i64.wrap ((n:Int)-1)=((n-1:Nat):Int):=by rw [Q0r _ (by omega) (by omega)];omega
   have g0:(S3.getD A []).getD 0 .junk= .ms true (ids.getD 0 0) 0 n:=by
    rw [tA3,Q0i _ _ _ _ (by rw [List.length_map];omega),List.getD_eq_getElem?_getD,List.getElem?_map,List.getD_eq_getElem?_getD,List.getElem?_eq_getElem (show 0<ids.length by omega)];rfl
   have g1:n≤(S3.getD A []).length:=by rw [tA3,List.length_append,List.length_map];omega
   have g2:over (S3.getD A []) (n-1) [.ms true (ids.getD 0 0) 0 n]=((ids.set (n-1) (ids.getD 0 0)).map fun i=>PV.ms true i 0 n)++R:=by
    rw [tA3,H0p (by rw [List.length_map];omega),List.map_set]
   simp -dsimp only [go_sem,x3,g0]
   refine⟨by omega,by omega,⟨by omega,by omega⟩,⟨by omega,by omega⟩,O.set (n-1) (O.getD 0 []),j+1,ids.set (n-1) (ids.getD 0 0),_,by rw [List.length_set];exact hge,fun m hm=> ?_,by omega,by omega,?_,?_,?_,by rw [List.length_set];exact hid,?_,?_,?_,rfl⟩
   · by_cases e:n-1=m
     · rw [e,Q0p _ _ _ _ (by omega)];exact hr' 0 (by omega)
     · rw [Q0g _ _ _ _ _ e];exact hr' m hm
   · exact⟨by rw [List.length_set];exact hS3.1,fun p hp hk=>by rw [Q0g _ _ _ _ _ (by omega)];exact hS3.2 p hp hk⟩
   · unfold atD at hd3⊢
     rw [Q0g _ _ _ _ _ (fun e=>hkA e.symm)];exact hd3
   · rw [List.length_set];exact hAl3
   · rw [Q0p _ _ _ _ hAl3,g2]
   · intro m hm
     by_cases e:n-1=m
     · obtain⟨c1,c2,c3⟩:=hrow3 0 (by omega)
       rw [e,Q0p _ _ _ _ (by omega),Q0p _ _ _ _ (by omega)]
       exact⟨c1,c2,c3.mono (by simp) (Q0g _ _ _ _ _ (fun e=>c1 e.symm))⟩
     · obtain⟨c1,c2,c3⟩:=hrow3 m hm
       rw [Q0g _ _ _ _ _ e,Q0g _ _ _ _ _ e]
       exact⟨c1,c2,c3.mono (by simp) (Q0g _ _ _ _ _ (fun e=>c1 e.symm))⟩
   · intro a b ha hb e
     by_cases ea:n-1=a
     · by_cases eb:n-1=b
       · rw [←ea,←eb]
       · rw [←ea,Q0p _ _ _ _ (by omega),Q0g _ _ _ _ _ eb] at e
         rw [←ea,Q0p _ _ _ _ (by omega),Q0g _ _ _ _ _ eb]
         exact hsm 0 b (by omega) hb e
     · by_cases eb:n-1=b
       · rw [←eb,Q0p _ _ _ _ (by omega),Q0g _ _ _ _ _ ea] at e
         rw [←eb,Q0p _ _ _ _ (by omega),Q0g _ _ _ _ _ ea]
         exact hsm a 0 ha (by omega) e
       · rw [Q0g _ _ _ _ _ ea,Q0g _ _ _ _ _ eb] at e
         rw [Q0g _ _ _ _ _ ea,Q0g _ _ _ _ _ eb]
         exact hsm a b ha hb e
 rintro s ⟨O',j',ids',S',b1,b2,b3,b4,b5,b6,b7,b8,b9,b10,b11,rfl⟩
 refine Q0a ?_
 simp -dsimp only [go_sem]
 exact⟨O',j',A,ids',R,b1,b2,by omega,by omega,rfl,b5,b6,hA,b7,b8,b9,b10,b11⟩
end Go.Pv
end
section
/-InvDrawn. -/
set_option maxRecDepth 100000
namespace Go.Pv
open Go.Proofs
structure PtsO (S:Q0f) (A n:Nat) (ids:List Nat) (a:List (List Nm)) (Z:List PV):Prop where
 sq:sqR n a
 lt:A<S.length
 ge:1≤A
 lid:ids.length=n
 top:S.getD A []=(ids.map fun i=>PV.ms true i 0 n)++Z
 row: ∀m,m<n→ids.getD m 0≠A∧1≤ids.getD m 0∧RowAt S (ids.getD m 0) (rowC (a.getD m []))
 same: ∀i j,i<n→j<n→ids.getD i 0=ids.getD j 0→a.getD i []=a.getD j []
theorem PtsO.deck {S:Q0f} {A n:Nat} {ids:List Nat} {a:List (List Nm)} {Z:List PV} (h:PtsO S A n ids a Z) (c:List PV):PtsO (S.set 0 c) A n ids a Z:=by
 have:=h.ge
 refine⟨h.sq,by rw [List.length_set];exact h.lt,h.ge,h.lid,by rw [Q0g _ _ _ _ _ (by omega)];exact h.top,fun m hm=> ?_,h.same⟩
 obtain⟨c1,c2,c3⟩:=h.row m hm
 exact⟨c1,c2,c3.mono (by simp) (Q0g _ _ _ _ _ (by omega))⟩
def putA (n:Nat) (ids:List Nat) (a:List (List Nm)) (x:Nm):List (List Nm):=(List.range n).map fun m=>if ids.getD m 0=ids.getD 0 0 then(a.getD 0 []).set 0 x else a.getD m []
theorem W1s {n m:Nat} {ids:List Nat} {a:List (List Nm)} {x:Nm} (h:m<n):(putA n ids a x).getD m []=if ids.getD m 0=ids.getD 0 0 then(a.getD 0 []).set 0 x else a.getD m []:=by
 unfold putA
 rw [List.getD_eq_getElem?_getD,List.getElem?_map,List.getElem?_range h];rfl
theorem PtsO.put {S:Q0f} {A n:Nat} {ids:List Nat} {a:List (List Nm)} {Z:List PV} (h:PtsO S A n ids a Z) (hn:1≤n) {x:Nm} (hx:Q0j x=true):
 PtsO (S.set (ids.getD 0 0) (over (S.getD (ids.getD 0 0) []) 0 (encN x))) A n ids (putA n ids a x) Z:=by
 obtain⟨r1,r2,r3,R,hR⟩:=h.row 0 (by omega)
 have h0:=h.sq.row (i:=0) (by omega)
 have ho:over (S.getD (ids.getD 0 0) []) 0 (encN x)=rowC ((a.getD 0 []).set 0 x)++R:=by
  rw [hR]
  have:=G0u (a.getD 0 []) 0 R x (by rw [h0.1];omega)
  rwa [Nat.zero_mul] at this
 rw [ho]
 have hrr:((a.getD 0 []).set 0 x).length=n∧ ∀c∈(a.getD 0 []).set 0 x,Q0j c=true:=⟨by rw [List.length_set];exact h0.1,fun c hc=>by
  rcases List.mem_or_eq_of_mem_set hc with hc | rfl
  · exact h0.2 c hc
  · exact hx⟩
 refine⟨⟨by simp [putA],fun r hr=> ?_⟩,by rw [List.length_set];exact h.lt,h.ge,h.lid,by rw [Q0g _ _ _ _ _ r1];exact h.top,fun m hm=> ?_,fun i j hi hj e=> ?_⟩
 · simp only [putA,List.mem_map,List.mem_range] at hr
   obtain⟨m,hm,rfl⟩:=hr
   split
   · exact hrr
   · exact h.sq.row hm
 · obtain⟨c1,c2,c3⟩:=h.row m hm
   refine⟨c1,c2,?_⟩
   rw [W1s hm]
   split
   · rename_i e
     rw [e]
     exact RowAt.set r3
   · rename_i e
     exact c3.mono (by simp) (Q0g _ _ _ _ _ (fun e2=>e e2.symm))
 · rw [W1s hi,W1s hj,e]
   split
   · rfl
   · exact h.same i j hi hj e
set_option maxHeartbeats 2000000 in
theorem Q2j (l:List UInt64):PCalls Tryz.prog 4 [.sl .no (encW l)] [] (fun r st'=>r= .sc (.bool true)):=by
 refine Q0b none Tryz.func4 rfl fun E=>Q0l (Q0a ?_)
 simp -dsimp only [go_sem]
 refine Q0l (Q0a ?_)
 simp -dsimp only [go_sem]
 refine(q2n _).mono ?_
 rintro res st' ⟨rfl,rfl⟩
 simp -dsimp only [go_sem]
 refine Q0l (Q0a ?_)
 simp -dsimp only [go_sem]
 refine(x2f l _).mono ?_
 rintro res st' ⟨rfl,rfl⟩
 simp -dsimp only [go_sem]
 refine Q0l (Q0a ?_)
 simp -dsimp only [go_sem]
 refine(j3c l 0 0 [dk l 0] rfl (by omega)).mono ?_
 rintro res st' ⟨n,hn1,hn4,rfl,rfl⟩
 simp -dsimp only [go_sem]
 refine Q0l (Q0a ?_)
 simp -dsimp only [go_sem]
 refine(Y1p l 1 0 n [dk l 1] rfl (by omega) (by omega) (by omega)).mono ?_
 rintro res S ⟨a,j1,A,ids,Z,hla,hra,hj1,hj2,rfl,hS,hd,hA,hAl,hid,htop,hrow,hsame⟩
 have hP:PtsO S A n ids a Z:=⟨okRowS.sq hla hra,hAl,hA,hid,htop,hrow,hsame⟩
 clear htop hrow hsame hra hla hS
 simp -dsimp only [go_sem]
 refine V0w [false,false,false,true,false,true] 0 0 (fun s=> ∃(a':List (List Nm)) (j':Nat) (S':Q0f),j'≤200∧PtsO S' A n ids a' Z∧atD S' 0 l j'∧s=⟨[.junk,.junk,.junk,.gp 0 0,.junk,.ms true A 0 n]++List.replicate 21 .junk,[],[],S'⟩) ?_ ?_
 · simp -dsimp only [go_sem]
   refine(J3y l j1 0 4 _ hd (by omega) (by omega) (by omega)).mono ?_
   rintro r st' ⟨rfl,rfl⟩
   have hP1:=hP.deck (dk l (j1+1))
   have hd1:atD (S.set 0 (dk l (j1+1))) 0 l (j1+1):=hd.set (j1+1)
   revert hP1 hd1
   generalize S.set 0 (dk l (j1+1))=S1
   intro hP1 hd1
   simp -dsimp only [go_sem]
   refine ck (fun h4=> ?_) (fun h4=> ?_)
   rotate_left
   · simp -dsimp only [go_sem]
     exact⟨a,j1+1,S1,by omega,hP1,hd1,rfl⟩
   have g0:(S1.getD A []).getD 0 .junk= .ms true (ids.getD 0 0) 0 n:=by
    rw [hP1.top,Q0i _ _ _ _ (by rw [List.length_map];omega)]
    rw [List.getD_eq_getElem?_getD,List.getElem?_map,List.getD_eq_getElem?_getD,List.getElem?_eq_getElem (show 0<ids.length by omega)];rfl
   have g1:n≤(S1.getD A []).length:=by rw [hP1.top,List.length_append,List.length_map];omega
   simp -dsimp only [go_sem]
   refine Q0k Z0f 27 (.step 0 [] (.step 1 [] (.step 2 [] (.step 3 [] (.step 4 [2] (.step 5 [] (.step 6 [] (.done)))))))) (by decide+kernel) (by simp) ?_
   simp -dsimp only [go_sem,g0]
   refine⟨by omega,by omega,?_⟩
   refine(W2g l (j1+1) 0 S1 hd1 (by omega)).mono ?_
   rintro r st' ⟨x,j2,hx,hk1,hk2,rfl,rfl⟩
   have hP2:=hP1.deck (dk l j2)
   have hd2:atD (S1.set 0 (dk l j2)) 0 l j2:=hd1.set j2
   revert hP2 hd2
   generalize S1.set 0 (dk l j2)=S2
   intro hP2 hd2
   have hP3:=hP2.put hn1 hx
   obtain⟨r1,r2,r3,R,hR⟩:=hP2.row 0 (by omega)
   have h0:=hP2.sq.row (i:=0) (by omega)
   have g2:n*3≤(S2.getD (ids.getD 0 0) []).length:=by rw [hR,List.length_append,J0n,h0.1];omega
   have hd3:atD (S2.set (ids.getD 0 0) (over (S2.getD (ids.getD 0 0) []) 0 (encN x))) 0 l j2:=by
    unfold atD at hd2⊢
    rw [Q0g _ _ _ _ _ (by omega)];exact hd2
   simp -dsimp only [go_sem]
   have g3:(S2.getD A []).getD 0 .junk= .ms true (ids.getD 0 0) 0 n:=by
    rw [hP2.top,Q0i _ _ _ _ (by rw [List.length_map];omega)]
    rw [List.getD_eq_getElem?_getD,List.getElem?_map,List.getD_eq_getElem?_getD,List.getElem?_eq_getElem (show 0<ids.length by omega)];rfl
   have g4:n≤(S2.getD A []).length:=by rw [hP2.top,List.length_append,List.length_map];omega
   exact⟨⟨by omega,g3.symm⟩,by omega,⟨by omega,by omega⟩,_,j2,_,by omega,hP3,hd3,rfl⟩
 rintro s ⟨a',j',S',hj',hP',hd',rfl⟩
 have sa:=hP'.sq
 refine K1c (t:=5) (by omega) (fun m hm=>(hP'.row m hm).2.2) (fun m hm=>(sa.row hm).1) sa.1 hP'.same (fun m hm=>(hP'.row m hm).1) hP'.lt hP'.lid hP'.top rfl fun st2 hs2 ho2=> ?_
 have hd2:atD st2 0 l j':=by
  unfold atD at hd'⊢
  have:=hP'.ge
  rw [ho2 0 (by omega) fun hm=> ?_]
  · exact hd'
  · obtain⟨m,hm1,hm2⟩:=List.mem_iff_getElem.1 hm
    have:=(hP'.row m (by rw [←hP'.lid];exact hm1)).2.1
    rw [List.getD_eq_getElem?_getD,List.getElem?_eq_getElem hm1,Option.getD_some,hm2] at this
    omega
 simp -dsimp only [go_sem]
 refine Q0a ?_
 simp -dsimp only [go_sem]
 refine(V3h l j' 0 st2 hd2 (by omega)).mono ?_
 rintro res st' ⟨p,j2,hp1,hp2,hj3,hj4,rfl,rfl⟩
 simp -dsimp only [go_sem]
 refine(X3e a' p _ (sa.wQs (by omega))).mono ?_
 rintro res st' ⟨rfl,rfl⟩
 simp -dsimp only [go_sem]
end Go.Pv
end
