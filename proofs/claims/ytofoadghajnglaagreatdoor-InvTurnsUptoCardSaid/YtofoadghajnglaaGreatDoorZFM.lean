/- Parts of the walk: N155. -/
import Derived.Test.YtofoadghajnglaaGreatDoorZEN
import Derived.Test.YtofoadghajnglaaGreatDoorZAM
import Derived.Test.YtofoadghajnglaaGreatDoorZFK
import Derived.Test.YtofoadghajnglaaGreatDoorZFG
set_option linter.unusedVariables false
set_option linter.unusedSimpArgs false
section
/-The deck's small points;InvTurns. -/
set_option maxRecDepth 100000
namespace Go.Pv
open Go.Proofs
def okRowS (n:Nat) (q:List Nm):Prop:=q.length=n∧ ∀i,i<n→smN (q.getD i default)
set_option maxHeartbeats 4000000 in
theorem v0t (l:List UInt64) (i k n:Nat) (st:Q0d) (h:atD st k l i) (hi:i≤600000000000) (hn:1≤n) (hn4:n≤4):PCalls Tryz.prog 18 [.gp k 0,.sc (.int .i64 n)] st
 (fun r st'=> ∃q j,q.length=n∧(∀m,m<n→okRowS n (q.getD m []))∧i≤j∧j≤i+100∧r= .sl .no (encQ q)∧st'=st.set k (dk l j)):=by
 refine Q0b none Tryz.func18 rfl fun E=>Q0a ?_
 simp -dsimp only [go_sem]
 refine W2c ?_
 refine X2r 5 0 (by simp) (by rfl) ?_
 simp -dsimp only [go_sem]
 refine J0o [true,true,false,false,false,true,true] 1 0 (fun c s=> ∃(O:List (List Nm)) (j cap:Nat) (R:List PV),c=n-O.length∧O.length≤n∧(∀m,m<O.length→okRowS n (O.getD m []))∧i≤j∧j≤i+4*O.length∧R.length=(cap-O.length)*1∧O.length≤cap∧R.all PV.quiet=true∧
  s=⟨[.gp k 0,.sc (.int .i64 n)]++(List.replicate 3 .junk++([.mr 0 O.length cap,.sc (.int .i64 O.length)]++(List.replicate 35 .junk))),[encQ O++R],[],st.set k (dk l j)⟩) n ?_ ?_
 · simp -dsimp only [go_sem]
   refine⟨[],i,0,[],by simp,by simp,fun m hm=>by simp at hm,by omega,by omega,rfl,Nat.le_refl _,rfl,?_⟩
   rw [h.same];rfl
 · rintro c s ⟨O,j,cap,R,rfl,hO,hr,hj,hj2,r1,r2,r3,rfl⟩
   have hall:(encQ O++R).all PV.quiet=true:=by rw [List.all_append,G0y,r3];rfl
   have hlims0:=Y0n (a:=1) (b:=0) r3
   have hlims1:=Y0n (a:=1) (b:=1) r3
   refine Q0n (Q0a ?_)
   simp -dsimp only [go_sem]
   refine ck (fun h1=> ?_) (fun h1=> ?_)
   · have hlt:O.length<n:=by have:=of_decide_eq_true h1;omega
     have x1:=V0b O.length (by omega)
     simp -dsimp only [go_sem]
     refine Q0n (V0e ?_)
     refine Q0n (Q0a ?_)
     simp -dsimp only [go_sem]
     refine J0j 7 3 ?_
     simp -dsimp only [go_sem]
     have hlA:=Y0n (a:=1) (b:=1) hall
     refine K0q [true,true,false,false,false,true,true,true] 1 1 (fun s=> ∃(q:List Nm) (j':Nat),okRowS n q∧j≤j'∧j'≤j+n∧s=⟨[.gp k 0,.sc (.int .i64 n)]++(List.replicate 3 .junk++([.mr 0 O.length cap,.sc (.int .i64 O.length),.sl (.own 0) (Z0n q)]++(List.replicate 34 .junk))),[encQ O++R],[(q.length,3)],st.set k (dk l j')⟩) ?_ ?_
     · simp -dsimp only [go_sem]
       refine Q0e [true,true,false,false,false,true,true,true,true] 1 1 (fun c s=> ∃(q:List Nm),c=n-q.length∧q.length≤n∧(∀m,m<q.length→smN (q.getD m default))∧s=⟨[.gp k 0,.sc (.int .i64 n)]++(List.replicate 3 .junk++([.mr 0 O.length cap,.sc (.int .i64 O.length),.sl (.own 0) (Z0n q),.sc (.int .i64 q.length)]++(List.replicate 33 .junk))),[encQ O++R],[(q.length,3)],st.set k (dk l (j+q.length))⟩) n ?_ ?_
       · simp -dsimp only [go_sem]
         refine⟨hlA,[],by simp,by simp,fun m hm=>by simp at hm,?_⟩
         rfl
       · rintro c s ⟨q,rfl,hq,hqr,rfl⟩
         simp -dsimp only [go_sem]
         refine ck (fun h2=> ?_) (fun h2=> ?_)
         · have hlt2:q.length<n:=by have:=of_decide_eq_true h2;omega
           have x2:=V0b q.length (by omega)
           simp -dsimp only [go_sem]
           refine(z2k l (j+q.length) k _ (h.set (j+q.length)) (by omega)).mono ?_
           rintro r st' ⟨x,hx,rfl,rfl⟩
           simp -dsimp only [go_sem,V2h,x2]
           refine⟨by omega,hlA,n-(q.length+1),by omega,q++ [x],by simp,by simp;omega,fun m hm=> ?_,by simp [Z0n,encN,Nat.add_assoc]⟩
           by_cases hm2:m<q.length
           · rw [G3z _ _ _ _ hm2];exact hqr m hm2
           · have e:m=q.length:=by simp at hm;omega
             rw [e,y2f];exact hx
         · have hge:q.length=n:=by have:=of_decide_eq_false h2;omega
           simp -dsimp only [go_sem]
           exact⟨hlA,q,j+q.length,⟨hge,fun m hm=>hqr m (by omega)⟩,by omega,by omega,rfl⟩
     rintro s ⟨q,j',hrow,hj3,hj4,rfl⟩
     refine x2m [false,false,false,true,false] ?_
     have t1:=W1q O R O.length rfl
     rw [Nat.mul_one] at t1
     simp -dsimp only [go_sem,t1,G2g]
     refine⟨z2x rfl r2 r1 r3 (by omega) (by omega),?_⟩
     intro c1 R1 g1 g2 g3
     have hall2:(encQ (O++ [q])++R1).all PV.quiet=true:=by rw [List.all_append,G0y,g3];rfl
     have hlims:=Y0n (a:=1) (b:=0) hall2
     refine Q0a ?_
     simp -dsimp only [go_sem,x1]
     refine⟨hlims,n-(O.length+1),by omega,O++ [q],j',c1,R1,by simp,by simp;omega,fun m hm=> ?_,by omega,by simp;omega,by rw [g2];simp,by simpa using g1,g3,by simp⟩
     by_cases hm2:m<O.length
     · rw [G3z _ _ _ _ hm2];exact hr m hm2
     · have e:m=O.length:=by simp at hm;omega
       rw [e,y2f];exact hrow
   · have hge:O.length=n:=by have:=of_decide_eq_false h1;omega
     have hlB:=Y0n (a:=1) (b:=0) hall
     simp -dsimp only [go_sem]
     refine K0q [true,true,false,false,false,true] 1 0 (fun s=> ∃(O':List (List Nm)) (j':Nat),O'.length=n∧(∀m,m<n→okRowS n (O'.getD m []))∧j≤j'∧j'≤j+1∧s=⟨[.gp k 0,.sc (.int .i64 n)]++(List.replicate 3 .junk++([.mr 0 n cap]++(List.replicate 36 .junk))),[encQ O'++R],[],st.set k (dk l j')⟩) ?_ ?_
     · rw [hge] at r1 r2 hr
       by_cases h3:1<n
       rotate_left
       · have d1:decide ((n:Int)>1)=false:=decide_eq_false (by omega)
         simp -dsimp only [go_sem,d1]
         exact⟨hlB,O,j,hge,hr,by omega,by omega,by rw [hge]⟩
       have d1:decide ((n:Int)>1)=true:=decide_eq_true (by omega)
       simp -dsimp only [go_sem,d1]
       refine(Z4z l j k 9 _ (h.set j) (by omega) (by omega) (by omega)).mono ?_
       rintro r st' ⟨rfl,rfl⟩
       simp -dsimp only [go_sem,d1,V2h]
       refine ck (fun h4=> ?_) (fun h4=> ?_)
       · have x3:IntKind.i64.wrap ((n:Int)-1)=((n-1:Nat):Int):=by rw [Q0v _ (by omega) (by omega)];omega
         have g0:(encQ O++R).getD 0 .junk= .sl .no (Z0n (O.getD 0 [])):=by rw [Q0i _ _ _ _ (by rw [V0m];omega),H0z O 0 (by omega)]
         have hx0:(encQ O++R).length=O.length+R.length:=by rw [List.length_append,V0m]
         have ho:over (encQ O++R) (n-1) [PV.sl .no (Z0n (O.getD 0 []))]=encQ (O.set (n-1) (O.getD 0 []))++R:=by
          unfold over
          rw [List.take_append_of_le_length (by rw [V0m];omega),List.drop_append_of_le_length (by rw [V0m];simp;omega)]
          have e:encQ (O.set (n-1) (O.getD 0 []))=(encQ O).set (n-1) (.sl .no (Z0n (O.getD 0 []))):=by simp [encQ,List.map_set]
          rw [e,List.set_eq_take_append_cons_drop,if_pos (by rw [V0m];omega)]
          simp [List.append_assoc]
         have hlC:(encQ (O.set (n-1) (O.getD 0 []))++R).all (PV.lim 1 0)=true:=Y0n (by rw [List.all_append,G0y,r3];rfl)
         simp -dsimp only [go_sem,x3,hge,hx0,g0,ho]
         refine⟨by omega,by omega,⟨by omega,by omega⟩,⟨by omega,by omega⟩,hlC,O.set (n-1) (O.getD 0 []),j+1,by simp [hge],fun m hm=> ?_,by omega,by omega,rfl⟩
         by_cases e:n-1=m
         · rw [e,Q0u _ _ _ _ (by omega)];exact hr 0 (by omega)
         · rw [Q0q _ _ _ _ _ e];exact hr m hm
       · simp -dsimp only [go_sem]
         exact⟨hlB,O,j+1,hge,hr,by omega,by omega,by rw [hge]⟩
     rintro s ⟨O',j',hl',hr',hj3,hj4,rfl⟩
     have hall':(encQ O'++R).all PV.quiet=true:=by rw [List.all_append,G0y,r3];rfl
     refine x2n 5 0 n cap (by rfl) (by omega) ?_
     simp -dsimp only [go_sem]
     have hft:List.take n (List.map PV.forget2 (encQ O'++R))=encQ O':=by
      have e:List.map PV.forget2 (encQ O')=encQ O':=by simp [encQ,PV.forget2,PV.forget1]
      have:=W1q O' (R.map PV.forget2) n hl'.symm
      rw [Nat.mul_one] at this
      rw [List.map_append,e];exact this
     have hln:n≤O'.length+R.length:=by omega
     refine Z0w 0 (by simp only [k1w];exact x2i hall') ?_
     simp -dsimp only [go_sem,hft,hln]
     refine Q0a ?_
     simp -dsimp only [go_sem]
     exact⟨O',j',hl',hr',by omega,by omega,rfl,rfl⟩
theorem okRowS.sq {n:Nat} {q:List (List Nm)} (hl:q.length=n) (h: ∀m,m<n→okRowS n (q.getD m [])):sqR n q:=by
 refine⟨hl,fun r hr=> ?_⟩
 obtain⟨i,hi,rfl⟩:=List.mem_iff_getElem.1 hr
 have:=h i (by omega)
 rw [List.getD_eq_getElem?_getD,List.getElem?_eq_getElem hi] at this
 refine⟨this.1,fun c hc=> ?_⟩
 obtain⟨j,hj,rfl⟩:=List.mem_iff_getElem.1 hc
 have h2:=this.2 j (by have:=this.1;show j<n;rw [←this];exact hj)
 rw [Option.getD_some,List.getD_eq_getElem?_getD,List.getElem?_eq_getElem hj] at h2
 exact h2.1
theorem okRowS.bd {n:Nat} {q:List (List Nm)} (h: ∀m,m<n→okRowS n (q.getD m [])):bdQ n 18 q:=fun i hi j hj=>(q3k ((h i hi).2 j hj).2).mono (by omega) (by omega)
theorem sqR.wQs {n:Nat} {a:List (List Nm)} (h:sqR n a) (h4:n≤4):wQs a:=by
 refine⟨by rw [h.1];omega,fun i hi=>⟨?_,fun j hj=> ?_⟩⟩
 · rw [(h.row (by rw [←h.1];exact hi)).1];omega
 · exact Z0c ((h.row (by rw [←h.1];exact hi)).2 _ (Q0r _ _ _ hj))
set_option maxHeartbeats 1000000 in
theorem J2g (l:List UInt64):PCalls Tryz.prog 6 [.sl .no (encW l)] [] (fun r st'=>r= .sc (.bool true)):=by
 refine Q0b none Tryz.func6 rfl fun E=>Q0a ?_
 simp -dsimp only [go_sem]
 refine(Q2f _).mono ?_
 rintro res st' ⟨rfl,rfl⟩
 simp -dsimp only [go_sem]
 refine(Q2x l _).mono ?_
 rintro res st' ⟨rfl,rfl⟩
 simp -dsimp only [go_sem]
 refine(j3k l 0 0 [dk l 0] rfl (by omega)).mono ?_
 rintro res st' ⟨n,hn1,hn4,rfl,rfl⟩
 simp -dsimp only [go_sem]
 refine(v0t l 1 0 n [dk l 1] rfl (by omega) (by omega) (by omega)).mono ?_
 rintro res st' ⟨a,j1,hla,hra,hj1,hj2,rfl,rfl⟩
 simp -dsimp only [go_sem]
 refine(y2o l j1 0 [dk l j1] rfl (by omega)).mono ?_
 rintro res st' ⟨p,j2,hp1,hp2,hj3,hj4,rfl,rfl⟩
 have hp:=w0o hp1 hp2
 have sa:=okRowS.sq hla hra
 have ba:=okRowS.bd hra
 have wa:=sa.wQs (by omega)
 have wq:=sa.wQ (by omega)
 simp -dsimp only [go_sem]
 refine(v0e a p _ wa).mono ?_
 rintro res st' ⟨rfl,rfl⟩
 by_cases he:(Z0z a p).2=0
 rotate_left
 · have g:=j3t he
   have hz:=w0h he
   simp -dsimp only [go_sem,g,hz]
   try rfl
 have g:=j3u he
 rw [←hla] at ba
 obtain⟨X,Y,e1,e2,i1,i2⟩:=x1y he ba
 rw [hla] at i1 i2
 have wS:=w1h a p
 have wO:=q1g wq
 have c1:=U1a (Z0z a p).1 (ofM a) p [dk l j2] wS wO
 have c2:=U1a (ofM a) (Z0z a p).1 p [dk l j2] wO wS
 have wX:=k1c (Z0z a p).1 (ofM a) p
 have wY:=k1c (ofM a) (Z0z a p).1 p
 rw [e1] at c1 wX
 rw [e2] at c2 wY
 have wI:wM (idM (n:Int)):=by rw [←W2q];exact q1g (W2p _)
 have z0:((0:Int)==0)=true:=rfl
 simp -dsimp only [go_sem,g]
 refine(k1h a _ wq).plain.mono ?_
 rintro res st' ⟨rfl,rfl⟩
 simp -dsimp only [go_sem]
 refine c1.mono ?_
 rintro res st' ⟨rfl,rfl⟩
 simp -dsimp only [go_sem]
 refine(k1h a _ wq).plain.mono ?_
 rintro res st' ⟨rfl,rfl⟩
 simp -dsimp only [go_sem]
 refine c2.mono ?_
 rintro res st' ⟨rfl,rfl⟩
 simp -dsimp only [go_sem,z0]
 refine(k1i _ _).mono ?_
 rintro res st' ⟨rfl,rfl⟩
 simp -dsimp only [go_sem,z0]
 refine(Y2p (idM (n:Int)) X _ wI wX).mono ?_
 rintro res st' ⟨rfl,rfl⟩
 simp -dsimp only [go_sem,z0,i1]
 refine(k1i _ _).mono ?_
 rintro res st' ⟨rfl,rfl⟩
 simp -dsimp only [go_sem,z0,i1]
 refine(Y2p (idM (n:Int)) Y _ wI wY).mono ?_
 rintro res st' ⟨rfl,rfl⟩
 simp -dsimp only [go_sem,i2]
end Go.Pv
end
