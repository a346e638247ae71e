/- Parts of the walk: N34, N35, N36, N37, N38, N39, N40, N41, N42, N43. -/
import Derived.Test.YtofoadghajnglaaGreatDoorZAQ
import Derived.Test.YtofoadghajnglaaGreatDoorZM
import Derived.Test.YtofoadghajnglaaGreatDoorZAF
import Derived.Test.YtofoadghajnglaaGreatDoorZAH
import Derived.Test.YtofoadghajnglaaGreatDoorZAM
import Derived.Test.YtofoadghajnglaaGreatDoorZAL
import Derived.Test.YtofoadghajnglaaGreatDoorZAW
set_option linter.unusedVariables false
set_option linter.unusedSimpArgs false
section
/-The program's matrices:Norm,Id;Mag on both sides. -/
set_option maxRecDepth 100000
namespace Go.Pv
open Go.Proofs
theorem H2i (n:Nat) (st:Q0f) (hn:n<9223372036854775808):PCalls Tryz.prog 65 [.sc (.int .i64 n)] st (fun r st'=>r= .agg (encN (mkX false [UInt64.ofNat n] 0).1)∧st'=st):=by
 have g1:decide ((n:Int)<0)=false:=decide_eq_false (by omega)
 have g2:IntKind.u64.wrap (n:Int)=n:=Y0x n (by omega)
 have g3: [PV.sc (.int .u64 n)]=encW [UInt64.ofNat n]:=by
  simp only [encW,List.map_cons,List.map_nil]
  rw [UInt64.toNat_ofNat_of_lt' (show n<UInt64.size by unfold UInt64.size;omega)]
 refine Q0b none Tryz.func65 rfl fun E=>Q0a ?_
 simp -dsimp only [go_sem,g1,g2]
 rw [g3]
 refine(G1w false _ 0 _ (by simp) (by omega) (by omega)).mono ?_
 rintro r st ⟨rfl,rfl⟩
 simp -dsimp only [go_sem]
theorem H2e :(mkX false [1] 0).1=oneN:=by decide+kernel
theorem q0y (st:Q0f):PCalls Tryz.prog 65 [.sc (.int .i64 1)] st (fun r st'=>r= .agg (encN oneN)∧st'=st):=by
 have:=H2i 1 st (by omega)
 rw [show UInt64.ofNat 1=1 from rfl,H2e] at this;exact this
theorem j1a (x:Nm) (st:Q0f):PCalls Tryz.prog 247 [.agg (encN x)] st (fun r st'=>r= .agg (encN (magN x))∧st'=st):=by
 refine Q0b none Tryz.func247 rfl fun E=>Q0a ?_
 simp -dsimp only [go_sem]
 try rfl
theorem j2s {x:Nm} (h:sm x):sm (magN x):=h
theorem K2x (a:Ivl) (st:Q0f) (ha:wI a):PCalls Tryz.prog 199 [.agg (encI a)] st (fun r st'=>r= .agg (encN (magI a))∧st'=st):=by
 refine Q0b none Tryz.func199 rfl fun E=>Q0a ?_
 unfold magI
 simp -dsimp only [go_sem]
 refine(H0c a _ ha).mono ?_
 rintro r st ⟨rfl,rfl⟩
 cases h:Q0w a with
 | false=>simp -dsimp only [go_sem];rfl
 | true=>
  obtain⟨r1,r2,_⟩:=Q0x h
  rw [if_pos rfl]
  simp -dsimp only [go_sem]
  refine Q0k Z0f 15 (.step 0 [] (.step 1 [] (.step 3 [] (.step 4 [] (.step 2 [4] (.step 5 [] (.step 6 [] (.step 7 [] (.step 8 [] (.done)))))))))) (by decide+kernel) (by simp) ?_
  simp -dsimp only [go_sem]
  refine(j1a a.lo _).mono ?_
  rintro r st ⟨rfl,rfl⟩
  simp -dsimp only [go_sem]
  refine(j1a a.hi _).mono ?_
  rintro r st ⟨rfl,rfl⟩
  simp -dsimp only [go_sem]
  refine(V1j _ _ _ (j2s (Z0j r1)) (j2s (Z0j r2))).mono ?_
  rintro r st ⟨rfl,rfl⟩
  simp -dsimp only [go_sem]
  refine(Y1r _ _ (X1v (P:=wN) (x0w (Z0j (x0c r1))) (x0w (Z0j (x0c r2))))).mono ?_
  rintro r st ⟨rfl,rfl⟩
  simp -dsimp only [go_sem]
theorem w1m {x:Nm} (h:Q0j x=true):absN x=magN x:=if_pos h
theorem k1q (a:Ivl) (st:Q0f) (ha:wI a):PCalls Tryz.prog 195 [.agg (encI a)] st (fun r st'=>r= .agg (encN (magI a))∧st'=st):=by
 refine Q0b none Tryz.func195 rfl fun E=>Q0a ?_
 unfold magI
 simp -dsimp only [go_sem]
 refine(K0b a _ ha).mono ?_
 rintro r st ⟨rfl,rfl⟩
 cases h:Q0w a with
 | false=>simp -dsimp only [go_sem];rfl
 | true=>
  obtain⟨r1,r2,_⟩:=Q0x h
  rw [if_pos rfl,←w1m r1,←w1m r2]
  simp -dsimp only [go_sem]
  refine Q0k Z0f 14 (.step 0 [] (.step 1 [] (.step 3 [] (.step 4 [] (.step 2 [4] (.step 5 [] (.step 6 [] (.step 7 [] (.done))))))))) (by decide+kernel) (by simp) ?_
  simp -dsimp only [go_sem]
  refine(j2a a.lo _ ha.1).mono ?_
  rintro r st ⟨rfl,rfl⟩
  simp -dsimp only [go_sem]
  refine(j2a a.hi _ ha.2).mono ?_
  rintro r st ⟨rfl,rfl⟩
  simp -dsimp only [go_sem]
  refine(v2u _ _ _ (Y0w _) (Y0w _)).mono ?_
  rintro r st ⟨rfl,rfl⟩
  simp -dsimp only [go_sem]
theorem q2d (i j:Nat) (st:Q0f):PCalls Tryz.prog 87 ([.sc (.int .i64 i),.sc (.int .i64 j)]++ []) st (fun r st'=>r= .tup [.agg (encI (if i=j then⟨oneN,oneN⟩ else default)),.sc (.int .i64 0)]∧st'=st):=by
 refine Q0b none Tryz.func87 rfl fun E=>Q0a ?_
 by_cases h:i=j
 · have f1:((i:Int)==(j:Int))=true:=by rw [h];simp
   rw [if_pos h]
   simp -dsimp only [go_sem,f1]
   refine(q0y _).mono ?_
   rintro r st ⟨rfl,rfl⟩
   simp -dsimp only [go_sem]
   refine(v1s oneN _ (by unfold wN;decide)).mono ?_
   rintro r st ⟨rfl,rfl⟩
   simp -dsimp only [go_sem]
 · have f1:((i:Int)==(j:Int))=false:=by rw [beq_eq_false_iff_ne];omega
   rw [if_neg h]
   simp -dsimp only [go_sem,f1]
   rfl
theorem q2z {n:Nat} (h1:1≤n) (h4:n≤4):Y0g (fun i j=>((if i=j then⟨oneN,oneN⟩ else default:Ivl),0)) n=(idM (n:Int),0):=by
 have:n=1∨n=2∨n=3∨n=4:=by omega
 rcases this with rfl | rfl | rfl | rfl<;>decide+kernel
theorem y2t (n:Int) (st:Q0f):PCalls Tryz.prog 33 [.sc (.int .i64 n)] st (fun r st'=>r= .sl .no (encM (idM n))∧st'=st):=by
 refine Q0b none Tryz.func33 rfl fun E=>Q0a ?_
 by_cases h1:n<1
 · have f1:decide (n<1)=true:=decide_eq_true h1
   simp -dsimp only [go_sem,f1]
   rw [idM,if_neg (by omega)];rfl
 · have f1:decide (n<1)=false:=decide_eq_false h1
   by_cases h4:n>4
   · have f2:decide (n>4)=true:=decide_eq_true h4
     simp -dsimp only [go_sem,f1,f2]
     rw [idM,if_neg (by omega)];rfl
   · have f2:decide (n>4)=false:=decide_eq_false h4
     obtain⟨k,rfl⟩:=Int.eq_ofNat_of_zero_le (show 0≤n by omega)
     simp -dsimp only [go_sem,f1,f2]
     refine(j0g _ [] (fun i j=>((if i=j then⟨oneN,oneN⟩ else default:Ivl),0)) k st rfl (by omega) rfl rfl rfl rfl (fun _=>rfl) fun i j hi hj=>q2d i j st).mono ?_
     rintro r st ⟨rfl,rfl⟩
     rw [q2z (by omega) (by omega)]
     simp -dsimp only [go_sem]
end Go.Pv
end
section
/-The program's matrices:Norm. -/
set_option maxRecDepth 100000
namespace Go.Pv
open Go.Proofs
set_option maxHeartbeats 4000000 in
theorem H1a (m:Mx) (p:Int) (st:Q0f) (hm:wM m):PCalls Tryz.prog 134 [.sl .no (encM m),.sc (.int .i64 p)] st (fun r st'=>r= .tup [.agg (encN (Z0y m p).1),.sc (.int .i64 (Z0y m p).2)]∧st'=st):=by
 refine Q0b none Tryz.func134 rfl fun E=>Q0a ?_
 simp -dsimp only [go_sem]
 refine(w0x m m p _ hm hm).mono ?_
 rintro r st ⟨rfl,rfl⟩
 cases hv:Q1u m m p with
 | false=>
  simp -dsimp only [go_sem]
  rw [Z0y,if_neg (fun hh=>by rw [validM_iff.2 ⟨hh.1,hh.1,rfl,hh.2⟩] at hv;cases hv)];rfl
 | true=>
  obtain⟨v1,v2,v3,v4⟩:=validM_iff.1 hv
  have hl:=J0t v1
  have hM:Z0y m p=V0e m p m.length:=if_pos ⟨v1,v4⟩
  rw [hM]
  simp -dsimp only [go_sem]
  refine U0w 1 ?_
  simp -dsimp only [go_sem]
  refine Q0e [false,true,false,false,true,false,true,false,false,false,false,false,false,false,false,false,false,false,false,false,true,true,true] 2 0
   (fun k s=> ∃i,k=m.length-i∧i≤m.length∧(V0e m p i).2=0∧
    s=⟨[.junk,.sc (.int .i64 p),.junk,.junk,.lp 0 0,.junk,.lp 1 0,.junk,.junk,.junk,.junk,.junk,.junk,.junk,.junk,.junk,.junk,.junk,.junk,.junk,.sl .no (encM m),.sc (.int .i64 m.length),.sc (.int .i64 (i:Nat))]++List.replicate 35 .junk,
     [[.sc (.bool false),.sc (.int .i64 0),.sl .full []],encN (V0e m p i).1],[],st⟩) m.length ?_ ?_
  · simp -dsimp only [go_sem]
    exact⟨0,by omega,by omega,rfl,rfl⟩
  · rintro k s ⟨i,rfl,hi,hz,rfl⟩
    simp -dsimp only [go_sem]
    refine ck (fun h'=> ?_) (fun h'=> ?_)
    · have hlt:i<m.length:=by have:=of_decide_eq_true h';omega
      have e1:=K0p m i hlt
      have e3:=X0y i (by omega)
      obtain⟨q1,q2⟩:=X0e v1 hlt
      have hrl:=x0b q2
      have e2:=X0d (m.getD i []) 0 (by omega)
      simp -dsimp only [go_sem,e1,e2]
      refine⟨by omega,by omega,?_⟩
      refine(K2x _ _ ((hm.2 i hlt).2 0 (by omega))).mono ?_
      rintro r st ⟨rfl,rfl⟩
      simp -dsimp only [go_sem]
      have t1:(m.getD i []).take (m.getD i []).length=m.getD i []:=List.take_length
      have t2:((m.getD i []).drop 1).length=m.length-1:=by rw [List.length_drop,q1]
      have hs0:sumF (atM m i) p 0=(magI ((m.getD i []).getD 0 default),0):=rfl
      generalize hR:(m.getD i []).drop 1=R at*
      have hget: ∀j,j<R.length→R.getD j default=atM m i (j+1):=fun j hj=>by
       rw [←hR];unfold atM
       simp only [List.getD_eq_getElem?_getD,List.getElem?_drop]
       rw [Nat.add_comm 1 j]
      simp -dsimp only [go_sem,t1,hR]
      refine⟨by omega,?_⟩
      refine Q0e [false,true,false,false,true,false,true,false,false,true,false,false,false,false,false,false,false,false,false,false,true,true,true,false,false,false,false,false,false,false,false,true,true,true] 3 0
       (fun k s=> ∃j,k=R.length-j∧j≤R.length∧(sumF (atM m i) p j).2=0∧
        s=⟨[.junk,.sc (.int .i64 p),.junk,.junk,.lp 0 0,.junk,.lp 1 0,.junk,.junk,.lp 2 0,.junk,.junk,.junk,.junk,.junk,.junk,.junk,.junk,.junk,.junk,.sl .no (encM m),.sc (.int .i64 m.length),.sc (.int .i64 (i:Nat)),.junk,.junk,.junk,.junk,.junk,.junk,.junk,.junk,.sl .no (Z0d R),.sc (.int .i64 R.length),.sc (.int .i64 (j:Nat))]++List.replicate 24 .junk,
         [[.sc (.bool false),.sc (.int .i64 0),.sl .full []],encN (V0e m p i).1,encN (sumF (atM m i) p j).1],[],st⟩) R.length ?_ ?_
      · simp -dsimp only [go_sem]
        exact⟨0,by omega,by omega,by rw [hs0],by rw [hs0];rfl⟩
      · rintro k s ⟨j,rfl,hj,hsz,rfl⟩
        simp -dsimp only [go_sem]
        refine ck (fun h2=> ?_) (fun h2=> ?_)
        · have hlt2:j<R.length:=by have:=of_decide_eq_true h2;omega
          have f1:=X0d R j hlt2
          have f3:=X0y j (by omega)
          have f4:=Q1y hsz
          have f5:=hget j hlt2
          have wx:wI (atM m i (j+1)):=(hm.2 i hlt).2 (j+1) (by omega)
          simp -dsimp only [go_sem,f1]
          refine⟨by omega,?_⟩
          refine Q0k Z0f 58 (.step 0 [] (.step 1 [] (.step 3 [] (.alt (.step 2 [0] (.alt (.step 4 [] (.step 5 [] (.step 6 [] (.step 7 [] (.step 8 [0,1] (.step 9 [] (.step 10 [] (.done)))))))) (.step 8 [0,1] (.step 4 [] (.step 5 [] (.step 6 [] (.step 7 [] (.step 9 [] (.step 10 [] (.done)))))))))) (.step 8 [0,1] (.step 2 [0] (.step 4 [] (.step 5 [] (.step 6 [] (.step 7 [] (.step 9 [] (.step 10 [] (.done))))))))))))) (by decide+kernel) (by simp) ?_
          simp -dsimp only [go_sem]
          have wm:=x0w (Z0j (y0a (atM m i (j+1))))
          have ws:=x0w (Z0j (Y0o (atM m i) p j))
          rw [←f5] at wx
          refine And.intro ?_ ?_
          all_goals
           refine(K2x _ _ wx).mono ?_
           rintro r st ⟨rfl,rfl⟩
           rw [f5]
           simp -dsimp only [go_sem]
          refine And.intro ?_ ?_
          all_goals
           refine(k1k _ _ p true _ ws wm).mono ?_
           rintro r st ⟨rfl,rfl⟩
           simp -dsimp only [go_sem]
           refine ck (fun h3=> ?_) (fun h3=> ?_)
           · have hne:=q0k h3
             simp -dsimp only [go_sem]
             rw [G1x (j:=j+1) hne hlt (by omega) hz (by rw [f4])]
             rfl
           · have he:=x0m h3
             simp -dsimp only [go_sem,f3]
             exact⟨R.length-(j+1),by omega,j+1,rfl,by omega,by rw [f4];exact he,by rw [f4]⟩
        · have hge:j=R.length:=by have:=of_decide_eq_false h2;omega
          subst hge
          have hnx:=w0v hz (by rw [←t2];exact hsz)
          rw [←t2] at hnx
          have w1:=x0w (Z0j (Y0o (atM m i) p R.length))
          have w2:=x0w (Z0j (U0d m p i))
          simp -dsimp only [go_sem]
          refine Q0a ?_
          simp -dsimp only [go_sem]
          refine(Y1a _ _ _ (by unfold wN at w1;omega) (by unfold wN at w2;omega)).mono ?_
          rintro r st ⟨rfl,rfl⟩
          simp -dsimp only [go_sem]
          refine ck (fun h3=> ?_) (fun h3=> ?_)
          · have hc:=of_decide_eq_true h3
            rw [if_pos hc] at hnx
            simp -dsimp only [go_sem]
            refine Q0a ?_
            simp -dsimp only [go_sem,e3]
            exact⟨m.length-(i+1),by omega,i+1,rfl,by omega,by rw [hnx],by rw [hnx]⟩
          · have hc:=of_decide_eq_false h3
            rw [if_neg hc] at hnx
            simp -dsimp only [go_sem]
            refine Q0a ?_
            simp -dsimp only [go_sem,e3]
            exact⟨m.length-(i+1),by omega,i+1,rfl,by omega,by rw [hnx],by rw [hnx]⟩
    · have hge:i=m.length:=by have:=of_decide_eq_false h';omega
      subst hge
      simp -dsimp only [go_sem]
      refine Q0a ?_
      simp -dsimp only [go_sem]
      rw [hz]
end Go.Pv
end
section
/-The document's matrices:RightMat,SameMat,InMat,PointMat;rows held against one another. -/
set_option maxRecDepth 100000
namespace Go.Pv
open Go.Proofs
theorem G0v (m:Mx) (st:Q0f) (hm:wM m):PCalls Tryz.prog 104 [.sl .no (encM m)] st (fun r st'=>r= .sc (.bool (rightM m))∧st'=st):=by
 have hl:=hm.1
 refine Q0b none Tryz.func104 rfl fun E=>Q0a ?_
 simp -dsimp only [go_sem]
 refine Q0e [true,false,false,true] 0 0 (fun n s=> ∃i,n=m.length-i∧i≤m.length∧(∀j,j<i→(m.getD j []).length=m.length∧rightB (m.getD j [])=true)∧s=⟨[.sl .no (encM m),.junk,.junk,.sc (.int .i64 (i:Nat))]++List.replicate 34 .junk,[],[],st⟩) m.length ?_ ?_
 · simp -dsimp only [go_sem]
   exact⟨0,by omega,by omega,fun j hj=>by omega,rfl⟩
 · rintro n s ⟨i,rfl,hi,hr,rfl⟩
   have fin:i=m.length∨ ¬(i:Int)<4→decide ((m.length:Int)>0)=true→decide ((m.length:Int)≤4)=rightM m:=fun h h1=>by
    have h1:=of_decide_eq_true h1
    rw [Bool.eq_iff_iff,rightM_iff,decide_eq_true_iff]
    exact⟨fun h4=>⟨fun j hj=>hr j (by omega),by omega,by omega⟩,fun hh=>by omega⟩
   have fin0:decide ((m.length:Int)>0)=false→rightM m=false:=fun h=>Bool.eq_false_iff.2 fun e=>by
    have:=of_decide_eq_false h
    have:=(rightM_iff.1 e).2.1
    omega
   simp -dsimp only [go_sem]
   refine gkT (fun h=> ?_) (fun h=> ?_)
   · have hlt:i<m.length:=by have:=of_decide_eq_true h;omega
     simp -dsimp only [go_sem,h]
     refine ck (fun h4=> ?_) (fun h4=> ?_)
     · have e1:=K0p m i hlt
       have e3:=X0y i (by omega)
       simp -dsimp only [go_sem,e1]
       refine⟨by omega,?_⟩
       refine gkF (fun h2=> ?_) (fun h2=> ?_)
       · have hn:=q0d h2
         simp -dsimp only [go_sem,h2,e1]
         refine⟨by omega,?_⟩
         refine(w0o _ _ (hm.2 i hlt)).mono ?_
         rintro r st ⟨rfl,rfl⟩
         simp -dsimp only [go_sem,h2]
         refine ck (fun h3=> ?_) (fun h3=> ?_)
         · have hf:rightB (m.getD i [])=false:=by simpa using h3
           simp -dsimp only [go_sem]
           have:rightM m=false:=Bool.eq_false_iff.2 fun e=>by
            have:=((rightM_iff.1 e).1 i hlt).2
            rw [hf] at this;cases this
           rw [this]
         · have ht:rightB (m.getD i [])=true:=by simpa using h3
           simp -dsimp only [go_sem,e3]
           refine⟨m.length-(i+1),by omega,i+1,rfl,by omega,fun j hj=> ?_,rfl⟩
           by_cases e:j=i
           · subst e;exact⟨hn,ht⟩
           · exact hr j (by omega)
       · have hn:=z0a h2
         simp -dsimp only [go_sem,h2]
         have:rightM m=false:=Bool.eq_false_iff.2 fun e=>hn ((rightM_iff.1 e).1 i hlt).1
         rw [this]
     · have h4':=of_decide_eq_false h4
       simp -dsimp only [go_sem]
       refine Q0a ?_
       simp -dsimp only [go_sem]
       refine gkT (fun h=> ?_) (fun h=> ?_)
       · simp -dsimp only [go_sem,h]
         rw [fin (.inr h4') h]
       · simp -dsimp only [go_sem,h]
         rw [fin0 h]
   · have hge:i=m.length:=by have:=of_decide_eq_false h;omega
     simp -dsimp only [go_sem,h]
     refine Q0a ?_
     simp -dsimp only [go_sem]
     refine gkT (fun h=> ?_) (fun h=> ?_)
     · simp -dsimp only [go_sem,h]
       rw [fin (.inl hge) h]
     · simp -dsimp only [go_sem,h]
       rw [fin0 h]
theorem X2l (a b:Mx) (st:Q0f) (ha:wM a) (hb:wM b):PCalls Tryz.prog 46 [.sl .no (encM a),.sl .no (encM b)] st (fun r st'=>r= .sc (.bool (decide (a=b)))∧st'=st):=by
 have hla:=ha.1
 have hlb:=hb.1
 refine Q0b none Tryz.func46 rfl fun E=>Q0a ?_
 simp -dsimp only [go_sem]
 refine ck (fun h0=> ?_) (fun h0=> ?_)
 · have hne:=z0a h0
   simp -dsimp only [go_sem]
   rw [decide_eq_false (fun e=>hne (by rw [e]))]
 · have hl:=q0d h0
   simp -dsimp only [go_sem]
   refine Q0e [true,true,false,false,false,true] 0 0 (fun n s=> ∃i,n=a.length-i∧i≤a.length∧(∀j,j<i→a.getD j []=b.getD j [])∧s=⟨[.sl .no (encM a),.sl .no (encM b),.junk,.junk,.junk,.sc (.int .i64 (i:Nat))]++List.replicate 21 .junk,[],[],st⟩) a.length ?_ ?_
   · simp -dsimp only [go_sem]
     exact⟨0,by omega,by omega,fun j hj=>by omega,rfl⟩
   · rintro n s ⟨i,rfl,hi,hr,rfl⟩
     simp -dsimp only [go_sem]
     refine ck (fun h'=> ?_) (fun h'=> ?_)
     · have hlt:i<a.length:=by have:=of_decide_eq_true h';omega
       have e1:=K0p a i hlt
       have e2:=K0p b i (by omega)
       have e3:=X0y i (by omega)
       simp -dsimp only [go_sem]
       refine Q0k Z0f 27 (.step 0 [] (.step 1 [] (.step 2 [] (.step 3 [] (.step 4 [] (.step 5 [] (.step 6 [] (.step 7 [] (.step 8 [] (.step 9 [] (.done))))))))))) (by decide+kernel) (by simp) ?_
       simp -dsimp only [go_sem,e1,e2]
       refine⟨by omega,by omega,?_⟩
       refine(X2m _ _ st (ha.2 i hlt) (hb.2 i (by omega))).mono ?_
       rintro r st ⟨rfl,rfl⟩
       simp -dsimp only [go_sem]
       refine ck (fun h2=> ?_) (fun h2=> ?_)
       · have hf:a.getD i []≠b.getD i []:=by
          intro e;rw [e] at h2;simp at h2
         simp -dsimp only [go_sem]
         rw [decide_eq_false (fun e=>hf (by rw [e]))]
       · have ht:a.getD i []=b.getD i []:=by
          apply Decidable.byContradiction;intro e;rw [decide_eq_false e] at h2;cases h2
         simp -dsimp only [go_sem,e3]
         refine⟨a.length-(i+1),by omega,i+1,rfl,by omega,fun j hj=> ?_,rfl⟩
         by_cases e:j=i
         · subst e;exact ht
         · exact hr j (by omega)
     · have hge:i=a.length:=by have:=of_decide_eq_false h';omega
       simp -dsimp only [go_sem]
       refine Q0a ?_
       simp -dsimp only [go_sem]
       rw [decide_eq_true (Y0s [] hl fun j hj=>hr j (by omega))]
theorem w2j (a b:List (List Nm)) (st:Q0f) (ha:wQ a) (hb:wQ b):PCalls Tryz.prog 35 [.sl .no (encQ a),.sl .no (encQ b)] st (fun r st'=>r= .sc (.bool (decide (a=b)))∧st'=st):=by
 have hla:=ha.1
 have hlb:=hb.1
 refine Q0b none Tryz.func35 rfl fun E=>Q0a ?_
 simp -dsimp only [go_sem]
 refine ck (fun h0=> ?_) (fun h0=> ?_)
 · have hne:=z0a h0
   simp -dsimp only [go_sem]
   rw [decide_eq_false (fun e=>hne (by rw [e]))]
 · have hl:=q0d h0
   simp -dsimp only [go_sem]
   refine Q0e [true,true,false,false,false,true] 0 0 (fun n s=> ∃i,n=a.length-i∧i≤a.length∧(∀j,j<i→a.getD j []=b.getD j [])∧s=⟨[.sl .no (encQ a),.sl .no (encQ b),.junk,.junk,.junk,.sc (.int .i64 (i:Nat))]++List.replicate 21 .junk,[],[],st⟩) a.length ?_ ?_
   · simp -dsimp only [go_sem]
     exact⟨0,by omega,by omega,fun j hj=>by omega,rfl⟩
   · rintro n s ⟨i,rfl,hi,hr,rfl⟩
     simp -dsimp only [go_sem]
     refine ck (fun h'=> ?_) (fun h'=> ?_)
     · have hlt:i<a.length:=by have:=of_decide_eq_true h';omega
       have e1:=V0f a i hlt
       have e2:=V0f b i (by omega)
       have e3:=X0y i (by omega)
       simp -dsimp only [go_sem]
       refine Q0k Z0f 27 (.step 0 [] (.step 1 [] (.step 2 [] (.step 3 [] (.step 4 [] (.step 5 [] (.step 6 [] (.step 7 [] (.step 8 [] (.step 9 [] (.done))))))))))) (by decide+kernel) (by simp) ?_
       simp -dsimp only [go_sem,e1,e2]
       refine⟨by omega,by omega,?_⟩
       refine(Q2m _ _ st (ha.2 i hlt) (hb.2 i (by omega))).mono ?_
       rintro r st ⟨rfl,rfl⟩
       simp -dsimp only [go_sem]
       refine ck (fun h2=> ?_) (fun h2=> ?_)
       · have hf:a.getD i []≠b.getD i []:=by
          intro e;rw [e] at h2;simp at h2
         simp -dsimp only [go_sem]
         rw [decide_eq_false (fun e=>hf (by rw [e]))]
       · have ht:a.getD i []=b.getD i []:=by
          apply Decidable.byContradiction;intro e;rw [decide_eq_false e] at h2;cases h2
         simp -dsimp only [go_sem,e3]
         refine⟨a.length-(i+1),by omega,i+1,rfl,by omega,fun j hj=> ?_,rfl⟩
         by_cases e:j=i
         · subst e;exact ht
         · exact hr j (by omega)
     · have hge:i=a.length:=by have:=of_decide_eq_false h';omega
       simp -dsimp only [go_sem]
       refine Q0a ?_
       simp -dsimp only [go_sem]
       rw [decide_eq_true (Y0s [] hl fun j hj=>hr j (by omega))]
theorem w0r (q:List (List Nm)) (st:Q0f) (hq:wQ q):PCalls Tryz.prog 129 [.sl .no (encQ q)] st (fun r st'=>r= .sl (.fresh 1) (encM (ofM q))∧st'=st):=by
 obtain⟨hl,hw⟩:=hq
 refine Q0b none Tryz.func129 rfl fun E=>Q0a ?_
 simp -dsimp only [go_sem]
 refine X0c 3 1 ?_
 simp -dsimp only [go_sem]
 refine Q0e [true,false,false,true,true] 0 1
  (fun n s=> ∃i,n=q.length-i∧i≤q.length∧s=⟨[.sl .no (encQ q),.junk,.junk,.sl (.own 0) (encM (ofM (q.take i))),.sc (.int .i64 (i:Nat))]++List.replicate 15 .junk,[],[((ofM (q.take i)).length,1)],st⟩) q.length ?_ ?_
 · simp -dsimp only [go_sem]
   exact⟨0,by omega,by omega,rfl⟩
 · rintro n s ⟨i,rfl,hi,rfl⟩
   simp -dsimp only [go_sem]
   refine ck (fun h'=> ?_) (fun h'=> ?_)
   · have hlt:i<q.length:=by have:=of_decide_eq_true h';omega
     have e1:=V0f q i hlt
     have e3:=X0y i (by omega)
     have ll:(ofM (q.take i)).length=i:=by simp [ofM];omega
     simp -dsimp only [go_sem,e1]
     refine⟨by omega,?_⟩
     refine(G2y _ _ (hw i hlt)).plain.mono ?_
     rintro r st ⟨rfl,rfl⟩
     simp -dsimp only [go_sem,e3]
     refine⟨⟨by omega,by omega⟩,q.length-(i+1),by omega,i+1,rfl,by omega,?_⟩
     rw [v1e q i hlt]
     simp
   · have hge:i=q.length:=by have:=of_decide_eq_false h';omega
     simp -dsimp only [go_sem]
     refine Q0a ?_
     simp -dsimp only [go_sem]
     rw [hge,List.take_length]
end Go.Pv
end
section
/-The document's matrices:OpMat,TimesMat,MidMat,column,Dot,Vec. -/
set_option maxRecDepth 100000
namespace Go.Pv
open Go.Proofs
theorem y2e {k:Nat} {a b:List Ivl} {p:Int} (h1:rightB a=true) (h2:rightB b=true) (h3:a.length=b.length) (h4:Z0p p=true):opB k a b p=tabF (fun j=>opI k (a.getD j default) (b.getD j default) p) 0 a.length []:=by
 rw [opB,if_pos ⟨h1,h2,h3,h4⟩,H0f]
theorem H2c (k:Nat) {a b:Mx} {p:Int} (r1:rightM a=true) (r2:rightM b=true) (hn:a.length=b.length) (r3:Z0p p=true):opM k a b p=tabF (fun i=>opB k (a.getD i []) (b.getD i []) p) 0 a.length []:=by
 rw [opM,if_pos ⟨r1,r2,hn,r3⟩]
 refine K1n _ _ _ fun i _ hi=> ?_
 obtain⟨a1,a2⟩:=X0e r1 (show i<a.length by omega)
 obtain⟨b1,b2⟩:=X0e r2 (show i<b.length by omega)
 rw [y2e a2 b2 (by omega) r3,a1];rfl
theorem H2b (a b:Mx) (p:Int) (st:Q0f) (ha:wM a) (hb:wM b):PCalls Tryz.prog 106 [.sc (.int .i64 1),.sl .no (encM a),.sl .no (encM b),.sc (.int .i64 p)] st (fun r st'=>r= .tup [.sl .no (encM (opM 1 a b p).1),.sc (.int .i64 (opM 1 a b p).2)]∧st'=st):=by
 have hal:=ha.1
 refine Q0b none Tryz.func106 rfl fun E=>Q0a ?_
 simp -dsimp only [go_sem]
 refine(G0v a _ ha).mono ?_
 rintro r st ⟨rfl,rfl⟩
 cases r1:rightM a with
 | false=>
  simp -dsimp only [go_sem]
  rw [opM,if_neg (by simp [r1])];rfl
 | true=>
  simp -dsimp only [go_sem]
  refine(G0v b _ hb).mono ?_
  rintro r st ⟨rfl,rfl⟩
  cases r2:rightM b with
  | false=>
   simp -dsimp only [go_sem]
   rw [opM,if_neg (by simp [r2])];rfl
  | true=>
   by_cases hn:a.length=b.length
   · have f1:((a.length:Int) !=(b.length:Int))=false:=by rw [hn];simp
     simp -dsimp only [go_sem,f1]
     refine(k0w p _).mono ?_
     rintro r st ⟨rfl,rfl⟩
     cases r3:Z0p p with
     | false=>
      simp -dsimp only [go_sem]
      rw [opM,if_neg (by simp [r3])];rfl
     | true=>
      rw [H2c 1 r1 r2 hn r3]
      simp -dsimp only [go_sem]
      refine X0c 10 1 ?_
      simp -dsimp only [go_sem]
      refine Q0e [true,true,true,true,false,false,false,false,false,false,true,true] 0 1
       (fun k s=> ∃(i:Nat) (o:Mx),k=a.length-i∧i≤a.length∧o.length=i∧tabF (fun i=>opB 1 (a.getD i []) (b.getD i []) p) 0 a.length []=tabF (fun i=>opB 1 (a.getD i []) (b.getD i []) p) i (a.length-i) o∧
        s=⟨[.sc (.int .i64 1),.sl .no (encM a),.sl .no (encM b),.sc (.int .i64 p),.junk,.junk,.junk,.junk,.junk,.junk,.sl (.own 0) (encM o),.sc (.int .i64 (i:Nat))]++List.replicate 50 .junk,[],[(o.length,1)],st⟩) a.length ?_ ?_
      · simp -dsimp only [go_sem]
        exact⟨0,[],by omega,by omega,rfl,rfl,rfl⟩
      · rintro k s ⟨i,o,rfl,hi,ho,hr,rfl⟩
        simp -dsimp only [go_sem]
        refine ck (fun h'=> ?_) (fun h'=> ?_)
        · have hlt:i<a.length:=by have:=of_decide_eq_true h';omega
          have e3:=X0y i (by omega)
          have e4:=Y0y (fun i=>opB 1 (a.getD i []) (b.getD i []) p) hlt o
          have e1:=K0p a i hlt
          have e2:=K0p b i (by omega)
          simp -dsimp only [go_sem,e1]
          refine Q0k Z0f 62 (.step 0 [] (.step 1 [] (.step 2 [] (.step 3 [] (.step 4 [] (.step 5 [] (.step 6 [] (.step 7 [] (.step 8 [] (.step 9 [] (.step 10 [] (.step 11 [] (.step 12 [] (.step 13 [] (.step 14 [] (.step 15 [] (.done))))))))))))))))) (by decide+kernel) (by simp) ?_
          simp -dsimp only [go_sem,e1,e2]
          refine⟨by omega,by omega,?_⟩
          refine(H2d (a.getD i []) (b.getD i []) p _ (ha.2 i hlt) (hb.2 i (by omega))).mono ?_
          rintro r st ⟨rfl,rfl⟩
          simp -dsimp only [go_sem]
          refine ck (fun h2=> ?_) (fun h2=> ?_)
          · have hne:=q0k h2
            simp -dsimp only [go_sem]
            rw [hr,e4,if_pos hne];rfl
          · have he:=x0m h2
            simp -dsimp only [go_sem,e3]
            refine⟨⟨by omega,by omega⟩,a.length-(i+1),by omega,i+1,o++ [(opB 1 (a.getD i []) (b.getD i []) p).1],rfl,by omega,by simp [ho],?_,?_⟩
            · rw [hr,e4,if_neg (fun hh=>hh he)]
            · simp
        · have hge:i=a.length:=by have:=of_decide_eq_false h';omega
          simp -dsimp only [go_sem]
          refine Q0a ?_
          simp -dsimp only [go_sem]
          rw [hr,hge,H0j]
   · have f1:((a.length:Int) !=(b.length:Int))=true:=by rw [bne_iff_ne];omega
     simp -dsimp only [go_sem,f1]
     rw [opM,if_neg (fun hh=>hn hh.2.2.1)];rfl
set_option maxHeartbeats 4000000 in
theorem j3b (a b:List Ivl) (p:Int) (st:Q0f) (ha:wB a) (hb:wB b) (hl:a.length=b.length):PCalls Tryz.prog 193 [.sl .no (Z0d a),.sl .no (Z0d b),.sc (.int .i64 p)] st
 (fun r st'=>r= .tup [.agg (encI (dotF (fun k=>a.getD k default) (fun k=>b.getD k default) p a.length).1),.sc (.int .i64 (dotF (fun k=>a.getD k default) (fun k=>b.getD k default) p a.length).2)]∧st'=st):=by
 have hal:=ha.1
 generalize hx:(fun k=>a.getD k default)=x
 generalize hy:(fun k=>b.getD k default)=y
 have gx: ∀k,x k=a.getD k default:=fun k=>by rw [←hx]
 have gy: ∀k,y k=b.getD k default:=fun k=>by rw [←hy]
 refine Q0b none Tryz.func193 rfl fun E=>Q0a ?_
 simp -dsimp only [go_sem]
 refine U0w 1 ?_
 simp -dsimp only [go_sem]
 refine Q0e [true,true,true,false,false,false,true,false,true,true] 2 0
  (fun m s=> ∃k,m=a.length-k∧k≤a.length∧(dotF x y p k).2=0∧s=⟨[.sl .no (Z0d a),.sl .no (Z0d b),.sc (.int .i64 p),.junk,.junk,.junk,.lp 0 0,.junk,.lp 1 0,.sc (.int .i64 (k:Nat))]++List.replicate 40 .junk,
   [[.sc (.bool false),.sc (.int .i64 0),.sl .full [],.sc (.bool false),.sc (.int .i64 0),.sl .full []],encI (dotF x y p k).1],[],st⟩) a.length ?_ ?_
 · simp -dsimp only [go_sem]
   exact⟨0,by omega,by omega,rfl,rfl⟩
 · rintro m s ⟨k,rfl,hk,hz,rfl⟩
   simp -dsimp only [go_sem]
   refine ck (fun h'=> ?_) (fun h'=> ?_)
   · have hlt:k<a.length:=by have:=of_decide_eq_true h';omega
     have e1:=X0d a k hlt
     have e2:=X0d b k (by omega)
     have e3:=X0y k (by omega)
     have hdk:wI (dotF x y p k).1:=z0t (y0k _ _ _ _)
     have hmw:wI (opI 2 (x k) (y k) p).1:=z0t (G0y _ _ _ _)
     have hstep:dotF x y p (k+1)=if (opI 2 (x k) (y k) p).2≠0 then(default,(opI 2 (x k) (y k) p).2) else
      if k=0 then opI 2 (x k) (y k) p else
      if (opI 0 (dotF x y p k).1 (opI 2 (x k) (y k) p).1 p).2≠0 then(default,(opI 0 (dotF x y p k).1 (opI 2 (x k) (y k) p).1 p).2) else
      opI 0 (dotF x y p k).1 (opI 2 (x k) (y k) p).1 p:=by
      rw [dotF,if_neg (by rw [hz];decide)]
     have hend: ∀e,e≠0→dotF x y p (k+1)=(default,e)→dotF x y p a.length=(default,e):=fun e he h0=>by
      have key: ∀d,dotF x y p (k+1+d)=(default,e):=by
       intro d
       induction d with
       | zero=>exact h0
       | succ d ih=>rw [show k+1+(d+1)=(k+1+d)+1 from by omega,dotF,ih,if_pos he]
      have:=key (a.length-(k+1))
      rwa [show k+1+(a.length-(k+1))=a.length from by omega] at this
     have wx:wI (x k):=by rw [gx];exact ha.2 k hlt
     have wy:wI (y k):=by rw [gy];exact hb.2 k (by omega)
     rw [←gx] at e1
     rw [←gy] at e2
     simp -dsimp only [go_sem]
     refine Q0k Z0f 50 (.step 0 [] (.step 1 [] (.step 2 [] (.step 3 [] (.step 4 [] (.step 5 [] (.step 6 [] (.step 7 [] (.step 8 [] (.alt (.step 9 [] (.step 10 [] (.step 11 [] (.step 12 [] (.step 13 [3,7] (.step 14 [] (.step 15 [] (.done)))))))) (.step 13 [3,7] (.step 9 [] (.step 10 [] (.step 11 [] (.step 12 [] (.step 14 [] (.step 15 [] (.done)))))))))))))))))) (by decide+kernel) (by simp) ?_
     simp -dsimp only [go_sem,e1,e2]
     refine⟨by omega,by omega,?_⟩
     refine And.intro ?_ ?_
     all_goals
      refine(G2j _ _ p _ wx wy).mono ?_
      rintro r st ⟨rfl,rfl⟩
      simp -dsimp only [go_sem]
      by_cases hm:(opI 2 (x k) (y k) p).2=0
      · rw [if_neg (fun hh=>hh hm)] at hstep
        have z1:((opI 2 (x k) (y k) p).2==0)=true:=by simpa using hm
        have z3:((opI 2 (x k) (y k) p).2 !=0)=false:=by simpa using hm
        have z2:((0:Int) !=0)=false:=rfl
        by_cases h0:k=0
        · rw [if_pos h0] at hstep
          have g1:decide ((k:Int)>0)=false:=decide_eq_false (by omega)
          simp -dsimp only [go_sem,z1,z3,g1,e3]
          refine⟨a.length-(k+1),by omega,k+1,rfl,by omega,by rw [hstep];exact hm,?_⟩
          rw [hstep]
        · rw [if_neg h0] at hstep
          have g1:decide ((k:Int)>0)=true:=decide_eq_true (by omega)
          simp -dsimp only [go_sem,z1,g1]
          refine(G2l _ _ p _ hdk hmw).mono ?_
          rintro r st ⟨rfl,rfl⟩
          by_cases hs:(opI 0 (dotF x y p k).1 (opI 2 (x k) (y k) p).1 p).2=0
          · rw [if_neg (fun hh=>hh hs)] at hstep
            have z4:((opI 0 (dotF x y p k).1 (opI 2 (x k) (y k) p).1 p).2 !=0)=false:=by simpa using hs
            simp -dsimp only [go_sem,z4,e3]
            refine⟨a.length-(k+1),by omega,k+1,rfl,by omega,by rw [hstep];exact hs,?_⟩
            rw [hstep]
          · rw [if_pos hs] at hstep
            have hq:=hend _ hs hstep
            have g2:((opI 0 (dotF x y p k).1 (opI 2 (x k) (y k) p).1 p).2 !=0)=true:=by simpa using hs
            rw [hq]
            simp -dsimp only [go_sem,g2]
            rfl
      · rw [if_pos hm] at hstep
        have hq:=hend _ hm hstep
        have g1:((opI 2 (x k) (y k) p).2==0)=false:=by simpa using hm
        have g2:((opI 2 (x k) (y k) p).2 !=0)=true:=by simpa using hm
        rw [hq]
        simp -dsimp only [go_sem,g1,g2]
        rfl
   · have hge:k=a.length:=by have:=of_decide_eq_false h';omega
     subst hge
     simp -dsimp only [go_sem]
     refine Q0a ?_
     simp -dsimp only [go_sem]
     rw [hz]
theorem Z3l (a:Mx) (i:Nat) (b:List Ivl) (p:Int) (st:Q0f) (ha:wB (a.getD i [])) (hb:wB b) (hl:(a.getD i []).length=b.length):PCalls Tryz.prog 193 [.sl .no (Z0d (a.getD i [])),.sl .no (Z0d b),.sc (.int .i64 p)] st
 (fun r st'=>r= .tup [.agg (encI (dotF (atM a i) (fun k=>b.getD k default) p b.length).1),.sc (.int .i64 (dotF (atM a i) (fun k=>b.getD k default) p b.length).2)]∧st'=st):=by
 have:=j3b (a.getD i []) b p st ha hb hl
 rw [hl] at this
 exact this
def colM (m:Mx) (j:Nat):List Ivl:=(List.range m.length).map fun i=>atM m i j
theorem W0o (m:Mx) (j:Nat):(colM m j).length=m.length:=by simp [colM]
theorem w1b (m:Mx) (j i:Nat) (h:i<m.length):(colM m j).getD i default=atM m i j:=by
 simp [colM,List.getD_eq_getElem?_getD,h]
theorem q0r {α:Type} (f:Nat→α) (n i:Nat) (h:i<n):((List.range n).map f).take (i+1)=((List.range n).map f).take i++ [f i]:=by
 rw [←List.map_take,←List.map_take,List.take_range,List.take_range,Nat.min_eq_left (by omega),Nat.min_eq_left (by omega),List.range_succ,List.map_append];rfl
theorem x2i (m:Mx) (j:Nat) (st:Q0f) (hm:m.length≤100000000000) (hj: ∀i,i<m.length→j<(m.getD i []).length):PCalls Tryz.prog 194 [.sl .no (encM m),.sc (.int .i64 j)] st (fun r st'=>r= .sl (.fresh 6) (Z0d (colM m j))∧st'=st):=by
 refine Q0b none Tryz.func194 rfl fun E=>Q0a ?_
 simp -dsimp only [go_sem]
 refine X0c 5 6 ?_
 simp -dsimp only [go_sem]
 refine Q0e [true,true,false,false,false,true,true] 0 1
  (fun n s=> ∃i,n=m.length-i∧i≤m.length∧s=⟨[.sl .no (encM m),.sc (.int .i64 (j:Nat)),.junk,.junk,.junk,.sl (.own 0) (Z0d ((colM m j).take i)),.sc (.int .i64 (i:Nat))]++List.replicate 17 .junk,[],[(((colM m j).take i).length,6)],st⟩) m.length ?_ ?_
 · simp -dsimp only [go_sem]
   exact⟨0,by omega,by omega,rfl⟩
 · rintro n s ⟨i,rfl,hi,rfl⟩
   simp -dsimp only [go_sem]
   refine ck (fun h'=> ?_) (fun h'=> ?_)
   · have hlt:i<m.length:=by have:=of_decide_eq_true h';omega
     have e1:=K0p m i hlt
     have e2:=X0d (m.getD i []) j (hj i hlt)
     have e3:=X0y i (by omega)
     have hji:=hj i hlt
     have ll:((colM m j).take i).length=i:=by rw [List.length_take,W0o];omega
     have e5:(colM m j).take (i+1)=(colM m j).take i++ [atM m i j]:=q0r _ _ _ hlt
     simp -dsimp only [go_sem,e1,e2,e3]
     refine⟨by omega,by omega,⟨by omega,by omega⟩,m.length-(i+1),by omega,i+1,rfl,by omega,?_⟩
     rw [e5]
     simp [Z0d,encI,atM]
   · have hge:i=m.length:=by have:=of_decide_eq_false h';omega
     have ht:(colM m j).take i=colM m j:=List.take_of_length_le (by rw [W0o];omega)
     rw [ht]
     simp -dsimp only [go_sem]
     refine Q0a ?_
     simp -dsimp only [go_sem]
end Go.Pv
end
section
/-The document's matrices:One,MulMat. -/
set_option maxRecDepth 100000
namespace Go.Pv
open Go.Proofs
theorem W1v (f:PV→PV) (l:List PV) (o:Nat) (r:List PV):(over l o r).map f=over (l.map f) o (r.map f):=by
 simp [over,List.map_take,List.map_drop]
theorem W1p (f:PV→PV) (n:Nat) (z:List PV):(repC n z).map f=repC n (z.map f):=by
 unfold repC;rw [List.map_flatten,List.map_replicate]
theorem x1w {l r:List PV} {o:Nat} (h1:fzOK l=true) (h2:fzOK r=true):fzOK (over l o r)=true:=by
 unfold fzOK at*
 rw [List.all_eq_true] at*
 intro p hp
 simp only [over,List.mem_append] at hp
 rcases hp with (hp | hp) | hp
 · exact h1 p (List.mem_of_mem_take hp)
 · exact h2 p hp
 · exact h1 p (List.mem_of_mem_drop hp)
theorem x1v {n:Nat} {z:List PV} (h:fzOK z=true):fzOK (repC n z)=true:=by
 unfold fzOK at*
 rw [List.all_eq_true] at*
 intro p hp
 simp only [repC,List.mem_flatten,List.mem_replicate] at hp
 obtain⟨l,⟨_,rfl⟩,hp⟩:=hp
 exact h p hp
theorem j2w (n:Nat):repC n (encN default)=flat (Z0b (List.replicate n default)):=by
 simp [repC,flat,Z0b,PV.cells]
def rowQ (n i:Nat):List Nm:=(List.replicate n default).set i oneN
def oneL (k:Nat):List (List Nm):=(List.range k).map (rowQ k)
theorem X0z (k:Nat):(oneL k).length=k:=by simp [oneL]
def oneQ (n:Int):List (List Nm):=if 1≤n∧n≤4 then oneL n.toNat else []
theorem x1i (n:Int):ofM (oneQ n)=idM n:=by
 unfold oneQ idM
 split
 · rename_i h
   have:n=1∨n=2∨n=3∨n=4:=by omega
   rcases this with rfl | rfl | rfl | rfl<;>decide+kernel
 · rfl
theorem H0n (n i:Nat):(rowQ n i).length=n:=by simp [rowQ]
set_option maxHeartbeats 1000000 in
theorem z3m (n:Int) (st:Q0f):PCalls Tryz.prog 125 [.sc (.int .i64 n)] st (fun r st'=>r= .sl .no (encQ (oneQ n))∧st'=st):=by
 refine Q0b none Tryz.func125 rfl fun E=>Q0a ?_
 by_cases h1:n<1
 · have f1:decide (n<1)=true:=decide_eq_true h1
   simp -dsimp only [go_sem,f1]
   rw [oneQ,if_neg (by omega)];rfl
 · have f1:decide (n<1)=false:=decide_eq_false h1
   by_cases h4:n>4
   · have f2:decide (n>4)=true:=decide_eq_true h4
     simp -dsimp only [go_sem,f1,f2]
     rw [oneQ,if_neg (by omega)];rfl
   · have f2:decide (n>4)=false:=decide_eq_false h4
     obtain⟨k,rfl⟩:=Int.eq_ofNat_of_zero_le (show 0≤n by omega)
     have hq:oneQ (k:Int)=oneL k:=by rw [oneQ,if_pos (by omega)];rfl
     rw [hq]
     simp -dsimp only [go_sem,f1,f2]
     refine X0c 3 1 ?_
     simp -dsimp only [go_sem]
     refine X0h [true,false,false,true,true] 0 1
      (fun m s=> ∃i,m=k-i∧i≤k∧s=⟨[.sc (.int .i64 k),.junk,.junk,.sl (.own 0) (encQ ((oneL k).take i)),.sc (.int .i64 (i:Nat))]++List.replicate 24 .junk,[],[(((oneL k).take i).length,1)],st⟩) k ?_ ?_
     · simp -dsimp only [go_sem]
       exact⟨0,by omega,by omega,rfl⟩
     · rintro m s ⟨i,rfl,hi,rfl⟩
       refine Q0l (Q0a ?_)
       simp -dsimp only [go_sem]
       refine ck (fun h'=> ?_) (fun h'=> ?_)
       · have hlt:i<k:=by have:=of_decide_eq_true h';omega
         have e3:=X0y i (by omega)
         have ll:((oneL k).take i).length=i:=by rw [List.length_take,X0z];omega
         have e5:(oneL k).take (i+1)=(oneL k).take i++ [rowQ k i]:=q0r _ _ _ hlt
         have e6:flat (Z0b (rowQ k i))=over (flat (Z0b (List.replicate k default))) (i*3) (encN oneN):=(V2g _ i oneN (by simpa using hlt)).symm
         simp -dsimp only [go_sem]
         refine Q0l (J0u (Q0l (Q0a ?_)))
         simp -dsimp only [go_sem]
         refine⟨⟨by omega,by omega⟩,?_⟩
         refine Q0l (Q0a ?_)
         simp -dsimp only [go_sem,x0z]
         refine⟨⟨by omega,hlt⟩,⟨by omega,by omega⟩,?_⟩
         have r0:repC k [.sc (.bool false),.sc (.int .i64 0),.sl .no []]=flat (Z0b (List.replicate k default)):=j2w k
         have r1:over (flat (Z0b (List.replicate k default))) (i*3) [.sc (.bool false),.sc (.int .i64 0),.sl .no [.sc (.int .u64 1)]]=flat (Z0b (rowQ k i)):=e6.symm
         have r2:=x2o (rowQ k i) k (H0n k i).symm
         have r3:=H0n k i
         refine z1y 0 3 ?_ ?_
         · simp -dsimp only [go_sem]
           exact x1w (x1v rfl) rfl
         simp -dsimp only [go_sem,W1v,W1p,r0,r1,r2,r3]
         refine Q0a ?_
         simp -dsimp only [go_sem]
         refine⟨⟨by omega,by omega⟩,Q0a ?_⟩
         simp -dsimp only [go_sem,e3]
         refine⟨k-(i+1),by omega,i+1,rfl,by omega,?_⟩
         rw [e5]
         simp
       · have hge:i=k:=by have:=of_decide_eq_false h';omega
         have ht:(oneL k).take i=oneL k:=List.take_of_length_le (by rw [X0z];omega)
         rw [ht]
         simp -dsimp only [go_sem]
         refine Z1w [false,false,false,true] (Q0a ?_)
         simp -dsimp only [go_sem]
theorem Z3u {m:Mx} {j:Nat} (hm:wM m) (r:rightM m=true) (hj:j<m.length):wB (colM m j):=by
 refine⟨by rw [W0o];exact hm.1,fun i hi=> ?_⟩
 rw [W0o] at hi
 rw [w1b _ _ _ hi]
 exact(hm.2 i hi).2 j (by rw [(X0e r hi).1];exact hj)
theorem x2a (a b:Mx) (i j:Nat) (p:Int) (st:Q0f) (ha:wM a) (hb:wM b) (r1:rightM a=true) (r2:rightM b=true) (hn:a.length=b.length) (hi:i<a.length) (hj:j<a.length):
 PCalls Tryz.prog 193 [.sl .no (Z0d (a.getD i [])),.sl .no (Z0d (colM b j)),.sc (.int .i64 p)] st
 (fun r st'=>r= .tup [.agg (encI (dotF (atM a i) (fun k=>atM b k j) p a.length).1),.sc (.int .i64 (dotF (atM a i) (fun k=>atM b k j) p a.length).2)]∧st'=st):=by
 have:=Z3l a i (colM b j) p st (ha.2 i hi) (Z3u hb r2 (by omega)) (by rw [(X0e r1 hi).1,W0o];exact hn)
 rw [W0o,←hn,V1v (x':=atM a i) (y':=fun k=>atM b k j) a.length (fun k hk=>⟨rfl,w1b _ _ _ (by omega)⟩)] at this
 exact this
set_option maxHeartbeats 4000000 in
theorem H2r (a b:Mx) (p:Int) (st:Q0f) (ha:wM a) (hb:wM b):PCalls Tryz.prog 130 [.sl .no (encM a),.sl .no (encM b),.sc (.int .i64 p)] st (fun r st'=>r= .tup [.sl .no (encM (mulM a b p).1),.sc (.int .i64 (mulM a b p).2)]∧st'=st):=by
 have hal:=ha.1
 refine Q0b none Tryz.func130 rfl fun E=>Q0a ?_
 simp -dsimp only [go_sem]
 refine(G0v a _ ha).mono ?_
 rintro r st ⟨rfl,rfl⟩
 cases r1:rightM a with
 | false=>
  simp -dsimp only [go_sem]
  rw [mulM,if_neg (by simp [r1])];rfl
 | true=>
  simp -dsimp only [go_sem]
  refine(G0v b _ hb).mono ?_
  rintro r st ⟨rfl,rfl⟩
  cases r2:rightM b with
  | false=>
   simp -dsimp only [go_sem]
   rw [mulM,if_neg (by simp [r2])];rfl
  | true=>
   by_cases hn:a.length=b.length
   · have f1:((a.length:Int) !=(b.length:Int))=false:=by rw [hn];simp
     simp -dsimp only [go_sem,f1]
     refine(k0w p _).mono ?_
     rintro r st ⟨rfl,rfl⟩
     cases r3:Z0p p with
     | false=>
      simp -dsimp only [go_sem]
      rw [mulM,if_neg (by simp [r3])];rfl
     | true=>
      rw [mulM,if_pos ⟨r1,r2,hn,r3⟩]
      have hl:=J0t r1
      generalize hG:(fun i j=>dotF (atM a i) (fun k=>atM b k j) p a.length)=G
      have hg: ∀i j,G i j=dotF (atM a i) (fun k=>atM b k j) p a.length:=fun i j=>by rw [←hG]
      simp -dsimp only [go_sem]
      refine X0c 8 1 ?_
      simp -dsimp only [go_sem]
      refine Q0e [true,true,true,false,false,false,false,false,true,true] 0 1
       (fun k s=> ∃(i:Nat) (o:Mx),k=a.length-i∧i≤a.length∧o.length=i∧Y0g G a.length=tabF (fun i=>tabF (fun j=>G i j) 0 a.length []) i (a.length-i) o∧
        s=⟨[.sl .no (encM a),.sl .no (encM b),.sc (.int .i64 p),.junk,.junk,.junk,.junk,.junk,.sl (.own 0) (encM o),.sc (.int .i64 (i:Nat))]++List.replicate 60 .junk,[],[(o.length,1)],st⟩) a.length ?_ ?_
      · simp -dsimp only [go_sem]
        exact⟨0,[],by omega,by omega,rfl,rfl,rfl⟩
      · rintro k s ⟨i,o,rfl,hi,ho,hr,rfl⟩
        simp -dsimp only [go_sem]
        refine ck (fun h'=> ?_) (fun h'=> ?_)
        · have hlt:i<a.length:=by have:=of_decide_eq_true h';omega
          have e1:=K0p a i hlt
          have e3:=X0y i (by omega)
          have e4:=Y0y (fun i=>tabF (fun j=>G i j) 0 a.length []) hlt o
          simp -dsimp only [go_sem]
          refine X0c 10 6 ?_
          simp -dsimp only [go_sem]
          refine Q0e [true,true,true,false,false,false,false,false,true,true,true,true] 0 2
           (fun k s=> ∃(j:Nat) (r:List Ivl),k=a.length-j∧j≤a.length∧r.length=j∧tabF (fun j=>G i j) 0 a.length []=tabF (fun j=>G i j) j (a.length-j) r∧
            s=⟨[.sl .no (encM a),.sl .no (encM b),.sc (.int .i64 p),.junk,.junk,.junk,.junk,.junk,.sl (.own 0) (encM o),.sc (.int .i64 (i:Nat)),.sl (.own 1) (Z0d r),.sc (.int .i64 (j:Nat))]++List.replicate 58 .junk,[],[(o.length,1),(r.length,6)],st⟩) a.length ?_ ?_
          · simp -dsimp only [go_sem]
            exact⟨0,[],by omega,by omega,rfl,rfl,rfl⟩
          · rintro k s ⟨j,r,rfl,hj,hrl,hrr,rfl⟩
            simp -dsimp only [go_sem]
            refine ck (fun h''=> ?_) (fun h''=> ?_)
            · have hlt2:j<a.length:=by have:=of_decide_eq_true h'';omega
              have f3:=X0y j (by omega)
              have f4:=Y0y (fun j=>G i j) hlt2 r
              have hcol:=(x2i b j st hb.1 (fun m hm=>by rw [(X0e r2 hm).1];omega)).plain
              have hdot:=x2a a b i j p st ha hb r1 r2 hn hlt hlt2
              rw [←hg] at hdot
              simp -dsimp only [go_sem]
              refine Q0k Z0f 70 (.step 0 [] (.step 1 [] (.step 2 [] (.step 3 [] (.step 4 [] (.step 5 [] (.step 7 [] (.alt (.step 6 [3] (.alt (.step 8 [] (.step 9 [] (.step 10 [] (.step 11 [] (.step 12 [3] (.step 13 [] (.step 14 [] (.done)))))))) (.step 12 [3] (.step 8 [] (.step 9 [] (.step 10 [] (.step 11 [] (.step 13 [] (.step 14 [] (.done)))))))))) (.step 12 [3] (.step 6 [3] (.step 8 [] (.step 9 [] (.step 10 [] (.step 11 [] (.step 13 [] (.step 14 [] (.done))))))))))))))))) (by decide+kernel) (by simp) ?_
              simp -dsimp only [go_sem,e1]
              refine⟨by omega,?_⟩
              refine And.intro ?_ ?_
              all_goals
               refine hcol.mono ?_
               rintro rr st ⟨rfl,rfl⟩
               simp -dsimp only [go_sem]
              refine And.intro ?_ ?_
              all_goals
               refine hdot.mono ?_
               rintro rr st ⟨rfl,rfl⟩
               simp -dsimp only [go_sem]
               refine ck (fun h5=> ?_) (fun h5=> ?_)
               · have hne:=q0k h5
                 simp -dsimp only [go_sem]
                 have q1:tabF (fun j=>G i j) 0 a.length []=([],(G i j).2):=by rw [hrr,f4,if_pos hne]
                 rw [hr,e4,if_pos (by rw [q1];exact hne),q1]
                 rfl
               · have he:=x0m h5
                 simp -dsimp only [go_sem,f3]
                 refine⟨⟨by omega,by omega⟩,a.length-(j+1),by omega,j+1,r++ [(G i j).1],rfl,by omega,by simp [hrl],?_,?_⟩
                 · rw [hrr,f4,if_neg (fun hh=>hh he)]
                 · simp [Z0d,encI]
            · have hge:j=a.length:=by have:=of_decide_eq_false h'';omega
              have q1:tabF (fun j=>G i j) 0 a.length []=(r,0):=by rw [hrr,hge];exact H0j _ _ r
              simp -dsimp only [go_sem]
              refine Q0a ?_
              simp -dsimp only [go_sem]
              refine⟨⟨by omega,by omega⟩,Q0a ?_⟩
              simp -dsimp only [go_sem,e3]
              refine⟨a.length-(i+1),by omega,i+1,o++ [r],rfl,by omega,by simp [ho],?_,?_⟩
              · rw [hr,e4,q1,if_neg (by simp)]
              · simp
        · have hge:i=a.length:=by have:=of_decide_eq_false h';omega
          simp -dsimp only [go_sem]
          refine Q0a ?_
          simp -dsimp only [go_sem]
          rw [hr,hge,H0j]
   · have f1:((a.length:Int) !=(b.length:Int))=true:=by rw [bne_iff_ne];omega
     simp -dsimp only [go_sem,f1]
     rw [mulM,if_neg (fun hh=>hn hh.2.2.1)];rfl
end Go.Pv
end
section
/-The document's matrices:Norm. -/
set_option maxRecDepth 100000
namespace Go.Pv
open Go.Proofs
set_option maxHeartbeats 4000000 in
theorem G1j (m:Mx) (p:Int) (st:Q0f) (hm:wM m):PCalls Tryz.prog 131 [.sl .no (encM m),.sc (.int .i64 p)] st (fun r st'=>r= .tup [.agg (encN (Z0y m p).1),.sc (.int .i64 (Z0y m p).2)]∧st'=st):=by
 have hal:=hm.1
 refine Q0b none Tryz.func131 rfl fun E=>Q0a ?_
 simp -dsimp only [go_sem]
 refine(G0v m _ hm).mono ?_
 rintro r st ⟨rfl,rfl⟩
 cases v1:rightM m with
 | false=>
  simp -dsimp only [go_sem]
  rw [Z0y,if_neg (by simp [v1])];rfl
 | true=>
  simp -dsimp only [go_sem]
  refine(k0w p _).mono ?_
  rintro r st ⟨rfl,rfl⟩
  cases v4:Z0p p with
  | false=>
   simp -dsimp only [go_sem]
   rw [Z0y,if_neg (by simp [v4])];rfl
  | true=>
   have hl:=J0t v1
   have hM:Z0y m p=V0e m p m.length:=if_pos ⟨v1,v4⟩
   rw [hM]
   simp -dsimp only [go_sem]
   refine U0w 1 ?_
   simp -dsimp only [go_sem]
   refine Q0e [true,true,false,false,true,false,true,true] 2 0
    (fun k s=> ∃i,k=m.length-i∧i≤m.length∧(V0e m p i).2=0∧
     s=⟨[.sl .no (encM m),.sc (.int .i64 p),.junk,.junk,.lp 0 0,.junk,.lp 1 0,.sc (.int .i64 (i:Nat))]++List.replicate 58 .junk,
      [[.sc (.bool false),.sc (.int .i64 0),.sl .full []],encN (V0e m p i).1],[],st⟩) m.length ?_ ?_
   · simp -dsimp only [go_sem]
     exact⟨0,by omega,by omega,rfl,rfl⟩
   · rintro k s ⟨i,rfl,hi,hz,rfl⟩
     simp -dsimp only [go_sem]
     refine ck (fun h'=> ?_) (fun h'=> ?_)
     · have hlt:i<m.length:=by have:=of_decide_eq_true h';omega
       have e1:=K0p m i hlt
       have e3:=X0y i (by omega)
       obtain⟨q1,q2⟩:=X0e v1 hlt
       have hrl:=x0b q2
       have e2:=X0d (m.getD i []) 0 (by omega)
       simp -dsimp only [go_sem,e1,e2]
       refine⟨by omega,by omega,?_⟩
       refine(k1q _ _ ((hm.2 i hlt).2 0 (by omega))).mono ?_
       rintro r st ⟨rfl,rfl⟩
       have hs0:sumF (atM m i) p 0=(magI ((m.getD i []).getD 0 default),0):=rfl
       simp -dsimp only [go_sem]
       refine Q0e [true,true,false,false,true,false,true,true,true,true] 3 0
        (fun k s=> ∃j,k=m.length-1-j∧j≤m.length-1∧(sumF (atM m i) p j).2=0∧
         s=⟨[.sl .no (encM m),.sc (.int .i64 p),.junk,.junk,.lp 0 0,.junk,.lp 1 0,.sc (.int .i64 (i:Nat)),.lp 2 0,.sc (.int .i64 ((j+1:Nat):Int))]++List.replicate 56 .junk,
          [[.sc (.bool false),.sc (.int .i64 0),.sl .full []],encN (V0e m p i).1,encN (sumF (atM m i) p j).1],[],st⟩) (m.length-1) ?_ ?_
       · simp -dsimp only [go_sem]
         exact⟨0,by omega,by omega,by rw [hs0],by rw [hs0];rfl⟩
       · rintro k s ⟨j,rfl,hj,hsz,rfl⟩
         simp -dsimp only [go_sem]
         refine ck (fun h2=> ?_) (fun h2=> ?_)
         · have hlt2:j+1<m.length:=by have:=of_decide_eq_true h2;omega
           have f1:=X0d (m.getD i []) (j+1) (by omega)
           have f3:=X0y (j+1) (by omega)
           have f4:=Q1y hsz
           have wx:wI ((m.getD i []).getD (j+1) default):=(hm.2 i hlt).2 (j+1) (by omega)
           have wm:=x0w (Z0j (y0a ((m.getD i []).getD (j+1) default)))
           have ws:=x0w (Z0j (Y0o (atM m i) p j))
           have f5:atM m i (j+1)=(m.getD i []).getD (j+1) default:=rfl
           rw [f5] at f4
           simp -dsimp only [go_sem]
           refine Q0k Z0f 66 (.step 0 [] (.step 1 [] (.step 2 [] (.step 3 [] (.step 4 [] (.step 5 [] (.step 6 [] (.step 7 [] (.step 9 [] (.alt (.step 8 [0] (.alt (.step 10 [4] (.step 11 [] (.step 12 [] (.step 13 [] (.step 14 [0,4,7] (.step 15 [] (.step 16 [] (.done)))))))) (.step 14 [0,4,7] (.step 10 [4] (.step 11 [] (.step 12 [] (.step 13 [] (.step 15 [] (.step 16 [] (.done)))))))))) (.step 14 [0,4,7] (.step 8 [0] (.step 10 [4] (.step 11 [] (.step 12 [] (.step 13 [] (.step 15 [] (.step 16 [] (.done))))))))))))))))))) (by decide+kernel) (by simp) ?_
           simp -dsimp only [go_sem,e1,f1]
           refine⟨by omega,by omega,?_⟩
           refine And.intro ?_ ?_
           all_goals
            refine(k1q _ _ wx).mono ?_
            rintro r st ⟨rfl,rfl⟩
            simp -dsimp only [go_sem]
           refine And.intro ?_ ?_
           all_goals
            refine(y0r _ _ p true _ ws wm).mono ?_
            rintro r st ⟨rfl,rfl⟩
            simp -dsimp only [go_sem]
            refine ck (fun h3=> ?_) (fun h3=> ?_)
            · have hne:=q0k h3
              simp -dsimp only [go_sem]
              rw [G1x (j:=j+1) hne hlt (by omega) hz (by rw [f4])]
              rfl
            · have he:=x0m h3
              simp -dsimp only [go_sem,f3]
              exact⟨m.length-1-(j+1),by omega,j+1,rfl,by omega,by rw [f4];exact he,by rw [f4]⟩
         · have hge:j=m.length-1:=by have:=of_decide_eq_false h2;omega
           have hnx:=w0v hz (by rw [←hge];exact hsz)
           rw [←hge] at hnx
           have w1:=x0w (Z0j (Y0o (atM m i) p j))
           have w2:=x0w (Z0j (U0d m p i))
           simp -dsimp only [go_sem]
           refine Q0a ?_
           simp -dsimp only [go_sem]
           refine(v0v _ _ _ (by unfold wN at w1;omega) (by unfold wN at w2;omega)).mono ?_
           rintro r st ⟨rfl,rfl⟩
           simp -dsimp only [go_sem]
           refine ck (fun h3=> ?_) (fun h3=> ?_)
           · have hc:=of_decide_eq_true h3
             rw [if_pos hc] at hnx
             simp -dsimp only [go_sem]
             refine Q0a ?_
             simp -dsimp only [go_sem,e3]
             exact⟨m.length-(i+1),by omega,i+1,rfl,by omega,by rw [hnx],by rw [hnx]⟩
           · have hc:=of_decide_eq_false h3
             rw [if_neg hc] at hnx
             simp -dsimp only [go_sem]
             refine Q0a ?_
             simp -dsimp only [go_sem,e3]
             exact⟨m.length-(i+1),by omega,i+1,rfl,by omega,by rw [hnx],by rw [hnx]⟩
     · have hge:i=m.length:=by have:=of_decide_eq_false h';omega
       subst hge
       simp -dsimp only [go_sem]
       refine Q0a ?_
       simp -dsimp only [go_sem]
       rw [hz]
end Go.Pv
end
section
/-The deck's matrices,and numbers of them. -/
set_option maxRecDepth 100000
namespace Go.Pv
open Go.Proofs
theorem G1d {m:Mx} (h:rightM m=true):wM m:=⟨by have:=J0t h;omega,fun i hi=>X2v (X0e h hi).2⟩
end Go.Pv
end
section
/-Layer 7:known,light,reckons. -/
set_option maxRecDepth 100000
namespace Go.Pv
open Go.Proofs
theorem J3z {m:Mx} (h1:m.length≤100000000000) (h2: ∀r∈m,wB r):wM m:=⟨h1,fun i hi=>h2 _ (Q0s _ _ _ hi)⟩
theorem K3a {b:List Ivl} (h1:b.length≤100000000000) (h2: ∀x∈b,wI x):wB b:=⟨h1,fun i hi=>h2 _ (Q0s _ _ _ hi)⟩
theorem v2z {G:Nat→Ivl×Int} {n:Nat} (hn:n≤100000) (h: ∀i,wI (G i).1):wB (tabF G 0 n []).1:=by
 refine K3a ?_ (W1e wI n 0 [] (fun i _ _=>h i) (fun x hx=>by cases hx))
 have:=W1f (G:=G) n 0 []
 simp at this;omega
theorem v1x {G:Nat→Nat→Ivl×Int} {n:Nat} (hn:n≤100000) (h: ∀i j,wI (G i j).1):wM (Y0g G n).1:=by
 refine J3z ?_ (W1e wB n 0 [] (fun i _ _=>v2z hn (h i)) (fun x hx=>by cases hx))
 have:=W1f (G:=fun i=>tabF (fun j=>G i j) 0 n []) n 0 []
 simp at this;unfold Y0g;omega
theorem j2j :wM []:=⟨by simp,fun i hi=>by simp at hi⟩
theorem k2e (k:Nat) (a b:Mx) (p:Int):wM (opM k a b p).1:=by
 unfold opM
 split
 · rename_i h;have:=J0t h.1;exact v1x (by omega) fun i j=>z0t (G0y _ _ _ _)
 · exact j2j
theorem K2d (a b:Mx) (p:Int):wM (mulM a b p).1:=by
 unfold mulM
 split
 · rename_i h;have:=J0t h.1;exact v1x (by omega) fun i j=>z0t (y0k _ _ _ _)
 · exact j2j
theorem V3n {q:List Nm} (h:wNs q):wB (ofB q):=by
 refine⟨by unfold ofB;rw [List.length_map];exact h.1,fun i hi=> ?_⟩
 have hi':i<q.length:=by simpa [ofB] using hi
 have e:(ofB q).getD i default=⟨q.getD i default,q.getD i default⟩:=by simp [ofB,List.getD_eq_getElem?_getD,hi']
 rw [e];exact⟨h.2 i hi',h.2 i hi'⟩
theorem y2j (q:List (List Nm)) (i:Nat) (h:i<q.length):(ofM q).getD i []=ofB (q.getD i []):=by
 simp [ofM,List.getD_eq_getElem?_getD,h]
theorem X1e {q:List (List Nm)} (h:wQ q):wM (ofM q):=by
 refine⟨by unfold ofM;rw [List.length_map];exact h.1,fun i hi=> ?_⟩
 have hi':i<q.length:=by simpa [ofM] using hi
 rw [y2j q i hi'];exact V3n (h.2 i hi')
end Go.Pv
end
section
/-The laws MatParts,MatDrawn. -/
set_option maxRecDepth 100000
namespace Go.Pv
open Go.Proofs
theorem y1m :Q0j oneN=true:=by decide
theorem G2e (n i j:Nat) (h:j<n):(rowQ n i).getD j default=if i=j then oneN else default:=by
 unfold rowQ
 rw [z2i _ _ _ _ _ (by simpa using h)]
 split
 · rfl
 · simp [List.getD_eq_getElem?_getD,h]
theorem x1h (n:Int):wQ (oneQ n):=by
 unfold oneQ
 split
 · rename_i h
   refine⟨by rw [X0z];omega,fun i hi=> ?_⟩
   rw [X0z] at hi
   have e:(oneL n.toNat).getD i []=rowQ n.toNat i:=by simp [oneL,List.getD_eq_getElem?_getD,hi]
   rw [e]
   refine⟨by rw [H0n];omega,fun j hj=> ?_⟩
   rw [H0n] at hj
   rw [G2e _ _ _ hj]
   split
   · exact x0w (Z0j y1m)
   · exact x0w (Z0j K0v)
 · exact⟨by simp,fun i hi=>by simp at hi⟩
end Go.Pv
end
