/- Parts of the walk: N34, N35, N36, N37, N38, N39, N40, N41, N42, N43. -/
import Derived.Test.YtofoadghajnglaaGreatDoorQAQ
import Derived.Test.YtofoadghajnglaaGreatDoorQM
import Derived.Test.YtofoadghajnglaaGreatDoorQAE
import Derived.Test.YtofoadghajnglaaGreatDoorQAA
import Derived.Test.YtofoadghajnglaaGreatDoorQY
import Derived.Test.YtofoadghajnglaaGreatDoorQH
import Derived.Test.YtofoadghajnglaaGreatDoorQAH
import Derived.Test.YtofoadghajnglaaGreatDoorQK
import Derived.Test.YtofoadghajnglaaGreatDoorQAO
set_option linter.unusedVariables false
set_option linter.unusedSimpArgs false
section
/-The program's matrices:Norm,Id;Mag on both sides. -/
set_option maxRecDepth 100000
namespace Go.Pv
open Go.Proofs
theorem K2d (n:Nat) (st:Q0c) (hn:n<9223372036854775808):PCalls Tryz.prog 65 [.sc (.int .i64 n)] st (fun r st'=>r= .agg (encN (mkX false [UInt64.ofNat n] 0).1)∧st'=st):=by
 have g1:decide ((n:Int)<0)=false:=decide_eq_false (by omega)
 have g2:IntKind.u64.wrap (n:Int)=n:=j1h n (by omega)
 have g3: [PV.sc (.int .u64 n)]=encW [UInt64.ofNat n]:=by
  simp only [encW,List.map_cons,List.map_nil]
  rw [UInt64.toNat_ofNat_of_lt' (show n<UInt64.size by unfold UInt64.size;omega)]
 refine Q0b none Tryz.func65 rfl fun E=>Q0a ?_
 simp -dsimp only [go_sem,g1,g2]
 rw [g3]
 refine(K1a false _ 0 _ (by simp) (by omega) (by omega)).mono ?_
 rintro r st ⟨rfl,rfl⟩
 simp -dsimp only [go_sem]
theorem J2w :(mkX false [1] 0).1=oneN:=by decide+kernel
theorem U0c (st:Q0c):PCalls Tryz.prog 65 [.sc (.int .i64 1)] st (fun r st'=>r= .agg (encN oneN)∧st'=st):=by
 have:=K2d 1 st (by omega)
 rw [show UInt64.ofNat 1=1 from rfl,J2w] at this;exact this
theorem U1b (x:Nm) (st:Q0c):PCalls Tryz.prog 247 [.agg (encN x)] st (fun r st'=>r= .agg (encN (magN x))∧st'=st):=by
 refine Q0b none Tryz.func247 rfl fun E=>Q0a ?_
 simp -dsimp only [go_sem]
 try rfl
theorem U2b {x:Nm} (h:sm x):sm (magN x):=h
theorem y1d (a:Ivl) (st:Q0c) (ha:wI a):PCalls Tryz.prog 199 [.agg (encI a)] st (fun r st'=>r= .agg (encN (magI a))∧st'=st):=by
 refine Q0b none Tryz.func199 rfl fun E=>Q0a ?_
 unfold magI
 simp -dsimp only [go_sem]
 refine(W0z a _ ha).mono ?_
 rintro r st ⟨rfl,rfl⟩
 cases h:Q0v a with
 | false=>simp -dsimp only [go_sem];rfl
 | true=>
  obtain⟨r1,r2,_⟩:=Z0a h
  rw [if_pos rfl]
  simp -dsimp only [go_sem]
  refine Q0q X0b 15 (.step 0 [] (.step 1 [] (.step 3 [] (.step 4 [] (.step 2 [4] (.step 5 [] (.step 6 [] (.step 7 [] (.step 8 [] (.done)))))))))) (by decide+kernel) (by simp) ?_
  simp -dsimp only [go_sem]
  refine(U1b a.lo _).mono ?_
  rintro r st ⟨rfl,rfl⟩
  simp -dsimp only [go_sem]
  refine(U1b a.hi _).mono ?_
  rintro r st ⟨rfl,rfl⟩
  simp -dsimp only [go_sem]
  refine(y0v _ _ _ (U2b (Z0q r1)) (U2b (Z0q r2))).mono ?_
  rintro r st ⟨rfl,rfl⟩
  simp -dsimp only [go_sem]
  refine(Z1x _ _ (v0m (P:=wN) (j0w (Z0q (G0c r1))) (j0w (Z0q (G0c r2))))).mono ?_
  rintro r st ⟨rfl,rfl⟩
  simp -dsimp only [go_sem]
theorem K2u (i j:Nat) (st:Q0c):PCalls Tryz.prog 87 ([.sc (.int .i64 i),.sc (.int .i64 j)]++ []) st (fun r st'=>r= .tup [.agg (encI (if i=j then⟨oneN,oneN⟩ else default)),.sc (.int .i64 0)]∧st'=st):=by
 refine Q0b none Tryz.func87 rfl fun E=>Q0a ?_
 by_cases h:i=j
 · have f1:((i:Int)==(j:Int))=true:=by rw [h];simp
   rw [if_pos h]
   simp -dsimp only [go_sem,f1]
   refine(U0c _).mono ?_
   rintro r st ⟨rfl,rfl⟩
   simp -dsimp only [go_sem]
   refine(H1n oneN _ (by unfold wN;decide)).mono ?_
   rintro r st ⟨rfl,rfl⟩
   simp -dsimp only [go_sem]
 · have f1:((i:Int)==(j:Int))=false:=by rw [beq_eq_false_iff_ne];omega
   rw [if_neg h]
   simp -dsimp only [go_sem,f1]
   rfl
theorem V2q {n:Nat} (h1:1≤n) (h4:n≤4):V0j (fun i j=>((if i=j then⟨oneN,oneN⟩ else default:Ivl),0)) n=(idM (n:Int),0):=by
 have:n=1∨n=2∨n=3∨n=4:=by omega
 rcases this with rfl | rfl | rfl | rfl<;>decide+kernel
theorem z2e (n:Int) (st:Q0c):PCalls Tryz.prog 33 [.sc (.int .i64 n)] st (fun r st'=>r= .sl .no (encM (idM n))∧st'=st):=by
 refine Q0b none Tryz.func33 rfl fun E=>Q0a ?_
 by_cases h1:n<1
 · have f1:decide (n<1)=true:=decide_eq_true h1
   simp -dsimp only [go_sem,f1]
   rw [idM,if_neg (by omega)];rfl
 · have f1:decide (n<1)=false:=decide_eq_false h1
   by_cases h4:n>4
   · have f2:decide (n>4)=true:=decide_eq_true h4
     simp -dsimp only [go_sem,f1,f2]
     rw [idM,if_neg (by omega)];rfl
   · have f2:decide (n>4)=false:=decide_eq_false h4
     obtain⟨k,rfl⟩:=Int.eq_ofNat_of_zero_le (show 0≤n by omega)
     simp -dsimp only [go_sem,f1,f2]
     refine(H0b _ [] (fun i j=>((if i=j then⟨oneN,oneN⟩ else default:Ivl),0)) k st rfl (by omega) rfl rfl rfl rfl (fun _=>rfl) fun i j hi hj=>K2u i j st).mono ?_
     rintro r st ⟨rfl,rfl⟩
     rw [V2q (by omega) (by omega)]
     simp -dsimp only [go_sem]
end Go.Pv
end
section
/-The program's matrices:Norm. -/
set_option maxRecDepth 100000
namespace Go.Pv
open Go.Proofs
set_option maxHeartbeats 4000000 in
theorem K1h (m:Mx) (p:Int) (st:Q0c) (hm:wM m):PCalls Tryz.prog 134 [.sl .no (encM m),.sc (.int .i64 p)] st (fun r st'=>r= .tup [.agg (encN (X0a m p).1),.sc (.int .i64 (X0a m p).2)]∧st'=st):=by
 refine Q0b none Tryz.func134 rfl fun E=>Q0a ?_
 simp -dsimp only [go_sem]
 refine(z0s m m p _ hm hm).mono ?_
 rintro r st ⟨rfl,rfl⟩
 cases hv:j0p m m p with
 | false=>
  simp -dsimp only [go_sem]
  rw [X0a,if_neg (fun hh=>by rw [validM_iff.2 ⟨hh.1,hh.1,rfl,hh.2⟩] at hv;cases hv)];rfl
 | true=>
  obtain⟨v1,v2,v3,v4⟩:=validM_iff.1 hv
  have hl:=J0m v1
  have hM:X0a m p=J0s m p m.length:=if_pos ⟨v1,v4⟩
  rw [hM]
  simp -dsimp only [go_sem]
  refine x0o 1 ?_
  simp -dsimp only [go_sem]
  refine Q0e [false,true,false,false,true,false,true,false,false,false,false,false,false,false,false,false,false,false,false,false,true,true,true] 2 0
   (fun k s=> ∃i,k=m.length-i∧i≤m.length∧(J0s m p i).2=0∧
    s=⟨[.junk,.sc (.int .i64 p),.junk,.junk,.lp 0 0,.junk,.lp 1 0,.junk,.junk,.junk,.junk,.junk,.junk,.junk,.junk,.junk,.junk,.junk,.junk,.junk,.sl .no (encM m),.sc (.int .i64 m.length),.sc (.int .i64 (i:Nat))]++List.replicate 35 .junk,
     [[.sc (.bool false),.sc (.int .i64 0),.sl .full []],encN (J0s m p i).1],[],st⟩) m.length ?_ ?_
  · simp -dsimp only [go_sem]
    exact⟨0,by omega,by omega,rfl,rfl⟩
  · rintro k s ⟨i,rfl,hi,hz,rfl⟩
    simp -dsimp only [go_sem]
    refine ck (fun h'=> ?_) (fun h'=> ?_)
    · have hlt:i<m.length:=by have:=of_decide_eq_true h';omega
      have e1:=W0h m i hlt
      have e3:=K0f i (by omega)
      obtain⟨q1,q2⟩:=X0w v1 hlt
      have hrl:=z0n q2
      have e2:=J0j (m.getD i []) 0 (by omega)
      simp -dsimp only [go_sem,e1,e2]
      refine⟨by omega,by omega,?_⟩
      refine(y1d _ _ ((hm.2 i hlt).2 0 (by omega))).mono ?_
      rintro r st ⟨rfl,rfl⟩
      simp -dsimp only [go_sem]
      have t1:(m.getD i []).take (m.getD i []).length=m.getD i []:=List.take_length
      have t2:((m.getD i []).drop 1).length=m.length-1:=by rw [List.length_drop,q1]
      have hs0:sumF (atM m i) p 0=(magI ((m.getD i []).getD 0 default),0):=rfl
      generalize hR:(m.getD i []).drop 1=R at*
      have hget: ∀j,j<R.length→R.getD j default=atM m i (j+1):=fun j hj=>by
       rw [←hR];unfold atM
       simp only [List.getD_eq_getElem?_getD,List.getElem?_drop]
       rw [Nat.add_comm 1 j]
      simp -dsimp only [go_sem,t1,hR]
      refine⟨by omega,?_⟩
      refine Q0e [false,true,false,false,true,false,true,false,false,true,false,false,false,false,false,false,false,false,false,false,true,true,true,false,false,false,false,false,false,false,false,true,true,true] 3 0
       (fun k s=> ∃j,k=R.length-j∧j≤R.length∧(sumF (atM m i) p j).2=0∧
        s=⟨[.junk,.sc (.int .i64 p),.junk,.junk,.lp 0 0,.junk,.lp 1 0,.junk,.junk,.lp 2 0,.junk,.junk,.junk,.junk,.junk,.junk,.junk,.junk,.junk,.junk,.sl .no (encM m),.sc (.int .i64 m.length),.sc (.int .i64 (i:Nat)),.junk,.junk,.junk,.junk,.junk,.junk,.junk,.junk,.sl .no (Z0e R),.sc (.int .i64 R.length),.sc (.int .i64 (j:Nat))]++List.replicate 24 .junk,
         [[.sc (.bool false),.sc (.int .i64 0),.sl .full []],encN (J0s m p i).1,encN (sumF (atM m i) p j).1],[],st⟩) R.length ?_ ?_
      · simp -dsimp only [go_sem]
        exact⟨0,by omega,by omega,by rw [hs0],by rw [hs0];rfl⟩
      · rintro k s ⟨j,rfl,hj,hsz,rfl⟩
        simp -dsimp only [go_sem]
        refine ck (fun h2=> ?_) (fun h2=> ?_)
        · have hlt2:j<R.length:=by have:=of_decide_eq_true h2;omega
          have f1:=J0j R j hlt2
          have f3:=K0f j (by omega)
          have f4:=X1v hsz
          have f5:=hget j hlt2
          have wx:wI (atM m i (j+1)):=(hm.2 i hlt).2 (j+1) (by omega)
          simp -dsimp only [go_sem,f1]
          refine⟨by omega,?_⟩
          refine Q0q X0b 58 (.step 0 [] (.step 1 [] (.step 3 [] (.alt (.step 2 [0] (.alt (.step 4 [] (.step 5 [] (.step 6 [] (.step 7 [] (.step 8 [0,1] (.step 9 [] (.step 10 [] (.done)))))))) (.step 8 [0,1] (.step 4 [] (.step 5 [] (.step 6 [] (.step 7 [] (.step 9 [] (.step 10 [] (.done)))))))))) (.step 8 [0,1] (.step 2 [0] (.step 4 [] (.step 5 [] (.step 6 [] (.step 7 [] (.step 9 [] (.step 10 [] (.done))))))))))))) (by decide+kernel) (by simp) ?_
          simp -dsimp only [go_sem]
          have wm:=j0w (Z0q (y0m (atM m i (j+1))))
          have ws:=j0w (Z0q (U0t (atM m i) p j))
          rw [←f5] at wx
          refine And.intro ?_ ?_
          all_goals
           refine(y1d _ _ wx).mono ?_
           rintro r st ⟨rfl,rfl⟩
           rw [f5]
           simp -dsimp only [go_sem]
          refine And.intro ?_ ?_
          all_goals
           refine(G1k _ _ p true _ ws wm).mono ?_
           rintro r st ⟨rfl,rfl⟩
           simp -dsimp only [go_sem]
           refine ck (fun h3=> ?_) (fun h3=> ?_)
           · have hne:=w0x h3
             simp -dsimp only [go_sem]
             rw [v1y (j:=j+1) hne hlt (by omega) hz (by rw [f4])]
             rfl
           · have he:=X1j h3
             simp -dsimp only [go_sem,f3]
             exact⟨R.length-(j+1),by omega,j+1,rfl,by omega,by rw [f4];exact he,by rw [f4]⟩
        · have hge:j=R.length:=by have:=of_decide_eq_false h2;omega
          subst hge
          have hnx:=y0f hz (by rw [←t2];exact hsz)
          rw [←t2] at hnx
          have w1:=j0w (Z0q (U0t (atM m i) p R.length))
          have w2:=j0w (Z0q (Y0i m p i))
          simp -dsimp only [go_sem]
          refine Q0a ?_
          simp -dsimp only [go_sem]
          refine(Z1j _ _ _ (by unfold wN at w1;omega) (by unfold wN at w2;omega)).mono ?_
          rintro r st ⟨rfl,rfl⟩
          simp -dsimp only [go_sem]
          refine ck (fun h3=> ?_) (fun h3=> ?_)
          · have hc:=of_decide_eq_true h3
            rw [if_pos hc] at hnx
            simp -dsimp only [go_sem]
            refine Q0a ?_
            simp -dsimp only [go_sem,e3]
            exact⟨m.length-(i+1),by omega,i+1,rfl,by omega,by rw [hnx],by rw [hnx]⟩
          · have hc:=of_decide_eq_false h3
            rw [if_neg hc] at hnx
            simp -dsimp only [go_sem]
            refine Q0a ?_
            simp -dsimp only [go_sem,e3]
            exact⟨m.length-(i+1),by omega,i+1,rfl,by omega,by rw [hnx],by rw [hnx]⟩
    · have hge:i=m.length:=by have:=of_decide_eq_false h';omega
      subst hge
      simp -dsimp only [go_sem]
      refine Q0a ?_
      simp -dsimp only [go_sem]
      rw [hz]
end Go.Pv
end
section
/-The document's matrices:RightMat,SameMat,InMat,PointMat;rows held against one another. -/
set_option maxRecDepth 100000
namespace Go.Pv
open Go.Proofs
theorem H2v (a b:List (List Nm)) (st:Q0c) (ha:wQ a) (hb:wQ b):PCalls Tryz.prog 35 [.sl .no (encQ a),.sl .no (encQ b)] st (fun r st'=>r= .sc (.bool (decide (a=b)))∧st'=st):=by
 have hla:=ha.1
 have hlb:=hb.1
 refine Q0b none Tryz.func35 rfl fun E=>Q0a ?_
 simp -dsimp only [go_sem]
 refine ck (fun h0=> ?_) (fun h0=> ?_)
 · have hne:=x0q h0
   simp -dsimp only [go_sem]
   rw [decide_eq_false (fun e=>hne (by rw [e]))]
 · have hl:=U0d h0
   simp -dsimp only [go_sem]
   refine Q0e [true,true,false,false,false,true] 0 0 (fun n s=> ∃i,n=a.length-i∧i≤a.length∧(∀j,j<i→a.getD j []=b.getD j [])∧s=⟨[.sl .no (encQ a),.sl .no (encQ b),.junk,.junk,.junk,.sc (.int .i64 (i:Nat))]++List.replicate 21 .junk,[],[],st⟩) a.length ?_ ?_
   · simp -dsimp only [go_sem]
     exact⟨0,by omega,by omega,fun j hj=>by omega,rfl⟩
   · rintro n s ⟨i,rfl,hi,hr,rfl⟩
     simp -dsimp only [go_sem]
     refine ck (fun h'=> ?_) (fun h'=> ?_)
     · have hlt:i<a.length:=by have:=of_decide_eq_true h';omega
       have e1:=Y0n a i hlt
       have e2:=Y0n b i (by omega)
       have e3:=K0f i (by omega)
       simp -dsimp only [go_sem]
       refine Q0q X0b 27 (.step 0 [] (.step 1 [] (.step 2 [] (.step 3 [] (.step 4 [] (.step 5 [] (.step 6 [] (.step 7 [] (.step 8 [] (.step 9 [] (.done))))))))))) (by decide+kernel) (by simp) ?_
       simp -dsimp only [go_sem,e1,e2]
       refine⟨by omega,by omega,?_⟩
       refine(x1g _ _ st (ha.2 i hlt) (hb.2 i (by omega))).mono ?_
       rintro r st ⟨rfl,rfl⟩
       simp -dsimp only [go_sem]
       refine ck (fun h2=> ?_) (fun h2=> ?_)
       · have hf:a.getD i []≠b.getD i []:=by
          intro e;rw [e] at h2;simp at h2
         simp -dsimp only [go_sem]
         rw [decide_eq_false (fun e=>hf (by rw [e]))]
       · have ht:a.getD i []=b.getD i []:=by
          apply Decidable.byContradiction;intro e;rw [decide_eq_false e] at h2;cases h2
         simp -dsimp only [go_sem,e3]
         refine⟨a.length-(i+1),by omega,i+1,rfl,by omega,fun j hj=> ?_,rfl⟩
         by_cases e:j=i
         · subst e;exact ht
         · exact hr j (by omega)
     · have hge:i=a.length:=by have:=of_decide_eq_false h';omega
       simp -dsimp only [go_sem]
       refine Q0a ?_
       simp -dsimp only [go_sem]
       rw [decide_eq_true (Y0b [] hl fun j hj=>hr j (by omega))]
end Go.Pv
end
section
/-The document's matrices:One,MulMat. -/
set_option maxRecDepth 100000
namespace Go.Pv
open Go.Proofs
theorem J2u (f:PV→PV) (l:List PV) (o:Nat) (r:List PV):(over l o r).map f=over (l.map f) o (r.map f):=by
 simp [over,List.map_take,List.map_drop]
theorem Z1c (f:PV→PV) (n:Nat) (z:List PV):(repC n z).map f=repC n (z.map f):=by
 unfold repC;rw [List.map_flatten,List.map_replicate]
theorem x2a {l r:List PV} {o:Nat} (h1:fzOK l=true) (h2:fzOK r=true):fzOK (over l o r)=true:=by
 unfold fzOK at*
 rw [List.all_eq_true] at*
 intro p hp
 simp only [over,List.mem_append] at hp
 rcases hp with (hp | hp) | hp
 · exact h1 p (List.mem_of_mem_take hp)
 · exact h2 p hp
 · exact h1 p (List.mem_of_mem_drop hp)
theorem y1m {n:Nat} {z:List PV} (h:fzOK z=true):fzOK (repC n z)=true:=by
 unfold fzOK at*
 rw [List.all_eq_true] at*
 intro p hp
 simp only [repC,List.mem_flatten,List.mem_replicate] at hp
 obtain⟨l,⟨_,rfl⟩,hp⟩:=hp
 exact h p hp
theorem U2h (n:Nat):repC n (encN default)=flat (Z0f (List.replicate n default)):=by
 simp [repC,flat,Z0f,PV.cells]
def rowQ (n i:Nat):List Nm:=(List.replicate n default).set i oneN
def oneL (k:Nat):List (List Nm):=(List.range k).map (rowQ k)
theorem K0n (k:Nat):(oneL k).length=k:=by simp [oneL]
def oneQ (n:Int):List (List Nm):=if 1≤n∧n≤4 then oneL n.toNat else []
theorem q2t (n:Int):ofM (oneQ n)=idM n:=by
 unfold oneQ idM
 split
 · rename_i h
   have:n=1∨n=2∨n=3∨n=4:=by omega
   rcases this with rfl | rfl | rfl | rfl<;>decide+kernel
 · rfl
theorem k0c (n i:Nat):(rowQ n i).length=n:=by simp [rowQ]
end Go.Pv
end
section
/-The deck's matrices,and numbers of them. -/
set_option maxRecDepth 100000
namespace Go.Pv
open Go.Proofs
theorem J1h {m:Mx} (h:rightM m=true):wM m:=⟨by have:=J0m h;omega,fun i hi=>k1s (X0w h hi).2⟩
end Go.Pv
end
section
/-Layer 7:known,light,reckons. -/
set_option maxRecDepth 100000
namespace Go.Pv
open Go.Proofs
theorem w2e {m:Mx} (h1:m.length≤100000000000) (h2: ∀r∈m,wB r):wM m:=⟨h1,fun i hi=>h2 _ (Q0m _ _ _ hi)⟩
theorem w2f {b:List Ivl} (h1:b.length≤100000000000) (h2: ∀x∈b,wI x):wB b:=⟨h1,fun i hi=>h2 _ (Q0m _ _ _ hi)⟩
theorem H2n {G:Nat→Ivl×Int} {n:Nat} (hn:n≤100000) (h: ∀i,wI (G i).1):wB (tabF G 0 n []).1:=by
 refine w2f ?_ (Q1w wI n 0 [] (fun i _ _=>h i) (fun x hx=>by cases hx))
 have:=Q1x (G:=G) n 0 []
 simp at this;omega
theorem H1r {G:Nat→Nat→Ivl×Int} {n:Nat} (hn:n≤100000) (h: ∀i j,wI (G i j).1):wM (V0j G n).1:=by
 refine w2e ?_ (Q1w wB n 0 [] (fun i _ _=>H2n hn (h i)) (fun x hx=>by cases hx))
 have:=Q1x (G:=fun i=>tabF (fun j=>G i j) 0 n []) n 0 []
 simp at this;unfold V0j;omega
theorem Y2t :wM []:=⟨by simp,fun i hi=>by simp at hi⟩
theorem y2j (k:Nat) (a b:Mx) (p:Int):wM (opM k a b p).1:=by
 unfold opM
 split
 · rename_i h;have:=J0m h.1;exact H1r (by omega) fun i j=>j0a (U0b _ _ _ _)
 · exact Y2t
theorem z2a (a b:Mx) (p:Int):wM (mulM a b p).1:=by
 unfold mulM
 split
 · rename_i h;have:=J0m h.1;exact H1r (by omega) fun i j=>j0a (Q1f _ _ _ _)
 · exact Y2t
theorem y2l {q:List Nm} (h:wNs q):wB (ofB q):=by
 refine⟨by unfold ofB;rw [List.length_map];exact h.1,fun i hi=> ?_⟩
 have hi':i<q.length:=by simpa [ofB] using hi
 have e:(ofB q).getD i default=⟨q.getD i default,q.getD i default⟩:=by simp [ofB,List.getD_eq_getElem?_getD,hi']
 rw [e];exact⟨h.2 i hi',h.2 i hi'⟩
theorem q2w (q:List (List Nm)) (i:Nat) (h:i<q.length):(ofM q).getD i []=ofB (q.getD i []):=by
 simp [ofM,List.getD_eq_getElem?_getD,h]
theorem v1r {q:List (List Nm)} (h:wQ q):wM (ofM q):=by
 refine⟨by unfold ofM;rw [List.length_map];exact h.1,fun i hi=> ?_⟩
 have hi':i<q.length:=by simpa [ofM] using hi
 rw [q2w q i hi'];exact y2l (h.2 i hi')
end Go.Pv
end
section
/-The laws MatParts,MatDrawn. -/
set_option maxRecDepth 100000
namespace Go.Pv
open Go.Proofs
theorem z1j :Q0i oneN=true:=by decide
theorem J2d (n i j:Nat) (h:j<n):(rowQ n i).getD j default=if i=j then oneN else default:=by
 unfold rowQ
 rw [V2x _ _ _ _ _ (by simpa using h)]
 split
 · rfl
 · simp [List.getD_eq_getElem?_getD,h]
theorem q2s (n:Int):wQ (oneQ n):=by
 unfold oneQ
 split
 · rename_i h
   refine⟨by rw [K0n];omega,fun i hi=> ?_⟩
   rw [K0n] at hi
   have e:(oneL n.toNat).getD i []=rowQ n.toNat i:=by simp [oneL,List.getD_eq_getElem?_getD,hi]
   rw [e]
   refine⟨by rw [k0c];omega,fun j hj=> ?_⟩
   rw [k0c] at hj
   rw [J2d _ _ _ hj]
   split
   · exact j0w (Z0q z1j)
   · exact j0w (Z0q J0e)
 · exact⟨by simp,fun i hi=>by simp at hi⟩
end Go.Pv
end
