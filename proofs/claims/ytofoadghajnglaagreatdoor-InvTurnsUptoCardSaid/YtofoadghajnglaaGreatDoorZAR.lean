/- Parts of the walk: N34, N35, N36, N37, N38, N39, N40, N41, N42, N43, M39, M40, N44, M41. -/
import Derived.Test.YtofoadghajnglaaGreatDoorZAQ
import Derived.Test.YtofoadghajnglaaGreatDoorZM
import Derived.Test.YtofoadghajnglaaGreatDoorZAF
import Derived.Test.YtofoadghajnglaaGreatDoorZAM
import Derived.Test.YtofoadghajnglaaGreatDoorZY
import Derived.Test.YtofoadghajnglaaGreatDoorZAE
set_option linter.unusedVariables false
set_option linter.unusedSimpArgs false
section
/-The program's matrices:Norm,Id;Mag on both sides. -/
set_option maxRecDepth 100000
namespace Go.Pv
open Go.Proofs
theorem j2i (n:Nat) (st:Q0d) (hn:n<9223372036854775808):PCalls Tryz.prog 65 [.sc (.int .i64 n)] st (fun r st'=>r= .agg (encN (mkX false [UInt64.ofNat n] 0).1)∧st'=st):=by
 have g1:decide ((n:Int)<0)=false:=decide_eq_false (by omega)
 have g2:IntKind.u64.wrap (n:Int)=n:=W0q n (by omega)
 have g3: [PV.sc (.int .u64 n)]=encW [UInt64.ofNat n]:=by
  simp only [encW,List.map_cons,List.map_nil]
  rw [UInt64.toNat_ofNat_of_lt' (show n<UInt64.size by unfold UInt64.size;omega)]
 refine Q0b none Tryz.func65 rfl fun E=>Q0a ?_
 simp -dsimp only [go_sem,g1,g2]
 rw [g3]
 refine(q1i false _ 0 _ (by simp) (by omega) (by omega)).mono ?_
 rintro r st ⟨rfl,rfl⟩
 simp -dsimp only [go_sem]
theorem j2b :(mkX false [1] 0).1=oneN:=by decide+kernel
theorem q0u (st:Q0d):PCalls Tryz.prog 65 [.sc (.int .i64 1)] st (fun r st'=>r= .agg (encN oneN)∧st'=st):=by
 have:=j2i 1 st (by omega)
 rw [show UInt64.ofNat 1=1 from rfl,j2b] at this;exact this
theorem v1b (x:Nm) (st:Q0d):PCalls Tryz.prog 247 [.agg (encN x)] st (fun r st'=>r= .agg (encN (magN x))∧st'=st):=by
 refine Q0b none Tryz.func247 rfl fun E=>Q0a ?_
 simp -dsimp only [go_sem]
 try rfl
theorem y2g {x:Nm} (h:sm x):sm (magN x):=h
theorem U2f (a:Ivl) (st:Q0d) (ha:wI a):PCalls Tryz.prog 199 [.agg (encI a)] st (fun r st'=>r= .agg (encN (magI a))∧st'=st):=by
 refine Q0b none Tryz.func199 rfl fun E=>Q0a ?_
 unfold magI
 simp -dsimp only [go_sem]
 refine(W0u a _ ha).mono ?_
 rintro r st ⟨rfl,rfl⟩
 cases h:Q0m a with
 | false=>simp -dsimp only [go_sem];rfl
 | true=>
  obtain⟨r1,r2,_⟩:=Q0y h
  rw [if_pos rfl]
  simp -dsimp only [go_sem]
  refine Q0p Z0y 15 (.step 0 [] (.step 1 [] (.step 3 [] (.step 4 [] (.step 2 [4] (.step 5 [] (.step 6 [] (.step 7 [] (.step 8 [] (.done)))))))))) (by decide+kernel) (by simp) ?_
  simp -dsimp only [go_sem]
  refine(v1b a.lo _).mono ?_
  rintro r st ⟨rfl,rfl⟩
  simp -dsimp only [go_sem]
  refine(v1b a.hi _).mono ?_
  rintro r st ⟨rfl,rfl⟩
  simp -dsimp only [go_sem]
  refine(W1j _ _ _ (y2g (Z0f r1)) (y2g (Z0f r2))).mono ?_
  rintro r st ⟨rfl,rfl⟩
  simp -dsimp only [go_sem]
  refine(U1w _ _ (v0i (P:=wN) (Z1r (Z0f (x0h r1))) (Z1r (Z0f (x0h r2))))).mono ?_
  rintro r st ⟨rfl,rfl⟩
  simp -dsimp only [go_sem]
theorem j2z (i j:Nat) (st:Q0d):PCalls Tryz.prog 87 ([.sc (.int .i64 i),.sc (.int .i64 j)]++ []) st (fun r st'=>r= .tup [.agg (encI (if i=j then⟨oneN,oneN⟩ else default)),.sc (.int .i64 0)]∧st'=st):=by
 refine Q0b none Tryz.func87 rfl fun E=>Q0a ?_
 by_cases h:i=j
 · have f1:((i:Int)==(j:Int))=true:=by rw [h];simp
   rw [if_pos h]
   simp -dsimp only [go_sem,f1]
   refine(q0u _).mono ?_
   rintro r st ⟨rfl,rfl⟩
   simp -dsimp only [go_sem]
   refine(Q2l oneN _ (by unfold wN;decide)).mono ?_
   rintro r st ⟨rfl,rfl⟩
   simp -dsimp only [go_sem]
 · have f1:((i:Int)==(j:Int))=false:=by rw [beq_eq_false_iff_ne];omega
   rw [if_neg h]
   simp -dsimp only [go_sem,f1]
   rfl
theorem k2l {n:Nat} (h1:1≤n) (h4:n≤4):W0z (fun i j=>((if i=j then⟨oneN,oneN⟩ else default:Ivl),0)) n=(idM (n:Int),0):=by
 have:n=1∨n=2∨n=3∨n=4:=by omega
 rcases this with rfl | rfl | rfl | rfl<;>decide+kernel
theorem k1i (n:Int) (st:Q0d):PCalls Tryz.prog 33 [.sc (.int .i64 n)] st (fun r st'=>r= .sl .no (encM (idM n))∧st'=st):=by
 refine Q0b none Tryz.func33 rfl fun E=>Q0a ?_
 by_cases h1:n<1
 · have f1:decide (n<1)=true:=decide_eq_true h1
   simp -dsimp only [go_sem,f1]
   rw [idM,if_neg (by omega)];rfl
 · have f1:decide (n<1)=false:=decide_eq_false h1
   by_cases h4:n>4
   · have f2:decide (n>4)=true:=decide_eq_true h4
     simp -dsimp only [go_sem,f1,f2]
     rw [idM,if_neg (by omega)];rfl
   · have f2:decide (n>4)=false:=decide_eq_false h4
     obtain⟨k,rfl⟩:=Int.eq_ofNat_of_zero_le (show 0≤n by omega)
     simp -dsimp only [go_sem,f1,f2]
     refine(j0g _ [] (fun i j=>((if i=j then⟨oneN,oneN⟩ else default:Ivl),0)) k st rfl (by omega) rfl rfl rfl rfl (fun _=>rfl) fun i j hi hj=>j2z i j st).mono ?_
     rintro r st ⟨rfl,rfl⟩
     rw [k2l (by omega) (by omega)]
     simp -dsimp only [go_sem]
end Go.Pv
end
section
/-The program's matrices:Norm. -/
set_option maxRecDepth 100000
namespace Go.Pv
open Go.Proofs
set_option maxHeartbeats 4000000 in
theorem q1r (m:Mx) (p:Int) (st:Q0d) (hm:wM m):PCalls Tryz.prog 134 [.sl .no (encM m),.sc (.int .i64 p)] st (fun r st'=>r= .tup [.agg (encN (X0l m p).1),.sc (.int .i64 (X0l m p).2)]∧st'=st):=by
 refine Q0b none Tryz.func134 rfl fun E=>Q0a ?_
 simp -dsimp only [go_sem]
 refine(w0t m m p _ hm hm).mono ?_
 rintro r st ⟨rfl,rfl⟩
 cases hv:Z1g m m p with
 | false=>
  simp -dsimp only [go_sem]
  rw [X0l,if_neg (fun hh=>by rw [validM_iff.2 ⟨hh.1,hh.1,rfl,hh.2⟩] at hv;cases hv)];rfl
 | true=>
  obtain⟨v1,v2,v3,v4⟩:=validM_iff.1 hv
  have hl:=X0o v1
  have hM:X0l m p=K0e m p m.length:=if_pos ⟨v1,v4⟩
  rw [hM]
  simp -dsimp only [go_sem]
  refine q0r 1 ?_
  simp -dsimp only [go_sem]
  refine Q0e [false,true,false,false,true,false,true,false,false,false,false,false,false,false,false,false,false,false,false,false,true,true,true] 2 0
   (fun k s=> ∃i,k=m.length-i∧i≤m.length∧(K0e m p i).2=0∧
    s=⟨[.junk,.sc (.int .i64 p),.junk,.junk,.lp 0 0,.junk,.lp 1 0,.junk,.junk,.junk,.junk,.junk,.junk,.junk,.junk,.junk,.junk,.junk,.junk,.junk,.sl .no (encM m),.sc (.int .i64 m.length),.sc (.int .i64 (i:Nat))]++List.replicate 35 .junk,
     [[.sc (.bool false),.sc (.int .i64 0),.sl .full []],encN (K0e m p i).1],[],st⟩) m.length ?_ ?_
  · simp -dsimp only [go_sem]
    exact⟨0,by omega,by omega,rfl,rfl⟩
  · rintro k s ⟨i,rfl,hi,hz,rfl⟩
    simp -dsimp only [go_sem]
    refine ck (fun h'=> ?_) (fun h'=> ?_)
    · have hlt:i<m.length:=by have:=of_decide_eq_true h';omega
      have e1:=Y0k m i hlt
      have e3:=V0b i (by omega)
      obtain⟨q1,q2⟩:=J0g v1 hlt
      have hrl:=x0b q2
      have e2:=K0f (m.getD i []) 0 (by omega)
      simp -dsimp only [go_sem,e1,e2]
      refine⟨by omega,by omega,?_⟩
      refine(U2f _ _ ((hm.2 i hlt).2 0 (by omega))).mono ?_
      rintro r st ⟨rfl,rfl⟩
      simp -dsimp only [go_sem]
      have t1:(m.getD i []).take (m.getD i []).length=m.getD i []:=List.take_length
      have t2:((m.getD i []).drop 1).length=m.length-1:=by rw [List.length_drop,q1]
      have hs0:sumF (atM m i) p 0=(magI ((m.getD i []).getD 0 default),0):=rfl
      generalize hR:(m.getD i []).drop 1=R at*
      have hget: ∀j,j<R.length→R.getD j default=atM m i (j+1):=fun j hj=>by
       rw [←hR];unfold atM
       simp only [List.getD_eq_getElem?_getD,List.getElem?_drop]
       rw [Nat.add_comm 1 j]
      simp -dsimp only [go_sem,t1,hR]
      refine⟨by omega,?_⟩
      refine Q0e [false,true,false,false,true,false,true,false,false,true,false,false,false,false,false,false,false,false,false,false,true,true,true,false,false,false,false,false,false,false,false,true,true,true] 3 0
       (fun k s=> ∃j,k=R.length-j∧j≤R.length∧(sumF (atM m i) p j).2=0∧
        s=⟨[.junk,.sc (.int .i64 p),.junk,.junk,.lp 0 0,.junk,.lp 1 0,.junk,.junk,.lp 2 0,.junk,.junk,.junk,.junk,.junk,.junk,.junk,.junk,.junk,.junk,.sl .no (encM m),.sc (.int .i64 m.length),.sc (.int .i64 (i:Nat)),.junk,.junk,.junk,.junk,.junk,.junk,.junk,.junk,.sl .no (Z0q R),.sc (.int .i64 R.length),.sc (.int .i64 (j:Nat))]++List.replicate 24 .junk,
         [[.sc (.bool false),.sc (.int .i64 0),.sl .full []],encN (K0e m p i).1,encN (sumF (atM m i) p j).1],[],st⟩) R.length ?_ ?_
      · simp -dsimp only [go_sem]
        exact⟨0,by omega,by omega,by rw [hs0],by rw [hs0];rfl⟩
      · rintro k s ⟨j,rfl,hj,hsz,rfl⟩
        simp -dsimp only [go_sem]
        refine ck (fun h2=> ?_) (fun h2=> ?_)
        · have hlt2:j<R.length:=by have:=of_decide_eq_true h2;omega
          have f1:=K0f R j hlt2
          have f3:=V0b j (by omega)
          have f4:=Z1o hsz
          have f5:=hget j hlt2
          have wx:wI (atM m i (j+1)):=(hm.2 i hlt).2 (j+1) (by omega)
          simp -dsimp only [go_sem,f1]
          refine⟨by omega,?_⟩
          refine Q0p Z0y 58 (.step 0 [] (.step 1 [] (.step 3 [] (.alt (.step 2 [0] (.alt (.step 4 [] (.step 5 [] (.step 6 [] (.step 7 [] (.step 8 [0,1] (.step 9 [] (.step 10 [] (.done)))))))) (.step 8 [0,1] (.step 4 [] (.step 5 [] (.step 6 [] (.step 7 [] (.step 9 [] (.step 10 [] (.done)))))))))) (.step 8 [0,1] (.step 2 [0] (.step 4 [] (.step 5 [] (.step 6 [] (.step 7 [] (.step 9 [] (.step 10 [] (.done))))))))))))) (by decide+kernel) (by simp) ?_
          simp -dsimp only [go_sem]
          have wm:=Z1r (Z0f (w0w (atM m i (j+1))))
          have ws:=Z1r (Z0f (G0k (atM m i) p j))
          rw [←f5] at wx
          refine And.intro ?_ ?_
          all_goals
           refine(U2f _ _ wx).mono ?_
           rintro r st ⟨rfl,rfl⟩
           rw [f5]
           simp -dsimp only [go_sem]
          refine And.intro ?_ ?_
          all_goals
           refine(w1p _ _ p true _ ws wm).mono ?_
           rintro r st ⟨rfl,rfl⟩
           simp -dsimp only [go_sem]
           refine ck (fun h3=> ?_) (fun h3=> ?_)
           · have hne:=K1z h3
             simp -dsimp only [go_sem]
             rw [Y2a (j:=j+1) hne hlt (by omega) hz (by rw [f4])]
             rfl
           · have he:=G1h h3
             simp -dsimp only [go_sem,f3]
             exact⟨R.length-(j+1),by omega,j+1,rfl,by omega,by rw [f4];exact he,by rw [f4]⟩
        · have hge:j=R.length:=by have:=of_decide_eq_false h2;omega
          subst hge
          have hnx:=w0r hz (by rw [←t2];exact hsz)
          rw [←t2] at hnx
          have w1:=Z1r (Z0f (G0k (atM m i) p R.length))
          have w2:=Z1r (Z0f (H0q m p i))
          simp -dsimp only [go_sem]
          refine Q0a ?_
          simp -dsimp only [go_sem]
          refine(Y1w _ _ _ (by unfold wN at w1;omega) (by unfold wN at w2;omega)).mono ?_
          rintro r st ⟨rfl,rfl⟩
          simp -dsimp only [go_sem]
          refine ck (fun h3=> ?_) (fun h3=> ?_)
          · have hc:=of_decide_eq_true h3
            rw [if_pos hc] at hnx
            simp -dsimp only [go_sem]
            refine Q0a ?_
            simp -dsimp only [go_sem,e3]
            exact⟨m.length-(i+1),by omega,i+1,rfl,by omega,by rw [hnx],by rw [hnx]⟩
          · have hc:=of_decide_eq_false h3
            rw [if_neg hc] at hnx
            simp -dsimp only [go_sem]
            refine Q0a ?_
            simp -dsimp only [go_sem,e3]
            exact⟨m.length-(i+1),by omega,i+1,rfl,by omega,by rw [hnx],by rw [hnx]⟩
    · have hge:i=m.length:=by have:=of_decide_eq_false h';omega
      subst hge
      simp -dsimp only [go_sem]
      refine Q0a ?_
      simp -dsimp only [go_sem]
      rw [hz]
end Go.Pv
end
section
/-The document's matrices:One,MulMat. -/
set_option maxRecDepth 100000
namespace Go.Pv
open Go.Proofs
theorem x2z (f:PV→PV) (l:List PV) (o:Nat) (r:List PV):(over l o r).map f=over (l.map f) o (r.map f):=by
 simp [over,List.map_take,List.map_drop]
theorem x2a (f:PV→PV) (n:Nat) (z:List PV):(repC n z).map f=repC n (z.map f):=by
 unfold repC;rw [List.map_flatten,List.map_replicate]
theorem K3s {l r:List PV} {o:Nat} (h1:fzOK l=true) (h2:fzOK r=true):fzOK (over l o r)=true:=by
 unfold fzOK at*
 rw [List.all_eq_true] at*
 intro p hp
 simp only [over,List.mem_append] at hp
 rcases hp with (hp | hp) | hp
 · exact h1 p (List.mem_of_mem_take hp)
 · exact h2 p hp
 · exact h1 p (List.mem_of_mem_drop hp)
theorem K3r {n:Nat} {z:List PV} (h:fzOK z=true):fzOK (repC n z)=true:=by
 unfold fzOK at*
 rw [List.all_eq_true] at*
 intro p hp
 simp only [repC,List.mem_flatten,List.mem_replicate] at hp
 obtain⟨l,⟨_,rfl⟩,hp⟩:=hp
 exact h p hp
theorem H3g (n:Nat):repC n (encN default)=flat (Z0n (List.replicate n default)):=by
 simp [repC,flat,Z0n,PV.cells]
def rowQ (n i:Nat):List Nm:=(List.replicate n default).set i oneN
def oneL (k:Nat):List (List Nm):=(List.range k).map (rowQ k)
theorem W0h (k:Nat):(oneL k).length=k:=by simp [oneL]
def oneQ (n:Int):List (List Nm):=if 1≤n∧n≤4 then oneL n.toNat else []
theorem W2q (n:Int):ofM (oneQ n)=idM n:=by
 unfold oneQ idM
 split
 · rename_i h
   have:n=1∨n=2∨n=3∨n=4:=by omega
   rcases this with rfl | rfl | rfl | rfl<;>decide+kernel
 · rfl
theorem Z1x (n i:Nat):(rowQ n i).length=n:=by simp [rowQ]
end Go.Pv
end
section
/-The deck's matrices,and numbers of them. -/
set_option maxRecDepth 100000
namespace Go.Pv
open Go.Proofs
def smM (m:Mx):Prop:=1≤m.length∧m.length≤4∧ ∀i,i<m.length→(m.getD i []).length=m.length∧ ∀j,j<m.length→smI (atM m i j)
theorem smM.right {m:Mx} (h:smM m):rightM m=true:=rightM_iff.2 ⟨fun i hi=>⟨(h.2.2 i hi).1,X0z (fun j hj=>by
 have:=(h.2.2 i hi).2 j (by rw [←(h.2.2 i hi).1];exact hj)
 exact this.1) (by rw [(h.2.2 i hi).1];exact h.1) (by rw [(h.2.2 i hi).1];exact h.2.1)⟩,h.1,h.2.1⟩
theorem H1g {m:Mx} (h:rightM m=true):wM m:=⟨by have:=X0o h;omega,fun i hi=>V2r (J0g h hi).2⟩
end Go.Pv
end
section
/-Layer 7:known,light,reckons. -/
set_option maxRecDepth 100000
namespace Go.Pv
open Go.Proofs
theorem G3j {m:Mx} (h1:m.length≤100000000000) (h2: ∀r∈m,wB r):wM m:=⟨h1,fun i hi=>h2 _ (Q0r _ _ _ hi)⟩
theorem G3k {b:List Ivl} (h1:b.length≤100000000000) (h2: ∀x∈b,wI x):wB b:=⟨h1,fun i hi=>h2 _ (Q0r _ _ _ hi)⟩
theorem X3b {G:Nat→Ivl×Int} {n:Nat} (hn:n≤100000) (h: ∀i,wI (G i).1):wB (tabF G 0 n []).1:=by
 refine G3k ?_ (Y1i wI n 0 [] (fun i _ _=>h i) (fun x hx=>by cases hx))
 have:=Y1j (G:=G) n 0 []
 simp at this;omega
theorem Q2q {G:Nat→Nat→Ivl×Int} {n:Nat} (hn:n≤100000) (h: ∀i j,wI (G i j).1):wM (W0z G n).1:=by
 refine G3j ?_ (Y1i wB n 0 [] (fun i _ _=>X3b hn (h i)) (fun x hx=>by cases hx))
 have:=Y1j (G:=fun i=>tabF (fun j=>G i j) 0 n []) n 0 []
 simp at this;unfold W0z;omega
theorem w2w :wM []:=⟨by simp,fun i hi=>by simp at hi⟩
theorem H3v (k:Nat) (a b:Mx) (p:Int):wM (opM k a b p).1:=by
 unfold opM
 split
 · rename_i h;have:=X0o h.1;exact Q2q (by omega) fun i j=>z0p (W0t _ _ _ _)
 · exact w2w
theorem k1c (a b:Mx) (p:Int):wM (mulM a b p).1:=by
 unfold mulM
 split
 · rename_i h;have:=X0o h.1;exact Q2q (by omega) fun i j=>z0p (H0a _ _ _ _)
 · exact w2w
theorem H3z {q:List Nm} (h:wNs q):wB (ofB q):=by
 refine⟨by unfold ofB;rw [List.length_map];exact h.1,fun i hi=> ?_⟩
 have hi':i<q.length:=by simpa [ofB] using hi
 have e:(ofB q).getD i default=⟨q.getD i default,q.getD i default⟩:=by simp [ofB,List.getD_eq_getElem?_getD,hi']
 rw [e];exact⟨h.2 i hi',h.2 i hi'⟩
theorem J3i (q:List (List Nm)) (i:Nat) (h:i<q.length):(ofM q).getD i []=ofB (q.getD i []):=by
 simp [ofM,List.getD_eq_getElem?_getD,h]
theorem q1g {q:List (List Nm)} (h:wQ q):wM (ofM q):=by
 refine⟨by unfold ofM;rw [List.length_map];exact h.1,fun i hi=> ?_⟩
 have hi':i<q.length:=by simpa [ofM] using hi
 rw [J3i q i hi'];exact H3z (h.2 i hi')
end Go.Pv
end
section
/-The laws MatParts,MatDrawn. -/
set_option maxRecDepth 100000
namespace Go.Pv
open Go.Proofs
theorem X2j :Q0h oneN=true:=by decide
theorem z2v (n i j:Nat) (h:j<n):(rowQ n i).getD j default=if i=j then oneN else default:=by
 unfold rowQ
 rw [k2w _ _ _ _ _ (by simpa using h)]
 split
 · rfl
 · simp [List.getD_eq_getElem?_getD,h]
theorem W2p (n:Int):wQ (oneQ n):=by
 unfold oneQ
 split
 · rename_i h
   refine⟨by rw [W0h];omega,fun i hi=> ?_⟩
   rw [W0h] at hi
   have e:(oneL n.toNat).getD i []=rowQ n.toNat i:=by simp [oneL,List.getD_eq_getElem?_getD,hi]
   rw [e]
   refine⟨by rw [Z1x];omega,fun j hj=> ?_⟩
   rw [Z1x] at hj
   rw [z2v _ _ _ hj]
   split
   · exact Z1r (Z0f X2j)
   · exact Z1r (Z0f K0a)
 · exact⟨by simp,fun i hi=>by simp at hi⟩
theorem q3u {a b:Mx} (ha:rightM a=true) (hb:rightM b=true) (hl:a.length=b.length) (h: ∀i j,i<a.length→j<a.length→inI (atM a i j) (atM b i j)=true):inM a b=true:=by
 unfold inM allF
 rw [ha,hb,decide_eq_true hl]
 simp only [Bool.true_and,List.all_eq_true]
 intro i hi
 have hi':i<a.length:=by simpa using hi
 obtain⟨a1,a2⟩:=J0g ha hi'
 obtain⟨b1,b2⟩:=J0g hb (show i<b.length by omega)
 show inB (a.getD i []) (b.getD i [])=true
 unfold inB allF
 rw [a2,b2,decide_eq_true (by rw [a1,b1];exact hl)]
 simp only [Bool.true_and,List.all_eq_true]
 intro j hj
 exact h i j hi' (by rw [←a1];simpa using hj)
end Go.Pv
end
section
/-How far down and how far up a value goes:sums,products,rounding,and what fits. No program in it. -/
namespace Go.Pv
def luQ (L U:Nat) (x:Rat):Prop:= ∃z:Int,x=qM z (-(L:Int))∧z.natAbs≤2^(L+U)
theorem U0t (L U:Nat):luQ L U 0:=⟨0,(J0b _).symm,Nat.zero_le _⟩
theorem luQ.up {L U U':Nat} {x:Rat} (h:luQ L U x) (hu:U≤U'):luQ L U' x:=by
 obtain⟨z,h1,h2⟩:=h
 exact⟨z,h1,Nat.le_trans h2 (Nat.pow_le_pow_right (by omega) (by omega))⟩
theorem luQ.down {L L' U:Nat} {x:Rat} (h:luQ L U x) (hl:L≤L'):luQ L' U x:=by
 obtain⟨z,h1,h2⟩:=h
 refine⟨z*2^(L'-L),?_,?_⟩
 · rw [V0q,h1];congr 1;omega
 · have e:(z*2^(L'-L)).natAbs=z.natAbs*2^(L'-L):=by rw [Int.natAbs_mul,Int.natAbs_pow];rfl
   rw [e,show L'+U=(L+U)+(L'-L) from by omega,Nat.pow_add]
   exact Nat.mul_le_mul_right _ h2
theorem luQ.mono {L U L' U':Nat} {x:Rat} (h:luQ L U x) (hl:L≤L') (hu:U≤U'):luQ L' U' x:=(h.down hl).up hu
theorem w0x {L U:Nat} {x:Rat} (h:luQ L U x):luQ L U (-x):=by
 obtain⟨z,h1,h2⟩:=h
 exact⟨-z,by rw [q0h,h1],by rw [Int.natAbs_neg];exact h2⟩
theorem H0u {L U:Nat} {x y:Rat} (hx:luQ L U x) (hy:luQ L U y):luQ L (U+1) (x+y):=by
 obtain⟨z,h1,h2⟩:=hx
 obtain⟨w,h3,h4⟩:=hy
 refine⟨z+w,by rw [H1t,h1,h3],?_⟩
 have:=Int.natAbs_add_le z w
 rw [show L+(U+1)=(L+U)+1 from by omega,Nat.pow_succ];omega
theorem H0t {L U:Nat} {x y:Rat} (hx:luQ L U x) (hy:luQ L U y):luQ L (U+1) (x-y):=by
 have:=H0u hx (w0x hy)
 rwa [←Rat.sub_eq_add_neg] at this
theorem q0v {L U L' U':Nat} {x y:Rat} (hx:luQ L U x) (hy:luQ L' U' y):luQ (L+L') (U+U') (x*y):=by
 obtain⟨z,h1,h2⟩:=hx
 obtain⟨w,h3,h4⟩:=hy
 refine⟨z*w,?_,?_⟩
 · rw [show(-((L+L':Nat):Int))= -(L:Int)+ -(L':Int) from by omega,w1z,h1,h3]
 · rw [Int.natAbs_mul,show L+L'+(U+U')=(L+U)+(L'+U') from by omega,Nat.pow_add]
   exact Nat.mul_le_mul h2 h4
theorem U0s (v:Vl):(X0i v).natAbs=v.m:=by unfold X0i;split<;>simp
theorem q3k {n k:Nat} {v:Vl} (h:bdV n k v):luQ k (n+k) (qV v):=by
 obtain⟨h1,h2,h3⟩:=h
 have hm:=bitlen_le_iff.1 h1
 refine⟨X0i v*2^(v.e+k).toNat,?_,?_⟩
 · rw [V0q]
   unfold qV
   congr 1;omega
 · have e:(X0i v*2^(v.e+k).toNat).natAbs=v.m*2^(v.e+k).toNat:=by rw [Int.natAbs_mul,Int.natAbs_pow,U0s];rfl
   rw [e,show k+(n+k)=n+2*k from by omega,Nat.pow_add]
   exact Nat.mul_le_mul (Nat.le_of_lt hm) (Nat.pow_le_pow_right (by omega) (by omega))
theorem k1l {z:Int} {n:Nat} (h:z.natAbs≤2^n) (L:Nat):luQ L n (qM z 0):=by
 have:luQ 0 n (qM z 0):=⟨z,rfl,by rw [Nat.zero_add];exact h⟩
 exact this.down (Nat.zero_le _)
theorem k0x {L U:Nat} {v:Vl} (hc:canV v) (h:luQ L U (qV v)):v.m=0∨(-(L:Int)≤v.e∧v.e+(Q0f v.m:Int)≤(U:Int)+1):=by
 rcases hc with hm | rfl
 rotate_left
 · exact .inl rfl
 refine .inr ?_
 obtain⟨z,h1,h2⟩:=h
 have hz:X0i v≠0:=fun e=>by have:=U0s v;rw [e] at this;simp at this;omega
 have hge: -(L:Int)≤v.e:=by
  apply Int.not_lt.1
  intro hlt
  obtain⟨d,hd⟩: ∃d:Nat, -(L:Int)=v.e+((d+1:Nat):Int):=⟨(-(L:Int)-v.e-1).toNat,by omega⟩
  have e1:qM z (-(L:Int))=qM (z*2^(d+1)) v.e:=by rw [V0q,hd]
  have e2:X0i v=z*2^(d+1):=qM_eq.1 (h1.trans e1)
  have e3:v.m=z.natAbs*2^d*2:=by
   have:=U0s v
   rw [e2,Int.natAbs_mul,Int.natAbs_pow,Nat.pow_succ] at this
   rw [←this,Nat.mul_assoc];rfl
  omega
 refine⟨hge,?_⟩
 have e1:X0i v*2^(v.e+L).toNat=z:=by
  have:qM (X0i v*2^(v.e+L).toNat) (-(L:Int))=qM z (-(L:Int)):=by
   rw [V0q,←h1];unfold qV;congr 1;omega
  exact qM_eq.1 this
 have e2:v.m*2^(v.e+L).toNat≤2^(L+U):=by
  have:(X0i v*2^(v.e+L).toNat).natAbs=v.m*2^(v.e+L).toNat:=by rw [Int.natAbs_mul,Int.natAbs_pow,U0s];rfl
  rw [←this,e1];exact h2
 have e3:Q0f (v.m*2^(v.e+L).toNat)≤L+U+1:=bitlen_le_iff.2 (Nat.lt_of_le_of_lt e2 (Nat.pow_lt_pow_right (by omega) (by omega)))
 rw [V0f _ _ (by omega)] at e3
 omega
theorem Y2u {L U:Nat} {v:Vl} (hc:canV v) (h:luQ L U (qV v)):bdV (L+U+1) (L+U+1) v:=by
 rcases k0x hc h with h0 | ⟨h1,h2⟩
 · rcases hc with hm | rfl
   · omega
   · refine⟨?_,?_,?_⟩
     · show Q0f 0≤_;rw [X0e];omega
     · show -((L+U+1:Nat):Int)≤0;omega
     · show(0:Int)≤((L+U+1:Nat):Int);omega
 · exact⟨by omega,by omega,by omega⟩
theorem k0w {L U:Nat} {v:Vl} (hc:canV v) (h:luQ L U (qV v)) (hb:L+U+1≤4096):(numV v).2=0:=X1u (Y2u hc h) hb (by omega)
theorem Y0g {m:Nat} (h:m≠0):2^(Q0f m-1)≤m:=by
 apply Nat.le_of_not_lt
 intro hlt
 have:=bitlen_le_iff.2 hlt
 have:=V0u h
 omega
theorem J0c {L U:Nat} {v:Vl} (hc:canV v) (h:luQ L U (qV v)) (p:Nat) (hp:1≤p) (up:Bool):luQ L (U+1) (qV (Z0b v p up)):=by
 unfold Z0b
 split
 · exact h.up (by omega)
 · rename_i hlt
   have h0:v.m≠0:=fun e=>by rw [e,X0e] at hlt;omega
   rcases k0x hc h with h1 | ⟨h1,h2⟩
   · exact absurd h1 h0
   obtain⟨z,hz1,hz2⟩:=h
   have e1:X0i v*2^(v.e+L).toNat=z:=by
    have:qM (X0i v*2^(v.e+L).toNat) (-(L:Int))=qM z (-(L:Int)):=by
     rw [V0q,←hz1];unfold qV;congr 1;omega
    exact qM_eq.1 this
   have e2:v.m*2^(v.e+L).toNat≤2^(L+U):=by
    have:(X0i v*2^(v.e+L).toNat).natAbs=v.m*2^(v.e+L).toNat:=by rw [Int.natAbs_mul,Int.natAbs_pow,U0s];rfl
    rw [←this,e1];exact hz2
   rw [q0g,z0w]
   generalize hd:Q0f v.m-p=d at*
   generalize hc':(if v.m % 2^d≠0∧up≠v.neg then 1 else 0)=c
   have hcl:c≤1:=by rw [←hc'];split<;>omega
   have hb1:(v.m/2^d+c)*2^d≤2*v.m:=by
    have a1:=Nat.div_mul_le_self v.m (2^d)
    have a2:2^d≤v.m:=Nat.le_trans (Nat.pow_le_pow_right (by omega) (by omega)) (Y0g h0)
    have a3:c*2^d≤2^d:=by
     have:=Nat.mul_le_mul_right (2^d) hcl
     omega
    rw [Nat.add_mul];omega
   refine⟨(if v.neg then -(((v.m/2^d+c)*2^d:Nat):Int) else(((v.m/2^d+c)*2^d:Nat):Int))*2^(v.e+L).toNat,?_,?_⟩
   · rw [V0q];congr 1;omega
   · have e3:((if v.neg then -(((v.m/2^d+c)*2^d:Nat):Int) else(((v.m/2^d+c)*2^d:Nat):Int))*2^(v.e+L).toNat).natAbs=(v.m/2^d+c)*2^d*2^(v.e+L).toNat:=by
      rw [Int.natAbs_mul,Int.natAbs_pow]
      generalize (v.m/2^d+c)*2^d=M
      split
      · rw [Int.natAbs_neg];rfl
      · rfl
     rw [e3,show L+(U+1)=(L+U)+1 from by omega,Nat.pow_succ]
     have:=Nat.mul_le_mul_right (2^(v.e+L).toNat) hb1
     rw [Nat.mul_assoc 2] at this
     omega
def luI (L U:Nat) (a:Ivl):Prop:=Q0m a=true∧luQ L U (qN a.lo)∧luQ L U (qN a.hi)
theorem luI.mono {L U L' U':Nat} {a:Ivl} (h:luI L U a) (hl:L≤L') (hu:U≤U'):luI L' U' a:=⟨h.1,h.2.1.mono hl hu,h.2.2.mono hl hu⟩
theorem U1d (L U:Nat):luI L U default:=by
 have e:qN (default:Ivl).lo=0:=J0b 0
 have e2:qN (default:Ivl).hi=0:=J0b 0
 exact⟨by decide,by rw [e];exact U0t _ _,by rw [e2];exact U0t _ _⟩
theorem X0u {p:Int} (h:Z0a p=true):1≤p.toNat:=by
 unfold Z0a at h
 simp only [Bool.and_eq_true,decide_eq_true_eq] at h
 omega
theorem U1r {L U:Nat} {lo hi:Vl} (h1:canV lo) (h2:canV hi) (q1:luQ L U (qV lo)) (q2:luQ L U (qV hi)) (hb:L+U+1≤4096) (hle:qV lo≤qV hi):(Y0j lo hi).2=0∧luI L U (Y0j lo hi).1:=by
 have f1:=k0w h1 q1 hb
 have f2:=k0w h2 q2 hb
 have hr:=H0y h1 h2 hle
 unfold Y0j at hr⊢
 rw [if_pos ⟨f1,f2⟩] at hr⊢
 refine⟨rfl,hr,?_,?_⟩
 · rw [(J0u h1 f1).2];exact q1
 · rw [(J0u h2 f2).2];exact q2
theorem Q2b {L U L' U':Nat} {x y u v:Vl} (hx:luQ L U (qV x)) (hy:luQ L U (qV y)) (hu:luQ L' U' (qV u)) (hv:luQ L' U' (qV v)):luQ (L+L') (U+U') (qV (V0y x y u v)):=by
 rcases G0s x y u v with h | h | h | h
 all_goals rw [h,H0m];exact q0v (by assumption) (by assumption)
theorem Q2c {L U L' U':Nat} {x y u v:Vl} (hx:luQ L U (qV x)) (hy:luQ L U (qV y)) (hu:luQ L' U' (qV u)) (hv:luQ L' U' (qV v)):luQ (L+L') (U+U') (qV (q0j x y u v)):=by
 rcases y0c x y u v with h | h | h | h
 all_goals rw [h];exact q0v (by assumption) (by assumption)
theorem y2s {k L U:Nat} {a b:Ivl} {p:Int} (hk:k<2) (ha:luI L U a) (hb:luI L U b) (hp:Z0a p=true) (hbd:L+U+3≤4096):(opI k a b p).2=0∧luI L (U+2) (opI k a b p).1:=by
 have ca:=canI ha.1
 have cb:=canI hb.1
 have pp:=X0u hp
 have hlo:luQ L (U+1) (qV (loV k (ofN a.lo) (ofN a.hi) (ofN b.lo) (ofN b.hi))):=by
  unfold loV
  split
  · rw [V0k];exact H0u ha.2.1 hb.2.1
  · rw [if_pos (by omega),K0y];exact H0t ha.2.1 hb.2.2
 have hhi:luQ L (U+1) (qV (hiV k (ofN a.lo) (ofN a.hi) (ofN b.lo) (ofN b.hi))):=by
  unfold hiV
  split
  · rw [V0k];exact H0u ha.2.2 hb.2.2
  · rw [if_pos (by omega),K0y];exact H0t ha.2.2 hb.2.1
 have c1:=U0b k ca.1 ca.2 cb.1 cb.2
 have c2:=U0d k ca.1 ca.2 cb.1 cb.2
 unfold opI
 rw [if_pos ⟨ha.1,hb.1,hp⟩]
 exact U1r (Q0x c1 _ _) (Q0x c2 _ _) (J0c c1 hlo _ pp _) (J0c c2 hhi _ pp _) (by omega) (Y2x k ha.1 hb.1 _)
theorem W2n {L U L' U':Nat} {a b:Ivl} {p:Int} (ha:luI L U a) (hb:luI L' U' b) (hp:Z0a p=true) (hbd:L+L'+U+U'+2≤4096):(opI 2 a b p).2=0∧luI (L+L') (U+U'+1) (opI 2 a b p).1:=by
 have ca:=canI ha.1
 have cb:=canI hb.1
 have pp:=X0u hp
 have hlo:luQ (L+L') (U+U') (qV (loV 2 (ofN a.lo) (ofN a.hi) (ofN b.lo) (ofN b.hi))):=Q2b ha.2.1 ha.2.2 hb.2.1 hb.2.2
 have hhi:luQ (L+L') (U+U') (qV (hiV 2 (ofN a.lo) (ofN a.hi) (ofN b.lo) (ofN b.hi))):=Q2c ha.2.1 ha.2.2 hb.2.1 hb.2.2
 have c1:=U0b 2 ca.1 ca.2 cb.1 cb.2
 have c2:=U0d 2 ca.1 ca.2 cb.1 cb.2
 unfold opI
 rw [if_pos ⟨ha.1,hb.1,hp⟩]
 exact U1r (Q0x c1 _ _) (Q0x c2 _ _) (J0c c1 hlo _ pp _) (J0c c2 hhi _ pp _) (by omega) (Y2x 2 ha.1 hb.1 _)
end Go.Pv
end
section
/-Sums of products of small intervals:none fails,and what is in them. No program in it. -/
namespace Go.Pv
def dotQ (X Y:Nat→Rat):Nat→Rat
 | 0=>0
 | n+1=>dotQ X Y n+X n*Y n
theorem X1y :memI 0 default:=by
 have e:qN (default:Ivl).lo=0:=J0b 0
 have e2:qN (default:Ivl).hi=0:=J0b 0
 exact⟨by rw [e];exact Rat.le_refl,by rw [e2];exact Rat.le_refl⟩
theorem Z1b {x y:Nat→Ivl} {p:Int} {X Y:Nat→Rat} : ∀n,(dotF x y p n).2=0→(∀k,k<n→memI (X k) (x k)∧memI (Y k) (y k))→memI (dotQ X Y n) (dotF x y p n).1
 | 0,_,_=>X1y
 | n+1,h,hm=>by
  rw [dotF] at h⊢
  by_cases c1:(dotF x y p n).2≠0
  · rw [if_pos c1] at h;exact absurd h c1
  rw [if_neg c1] at h⊢
  have c1:=Classical.not_not.1 c1
  by_cases c2:(opI 2 (x n) (y n) p).2≠0
  · rw [if_pos c2] at h;exact absurd h c2
  rw [if_neg c2] at h⊢
  have c2:=Classical.not_not.1 c2
  have ih:=Z1b n c1 fun k hk=>hm k (by omega)
  have hp:=j1x 2 c2 (hm n (by omega)).1 (hm n (by omega)).2
  rw [exQ2] at hp
  by_cases c3:n=0
  · rw [if_pos c3] at h⊢
    subst c3
    show memI (0+X 0*Y 0) _
    rw [Rat.zero_add];exact hp
  rw [if_neg c3] at h⊢
  by_cases c4:(opI 0 (dotF x y p n).1 (opI 2 (x n) (y n) p).1 p).2≠0
  · rw [if_pos c4] at h;exact absurd h c4
  rw [if_neg c4] at h⊢
  have:=j1x 0 h ih hp
  rw [exQ0] at this;exact this
def w0d (v w:Vl) (a:Ivl):Bool:=decide (Y0d (byV (ofN a.lo) w) v≤0)&&decide (Y0d v (byV (ofN a.hi) w)≤0)
def oneV :Vl:=oddV false 1 0
theorem H3j :qV oneV=1:=by
 unfold oneV
 rw [w1y];rfl
end Go.Pv
end
section
/-Within;the law MatHolds. -/
set_option maxRecDepth 100000
namespace Go.Pv
open Go.Proofs
theorem v1w (v w:Vl) (a:Ivl) (st:Q0d) (hv:bdV 100000000 100000000 v) (hw:bdV 100000000 100000000 w) (ha:Q0m a=true):PCalls Tryz.prog 29 [.agg (encV v),.agg (encV w),.agg (encI a)] st (fun r st'=>r= .sc (.bool (w0d v w a))∧st'=st):=by
 obtain⟨r1,r2,_⟩:=Q0y ha
 have l1:=(Z0f r1).1
 have l2:=(Z0f r2).1
 have b1:=Z3g (H2s r1) hw
 have b2:=Z3g (H2s r2) hw
 have s1:=Y1m (Z0f r1)
 have s2:=Y1m (Z0f r2)
 have sv:=w1m hv (by omega) (by omega)
 have sw:=w1m hw (by omega) (by omega)
 have t1:=w1m b1 (by omega) (by omega)
 have t2:=w1m b2 (by omega) (by omega)
 refine Q0b none Tryz.func29 rfl fun E=>Q0a ?_
 unfold w0d
 simp -dsimp only [go_sem]
 refine Q0p Z0y 25 (.step 0 [] (.step 1 [] (.step 3 [] (.step 5 [] (.step 2 [3,5] (.step 4 [5] (.step 6 [] (.step 7 [] (.step 8 [] (.step 9 [] (.step 10 [] (.step 11 [] (.step 13 [] (.step 12 [1,3,9,13] (.step 14 [1,3,9] (.step 15 [1,3] (.step 16 [] (.step 17 [] (.step 18 [] (.done)))))))))))))))))))) (by decide+kernel) (by simp) ?_
 simp -dsimp only [go_sem]
 refine(of_c a.lo _ (by omega)).mono ?_
 rintro r st ⟨rfl,rfl⟩
 simp -dsimp only [go_sem]
 refine(by_c _ _ _ s1 sw).mono ?_
 rintro r st ⟨rfl,rfl⟩
 simp -dsimp only [go_sem]
 refine(j1v _ _ _ t1 sv).mono ?_
 rintro r st ⟨rfl,rfl⟩
 cases h:decide (Y0d (byV (ofN a.lo) w) v≤0) with
 | false=>simp -dsimp only [go_sem,h];try rfl
 | true=>
  simp -dsimp only [go_sem,h]
  refine(of_c a.hi _ (by omega)).mono ?_
  rintro r st ⟨rfl,rfl⟩
  simp -dsimp only [go_sem]
  refine(by_c _ _ _ s2 sw).mono ?_
  rintro r st ⟨rfl,rfl⟩
  simp -dsimp only [go_sem]
  refine(j1v _ _ _ sv t2).mono ?_
  rintro r st ⟨rfl,rfl⟩
  simp -dsimp only [go_sem]
  try rfl
end Go.Pv
end
section
/-By the matrix of ones;what the norm bounds. No program in it. -/
namespace Go.Pv
theorem U0p :qN oneN=1:=by
 have:qN oneN=qM 1 0:=rfl
 rw [this];unfold qM;rw [w0p,Rat.intCast_one,Rat.mul_one]
theorem W0y :qN (default:Nm)=0:=J0b 0
theorem X3g :smI ⟨oneN,oneN⟩:=by
 have hb:bdV 6 12 (ofN oneN):=by
  refine⟨bitlen_le_iff.2 (by decide),?_,?_⟩
  · show -((12:Nat):Int)≤0;omega
  · show(0:Int)≤((12:Nat):Int);omega
 exact⟨by decide,hb,hb⟩
theorem z2m :smI default:=⟨by decide,Z1d,Z1d⟩
theorem Q1d {n i j:Nat} (h1:1≤n) (h4:n≤4) (hi:i<n) (hj:j<n):(idM (n:Int)).length=n∧((idM (n:Int)).getD i []).length=n∧atM (idM (n:Int)) i j=if i=j then⟨oneN,oneN⟩ else default:=by
 have e:idM (n:Int)=(List.range n).map fun i=>(List.range n).map fun j=>if i=j then⟨oneN,oneN⟩ else default:=by
  rw [idM,if_pos (by omega)];rfl
 rw [e]
 have e2:((List.range n).map fun i=>(List.range n).map fun j=>if i=j then(⟨oneN,oneN⟩:Ivl) else default).getD i []=(List.range n).map fun j=>if i=j then(⟨oneN,oneN⟩:Ivl) else default:=by
  simp [List.getD_eq_getElem?_getD,hi]
 refine⟨by simp,by rw [e2];simp,?_⟩
 unfold atM
 rw [e2]
 simp [List.getD_eq_getElem?_getD,hj]
theorem y2h {n:Nat} (h1:1≤n) (h4:n≤4):smM (idM (n:Int))∧(idM (n:Int)).length=n:=by
 have hl:=(Q1d h1 h4 (i:=0) (j:=0) (by omega) (by omega)).1
 refine⟨⟨by omega,by omega,fun i hi=> ?_⟩,hl⟩
 rw [hl] at hi⊢
 refine⟨(Q1d h1 h4 hi hi).2.1,fun j hj=> ?_⟩
 rw [(Q1d h1 h4 hi hj).2.2]
 split
 · exact X3g
 · exact z2m
def J0d (i k:Nat):Rat:=if i=k then 1 else 0
theorem Y2l {n i k:Nat} (h1:1≤n) (h4:n≤4) (hi:i<n) (hk:k<n):memI (J0d i k) (atM (idM (n:Int)) i k):=by
 rw [(Q1d h1 h4 hi hk).2.2]
 unfold J0d
 split
 · exact⟨by show qN oneN≤1;rw [U0p];exact Rat.le_refl,by show 1≤qN oneN;rw [U0p];exact Rat.le_refl⟩
 · exact X1y
theorem z0f {X Y:Nat→Rat} : ∀n,(∀k,k<n→X k*Y k=0)→dotQ X Y n=0
 | 0,_=>rfl
 | n+1,h=>by rw [dotQ,z0f n fun k hk=>h k (by omega),h n (by omega)];exact Rat.add_zero 0
theorem y0h {Y:Nat→Rat} {i:Nat} : ∀n,i<n→dotQ (J0d i) Y n=Y i
 | 0,h=>by omega
 | n+1,h=>by
  rw [dotQ]
  by_cases e:i=n
  · subst e
    rw [z0f i fun k hk=>by unfold J0d;rw [if_neg (by omega),Rat.zero_mul]]
    unfold J0d
    rw [if_pos rfl,Rat.zero_add,Rat.one_mul]
  · rw [y0h n (by omega)]
    unfold J0d
    rw [if_neg e,Rat.zero_mul,Rat.add_zero]
theorem v0q (X Y:Nat→Rat): ∀n,dotQ X Y n=dotQ Y X n
 | 0=>rfl
 | n+1=>by rw [dotQ,dotQ,v0q X Y n,Rat.mul_comm]
theorem U2k {a b:Ivl} (ha:Q0m a=true) (hb:Q0m b=true) (h1:memI (qN a.lo) b) (h2:memI (qN a.hi) b):inI a b=true:=q3v ha hb h1.1 h2.2
theorem q3g {a:Ivl} (h:Q0m a=true):memI (qN a.lo) a:=⟨Rat.le_refl,by have:=G0c h;rwa [Z0g,Z0g] at this⟩
def inQ1 (A x:Rat):Prop:= -A≤x∧x≤A
theorem k2k {A B x y:Rat} (hx:inQ1 A x) (hy:inQ1 B y):inQ1 (A*B) (x*y):=by
 obtain⟨x1,x2⟩:=hx
 obtain⟨y1,y2⟩:=hy
 have a1:=X0r (a:=A-x) (b:=B+y) (by grind) (by grind)
 have a2:=X0r (a:=A+x) (b:=B-y) (by grind) (by grind)
 have a3:=X0r (a:=A-x) (b:=B-y) (by grind) (by grind)
 have a4:=X0r (a:=A+x) (b:=B+y) (by grind) (by grind)
 exact⟨by grind,by grind⟩
def sumQ (A:Nat→Rat):Nat→Rat
 | 0=>0
 | n+1=>sumQ A n+A n
theorem y0i {X Y A:Nat→Rat} {B:Rat} : ∀n,(∀k,k<n→inQ1 (A k) (X k)∧inQ1 B (Y k))→inQ1 (sumQ A n*B) (dotQ X Y n)
 | 0,_=>by
  show inQ1 (0*B) 0
  rw [Rat.zero_mul];exact⟨by grind,by grind⟩
 | n+1,h=>by
  obtain⟨a1,a2⟩:=y0i n fun k hk=>h k (by omega)
  obtain⟨b1,b2⟩:=k2k (h n (by omega)).1 (h n (by omega)).2
  show inQ1 ((sumQ A n+A n)*B) (dotQ X Y n+X n*Y n)
  exact⟨by grind,by grind⟩
theorem y2l (x:Nm):qN x≤qN (magN x)∧ -qN x≤qN (magN x)∧0≤qN (magN x):=by
 have e:mant (magN x)=(valW x.w:Int):=by unfold mant magN;simp
 have e2:qN (magN x)=qM (valW x.w:Int) x.exp:=by unfold qN;rw [e];rfl
 rw [e2]
 have h0:(0:Rat)=qM 0 x.exp:=(J0b _).symm
 refine⟨?_,?_,?_⟩
 · unfold qN mant
   rw [qM_le];split<;>omega
 · unfold qN mant
   rw [←q0h,qM_le];split<;>omega
 · rw [h0,qM_le];omega
theorem k1j {a:Ivl} {X:Rat} (ha:Q0m a=true) (h:memI X a):inQ1 (qN (magI a)) X∧0≤qN (magI a):=by
 unfold magI
 rw [if_pos ha]
 obtain⟨g1,g2,_⟩:=w1x (magN a.lo) (magN a.hi)
 obtain⟨l1,l2,l3⟩:=y2l a.lo
 obtain⟨u1,u2,u3⟩:=y2l a.hi
 obtain⟨m1,m2⟩:=h
 exact⟨⟨by grind,by grind⟩,by grind⟩
theorem Y2s {L U:Nat} {a:Ivl} (h:luI L U a):luQ L U (qN (magI a)):=by
 unfold magI
 rw [if_pos h.1]
 have key: ∀x,luQ L U (qN x)→luQ L U (qN (magN x)):=fun x hx=>by
  have e:qN (magN x)=qN x∨qN (magN x)= -qN x:=by
   unfold qN mant magN
   cases hn:x.neg with
   | true=>right;simp [q0h]
   | false=>left;simp
  rcases e with e | e
  · rw [e];exact hx
  · rw [e];exact w0x hx
 unfold Z0r
 split
 · exact key _ h.2.2
 · exact key _ h.2.1
theorem q1f (a b:Vl):Y0d a b>0↔qV b<qV a:=by
 have:=k0q a b
 rw [←Rat.not_le,←this];omega
end Go.Pv
end
