/- Parts of the walk: N34, N35, N36, N37, N38, N39, N40, N41, N42, N43, M39, M40, M41. -/
import Derived.Test.YtofoadghajnglaaGreatDoorZAQ
import Derived.Test.YtofoadghajnglaaGreatDoorZM
import Derived.Test.YtofoadghajnglaaGreatDoorZAF
import Derived.Test.YtofoadghajnglaaGreatDoorZAM
import Derived.Test.YtofoadghajnglaaGreatDoorZAL
import Derived.Test.YtofoadghajnglaaGreatDoorZE
import Derived.Test.YtofoadghajnglaaGreatDoorZAE
set_option linter.unusedVariables false
set_option linter.unusedSimpArgs false
section
/-The program's matrices:Norm,Id;Mag on both sides. -/
set_option maxRecDepth 100000
namespace Go.Pv
open Go.Proofs
theorem j0y (n:Nat) (st:Q0e) (hn:n<9223372036854775808):PCalls Tryz.prog 65 [.sc (.int .i64 n)] st (fun r st'=>r= .agg (encN (mkX false [UInt64.ofNat n] 0).1)∧st'=st):=by
 have g1:decide ((n:Int)<0)=false:=decide_eq_false (by omega)
 have g2:IntKind.u64.wrap (n:Int)=n:=Y0j n (by omega)
 have g3: [PV.sc (.int .u64 n)]=encW [UInt64.ofNat n]:=by
  simp only [encW,List.map_cons,List.map_nil]
  rw [UInt64.toNat_ofNat_of_lt' (show n<UInt64.size by unfold UInt64.size;omega)]
 refine Q0b none Tryz.func65 rfl fun E=>Q0a ?_
 simp -dsimp only [go_sem,g1,g2]
 rw [g3]
 refine(Q1s false _ 0 _ (by simp) (by omega) (by omega)).mono ?_
 rintro r st ⟨rfl,rfl⟩
 simp -dsimp only [go_sem]
theorem H2o :(mkX false [1] 0).1=oneN:=by decide+kernel
theorem J2f (st:Q0e):PCalls Tryz.prog 65 [.sc (.int .i64 1)] st (fun r st'=>r= .agg (encN oneN)∧st'=st):=by
 have:=j0y 1 st (by omega)
 rw [show UInt64.ofNat 1=1 from rfl,H2o] at this;exact this
theorem q2j (i j:Nat) (st:Q0e):PCalls Tryz.prog 87 ([.sc (.int .i64 i),.sc (.int .i64 j)]++ []) st (fun r st'=>r= .tup [.agg (encI (if i=j then⟨oneN,oneN⟩ else default)),.sc (.int .i64 0)]∧st'=st):=by
 refine Q0b none Tryz.func87 rfl fun E=>Q0a ?_
 by_cases h:i=j
 · have f1:((i:Int)==(j:Int))=true:=by rw [h];simp
   rw [if_pos h]
   simp -dsimp only [go_sem,f1]
   refine(J2f _).mono ?_
   rintro r st ⟨rfl,rfl⟩
   simp -dsimp only [go_sem]
   refine(J1p oneN _ (by unfold wN;decide)).mono ?_
   rintro r st ⟨rfl,rfl⟩
   simp -dsimp only [go_sem]
 · have f1:((i:Int)==(j:Int))=false:=by rw [beq_eq_false_iff_ne];omega
   rw [if_neg h]
   simp -dsimp only [go_sem,f1]
   rfl
theorem z2f {n:Nat} (h1:1≤n) (h4:n≤4):z0t (fun i j=>((if i=j then⟨oneN,oneN⟩ else default:Ivl),0)) n=(idM (n:Int),0):=by
 have:n=1∨n=2∨n=3∨n=4:=by omega
 rcases this with rfl | rfl | rfl | rfl<;>decide+kernel
theorem y2y (n:Int) (st:Q0e):PCalls Tryz.prog 33 [.sc (.int .i64 n)] st (fun r st'=>r= .sl .no (encM (idM n))∧st'=st):=by
 refine Q0b none Tryz.func33 rfl fun E=>Q0a ?_
 by_cases h1:n<1
 · have f1:decide (n<1)=true:=decide_eq_true h1
   simp -dsimp only [go_sem,f1]
   rw [idM,if_neg (by omega)];rfl
 · have f1:decide (n<1)=false:=decide_eq_false h1
   by_cases h4:n>4
   · have f2:decide (n>4)=true:=decide_eq_true h4
     simp -dsimp only [go_sem,f1,f2]
     rw [idM,if_neg (by omega)];rfl
   · have f2:decide (n>4)=false:=decide_eq_false h4
     obtain⟨k,rfl⟩:=Int.eq_ofNat_of_zero_le (show 0≤n by omega)
     simp -dsimp only [go_sem,f1,f2]
     refine(x0p _ [] (fun i j=>((if i=j then⟨oneN,oneN⟩ else default:Ivl),0)) k st rfl (by omega) rfl rfl rfl rfl (fun _=>rfl) fun i j hi hj=>q2j i j st).mono ?_
     rintro r st ⟨rfl,rfl⟩
     rw [z2f (by omega) (by omega)]
     simp -dsimp only [go_sem]
end Go.Pv
end
section
/-The document's matrices:RightMat,SameMat,InMat,PointMat;rows held against one another. -/
set_option maxRecDepth 100000
namespace Go.Pv
open Go.Proofs
theorem z0b (m:Mx) (st:Q0e) (hm:wM m):PCalls Tryz.prog 104 [.sl .no (encM m)] st (fun r st'=>r= .sc (.bool (Z0v m))∧st'=st):=by
 have hl:=hm.1
 refine Q0b none Tryz.func104 rfl fun E=>Q0a ?_
 simp -dsimp only [go_sem]
 refine Q0f [true,false,false,true] 0 0 (fun n s=> ∃i,n=m.length-i∧i≤m.length∧(∀j,j<i→(m.getD j []).length=m.length∧rightB (m.getD j [])=true)∧s=⟨[.sl .no (encM m),.junk,.junk,.sc (.int .i64 (i:Nat))]++List.replicate 34 .junk,[],[],st⟩) m.length ?_ ?_
 · simp -dsimp only [go_sem]
   exact⟨0,by omega,by omega,fun j hj=>by omega,rfl⟩
 · rintro n s ⟨i,rfl,hi,hr,rfl⟩
   have fin:i=m.length∨ ¬(i:Int)<4→decide ((m.length:Int)>0)=true→decide ((m.length:Int)≤4)=Z0v m:=fun h h1=>by
    have h1:=of_decide_eq_true h1
    rw [Bool.eq_iff_iff,rightM_iff,decide_eq_true_iff]
    exact⟨fun h4=>⟨fun j hj=>hr j (by omega),by omega,by omega⟩,fun hh=>by omega⟩
   have fin0:decide ((m.length:Int)>0)=false→Z0v m=false:=fun h=>Bool.eq_false_iff.2 fun e=>by
    have:=of_decide_eq_false h
    have:=(rightM_iff.1 e).2.1
    omega
   simp -dsimp only [go_sem]
   refine gkT (fun h=> ?_) (fun h=> ?_)
   · have hlt:i<m.length:=by have:=of_decide_eq_true h;omega
     simp -dsimp only [go_sem,h]
     refine ck (fun h4=> ?_) (fun h4=> ?_)
     · have e1:=J0w m i hlt
       have e3:=V0a i (by omega)
       simp -dsimp only [go_sem,e1]
       refine⟨by omega,?_⟩
       refine gkF (fun h2=> ?_) (fun h2=> ?_)
       · have hn:=z0x h2
         simp -dsimp only [go_sem,h2,e1]
         refine⟨by omega,?_⟩
         refine(z0c _ _ (hm.2 i hlt)).mono ?_
         rintro r st ⟨rfl,rfl⟩
         simp -dsimp only [go_sem,h2]
         refine ck (fun h3=> ?_) (fun h3=> ?_)
         · have hf:rightB (m.getD i [])=false:=by simpa using h3
           simp -dsimp only [go_sem]
           have:Z0v m=false:=Bool.eq_false_iff.2 fun e=>by
            have:=((rightM_iff.1 e).1 i hlt).2
            rw [hf] at this;cases this
           rw [this]
         · have ht:rightB (m.getD i [])=true:=by simpa using h3
           simp -dsimp only [go_sem,e3]
           refine⟨m.length-(i+1),by omega,i+1,rfl,by omega,fun j hj=> ?_,rfl⟩
           by_cases e:j=i
           · subst e;exact⟨hn,ht⟩
           · exact hr j (by omega)
       · have hn:=w0o h2
         simp -dsimp only [go_sem,h2]
         have:Z0v m=false:=Bool.eq_false_iff.2 fun e=>hn ((rightM_iff.1 e).1 i hlt).1
         rw [this]
     · have h4':=of_decide_eq_false h4
       simp -dsimp only [go_sem]
       refine Q0a ?_
       simp -dsimp only [go_sem]
       refine gkT (fun h=> ?_) (fun h=> ?_)
       · simp -dsimp only [go_sem,h]
         rw [fin (.inr h4') h]
       · simp -dsimp only [go_sem,h]
         rw [fin0 h]
   · have hge:i=m.length:=by have:=of_decide_eq_false h;omega
     simp -dsimp only [go_sem,h]
     refine Q0a ?_
     simp -dsimp only [go_sem]
     refine gkT (fun h=> ?_) (fun h=> ?_)
     · simp -dsimp only [go_sem,h]
       rw [fin (.inl hge) h]
     · simp -dsimp only [go_sem,h]
       rw [fin0 h]
theorem W1y (a b:Mx) (st:Q0e) (ha:wM a) (hb:wM b):PCalls Tryz.prog 46 [.sl .no (encM a),.sl .no (encM b)] st (fun r st'=>r= .sc (.bool (decide (a=b)))∧st'=st):=by
 have hla:=ha.1
 have hlb:=hb.1
 refine Q0b none Tryz.func46 rfl fun E=>Q0a ?_
 simp -dsimp only [go_sem]
 refine ck (fun h0=> ?_) (fun h0=> ?_)
 · have hne:=w0o h0
   simp -dsimp only [go_sem]
   rw [decide_eq_false (fun e=>hne (by rw [e]))]
 · have hl:=z0x h0
   simp -dsimp only [go_sem]
   refine Q0f [true,true,false,false,false,true] 0 0 (fun n s=> ∃i,n=a.length-i∧i≤a.length∧(∀j,j<i→a.getD j []=b.getD j [])∧s=⟨[.sl .no (encM a),.sl .no (encM b),.junk,.junk,.junk,.sc (.int .i64 (i:Nat))]++List.replicate 21 .junk,[],[],st⟩) a.length ?_ ?_
   · simp -dsimp only [go_sem]
     exact⟨0,by omega,by omega,fun j hj=>by omega,rfl⟩
   · rintro n s ⟨i,rfl,hi,hr,rfl⟩
     simp -dsimp only [go_sem]
     refine ck (fun h'=> ?_) (fun h'=> ?_)
     · have hlt:i<a.length:=by have:=of_decide_eq_true h';omega
       have e1:=J0w a i hlt
       have e2:=J0w b i (by omega)
       have e3:=V0a i (by omega)
       simp -dsimp only [go_sem]
       refine Q0p Z0g 27 (.step 0 [] (.step 1 [] (.step 2 [] (.step 3 [] (.step 4 [] (.step 5 [] (.step 6 [] (.step 7 [] (.step 8 [] (.step 9 [] (.done))))))))))) (by decide+kernel) (by simp) ?_
       simp -dsimp only [go_sem,e1,e2]
       refine⟨by omega,by omega,?_⟩
       refine(Z2o _ _ st (ha.2 i hlt) (hb.2 i (by omega))).mono ?_
       rintro r st ⟨rfl,rfl⟩
       simp -dsimp only [go_sem]
       refine ck (fun h2=> ?_) (fun h2=> ?_)
       · have hf:a.getD i []≠b.getD i []:=by
          intro e;rw [e] at h2;simp at h2
         simp -dsimp only [go_sem]
         rw [decide_eq_false (fun e=>hf (by rw [e]))]
       · have ht:a.getD i []=b.getD i []:=by
          apply Decidable.byContradiction;intro e;rw [decide_eq_false e] at h2;cases h2
         simp -dsimp only [go_sem,e3]
         refine⟨a.length-(i+1),by omega,i+1,rfl,by omega,fun j hj=> ?_,rfl⟩
         by_cases e:j=i
         · subst e;exact ht
         · exact hr j (by omega)
     · have hge:i=a.length:=by have:=of_decide_eq_false h';omega
       simp -dsimp only [go_sem]
       refine Q0a ?_
       simp -dsimp only [go_sem]
       rw [decide_eq_true (G0k [] hl fun j hj=>hr j (by omega))]
theorem q1w (a b:List UInt64) (st:Q0e) (ha:a.length≤100000000000) (hb:b.length≤100000000000):PCalls Tryz.prog 95 [.sl .no (encW a),.sl .no (encW b)] st (fun r st'=>r= .sc (.bool (decide (a=b)))∧st'=st):=by
 refine Q0b none Tryz.func95 rfl fun E=>Q0a ?_
 simp -dsimp only [go_sem]
 refine ck (fun h0=> ?_) (fun h0=> ?_)
 · have hne:=w0o h0
   simp -dsimp only [go_sem]
   rw [decide_eq_false (fun e=>hne (by rw [e]))]
 · have hl:=z0x h0
   simp -dsimp only [go_sem]
   refine Q0f [true,true,false,false,false,true] 0 0 (fun n s=> ∃i,n=a.length-i∧i≤a.length∧(∀j,j<i→a.getD j 0=b.getD j 0)∧s=⟨[.sl .no (encW a),.sl .no (encW b),.junk,.junk,.junk,.sc (.int .i64 (i:Nat))]++List.replicate 20 .junk,[],[],st⟩) a.length ?_ ?_
   · simp -dsimp only [go_sem]
     exact⟨0,by omega,by omega,fun j hj=>by omega,rfl⟩
   · rintro n s ⟨i,rfl,hi,hr,rfl⟩
     simp -dsimp only [go_sem]
     refine ck (fun h'=> ?_) (fun h'=> ?_)
     · have hlt:i<a.length:=by have:=of_decide_eq_true h';omega
       have e1:=Q0z a i hlt
       have e2:=Q0z b i (by omega)
       have e3:=V0a i (by omega)
       simp -dsimp only [go_sem]
       refine Q0p Z0g 26 (.step 0 [] (.step 1 [] (.step 2 [] (.step 3 [] (.step 4 [] (.step 5 [] (.step 6 [] (.step 7 [] (.step 8 [] (.done)))))))))) (by decide+kernel) (by simp) ?_
       simp -dsimp only [go_sem,e1,e2]
       refine⟨by omega,by omega,?_⟩
       refine ck (fun h2=> ?_) (fun h2=> ?_)
       · have hf:a.getD i 0≠b.getD i 0:=by intro e;rw [e] at h2;simp at h2
         simp -dsimp only [go_sem]
         rw [decide_eq_false (fun e=>hf (by rw [e]))]
       · have ht:a.getD i 0=b.getD i 0:=by
          have:=z0x h2
          exact UInt64.toNat_inj.1 this
         simp -dsimp only [go_sem,e3]
         refine⟨a.length-(i+1),by omega,i+1,rfl,by omega,fun j hj=> ?_,rfl⟩
         by_cases e:j=i
         · subst e;exact ht
         · exact hr j (by omega)
     · have hge:i=a.length:=by have:=of_decide_eq_false h';omega
       simp -dsimp only [go_sem]
       refine Q0a ?_
       simp -dsimp only [go_sem]
       rw [decide_eq_true (G0k 0 hl fun j hj=>hr j (by omega))]
end Go.Pv
end
section
/-The document's matrices:OpMat,TimesMat,MidMat,column,Dot,Vec. -/
set_option maxRecDepth 100000
namespace Go.Pv
open Go.Proofs
theorem y2f {k:Nat} {a b:List Ivl} {p:Int} (h1:rightB a=true) (h2:rightB b=true) (h3:a.length=b.length) (h4:Z0i p=true):opB k a b p=tabF (fun j=>opI k (a.getD j default) (b.getD j default) p) 0 a.length []:=by
 rw [opB,if_pos ⟨h1,h2,h3,h4⟩,Y0g]
theorem v1c {x:Ivl} {b:List Ivl} {p:Int} (h1:rightB b=true) (h2:Q0m x=true) (h4:Z0i p=true):K0i x b p=tabF (fun j=>opI 2 x (b.getD j default) p) 0 b.length []:=by
 rw [K0i,if_pos ⟨h1,h2,h4⟩,Y0g]
theorem H2m (k:Nat) {a b:Mx} {p:Int} (r1:Z0v a=true) (r2:Z0v b=true) (hn:a.length=b.length) (r3:Z0i p=true):opM k a b p=tabF (fun i=>opB k (a.getD i []) (b.getD i []) p) 0 a.length []:=by
 rw [opM,if_pos ⟨r1,r2,hn,r3⟩]
 refine v0i _ _ _ fun i _ hi=> ?_
 obtain⟨a1,a2⟩:=V0g r1 (show i<a.length by omega)
 obtain⟨b1,b2⟩:=V0g r2 (show i<b.length by omega)
 rw [y2f a2 b2 (by omega) r3,a1];rfl
theorem H1l {x:Ivl} {a:Mx} {p:Int} (r1:Z0v a=true) (r2:Q0m x=true) (r3:Z0i p=true):K0a x a p=tabF (fun i=>K0i x (a.getD i []) p) 0 a.length []:=by
 rw [K0a,if_pos ⟨r1,r2,r3⟩]
 refine v0i _ _ _ fun i _ hi=> ?_
 obtain⟨a1,a2⟩:=V0g r1 (show i<a.length by omega)
 rw [v1c a2 r2 r3,a1];rfl
theorem H2l (a b:Mx) (p:Int) (st:Q0e) (ha:wM a) (hb:wM b):PCalls Tryz.prog 106 [.sc (.int .i64 0),.sl .no (encM a),.sl .no (encM b),.sc (.int .i64 p)] st (fun r st'=>r= .tup [.sl .no (encM (opM 0 a b p).1),.sc (.int .i64 (opM 0 a b p).2)]∧st'=st):=by
 have hal:=ha.1
 refine Q0b none Tryz.func106 rfl fun E=>Q0a ?_
 simp -dsimp only [go_sem]
 refine(z0b a _ ha).mono ?_
 rintro r st ⟨rfl,rfl⟩
 cases r1:Z0v a with
 | false=>
  simp -dsimp only [go_sem]
  rw [opM,if_neg (by simp [r1])];rfl
 | true=>
  simp -dsimp only [go_sem]
  refine(z0b b _ hb).mono ?_
  rintro r st ⟨rfl,rfl⟩
  cases r2:Z0v b with
  | false=>
   simp -dsimp only [go_sem]
   rw [opM,if_neg (by simp [r2])];rfl
  | true=>
   by_cases hn:a.length=b.length
   · have f1:((a.length:Int) !=(b.length:Int))=false:=by rw [hn];simp
     simp -dsimp only [go_sem,f1]
     refine(y0j p _).mono ?_
     rintro r st ⟨rfl,rfl⟩
     cases r3:Z0i p with
     | false=>
      simp -dsimp only [go_sem]
      rw [opM,if_neg (by simp [r3])];rfl
     | true=>
      rw [H2m 0 r1 r2 hn r3]
      simp -dsimp only [go_sem]
      refine Z0l 10 1 ?_
      simp -dsimp only [go_sem]
      refine Q0f [true,true,true,true,false,false,false,false,false,false,true,true] 0 1
       (fun k s=> ∃(i:Nat) (o:Mx),k=a.length-i∧i≤a.length∧o.length=i∧tabF (fun i=>opB 0 (a.getD i []) (b.getD i []) p) 0 a.length []=tabF (fun i=>opB 0 (a.getD i []) (b.getD i []) p) i (a.length-i) o∧
        s=⟨[.sc (.int .i64 0),.sl .no (encM a),.sl .no (encM b),.sc (.int .i64 p),.junk,.junk,.junk,.junk,.junk,.junk,.sl (.own 0) (encM o),.sc (.int .i64 (i:Nat))]++List.replicate 50 .junk,[],[(o.length,1)],st⟩) a.length ?_ ?_
      · simp -dsimp only [go_sem]
        exact⟨0,[],by omega,by omega,rfl,rfl,rfl⟩
      · rintro k s ⟨i,o,rfl,hi,ho,hr,rfl⟩
        simp -dsimp only [go_sem]
        refine ck (fun h'=> ?_) (fun h'=> ?_)
        · have hlt:i<a.length:=by have:=of_decide_eq_true h';omega
          have e3:=V0a i (by omega)
          have e4:=K0w (fun i=>opB 0 (a.getD i []) (b.getD i []) p) hlt o
          have e1:=J0w a i hlt
          have e2:=J0w b i (by omega)
          simp -dsimp only [go_sem,e1]
          refine Q0p Z0g 62 (.step 0 [] (.step 1 [] (.step 2 [] (.step 3 [] (.step 4 [] (.step 5 [] (.step 6 [] (.step 7 [] (.step 8 [] (.step 9 [] (.step 10 [] (.step 11 [] (.step 12 [] (.step 13 [] (.step 14 [] (.step 15 [] (.done))))))))))))))))) (by decide+kernel) (by simp) ?_
          simp -dsimp only [go_sem,e1,e2]
          refine⟨by omega,by omega,?_⟩
          refine(H2n (a.getD i []) (b.getD i []) p _ (ha.2 i hlt) (hb.2 i (by omega))).mono ?_
          rintro r st ⟨rfl,rfl⟩
          simp -dsimp only [go_sem]
          refine ck (fun h2=> ?_) (fun h2=> ?_)
          · have hne:=H0b h2
            simp -dsimp only [go_sem]
            rw [hr,e4,if_pos hne];rfl
          · have he:=H0i h2
            simp -dsimp only [go_sem,e3]
            refine⟨⟨by omega,by omega⟩,a.length-(i+1),by omega,i+1,o++ [(opB 0 (a.getD i []) (b.getD i []) p).1],rfl,by omega,by simp [ho],?_,?_⟩
            · rw [hr,e4,if_neg (fun hh=>hh he)]
            · simp
        · have hge:i=a.length:=by have:=of_decide_eq_false h';omega
          simp -dsimp only [go_sem]
          refine Q0a ?_
          simp -dsimp only [go_sem]
          rw [hr,hge,W0e]
   · have f1:((a.length:Int) !=(b.length:Int))=true:=by rw [bne_iff_ne];omega
     simp -dsimp only [go_sem,f1]
     rw [opM,if_neg (fun hh=>hn hh.2.2.1)];rfl
theorem v1a (x:Ivl) (a:Mx) (p:Int) (st:Q0e) (hx:wI x) (ha:wM a):PCalls Tryz.prog 105 [.agg (encI x),.sl .no (encM a),.sc (.int .i64 p)] st (fun r st'=>r= .tup [.sl .no (encM (K0a x a p).1),.sc (.int .i64 (K0a x a p).2)]∧st'=st):=by
 have hal:=ha.1
 refine Q0b none Tryz.func105 rfl fun E=>Q0a ?_
 simp -dsimp only [go_sem]
 refine(z0b a _ ha).mono ?_
 rintro r st ⟨rfl,rfl⟩
 cases r1:Z0v a with
 | false=>
  simp -dsimp only [go_sem]
  rw [K0a,if_neg (by simp [r1])];rfl
 | true=>
  simp -dsimp only [go_sem]
  refine(J0p x _ hx).mono ?_
  rintro r st ⟨rfl,rfl⟩
  cases r2:Q0m x with
  | false=>
   simp -dsimp only [go_sem]
   rw [K0a,if_neg (by simp [r2])];rfl
  | true=>
   simp -dsimp only [go_sem]
   refine(y0j p _).mono ?_
   rintro r st ⟨rfl,rfl⟩
   cases r3:Z0i p with
   | false=>
    simp -dsimp only [go_sem]
    rw [K0a,if_neg (by simp [r3])];rfl
   | true=>
    rw [H1l r1 r2 r3]
    simp -dsimp only [go_sem]
    refine Z0l 8 1 ?_
    simp -dsimp only [go_sem]
    refine Q0f [false,true,true,true,false,false,false,false,true,true] 1 1
     (fun k s=> ∃(i:Nat) (o:Mx),k=a.length-i∧i≤a.length∧o.length=i∧tabF (fun i=>K0i x (a.getD i []) p) 0 a.length []=tabF (fun i=>K0i x (a.getD i []) p) i (a.length-i) o∧
      s=⟨[.junk,.sl .no (encM a),.sc (.int .i64 p),.lp 0 0,.junk,.junk,.junk,.junk,.sl (.own 0) (encM o),.sc (.int .i64 (i:Nat))]++List.replicate 39 .junk,[encI x],[(o.length,1)],st⟩) a.length ?_ ?_
    · simp -dsimp only [go_sem]
      exact⟨0,[],by omega,by omega,rfl,rfl,rfl⟩
    · rintro k s ⟨i,o,rfl,hi,ho,hr,rfl⟩
      simp -dsimp only [go_sem]
      refine ck (fun h'=> ?_) (fun h'=> ?_)
      · have hlt:i<a.length:=by have:=of_decide_eq_true h';omega
        have e3:=V0a i (by omega)
        have e4:=K0w (fun i=>K0i x (a.getD i []) p) hlt o
        have e1:=J0w a i hlt
        simp -dsimp only [go_sem,e1]
        refine Q0p Z0g 49 (.step 0 [] (.step 1 [] (.step 2 [] (.step 3 [] (.step 4 [] (.step 5 [] (.step 6 [] (.step 7 [] (.step 8 [] (.step 9 [] (.step 10 [] (.step 11 [] (.done))))))))))))) (by decide+kernel) (by simp) ?_
        simp -dsimp only [go_sem,e1]
        refine⟨by omega,?_⟩
        refine(U2n x (a.getD i []) p _ hx (ha.2 i hlt)).mono ?_
        rintro r st ⟨rfl,rfl⟩
        simp -dsimp only [go_sem]
        refine ck (fun h2=> ?_) (fun h2=> ?_)
        · have hne:=H0b h2
          simp -dsimp only [go_sem]
          rw [hr,e4,if_pos hne];rfl
        · have he:=H0i h2
          simp -dsimp only [go_sem,e3]
          refine⟨⟨by omega,by omega⟩,a.length-(i+1),by omega,i+1,o++ [(K0i x (a.getD i []) p).1],rfl,by omega,by simp [ho],?_,?_⟩
          · rw [hr,e4,if_neg (fun hh=>hh he)]
          · simp
      · have hge:i=a.length:=by have:=of_decide_eq_false h';omega
        simp -dsimp only [go_sem]
        refine Q0a ?_
        simp -dsimp only [go_sem]
        rw [hr,hge,W0e]
end Go.Pv
end
section
/-The document's matrices:One,MulMat. -/
set_option maxRecDepth 100000
namespace Go.Pv
open Go.Proofs
theorem H2k (f:PV→PV) (l:List PV) (o:Nat) (r:List PV):(over l o r).map f=over (l.map f) o (r.map f):=by
 simp [over,List.map_take,List.map_drop]
theorem G2k (f:PV→PV) (n:Nat) (z:List PV):(repC n z).map f=repC n (z.map f):=by
 unfold repC;rw [List.map_flatten,List.map_replicate]
theorem Q3m {l r:List PV} {o:Nat} (h1:fzOK l=true) (h2:fzOK r=true):fzOK (over l o r)=true:=by
 unfold fzOK at*
 rw [List.all_eq_true] at*
 intro p hp
 simp only [over,List.mem_append] at hp
 rcases hp with (hp | hp) | hp
 · exact h1 p (List.mem_of_mem_take hp)
 · exact h2 p hp
 · exact h1 p (List.mem_of_mem_drop hp)
theorem Q3l {n:Nat} {z:List PV} (h:fzOK z=true):fzOK (repC n z)=true:=by
 unfold fzOK at*
 rw [List.all_eq_true] at*
 intro p hp
 simp only [repC,List.mem_flatten,List.mem_replicate] at hp
 obtain⟨l,⟨_,rfl⟩,hp⟩:=hp
 exact h p hp
end Go.Pv
end
section
/-The deck's matrices,and numbers of them. -/
set_option maxRecDepth 100000
namespace Go.Pv
open Go.Proofs
theorem Z1o (l:List UInt64) (i k n:Nat) (st:Q0e) (h:atD st k l i) (hi:i≤800000000) (hn:n≤1000):PCalls Tryz.prog 45 [.gp k 0,.sc (.int .i64 n)] st
 (fun r st'=> ∃m j,m.length=n∧(∀q,q<n→(m.getD q []).length=n∧ ∀j,j<n→smI (atM m q j))∧i≤j∧j≤i+3*n*n∧r= .sl .no (encM m)∧st'=st.set k (dk l j)):=by
 refine Q0b none Tryz.func45 rfl fun E=>Q0a ?_
 have hnn:3*n*n≤3000000:=by
  have:n*n≤1000*1000:=Nat.mul_le_mul hn hn
  rw [Nat.mul_assoc];omega
 simp -dsimp only [go_sem]
 refine Z0l 5 1 ?_
 simp -dsimp only [go_sem]
 refine Q0f [true,true,false,false,false,true,true] 0 1 (fun c s=> ∃(m:Mx) (j:Nat),c=n-m.length∧m.length≤n∧(∀q,q<m.length→(m.getD q []).length=n∧ ∀j,j<n→smI (atM m q j))∧i≤j∧j≤i+3*n*m.length∧
  s=⟨[.gp k 0,.sc (.int .i64 n),.junk,.junk,.junk,.sl (.own 0) (encM m),.sc (.int .i64 (m.length:Nat))]++List.replicate 12 .junk,[],[(m.length,1)],st.set k (dk l j)⟩) n ?_ ?_
 · simp -dsimp only [go_sem]
   refine⟨[],i,by simp,by simp,fun m hm=>by simp at hm,by omega,by omega,?_⟩
   rw [h.same];rfl
 · rintro c s ⟨m,j,rfl,hb,hr,hj,hj2,rfl⟩
   simp -dsimp only [go_sem]
   refine ck (fun h1=> ?_) (fun h1=> ?_)
   · have hlt:m.length<n:=by have:=of_decide_eq_true h1;omega
     have x1:=V0a m.length (by omega)
     have hjb:3*n*m.length+3*n≤3*n*n:=by
      have:3*n*(m.length+1)≤3*n*n:=Nat.mul_le_mul_left _ hlt
      rw [Nat.mul_add,Nat.mul_one] at this;exact this
     simp -dsimp only [go_sem]
     refine(H1p l j k n _ (h.set j) (by omega) (by omega)).mono ?_
     rintro r st' ⟨x,j',hx1,hx2,hj3,hj4,rfl,rfl⟩
     simp -dsimp only [go_sem,J1c,x1]
     refine⟨⟨by omega,by omega⟩,n-(m.length+1),by omega,m++ [x],j',by simp,by simp;omega,fun q hq=> ?_,by omega,?_,by simp⟩
     · by_cases hm2:q<m.length
       · unfold atM;rw [V3k _ _ _ _ hm2];exact hr q hm2
       · have e:q=m.length:=by simp at hq;omega
         unfold atM
         rw [e,j2u]
         exact⟨hx1,fun j hj=>hx2 j (by omega)⟩
     · rw [List.length_append,List.length_singleton,Nat.mul_add,Nat.mul_one];omega
   · have hge:m.length=n:=by have:=of_decide_eq_false h1;omega
     simp -dsimp only [go_sem]
     refine Y0o [false,false,false,false,false,true] (Q0a ?_)
     simp -dsimp only [go_sem]
     exact⟨m,j,hge,fun q hq=>hr q (by omega),hj,by rw [hge] at hj2;exact hj2,rfl,rfl⟩
end Go.Pv
end
section
/-Layer 7:known,light,reckons. -/
set_option maxRecDepth 100000
namespace Go.Pv
open Go.Proofs
theorem K3p {m:Mx} (h1:m.length≤100000000000) (h2: ∀r∈m,wB r):wM m:=⟨h1,fun i hi=>h2 _ (Q0t _ _ _ hi)⟩
theorem K3u {b:List Ivl} (h1:b.length≤100000000000) (h2: ∀x∈b,wI x):wB b:=⟨h1,fun i hi=>h2 _ (Q0t _ _ _ hi)⟩
theorem w2f {G:Nat→Ivl×Int} {n:Nat} (hn:n≤100000) (h: ∀i,wI (G i).1):wB (tabF G 0 n []).1:=by
 refine K3u ?_ (U0h wI n 0 [] (fun i _ _=>h i) (fun x hx=>by cases hx))
 have:=q0v (G:=G) n 0 []
 simp at this;omega
theorem j1t {G:Nat→Nat→Ivl×Int} {n:Nat} (hn:n≤100000) (h: ∀i j,wI (G i j).1):wM (z0t G n).1:=by
 refine K3p ?_ (U0h wB n 0 [] (fun i _ _=>w2f hn (h i)) (fun x hx=>by cases hx))
 have:=q0v (G:=fun i=>tabF (fun j=>G i j) 0 n []) n 0 []
 simp at this;unfold z0t;omega
theorem W1l :wM []:=⟨by simp,fun i hi=>by simp at hi⟩
theorem W3c (k:Nat) (a b:Mx) (p:Int):wM (opM k a b p).1:=by
 unfold opM
 split
 · rename_i h;have:=Y0c h.1;exact j1t (by omega) fun i j=>J0r (X0g _ _ _ _)
 · exact W1l
theorem W1q (x:Ivl) (a:Mx) (p:Int):wM (K0a x a p).1:=by
 unfold K0a
 split
 · rename_i h;have:=Y0c h.1;exact j1t (by omega) fun i j=>J0r (X0g _ _ _ _)
 · exact W1l
end Go.Pv
end
section
/-How far down and how far up a value goes:sums,products,rounding,and what fits. No program in it. -/
namespace Go.Pv
def luQ (L U:Nat) (x:Rat):Prop:= ∃z:Int,x=qM z (-(L:Int))∧z.natAbs≤2^(L+U)
theorem q2l (v:Vl):(X0v v).natAbs=v.m:=by unfold X0v;split<;>simp
theorem V1g {m:Nat} (h:m≠0):2^(Q0g m-1)≤m:=by
 apply Nat.le_of_not_lt
 intro hlt
 have:=bitlen_le_iff.2 hlt
 have:=G0o h
 omega
end Go.Pv
end
section
/-By the matrix of ones;what the norm bounds. No program in it. -/
namespace Go.Pv
theorem k2j {n i j:Nat} (h1:1≤n) (h4:n≤4) (hi:i<n) (hj:j<n):(idM (n:Int)).length=n∧((idM (n:Int)).getD i []).length=n∧atM (idM (n:Int)) i j=if i=j then⟨oneN,oneN⟩ else default:=by
 have e:idM (n:Int)=(List.range n).map fun i=>(List.range n).map fun j=>if i=j then⟨oneN,oneN⟩ else default:=by
  rw [idM,if_pos (by omega)];rfl
 rw [e]
 have e2:((List.range n).map fun i=>(List.range n).map fun j=>if i=j then(⟨oneN,oneN⟩:Ivl) else default).getD i []=(List.range n).map fun j=>if i=j then(⟨oneN,oneN⟩:Ivl) else default:=by
  simp [List.getD_eq_getElem?_getD,hi]
 refine⟨by simp,by rw [e2];simp,?_⟩
 unfold atM
 rw [e2]
 simp [List.getD_eq_getElem?_getD,hj]
end Go.Pv
end
