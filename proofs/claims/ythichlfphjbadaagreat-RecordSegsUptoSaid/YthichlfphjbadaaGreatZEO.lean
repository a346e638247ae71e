/- Parts of the walk: N131, N132. -/
import Derived.Test.YthichlfphjbadaaGreatZEJ
import Derived.Test.YthichlfphjbadaaGreatZEK
import Derived.Test.YthichlfphjbadaaGreatZEH
import Derived.Test.YthichlfphjbadaaGreatZR
set_option linter.unusedVariables false
set_option linter.unusedSimpArgs false
section
/-What the laws of layer 23 know beforehand;light boxes. -/
set_option maxRecDepth 100000
namespace Go.Pv
open Go.Proofs
def k23S :Sg:=⟨1,1,default,kOne,[default]⟩
def k23U :Sx:=⟨0,default,kOne,⟨[kOne],[[kOne]],[default]⟩⟩
theorem w2d :X0a k23S=true:=by decide+kernel
theorem H2p :Q0z k23U=true:=by decide+kernel
theorem w2c :wS k23S:=by
 refine⟨z1r (by decide),z1r (by decide),by decide,fun i hi=> ?_⟩
 have:i=0:=by have:k23S.box.length=1:=rfl
              omega
 subst this
 exact⟨z1r (by decide),z1r (by decide)⟩
theorem k23B :(segB k23S).1= [1,1,0,2,0,1,0,0,0,0,0,0,0,1,0,0]:=by
 rw [segB,if_pos w2d]
 have h0:numB default= [0]:=by
  rw [numB,if_pos (by decide),show J0h default=0 from rfl,K0j (by omega)];rfl
 have h1:numB kOne= [2,0,1,0,0,0,0,0,0,0]:=by
  rw [numB,if_pos J4z,show J0h kOne=2 from rfl,K0j (by omega),if_neg (by decide),show zig kOne.exp=0 from rfl,K0j (by omega)]
  decide
 have h2:boxB [default]= [1,0,0]:=by
  rw [boxB,if_pos (by decide+kernel),show([default]:List Ivl).length=1 from rfl,K0j (by omega),List.flatMap_cons,List.flatMap_nil,List.append_nil,ivB,if_pos (by decide)]
  show _++(numB default++numB default)=_
  rw [h0];rfl
 show uvar 1++(uvar 1++(numB default++(numB kOne++boxB [default])))=_
 rw [h0,h1,h2,K0j (by omega)]
 rfl
theorem x3c :segR []=(default,10):=by decide+kernel
set_option maxHeartbeats 1000000 in
theorem y0k (st:Q0g):PCalls Tryz.prog 8 [] st (fun r st'=>r= .sc (.bool true)∧st'=st):=by
 have hU:=w0i H2p
 have e1:segR (segB k23S).1=(k23S,0):=Q2s k23S w2d
 have e2:stR (stB k23U).1=(k23U,0):=Y2m k23U H2p
 have e3:(segB k23S).2=0:=by rw [segB,if_pos w2d]
 have e4:(stB k23U).2=0:=by rw [stB,if_pos H2p]
 have hlen:(stB k23U).1.length≤1000000000000:=by
  rw [stB,if_pos H2p]
  have a1:=Z0b (v:=k23U.idx.toNat) (by decide)
  have a2:=Z0m k23U.t
  have a3:=Z0m k23U.h
  have a4:=Z0b (v:=k23U.f.m.length) (by decide)
  have a5:=W0f k23U.f.m
  have a6:=K0t (m:=1) k23U.f.a (by intro i hi;have:i=0:=by { have:k23U.f.a.length=1:=rfl;omega };subst this;decide)
  have a7:=q1z k23U.f.r
  have b1:k23U.f.m.length=1:=rfl
  have b2:k23U.f.a.length=1:=rfl
  have b3:k23U.f.r.length=1:=rfl
  simp only [List.length_append]
  omega
 refine Q0b none Tryz.func8 rfl fun E=>Q0h (Q0a ?_)
 simp -dsimp only [go_sem]
 refine Q0h (Q0a ?_)
 simp -dsimp only [go_sem]
 refine Q0h (Q0a ?_)
 simp -dsimp only [go_sem]
 refine Q0h (Q0a ?_)
 simp -dsimp only [go_sem]
 refine(H1l k23S st w2c).mono ?_
 rintro r st ⟨rfl,rfl⟩
 rw [e3]
 simp -dsimp only [go_sem]
 refine Q0h (Q0a ?_)
 simp -dsimp only [go_sem]
 refine(G0w (segB k23S).1 st (by rw [k23B];decide)).mono ?_
 rintro r st ⟨rfl,rfl⟩
 rw [e1]
 simp -dsimp only [go_sem]
 refine Q0h (Q0a ?_)
 simp -dsimp only [go_sem]
 refine Q0h (Q0a ?_)
 simp -dsimp only [go_sem]
 refine(j0i k23U st hU).mono ?_
 rintro r st ⟨rfl,rfl⟩
 rw [e4]
 simp -dsimp only [go_sem]
 refine Q0h (Q0a ?_)
 simp -dsimp only [go_sem]
 refine(H0h (stB k23U).1 st hlen).mono ?_
 rintro r st ⟨rfl,rfl⟩
 rw [e2]
 simp -dsimp only [go_sem]
 refine Q0h (Q0a ?_)
 simp -dsimp only [go_sem]
 refine(G0w [] st (by simp)).mono ?_
 rintro r st ⟨rfl,rfl⟩
 rw [x3c]
 simp -dsimp only [go_sem]
 refine Q0a ?_
 simp -dsimp only [go_sem]
 rw [k23B]
 have hself:(([1,1,0,2,0,1,0,0,0,0,0,0,0,1,0,0]:List UInt8)== [1,1,0,2,0,1,0,0,0,0,0,0,0,1,0,0])=true:=beq_self_eq_true _
 have d1:decide (k23S=k23S)=true:=decide_eq_true rfl
 have d2:decide (k23U=k23U)=true:=decide_eq_true rfl
 simp -dsimp only [go_sem,hself]
 have c1:PCalls Tryz.prog 25 [.agg (encS k23S),.agg (encS k23S)] st (fun r st'=>r= .sc (.bool (decide (k23S=k23S)))∧st'=st):=J1r k23S k23S st w2c w2c
 refine c1.mono ?_
 rintro r st ⟨rfl,rfl⟩
 simp -dsimp only [go_sem,hself,d1]
 have c2:PCalls Tryz.prog 14 [.agg (encS k23S)] st (fun r st'=>r= .sc (.bool (X0a k23S))∧st'=st):=H0s k23S st w2c
 refine c2.mono ?_
 rintro r st ⟨rfl,rfl⟩
 rw [w2d]
 simp -dsimp only [go_sem,hself,d1]
 have c3:PCalls Tryz.prog 20 [.agg (X0m k23U)] st (fun r st'=>r= .sc (.bool (Q0z k23U))∧st'=st):=Y0u k23U st hU
 refine c3.mono ?_
 rintro r st ⟨rfl,rfl⟩
 rw [H2p]
 simp -dsimp only [go_sem,hself,d1]
 have c4:PCalls Tryz.prog 27 [.agg (X0m k23U),.agg (X0m k23U)] st (fun r st'=>r= .sc (.bool (decide (k23U=k23U)))∧st'=st):=k0s k23U k23U st hU hU
 refine c4.mono ?_
 rintro r st ⟨rfl,rfl⟩
 simp -dsimp only [go_sem,hself,d1,d2]
theorem V1j (l:List Ivl) (st:Q0g) (hl:l.length≤100000000000) (hw:wB l):PCalls Tryz.prog 9 [.sl .no (Q0u l)] st (fun r st'=> ∃b,r= .sc (.bool b)∧st'=st):=by
 refine Q0b none Tryz.func9 rfl fun E=>Q0a ?_
 simp -dsimp only [go_sem]
 refine ck (fun h1=> ?_) (fun h1=> ?_)
 · simp -dsimp only [go_sem]
   exact⟨_,rfl⟩
 simp -dsimp only [go_sem]
 refine Q0d [true,false,false,true] 0 0 (fun n s=> ∃k,n=l.length-k∧k≤l.length∧s=⟨[.sl .no (Q0u l),.junk,.junk,.sc (.int .i64 (k:Nat))]++List.replicate 27 .junk,[],[],st⟩) l.length ?_ ?_
 · simp -dsimp only [go_sem]
   exact⟨0,by omega,by omega,rfl⟩
 · rintro n s ⟨k,rfl,hk,rfl⟩
   simp -dsimp only [go_sem]
   refine ck (fun h6=> ?_) (fun h6=> ?_)
   · have hlt:k<l.length:=by have:=of_decide_eq_true h6;omega
     have g1:=J0j l k hlt
     have x1:=Y0g k (by omega)
     simp -dsimp only [go_sem,g1]
     refine⟨by omega,?_⟩
     refine gkF (fun h7=> ?_) (fun h7=> ?_)
     rotate_left
     · simp -dsimp only [go_sem,h7]
       exact⟨_,rfl⟩
     simp -dsimp only [go_sem,h7,g1]
     refine⟨by omega,?_⟩
     refine ck (fun h8=> ?_) (fun h8=> ?_)
     · simp -dsimp only [go_sem]
       exact⟨_,rfl⟩
     simp -dsimp only [go_sem,x1]
     exact⟨l.length-(k+1),by omega,k+1,rfl,by omega,rfl⟩
   · simp -dsimp only [go_sem]
     refine Q0a ?_
     simp -dsimp only [go_sem]
     exact⟨_,rfl⟩
theorem Y2x (s t:Sg) (st:Q0g) (hs:wS s) (ht:wS t):PCalls Tryz.prog 13 [.agg (encS s),.agg (encS t)] st (fun r st'=>r= .sc (.bool true)∧st'=st):=by
 refine Q0b none Tryz.func13 rfl fun E=>Q0h (Q0a ?_)
 simp -dsimp only [go_sem]
 refine Q0h (Q0a ?_)
 simp -dsimp only [go_sem]
 refine(H1l s st hs).mono ?_
 rintro r st ⟨rfl,rfl⟩
 simp -dsimp only [go_sem]
 refine Q0h (Q0a ?_)
 simp -dsimp only [go_sem]
 refine(j2u s st hs).mono ?_
 rintro r st ⟨rfl,rfl⟩
 have b1:((segB s).2==(segB s).2)=true:=beq_self_eq_true _
 have b2:((segB s).1==(segB s).1)=true:=beq_self_eq_true _
 have b3:(X0a s==X0a s)=true:=beq_self_eq_true _
 have b4:(decide (s=t)==decide (s=t))=true:=beq_self_eq_true _
 simp -dsimp only [go_sem]
 refine Q0a ?_
 simp -dsimp only [go_sem]
 refine Q0o Z0n 45 (.step 0 [] (.step 1 [] (.step 2 [] (.step 3 [] (.step 4 [] (.step 5 [] (.step 6 [] (.step 7 [] (.step 8 [] (.step 9 [] (.step 10 [] (.step 11 [] (.step 13 [] (.step 12 [13] (.step 14 [] (.step 15 [] (.step 16 [] (.step 17 [] (.step 18 [] (.step 19 [] (.step 21 [] (.step 22 [] (.step 20 [11,21,22] (.step 23 [11] (.step 24 [] (.step 25 [] (.step 26 [] (.done)))))))))))))))))))))))))))) (by decide+kernel) (by simp) ?_
 simp -dsimp only [go_sem,b1,b2]
 refine(H0s s st hs).mono ?_
 rintro r st ⟨rfl,rfl⟩
 simp -dsimp only [go_sem,b1,b2]
 refine(q0j s st hs).mono ?_
 rintro r st ⟨rfl,rfl⟩
 simp -dsimp only [go_sem,b1,b2,b3]
 refine(J1r s t st hs ht).mono ?_
 rintro r st ⟨rfl,rfl⟩
 simp -dsimp only [go_sem,b1,b2,b3]
 refine(Z1q s t st hs ht).mono ?_
 rintro r st ⟨rfl,rfl⟩
 simp -dsimp only [go_sem,b1,b2,b3,b4]
end Go.Pv
end
section
/-The walks of RecordReads and RecordSegs. -/
set_option maxRecDepth 100000
namespace Go.Pv
open Go.Proofs
theorem U2e {s:Sg} (h:X0a s=true):wS s:=by
 obtain⟨_,_,_,h4,h5,_,_,h8⟩:=V0v h
 exact⟨Q0t h4,Q0t h5,J1z h8⟩
theorem X3y :wS default:=⟨z1r (by decide),z1r (by decide),by decide,fun i hi=>by simp [show(default:Sg).box= [] from rfl] at hi⟩
theorem q3m (b:List UInt8):wS (segR b).1:=by
 by_cases h:(segR b).2=0
 · exact U2e (j2k b h).1
 · have:(segR b).1=default:=by
    unfold segR at h⊢
    simp only at h⊢
    split
    · rfl
    · rename_i h1
      rw [if_neg h1] at h
      split
      · rename_i h2
        rw [if_pos h2] at h
        exact absurd rfl h
      · rfl
   rw [this];exact X3y
theorem j2a :wSx default:=⟨z1r (by decide),z1r (by decide),⟨by decide,fun i hi=>by cases hi⟩,⟨by decide,fun i hi=>by cases hi⟩,⟨by decide,fun i hi=>by cases hi⟩⟩
theorem X4r (b:List UInt8):wSx (stR b).1:=by
 by_cases h:(stR b).2=0
 · exact w0i (K3a b h).1
 · have:(stR b).1=default:=by
    rw [Q3v] at h⊢
    split
    · rfl
    · rename_i h1
      rw [if_neg h1] at h
      split
      · rfl
      · rename_i h2
        rw [if_neg h2] at h
        split
        · rfl
        · rename_i h3
          rw [if_neg h3] at h
          split
          · rename_i h4
            rw [if_pos h4] at h
            exact absurd rfl h
          · rfl
   rw [this];exact j2a
theorem U2n (b:List UInt8) (st:Q0g) (hb:b.length≤1000000000000):PCalls Tryz.prog 22 [.sl .no (encB b)] st (fun r st'=>r= .sc (.bool true)∧st'=st):=by
 have ws:=q3m b
 have wt:=X4r b
 refine Q0b none Tryz.func22 rfl fun E=>Q0h (Q0a ?_)
 simp -dsimp only [go_sem]
 refine Q0h (Q0a ?_)
 simp -dsimp only [go_sem]
 refine(G0w b st hb).mono ?_
 rintro r st ⟨rfl,rfl⟩
 simp -dsimp only [go_sem]
 refine Q0h (Q0a ?_)
 simp -dsimp only [go_sem]
 refine(x1k b st hb).mono ?_
 rintro r st ⟨rfl,rfl⟩
 simp -dsimp only [go_sem]
 refine Q0h (Q0a ?_)
 simp -dsimp only [go_sem]
 refine(H0h b st hb).mono ?_
 rintro r st ⟨rfl,rfl⟩
 simp -dsimp only [go_sem]
 refine Q0h (Q0a ?_)
 simp -dsimp only [go_sem]
 refine(W1y b st hb).mono ?_
 rintro r st ⟨rfl,rfl⟩
 simp -dsimp only [go_sem]
 have b1:((segR b).2==(segR b).2)=true:=beq_self_eq_true _
 have b2:((stR b).2==(stR b).2)=true:=beq_self_eq_true _
 have d1:decide ((segR b).1=(segR b).1)=true:=decide_eq_true rfl
 have d2:decide ((stR b).1=(stR b).1)=true:=decide_eq_true rfl
 refine Q0a ?_
 simp -dsimp only [go_sem,b1,b2]
 refine(Z1q (segR b).1 (segR b).1 st ws ws).mono ?_
 rintro r st ⟨rfl,rfl⟩
 simp -dsimp only [go_sem,b1,b2,d1]
 refine(k0s (stR b).1 (stR b).1 st wt wt).mono ?_
 rintro r st ⟨rfl,rfl⟩
 simp -dsimp only [go_sem,b1,b2,d1,d2]
theorem H1k (b:List UInt8) (hb:b.length≤1000000000000):PCalls Tryz.prog 5 [.sl .no (encB b)] [] (fun r st'=>r= .sc (.bool true)):=by
 refine Q0b none Tryz.func5 rfl fun E=>Q0a ?_
 simp -dsimp only [go_sem]
 refine(y0k _).mono ?_
 rintro r st ⟨rfl,rfl⟩
 simp -dsimp only [go_sem]
 refine ck (fun h1=> ?_) (fun h1=> ?_)
 · simp -dsimp only [go_sem]
 simp -dsimp only [go_sem]
 refine(U2n b _ hb).mono ?_
 rintro r st ⟨rfl,rfl⟩
 simp -dsimp only [go_sem]
set_option maxHeartbeats 1000000 in
theorem x1o (s t:Sg) (l:List UInt64) (hs:wS s) (ht:wS t):PCalls Tryz.prog 3 [.agg (encS s),.agg (encS t),.sl .no (encW l)] [] (fun r st'=>r= .sc (.bool true)):=by
 have hsl:=hs.2.2.1
 have htl:=ht.2.2.1
 refine Q0b none Tryz.func3 rfl fun E=>Q0h (Q0a ?_)
 simp -dsimp only [go_sem]
 refine Q0h (Q0a ?_)
 simp -dsimp only [go_sem]
 refine(y0k _).mono ?_
 rintro r st ⟨rfl,rfl⟩
 simp -dsimp only [go_sem]
 refine Z0a [false,false,true,true,true] 2 0 (fun q=>q=⟨[.junk,.junk,.sl .no (encW l),.lp 0 0,.lp 1 0]++List.replicate 63 .junk,[encS s,encS t],[],[]⟩) ?_ ?_
 · simp -dsimp only [go_sem]
   refine(V1j s.box _ hsl hs.2.2).mono ?_
   rintro r st ⟨b,rfl,rfl⟩
   cases b with
   | false=>simp -dsimp only [go_sem]
   | true=>
    simp -dsimp only [go_sem]
    refine(V1j t.box _ htl ht.2.2).mono ?_
    rintro r st ⟨b,rfl,rfl⟩
    cases b with
    | false=>simp -dsimp only [go_sem]
    | true=>
     simp -dsimp only [go_sem]
     refine gkF (fun h1=> ?_) (fun h1=> ?_)
     rotate_left
     · simp -dsimp only [go_sem,h1]
     simp -dsimp only [go_sem,h1]
     refine ck (fun h2=> ?_) (fun h2=> ?_)
     · simp -dsimp only [go_sem]
     · simp -dsimp only [go_sem]
 rintro q rfl
 refine Q0h (Q0a ?_)
 simp -dsimp only [go_sem]
 refine(q1u l _).mono ?_
 rintro r st' ⟨rfl,rfl⟩
 simp -dsimp only [go_sem]
 refine Q0h (Q0a ?_)
 simp -dsimp only [go_sem]
 refine(y2g l 0 0 [dk l 0] rfl (by omega)).mono ?_
 rintro r st' ⟨n,hn1,hn2,rfl,rfl⟩
 simp -dsimp only [go_sem]
 refine(G1o l 1 0 n 3 [dk l 1] rfl (by omega) ⟨hn1,hn2⟩ (by omega)).mono ?_
 rintro r st' ⟨a,at',q,j,hT,hal,hj1,hj2,rfl,rfl⟩
 simp -dsimp only [go_sem]
 have hrs: ∀i,i<a.length→X0a (a.getD i default)=true:=fun i hi=>J1u (hT.1 i hi).1
 refine Q0h (Q0a ?_)
 simp -dsimp only [go_sem]
 refine Q0d [false,false,false,true,true,false,false,false,true,true] 2 0 (fun c q=> ∃i,c=a.length-i∧i≤a.length∧q=⟨[.junk,.junk,.junk,.lp 0 0,.lp 1 0,.junk,.junk,.junk,.sl .no (W0h a),.sc (.int .i64 (i:Nat))]++List.replicate 58 .junk,[encS s,encS t],[],[dk l j]⟩) a.length ?_ ?_
 · simp -dsimp only [go_sem]
   exact⟨0,by omega,by omega,rfl⟩
 · rintro c q ⟨i,rfl,hi,rfl⟩
   simp -dsimp only [go_sem]
   refine ck (fun h6=> ?_) (fun h6=> ?_)
   · have hlt:i<a.length:=by have:=of_decide_eq_true h6;omega
     have g1:=V1x a i hlt
     have g2:=V1x a 0 (by omega)
     have x1:=Y0g i (by omega)
     have w1:=J1w (hrs i hlt)
     have w2:=J1w (hrs 0 (by omega))
     simp -dsimp only [go_sem]
     refine Q0o Z0n 68 (.step 0 [] (.step 1 [] (.step 2 [] (.step 3 [] (.step 4 [] (.step 5 [] (.step 6 [] (.step 7 [] (.step 8 [] (.step 9 [] (.step 10 [] (.step 11 [] (.step 12 [] (.step 13 [] (.step 14 [] (.step 15 [] (.step 16 [] (.done)))))))))))))))))) (by decide+kernel) (by simp) ?_
     simp -dsimp only [go_sem,g1,g2]
     refine⟨by omega,by omega,?_⟩
     have c0:PCalls Tryz.prog 13 [.agg (encS (a.getD i default)),.agg (encS (a.getD 0 default))] [dk l j] (fun r st'=>r= .sc (.bool true)∧st'= [dk l j]):=Y2x _ _ _ w1 w2
     refine c0.mono ?_
     rintro r st' ⟨rfl,rfl⟩
     simp -dsimp only [go_sem,g1]
     refine⟨by omega,?_⟩
     refine(H0s (a.getD i default) _ w1).mono ?_
     rintro r st' ⟨rfl,rfl⟩
     rw [hrs i hlt]
     simp -dsimp only [go_sem,x1]
     exact⟨a.length-(i+1),by omega,i+1,rfl,by omega,rfl⟩
   · simp -dsimp only [go_sem]
     refine Q0a ?_
     simp -dsimp only [go_sem]
     refine(Y2x s t _ hs ht).mono ?_
     rintro r st' ⟨rfl,rfl⟩
     simp -dsimp only [go_sem]
end Go.Pv
end
