/- Parts of the walk: N133. -/
import Derived.Test.YthichlfphjbadaaGreatZEO
import Derived.Test.YthichlfphjbadaaGreatZM
import Derived.Test.YthichlfphjbadaaGreatZEN
set_option linter.unusedVariables false
set_option linter.unusedSimpArgs false
section
/-The walks of RecordStates and RecordBack. -/
set_option maxRecDepth 100000
namespace Go.Pv
open Go.Proofs
set_option maxHeartbeats 2000000 in
theorem K1m (s:Sx) (l:List UInt64) (hs:wSx s):PCalls Tryz.prog 4 [.agg (J0h s),.sl .no (encW l)] [] (fun r st'=>r= .sc (.bool true)):=by
 obtain⟨wt,wh,wf⟩:=hs
 have hs:wSx s:=⟨wt,wh,wf⟩
 have hml:=wf.1.1
 have hal:=wf.2.1.1
 have hrl:=wf.2.2.1
 unfold wN at wt wh
 refine Q0b none Tryz.func4 rfl fun E=>Q0h (Q0a ?_)
 simp -dsimp only [go_sem]
 refine Q0h (Q0a ?_)
 simp -dsimp only [go_sem]
 refine(Y2l _).mono ?_
 rintro r st ⟨rfl,rfl⟩
 simp -dsimp only [go_sem]
 refine Q0h (Q0a ?_)
 simp -dsimp only [go_sem]
 refine Z0y [false,true,true] 2 0 (fun q=>q=⟨[.junk,.sl .no (encW l),.lp 0 0]++List.replicate 115 .junk,[J0h s,G0a s.f],[],[]⟩) ?_ ?_
 · simp -dsimp only [go_sem]
   refine gkF (fun h1=> ?_) (fun h1=> ?_)
   rotate_left
   · simp -dsimp only [go_sem,h1]
   simp -dsimp only [go_sem,h1]
   refine gkF (fun h2=> ?_) (fun h2=> ?_)
   rotate_left
   · simp -dsimp only [go_sem,h1,h2]
   simp -dsimp only [go_sem,h1,h2]
   refine(Y2g s.f.r _ hrl wf.2.2).mono ?_
   rintro r st ⟨b,rfl,rfl⟩
   cases b with
   | false=>simp -dsimp only [go_sem,h1,h2]
   | true=>
    simp -dsimp only [go_sem,h1,h2]
    refine gkF (fun h3=> ?_) (fun h3=> ?_)
    rotate_left
    · simp -dsimp only [go_sem,h1,h2,h3]
    simp -dsimp only [go_sem,h1,h2,h3]
    refine ck (fun h4=> ?_) (fun h4=> ?_)
    · simp -dsimp only [go_sem]
    · simp -dsimp only [go_sem]
 rintro q rfl
 refine Q0h (Q0a ?_)
 simp -dsimp only [go_sem]
 have r1: ∀st,PCalls Tryz.prog 15 [.agg (J0h s)] st (fun r st'=>r= .tup [.sl .no (encB (stB s).1),.sc (.int .i64 (stB s).2)]∧st'=st):=fun st=>w0o s st hs
 have r2: ∀st,PCalls Tryz.prog 16 [.agg (J0h s)] st (fun r st'=>r= .tup [.sl .no (encB (stB s).1),.sc (.int .i64 (stB s).2)]∧st'=st):=fun st=>V1n s st hs
 have r3: ∀st,PCalls Tryz.prog 20 [.agg (J0h s)] st (fun r st'=>r= .sc (.bool (Q0z s))∧st'=st):=fun st=>Y0f s st hs
 have r4: ∀st,PCalls Tryz.prog 21 [.agg (J0h s)] st (fun r st'=>r= .sc (.bool (Q0z s))∧st'=st):=fun st=>U0n s st hs
 refine(r1 _).mono ?_
 rintro r st' ⟨rfl,rfl⟩
 simp -dsimp only [go_sem]
 refine Q0h (Q0a ?_)
 simp -dsimp only [go_sem]
 refine(r2 _).mono ?_
 rintro r st' ⟨rfl,rfl⟩
 simp -dsimp only [go_sem]
 refine Q0h (Q0a ?_)
 simp -dsimp only [go_sem]
 refine(k2b l _).mono ?_
 rintro r st' ⟨rfl,rfl⟩
 simp -dsimp only [go_sem]
 refine Q0h (Q0a ?_)
 simp -dsimp only [go_sem]
 refine(X4e l 0 0 [dk l 0] rfl (by omega)).mono ?_
 rintro r st' ⟨n,hn1,hn2,rfl,rfl⟩
 simp -dsimp only [go_sem]
 refine(k1t l 1 0 n 2 2 [dk l 1] rfl (by omega) hn1 hn2 (by omega) (by omega)).mono ?_
 rintro r st' ⟨f,j1,hf,hj1,hj2,rfl,rfl⟩
 have wff:=hf.wF hn2 (by omega)
 simp -dsimp only [go_sem]
 refine(G1f l j1 0 n f [dk l j1] rfl (by omega) hn1 hn2 hf).mono ?_
 rintro r st' ⟨p,j2,hp,rfl,hj3,hj4,rfl,rfl⟩
 simp -dsimp only [go_sem]
 refine Q0h (Q0a ?_)
 simp -dsimp only [go_sem]
 have r0:PCalls Tryz.prog 19 [.gp 0 0,.agg (K1s p)] [dk l j2] (fun r st'=> ∃s j,Q0z s=true∧s.f.m.length=n∧j2≤j∧j≤j2+300∧r= .agg (J0h s)∧st'= [dk l j2].set 0 (dk l j)):=
  k1r l j2 0 n p [dk l j2] rfl (by omega) hn1 hn2 hp wff
 refine r0.mono ?_
 rintro r st' ⟨u,j3,hu,hum,hj5,hj6,rfl,rfl⟩
 have wu:=H1k hu
 have q1: ∀st,PCalls Tryz.prog 15 [.agg (J0h u)] st (fun r st'=>r= .tup [.sl .no (encB (stB u).1),.sc (.int .i64 (stB u).2)]∧st'=st):=fun st=>w0o u st wu
 have q2: ∀st,PCalls Tryz.prog 16 [.agg (J0h u)] st (fun r st'=>r= .tup [.sl .no (encB (stB u).1),.sc (.int .i64 (stB u).2)]∧st'=st):=fun st=>V1n u st wu
 have q3: ∀st,PCalls Tryz.prog 20 [.agg (J0h u)] st (fun r st'=>r= .sc (.bool (Q0z u))∧st'=st):=fun st=>Y0f u st wu
 have q4: ∀st,PCalls Tryz.prog 21 [.agg (J0h u)] st (fun r st'=>r= .sc (.bool (Q0z u))∧st'=st):=fun st=>U0n u st wu
 simp -dsimp only [go_sem]
 refine Q0h (Q0a ?_)
 simp -dsimp only [go_sem]
 refine(q1 _).mono ?_
 rintro r st' ⟨rfl,rfl⟩
 simp -dsimp only [go_sem]
 refine Q0h (Q0a ?_)
 simp -dsimp only [go_sem]
 refine(q2 _).mono ?_
 rintro r st' ⟨rfl,rfl⟩
 simp -dsimp only [go_sem]
 have b1:((stB s).2==(stB s).2)=true:=beq_self_eq_true _
 have b2:((stB s).1==(stB s).1)=true:=beq_self_eq_true _
 have b3:(Q0z s==Q0z s)=true:=beq_self_eq_true _
 have b4:((stB u).2==(stB u).2)=true:=beq_self_eq_true _
 have b5:((stB u).1==(stB u).1)=true:=beq_self_eq_true _
 have b6:(Q0z u==Q0z u)=true:=beq_self_eq_true _
 refine Q0a ?_
 simp -dsimp only [go_sem]
 refine Q0m Z0t 118 (.step 0 [] (.step 1 [] (.step 2 [] (.step 3 [] (.step 4 [] (.step 5 [] (.step 6 [] (.step 7 [] (.step 8 [] (.step 9 [] (.step 10 [] (.step 11 [] (.step 13 [] (.step 12 [13] (.step 14 [] (.step 15 [] (.step 16 [] (.step 17 [] (.step 18 [] (.step 19 [] (.step 20 [] (.step 21 [] (.step 22 [] (.step 23 [] (.step 24 [] (.step 25 [] (.step 26 [] (.step 27 [] (.step 28 [] (.step 29 [] (.step 30 [] (.step 32 [] (.step 31 [11,13,32] (.step 33 [11,13] (.step 34 [] (.step 35 [] (.step 36 [] (.done)))))))))))))))))))))))))))))))))))))) (by decide+kernel) (by simp) ?_
 simp -dsimp only [go_sem,b1,b2]
 refine(r3 _).mono ?_
 rintro r st' ⟨rfl,rfl⟩
 simp -dsimp only [go_sem,b1,b2]
 refine(r4 _).mono ?_
 rintro r st' ⟨rfl,rfl⟩
 simp -dsimp only [go_sem,b1,b2,b3,b4,b5]
 refine(q3 _).mono ?_
 rintro r st' ⟨rfl,rfl⟩
 simp -dsimp only [go_sem,b1,b2,b3,b4,b5]
 refine(q4 _).mono ?_
 rintro r st' ⟨rfl,rfl⟩
 simp -dsimp only [go_sem,b1,b2,b3,b4,b5,b6]
end Go.Pv
end
