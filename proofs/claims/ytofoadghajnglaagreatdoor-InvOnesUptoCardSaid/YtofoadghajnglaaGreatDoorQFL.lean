/- Parts of the walk: N154. -/
import Derived.Test.YtofoadghajnglaaGreatDoorQFJ
import Derived.Test.YtofoadghajnglaaGreatDoorQFI
import Derived.Test.YtofoadghajnglaaGreatDoorQAR
set_option linter.unusedVariables false
set_option linter.unusedSimpArgs false
section
/-Layer 8:both,light,known. -/
set_option maxRecDepth 100000
namespace Go.Pv
open Go.Proofs
theorem X2n {a:List (List Nm)} {p:Int} (h:(J0d a p).2=0):rightM (J0d a p).1=true:=by
 obtain⟨⟨-,h1,h4, -⟩,hl, -,hs⟩:=W1m h
 refine rightM_iff.2 ⟨fun i hi=> ?_,by omega,by omega⟩
 rw [hl] at hi⊢
 refine⟨(hs i hi).1,k0i (fun j hj=> ?_) (by rw [(hs i hi).1];omega) (by rw [(hs i hi).1];omega)⟩
 rw [(hs i hi).1] at hj
 exact((hs i hi).2 j hj).1
theorem X2m (a:List (List Nm)) (p:Int):wM (J0d a p).1:=by
 by_cases h:(J0d a p).2=0
 · exact J1h (X2n h)
 · rw [q1s h];exact⟨by simp,fun i hi=>by simp at hi⟩
def V2e :Nm:=⟨false,1,[1]⟩
def K0i :Nm:=⟨false, -1,[1]⟩
theorem k8a :Q0n [[V2e]] 16=([[K0i]],0):=by decide+kernel
theorem k8b :J0d [[V2e]] 16=([[⟨K0i,K0i⟩]],0):=by decide+kernel
theorem k8c :J0d [[default]] 16=([],3):=by decide+kernel
theorem k8h :hasI ⟨K0i,K0i⟩ K0i=true:=by decide+kernel
theorem k8w (x:Nm) (h:Q0i x=true):wQs [[x]]:=⟨by simp,fun i hi=>by
 have:i=0:=by simpa using hi
 subst this
 refine⟨by simp,fun j hj=> ?_⟩
 have:j=0:=by simpa using hj
 subst this
 exact Q0x h⟩
set_option maxHeartbeats 1000000 in
theorem V2c (st:Q0c):PCalls Tryz.prog 13 [] st (fun r st'=>r= .sc (.bool true)∧st'=st):=by
 have c1:=H0d [[V2e]] 16 st (k8w _ (by decide))
 have c2:=v0g [[V2e]] 16 st (k8w _ (by decide))
 have c3:=v0g [[default]] 16 st (k8w _ (by decide))
 rw [k8a] at c1
 rw [k8b] at c2
 rw [k8c] at c3
 refine Q0b none Tryz.func13 rfl fun E=>Q0a ?_
 simp -dsimp only [go_sem]
 refine c1.mono ?_
 rintro res st' ⟨rfl,rfl⟩
 simp -dsimp only [go_sem]
 refine c2.mono ?_
 rintro res st' ⟨rfl,rfl⟩
 simp -dsimp only [go_sem]
 refine c3.mono ?_
 rintro res st' ⟨rfl,rfl⟩
 simp -dsimp only [go_sem]
 have z0:((0:Int)==0)=true:=rfl
 have z1:(((1:Nat):Int)==1)=true:=rfl
 have z2:((-1:Int)== -1)=true:=rfl
 have z3:((3:Int)==3)=true:=rfl
 have e1:(encQ [[K0i]]).getD 0 .junk= .sl .no (Z0f [K0i]):=rfl
 have e2:(Z0f [K0i]).getD 0 .junk= .agg (encN ⟨false, -1,[1]⟩):=rfl
 have e3:(encM [[(⟨K0i,K0i⟩:Ivl)]]).getD 0 .junk= .sl .no (Z0e [⟨K0i,K0i⟩]):=rfl
 have e4:(Z0e [(⟨K0i,K0i⟩:Ivl)]).getD 0 .junk= .agg (encI ⟨⟨false, -1,[1]⟩,⟨false, -1,[1]⟩⟩):=rfl
 refine Q0q X0b 87 (.step 0 [] (.step 1 [] (.step 2 [] (.step 3 [] (.step 4 [] (.step 5 [] (.step 6 [] (.step 7 [] (.step 8 [] (.step 9 [] (.step 10 [] (.step 11 [] (.step 12 [] (.step 13 [] (.step 14 [] (.step 15 [] (.step 16 [] (.step 17 [] (.step 18 [] (.step 19 [] (.step 20 [] (.step 21 [] (.step 22 [] (.step 23 [] (.step 24 [] (.step 25 [] (.step 26 [] (.step 27 [] (.step 28 [] (.step 29 [] (.step 30 [] (.step 31 [] (.step 32 [] (.step 33 [] (.step 34 [] (.step 35 [] (.step 36 [] (.step 37 [] (.step 38 [] (.step 39 [] (.step 40 [] (.step 41 [] (.step 42 [] (.step 43 [] (.step 44 [] (.step 45 [] (.step 46 [] (.step 47 [] (.step 48 [] (.step 49 [] (.step 50 [] (.step 51 [] (.step 52 [] (.step 53 [] (.step 54 [18,25,28,39] (.step 55 [] (.step 56 [] (.done)))))))))))))))))))))))))))))))))))))))))))))))))))))))))) (by decide+kernel) (by simp) ?_
 simp -dsimp only [go_sem,z0,z1,z2,z3,e1,e2,e3,e4]
 refine(z2r ⟨K0i,K0i⟩ K0i _ ⟨Q0x (by decide),Q0x (by decide)⟩ (Q0x (by decide))).mono ?_
 rintro res st' ⟨rfl,rfl⟩
 rw [k8h]
 simp -dsimp only [go_sem,z0,z1,z2,z3,e1,e2,e3,e4]
end Go.Pv
end
