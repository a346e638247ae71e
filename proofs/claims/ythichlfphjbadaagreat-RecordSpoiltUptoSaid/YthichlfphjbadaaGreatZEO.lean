/- Parts of the walk: N131, N132. -/
import Derived.Test.YthichlfphjbadaaGreatZEJ
import Derived.Test.YthichlfphjbadaaGreatZEK
import Derived.Test.YthichlfphjbadaaGreatZEL
import Derived.Test.YthichlfphjbadaaGreatZR
set_option linter.unusedVariables false
set_option linter.unusedSimpArgs false
section
/-What the laws of layer 23 know beforehand;light boxes. -/
set_option maxRecDepth 100000
namespace Go.Pv
open Go.Proofs
def k23S :Sg:=⟨1,1,default,kOne,[default]⟩
def k23U :Sx:=⟨0,default,kOne,⟨[kOne],[[kOne]],[default]⟩⟩
theorem v2j :X0d k23S=true:=by decide+kernel
theorem G2r :Z0g k23U=true:=by decide+kernel
theorem v2i :wS k23S:=by
 refine⟨q1p (by decide),q1p (by decide),by decide,fun i hi=> ?_⟩
 have:i=0:=by have:k23S.box.length=1:=rfl
              omega
 subst this
 exact⟨q1p (by decide),q1p (by decide)⟩
theorem k23B :(segB k23S).1= [1,1,0,2,0,1,0,0,0,0,0,0,0,1,0,0]:=by
 rw [segB,if_pos v2j]
 have h0:numB default= [0]:=by
  rw [numB,if_pos (by decide),show V0p default=0 from rfl,K0z (by omega)];rfl
 have h1:numB kOne= [2,0,1,0,0,0,0,0,0,0]:=by
  rw [numB,if_pos X4s,show V0p kOne=2 from rfl,K0z (by omega),if_neg (by decide),show zig kOne.exp=0 from rfl,K0z (by omega)]
  decide
 have h2:boxB [default]= [1,0,0]:=by
  rw [boxB,if_pos (by decide+kernel),show([default]:List Ivl).length=1 from rfl,K0z (by omega),List.flatMap_cons,List.flatMap_nil,List.append_nil,ivB,if_pos (by decide)]
  show _++(numB default++numB default)=_
  rw [h0];rfl
 show uvar 1++(uvar 1++(numB default++(numB kOne++boxB [default])))=_
 rw [h0,h1,h2,K0z (by omega)]
 rfl
theorem q3x :segR []=(default,10):=by decide+kernel
set_option maxHeartbeats 1000000 in
theorem x1y (st:Q0g):PCalls Tryz.prog 8 [] st (fun r st'=>r= .sc (.bool true)∧st'=st):=by
 have hU:=z0f G2r
 have e1:segR (segB k23S).1=(k23S,0):=G1j k23S v2j
 have e2:stR (stB k23U).1=(k23U,0):=k1y k23U G2r
 have e3:(segB k23S).2=0:=by rw [segB,if_pos v2j]
 have e4:(stB k23U).2=0:=by rw [stB,if_pos G2r]
 have hlen:(stB k23U).1.length≤1000000000000:=by
  rw [stB,if_pos G2r]
  have a1:=Z0x (v:=k23U.idx.toNat) (by decide)
  have a2:=X0f k23U.t
  have a3:=X0f k23U.h
  have a4:=Z0x (v:=k23U.f.m.length) (by decide)
  have a5:=H0r k23U.f.m
  have a6:=Y0m (m:=1) k23U.f.a (by intro i hi;have:i=0:=by { have:k23U.f.a.length=1:=rfl;omega };subst this;decide)
  have a7:=q1a k23U.f.r
  have b1:k23U.f.m.length=1:=rfl
  have b2:k23U.f.a.length=1:=rfl
  have b3:k23U.f.r.length=1:=rfl
  simp only [List.length_append]
  omega
 refine Q0b none Tryz.func8 rfl fun E=>Q0h (Q0a ?_)
 simp -dsimp only [go_sem]
 refine Q0h (Q0a ?_)
 simp -dsimp only [go_sem]
 refine Q0h (Q0a ?_)
 simp -dsimp only [go_sem]
 refine Q0h (Q0a ?_)
 simp -dsimp only [go_sem]
 refine(Z1n k23S st v2i).mono ?_
 rintro r st ⟨rfl,rfl⟩
 rw [e3]
 simp -dsimp only [go_sem]
 refine Q0h (Q0a ?_)
 simp -dsimp only [go_sem]
 refine(Y0q (segB k23S).1 st (by rw [k23B];decide)).mono ?_
 rintro r st ⟨rfl,rfl⟩
 rw [e1]
 simp -dsimp only [go_sem]
 refine Q0h (Q0a ?_)
 simp -dsimp only [go_sem]
 refine Q0h (Q0a ?_)
 simp -dsimp only [go_sem]
 refine(x0w k23U st hU).mono ?_
 rintro r st ⟨rfl,rfl⟩
 rw [e4]
 simp -dsimp only [go_sem]
 refine Q0h (Q0a ?_)
 simp -dsimp only [go_sem]
 refine(Y0h (stB k23U).1 st hlen).mono ?_
 rintro r st ⟨rfl,rfl⟩
 rw [e2]
 simp -dsimp only [go_sem]
 refine Q0h (Q0a ?_)
 simp -dsimp only [go_sem]
 refine(Y0q [] st (by simp)).mono ?_
 rintro r st ⟨rfl,rfl⟩
 rw [q3x]
 simp -dsimp only [go_sem]
 refine Q0a ?_
 simp -dsimp only [go_sem]
 rw [k23B]
 have hself:(([1,1,0,2,0,1,0,0,0,0,0,0,0,1,0,0]:List UInt8)== [1,1,0,2,0,1,0,0,0,0,0,0,0,1,0,0])=true:=beq_self_eq_true _
 have d1:decide (k23S=k23S)=true:=decide_eq_true rfl
 have d2:decide (k23U=k23U)=true:=decide_eq_true rfl
 simp -dsimp only [go_sem,hself]
 have c1:PCalls Tryz.prog 25 [.agg (encS k23S),.agg (encS k23S)] st (fun r st'=>r= .sc (.bool (decide (k23S=k23S)))∧st'=st):=q1v k23S k23S st v2i v2i
 refine c1.mono ?_
 rintro r st ⟨rfl,rfl⟩
 simp -dsimp only [go_sem,hself,d1]
 have c2:PCalls Tryz.prog 14 [.agg (encS k23S)] st (fun r st'=>r= .sc (.bool (X0d k23S))∧st'=st):=y0n k23S st v2i
 refine c2.mono ?_
 rintro r st ⟨rfl,rfl⟩
 rw [v2j]
 simp -dsimp only [go_sem,hself,d1]
 have c3:PCalls Tryz.prog 20 [.agg (J0v k23U)] st (fun r st'=>r= .sc (.bool (Z0g k23U))∧st'=st):=z0g k23U st hU
 refine c3.mono ?_
 rintro r st ⟨rfl,rfl⟩
 rw [G2r]
 simp -dsimp only [go_sem,hself,d1]
 have c4:PCalls Tryz.prog 27 [.agg (J0v k23U),.agg (J0v k23U)] st (fun r st'=>r= .sc (.bool (decide (k23U=k23U)))∧st'=st):=k0b k23U k23U st hU hU
 refine c4.mono ?_
 rintro r st ⟨rfl,rfl⟩
 simp -dsimp only [go_sem,hself,d1,d2]
end Go.Pv
end
section
/-The walks of RecordReads and RecordSegs. -/
set_option maxRecDepth 100000
namespace Go.Pv
open Go.Proofs
theorem Y2h {s:Sg} (h:X0d s=true):wS s:=by
 obtain⟨_,_,_,h4,h5,_,_,h8⟩:=Y0o h
 exact⟨Q0t h4,Q0t h5,J1c h8⟩
theorem X3d :wS default:=⟨q1p (by decide),q1p (by decide),by decide,fun i hi=>by simp [show(default:Sg).box= [] from rfl] at hi⟩
theorem H3h (b:List UInt8):wS (segR b).1:=by
 by_cases h:(segR b).2=0
 · exact Y2h (y1s b h).1
 · have:(segR b).1=default:=by
    unfold segR at h⊢
    simp only at h⊢
    split
    · rfl
    · rename_i h1
      rw [if_neg h1] at h
      split
      · rename_i h2
        rw [if_pos h2] at h
        exact absurd rfl h
      · rfl
   rw [this];exact X3d
theorem x2h :wSx default:=⟨q1p (by decide),q1p (by decide),⟨by decide,fun i hi=>by cases hi⟩,⟨by decide,fun i hi=>by cases hi⟩,⟨by decide,fun i hi=>by cases hi⟩⟩
theorem Z4l (b:List UInt8):wSx (stR b).1:=by
 by_cases h:(stR b).2=0
 · exact z0f (W2p b h).1
 · have:(stR b).1=default:=by
    rw [Q3b] at h⊢
    split
    · rfl
    · rename_i h1
      rw [if_neg h1] at h
      split
      · rfl
      · rename_i h2
        rw [if_neg h2] at h
        split
        · rfl
        · rename_i h3
          rw [if_neg h3] at h
          split
          · rename_i h4
            rw [if_pos h4] at h
            exact absurd rfl h
          · rfl
   rw [this];exact x2h
theorem Y2q (b:List UInt8) (st:Q0g) (hb:b.length≤1000000000000):PCalls Tryz.prog 22 [.sl .no (encB b)] st (fun r st'=>r= .sc (.bool true)∧st'=st):=by
 have ws:=H3h b
 have wt:=Z4l b
 refine Q0b none Tryz.func22 rfl fun E=>Q0h (Q0a ?_)
 simp -dsimp only [go_sem]
 refine Q0h (Q0a ?_)
 simp -dsimp only [go_sem]
 refine(Y0q b st hb).mono ?_
 rintro r st ⟨rfl,rfl⟩
 simp -dsimp only [go_sem]
 refine Q0h (Q0a ?_)
 simp -dsimp only [go_sem]
 refine(z1j b st hb).mono ?_
 rintro r st ⟨rfl,rfl⟩
 simp -dsimp only [go_sem]
 refine Q0h (Q0a ?_)
 simp -dsimp only [go_sem]
 refine(Y0h b st hb).mono ?_
 rintro r st ⟨rfl,rfl⟩
 simp -dsimp only [go_sem]
 refine Q0h (Q0a ?_)
 simp -dsimp only [go_sem]
 refine(V1z b st hb).mono ?_
 rintro r st ⟨rfl,rfl⟩
 simp -dsimp only [go_sem]
 have b1:((segR b).2==(segR b).2)=true:=beq_self_eq_true _
 have b2:((stR b).2==(stR b).2)=true:=beq_self_eq_true _
 have d1:decide ((segR b).1=(segR b).1)=true:=decide_eq_true rfl
 have d2:decide ((stR b).1=(stR b).1)=true:=decide_eq_true rfl
 refine Q0a ?_
 simp -dsimp only [go_sem,b1,b2]
 refine(z1i (segR b).1 (segR b).1 st ws ws).mono ?_
 rintro r st ⟨rfl,rfl⟩
 simp -dsimp only [go_sem,b1,b2,d1]
 refine(k0b (stR b).1 (stR b).1 st wt wt).mono ?_
 rintro r st ⟨rfl,rfl⟩
 simp -dsimp only [go_sem,b1,b2,d1,d2]
end Go.Pv
end
