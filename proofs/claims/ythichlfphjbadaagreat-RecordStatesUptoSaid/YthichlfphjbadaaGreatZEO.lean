/- Parts of the walk: N131. -/
import Derived.Test.YthichlfphjbadaaGreatZEJ
import Derived.Test.YthichlfphjbadaaGreatZEK
import Derived.Test.YthichlfphjbadaaGreatZEH
import Derived.Test.YthichlfphjbadaaGreatZR
set_option linter.unusedVariables false
set_option linter.unusedSimpArgs false
section
/-What the laws of layer 23 know beforehand;light boxes. -/
set_option maxRecDepth 100000
namespace Go.Pv
open Go.Proofs
def k23S :Sg:=⟨1,1,default,kOne,[default]⟩
def k23U :Sx:=⟨0,default,kOne,⟨[kOne],[[kOne]],[default]⟩⟩
theorem x2x :K0y k23S=true:=by decide+kernel
theorem Y2n :Q0z k23U=true:=by decide+kernel
theorem x2w :wS k23S:=by
 refine⟨H2t (by decide),H2t (by decide),by decide,fun i hi=> ?_⟩
 have:i=0:=by have:k23S.box.length=1:=rfl
              omega
 subst this
 exact⟨H2t (by decide),H2t (by decide)⟩
theorem k23B :(segB k23S).1= [1,1,0,2,0,1,0,0,0,0,0,0,0,1,0,0]:=by
 rw [segB,if_pos x2x]
 have h0:numB default= [0]:=by
  rw [numB,if_pos (by decide),show J0c default=0 from rfl,K0b (by omega)];rfl
 have h1:numB kOne= [2,0,1,0,0,0,0,0,0,0]:=by
  rw [numB,if_pos Q4k,show J0c kOne=2 from rfl,K0b (by omega),if_neg (by decide),show zig kOne.exp=0 from rfl,K0b (by omega)]
  decide
 have h2:boxB [default]= [1,0,0]:=by
  rw [boxB,if_pos (by decide+kernel),show([default]:List Ivl).length=1 from rfl,K0b (by omega),List.flatMap_cons,List.flatMap_nil,List.append_nil,ivB,if_pos (by decide)]
  show _++(numB default++numB default)=_
  rw [h0];rfl
 show uvar 1++(uvar 1++(numB default++(numB kOne++boxB [default])))=_
 rw [h0,h1,h2,K0b (by omega)]
 rfl
theorem G3o :segR []=(default,10):=by decide+kernel
set_option maxHeartbeats 1000000 in
theorem Y2l (st:Q0g):PCalls Tryz.prog 8 [] st (fun r st'=>r= .sc (.bool true)∧st'=st):=by
 have hU:=H1k Y2n
 have e1:segR (segB k23S).1=(k23S,0):=q2e k23S x2x
 have e2:stR (stB k23U).1=(k23U,0):=Q3r k23U Y2n
 have e3:(segB k23S).2=0:=by rw [segB,if_pos x2x]
 have e4:(stB k23U).2=0:=by rw [stB,if_pos Y2n]
 have hlen:(stB k23U).1.length≤1000000000000:=by
  rw [stB,if_pos Y2n]
  have a1:=Z0l (v:=k23U.idx.toNat) (by decide)
  have a2:=X0f k23U.t
  have a3:=X0f k23U.h
  have a4:=Z0l (v:=k23U.f.m.length) (by decide)
  have a5:=W0t k23U.f.m
  have a6:=V0j (m:=1) k23U.f.a (by intro i hi;have:i=0:=by { have:k23U.f.a.length=1:=rfl;omega };subst this;decide)
  have a7:=k2n k23U.f.r
  have b1:k23U.f.m.length=1:=rfl
  have b2:k23U.f.a.length=1:=rfl
  have b3:k23U.f.r.length=1:=rfl
  simp only [List.length_append]
  omega
 refine Q0b none Tryz.func8 rfl fun E=>Q0h (Q0a ?_)
 simp -dsimp only [go_sem]
 refine Q0h (Q0a ?_)
 simp -dsimp only [go_sem]
 refine Q0h (Q0a ?_)
 simp -dsimp only [go_sem]
 refine Q0h (Q0a ?_)
 simp -dsimp only [go_sem]
 refine(q2t k23S st x2w).mono ?_
 rintro r st ⟨rfl,rfl⟩
 rw [e3]
 simp -dsimp only [go_sem]
 refine Q0h (Q0a ?_)
 simp -dsimp only [go_sem]
 refine(y0s (segB k23S).1 st (by rw [k23B];decide)).mono ?_
 rintro r st ⟨rfl,rfl⟩
 rw [e1]
 simp -dsimp only [go_sem]
 refine Q0h (Q0a ?_)
 simp -dsimp only [go_sem]
 refine Q0h (Q0a ?_)
 simp -dsimp only [go_sem]
 refine(w0o k23U st hU).mono ?_
 rintro r st ⟨rfl,rfl⟩
 rw [e4]
 simp -dsimp only [go_sem]
 refine Q0h (Q0a ?_)
 simp -dsimp only [go_sem]
 refine(K1n (stB k23U).1 st hlen).mono ?_
 rintro r st ⟨rfl,rfl⟩
 rw [e2]
 simp -dsimp only [go_sem]
 refine Q0h (Q0a ?_)
 simp -dsimp only [go_sem]
 refine(y0s [] st (by simp)).mono ?_
 rintro r st ⟨rfl,rfl⟩
 rw [G3o]
 simp -dsimp only [go_sem]
 refine Q0a ?_
 simp -dsimp only [go_sem]
 rw [k23B]
 have hself:(([1,1,0,2,0,1,0,0,0,0,0,0,0,1,0,0]:List UInt8)== [1,1,0,2,0,1,0,0,0,0,0,0,0,1,0,0])=true:=beq_self_eq_true _
 have d1:decide (k23S=k23S)=true:=decide_eq_true rfl
 have d2:decide (k23U=k23U)=true:=decide_eq_true rfl
 simp -dsimp only [go_sem,hself]
 have c1:PCalls Tryz.prog 25 [.agg (encS k23S),.agg (encS k23S)] st (fun r st'=>r= .sc (.bool (decide (k23S=k23S)))∧st'=st):=K2v k23S k23S st x2w x2w
 refine c1.mono ?_
 rintro r st ⟨rfl,rfl⟩
 simp -dsimp only [go_sem,hself,d1]
 have c2:PCalls Tryz.prog 14 [.agg (encS k23S)] st (fun r st'=>r= .sc (.bool (K0y k23S))∧st'=st):=w0h k23S st x2w
 refine c2.mono ?_
 rintro r st ⟨rfl,rfl⟩
 rw [x2x]
 simp -dsimp only [go_sem,hself,d1]
 have c3:PCalls Tryz.prog 20 [.agg (J0h k23U)] st (fun r st'=>r= .sc (.bool (Q0z k23U))∧st'=st):=Y0f k23U st hU
 refine c3.mono ?_
 rintro r st ⟨rfl,rfl⟩
 rw [Y2n]
 simp -dsimp only [go_sem,hself,d1]
 have c4:PCalls Tryz.prog 27 [.agg (J0h k23U),.agg (J0h k23U)] st (fun r st'=>r= .sc (.bool (decide (k23U=k23U)))∧st'=st):=j1c k23U k23U st hU hU
 refine c4.mono ?_
 rintro r st ⟨rfl,rfl⟩
 simp -dsimp only [go_sem,hself,d1,d2]
theorem Y2g (l:List Ivl) (st:Q0g) (hl:l.length≤100000000000) (hw:wB l):PCalls Tryz.prog 9 [.sl .no (Q0t l)] st (fun r st'=> ∃b,r= .sc (.bool b)∧st'=st):=by
 refine Q0b none Tryz.func9 rfl fun E=>Q0a ?_
 simp -dsimp only [go_sem]
 refine ck (fun h1=> ?_) (fun h1=> ?_)
 · simp -dsimp only [go_sem]
   exact⟨_,rfl⟩
 simp -dsimp only [go_sem]
 refine Q0e [true,false,false,true] 0 0 (fun n s=> ∃k,n=l.length-k∧k≤l.length∧s=⟨[.sl .no (Q0t l),.junk,.junk,.sc (.int .i64 (k:Nat))]++List.replicate 27 .junk,[],[],st⟩) l.length ?_ ?_
 · simp -dsimp only [go_sem]
   exact⟨0,by omega,by omega,rfl⟩
 · rintro n s ⟨k,rfl,hk,rfl⟩
   simp -dsimp only [go_sem]
   refine ck (fun h6=> ?_) (fun h6=> ?_)
   · have hlt:k<l.length:=by have:=of_decide_eq_true h6;omega
     have g1:=J0e l k hlt
     have x1:=Y0r k (by omega)
     simp -dsimp only [go_sem,g1]
     refine⟨by omega,?_⟩
     refine gkF (fun h7=> ?_) (fun h7=> ?_)
     rotate_left
     · simp -dsimp only [go_sem,h7]
       exact⟨_,rfl⟩
     simp -dsimp only [go_sem,h7,g1]
     refine⟨by omega,?_⟩
     refine ck (fun h8=> ?_) (fun h8=> ?_)
     · simp -dsimp only [go_sem]
       exact⟨_,rfl⟩
     simp -dsimp only [go_sem,x1]
     exact⟨l.length-(k+1),by omega,k+1,rfl,by omega,rfl⟩
   · simp -dsimp only [go_sem]
     refine Q0a ?_
     simp -dsimp only [go_sem]
     exact⟨_,rfl⟩
end Go.Pv
end
