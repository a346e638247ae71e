/- Parts of the walk: N17, N18, N19, N20, N21, N22, N24, N25. -/
import Derived.Test.YthichlfphjbadaaGreatZAE
import Derived.Test.YthichlfphjbadaaGreatZAA
import Derived.Test.YthichlfphjbadaaGreatZY
import Derived.Test.YthichlfphjbadaaGreatZH
import Derived.Test.YthichlfphjbadaaGreatZM
set_option linter.unusedVariables false
set_option linter.unusedSimpArgs false
section
/-The document's Wide,Mid,least,greatest,ends,Op. -/
set_option maxRecDepth 100000
namespace Go.Pv
open Go.Proofs
theorem q0d {v:Vl} {n k:Nat} (h:bdV n k v) (h1:n≤1000000000000) (h2:k≤100000000000):smV v:=⟨by have:=h.1;omega,by have:=h.2.1;omega,by have:=h.2.2;omega⟩
theorem q0m {x:Nm} (h:Q0f x=true):x.w.length≤1000000000000:=by have:=(Z1r h).1;omega
theorem w1h (p:Int) (st:Q0g):PCalls Tryz.prog 180 [.sc (.int .i64 p)] st (fun r st'=>r= .sc (.bool (Z0q p))∧st'=st):=by
 refine Q0b none Tryz.func180 rfl fun E=>Q0a ?_
 unfold Z0q
 by_cases h:8≤p
 · have f1:decide (p≥8)=true:=decide_eq_true h
   have f2:decide (8≤p)=true:=decide_eq_true h
   simp -dsimp only [go_sem,f1,f2]
   try simp
 · have f1:decide (p≥8)=false:=decide_eq_false h
   have f2:decide (8≤p)=false:=decide_eq_false h
   simp -dsimp only [go_sem,f1,f2]
   try simp
theorem q2o (a:Ivl) (p:Int) (st:Q0g) (ha:wI a):PCalls Tryz.prog 171 [.agg (encI a),.sc (.int .i64 p)] st (fun r st'=>r= .tup [.agg (encN (midI a p).1),.sc (.int .i64 (midI a p).2)]∧st'=st):=by
 refine Q0b none Tryz.func171 rfl fun E=>Q0a ?_
 simp -dsimp only [go_sem]
 refine(V0n a _ ha).mono ?_
 rintro r st ⟨rfl,rfl⟩
 cases r1:Q0l a with
 | false=>
  simp -dsimp only [go_sem]
  rw [midI,if_neg (by simp [r1])];rfl
 | true=>
  simp -dsimp only [go_sem]
  refine(w1h p _).mono ?_
  rintro r st ⟨rfl,rfl⟩
  cases r3:Z0q p with
  | false=>
   simp -dsimp only [go_sem]
   rw [midI,if_neg (by simp [r3])];rfl
  | true=>
   obtain⟨q,rfl,q1,q2,q3⟩:=q1j r3
   obtain⟨a1,a2,_⟩:=Q0x r1
   have hm:midI a q=if V0p (midV a q) (ofN a.lo)<0 then(a.lo,0) else numV (midV a q):=by rw [midI,if_pos ⟨r1,r3⟩,q3]
   rw [hm]
   simp -dsimp only [go_sem]
   refine w1f Z0t 46 [0,1,2,3,4,5,6] [7] [8] (.step 0 [] (.step 1 [] (.step 3 [] (.step 4 [] (.step 2 [4] (.step 5 [] (.step 6 [] (.done)))))))) (.step 8 [] (.done)) (by decide+kernel) (by simp) ?_
   have b1:=k0c a1
   have b2:=k0c a2
   have b3:=k2u (G1k b1 b2)
   have b4:=K1a b3 q false
   simp -dsimp only [go_sem]
   refine(of_c a.lo _ (q0m a1)).mono ?_
   rintro r st ⟨rfl,rfl⟩
   simp -dsimp only [go_sem]
   refine(of_c a.hi _ (q0m a2)).mono ?_
   rintro r st ⟨rfl,rfl⟩
   simp -dsimp only [go_sem]
   refine(w1m _ _ _ (q0d b1 (by omega) (by omega)) (q0d b2 (by omega) (by omega))).mono ?_
   rintro r st ⟨rfl,rfl⟩
   have e0:=G1k b1 b2
   have hv:midV a q=Z0h (y0a (J0p (ofN a.lo) (ofN a.hi))) q false:=rfl
   rw [hv]
   generalize J0p (ofN a.lo) (ofN a.hi)=v at*
   have x1:IntKind.i64.wrap (v.e-1)=v.e-1:=Q0p _ (by have:=e0.2.1;omega) (by have:=e0.2.2;omega)
   simp -dsimp only [go_sem]
   refine ck (fun h=> ?_) (fun h=> ?_)
   case' refine_1=>
    have h0:v.m≠0:=fun e=>by rw [e,Z0v] at h;cases h
    have hh:y0a v= { v with e:=v.e-1 } :=by rw [y0a,if_neg h0]
    rw [hh] at b3 b4⊢
    generalize hz:({ v with e:=v.e-1 } :Vl)=z at*
    have z1:v.neg=z.neg:=by rw [←hz]
    have z2:v.m=z.m:=by rw [←hz]
    have z3:v.e-1=z.e:=by rw [←hz]
    simp -dsimp only [go_sem,x1]
    rw [z1,z2,z3]
   case' refine_2=>
    have h0:v.m=0:=by
     have:=of_decide_eq_false h
     exact digitsOf_nil.1 (List.length_eq_zero_iff.1 (by omega))
    have hh:y0a v=v:=by rw [y0a,if_pos h0]
    rw [hh] at b3 b4⊢
    generalize v=z at*
    simp -dsimp only [go_sem]
   all_goals
    refine(j1e z q false _ (q0d b3 (by omega) (by omega)) (by omega)).mono ?_
    rintro r st ⟨rfl,rfl⟩
    generalize Z0h z q false=y at*
    simp -dsimp only [go_sem]
    refine Q0m Z0t 46 (.step 0 [] (.step 1 [] (.step 2 [] (.step 3 [0] (.step 4 [] (.step 5 [] (.done))))))) (by decide+kernel) (by simp) ?_
    simp -dsimp only [go_sem]
    refine(of_c a.lo _ (q0m a1)).mono ?_
    rintro r st ⟨rfl,rfl⟩
    simp -dsimp only [go_sem]
    refine(W2h _ _ _ (q0d b4 (by omega) (by omega)) (q0d b1 (by omega) (by omega))).mono ?_
    rintro r st ⟨rfl,rfl⟩
    simp -dsimp only [go_sem]
    refine ck (fun h=> ?_) (fun h=> ?_)
    · have hc:V0p y (ofN a.lo)<0:=of_decide_eq_true h
      rw [if_pos hc]
      simp -dsimp only [go_sem]
      try rfl
    · have hc: ¬V0p y (ofN a.lo)<0:=of_decide_eq_false h
      rw [if_neg hc]
      simp -dsimp only [go_sem]
      refine(Z1c y _ (H0i b4 (by omega))).mono ?_
      rintro r st ⟨rfl,rfl⟩
      simp -dsimp only [go_sem]
theorem J3h (lo hi:Vl) (st:Q0g) (h1:(Q0d lo.m).length≤1000000000000) (h2:(Q0d hi.m).length≤1000000000000):PCalls Tryz.prog 182 [.agg (encV lo),.agg (encV hi)] st
 (fun r st'=>r= .tup [.agg (encI (x0x lo hi).1),.sc (.int .i64 (x0x lo hi).2)]∧st'=st):=by
 refine Q0b none Tryz.func182 rfl fun E=>Q0a ?_
 unfold x0x
 simp -dsimp only [go_sem]
 refine(Z1c lo _ h1).mono ?_
 rintro r st ⟨rfl,rfl⟩
 simp -dsimp only [go_sem]
 refine(Z1c hi _ h2).mono ?_
 rintro r st ⟨rfl,rfl⟩
 by_cases c1:(numV lo).2=0
 · have f1:((numV lo).2 !=0)=false:=by rw [c1];rfl
   by_cases c2:(numV hi).2=0
   · have f2:((numV hi).2 !=0)=false:=by rw [c2];rfl
     rw [if_pos ⟨c1,c2⟩]
     simp -dsimp only [go_sem,f1,f2]
     try rfl
   · have f2:((numV hi).2 !=0)=true:=bne_iff_ne.2 c2
     rw [if_neg (fun h=>c2 h.2)]
     simp -dsimp only [go_sem,f1,f2]
     try rfl
 · have f1:((numV lo).2 !=0)=true:=bne_iff_ne.2 c1
   rw [if_neg (fun h=>c1 h.1)]
   simp -dsimp only [go_sem,f1]
   try rfl
end Go.Pv
end
section
/-The document's least,greatest,Op. -/
set_option maxRecDepth 100000
namespace Go.Pv
open Go.Proofs
theorem q2n (a b:Ivl) (p:Int) (st:Q0g) (ha:wI a) (hb:wI b):PCalls Tryz.prog 172 [.sc (.int .i64 1),.agg (encI a),.agg (encI b),.sc (.int .i64 p)] st (fun r st'=>r= .tup [.agg (encI (opI 1 a b p).1),.sc (.int .i64 (opI 1 a b p).2)]∧st'=st):=by
 refine Q0b none Tryz.func172 rfl fun E=>Q0a ?_
 simp -dsimp only [go_sem]
 refine(V0n a _ ha).mono ?_
 rintro r st ⟨rfl,rfl⟩
 cases r1:Q0l a with
 | false=>
  simp -dsimp only [go_sem]
  rw [opI,if_neg (by simp [r1])];rfl
 | true=>
  simp -dsimp only [go_sem]
  refine(V0n b _ hb).mono ?_
  rintro r st ⟨rfl,rfl⟩
  cases r2:Q0l b with
  | false=>
   simp -dsimp only [go_sem]
   rw [opI,if_neg (by simp [r2])];rfl
  | true=>
   simp -dsimp only [go_sem]
   refine(w1h p _).mono ?_
   rintro r st ⟨rfl,rfl⟩
   cases r3:Z0q p with
   | false=>
    simp -dsimp only [go_sem]
    rw [opI,if_neg (by simp [r3])];rfl
   | true=>
    obtain⟨q,rfl,q1,q2,q3⟩:=q1j r3
    obtain⟨a1,a2,_⟩:=Q0x r1
    obtain⟨b1,b2,_⟩:=Q0x r2
    have hm:opI 1 a b q=x0x (Z0h (loV 1 (ofN a.lo) (ofN a.hi) (ofN b.lo) (ofN b.hi)) q false) (Z0h (hiV 1 (ofN a.lo) (ofN a.hi) (ofN b.lo) (ofN b.hi)) q true):=by rw [opI,if_pos ⟨r1,r2,r3⟩,q3]
    rw [hm]
    have d1:=k0c a1
    have d2:=k0c a2
    have d3:=k0c b1
    have d4:=k0c b2
    simp -dsimp only [go_sem]
    refine w1f Z0t 110 [0,1,2,3,4,5,6,7,8,9,10,11] [12,13,14,15] [16,17,18,19] (.step 0 [] (.step 1 [] (.step 3 [] (.step 4 [] (.step 6 [] (.step 7 [] (.step 9 [] (.step 10 [] (.step 2 [4,7,10] (.step 5 [7,10] (.step 8 [10] (.step 11 [1] (.done))))))))))))) (.step 16 [4] (.step 17 [7] (.step 18 [] (.step 19 [] (.done))))) (by decide+kernel) (by simp) ?_
    simp -dsimp only [go_sem]
    refine(of_c a.lo _ (q0m a1)).mono ?_
    rintro r st ⟨rfl,rfl⟩
    simp -dsimp only [go_sem]
    refine(of_c a.hi _ (q0m a2)).mono ?_
    rintro r st ⟨rfl,rfl⟩
    simp -dsimp only [go_sem]
    refine(of_c b.lo _ (q0m b1)).mono ?_
    rintro r st ⟨rfl,rfl⟩
    simp -dsimp only [go_sem]
    refine(of_c b.hi _ (q0m b2)).mono ?_
    rintro r st ⟨rfl,rfl⟩
    generalize ofN a.lo=x at*
    generalize ofN a.hi=y at*
    generalize ofN b.lo=u at*
    generalize ofN b.hi=v at*
    simp -dsimp only [go_sem]
    rw [loV1,hiV1]
    refine Q0m Z0t 110 (.step 0 [] (.step 1 [] (.step 3 [] (.step 5 [] (.step 6 [] (.step 8 [] (.step 2 [5,6] (.step 4 [5,6] (.step 7 [] (.step 9 [0,1] (.step 10 [] (.step 11 [] (.step 12 [] (.step 13 [] (.step 14 [] (.done)))))))))))))))) (by decide+kernel) (by simp) ?_
    simp -dsimp only [go_sem]
    refine(Y2h _ _ _ (q0d d1 (by omega) (by omega)) (q0d d4 (by omega) (by omega))).mono ?_
    rintro r st ⟨rfl,rfl⟩
    have e1:=y1y d1 d4
    simp -dsimp only [go_sem]
    refine(j1e _ q false _ (q0d e1 (by omega) (by omega)) (by omega)).mono ?_
    rintro r st ⟨rfl,rfl⟩
    have e2:=K1a e1 q false
    simp -dsimp only [go_sem]
    refine(Y2h _ _ _ (q0d d2 (by omega) (by omega)) (q0d d3 (by omega) (by omega))).mono ?_
    rintro r st ⟨rfl,rfl⟩
    have e3:=y1y d2 d3
    simp -dsimp only [go_sem]
    refine(j1e _ q true _ (q0d e3 (by omega) (by omega)) (by omega)).mono ?_
    rintro r st ⟨rfl,rfl⟩
    have e4:=K1a e3 q true
    simp -dsimp only [go_sem]
    refine(J3h _ _ _ (H0i e2 (by omega)) (H0i e4 (by omega))).mono ?_
    rintro r st ⟨rfl,rfl⟩
    simp -dsimp only [go_sem]
end Go.Pv
end
section
/-The document's bad,Reckon,Scale,Has,In. -/
set_option maxRecDepth 100000
namespace Go.Pv
open Go.Proofs
theorem V1o (x:Nm) (k:Int) (st:Q0g) (hx:wN x):PCalls Tryz.prog 46 [.agg (encN x),.sc (.int .i64 k)] st (fun r st'=>r= .tup [.agg (encN (X0w x k).1),.sc (.int .i64 (X0w x k).2)]∧st'=st):=by
 unfold wN at hx
 refine Q0b none Tryz.func46 rfl fun E=>Q0a ?_
 simp -dsimp only [go_sem]
 refine(Z0m x _ (by omega)).mono ?_
 rintro r st ⟨rfl,rfl⟩
 cases r1:Q0f x with
 | false=>
  simp -dsimp only [go_sem]
  rw [X0w,if_neg (by rw [r1];simp)];rfl
 | true=>
  rw [X0w,if_pos r1]
  simp -dsimp only [go_sem]
  refine ck (fun h=> ?_) (fun h=> ?_)
  · have h0:x.w= []:=List.length_eq_zero_iff.1 (Y0z (b:=0) h)
    simp -dsimp only [go_sem]
    rw [if_pos h0]
  · have h0:x.w≠ []:=fun e=>by rw [e] at h;cases h
    have hb:=Z1r r1
    have b2:=hb.2.1
    have b3:=hb.2.2
    rw [if_neg h0]
    by_cases c1:131072<k
    · have f1:decide (k>131072)=true:=decide_eq_true c1
      simp -dsimp only [go_sem,f1]
      rw [if_pos (.inr c1)];rfl
    · have f1:decide (k>131072)=false:=decide_eq_false c1
      by_cases c2:k< -131072
      · have f2:decide (k< -131072)=true:=decide_eq_true c2
        simp -dsimp only [go_sem,f1,f2]
        rw [if_pos (.inl c2)];rfl
      · have f2:decide (k< -131072)=false:=decide_eq_false c2
        have x1:IntKind.i64.wrap (x.exp+k)=x.exp+k:=Q0p _ (by omega) (by omega)
        rw [if_neg (by omega)]
        simp -dsimp only [go_sem,f1,f2]
        refine Q0m Z0t 35 (.step 0 [] (.step 1 [] (.step 2 [] (.step 3 [] (.step 5 [] (.step 6 [] (.step 7 [] (.step 8 [] (.step 4 [1,6] (.step 9 [] (.step 10 [] (.step 11 [] (.step 12 [] (.step 13 [] (.step 14 [] (.done)))))))))))))))) (by decide+kernel) (by simp) ?_
        simp -dsimp only [go_sem,x1]
        refine(W2e x.w _ (by omega)).mono ?_
        rintro r st ⟨rfl,rfl⟩
        simp -dsimp only [go_sem,x1]
        have hd:=H0i (k0c r1) (by omega)
        refine(Z1c ⟨x.neg,valW x.w,x.exp+k⟩ _ hd).mono ?_
        rintro r st ⟨rfl,rfl⟩
        simp -dsimp only [go_sem]
theorem q2p (a:Ivl) (x:Nm) (st:Q0g) (ha:wI a) (hx:wN x):PCalls Tryz.prog 100 [.agg (encI a),.agg (encN x)] st (fun r st'=>r= .sc (.bool (hasI a x))∧st'=st):=by
 refine Q0b none Tryz.func100 rfl fun E=>Q0a ?_
 unfold hasI
 simp -dsimp only [go_sem]
 refine(V0n a _ ha).mono ?_
 rintro r st ⟨rfl,rfl⟩
 cases r1:Q0l a with
 | false=>simp -dsimp only [go_sem];try rfl
 | true=>
  simp -dsimp only [go_sem]
  refine(Z0m x _ (by unfold wN at hx;omega)).mono ?_
  rintro r st ⟨rfl,rfl⟩
  cases r2:Q0f x with
  | false=>simp -dsimp only [go_sem];try rfl
  | true=>
   have a1:=(Q0x r1).1
   have a2:=(Q0x r1).2.1
   have e1:cmpR a.lo x=cmpN a.lo x:=if_pos ⟨a1,r2⟩
   have e2:cmpR x a.hi=cmpN x a.hi:=if_pos ⟨r2,a2⟩
   simp -dsimp only [go_sem]
   refine(x0n a.lo x _ (q0m a1) (q0m r2)).mono ?_
   rintro r st ⟨rfl,rfl⟩
   rw [e1]
   cases c1:decide (cmpN a.lo x≤0) with
   | false=>simp -dsimp only [go_sem,c1];try rfl
   | true=>
    simp -dsimp only [go_sem,c1]
    refine(x0n x a.hi _ (q0m r2) (q0m a2)).mono ?_
    rintro r st ⟨rfl,rfl⟩
    rw [e2]
    simp -dsimp only [go_sem,c1]
    try rfl
end Go.Pv
end
section
/-The document's boxes:Points,HasPoint,InBox,MeetBox,OpBox,Times,MidBox. -/
set_option maxRecDepth 100000
namespace Go.Pv
open Go.Proofs
theorem w1g (p:Int) (st:Q0g):PCalls Tryz.prog 170 [.sc (.int .i64 p)] st (fun r st'=>r= .sc (.bool (Z0q p))∧st'=st):=by
 refine Q0b none Tryz.func170 rfl fun E=>Q0a ?_
 unfold Z0q
 by_cases h:8≤p
 · have f1:decide (p≥8)=true:=decide_eq_true h
   have f2:decide (8≤p)=true:=decide_eq_true h
   simp -dsimp only [go_sem,f1,f2]
   try simp
 · have f1:decide (p≥8)=false:=decide_eq_false h
   have f2:decide (8≤p)=false:=decide_eq_false h
   simp -dsimp only [go_sem,f1,f2]
   try simp
theorem z2m (q:List Nm) (st:Q0g) (hq:wNs q):PCalls Tryz.prog 142 [.sl .no (Q0w q)] st (fun r st'=>r= .sl (.fresh 6) (Q0t (ofB q))∧st'=st):=by
 obtain⟨hl,hw⟩:=hq
 refine Q0b none Tryz.func142 rfl fun E=>Q0a ?_
 simp -dsimp only [go_sem]
 refine X0k 3 6 ?_
 simp -dsimp only [go_sem]
 refine Q0e [true,false,false,true,true] 0 1
  (fun n s=> ∃i,n=q.length-i∧i≤q.length∧s=⟨[.sl .no (Q0w q),.junk,.junk,.sl (.own 0) (Q0t (ofB (q.take i))),.sc (.int .i64 (i:Nat))]++List.replicate 15 .junk,[],[((ofB (q.take i)).length,6)],st⟩) q.length ?_ ?_
 · simp -dsimp only [go_sem]
   exact⟨0,by omega,by omega,rfl⟩
 · rintro n s ⟨i,rfl,hi,rfl⟩
   simp -dsimp only [go_sem]
   refine ck (fun h'=> ?_) (fun h'=> ?_)
   · have hlt:i<q.length:=by have:=of_decide_eq_true h';omega
     have e1:=J0r q i hlt
     have e3:IntKind.i64.wrap ((i:Int)+1)=((i+1:Nat):Int):=by rw [Q0p _ (by omega) (by omega)];omega
     have ll:(ofB (q.take i)).length=i:=by simp [ofB];omega
     simp -dsimp only [go_sem,e1]
     refine⟨⟨by omega,hlt⟩,?_⟩
     refine(Z3n _ _).mono ?_
     rintro r st ⟨rfl,rfl⟩
     simp -dsimp only [go_sem,e3]
     refine⟨⟨by omega,by omega⟩,q.length-(i+1),by omega,i+1,rfl,by omega,?_⟩
     rw [z2z q i hlt]
     simp [Q0t,encI]
   · have hge:i=q.length:=by have:=of_decide_eq_false h';omega
     simp -dsimp only [go_sem]
     refine Q0a ?_
     simp -dsimp only [go_sem]
     rw [hge,List.take_length]
theorem z2t (a b:List Ivl) (p:Int) (st:Q0g) (ha:wB a) (hb:wB b):PCalls Tryz.prog 141 [.sc (.int .i64 1),.sl .no (Q0t a),.sl .no (Q0t b),.sc (.int .i64 p)] st (fun r st'=>r= .tup [.sl .no (Q0t (opB 1 a b p).1),.sc (.int .i64 (opB 1 a b p).2)]∧st'=st):=by
 refine Q0b none Tryz.func141 rfl fun E=>Q0a ?_
 simp -dsimp only [go_sem]
 refine(U0i a _ ha).mono ?_
 rintro r st ⟨rfl,rfl⟩
 cases r1:rightB a with
 | false=>
  simp -dsimp only [go_sem]
  rw [opB,if_neg (by simp [r1])];rfl
 | true=>
  simp -dsimp only [go_sem]
  refine(U0i b _ hb).mono ?_
  rintro r st ⟨rfl,rfl⟩
  cases r2:rightB b with
  | false=>
   simp -dsimp only [go_sem]
   rw [opB,if_neg (by simp [r2])];rfl
  | true=>
   by_cases hl:a.length=b.length
   · have f1:((a.length:Int) !=(b.length:Int))=false:=by rw [hl];simp
     simp -dsimp only [go_sem,f1]
     refine(w1g p _).mono ?_
     rintro r st ⟨rfl,rfl⟩
     cases r3:Z0q p with
     | false=>
      simp -dsimp only [go_sem,f1]
      rw [opB,if_neg (by simp [r3])];rfl
     | true=>
      have hla:=ha.1
      have hab:opB 1 a b p=W0k (fun i x=>opI 1 x (b.getD i default) p) 0 a []:=if_pos ⟨r1,r2,hl,r3⟩
      rw [hab]
      simp -dsimp only [go_sem,f1]
      refine X0k 10 6 ?_
      simp -dsimp only [go_sem]
      refine Q0e [true,true,true,true,false,false,false,false,false,false,true,true] 0 1 (fun n s=> ∃i o,n=a.length-i∧i≤a.length∧o.length=i∧W0k (fun i x=>opI 1 x (b.getD i default) p) 0 a []=W0k (fun i x=>opI 1 x (b.getD i default) p) i (a.drop i) o∧s=⟨[.sc (.int .i64 1),.sl .no (Q0t a),.sl .no (Q0t b),.sc (.int .i64 p),.junk,.junk,.junk,.junk,.junk,.junk,.sl (.own 0) (Q0t o),.sc (.int .i64 (i:Nat))]++List.replicate 50 .junk,[],[(o.length,6)],st⟩) a.length ?_ ?_
      · simp -dsimp only [go_sem]
        exact⟨0,[],by omega,by omega,rfl,rfl,rfl⟩
      · rintro n s ⟨i,o,rfl,hi,ho,hr,rfl⟩
        simp -dsimp only [go_sem]
        refine ck (fun h'=> ?_) (fun h'=> ?_)
        · have hlt:i<a.length:=by have:=of_decide_eq_true h';omega
          have e1:=J0e a i hlt
          have e2:=J0e b i (by omega)
          have e3:IntKind.i64.wrap ((i:Int)+1)=((i+1:Nat):Int):=by rw [Q0p _ (by omega) (by omega)];omega
          have e4:=W1y (fun i x=>opI 1 x (b.getD i default) p) a i o hlt
          simp -dsimp only [go_sem]
          refine Q0m Z0t 62 (.step 0 [] (.step 1 [] (.step 2 [] (.step 3 [] (.step 4 [] (.step 5 [] (.step 6 [] (.step 7 [] (.step 8 [] (.step 9 [] (.alt (.step 10 [] (.step 11 [] (.step 12 [] (.step 13 [] (.step 14 [4,8] (.step 15 [] (.step 16 [] (.done)))))))) (.step 14 [4,8] (.step 10 [] (.step 11 [] (.step 12 [] (.step 13 [] (.step 15 [] (.step 16 [] (.done))))))))))))))))))) (by decide+kernel) (by simp) ?_
          simp -dsimp only [go_sem,e1,e2]
          refine⟨⟨by omega,by omega⟩,⟨by omega,by omega⟩,?_,?_⟩
          all_goals
           refine(q2n _ _ p _ (ha.2 i hlt) (hb.2 i (by omega))).mono ?_
           rintro r st ⟨rfl,rfl⟩
           simp -dsimp only [go_sem,e1,e2]
           refine ck (fun h2=> ?_) (fun h2=> ?_)
           · have hne:=K1v h2
             simp -dsimp only [go_sem]
             rw [hr,e4,if_pos hne];rfl
           · have he:=G1s h2
             simp -dsimp only [go_sem,e3]
             refine⟨by omega,a.length-(i+1),by omega,i+1,o++ [(opI 1 (a.getD i default) (b.getD i default) p).1],rfl,by omega,by simp [ho],?_,?_⟩
             · rw [hr,e4,if_neg (fun hh=>hh he)]
             · simp [Q0t,encI]
        · have hge:i=a.length:=by have:=of_decide_eq_false h';omega
          simp -dsimp only [go_sem]
          refine Q0a ?_
          simp -dsimp only [go_sem]
          rw [hr,hge,List.drop_length];rfl
   · have f1:((a.length:Int) !=(b.length:Int))=true:=by rw [bne_iff_ne];omega
     simp -dsimp only [go_sem,f1]
     rw [opB,if_neg (fun h=>hl h.2.2.1)];rfl
theorem x2j (b:List Ivl) (p:Int) (st:Q0g) (hb:wB b):PCalls Tryz.prog 140 [.sl .no (Q0t b),.sc (.int .i64 p)] st (fun r st'=>r= .tup [.sl .no (Q0w (midB b p).1),.sc (.int .i64 (midB b p).2)]∧st'=st):=by
 refine Q0b none Tryz.func140 rfl fun E=>Q0a ?_
 simp -dsimp only [go_sem]
 refine(U0i b _ hb).mono ?_
 rintro r st ⟨rfl,rfl⟩
 cases r1:rightB b with
 | false=>
  simp -dsimp only [go_sem]
  rw [midB,if_neg (by simp [r1])];rfl
 | true=>
  simp -dsimp only [go_sem]
  refine(w1g p _).mono ?_
  rintro r st ⟨rfl,rfl⟩
  cases r3:Z0q p with
  | false=>
   simp -dsimp only [go_sem]
   rw [midB,if_neg (by simp [r3])];rfl
  | true=>
   have hla:=hb.1
   have hab:midB b p=W0k (fun _ a=>midI a p) 0 b []:=if_pos ⟨r1,r3⟩
   rw [hab]
   simp -dsimp only [go_sem]
   refine X0k 6 3 ?_
   simp -dsimp only [go_sem]
   refine Q0e [true,true,false,false,false,false,true,true] 0 1 (fun n s=> ∃i o,n=b.length-i∧i≤b.length∧o.length=i∧W0k (fun _ a=>midI a p) 0 b []=W0k (fun _ a=>midI a p) i (b.drop i) o∧s=⟨[.sl .no (Q0t b),.sc (.int .i64 p),.junk,.junk,.junk,.junk,.sl (.own 0) (Q0w o),.sc (.int .i64 (i:Nat))]++List.replicate 33 .junk,[],[(o.length,3)],st⟩) b.length ?_ ?_
   · simp -dsimp only [go_sem]
     exact⟨0,[],by omega,by omega,rfl,rfl,rfl⟩
   · rintro n s ⟨i,o,rfl,hi,ho,hr,rfl⟩
     simp -dsimp only [go_sem]
     refine ck (fun h'=> ?_) (fun h'=> ?_)
     · have hlt:i<b.length:=by have:=of_decide_eq_true h';omega
       have e1:=J0e b i hlt
       have e3:IntKind.i64.wrap ((i:Int)+1)=((i+1:Nat):Int):=by rw [Q0p _ (by omega) (by omega)];omega
       have e4:=W1y (fun _ a=>midI a p) b i o hlt
       simp -dsimp only [go_sem,e1]
       refine⟨⟨by omega,by omega⟩,?_⟩
       refine(q2o _ p _ (hb.2 i hlt)).mono ?_
       rintro r st ⟨rfl,rfl⟩
       simp -dsimp only [go_sem,e1]
       refine ck (fun h2=> ?_) (fun h2=> ?_)
       · have hne:=K1v h2
         simp -dsimp only [go_sem]
         rw [hr,e4,if_pos hne];rfl
       · have he:=G1s h2
         simp -dsimp only [go_sem,e3]
         refine⟨by omega,b.length-(i+1),by omega,i+1,o++ [(midI (b.getD i default) p).1],rfl,by omega,by simp [ho],?_,?_⟩
         · rw [hr,e4,if_neg (fun hh=>hh he)]
         · simp [Q0w,encN]
     · have hge:i=b.length:=by have:=of_decide_eq_false h';omega
       simp -dsimp only [go_sem]
       refine Q0a ?_
       simp -dsimp only [go_sem]
       rw [hr,hge,List.drop_length];rfl
end Go.Pv
end
section
/-The document's boxes:MeetBox,widest,WideBox,Blow;Nums. -/
set_option maxRecDepth 100000
namespace Go.Pv
open Go.Proofs
def V4s (o:List Nm):Nm:=if o.length=0 then default else o.getD (amax o o.length) default
end Go.Pv
end
section
/-The law's parts and reckons. -/
set_option maxRecDepth 100000
namespace Go.Pv
open Go.Proofs
theorem z1x {α β:Type} (F:Nat→α→β×Int) (P:β→Prop) (hp: ∀i x,x∈([]:List α)∨P (F i x).1): ∀(l:List α) (i:Nat) (acc:List β),(∀y,y∈acc→P y)→(∀y,y∈(W0k F i l acc).1→P y)∧(W0k F i l acc).1.length≤acc.length+l.length
 | [],i,acc,h=>⟨h,by simp [W0k]⟩
 | x::l,i,acc,h=>by
  unfold W0k
  split
  · exact⟨fun y hy=>by simp at hy,by simp⟩
  · obtain⟨h1,h2⟩:=z1x F P hp l (i+1) (acc++ [(F i x).1]) (fun y hy=>by
     rcases List.mem_append.1 hy with h3 | h3
     · exact h y h3
     · rw [List.mem_singleton.1 h3];rcases hp i x with h4 | h4
       · simp at h4
       · exact h4)
    exact⟨h1,by simp at h2⊢;omega⟩
theorem U2t (F:Nat→Ivl→Nm×Int) (hF: ∀i x,wN (F i x).1) (l:List Ivl) (hl:l.length≤100000000000):wNs (W0k F 0 l []).1:=by
 obtain⟨h1,h2⟩:=z1x F wN (fun i x=> .inr (hF i x)) l 0 [] (fun y hy=>by simp at hy)
 exact⟨by simp at h2;omega,fun i hi=>h1 _ (Q0y _ i default hi)⟩
theorem y2r :wNs []:=⟨by simp,fun i hi=>by simp at hi⟩
theorem y2s (b:List Ivl) (p:Int) (hb:wB b):wNs (midB b p).1:=by
 unfold midB
 split
 · exact U2t _ (fun i x=>Y3x (J0o (x0i _ _))) b hb.1
 · exact y2r
end Go.Pv
end
section
/-The law's known and light. -/
set_option maxRecDepth 100000
namespace Go.Pv
open Go.Proofs
def k1 :Nm:=⟨false,0,[1]⟩
def k2 :Nm:=⟨false,1,[1]⟩
def k4 :Nm:=⟨false,2,[1]⟩
def kB :List Ivl:= [⟨default,k1⟩,⟨default,k4⟩]
def kX :List Ivl:= [⟨default,k1⟩,⟨default,k2⟩]
def kY :List Ivl:= [⟨default,k1⟩,⟨k2,k4⟩]
def kSm :List Ivl:= [⟨default,k2⟩,⟨k2,⟨false,1,[3]⟩⟩]
def kM :List Nm:= [⟨false, -1,[1]⟩,k2]
def kZ :List Ivl:= [⟨⟨true, -2,[1]⟩,⟨false, -2,[5]⟩⟩,⟨⟨true,0,[1]⟩,⟨false,0,[5]⟩⟩]
theorem Y0r (i:Nat) (h:i<100000000000000):IntKind.i64.wrap ((i:Int)+1)=((i+1:Nat):Int):=by rw [Q0p _ (by omega) (by omega)];omega
def K4p (l:List (List Ivl)):List PV:=l.map fun c=> .sl .no (Q0t c)
end Go.Pv
end
