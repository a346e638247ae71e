/- Parts of the walk: N17, N18, N19, N20, N21, N22, N24, N25. -/
import Derived.Test.YthichlfphjbadaaGreatZAE
import Derived.Test.YthichlfphjbadaaGreatZAA
import Derived.Test.YthichlfphjbadaaGreatZY
import Derived.Test.YthichlfphjbadaaGreatZH
import Derived.Test.YthichlfphjbadaaGreatZM
set_option linter.unusedVariables false
set_option linter.unusedSimpArgs false
section
/-The document's Wide,Mid,least,greatest,ends,Op. -/
set_option maxRecDepth 100000
namespace Go.Pv
open Go.Proofs
theorem q0s {v:Vl} {n k:Nat} (h:bdV n k v) (h1:n≤1000000000000) (h2:k≤100000000000):smV v:=⟨by have:=h.1;omega,by have:=h.2.1;omega,by have:=h.2.2;omega⟩
theorem z0d {x:Nm} (h:Q0f x=true):x.w.length≤1000000000000:=by have:=(J1b h).1;omega
theorem Q2i (p:Int) (st:Q0g):PCalls Tryz.prog 180 [.sc (.int .i64 p)] st (fun r st'=>r= .sc (.bool (Z0t p))∧st'=st):=by
 refine Q0b none Tryz.func180 rfl fun E=>Q0a ?_
 unfold Z0t
 by_cases h:8≤p
 · have f1:decide (p≥8)=true:=decide_eq_true h
   have f2:decide (8≤p)=true:=decide_eq_true h
   simp -dsimp only [go_sem,f1,f2]
   try simp
 · have f1:decide (p≥8)=false:=decide_eq_false h
   have f2:decide (8≤p)=false:=decide_eq_false h
   simp -dsimp only [go_sem,f1,f2]
   try simp
theorem j2b (a:Ivl) (p:Int) (st:Q0g) (ha:wI a):PCalls Tryz.prog 171 [.agg (encI a),.sc (.int .i64 p)] st (fun r st'=>r= .tup [.agg (encN (midI a p).1),.sc (.int .i64 (midI a p).2)]∧st'=st):=by
 refine Q0b none Tryz.func171 rfl fun E=>Q0a ?_
 simp -dsimp only [go_sem]
 refine(V0u a _ ha).mono ?_
 rintro r st ⟨rfl,rfl⟩
 cases r1:Q0n a with
 | false=>
  simp -dsimp only [go_sem]
  rw [midI,if_neg (by simp [r1])];rfl
 | true=>
  simp -dsimp only [go_sem]
  refine(Q2i p _).mono ?_
  rintro r st ⟨rfl,rfl⟩
  cases r3:Z0t p with
  | false=>
   simp -dsimp only [go_sem]
   rw [midI,if_neg (by simp [r3])];rfl
  | true=>
   obtain⟨q,rfl,q1,q2,q3⟩:=x1e r3
   obtain⟨a1,a2,_⟩:=Z0a r1
   have hm:midI a q=if V0z (midV a q) (ofN a.lo)<0 then(a.lo,0) else numV (midV a q):=by rw [midI,if_pos ⟨r1,r3⟩,q3]
   rw [hm]
   simp -dsimp only [go_sem]
   refine Q2g Z0p 46 [0,1,2,3,4,5,6] [7] [8] (.step 0 [] (.step 1 [] (.step 3 [] (.step 4 [] (.step 2 [4] (.step 5 [] (.step 6 [] (.done)))))))) (.step 8 [] (.done)) (by decide+kernel) (by simp) ?_
   have b1:=k0y a1
   have b2:=k0y a2
   have b3:=y2g (q1b b1 b2)
   have b4:=V1n b3 q false
   simp -dsimp only [go_sem]
   refine(of_c a.lo _ (z0d a1)).mono ?_
   rintro r st ⟨rfl,rfl⟩
   simp -dsimp only [go_sem]
   refine(of_c a.hi _ (z0d a2)).mono ?_
   rintro r st ⟨rfl,rfl⟩
   simp -dsimp only [go_sem]
   refine(Q2n _ _ _ (q0s b1 (by omega) (by omega)) (q0s b2 (by omega) (by omega))).mono ?_
   rintro r st ⟨rfl,rfl⟩
   have e0:=q1b b1 b2
   have hv:midV a q=Z0k (Q1g (J0l (ofN a.lo) (ofN a.hi))) q false:=rfl
   rw [hv]
   generalize J0l (ofN a.lo) (ofN a.hi)=v at*
   have x1:IntKind.i64.wrap (v.e-1)=v.e-1:=Q0q _ (by have:=e0.2.1;omega) (by have:=e0.2.2;omega)
   simp -dsimp only [go_sem]
   refine ck (fun h=> ?_) (fun h=> ?_)
   case' refine_1=>
    have h0:v.m≠0:=fun e=>by rw [e,X0a] at h;cases h
    have hh:Q1g v= { v with e:=v.e-1 } :=by rw [Q1g,if_neg h0]
    rw [hh] at b3 b4⊢
    generalize hz:({ v with e:=v.e-1 } :Vl)=z at*
    have z1:v.neg=z.neg:=by rw [←hz]
    have z2:v.m=z.m:=by rw [←hz]
    have z3:v.e-1=z.e:=by rw [←hz]
    simp -dsimp only [go_sem,x1]
    rw [z1,z2,z3]
   case' refine_2=>
    have h0:v.m=0:=by
     have:=of_decide_eq_false h
     exact digitsOf_nil.1 (List.length_eq_zero_iff.1 (by omega))
    have hh:Q1g v=v:=by rw [Q1g,if_pos h0]
    rw [hh] at b3 b4⊢
    generalize v=z at*
    simp -dsimp only [go_sem]
   all_goals
    refine(v1c z q false _ (q0s b3 (by omega) (by omega)) (by omega)).mono ?_
    rintro r st ⟨rfl,rfl⟩
    generalize Z0k z q false=y at*
    simp -dsimp only [go_sem]
    refine Q0o Z0p 46 (.step 0 [] (.step 1 [] (.step 2 [] (.step 3 [0] (.step 4 [] (.step 5 [] (.done))))))) (by decide+kernel) (by simp) ?_
    simp -dsimp only [go_sem]
    refine(of_c a.lo _ (z0d a1)).mono ?_
    rintro r st ⟨rfl,rfl⟩
    simp -dsimp only [go_sem]
    refine(U2q _ _ _ (q0s b4 (by omega) (by omega)) (q0s b1 (by omega) (by omega))).mono ?_
    rintro r st ⟨rfl,rfl⟩
    simp -dsimp only [go_sem]
    refine ck (fun h=> ?_) (fun h=> ?_)
    · have hc:V0z y (ofN a.lo)<0:=of_decide_eq_true h
      rw [if_pos hc]
      simp -dsimp only [go_sem]
      try rfl
    · have hc: ¬V0z y (ofN a.lo)<0:=of_decide_eq_false h
      rw [if_neg hc]
      simp -dsimp only [go_sem]
      refine(X1j y _ (q0a b4 (by omega))).mono ?_
      rintro r st ⟨rfl,rfl⟩
      simp -dsimp only [go_sem]
theorem V3r (lo hi:Vl) (st:Q0g) (h1:(Q0d lo.m).length≤1000000000000) (h2:(Q0d hi.m).length≤1000000000000):PCalls Tryz.prog 182 [.agg (encV lo),.agg (encV hi)] st
 (fun r st'=>r= .tup [.agg (encI (j0n lo hi).1),.sc (.int .i64 (j0n lo hi).2)]∧st'=st):=by
 refine Q0b none Tryz.func182 rfl fun E=>Q0a ?_
 unfold j0n
 simp -dsimp only [go_sem]
 refine(X1j lo _ h1).mono ?_
 rintro r st ⟨rfl,rfl⟩
 simp -dsimp only [go_sem]
 refine(X1j hi _ h2).mono ?_
 rintro r st ⟨rfl,rfl⟩
 by_cases c1:(numV lo).2=0
 · have f1:((numV lo).2 !=0)=false:=by rw [c1];rfl
   by_cases c2:(numV hi).2=0
   · have f2:((numV hi).2 !=0)=false:=by rw [c2];rfl
     rw [if_pos ⟨c1,c2⟩]
     simp -dsimp only [go_sem,f1,f2]
     try rfl
   · have f2:((numV hi).2 !=0)=true:=bne_iff_ne.2 c2
     rw [if_neg (fun h=>c2 h.2)]
     simp -dsimp only [go_sem,f1,f2]
     try rfl
 · have f1:((numV lo).2 !=0)=true:=bne_iff_ne.2 c1
   rw [if_neg (fun h=>c1 h.1)]
   simp -dsimp only [go_sem,f1]
   try rfl
end Go.Pv
end
section
/-The document's least,greatest,Op. -/
set_option maxRecDepth 100000
namespace Go.Pv
open Go.Proofs
theorem j2a (a b:Ivl) (p:Int) (st:Q0g) (ha:wI a) (hb:wI b):PCalls Tryz.prog 172 [.sc (.int .i64 1),.agg (encI a),.agg (encI b),.sc (.int .i64 p)] st (fun r st'=>r= .tup [.agg (encI (opI 1 a b p).1),.sc (.int .i64 (opI 1 a b p).2)]∧st'=st):=by
 refine Q0b none Tryz.func172 rfl fun E=>Q0a ?_
 simp -dsimp only [go_sem]
 refine(V0u a _ ha).mono ?_
 rintro r st ⟨rfl,rfl⟩
 cases r1:Q0n a with
 | false=>
  simp -dsimp only [go_sem]
  rw [opI,if_neg (by simp [r1])];rfl
 | true=>
  simp -dsimp only [go_sem]
  refine(V0u b _ hb).mono ?_
  rintro r st ⟨rfl,rfl⟩
  cases r2:Q0n b with
  | false=>
   simp -dsimp only [go_sem]
   rw [opI,if_neg (by simp [r2])];rfl
  | true=>
   simp -dsimp only [go_sem]
   refine(Q2i p _).mono ?_
   rintro r st ⟨rfl,rfl⟩
   cases r3:Z0t p with
   | false=>
    simp -dsimp only [go_sem]
    rw [opI,if_neg (by simp [r3])];rfl
   | true=>
    obtain⟨q,rfl,q1,q2,q3⟩:=x1e r3
    obtain⟨a1,a2,_⟩:=Z0a r1
    obtain⟨b1,b2,_⟩:=Z0a r2
    have hm:opI 1 a b q=j0n (Z0k (loV 1 (ofN a.lo) (ofN a.hi) (ofN b.lo) (ofN b.hi)) q false) (Z0k (hiV 1 (ofN a.lo) (ofN a.hi) (ofN b.lo) (ofN b.hi)) q true):=by rw [opI,if_pos ⟨r1,r2,r3⟩,q3]
    rw [hm]
    have d1:=k0y a1
    have d2:=k0y a2
    have d3:=k0y b1
    have d4:=k0y b2
    simp -dsimp only [go_sem]
    refine Q2g Z0p 110 [0,1,2,3,4,5,6,7,8,9,10,11] [12,13,14,15] [16,17,18,19] (.step 0 [] (.step 1 [] (.step 3 [] (.step 4 [] (.step 6 [] (.step 7 [] (.step 9 [] (.step 10 [] (.step 2 [4,7,10] (.step 5 [7,10] (.step 8 [10] (.step 11 [1] (.done))))))))))))) (.step 16 [4] (.step 17 [7] (.step 18 [] (.step 19 [] (.done))))) (by decide+kernel) (by simp) ?_
    simp -dsimp only [go_sem]
    refine(of_c a.lo _ (z0d a1)).mono ?_
    rintro r st ⟨rfl,rfl⟩
    simp -dsimp only [go_sem]
    refine(of_c a.hi _ (z0d a2)).mono ?_
    rintro r st ⟨rfl,rfl⟩
    simp -dsimp only [go_sem]
    refine(of_c b.lo _ (z0d b1)).mono ?_
    rintro r st ⟨rfl,rfl⟩
    simp -dsimp only [go_sem]
    refine(of_c b.hi _ (z0d b2)).mono ?_
    rintro r st ⟨rfl,rfl⟩
    generalize ofN a.lo=x at*
    generalize ofN a.hi=y at*
    generalize ofN b.lo=u at*
    generalize ofN b.hi=v at*
    simp -dsimp only [go_sem]
    rw [loV1,hiV1]
    refine Q0o Z0p 110 (.step 0 [] (.step 1 [] (.step 3 [] (.step 5 [] (.step 6 [] (.step 8 [] (.step 2 [5,6] (.step 4 [5,6] (.step 7 [] (.step 9 [0,1] (.step 10 [] (.step 11 [] (.step 12 [] (.step 13 [] (.step 14 [] (.done)))))))))))))))) (by decide+kernel) (by simp) ?_
    simp -dsimp only [go_sem]
    refine(G2m _ _ _ (q0s d1 (by omega) (by omega)) (q0s d4 (by omega) (by omega))).mono ?_
    rintro r st ⟨rfl,rfl⟩
    have e1:=Z2x d1 d4
    simp -dsimp only [go_sem]
    refine(v1c _ q false _ (q0s e1 (by omega) (by omega)) (by omega)).mono ?_
    rintro r st ⟨rfl,rfl⟩
    have e2:=V1n e1 q false
    simp -dsimp only [go_sem]
    refine(G2m _ _ _ (q0s d2 (by omega) (by omega)) (q0s d3 (by omega) (by omega))).mono ?_
    rintro r st ⟨rfl,rfl⟩
    have e3:=Z2x d2 d3
    simp -dsimp only [go_sem]
    refine(v1c _ q true _ (q0s e3 (by omega) (by omega)) (by omega)).mono ?_
    rintro r st ⟨rfl,rfl⟩
    have e4:=V1n e3 q true
    simp -dsimp only [go_sem]
    refine(V3r _ _ _ (q0a e2 (by omega)) (q0a e4 (by omega))).mono ?_
    rintro r st ⟨rfl,rfl⟩
    simp -dsimp only [go_sem]
end Go.Pv
end
section
/-The document's bad,Reckon,Scale,Has,In. -/
set_option maxRecDepth 100000
namespace Go.Pv
open Go.Proofs
theorem Y1d (x:Nm) (k:Int) (st:Q0g) (hx:wN x):PCalls Tryz.prog 46 [.agg (encN x),.sc (.int .i64 k)] st (fun r st'=>r= .tup [.agg (encN (X0y x k).1),.sc (.int .i64 (X0y x k).2)]∧st'=st):=by
 unfold wN at hx
 refine Q0b none Tryz.func46 rfl fun E=>Q0a ?_
 simp -dsimp only [go_sem]
 refine(Z0j x _ (by omega)).mono ?_
 rintro r st ⟨rfl,rfl⟩
 cases r1:Q0f x with
 | false=>
  simp -dsimp only [go_sem]
  rw [X0y,if_neg (by rw [r1];simp)];rfl
 | true=>
  rw [X0y,if_pos r1]
  simp -dsimp only [go_sem]
  refine ck (fun h=> ?_) (fun h=> ?_)
  · have h0:x.w= []:=List.length_eq_zero_iff.1 (G0p (b:=0) h)
    simp -dsimp only [go_sem]
    rw [if_pos h0]
  · have h0:x.w≠ []:=fun e=>by rw [e] at h;cases h
    have hb:=J1b r1
    have b2:=hb.2.1
    have b3:=hb.2.2
    rw [if_neg h0]
    by_cases c1:131072<k
    · have f1:decide (k>131072)=true:=decide_eq_true c1
      simp -dsimp only [go_sem,f1]
      rw [if_pos (.inr c1)];rfl
    · have f1:decide (k>131072)=false:=decide_eq_false c1
      by_cases c2:k< -131072
      · have f2:decide (k< -131072)=true:=decide_eq_true c2
        simp -dsimp only [go_sem,f1,f2]
        rw [if_pos (.inl c2)];rfl
      · have f2:decide (k< -131072)=false:=decide_eq_false c2
        have x1:IntKind.i64.wrap (x.exp+k)=x.exp+k:=Q0q _ (by omega) (by omega)
        rw [if_neg (by omega)]
        simp -dsimp only [go_sem,f1,f2]
        refine Q0o Z0p 35 (.step 0 [] (.step 1 [] (.step 2 [] (.step 3 [] (.step 5 [] (.step 6 [] (.step 7 [] (.step 8 [] (.step 4 [1,6] (.step 9 [] (.step 10 [] (.step 11 [] (.step 12 [] (.step 13 [] (.step 14 [] (.done)))))))))))))))) (by decide+kernel) (by simp) ?_
        simp -dsimp only [go_sem,x1]
        refine(U2o x.w _ (by omega)).mono ?_
        rintro r st ⟨rfl,rfl⟩
        simp -dsimp only [go_sem,x1]
        have hd:=q0a (k0y r1) (by omega)
        refine(X1j ⟨x.neg,valW x.w,x.exp+k⟩ _ hd).mono ?_
        rintro r st ⟨rfl,rfl⟩
        simp -dsimp only [go_sem]
theorem j2c (a:Ivl) (x:Nm) (st:Q0g) (ha:wI a) (hx:wN x):PCalls Tryz.prog 100 [.agg (encI a),.agg (encN x)] st (fun r st'=>r= .sc (.bool (hasI a x))∧st'=st):=by
 refine Q0b none Tryz.func100 rfl fun E=>Q0a ?_
 unfold hasI
 simp -dsimp only [go_sem]
 refine(V0u a _ ha).mono ?_
 rintro r st ⟨rfl,rfl⟩
 cases r1:Q0n a with
 | false=>simp -dsimp only [go_sem];try rfl
 | true=>
  simp -dsimp only [go_sem]
  refine(Z0j x _ (by unfold wN at hx;omega)).mono ?_
  rintro r st ⟨rfl,rfl⟩
  cases r2:Q0f x with
  | false=>simp -dsimp only [go_sem];try rfl
  | true=>
   have a1:=(Z0a r1).1
   have a2:=(Z0a r1).2.1
   have e1:cmpR a.lo x=cmpN a.lo x:=if_pos ⟨a1,r2⟩
   have e2:cmpR x a.hi=cmpN x a.hi:=if_pos ⟨r2,a2⟩
   simp -dsimp only [go_sem]
   refine(G0v a.lo x _ (z0d a1) (z0d r2)).mono ?_
   rintro r st ⟨rfl,rfl⟩
   rw [e1]
   cases c1:decide (cmpN a.lo x≤0) with
   | false=>simp -dsimp only [go_sem,c1];try rfl
   | true=>
    simp -dsimp only [go_sem,c1]
    refine(G0v x a.hi _ (z0d r2) (z0d a2)).mono ?_
    rintro r st ⟨rfl,rfl⟩
    rw [e2]
    simp -dsimp only [go_sem,c1]
    try rfl
end Go.Pv
end
section
/-The document's boxes:Points,HasPoint,InBox,MeetBox,OpBox,Times,MidBox. -/
set_option maxRecDepth 100000
namespace Go.Pv
open Go.Proofs
theorem Q2h (p:Int) (st:Q0g):PCalls Tryz.prog 170 [.sc (.int .i64 p)] st (fun r st'=>r= .sc (.bool (Z0t p))∧st'=st):=by
 refine Q0b none Tryz.func170 rfl fun E=>Q0a ?_
 unfold Z0t
 by_cases h:8≤p
 · have f1:decide (p≥8)=true:=decide_eq_true h
   have f2:decide (8≤p)=true:=decide_eq_true h
   simp -dsimp only [go_sem,f1,f2]
   try simp
 · have f1:decide (p≥8)=false:=decide_eq_false h
   have f2:decide (8≤p)=false:=decide_eq_false h
   simp -dsimp only [go_sem,f1,f2]
   try simp
theorem j2y (q:List Nm) (st:Q0g) (hq:wNs q):PCalls Tryz.prog 142 [.sl .no (Q0z q)] st (fun r st'=>r= .sl (.fresh 6) (Q0u (ofB q))∧st'=st):=by
 obtain⟨hl,hw⟩:=hq
 refine Q0b none Tryz.func142 rfl fun E=>Q0a ?_
 simp -dsimp only [go_sem]
 refine Z0y 3 6 ?_
 simp -dsimp only [go_sem]
 refine Q0e [true,false,false,true,true] 0 1
  (fun n s=> ∃i,n=q.length-i∧i≤q.length∧s=⟨[.sl .no (Q0z q),.junk,.junk,.sl (.own 0) (Q0u (ofB (q.take i))),.sc (.int .i64 (i:Nat))]++List.replicate 15 .junk,[],[((ofB (q.take i)).length,6)],st⟩) q.length ?_ ?_
 · simp -dsimp only [go_sem]
   exact⟨0,by omega,by omega,rfl⟩
 · rintro n s ⟨i,rfl,hi,rfl⟩
   simp -dsimp only [go_sem]
   refine ck (fun h'=> ?_) (fun h'=> ?_)
   · have hlt:i<q.length:=by have:=of_decide_eq_true h';omega
     have e1:=K0v q i hlt
     have e3:IntKind.i64.wrap ((i:Int)+1)=((i+1:Nat):Int):=by rw [Q0q _ (by omega) (by omega)];omega
     have ll:(ofB (q.take i)).length=i:=by simp [ofB];omega
     simp -dsimp only [go_sem,e1]
     refine⟨⟨by omega,hlt⟩,?_⟩
     refine(U2j _ _).mono ?_
     rintro r st ⟨rfl,rfl⟩
     simp -dsimp only [go_sem,e3]
     refine⟨⟨by omega,by omega⟩,q.length-(i+1),by omega,i+1,rfl,by omega,?_⟩
     rw [k2l q i hlt]
     simp [Q0u,encI]
   · have hge:i=q.length:=by have:=of_decide_eq_false h';omega
     simp -dsimp only [go_sem]
     refine Q0a ?_
     simp -dsimp only [go_sem]
     rw [hge,List.take_length]
theorem k2f (a b:List Ivl) (p:Int) (st:Q0g) (ha:wB a) (hb:wB b):PCalls Tryz.prog 141 [.sc (.int .i64 1),.sl .no (Q0u a),.sl .no (Q0u b),.sc (.int .i64 p)] st (fun r st'=>r= .tup [.sl .no (Q0u (opB 1 a b p).1),.sc (.int .i64 (opB 1 a b p).2)]∧st'=st):=by
 refine Q0b none Tryz.func141 rfl fun E=>Q0a ?_
 simp -dsimp only [go_sem]
 refine(U0q a _ ha).mono ?_
 rintro r st ⟨rfl,rfl⟩
 cases r1:rightB a with
 | false=>
  simp -dsimp only [go_sem]
  rw [opB,if_neg (by simp [r1])];rfl
 | true=>
  simp -dsimp only [go_sem]
  refine(U0q b _ hb).mono ?_
  rintro r st ⟨rfl,rfl⟩
  cases r2:rightB b with
  | false=>
   simp -dsimp only [go_sem]
   rw [opB,if_neg (by simp [r2])];rfl
  | true=>
   by_cases hl:a.length=b.length
   · have f1:((a.length:Int) !=(b.length:Int))=false:=by rw [hl];simp
     simp -dsimp only [go_sem,f1]
     refine(Q2h p _).mono ?_
     rintro r st ⟨rfl,rfl⟩
     cases r3:Z0t p with
     | false=>
      simp -dsimp only [go_sem,f1]
      rw [opB,if_neg (by simp [r3])];rfl
     | true=>
      have hla:=ha.1
      have hab:opB 1 a b p=W0u (fun i x=>opI 1 x (b.getD i default) p) 0 a []:=if_pos ⟨r1,r2,hl,r3⟩
      rw [hab]
      simp -dsimp only [go_sem,f1]
      refine Z0y 10 6 ?_
      simp -dsimp only [go_sem]
      refine Q0e [true,true,true,true,false,false,false,false,false,false,true,true] 0 1 (fun n s=> ∃i o,n=a.length-i∧i≤a.length∧o.length=i∧W0u (fun i x=>opI 1 x (b.getD i default) p) 0 a []=W0u (fun i x=>opI 1 x (b.getD i default) p) i (a.drop i) o∧s=⟨[.sc (.int .i64 1),.sl .no (Q0u a),.sl .no (Q0u b),.sc (.int .i64 p),.junk,.junk,.junk,.junk,.junk,.junk,.sl (.own 0) (Q0u o),.sc (.int .i64 (i:Nat))]++List.replicate 50 .junk,[],[(o.length,6)],st⟩) a.length ?_ ?_
      · simp -dsimp only [go_sem]
        exact⟨0,[],by omega,by omega,rfl,rfl,rfl⟩
      · rintro n s ⟨i,o,rfl,hi,ho,hr,rfl⟩
        simp -dsimp only [go_sem]
        refine ck (fun h'=> ?_) (fun h'=> ?_)
        · have hlt:i<a.length:=by have:=of_decide_eq_true h';omega
          have e1:=J0x a i hlt
          have e2:=J0x b i (by omega)
          have e3:IntKind.i64.wrap ((i:Int)+1)=((i+1:Nat):Int):=by rw [Q0q _ (by omega) (by omega)];omega
          have e4:=U1n (fun i x=>opI 1 x (b.getD i default) p) a i o hlt
          simp -dsimp only [go_sem]
          refine Q0o Z0p 62 (.step 0 [] (.step 1 [] (.step 2 [] (.step 3 [] (.step 4 [] (.step 5 [] (.step 6 [] (.step 7 [] (.step 8 [] (.step 9 [] (.alt (.step 10 [] (.step 11 [] (.step 12 [] (.step 13 [] (.step 14 [4,8] (.step 15 [] (.step 16 [] (.done)))))))) (.step 14 [4,8] (.step 10 [] (.step 11 [] (.step 12 [] (.step 13 [] (.step 15 [] (.step 16 [] (.done))))))))))))))))))) (by decide+kernel) (by simp) ?_
          simp -dsimp only [go_sem,e1,e2]
          refine⟨⟨by omega,by omega⟩,⟨by omega,by omega⟩,?_,?_⟩
          all_goals
           refine(j2a _ _ p _ (ha.2 i hlt) (hb.2 i (by omega))).mono ?_
           rintro r st ⟨rfl,rfl⟩
           simp -dsimp only [go_sem,e1,e2]
           refine ck (fun h2=> ?_) (fun h2=> ?_)
           · have hne:=W1j h2
             simp -dsimp only [go_sem]
             rw [hr,e4,if_pos hne];rfl
           · have he:=q1j h2
             simp -dsimp only [go_sem,e3]
             refine⟨by omega,a.length-(i+1),by omega,i+1,o++ [(opI 1 (a.getD i default) (b.getD i default) p).1],rfl,by omega,by simp [ho],?_,?_⟩
             · rw [hr,e4,if_neg (fun hh=>hh he)]
             · simp [Q0u,encI]
        · have hge:i=a.length:=by have:=of_decide_eq_false h';omega
          simp -dsimp only [go_sem]
          refine Q0a ?_
          simp -dsimp only [go_sem]
          rw [hr,hge,List.drop_length];rfl
   · have f1:((a.length:Int) !=(b.length:Int))=true:=by rw [bne_iff_ne];omega
     simp -dsimp only [go_sem,f1]
     rw [opB,if_neg (fun h=>hl h.2.2.1)];rfl
theorem k2v (b:List Ivl) (p:Int) (st:Q0g) (hb:wB b):PCalls Tryz.prog 140 [.sl .no (Q0u b),.sc (.int .i64 p)] st (fun r st'=>r= .tup [.sl .no (Q0z (midB b p).1),.sc (.int .i64 (midB b p).2)]∧st'=st):=by
 refine Q0b none Tryz.func140 rfl fun E=>Q0a ?_
 simp -dsimp only [go_sem]
 refine(U0q b _ hb).mono ?_
 rintro r st ⟨rfl,rfl⟩
 cases r1:rightB b with
 | false=>
  simp -dsimp only [go_sem]
  rw [midB,if_neg (by simp [r1])];rfl
 | true=>
  simp -dsimp only [go_sem]
  refine(Q2h p _).mono ?_
  rintro r st ⟨rfl,rfl⟩
  cases r3:Z0t p with
  | false=>
   simp -dsimp only [go_sem]
   rw [midB,if_neg (by simp [r3])];rfl
  | true=>
   have hla:=hb.1
   have hab:midB b p=W0u (fun _ a=>midI a p) 0 b []:=if_pos ⟨r1,r3⟩
   rw [hab]
   simp -dsimp only [go_sem]
   refine Z0y 6 3 ?_
   simp -dsimp only [go_sem]
   refine Q0e [true,true,false,false,false,false,true,true] 0 1 (fun n s=> ∃i o,n=b.length-i∧i≤b.length∧o.length=i∧W0u (fun _ a=>midI a p) 0 b []=W0u (fun _ a=>midI a p) i (b.drop i) o∧s=⟨[.sl .no (Q0u b),.sc (.int .i64 p),.junk,.junk,.junk,.junk,.sl (.own 0) (Q0z o),.sc (.int .i64 (i:Nat))]++List.replicate 33 .junk,[],[(o.length,3)],st⟩) b.length ?_ ?_
   · simp -dsimp only [go_sem]
     exact⟨0,[],by omega,by omega,rfl,rfl,rfl⟩
   · rintro n s ⟨i,o,rfl,hi,ho,hr,rfl⟩
     simp -dsimp only [go_sem]
     refine ck (fun h'=> ?_) (fun h'=> ?_)
     · have hlt:i<b.length:=by have:=of_decide_eq_true h';omega
       have e1:=J0x b i hlt
       have e3:IntKind.i64.wrap ((i:Int)+1)=((i+1:Nat):Int):=by rw [Q0q _ (by omega) (by omega)];omega
       have e4:=U1n (fun _ a=>midI a p) b i o hlt
       simp -dsimp only [go_sem,e1]
       refine⟨⟨by omega,by omega⟩,?_⟩
       refine(j2b _ p _ (hb.2 i hlt)).mono ?_
       rintro r st ⟨rfl,rfl⟩
       simp -dsimp only [go_sem,e1]
       refine ck (fun h2=> ?_) (fun h2=> ?_)
       · have hne:=W1j h2
         simp -dsimp only [go_sem]
         rw [hr,e4,if_pos hne];rfl
       · have he:=q1j h2
         simp -dsimp only [go_sem,e3]
         refine⟨by omega,b.length-(i+1),by omega,i+1,o++ [(midI (b.getD i default) p).1],rfl,by omega,by simp [ho],?_,?_⟩
         · rw [hr,e4,if_neg (fun hh=>hh he)]
         · simp [Q0z,encN]
     · have hge:i=b.length:=by have:=of_decide_eq_false h';omega
       simp -dsimp only [go_sem]
       refine Q0a ?_
       simp -dsimp only [go_sem]
       rw [hr,hge,List.drop_length];rfl
end Go.Pv
end
section
/-The document's boxes:MeetBox,widest,WideBox,Blow;Nums. -/
set_option maxRecDepth 100000
namespace Go.Pv
open Go.Proofs
def U4a (o:List Nm):Nm:=if o.length=0 then default else o.getD (amax o o.length) default
end Go.Pv
end
section
/-The law's parts and reckons. -/
set_option maxRecDepth 100000
namespace Go.Pv
open Go.Proofs
theorem j1w {α β:Type} (F:Nat→α→β×Int) (P:β→Prop) (hp: ∀i x,x∈([]:List α)∨P (F i x).1): ∀(l:List α) (i:Nat) (acc:List β),(∀y,y∈acc→P y)→(∀y,y∈(W0u F i l acc).1→P y)∧(W0u F i l acc).1.length≤acc.length+l.length
 | [],i,acc,h=>⟨h,by simp [W0u]⟩
 | x::l,i,acc,h=>by
  unfold W0u
  split
  · exact⟨fun y hy=>by simp at hy,by simp⟩
  · obtain⟨h1,h2⟩:=j1w F P hp l (i+1) (acc++ [(F i x).1]) (fun y hy=>by
     rcases List.mem_append.1 hy with h3 | h3
     · exact h y h3
     · rw [List.mem_singleton.1 h3];rcases hp i x with h4 | h4
       · simp at h4
       · exact h4)
    exact⟨h1,by simp at h2⊢;omega⟩
theorem H2x (F:Nat→Ivl→Nm×Int) (hF: ∀i x,wN (F i x).1) (l:List Ivl) (hl:l.length≤100000000000):wNs (W0u F 0 l []).1:=by
 obtain⟨h1,h2⟩:=j1w F wN (fun i x=> .inr (hF i x)) l 0 [] (fun y hy=>by simp at hy)
 exact⟨by simp at h2;omega,fun i hi=>h1 _ (Z0b _ i default hi)⟩
theorem X3e :wNs []:=⟨by simp,fun i hi=>by simp at hi⟩
theorem X3f (b:List Ivl) (p:Int) (hb:wB b):wNs (midB b p).1:=by
 unfold midB
 split
 · exact H2x _ (fun i x=>H3e (J0s (j0b _ _))) b hb.1
 · exact X3e
end Go.Pv
end
section
/-The law's known and light. -/
set_option maxRecDepth 100000
namespace Go.Pv
open Go.Proofs
def k1 :Nm:=⟨false,0,[1]⟩
def k2 :Nm:=⟨false,1,[1]⟩
def k4 :Nm:=⟨false,2,[1]⟩
def kB :List Ivl:= [⟨default,k1⟩,⟨default,k4⟩]
def kX :List Ivl:= [⟨default,k1⟩,⟨default,k2⟩]
def kY :List Ivl:= [⟨default,k1⟩,⟨k2,k4⟩]
def kSm :List Ivl:= [⟨default,k2⟩,⟨k2,⟨false,1,[3]⟩⟩]
def kM :List Nm:= [⟨false, -1,[1]⟩,k2]
def kZ :List Ivl:= [⟨⟨true, -2,[1]⟩,⟨false, -2,[5]⟩⟩,⟨⟨true,0,[1]⟩,⟨false,0,[5]⟩⟩]
theorem G0k (i:Nat) (h:i<100000000000000):IntKind.i64.wrap ((i:Int)+1)=((i+1:Nat):Int):=by rw [Q0q _ (by omega) (by omega)];omega
def W4x (l:List (List Ivl)):List PV:=l.map fun c=> .sl .no (Q0u c)
end Go.Pv
end
