/- Parts of the walk: N17, N18, N19, N20, N21, N22, N24, N25. -/
import Derived.Test.YthichlfphjbadaaGreatZAE
import Derived.Test.YthichlfphjbadaaGreatZAA
import Derived.Test.YthichlfphjbadaaGreatZY
import Derived.Test.YthichlfphjbadaaGreatZH
import Derived.Test.YthichlfphjbadaaGreatZM
set_option linter.unusedVariables false
set_option linter.unusedSimpArgs false
section
/-The document's Wide,Mid,least,greatest,ends,Op. -/
set_option maxRecDepth 100000
namespace Go.Pv
open Go.Proofs
theorem z0g {v:Vl} {n k:Nat} (h:bdV n k v) (h1:n≤1000000000000) (h2:k≤100000000000):smV v:=⟨by have:=h.1;omega,by have:=h.2.1;omega,by have:=h.2.2;omega⟩
theorem z0q {x:Nm} (h:Q0f x=true):x.w.length≤1000000000000:=by have:=(J1y h).1;omega
theorem Z2h (p:Int) (st:Q0g):PCalls Tryz.prog 180 [.sc (.int .i64 p)] st (fun r st'=>r= .sc (.bool (Z0w p))∧st'=st):=by
 refine Q0b none Tryz.func180 rfl fun E=>Q0a ?_
 unfold Z0w
 by_cases h:8≤p
 · have f1:decide (p≥8)=true:=decide_eq_true h
   have f2:decide (8≤p)=true:=decide_eq_true h
   simp -dsimp only [go_sem,f1,f2]
   try simp
 · have f1:decide (p≥8)=false:=decide_eq_false h
   have f2:decide (8≤p)=false:=decide_eq_false h
   simp -dsimp only [go_sem,f1,f2]
   try simp
theorem j2w (a:Ivl) (p:Int) (st:Q0g) (ha:wI a):PCalls Tryz.prog 171 [.agg (encI a),.sc (.int .i64 p)] st (fun r st'=>r= .tup [.agg (encN (midI a p).1),.sc (.int .i64 (midI a p).2)]∧st'=st):=by
 refine Q0b none Tryz.func171 rfl fun E=>Q0a ?_
 simp -dsimp only [go_sem]
 refine(K0u a _ ha).mono ?_
 rintro r st ⟨rfl,rfl⟩
 cases r1:Q0n a with
 | false=>
  simp -dsimp only [go_sem]
  rw [midI,if_neg (by simp [r1])];rfl
 | true=>
  simp -dsimp only [go_sem]
  refine(Z2h p _).mono ?_
  rintro r st ⟨rfl,rfl⟩
  cases r3:Z0w p with
  | false=>
   simp -dsimp only [go_sem]
   rw [midI,if_neg (by simp [r3])];rfl
  | true=>
   obtain⟨q,rfl,q1,q2,q3⟩:=j1g r3
   obtain⟨a1,a2,_⟩:=Z0c r1
   have hm:midI a q=if W0e (midV a q) (ofN a.lo)<0 then(a.lo,0) else numV (midV a q):=by rw [midI,if_pos ⟨r1,r3⟩,q3]
   rw [hm]
   simp -dsimp only [go_sem]
   refine Z2f Z0n 46 [0,1,2,3,4,5,6] [7] [8] (.step 0 [] (.step 1 [] (.step 3 [] (.step 4 [] (.step 2 [4] (.step 5 [] (.step 6 [] (.done)))))))) (.step 8 [] (.done)) (by decide+kernel) (by simp) ?_
   have b1:=v0q a1
   have b2:=v0q a2
   have b3:=y2z (z1a b1 b2)
   have b4:=W1m b3 q false
   simp -dsimp only [go_sem]
   refine(of_c a.lo _ (z0q a1)).mono ?_
   rintro r st ⟨rfl,rfl⟩
   simp -dsimp only [go_sem]
   refine(of_c a.hi _ (z0q a2)).mono ?_
   rintro r st ⟨rfl,rfl⟩
   simp -dsimp only [go_sem]
   refine(Z2m _ _ _ (z0g b1 (by omega) (by omega)) (z0g b2 (by omega) (by omega))).mono ?_
   rintro r st ⟨rfl,rfl⟩
   have e0:=z1a b1 b2
   have hv:midV a q=Z0o (Q1z (J0p (ofN a.lo) (ofN a.hi))) q false:=rfl
   rw [hv]
   generalize J0p (ofN a.lo) (ofN a.hi)=v at*
   have x1:IntKind.i64.wrap (v.e-1)=v.e-1:=Q0p _ (by have:=e0.2.1;omega) (by have:=e0.2.2;omega)
   simp -dsimp only [go_sem]
   refine ck (fun h=> ?_) (fun h=> ?_)
   case' refine_1=>
    have h0:v.m≠0:=fun e=>by rw [e,X0d] at h;cases h
    have hh:Q1z v= { v with e:=v.e-1 } :=by rw [Q1z,if_neg h0]
    rw [hh] at b3 b4⊢
    generalize hz:({ v with e:=v.e-1 } :Vl)=z at*
    have z1:v.neg=z.neg:=by rw [←hz]
    have z2:v.m=z.m:=by rw [←hz]
    have z3:v.e-1=z.e:=by rw [←hz]
    simp -dsimp only [go_sem,x1]
    rw [z1,z2,z3]
   case' refine_2=>
    have h0:v.m=0:=by
     have:=of_decide_eq_false h
     exact digitsOf_nil.1 (List.length_eq_zero_iff.1 (by omega))
    have hh:Q1z v=v:=by rw [Q1z,if_pos h0]
    rw [hh] at b3 b4⊢
    generalize v=z at*
    simp -dsimp only [go_sem]
   all_goals
    refine(w1d z q false _ (z0g b3 (by omega) (by omega)) (by omega)).mono ?_
    rintro r st ⟨rfl,rfl⟩
    generalize Z0o z q false=y at*
    simp -dsimp only [go_sem]
    refine Q0o Z0n 46 (.step 0 [] (.step 1 [] (.step 2 [] (.step 3 [0] (.step 4 [] (.step 5 [] (.done))))))) (by decide+kernel) (by simp) ?_
    simp -dsimp only [go_sem]
    refine(of_c a.lo _ (z0q a1)).mono ?_
    rintro r st ⟨rfl,rfl⟩
    simp -dsimp only [go_sem]
    refine(G2m _ _ _ (z0g b4 (by omega) (by omega)) (z0g b1 (by omega) (by omega))).mono ?_
    rintro r st ⟨rfl,rfl⟩
    simp -dsimp only [go_sem]
    refine ck (fun h=> ?_) (fun h=> ?_)
    · have hc:W0e y (ofN a.lo)<0:=of_decide_eq_true h
      rw [if_pos hc]
      simp -dsimp only [go_sem]
      try rfl
    · have hc: ¬W0e y (ofN a.lo)<0:=of_decide_eq_false h
      rw [if_neg hc]
      simp -dsimp only [go_sem]
      refine(J1f y _ (q0f b4 (by omega))).mono ?_
      rintro r st ⟨rfl,rfl⟩
      simp -dsimp only [go_sem]
theorem W3t (lo hi:Vl) (st:Q0g) (h1:(Q0e lo.m).length≤1000000000000) (h2:(Q0e hi.m).length≤1000000000000):PCalls Tryz.prog 182 [.agg (encV lo),.agg (encV hi)] st
 (fun r st'=>r= .tup [.agg (encI (k0c lo hi).1),.sc (.int .i64 (k0c lo hi).2)]∧st'=st):=by
 refine Q0b none Tryz.func182 rfl fun E=>Q0a ?_
 unfold k0c
 simp -dsimp only [go_sem]
 refine(J1f lo _ h1).mono ?_
 rintro r st ⟨rfl,rfl⟩
 simp -dsimp only [go_sem]
 refine(J1f hi _ h2).mono ?_
 rintro r st ⟨rfl,rfl⟩
 by_cases c1:(numV lo).2=0
 · have f1:((numV lo).2 !=0)=false:=by rw [c1];rfl
   by_cases c2:(numV hi).2=0
   · have f2:((numV hi).2 !=0)=false:=by rw [c2];rfl
     rw [if_pos ⟨c1,c2⟩]
     simp -dsimp only [go_sem,f1,f2]
     try rfl
   · have f2:((numV hi).2 !=0)=true:=bne_iff_ne.2 c2
     rw [if_neg (fun h=>c2 h.2)]
     simp -dsimp only [go_sem,f1,f2]
     try rfl
 · have f1:((numV lo).2 !=0)=true:=bne_iff_ne.2 c1
   rw [if_neg (fun h=>c1 h.1)]
   simp -dsimp only [go_sem,f1]
   try rfl
end Go.Pv
end
section
/-The document's least,greatest,Op. -/
set_option maxRecDepth 100000
namespace Go.Pv
open Go.Proofs
theorem j2v (a b:Ivl) (p:Int) (st:Q0g) (ha:wI a) (hb:wI b):PCalls Tryz.prog 172 [.sc (.int .i64 1),.agg (encI a),.agg (encI b),.sc (.int .i64 p)] st (fun r st'=>r= .tup [.agg (encI (opI 1 a b p).1),.sc (.int .i64 (opI 1 a b p).2)]∧st'=st):=by
 refine Q0b none Tryz.func172 rfl fun E=>Q0a ?_
 simp -dsimp only [go_sem]
 refine(K0u a _ ha).mono ?_
 rintro r st ⟨rfl,rfl⟩
 cases r1:Q0n a with
 | false=>
  simp -dsimp only [go_sem]
  rw [opI,if_neg (by simp [r1])];rfl
 | true=>
  simp -dsimp only [go_sem]
  refine(K0u b _ hb).mono ?_
  rintro r st ⟨rfl,rfl⟩
  cases r2:Q0n b with
  | false=>
   simp -dsimp only [go_sem]
   rw [opI,if_neg (by simp [r2])];rfl
  | true=>
   simp -dsimp only [go_sem]
   refine(Z2h p _).mono ?_
   rintro r st ⟨rfl,rfl⟩
   cases r3:Z0w p with
   | false=>
    simp -dsimp only [go_sem]
    rw [opI,if_neg (by simp [r3])];rfl
   | true=>
    obtain⟨q,rfl,q1,q2,q3⟩:=j1g r3
    obtain⟨a1,a2,_⟩:=Z0c r1
    obtain⟨b1,b2,_⟩:=Z0c r2
    have hm:opI 1 a b q=k0c (Z0o (loV 1 (ofN a.lo) (ofN a.hi) (ofN b.lo) (ofN b.hi)) q false) (Z0o (hiV 1 (ofN a.lo) (ofN a.hi) (ofN b.lo) (ofN b.hi)) q true):=by rw [opI,if_pos ⟨r1,r2,r3⟩,q3]
    rw [hm]
    have d1:=v0q a1
    have d2:=v0q a2
    have d3:=v0q b1
    have d4:=v0q b2
    simp -dsimp only [go_sem]
    refine Z2f Z0n 110 [0,1,2,3,4,5,6,7,8,9,10,11] [12,13,14,15] [16,17,18,19] (.step 0 [] (.step 1 [] (.step 3 [] (.step 4 [] (.step 6 [] (.step 7 [] (.step 9 [] (.step 10 [] (.step 2 [4,7,10] (.step 5 [7,10] (.step 8 [10] (.step 11 [1] (.done))))))))))))) (.step 16 [4] (.step 17 [7] (.step 18 [] (.step 19 [] (.done))))) (by decide+kernel) (by simp) ?_
    simp -dsimp only [go_sem]
    refine(of_c a.lo _ (z0q a1)).mono ?_
    rintro r st ⟨rfl,rfl⟩
    simp -dsimp only [go_sem]
    refine(of_c a.hi _ (z0q a2)).mono ?_
    rintro r st ⟨rfl,rfl⟩
    simp -dsimp only [go_sem]
    refine(of_c b.lo _ (z0q b1)).mono ?_
    rintro r st ⟨rfl,rfl⟩
    simp -dsimp only [go_sem]
    refine(of_c b.hi _ (z0q b2)).mono ?_
    rintro r st ⟨rfl,rfl⟩
    generalize ofN a.lo=x at*
    generalize ofN a.hi=y at*
    generalize ofN b.lo=u at*
    generalize ofN b.hi=v at*
    simp -dsimp only [go_sem]
    rw [loV1,hiV1]
    refine Q0o Z0n 110 (.step 0 [] (.step 1 [] (.step 3 [] (.step 5 [] (.step 6 [] (.step 8 [] (.step 2 [5,6] (.step 4 [5,6] (.step 7 [] (.step 9 [0,1] (.step 10 [] (.step 11 [] (.step 12 [] (.step 13 [] (.step 14 [] (.done)))))))))))))))) (by decide+kernel) (by simp) ?_
    simp -dsimp only [go_sem]
    refine(H2k _ _ _ (z0g d1 (by omega) (by omega)) (z0g d4 (by omega) (by omega))).mono ?_
    rintro r st ⟨rfl,rfl⟩
    have e1:=X2x d1 d4
    simp -dsimp only [go_sem]
    refine(w1d _ q false _ (z0g e1 (by omega) (by omega)) (by omega)).mono ?_
    rintro r st ⟨rfl,rfl⟩
    have e2:=W1m e1 q false
    simp -dsimp only [go_sem]
    refine(H2k _ _ _ (z0g d2 (by omega) (by omega)) (z0g d3 (by omega) (by omega))).mono ?_
    rintro r st ⟨rfl,rfl⟩
    have e3:=X2x d2 d3
    simp -dsimp only [go_sem]
    refine(w1d _ q true _ (z0g e3 (by omega) (by omega)) (by omega)).mono ?_
    rintro r st ⟨rfl,rfl⟩
    have e4:=W1m e3 q true
    simp -dsimp only [go_sem]
    refine(W3t _ _ _ (q0f e2 (by omega)) (q0f e4 (by omega))).mono ?_
    rintro r st ⟨rfl,rfl⟩
    simp -dsimp only [go_sem]
end Go.Pv
end
section
/-The document's bad,Reckon,Scale,Has,In. -/
set_option maxRecDepth 100000
namespace Go.Pv
open Go.Proofs
theorem U1a (x:Nm) (k:Int) (st:Q0g) (hx:wN x):PCalls Tryz.prog 46 [.agg (encN x),.sc (.int .i64 k)] st (fun r st'=>r= .tup [.agg (encN (J0b x k).1),.sc (.int .i64 (J0b x k).2)]∧st'=st):=by
 unfold wN at hx
 refine Q0b none Tryz.func46 rfl fun E=>Q0a ?_
 simp -dsimp only [go_sem]
 refine(Z0k x _ (by omega)).mono ?_
 rintro r st ⟨rfl,rfl⟩
 cases r1:Q0f x with
 | false=>
  simp -dsimp only [go_sem]
  rw [J0b,if_neg (by rw [r1];simp)];rfl
 | true=>
  rw [J0b,if_pos r1]
  simp -dsimp only [go_sem]
  refine ck (fun h=> ?_) (fun h=> ?_)
  · have h0:x.w= []:=List.length_eq_zero_iff.1 (U0o (b:=0) h)
    simp -dsimp only [go_sem]
    rw [if_pos h0]
  · have h0:x.w≠ []:=fun e=>by rw [e] at h;cases h
    have hb:=J1y r1
    have b2:=hb.2.1
    have b3:=hb.2.2
    rw [if_neg h0]
    by_cases c1:131072<k
    · have f1:decide (k>131072)=true:=decide_eq_true c1
      simp -dsimp only [go_sem,f1]
      rw [if_pos (.inr c1)];rfl
    · have f1:decide (k>131072)=false:=decide_eq_false c1
      by_cases c2:k< -131072
      · have f2:decide (k< -131072)=true:=decide_eq_true c2
        simp -dsimp only [go_sem,f1,f2]
        rw [if_pos (.inl c2)];rfl
      · have f2:decide (k< -131072)=false:=decide_eq_false c2
        have x1:IntKind.i64.wrap (x.exp+k)=x.exp+k:=Q0p _ (by omega) (by omega)
        rw [if_neg (by omega)]
        simp -dsimp only [go_sem,f1,f2]
        refine Q0o Z0n 35 (.step 0 [] (.step 1 [] (.step 2 [] (.step 3 [] (.step 5 [] (.step 6 [] (.step 7 [] (.step 8 [] (.step 4 [1,6] (.step 9 [] (.step 10 [] (.step 11 [] (.step 12 [] (.step 13 [] (.step 14 [] (.done)))))))))))))))) (by decide+kernel) (by simp) ?_
        simp -dsimp only [go_sem,x1]
        refine(G2k x.w _ (by omega)).mono ?_
        rintro r st ⟨rfl,rfl⟩
        simp -dsimp only [go_sem,x1]
        have hd:=q0f (v0q r1) (by omega)
        refine(J1f ⟨x.neg,valW x.w,x.exp+k⟩ _ hd).mono ?_
        rintro r st ⟨rfl,rfl⟩
        simp -dsimp only [go_sem]
theorem j2x (a:Ivl) (x:Nm) (st:Q0g) (ha:wI a) (hx:wN x):PCalls Tryz.prog 100 [.agg (encI a),.agg (encN x)] st (fun r st'=>r= .sc (.bool (hasI a x))∧st'=st):=by
 refine Q0b none Tryz.func100 rfl fun E=>Q0a ?_
 unfold hasI
 simp -dsimp only [go_sem]
 refine(K0u a _ ha).mono ?_
 rintro r st ⟨rfl,rfl⟩
 cases r1:Q0n a with
 | false=>simp -dsimp only [go_sem];try rfl
 | true=>
  simp -dsimp only [go_sem]
  refine(Z0k x _ (by unfold wN at hx;omega)).mono ?_
  rintro r st ⟨rfl,rfl⟩
  cases r2:Q0f x with
  | false=>simp -dsimp only [go_sem];try rfl
  | true=>
   have a1:=(Z0c r1).1
   have a2:=(Z0c r1).2.1
   have e1:cmpR a.lo x=cmpN a.lo x:=if_pos ⟨a1,r2⟩
   have e2:cmpR x a.hi=cmpN x a.hi:=if_pos ⟨r2,a2⟩
   simp -dsimp only [go_sem]
   refine(H0d a.lo x _ (z0q a1) (z0q r2)).mono ?_
   rintro r st ⟨rfl,rfl⟩
   rw [e1]
   cases c1:decide (cmpN a.lo x≤0) with
   | false=>simp -dsimp only [go_sem,c1];try rfl
   | true=>
    simp -dsimp only [go_sem,c1]
    refine(H0d x a.hi _ (z0q r2) (z0q a2)).mono ?_
    rintro r st ⟨rfl,rfl⟩
    rw [e2]
    simp -dsimp only [go_sem,c1]
    try rfl
end Go.Pv
end
section
/-The document's boxes:Points,HasPoint,InBox,MeetBox,OpBox,Times,MidBox. -/
set_option maxRecDepth 100000
namespace Go.Pv
open Go.Proofs
theorem Z2g (p:Int) (st:Q0g):PCalls Tryz.prog 170 [.sc (.int .i64 p)] st (fun r st'=>r= .sc (.bool (Z0w p))∧st'=st):=by
 refine Q0b none Tryz.func170 rfl fun E=>Q0a ?_
 unfold Z0w
 by_cases h:8≤p
 · have f1:decide (p≥8)=true:=decide_eq_true h
   have f2:decide (8≤p)=true:=decide_eq_true h
   simp -dsimp only [go_sem,f1,f2]
   try simp
 · have f1:decide (p≥8)=false:=decide_eq_false h
   have f2:decide (8≤p)=false:=decide_eq_false h
   simp -dsimp only [go_sem,f1,f2]
   try simp
theorem k2s (q:List Nm) (st:Q0g) (hq:wNs q):PCalls Tryz.prog 142 [.sl .no (Q0x q)] st (fun r st'=>r= .sl (.fresh 6) (Q0u (ofB q))∧st'=st):=by
 obtain⟨hl,hw⟩:=hq
 refine Q0b none Tryz.func142 rfl fun E=>Q0a ?_
 simp -dsimp only [go_sem]
 refine X0b 3 6 ?_
 simp -dsimp only [go_sem]
 refine Q0d [true,false,false,true,true] 0 1
  (fun n s=> ∃i,n=q.length-i∧i≤q.length∧s=⟨[.sl .no (Q0x q),.junk,.junk,.sl (.own 0) (Q0u (ofB (q.take i))),.sc (.int .i64 (i:Nat))]++List.replicate 15 .junk,[],[((ofB (q.take i)).length,6)],st⟩) q.length ?_ ?_
 · simp -dsimp only [go_sem]
   exact⟨0,by omega,by omega,rfl⟩
 · rintro n s ⟨i,rfl,hi,rfl⟩
   simp -dsimp only [go_sem]
   refine ck (fun h'=> ?_) (fun h'=> ?_)
   · have hlt:i<q.length:=by have:=of_decide_eq_true h';omega
     have e1:=J0z q i hlt
     have e3:IntKind.i64.wrap ((i:Int)+1)=((i+1:Nat):Int):=by rw [Q0p _ (by omega) (by omega)];omega
     have ll:(ofB (q.take i)).length=i:=by simp [ofB];omega
     simp -dsimp only [go_sem,e1]
     refine⟨⟨by omega,hlt⟩,?_⟩
     refine(G2f _ _).mono ?_
     rintro r st ⟨rfl,rfl⟩
     simp -dsimp only [go_sem,e3]
     refine⟨⟨by omega,by omega⟩,q.length-(i+1),by omega,i+1,rfl,by omega,?_⟩
     rw [v2g q i hlt]
     simp [Q0u,encI]
   · have hge:i=q.length:=by have:=of_decide_eq_false h';omega
     simp -dsimp only [go_sem]
     refine Q0a ?_
     simp -dsimp only [go_sem]
     rw [hge,List.take_length]
theorem k2z (a b:List Ivl) (p:Int) (st:Q0g) (ha:wB a) (hb:wB b):PCalls Tryz.prog 141 [.sc (.int .i64 1),.sl .no (Q0u a),.sl .no (Q0u b),.sc (.int .i64 p)] st (fun r st'=>r= .tup [.sl .no (Q0u (opB 1 a b p).1),.sc (.int .i64 (opB 1 a b p).2)]∧st'=st):=by
 refine Q0b none Tryz.func141 rfl fun E=>Q0a ?_
 simp -dsimp only [go_sem]
 refine(Y0i a _ ha).mono ?_
 rintro r st ⟨rfl,rfl⟩
 cases r1:rightB a with
 | false=>
  simp -dsimp only [go_sem]
  rw [opB,if_neg (by simp [r1])];rfl
 | true=>
  simp -dsimp only [go_sem]
  refine(Y0i b _ hb).mono ?_
  rintro r st ⟨rfl,rfl⟩
  cases r2:rightB b with
  | false=>
   simp -dsimp only [go_sem]
   rw [opB,if_neg (by simp [r2])];rfl
  | true=>
   by_cases hl:a.length=b.length
   · have f1:((a.length:Int) !=(b.length:Int))=false:=by rw [hl];simp
     simp -dsimp only [go_sem,f1]
     refine(Z2g p _).mono ?_
     rintro r st ⟨rfl,rfl⟩
     cases r3:Z0w p with
     | false=>
      simp -dsimp only [go_sem,f1]
      rw [opB,if_neg (by simp [r3])];rfl
     | true=>
      have hla:=ha.1
      have hab:opB 1 a b p=Y0c (fun i x=>opI 1 x (b.getD i default) p) 0 a []:=if_pos ⟨r1,r2,hl,r3⟩
      rw [hab]
      simp -dsimp only [go_sem,f1]
      refine X0b 10 6 ?_
      simp -dsimp only [go_sem]
      refine Q0d [true,true,true,true,false,false,false,false,false,false,true,true] 0 1 (fun n s=> ∃i o,n=a.length-i∧i≤a.length∧o.length=i∧Y0c (fun i x=>opI 1 x (b.getD i default) p) 0 a []=Y0c (fun i x=>opI 1 x (b.getD i default) p) i (a.drop i) o∧s=⟨[.sc (.int .i64 1),.sl .no (Q0u a),.sl .no (Q0u b),.sc (.int .i64 p),.junk,.junk,.junk,.junk,.junk,.junk,.sl (.own 0) (Q0u o),.sc (.int .i64 (i:Nat))]++List.replicate 50 .junk,[],[(o.length,6)],st⟩) a.length ?_ ?_
      · simp -dsimp only [go_sem]
        exact⟨0,[],by omega,by omega,rfl,rfl,rfl⟩
      · rintro n s ⟨i,o,rfl,hi,ho,hr,rfl⟩
        simp -dsimp only [go_sem]
        refine ck (fun h'=> ?_) (fun h'=> ?_)
        · have hlt:i<a.length:=by have:=of_decide_eq_true h';omega
          have e1:=J0j a i hlt
          have e2:=J0j b i (by omega)
          have e3:IntKind.i64.wrap ((i:Int)+1)=((i+1:Nat):Int):=by rw [Q0p _ (by omega) (by omega)];omega
          have e4:=G1k (fun i x=>opI 1 x (b.getD i default) p) a i o hlt
          simp -dsimp only [go_sem]
          refine Q0o Z0n 62 (.step 0 [] (.step 1 [] (.step 2 [] (.step 3 [] (.step 4 [] (.step 5 [] (.step 6 [] (.step 7 [] (.step 8 [] (.step 9 [] (.alt (.step 10 [] (.step 11 [] (.step 12 [] (.step 13 [] (.step 14 [4,8] (.step 15 [] (.step 16 [] (.done)))))))) (.step 14 [4,8] (.step 10 [] (.step 11 [] (.step 12 [] (.step 13 [] (.step 15 [] (.step 16 [] (.done))))))))))))))))))) (by decide+kernel) (by simp) ?_
          simp -dsimp only [go_sem,e1,e2]
          refine⟨⟨by omega,by omega⟩,⟨by omega,by omega⟩,?_,?_⟩
          all_goals
           refine(j2v _ _ p _ (ha.2 i hlt) (hb.2 i (by omega))).mono ?_
           rintro r st ⟨rfl,rfl⟩
           simp -dsimp only [go_sem,e1,e2]
           refine ck (fun h2=> ?_) (fun h2=> ?_)
           · have hne:=Y1h h2
             simp -dsimp only [go_sem]
             rw [hr,e4,if_pos hne];rfl
           · have he:=z1k h2
             simp -dsimp only [go_sem,e3]
             refine⟨by omega,a.length-(i+1),by omega,i+1,o++ [(opI 1 (a.getD i default) (b.getD i default) p).1],rfl,by omega,by simp [ho],?_,?_⟩
             · rw [hr,e4,if_neg (fun hh=>hh he)]
             · simp [Q0u,encI]
        · have hge:i=a.length:=by have:=of_decide_eq_false h';omega
          simp -dsimp only [go_sem]
          refine Q0a ?_
          simp -dsimp only [go_sem]
          rw [hr,hge,List.drop_length];rfl
   · have f1:((a.length:Int) !=(b.length:Int))=true:=by rw [bne_iff_ne];omega
     simp -dsimp only [go_sem,f1]
     rw [opB,if_neg (fun h=>hl h.2.2.1)];rfl
theorem v2p (b:List Ivl) (p:Int) (st:Q0g) (hb:wB b):PCalls Tryz.prog 140 [.sl .no (Q0u b),.sc (.int .i64 p)] st (fun r st'=>r= .tup [.sl .no (Q0x (midB b p).1),.sc (.int .i64 (midB b p).2)]∧st'=st):=by
 refine Q0b none Tryz.func140 rfl fun E=>Q0a ?_
 simp -dsimp only [go_sem]
 refine(Y0i b _ hb).mono ?_
 rintro r st ⟨rfl,rfl⟩
 cases r1:rightB b with
 | false=>
  simp -dsimp only [go_sem]
  rw [midB,if_neg (by simp [r1])];rfl
 | true=>
  simp -dsimp only [go_sem]
  refine(Z2g p _).mono ?_
  rintro r st ⟨rfl,rfl⟩
  cases r3:Z0w p with
  | false=>
   simp -dsimp only [go_sem]
   rw [midB,if_neg (by simp [r3])];rfl
  | true=>
   have hla:=hb.1
   have hab:midB b p=Y0c (fun _ a=>midI a p) 0 b []:=if_pos ⟨r1,r3⟩
   rw [hab]
   simp -dsimp only [go_sem]
   refine X0b 6 3 ?_
   simp -dsimp only [go_sem]
   refine Q0d [true,true,false,false,false,false,true,true] 0 1 (fun n s=> ∃i o,n=b.length-i∧i≤b.length∧o.length=i∧Y0c (fun _ a=>midI a p) 0 b []=Y0c (fun _ a=>midI a p) i (b.drop i) o∧s=⟨[.sl .no (Q0u b),.sc (.int .i64 p),.junk,.junk,.junk,.junk,.sl (.own 0) (Q0x o),.sc (.int .i64 (i:Nat))]++List.replicate 33 .junk,[],[(o.length,3)],st⟩) b.length ?_ ?_
   · simp -dsimp only [go_sem]
     exact⟨0,[],by omega,by omega,rfl,rfl,rfl⟩
   · rintro n s ⟨i,o,rfl,hi,ho,hr,rfl⟩
     simp -dsimp only [go_sem]
     refine ck (fun h'=> ?_) (fun h'=> ?_)
     · have hlt:i<b.length:=by have:=of_decide_eq_true h';omega
       have e1:=J0j b i hlt
       have e3:IntKind.i64.wrap ((i:Int)+1)=((i+1:Nat):Int):=by rw [Q0p _ (by omega) (by omega)];omega
       have e4:=G1k (fun _ a=>midI a p) b i o hlt
       simp -dsimp only [go_sem,e1]
       refine⟨⟨by omega,by omega⟩,?_⟩
       refine(j2w _ p _ (hb.2 i hlt)).mono ?_
       rintro r st ⟨rfl,rfl⟩
       simp -dsimp only [go_sem,e1]
       refine ck (fun h2=> ?_) (fun h2=> ?_)
       · have hne:=Y1h h2
         simp -dsimp only [go_sem]
         rw [hr,e4,if_pos hne];rfl
       · have he:=z1k h2
         simp -dsimp only [go_sem,e3]
         refine⟨by omega,b.length-(i+1),by omega,i+1,o++ [(midI (b.getD i default) p).1],rfl,by omega,by simp [ho],?_,?_⟩
         · rw [hr,e4,if_neg (fun hh=>hh he)]
         · simp [Q0x,encN]
     · have hge:i=b.length:=by have:=of_decide_eq_false h';omega
       simp -dsimp only [go_sem]
       refine Q0a ?_
       simp -dsimp only [go_sem]
       rw [hr,hge,List.drop_length];rfl
end Go.Pv
end
section
/-The document's boxes:MeetBox,widest,WideBox,Blow;Nums. -/
set_option maxRecDepth 100000
namespace Go.Pv
open Go.Proofs
def G4h (o:List Nm):Nm:=if o.length=0 then default else o.getD (amax o o.length) default
end Go.Pv
end
section
/-The law's parts and reckons. -/
set_option maxRecDepth 100000
namespace Go.Pv
open Go.Proofs
theorem k1u {α β:Type} (F:Nat→α→β×Int) (P:β→Prop) (hp: ∀i x,x∈([]:List α)∨P (F i x).1): ∀(l:List α) (i:Nat) (acc:List β),(∀y,y∈acc→P y)→(∀y,y∈(Y0c F i l acc).1→P y)∧(Y0c F i l acc).1.length≤acc.length+l.length
 | [],i,acc,h=>⟨h,by simp [Y0c]⟩
 | x::l,i,acc,h=>by
  unfold Y0c
  split
  · exact⟨fun y hy=>by simp at hy,by simp⟩
  · obtain⟨h1,h2⟩:=k1u F P hp l (i+1) (acc++ [(F i x).1]) (fun y hy=>by
     rcases List.mem_append.1 hy with h3 | h3
     · exact h y h3
     · rw [List.mem_singleton.1 h3];rcases hp i x with h4 | h4
       · simp at h4
       · exact h4)
    exact⟨h1,by simp at h2⊢;omega⟩
theorem q2v (F:Nat→Ivl→Nm×Int) (hF: ∀i x,wN (F i x).1) (l:List Ivl) (hl:l.length≤100000000000):wNs (Y0c F 0 l []).1:=by
 obtain⟨h1,h2⟩:=k1u F wN (fun i x=> .inr (hF i x)) l 0 [] (fun y hy=>by simp at hy)
 exact⟨by simp at h2;omega,fun i hi=>h1 _ (Z0e _ i default hi)⟩
theorem X3z :wNs []:=⟨by simp,fun i hi=>by simp at hi⟩
theorem J3a (b:List Ivl) (p:Int) (hb:wB b):wNs (midB b p).1:=by
 unfold midB
 split
 · exact q2v _ (fun i x=>q3j (J0v (j0o _ _))) b hb.1
 · exact X3z
end Go.Pv
end
section
/-The law's known and light. -/
set_option maxRecDepth 100000
namespace Go.Pv
open Go.Proofs
def k1 :Nm:=⟨false,0,[1]⟩
def k2 :Nm:=⟨false,1,[1]⟩
def k4 :Nm:=⟨false,2,[1]⟩
def kB :List Ivl:= [⟨default,k1⟩,⟨default,k4⟩]
def kX :List Ivl:= [⟨default,k1⟩,⟨default,k2⟩]
def kY :List Ivl:= [⟨default,k1⟩,⟨k2,k4⟩]
def kSm :List Ivl:= [⟨default,k2⟩,⟨k2,⟨false,1,[3]⟩⟩]
def kM :List Nm:= [⟨false, -1,[1]⟩,k2]
def kZ :List Ivl:= [⟨⟨true, -2,[1]⟩,⟨false, -2,[5]⟩⟩,⟨⟨true,0,[1]⟩,⟨false,0,[5]⟩⟩]
theorem Y0g (i:Nat) (h:i<100000000000000):IntKind.i64.wrap ((i:Int)+1)=((i+1:Nat):Int):=by rw [Q0p _ (by omega) (by omega)];omega
def U4e (l:List (List Ivl)):List PV:=l.map fun c=> .sl .no (Q0u c)
end Go.Pv
end
