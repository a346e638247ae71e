/- Parts of the walk: N156, N157. -/
import Derived.Test.YtofoadghajnglaaGreatDoorZFM
import Derived.Test.YtofoadghajnglaaGreatDoorZBX
import Derived.Test.YtofoadghajnglaaGreatDoorZAE
import Derived.Test.YtofoadghajnglaaGreatDoorZH
import Derived.Test.YtofoadghajnglaaGreatDoorZAR
import Derived.Test.YtofoadghajnglaaGreatDoorZFN
set_option linter.unusedVariables false
set_option linter.unusedSimpArgs false
section
/-The seat's exact determinants:Vals,Minor,Det,Cofactor. -/
set_option maxRecDepth 100000
namespace Go.Pv
open Go.Proofs
set_option maxHeartbeats 1000000 in
theorem G3n (q:List (List Nm)) (st:Q0d) (hw:wQ q):PCalls Tryz.prog 23 [.sl .no (encQ q)] st (fun r st'=>r= .sl (.fresh 1) (X0t (H0e q))∧st'=st):=by
 obtain⟨hl,hw⟩:=hw
 refine Q0b none Tryz.func23 rfl fun E=>Q0a ?_
 simp -dsimp only [go_sem]
 refine J0j 3 1 ?_
 simp -dsimp only [go_sem]
 refine Q0e [true,false,false,true,true] 0 1
  (fun m s=> ∃i,m=q.length-i∧i≤q.length∧s=⟨[.sl .no (encQ q),.junk,.junk,.sl (.own 0) (X0t (H0e (q.take i))),.sc (.int .i64 (i:Nat))]++List.replicate 33 .junk,[],[(i,1)],st⟩) q.length ?_ ?_
 · simp -dsimp only [go_sem]
   exact⟨0,by omega,by omega,rfl⟩
 rintro m s ⟨i,rfl,hi,rfl⟩
 simp -dsimp only [go_sem]
 refine ck (fun h1=> ?_) (fun h1=> ?_)
 rotate_left
 · have hge:i=q.length:=by have:=of_decide_eq_false h1;omega
   subst hge
   simp -dsimp only [go_sem]
   refine Q0a ?_
   simp -dsimp only [go_sem]
   rw [List.take_length,if_pos (by simp [H0e])]
 have hlt:i<q.length:=by have:=of_decide_eq_true h1;omega
 have x1:=V0b i (by omega)
 have eQ:=H0z q i hlt
 have hwi:=hw i hlt
 have hli:=hwi.1
 have lv:(H0e (q.take i)).length=i:=by unfold H0e;rw [List.length_map,List.length_take];omega
 simp -dsimp only [go_sem]
 refine J0j 5 3 ?_
 simp -dsimp only [go_sem]
 refine Q0e [true,false,false,true,true,true,true] 0 2
  (fun m s=> ∃j,m=(q.getD i []).length-j∧j≤(q.getD i []).length∧s=⟨[.sl .no (encQ q),.junk,.junk,.sl (.own 0) (X0t (H0e (q.take i))),.sc (.int .i64 (i:Nat)),.sl (.own 1) (J0s (((q.getD i []).take j).map ofN)),.sc (.int .i64 (j:Nat))]++List.replicate 31 .junk,[],[(i,1),(j,3)],st⟩) (q.getD i []).length ?_ ?_
 · simp -dsimp only [go_sem]
   exact⟨0,by omega,by omega,rfl⟩
 rintro m s ⟨j,rfl,hj,rfl⟩
 simp -dsimp only [go_sem,eQ]
 refine⟨by omega,?_⟩
 refine ck (fun h2=> ?_) (fun h2=> ?_)
 rotate_left
 · have hge:j=(q.getD i []).length:=by have:=of_decide_eq_false h2;omega
   subst hge
   have hsn:H0e (q.take (i+1))=H0e (q.take i)++ [(q.getD i []).map ofN]:=by
    unfold H0e
    rw [H0h [] q hlt,List.map_append];rfl
   simp -dsimp only [go_sem]
   refine Q0a ?_
   simp -dsimp only [go_sem,lv]
   refine⟨⟨by omega,by omega⟩,Q0a ?_⟩
   simp -dsimp only [go_sem,x1]
   refine⟨q.length-(i+1),by omega,i+1,rfl,by omega,?_⟩
   rw [hsn,List.take_length]
   try simp
 have hjn:j<(q.getD i []).length:=by have:=of_decide_eq_true h2;omega
 have x2:=V0b j (by omega)
 have eN:=G0z (q.getD i []) j hjn
 have hwj:=hwi.2 j hjn
 have lj:(((q.getD i []).take j).map ofN).length=j:=by rw [List.length_map,List.length_take];omega
 unfold wN at hwj
 simp -dsimp only [go_sem,eQ,eN]
 refine⟨by omega,⟨by omega,hjn⟩,?_⟩
 refine(of_c _ _ (by omega)).mono ?_
 rintro res st' ⟨rfl,rfl⟩
 have lj2:((q.getD i []).take j).length=j:=by rw [List.length_take];omega
 have hsn:((q.getD i []).take (j+1)).map ofN=((q.getD i []).take j).map ofN++ [ofN ((q.getD i []).getD j default)]:=by
  rw [H0h default _ hjn,List.map_append];rfl
 simp -dsimp only [go_sem,x2,lj,lj2]
 refine⟨⟨by omega,by omega⟩,(q.getD i []).length-(j+1),by omega,j+1,rfl,by omega,?_⟩
 rw [hsn]
 simp [J0s,encV]
theorem H2k (n r:Nat):(but n r).length≤n:=by
 unfold but
 exact Nat.le_trans (List.length_filter_le _ _) (by simp)
set_option maxHeartbeats 1000000 in
theorem Y2j (u:List (List Vl)) (n r c:Nat) (st:Q0d) (hu:u.length=n) (hr: ∀i,i<n→(u.getD i []).length=n) (h4:n≤4):PCalls Tryz.prog 73 [.sl .no (X0t u),.sc (.int .i64 r),.sc (.int .i64 c)] st (fun res st'=>res= .sl (.fresh 1) (X0t (minU u n (but n r) c))∧st'=st):=by
 refine Q0b none Tryz.func73 rfl fun E=>Q0a ?_
 simp -dsimp only [go_sem]
 refine J0j 7 1 ?_
 simp -dsimp only [go_sem]
 refine Q0e [true,true,true,false,false,false,false,true,true] 0 1
  (fun m s=> ∃i,m=n-i∧i≤n∧s=⟨[.sl .no (X0t u),.sc (.int .i64 r),.sc (.int .i64 c),.junk,.junk,.junk,.junk,.sl (.own 0) (X0t (minU u n (but i r) c)),.sc (.int .i64 (i:Nat))]++List.replicate 35 .junk,[],[((but i r).length,1)],st⟩) n ?_ ?_
 · simp -dsimp only [go_sem]
   exact⟨0,by omega,by omega,rfl⟩
 rintro m s ⟨i,rfl,hi,rfl⟩
 have lm:(minU u n (but i r) c).length=(but i r).length:=by unfold minU;rw [List.length_map]
 have bl:=H2k i r
 simp -dsimp only [go_sem,hu]
 refine ck (fun h1=> ?_) (fun h1=> ?_)
 rotate_left
 · have hge:i=n:=by have:=of_decide_eq_false h1;omega
   subst hge
   simp -dsimp only [go_sem]
   refine Q0a ?_
   simp -dsimp only [go_sem]
   rw [if_pos lm.symm]
 have hlt:i<n:=by have:=of_decide_eq_true h1;omega
 have x1:=V0b i (by omega)
 have eU:=z1m u i (by omega)
 have hbs:=Z2b i r
 simp -dsimp only [go_sem]
 refine ck (fun h2=> ?_) (fun h2=> ?_)
 · have hir:i=r:=Int.ofNat_inj.1 (by simpa using h2)
   rw [if_pos hir,List.append_nil] at hbs
   simp -dsimp only [go_sem,x1]
   refine Q0a ?_
   simp -dsimp only [go_sem,x1]
   refine⟨n-(i+1),by omega,i+1,rfl,by omega,?_⟩
   rw [hbs]
 have hir:i≠r:=fun e=>by subst e;simp at h2
 rw [if_neg hir] at hbs
 simp -dsimp only [go_sem]
 refine J0j 9 3 ?_
 simp -dsimp only [go_sem]
 refine Q0e [true,true,true,false,false,false,false,true,true,true,true] 0 2
  (fun m s=> ∃j,m=n-j∧j≤n∧s=⟨[.sl .no (X0t u),.sc (.int .i64 r),.sc (.int .i64 c),.junk,.junk,.junk,.junk,.sl (.own 0) (X0t (minU u n (but i r) c)),.sc (.int .i64 (i:Nat)),.sl (.own 1) (J0s (rowB u i (but j c))),.sc (.int .i64 (j:Nat))]++List.replicate 33 .junk,[],[((but i r).length,1),((but j c).length,3)],st⟩) n ?_ ?_
 · simp -dsimp only [go_sem]
   exact⟨0,by omega,by omega,rfl⟩
 rintro m s ⟨j,rfl,hj,rfl⟩
 have lj:(rowB u i (but j c)).length=(but j c).length:=by unfold rowB;rw [List.length_map]
 have bj:=H2k j c
 simp -dsimp only [go_sem,hu]
 refine ck (fun h3=> ?_) (fun h3=> ?_)
 rotate_left
 · have hge:j=n:=by have:=of_decide_eq_false h3;omega
   subst hge
   have hsn:minU u j (but (i+1) r) c=minU u j (but i r) c++ [rowB u i (but j c)]:=by
    unfold minU;rw [hbs,List.map_append];rfl
   have hbl:(but (i+1) r).length=(but i r).length+1:=by rw [hbs];simp
   simp -dsimp only [go_sem]
   refine Q0a ?_
   simp -dsimp only [go_sem,lm,lj]
   refine⟨⟨by omega,by omega⟩,Q0a ?_⟩
   simp -dsimp only [go_sem,x1]
   refine⟨j-(i+1),by omega,i+1,rfl,by omega,?_⟩
   rw [hsn,hbl]
   try simp
 have hjn:j<n:=by have:=of_decide_eq_true h3;omega
 have x2:=V0b j (by omega)
 have hbj:=Z2b j c
 simp -dsimp only [go_sem]
 refine ck (fun h4=> ?_) (fun h4=> ?_)
 · have hjc:j≠c:=fun e=>by subst e;simp at h4
   rw [if_neg hjc] at hbj
   have eV:=J1w (u.getD i []) j (by rw [hr i hlt];exact hjn)
   have hri:=hr i hlt
   have hsn:rowB u i (but (j+1) c)=rowB u i (but j c)++ [(u.getD i []).getD j default]:=by
    unfold rowB;rw [hbj,List.map_append];rfl
   have hbl:(but (j+1) c).length=(but j c).length+1:=by rw [hbj];simp
   simp -dsimp only [go_sem,eU,eV,hri,hu,lj,x2]
   refine⟨⟨by omega,hlt⟩,⟨by omega,hjn⟩,⟨by omega,by omega⟩,n-(j+1),by omega,j+1,rfl,by omega,?_⟩
   rw [hsn,hbl]
   simp [J0s,encV]
 · have hjc:j=c:=Int.ofNat_inj.1 (by simpa using h4)
   rw [if_pos hjc,List.append_nil] at hbj
   simp -dsimp only [go_sem,x2]
   refine⟨n-(j+1),by omega,j+1,rfl,by omega,?_⟩
   rw [hbj]
theorem RV.detS {f:Nat→Nat→Rat} {D:Nat→Rat} {j:Nat} {t v:Vl} (ht:RV (detS f D j) t) (hv:RV (f 0 j*D j) v):RV (detS f D (j+1)) (q0m t (if j % 2=1 then J0r v else v)):=by
 rw [Go.Pv.detS]
 refine RV.plus ht ?_
 unfold sgnQ
 split
 · exact hv.turn
 · exact hv
set_option maxHeartbeats 2000000 in
theorem V3s {L U:Nat} (hLU:L+U≤50000): ∀(n:Nat),n≤4→ ∀(f:Nat→Nat→Rat) (u:List (List Vl)) (st:Q0d),RU n f u→luF n L U f→
 PCalls Tryz.prog 24 [.sl .no (X0t u)] st (fun res st'=> ∃v,RV (detQ n f) v∧res= .agg (encV v)∧st'=st)
 | 0,_,f,u,st,hu,hf=>by
  have hl:u.length=0:=hu.1
  refine Q0b none Tryz.func24 rfl fun E=>Q0a ?_
  have z0:(((u.length:Nat):Int)==0)=true:=by rw [hl];rfl
  simp -dsimp only [go_sem,z0]
  refine(Z3t 1 _ (by omega)).mono ?_
  rintro res st' ⟨rfl,rfl⟩
  simp -dsimp only [go_sem]
  exact⟨_,RV.whole 1,rfl⟩
 | n+1,h4,f,u,st,hu,hf=>by
  have hl:u.length=n+1:=hu.1
  have z0:(((u.length:Nat):Int)==0)=false:=beq_eq_false_iff_ne.2 (by omega)
  have hD: ∀j,j<n+1→luQ (n*L) (n*(U+4)) (detQ n fun i k=>f (i+1) (J0m j k)):=fun j hj=>Q2d n (by omega) _ fun i k hi hk=>hf _ _ (by omega) (x0z (n:=n+1) hk)
  have hS:=k1k (D:=fun j=>detQ n fun i k=>f (i+1) (J0m j k)) hf (by omega) hD
  refine Q0b none Tryz.func24 rfl fun E=>Q0a ?_
  simp -dsimp only [go_sem,z0]
  refine q0r 1 ?_
  simp -dsimp only [go_sem]
  refine J0o [true,false,true,true,true] 2 0
   (fun m s=> ∃(j:Nat) (t:Vl),m=n+1-j∧j≤n+1∧RV (detS f (fun j=>detQ n fun i k=>f (i+1) (J0m j k)) j) t∧
    s=⟨[.sl .no (X0t u),.junk,.lp 0 0,.lp 1 0,.sc (.int .i64 (j:Nat))]++List.replicate 31 .junk,[[.sc (.bool false),.sl .full [],.sc (.int .i64 0)],encV t],[],st⟩) (n+1) ?_ ?_
  · simp -dsimp only [go_sem]
    have dz:Q0g 0= []:=by decide+kernel
    exact⟨0,⟨false,0,0⟩,by omega,by omega,RV.zero,by simp [dz,encD]⟩
  rintro m s ⟨j,t,rfl,hj,ht,rfl⟩
  refine Q0n (Q0a ?_)
  simp -dsimp only [go_sem,hl]
  refine ck (fun h1=> ?_) (fun h1=> ?_)
  rotate_left
  · have hge:j=n+1:=by have:=of_decide_eq_false h1;omega
    subst hge
    simp -dsimp only [go_sem]
    refine Q0a ?_
    simp -dsimp only [go_sem]
    exact⟨t,ht,rfl⟩
  have hlt:j<n+1:=by have:=of_decide_eq_true h1;omega
  have x1:=V0b j (by omega)
  have hU0:=hu.2 0 (by omega)
  have eU:=z1m u 0 (by omega)
  have eV:=J1w (u.getD 0 []) j (by rw [hU0.1];exact hlt)
  have hfv:=hU0.2 j hlt
  have lf:=hf 0 j (by omega) hlt
  have sf:=hfv.sm lf (by omega)
  have cM:=(Y2j u (n+1) 0 j st hl (fun i hi=>(hu.2 i hi).1) h4).plain
  have hm:=hu.minor h4 (r:=0) (c:=j) (by omega) hlt
  rw [show n+1-1=n from rfl] at hm
  have hfm:(fun i k=>f (J0m 0 i) (J0m j k))=fun i k=>f (i+1) (J0m j k):=rfl
  rw [hfm] at hm
  have cD:=V3s hLU n (by omega) (fun i k=>f (i+1) (J0m j k)) (minU u (n+1) (but (n+1) 0) j) st hm fun i k hi hk=>hf _ _ (by omega) (x0z (n:=n+1) hk)
  have hDj:=hD j hlt
  have hn3:n≤3:=by omega
  have hnL:n*L≤3*L:=Nat.mul_le_mul_right _ hn3
  have hnU:n*(U+4)≤3*(U+4):=Nat.mul_le_mul_right _ hn3
  simp -dsimp only [go_sem]
  refine Q0n (V0e ?_)
  refine K0q [true,false,true,true,true,true] 3 0
   (fun s=> ∃v,RV (f 0 j*detQ n fun i k=>f (i+1) (J0m j k)) v∧s=⟨[.sl .no (X0t u),.junk,.lp 0 0,.lp 1 0,.sc (.int .i64 (j:Nat)),.lp 2 0]++List.replicate 30 .junk,[[.sc (.bool false),.sl .full [],.sc (.int .i64 0)],encV t,encV v],[],st⟩) ?_ ?_
  · simp -dsimp only [go_sem]
    refine Q0p Z0y 36 (.step 0 [] (.step 1 [] (.step 2 [] (.step 3 [] (.step 4 [] (.step 5 [] (.step 6 [] (.step 7 [] (.alt (.step 8 [2,5] (.alt (.step 9 [2,5] (.alt (.step 10 [] (.step 11 [2,5] (.step 12 [] (.done)))) (.step 11 [2,5] (.step 10 [] (.step 12 [] (.done)))))) (.step 11 [2,5] (.step 9 [2,5] (.step 10 [] (.step 12 [] (.done))))))) (.step 11 [2,5] (.step 8 [2,5] (.step 9 [2,5] (.step 10 [] (.step 12 [] (.done))))))))))))))) (by decide+kernel) (by simp) ?_
    simp -dsimp only [go_sem,eU,eV,hU0.1,hl]
    refine⟨⟨by omega,by omega⟩,?_⟩
    refine And.intro ?_ ?_
    · refine cM.mono ?_
      rintro res st1 ⟨rfl,rfl⟩
      simp -dsimp only [go_sem,eU,eV,hU0.1,hl]
      refine And.intro ?_ ?_
      · refine cD.mono ?_
        rintro res st2 ⟨d,hd,rfl,rfl⟩
        have sd:=hd.sm hDj (by omega)
        simp -dsimp only [go_sem,eU,eV,hU0.1,hl]
        refine And.intro ?_ ?_
        all_goals
         refine(by_c _ d _ sf sd).mono ?_
         rintro res st3 ⟨rfl,rfl⟩
         simp -dsimp only [go_sem,eU,eV,hU0.1,hl]
         exact⟨_,RV.by hfv hd,rfl⟩
      · refine cD.mono ?_
        rintro res st2 ⟨d,hd,rfl,rfl⟩
        have sd:=hd.sm hDj (by omega)
        simp -dsimp only [go_sem,eU,eV,hU0.1,hl]
        refine(by_c _ d _ sf sd).mono ?_
        rintro res st3 ⟨rfl,rfl⟩
        simp -dsimp only [go_sem,eU,eV,hU0.1,hl]
        exact⟨_,RV.by hfv hd,rfl⟩
    · refine cM.mono ?_
      rintro res st1 ⟨rfl,rfl⟩
      simp -dsimp only [go_sem,eU,eV,hU0.1,hl]
      refine cD.mono ?_
      rintro res st2 ⟨d,hd,rfl,rfl⟩
      have sd:=hd.sm hDj (by omega)
      simp -dsimp only [go_sem,eU,eV,hU0.1,hl]
      refine(by_c _ d _ sf sd).mono ?_
      rintro res st3 ⟨rfl,rfl⟩
      simp -dsimp only [go_sem,eU,eV,hU0.1,hl]
      exact⟨_,RV.by hfv hd,rfl⟩
  rintro s ⟨v,hv,rfl⟩
  have htD:=ht
  have hj1:=hS j (by omega)
  have st1:=ht.sm hj1 (by omega)
  have sv:=hv.sm (q0v lf hDj) (by omega)
  have svt:=hv.turn.sm (w0x (q0v lf hDj)) (by omega)
  have hstep:=RV.detS ht hv
  have xr:(j:Int).tmod 2=((j % 2:Nat):Int):=by rw [Int.tmod_eq_emod_of_nonneg (by omega)];omega
  refine Q0a ?_
  simp -dsimp only [go_sem]
  refine ck (fun h2=> ?_) (fun h2=> ?_)
  · have e2:j % 2=1:=by
     rw [xr] at h2
     have:=beq_iff_eq.1 h2
     omega
    rw [if_pos e2] at hstep
    simp -dsimp only [go_sem]
    refine(j0t v _).mono ?_
    rintro res st2 ⟨rfl,rfl⟩
    simp -dsimp only [go_sem]
    refine(W2h t (J0r v) _ st1 svt).mono ?_
    rintro res st2 ⟨rfl,rfl⟩
    simp -dsimp only [go_sem,x1]
    refine Q0a ?_
    simp -dsimp only [go_sem,x1]
    exact⟨n+1-(j+1),by omega,j+1,_,rfl,by omega,hstep,rfl⟩
  · have e2: ¬j % 2=1:=fun e=>by
     rw [xr,e] at h2
     exact absurd h2 (by decide)
    rw [if_neg e2] at hstep
    simp -dsimp only [go_sem]
    refine(W2h t v _ st1 sv).mono ?_
    rintro res st2 ⟨rfl,rfl⟩
    simp -dsimp only [go_sem,x1]
    refine Q0a ?_
    simp -dsimp only [go_sem,x1]
    exact⟨n+1-(j+1),by omega,j+1,_,rfl,by omega,hstep,rfl⟩
theorem J2v {L U:Nat} (hLU:L+U≤50000) {n:Nat} (h1:1≤n) (h4:n≤4) (f:Nat→Nat→Rat) (u:List (List Vl)) (i j:Nat) (st:Q0d) (hu:RU n f u) (hf:luF n L U f) (hi:i<n) (hj:j<n):
 PCalls Tryz.prog 26 [.sl .no (X0t u),.sc (.int .i64 (i:Nat)),.sc (.int .i64 (j:Nat))] st (fun res st'=> ∃v,RV (cofQ n f i j) v∧res= .agg (encV v)∧st'=st):=by
 have cD:=V3s hLU (n-1) (by omega) (fun a b=>f (J0m j a) (J0m i b)) (minU u n (but n j) i) st (hu.minor h4 hj hi) (hf.minor j i)
 have w1:IntKind.i64.wrap ((i:Int)+(j:Int))=((i+j:Nat):Int):=by rw [show((i:Int)+j)=((i+j:Nat):Int) by omega,Q0j _ (by omega)]
 have xr:((i+j:Nat):Int).tmod 2=(((i+j) % 2:Nat):Int):=by rw [Int.tmod_eq_emod_of_nonneg (by omega)];omega
 refine Q0b none Tryz.func26 rfl fun E=>Q0a ?_
 simp -dsimp only [go_sem]
 refine(Y2j u n j i _ hu.1 (fun i hi=>(hu.2 i hi).1) h4).plain.mono ?_
 rintro res st1 ⟨rfl,rfl⟩
 simp -dsimp only [go_sem]
 refine cD.mono ?_
 rintro res st2 ⟨v,hv,rfl,rfl⟩
 simp -dsimp only [go_sem,w1]
 unfold cofQ sgnQ
 refine ck (fun h2=> ?_) (fun h2=> ?_)
 · have e2:(i+j) % 2=1:=by
    rw [xr] at h2
    have:=beq_iff_eq.1 h2
    omega
   rw [if_pos e2]
   simp -dsimp only [go_sem]
   refine(j0t v _).mono ?_
   rintro res st1 ⟨rfl,rfl⟩
   simp -dsimp only [go_sem]
   exact⟨_,hv.turn,rfl⟩
 · have e2: ¬(i+j) % 2=1:=fun e=>by
    rw [xr,e] at h2
    exact absurd h2 (by decide)
   rw [if_neg e2]
   simp -dsimp only [go_sem]
   exact⟨_,hv,rfl⟩
end Go.Pv
end
section
/-InvHolds. -/
set_option maxRecDepth 100000
namespace Go.Pv
open Go.Proofs
theorem q2x {n:Nat} {a:List (List Nm)} (h:sqR n a):RU n (fun i j=>qN (entQ a i j)) (H0e a):=by
 refine⟨by unfold H0e;rw [List.length_map];exact h.1,fun i hi=> ?_⟩
 have e:(H0e a).getD i []=(a.getD i []).map ofN:=by
  unfold H0e
  rw [List.getD_eq_getElem?_getD,List.getElem?_map,List.getD_eq_getElem?_getD,List.getElem?_eq_getElem (show i<a.length by rw [h.1];exact hi)];rfl
 have hr:=h.row hi
 rw [e]
 refine⟨by rw [List.length_map];exact hr.1,fun j hj=> ?_⟩
 have e2:((a.getD i []).map ofN).getD j default=ofN (entQ a i j):=by
  unfold entQ
  rw [List.getD_eq_getElem?_getD,List.getElem?_map,List.getD_eq_getElem?_getD (l:=a.getD i []),List.getElem?_eq_getElem (show j<(a.getD i []).length by rw [hr.1];exact hj)];rfl
 rw [e2]
 exact RV.num (h.ent hi hj)
theorem bdQ.luF {n S:Nat} {a:List (List Nm)} (h:bdQ n S a):luF n S S (fun i j=>qN (entQ a i j)):=fun i j hi hj=>h i hi j hj
theorem V1a {x y:Rat} {v w:Vl} {a:Ivl} (hv:RV x v) (hw:RV y w) (hy:0<y) (h:memI (x/y) a):w0d v w a=true:=by
 unfold w0d
 rw [Bool.and_eq_true]
 refine⟨decide_eq_true ((k0q _ _).2 ?_),decide_eq_true ((k0q _ _).2 ?_)⟩
 · rw [H0m,Z0g,hv.2,hw.2]
   have h1:qN a.lo*y≤x/y*y:=Rat.mul_le_mul_of_nonneg_right h.1 (by grind)
   have h2:x/y*y=x:=by grind
   rwa [h2] at h1
 · rw [H0m,Z0g,hv.2,hw.2]
   have h1:x/y*y≤qN a.hi*y:=Rat.mul_le_mul_of_nonneg_right h.2 (by grind)
   have h2:x/y*y=x:=by grind
   rwa [h2] at h1
theorem RV.bd {x:Rat} {v:Vl} (h:RV x v) {L U:Nat} (hl:luQ L U x) (hb:L+U≤50000000):bdV 100000000 100000000 v:=by
 rw [←h.2] at hl
 have:=Y2u h.1 hl
 exact⟨by have:=this.1;omega,by have:=this.2.1;omega,by have:=this.2.2;omega⟩
set_option maxHeartbeats 2000000 in
theorem J2h (l:List UInt64):PCalls Tryz.prog 5 [.sl .no (encW l)] [] (fun r st'=>r= .sc (.bool true)):=by
 refine Q0b none Tryz.func5 rfl fun E=>Q0a ?_
 simp -dsimp only [go_sem]
 refine(Q2f _).mono ?_
 rintro res st' ⟨rfl,rfl⟩
 simp -dsimp only [go_sem]
 refine(Q2x l _).mono ?_
 rintro res st' ⟨rfl,rfl⟩
 simp -dsimp only [go_sem]
 refine(j3k l 0 0 [dk l 0] rfl (by omega)).mono ?_
 rintro res st' ⟨n,hn1,hn4,rfl,rfl⟩
 simp -dsimp only [go_sem]
 refine(v0t l 1 0 n [dk l 1] rfl (by omega) (by omega) (by omega)).mono ?_
 rintro res st' ⟨a,j1,hla,hra,hj1,hj2,rfl,rfl⟩
 simp -dsimp only [go_sem]
 refine(y2o l j1 0 [dk l j1] rfl (by omega)).mono ?_
 rintro res st' ⟨p,j2,hp1,hp2,hj3,hj4,rfl,rfl⟩
 have hp:=w0o hp1 hp2
 have sa:=okRowS.sq hla hra
 have ba:=okRowS.bd hra
 have wa:=sa.wQs (by omega)
 have wq:=sa.wQ (by omega)
 simp -dsimp only [go_sem]
 refine(v0e a p _ wa).mono ?_
 rintro res st' ⟨rfl,rfl⟩
 by_cases he:(Z0z a p).2=0
 rotate_left
 · have g:=j3t he
   have hz:=w0h he
   have hee:=(X3c (sa.rightQ (by omega) (by omega)) hp).resolve_left he
   have z0:((((([]:Mx).length):Nat):Int)==0)=true:=rfl
   rcases hee with h2 | h3
   · have g3:((Z0z a p).2==3)=false:=by rw [h2];rfl
     have g2:((Z0z a p).2==2)=true:=by rw [h2];rfl
     simp -dsimp only [go_sem,g,g3,g2,hz]
     try rfl
   · have g3:((Z0z a p).2==3)=true:=by rw [h3];rfl
     simp -dsimp only [go_sem,g,g3,hz]
     try rfl
 have g:=j3u he
 obtain⟨-,hSl,hdet,hS⟩:=Y0p he
 rw [hla] at hSl hdet hS
 have wS:=w1h a p
 have hRU:=q2x sa
 have hlf:=ba.luF
 have hLU:18+18≤50000:=by decide
 have cD:=V3s hLU n (by omega) (fun i j=>qN (entQ a i j)) (H0e a) [dk l j2] hRU hlf
 have ldet:=Q2d n (by omega) _ hlf
 have hnn:n*18≤4*18:=Nat.mul_le_mul_right _ (by omega)
 have hnn2:n*(18+4)≤4*22:=Nat.mul_le_mul_right _ (by omega)
 simp -dsimp only [go_sem,g]
 refine(G3n a _ wq).plain.mono ?_
 rintro res st' ⟨rfl,rfl⟩
 simp -dsimp only [go_sem]
 refine cD.mono ?_
 rintro res st' ⟨dv,hdv,rfl,rfl⟩
 simp -dsimp only [go_sem]
 refine(j1d dv _).mono ?_
 rintro res st' ⟨rfl,rfl⟩
 have hs0:(Y0f dv==0)=false:=beq_eq_false_iff_ne.2 fun e=>hdet (by
  have:=k0m (X2e e)
  rw [hdv.2] at this;exact this)
 have hl0:(((List.length (Z0z a p).1:Nat):Int) !=(n:Int))=false:=by rw [hSl];simp
 simp -dsimp only [go_sem,hs0,hl0]
 refine Q0e [false,false,false,false,true,false,false,true,false,true,true,true] 1 0
  (fun m s=> ∃(i:Nat),m=n-i∧i≤n∧s=⟨[.junk,.junk,.junk,.junk,.sc (.int .i64 n),.junk,.junk,.sl .no (encM (Z0z a p).1),.junk,.sl .no (X0t (H0e a)),.lp 0 0,.sc (.int .i64 (i:Nat))]++List.replicate 97 .junk,[encV dv],[],[dk l j2]⟩) n ?_ ?_
 · simp -dsimp only [go_sem]
   exact⟨0,by omega,by omega,rfl⟩
 rintro m s ⟨i,rfl,hi,rfl⟩
 simp -dsimp only [go_sem]
 refine ck (fun h1=> ?_) (fun h1=> ?_)
 rotate_left
 · simp -dsimp only [go_sem]
   refine Q0a ?_
   simp -dsimp only [go_sem]
 have hlt:i<n:=by have:=of_decide_eq_true h1;omega
 have x1:=V0b i (by omega)
 have eM:=Y0k (Z0z a p).1 i (by omega)
 have hrl:=(hS i hlt).1
 have hrl2:(((List.length ((Z0z a p).1.getD i []):Nat):Int) !=(n:Int))=false:=by rw [hrl];simp
 simp -dsimp only [go_sem,eM,hrl2]
 refine⟨by omega,?_⟩
 refine J0o [false,false,false,false,true,false,false,true,false,true,true,true,true] 1 0
  (fun m s=> ∃(j:Nat),m=n-j∧j≤n∧s=⟨[.junk,.junk,.junk,.junk,.sc (.int .i64 n),.junk,.junk,.sl .no (encM (Z0z a p).1),.junk,.sl .no (X0t (H0e a)),.lp 0 0,.sc (.int .i64 (i:Nat)),.sc (.int .i64 (j:Nat))]++List.replicate 96 .junk,[encV dv],[],[dk l j2]⟩) n ?_ ?_
 · simp -dsimp only [go_sem]
   exact⟨0,by omega,by omega,rfl⟩
 rintro m s ⟨j,rfl,hj,rfl⟩
 refine Q0n (Q0a ?_)
 simp -dsimp only [go_sem]
 refine ck (fun h2=> ?_) (fun h2=> ?_)
 rotate_left
 · simp -dsimp only [go_sem]
   refine Q0a ?_
   simp -dsimp only [go_sem,x1]
   exact⟨n-(i+1),by omega,i+1,rfl,by omega,rfl⟩
 have hjn:j<n:=by have:=of_decide_eq_true h2;omega
 have x2:=V0b j (by omega)
 have eI:=K0f ((Z0z a p).1.getD i []) j (by omega)
 have hSj:=(hS i hlt).2 j hjn
 have hri:Q0m (((Z0z a p).1.getD i []).getD j default)=true:=hSj.1
 have hmem:memI (cofQ n (fun i j=>qN (entQ a i j)) i j/detQ n fun i j=>qN (entQ a i j)) (((Z0z a p).1.getD i []).getD j default):=hSj.2
 have cC:=J2v hLU hn1 hn4 (fun i j=>qN (entQ a i j)) (H0e a) i j [dk l j2] hRU hlf hlt hjn
 have lcof:=q3j hn4 hlf i j
 simp -dsimp only [go_sem]
 refine Q0n (V0e ?_)
 refine K0q [false,false,false,false,true,false,false,true,false,true,true,true,true,true,true] 3 0
  (fun s=> ∃c,RV (cofQ n (fun i j=>qN (entQ a i j)) i j) c∧(s=⟨[.junk,.junk,.junk,.junk,.sc (.int .i64 n),.junk,.junk,.sl .no (encM (Z0z a p).1),.junk,.sl .no (X0t (H0e a)),.lp 0 0,.sc (.int .i64 (i:Nat)),.sc (.int .i64 (j:Nat)),.lp 1 0,.lp 2 0]++List.replicate 94 .junk,[encV dv,encV c,encV dv],[],[dk l j2]⟩∨s=⟨[.junk,.junk,.junk,.junk,.sc (.int .i64 n),.junk,.junk,.sl .no (encM (Z0z a p).1),.junk,.sl .no (X0t (H0e a)),.lp 0 0,.sc (.int .i64 (i:Nat)),.sc (.int .i64 (j:Nat)),.lp 2 0,.lp 1 0]++List.replicate 94 .junk,[encV dv,encV dv,encV c],[],[dk l j2]⟩)) ?_ ?_
 · simp -dsimp only [go_sem]
   refine Q0p Z0y 109 (.step 0 [] (.step 1 [] (.step 2 [] (.step 4 [] (.alt (.step 3 [4] (.alt (.step 5 [4] (.step 6 [4] (.step 7 [4] (.step 8 [] (.done))))) (.step 6 [4] (.step 5 [4] (.step 7 [4] (.step 8 [] (.done))))))) (.alt (.step 5 [4] (.alt (.step 3 [4] (.step 6 [4] (.step 7 [4] (.step 8 [] (.done))))) (.step 6 [4] (.step 3 [4] (.step 7 [4] (.step 8 [] (.done))))))) (.step 6 [4] (.alt (.step 3 [4] (.step 5 [4] (.step 7 [4] (.step 8 [] (.done))))) (.step 5 [4] (.step 3 [4] (.step 7 [4] (.step 8 [] (.done))))))))))))) (by decide+kernel) (by simp) ?_
   simp -dsimp only [go_sem]
   refine And.intro ?_ ?_
   · refine cC.mono ?_
     rintro res st2 ⟨c,hc,rfl,rfl⟩
     simp -dsimp only [go_sem]
     exact⟨⟨c,hc,.inl rfl⟩,⟨c,hc,.inr rfl⟩⟩
   · refine And.intro (And.intro ?_ ?_) (And.intro ?_ ?_)
     all_goals
      refine cC.mono ?_
      rintro res st2 ⟨c,hc,rfl,rfl⟩
      simp -dsimp only [go_sem]
      first | exact⟨c,hc,.inl rfl⟩ | exact⟨c,hc,.inr rfl⟩
 rintro s ⟨c,hc,hs⟩
 have hcb:=hc.bd lcof (by omega)
 have hctb:=hc.turn.bd (w0x lcof) (by omega)
 have hdb:=hdv.bd ldet (by omega)
 have hdtb:=hdv.turn.bd (w0x ldet) (by omega)
 rcases hs with rfl | rfl
 all_goals
  refine Q0a ?_
  simp -dsimp only [go_sem]
  refine(j1d dv _).mono ?_
  rintro res st2 ⟨rfl,rfl⟩
  simp -dsimp only [go_sem]
  refine ck (fun h3=> ?_) (fun h3=> ?_)
  · have hneg:detQ n (fun i j=>qN (entQ a i j))<0:=by
     have:=(Q1s dv).1 (of_decide_eq_true h3)
     rwa [hdv.2] at this
    have hW:w0d (J0r c) (J0r dv) (((Z0z a p).1.getD i []).getD j default)=true:=V1a hc.turn hdv.turn (by grind) (by
     rw [show -cofQ n (fun i j=>qN (entQ a i j)) i j/ -(detQ n fun i j=>qN (entQ a i j))=cofQ n (fun i j=>qN (entQ a i j)) i j/detQ n fun i j=>qN (entQ a i j) by grind]
     exact hmem)
    simp -dsimp only [go_sem]
    refine Q0p Z0y 109 (.step 0 [] (.step 2 [] (.step 1 [2] (.step 3 [] (.step 4 [] (.step 5 [] (.done))))))) (by decide+kernel) (by simp) ?_
    simp -dsimp only [go_sem]
    refine(j0t c _).mono ?_
    rintro res st3 ⟨rfl,rfl⟩
    simp -dsimp only [go_sem]
    refine(j0t dv _).mono ?_
    rintro res st3 ⟨rfl,rfl⟩
    simp -dsimp only [go_sem]
    refine Q0p Z0y 109 (.step 0 [] (.step 1 [] (.step 2 [] (.step 3 [] (.step 4 [] (.step 5 [] (.step 6 [] (.step 7 [] (.step 8 [] (.step 9 [] (.step 10 [] (.step 11 [] (.step 12 [] (.step 13 [] (.step 14 [] (.step 15 [] (.step 16 [] (.step 17 [] (.step 18 [] (.step 19 [3] (.step 20 [] (.step 21 [] (.done))))))))))))))))))))))) (by decide+kernel) (by simp) ?_
    simp -dsimp only [go_sem,eM,eI,hrl,hSl]
    refine⟨⟨by omega,hlt⟩,⟨by omega,hjn⟩,?_⟩
    refine(y0v _ _ (z0p hri)).mono ?_
    rintro res st3 ⟨rfl,rfl⟩
    rw [hri]
    simp -dsimp only [go_sem,eM,eI,hrl,hSl]
    try refine⟨⟨by omega,hlt⟩,⟨by omega,hjn⟩,?_⟩
    refine(v1w (J0r c) (J0r dv) _ _ hctb hdtb hri).mono ?_
    rintro res st3 ⟨rfl,rfl⟩
    rw [hW]
    simp -dsimp only [go_sem,eM,eI,hrl,hSl,x2]
    refine Q0a ?_
    simp -dsimp only [go_sem,x2]
    exact⟨n-(j+1),by omega,j+1,rfl,by omega,rfl⟩
  · have hpos:0<detQ n (fun i j=>qN (entQ a i j)):=by
     have: ¬Y0f dv<0:=of_decide_eq_false h3
     rw [Q1s,hdv.2] at this
     grind
    have hW:w0d c dv (((Z0z a p).1.getD i []).getD j default)=true:=V1a hc hdv hpos hmem
    simp -dsimp only [go_sem]
    refine Q0p Z0y 109 (.step 0 [] (.step 1 [] (.step 2 [] (.step 3 [] (.step 4 [] (.step 5 [] (.step 6 [] (.step 7 [] (.step 8 [] (.step 9 [] (.step 10 [] (.step 11 [] (.step 12 [] (.step 13 [] (.step 14 [] (.step 15 [] (.step 16 [] (.step 17 [] (.step 18 [] (.step 19 [3] (.step 20 [] (.step 21 [] (.done))))))))))))))))))))))) (by decide+kernel) (by simp) ?_
    simp -dsimp only [go_sem,eM,eI,hrl,hSl]
    refine⟨⟨by omega,hlt⟩,⟨by omega,hjn⟩,?_⟩
    refine(y0v _ _ (z0p hri)).mono ?_
    rintro res st3 ⟨rfl,rfl⟩
    rw [hri]
    simp -dsimp only [go_sem,eM,eI,hrl,hSl]
    try refine⟨⟨by omega,hlt⟩,⟨by omega,hjn⟩,?_⟩
    refine(v1w c dv _ _ hcb hdb hri).mono ?_
    rintro res st3 ⟨rfl,rfl⟩
    rw [hW]
    simp -dsimp only [go_sem,eM,eI,hrl,hSl,x2]
    refine Q0a ?_
    simp -dsimp only [go_sem,x2]
    exact⟨n-(j+1),by omega,j+1,rfl,by omega,rfl⟩
end Go.Pv
end
