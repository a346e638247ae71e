/- Parts of the walk: N161, N162, N163, N164. -/
import Derived.Test.YtofoadghajnglaaGreatDoorZCG
import Derived.Test.YtofoadghajnglaaGreatDoorZAR
import Derived.Test.YtofoadghajnglaaGreatDoorZBR
import Derived.Test.YtofoadghajnglaaGreatDoorZCC
import Derived.Test.YtofoadghajnglaaGreatDoorZCB
import Derived.Test.YtofoadghajnglaaGreatDoorZAE
import Derived.Test.YtofoadghajnglaaGreatDoorZM
import Derived.Test.YtofoadghajnglaaGreatDoorZAF
import Derived.Test.YtofoadghajnglaaGreatDoorZP
set_option linter.unusedVariables false
set_option linter.unusedSimpArgs false
section
/-vary.Sum and the document's:the matrices' sum at h. -/
set_option maxRecDepth 100000
namespace Go.Pv
open Go.Proofs
def wCs (l:List Mx):Prop:=l.length≤100000000000∧ ∀i,i<l.length→wM (l.getD i [])
theorem K1v {l:List Mx} {h:Ivl} {p:Int} (hl:wCs l) (h1:1≤l.length): ∀i,wM (X0w l h p i).1
 | 0=>hl.2 _ (by omega)
 | i+1=>by
  rw [X0w]
  split
  · exact W1l
  · split
    · exact W1l
    · exact W3c _ _ _ _
theorem K0b {l:List Mx} {h:Ivl} {p:Int} (hh: ¬(1≤l.length∧l.length≤11∧Q0m h=true∧Z0i p=true∧okC l=true)):x0e l h p=([],1):=by unfold x0e;rw [if_neg hh]
theorem j1d {l:List Mx} {i:Nat} (hi:i<l.length) (h: ¬(Z0v (l.getD i [])=true∧(l.getD i []).length=(l.getD 0 []).length)):okC l=false:=Bool.eq_false_iff.2 fun e=>h (okC_iff.1 e i hi)
theorem W1s {l:List Mx} {h:Ivl} {p:Int} {i:Nat} (hi:i<l.length-1) (h0:(X0w l h p i).2=0) (he:(X0w l h p (i+1)).2≠0) (hd:(X0w l h p (i+1)).1= []):X0w l h p (l.length-1)=([],(X0w l h p (i+1)).2):=by
 by_cases e:i+1=l.length-1
 · rw [←e];exact Prod.ext hd rfl
 · have:=v0j he (l.length-1-(i+2))
   rwa [show i+1+1+(l.length-1-(i+2))=l.length-1 by omega] at this
theorem X2w {k:Nat} {a b:Mx} {p:Int} (h:(opM k a b p).2≠0):(opM k a b p).1= []:=by
 unfold opM at h⊢
 split
 · rename_i c
   rw [if_pos c] at h
   exact x1l _ _ _ h
 · rfl
set_option maxHeartbeats 4000000 in
theorem Q2w (l:List Mx) (h:Ivl) (p:Int) (st:Q0e) (wl:wCs l) (wh:wI h):
 PCalls Tryz.prog 43 [.sl .no (Z0r l),.agg (encI h),.sc (.int .i64 p)] st
 (fun r st'=>r= .tup [.sl .no (encM (x0e l h p).1),.sc (.int .i64 (x0e l h p).2)]∧st'=st):=by
 refine Q0b none Tryz.func43 rfl fun E=>Q0a ?_
 by_cases c1:1≤l.length
 rotate_left
 · have d1:decide ((l.length:Int)<1)=true:=decide_eq_true (by omega)
   rw [K0b (fun hh=>c1 hh.1)]
   simp -dsimp only [go_sem,d1]
 have d1:decide ((l.length:Int)<1)=false:=decide_eq_false (by omega)
 by_cases c2:l.length≤11
 rotate_left
 · have d2:decide ((l.length:Int)>11)=true:=decide_eq_true (by omega)
   rw [K0b (fun hh=>c2 hh.2.1)]
   simp -dsimp only [go_sem,d1,d2]
 have d2:decide ((l.length:Int)>11)=false:=decide_eq_false (by omega)
 simp -dsimp only [go_sem,d1,d2]
 refine(Y0u h _ wh).mono ?_
 rintro r st ⟨rfl,rfl⟩
 cases hr:Q0m h with
 | false=>
  rw [K0b (fun hh=>by rw [hr] at hh;exact absurd hh.2.2.1 (by decide))]
  simp -dsimp only [go_sem]
 | true=>
 simp -dsimp only [go_sem]
 refine(Y0b p _).mono ?_
 rintro r st ⟨rfl,rfl⟩
 cases hp:Z0i p with
 | false=>
  rw [K0b (fun hh=>by rw [hp] at hh;exact absurd hh.2.2.2.1 (by decide))]
  simp -dsimp only [go_sem]
 | true=>
 simp -dsimp only [go_sem]
 refine Q0f [true,false,true,false,true,false,false,false,false,false,false,false,false,false,false,false,false,false,false,false,false,false,false,false,false,false,false,false,false,false,false,false,false,false,false,false,false,false,false,true,true,true] 1 0
  (fun c s'=> ∃i,c=l.length-i∧i≤l.length∧(∀j,j<i→Z0v (l.getD j [])=true∧(l.getD j []).length=(l.getD 0 []).length)∧
   s'=⟨[.sl .no (Z0r l),.junk,.sc (.int .i64 p),.junk,.lp 0 0]++List.replicate 34 .junk++ [.sl .no (Z0r l),.sc (.int .i64 (l.length:Nat)),.sc (.int .i64 (i:Nat))]++List.replicate 82 .junk,[encI h],[],st⟩) l.length ?_ ?_
 · simp -dsimp only [go_sem]
   exact⟨0,by omega,by omega,fun j hj=>absurd hj (by omega),rfl⟩
 · rintro c s' ⟨i,rfl,hi,hok,rfl⟩
   simp -dsimp only [go_sem]
   refine ck (fun hk=> ?_) (fun hk=> ?_)
   · have hlt:i<l.length:=by have:=of_decide_eq_true hk;omega
     have e3:=V0a i (by omega)
     have g2:=K0d l i hlt
     have g0:=K0d l 0 (by omega)
     have w1:=wl.2 i hlt
     simp -dsimp only [go_sem,g2]
     refine⟨by omega,?_⟩
     refine(v0x (l.getD i []) _ w1).mono ?_
     rintro r st ⟨rfl,rfl⟩
     cases hm:Z0v (l.getD i []) with
     | false=>
      rw [K0b (fun hh=>by rw [j1d hlt (fun q=>by rw [hm] at q;exact absurd q.1 (by decide))] at hh;exact absurd hh.2.2.2.2 (by decide))]
      simp -dsimp only [go_sem]
     | true=>
     simp -dsimp only [go_sem,g0]
     refine⟨by omega,?_⟩
     by_cases hq:(l.getD i []).length=(l.getD 0 []).length
     · have q1:(((l.getD i []).length:Int) !=((l.getD 0 []).length:Int))=false:=by rw [hq];simp
       simp -dsimp only [go_sem,q1,e3]
       refine⟨l.length-(i+1),by omega,i+1,rfl,by omega,fun j hj=> ?_,rfl⟩
       by_cases e:j=i
       · rw [e];exact⟨hm,hq⟩
       · exact hok j (by omega)
     · have q1:(((l.getD i []).length:Int) !=((l.getD 0 []).length:Int))=true:=bne_iff_ne.2 fun e=>hq (by exact_mod_cast e)
       rw [K0b (fun hh=>by rw [j1d hlt (fun q=>hq q.2)] at hh;exact absurd hh.2.2.2.2 (by decide))]
       simp -dsimp only [go_sem,q1]
   · have hge:i=l.length:=by have:=of_decide_eq_false hk;omega
     subst hge
     have hall:okC l=true:=okC_iff.2 hok
     have hS:x0e l h p=X0w l h p (l.length-1):=by unfold x0e;rw [if_pos ⟨c1,c2,hr,hp,hall⟩]
     rw [hS]
     have wi:=K1v (h:=h) (p:=p) wl c1
     have wl1:=wl.1
     have hfin:=fun i=>W1s (l:=l) (h:=h) (p:=p) (i:=i)
     have hM:=hok (l.length-1) (by omega)
     have hMl:=Y0c hM.1
     have hMr:=fun i (hi:i<(l.getD (l.length-1) []).length)=>V0g hM.1 hi
     have gM:=K0d l (l.length-1) (by omega)
     have e1:IntKind.i64.wrap ((l.length:Int)-1)=((l.length-1:Nat):Int):=by rw [Q0k _ (by omega) (by omega)];omega
     have e2:IntKind.i64.wrap ((l.length:Int)-2)=(l.length:Int)-2:=by rw [Q0k _ (by omega) (by omega)]
     simp -dsimp only [go_sem]
     refine Q0a ?_
     simp -dsimp only [go_sem,e1,gM]
     refine⟨by omega,?_⟩
     refine Z0l 10 1 ?_
     simp -dsimp only [go_sem]
     have h0:X0w l h p 0=(l.getD (l.length-1) [],0):=rfl
     generalize hMM:l.getD (l.length-1) []=M at hM hMl hMr gM h0
     refine Q0f [true,false,true,false,true,false,false,false,false,false,true,false,false,false,false,false,false,false,false,false,false,false,false,false,false,false,false,false,false,false,false,false,false,false,false,false,false,false,false,false,false,false,false,false,false,false,false,false,false,false,false,false,false,false,false,false,false,false,false,false,false,false,false,true,true,true] 1 1
      (fun c s'=> ∃i,c=M.length-i∧i≤M.length∧
       s'=⟨[.sl .no (Z0r l),.junk,.sc (.int .i64 p),.junk,.lp 0 0,.junk,.junk,.junk,.junk,.junk,.sl (.own 0) (encM (M.take i))]++List.replicate 52 .junk++ [.sl .no (encM M),.sc (.int .i64 (M.length:Nat)),.sc (.int .i64 (i:Nat))]++List.replicate 58 .junk,[encI h],[(i,1)],st⟩) M.length ?_ ?_
     · simp -dsimp only [go_sem]
       exact⟨0,by omega,by omega,rfl⟩
     · rintro c s' ⟨i,rfl,hi,rfl⟩
       have hil:(M.take i).length=i:=by rw [List.length_take];omega
       simp -dsimp only [go_sem]
       refine ck (fun hk=> ?_) (fun hk=> ?_)
       · have hlt:i<M.length:=by have:=of_decide_eq_true hk;omega
         have e3:=V0a i (by omega)
         have g2:=J0w M i hlt
         have hrow:=hMr i hlt
         have hsn:=V3g [] M hlt
         simp -dsimp only [go_sem,g2]
         refine⟨by omega,?_⟩
         refine Z0l 13 6 ?_
         simp -dsimp only [go_sem]
         refine Q0f [true,false,true,false,true,false,false,false,false,false,true,false,false,true,false,false,false,false,false,false,false,false,false,false,false,false,false,false,false,false,false,false,false,false,false,false,false,false,false,false,false,false,false,false,false,false,false,false,false,false,false,false,false,false,false,false,false,false,false,false,false,false,false,true,true,true,false,false,false,true,true,true] 1 2
          (fun c s'=> ∃j,c=M.length-j∧j≤M.length∧
           s'=⟨[.sl .no (Z0r l),.junk,.sc (.int .i64 p),.junk,.lp 0 0,.junk,.junk,.junk,.junk,.junk,.sl (.own 0) (encM (M.take i)),.junk,.junk,.sl (.own 1) (Q0s ((M.getD i []).take j))]++List.replicate 49 .junk++ [.sl .no (encM M),.sc (.int .i64 (M.length:Nat)),.sc (.int .i64 (i:Nat)),.junk,.junk,.junk,.sl .no (Q0s (M.getD i [])),.sc (.int .i64 (M.length:Nat)),.sc (.int .i64 (j:Nat))]++List.replicate 52 .junk,[encI h],[(i,1),(j,6)],st⟩) M.length ?_ ?_
         · simp -dsimp only [go_sem,hrow.1]
           exact⟨0,by omega,by omega,rfl⟩
         · rintro c s' ⟨j,rfl,hj,rfl⟩
           simp -dsimp only [go_sem]
           refine ck (fun hk2=> ?_) (fun hk2=> ?_)
           · have hlt2:j<M.length:=by have:=of_decide_eq_true hk2;omega
             have e4:=V0a j (by omega)
             have gI:=Z0m (M.getD i []) j (by omega)
             have hx:=Y1j hrow.2 (i:=j) (by omega)
             have hwx:=J0r hx
             have hsn2:=V3g default (M.getD i []) (i:=j) (by omega)
             have hs2:=Y0z ((M.getD i []).take j) ((M.getD i []).getD j default)
             have hl2:((M.getD i []).take j).length=j:=by rw [List.length_take,hrow.1];omega
             have mk:q1r ((M.getD i []).getD j default).lo ((M.getD i []).getD j default).hi=((M.getD i []).getD j default,0):=by unfold q1r;rw [if_pos hx]
             rw [←hsn2] at hs2
             simp -dsimp only [go_sem,gI]
             refine⟨by omega,?_⟩
             refine(j1o _ _ _ hwx.1 hwx.2).mono ?_
             rintro r st ⟨rfl,rfl⟩
             simp -dsimp only [go_sem,mk,hs2,hl2,e4]
             exact⟨by omega,M.length-(j+1),by omega,j+1,rfl,by omega,rfl⟩
           · have hge:j=M.length:=by have:=of_decide_eq_false hk2;omega
             subst hge
             have hf:(M.getD i []).take M.length=M.getD i []:=List.take_of_length_le (by rw [hrow.1];exact Nat.le_refl _)
             have hs3:=V2n (M.take i) (M.getD i [])
             rw [←hsn] at hs3
             simp -dsimp only [go_sem]
             refine Q0a ?_
             simp -dsimp only [go_sem,hf,hil]
             refine⟨by omega,?_⟩
             refine Q0a ?_
             simp -dsimp only [go_sem,e3]
             exact⟨M.length-(i+1),by omega,i+1,rfl,by omega,by rw [hsn]⟩
       · have hge:i=M.length:=by have:=of_decide_eq_false hk;omega
         subst hge
         rw [List.take_length]
         simp -dsimp only [go_sem]
         refine Y0o [false,false,false,false,false,false,false,false,false,false,true] (Q0a ?_)
         simp -dsimp only [go_sem,e2]
         rw [show M=(X0w l h p 0).1 by rw [h0]]
         refine Q0f [true,false,true,false,true,false,false,false,false,false,true,false,false,false,false,false,false,false,true] 1 0
          (fun c s'=> ∃i,c=l.length-1-i∧i≤l.length-1∧(X0w l h p i).2=0∧
           s'=⟨[.sl .no (Z0r l),.junk,.sc (.int .i64 p),.junk,.lp 0 0,.junk,.junk,.junk,.junk,.junk,.sl .no (encM (X0w l h p i).1),.junk,.junk,.junk,.junk,.junk,.junk,.junk,.sc (.int .i64 ((l.length:Int)-2-(i:Nat)))]++List.replicate 105 .junk,[encI h],[],st⟩) (l.length-1) ?_ ?_
         · simp -dsimp only [go_sem]
           exact⟨0,by omega,by omega,rfl,by simp⟩
         · rintro c s' ⟨i,rfl,hi,he,rfl⟩
           by_cases hlt:i<l.length-1
           · have d3:decide ((l.length:Int)-2-(i:Nat)≥0)=true:=decide_eq_true (by omega)
             have e3:IntKind.i64.wrap ((l.length:Int)-2-(i:Nat)-1)=(l.length:Int)-2-((i+1:Nat):Int):=by rw [Q0k _ (by omega) (by omega)];omega
             have e4:(l.length:Int)-2-(i:Nat)=((l.length-2-i:Nat):Int):=by omega
             have gJ:=K0d l (l.length-2-i) (by omega)
             have wj:=wl.2 (l.length-2-i) (by omega)
             have fi:=hfin i hlt he
             have hst:X0w l h p (i+1)=if (K0a h (X0w l h p i).1 p).2≠0 then([],(K0a h (X0w l h p i).1 p).2) else opM 0 (K0a h (X0w l h p i).1 p).1 (l.getD (l.length-2-i) []) p:=by rw [X0w,if_neg (by rw [he];decide)]
             have b1:l.length-2-i<l.length:=by omega
             rw [e4] at d3 e3
             have wv:=wi i
             simp -dsimp only [go_sem,e4,d3]
             refine(w1q h (X0w l h p i).1 p _ wh wv).mono ?_
             rintro r st2 ⟨rfl,rfl⟩
             have wz:=W1q h (X0w l h p i).1 p
             generalize hZ:X0w l h p (i+1)=Z at hst fi
             generalize K0a h (X0w l h p i).1 p=z at hst wz⊢
             by_cases hz:z.2=0
             · have b0:(z.2 !=0)=false:=by simp [hz]
               rw [if_neg (by rw [hz];decide)] at hst
               simp -dsimp only [go_sem,b0,gJ]
               refine⟨⟨Int.natCast_nonneg _,by exact_mod_cast b1⟩,?_⟩
               refine(q2k z.1 (l.getD (l.length-2-i) []) p _ wz wj).mono ?_
               rintro r st2 ⟨rfl,rfl⟩
               rw [←hst]
               by_cases hu:Z.2=0
               · have c3:(Z.2 !=0)=false:=by simp [hu]
                 simp -dsimp only [go_sem,c3,e3]
                 exact⟨l.length-1-(i+1),by omega,i+1,rfl,by omega,by rw [hZ];exact hu,by rw [hZ]⟩
               · have c3:(Z.2 !=0)=true:=by simp [hu]
                 simp -dsimp only [go_sem,c3]
                 rw [fi hu (by rw [hst] at hu⊢;exact X2w hu)]
                 rfl
             · have b0:(z.2 !=0)=true:=by simp [hz]
               rw [if_pos hz] at hst
               simp -dsimp only [go_sem,b0]
               rw [fi (by rw [hst];exact hz) (by rw [hst]),hst]
               rfl
           · have d3:decide ((l.length:Int)-2-(i:Nat)≥0)=false:=decide_eq_false (by omega)
             have hie:i=l.length-1:=by omega
             simp -dsimp only [go_sem,d3]
             refine Q0a ?_
             simp -dsimp only [go_sem]
             rw [←hie,he]
end Go.Pv
end
section
/-The document's sum of matrices at h. -/
set_option maxRecDepth 100000
namespace Go.Pv
open Go.Proofs
set_option maxHeartbeats 4000000 in
theorem W1r (l:List Mx) (h:Ivl) (p:Int) (st:Q0e) (wl:wCs l) (wh:wI h):
 PCalls Tryz.prog 44 [.sl .no (Z0r l),.agg (encI h),.sc (.int .i64 p)] st
 (fun r st'=>r= .tup [.sl .no (encM (x0e l h p).1),.sc (.int .i64 (x0e l h p).2)]∧st'=st):=by
 refine Q0b none Tryz.func44 rfl fun E=>Q0a ?_
 by_cases c1:1≤l.length
 rotate_left
 · have d1:decide ((l.length:Int)<1)=true:=decide_eq_true (by omega)
   rw [K0b (fun hh=>c1 hh.1)]
   simp -dsimp only [go_sem,d1]
 have d1:decide ((l.length:Int)<1)=false:=decide_eq_false (by omega)
 by_cases c2:l.length≤11
 rotate_left
 · have d2:decide ((l.length:Int)>11)=true:=decide_eq_true (by omega)
   rw [K0b (fun hh=>c2 hh.2.1)]
   simp -dsimp only [go_sem,d1,d2]
 have d2:decide ((l.length:Int)>11)=false:=decide_eq_false (by omega)
 simp -dsimp only [go_sem,d1,d2]
 refine(J0p h _ wh).mono ?_
 rintro r st ⟨rfl,rfl⟩
 cases hr:Q0m h with
 | false=>
  rw [K0b (fun hh=>by rw [hr] at hh;exact absurd hh.2.2.1 (by decide))]
  simp -dsimp only [go_sem]
 | true=>
 simp -dsimp only [go_sem]
 refine(X2m p _).mono ?_
 rintro r st ⟨rfl,rfl⟩
 cases hp:Z0i p with
 | false=>
  rw [K0b (fun hh=>by rw [hp] at hh;exact absurd hh.2.2.2.1 (by decide))]
  simp -dsimp only [go_sem]
 | true=>
 simp -dsimp only [go_sem]
 refine Q0f [true,false,true,false,true,false,false,false,true] 1 0
  (fun c s'=> ∃i,c=l.length-i∧i≤l.length∧(∀j,j<i→Z0v (l.getD j [])=true∧(l.getD j []).length=(l.getD 0 []).length)∧
   s'=⟨[.sl .no (Z0r l),.junk,.sc (.int .i64 p),.junk,.lp 0 0,.junk,.junk,.junk,.sc (.int .i64 (i:Nat))]++List.replicate 83 .junk,[encI h],[],st⟩) l.length ?_ ?_
 · simp -dsimp only [go_sem]
   exact⟨0,by omega,by omega,fun j hj=>absurd hj (by omega),rfl⟩
 · rintro c s' ⟨i,rfl,hi,hok,rfl⟩
   have wl1:=wl.1
   simp -dsimp only [go_sem]
   refine ck (fun hk=> ?_) (fun hk=> ?_)
   · have hlt:i<l.length:=by have:=of_decide_eq_true hk;omega
     have e3:=V0a i (by omega)
     have g2:=K0d l i hlt
     have g0:=K0d l 0 (by omega)
     have w1:=wl.2 i hlt
     simp -dsimp only [go_sem]
     refine Q0p Z0g 92 (.step 0 [] (.step 1 [] (.step 2 [] (.step 3 [] (.step 4 [] (.step 5 [] (.step 6 [] (.step 7 [] (.step 8 [] (.step 9 [] (.step 10 [] (.step 11 [] (.step 12 [] (.step 13 [] (.step 14 [] (.step 15 [] (.step 16 [] (.step 17 [] (.done))))))))))))))))))) (by decide+kernel) (by simp) ?_
     simp -dsimp only [go_sem,g2]
     refine⟨by omega,?_⟩
     refine(z0b (l.getD i []) _ w1).mono ?_
     rintro r st ⟨rfl,rfl⟩
     cases hm:Z0v (l.getD i []) with
     | false=>
      rw [K0b (fun hh=>by rw [j1d hlt (fun q=>by rw [hm] at q;exact absurd q.1 (by decide))] at hh;exact absurd hh.2.2.2.2 (by decide))]
      simp -dsimp only [go_sem]
     | true=>
     simp -dsimp only [go_sem,g2,g0]
     refine⟨by omega,by omega,?_⟩
     by_cases hq:(l.getD i []).length=(l.getD 0 []).length
     · have q1:(((l.getD i []).length:Int) !=((l.getD 0 []).length:Int))=false:=by rw [hq];simp
       simp -dsimp only [go_sem,q1,e3]
       refine⟨l.length-(i+1),by omega,i+1,rfl,by omega,fun j hj=> ?_,rfl⟩
       by_cases e:j=i
       · rw [e];exact⟨hm,hq⟩
       · exact hok j (by omega)
     · have q1:(((l.getD i []).length:Int) !=((l.getD 0 []).length:Int))=true:=bne_iff_ne.2 fun e=>hq (by exact_mod_cast e)
       rw [K0b (fun hh=>by rw [j1d hlt (fun q=>hq q.2)] at hh;exact absurd hh.2.2.2.2 (by decide))]
       simp -dsimp only [go_sem,q1]
   · have hge:i=l.length:=by have:=of_decide_eq_false hk;omega
     subst hge
     have hall:okC l=true:=okC_iff.2 hok
     have hS:x0e l h p=X0w l h p (l.length-1):=by unfold x0e;rw [if_pos ⟨c1,c2,hr,hp,hall⟩]
     rw [hS]
     have wi:=K1v (h:=h) (p:=p) wl c1
     have hfin:=fun i=>W1s (l:=l) (h:=h) (p:=p) (i:=i)
     have gM:=K0d l (l.length-1) (by omega)
     have e1:IntKind.i64.wrap ((l.length:Int)-1)=((l.length-1:Nat):Int):=by rw [Q0k _ (by omega) (by omega)];omega
     have e2:IntKind.i64.wrap ((l.length:Int)-2)=(l.length:Int)-2:=by rw [Q0k _ (by omega) (by omega)]
     have h0:(X0w l h p 0).1=l.getD (l.length-1) []:=rfl
     rw [←h0] at gM
     simp -dsimp only [go_sem]
     refine Q0a ?_
     simp -dsimp only [go_sem,e1,e2,gM]
     refine⟨by omega,?_⟩
     refine Q0f [true,false,true,false,true,false,false,false,false,true,true] 1 0
      (fun c s'=> ∃i,c=l.length-1-i∧i≤l.length-1∧(X0w l h p i).2=0∧
       s'=⟨[.sl .no (Z0r l),.junk,.sc (.int .i64 p),.junk,.lp 0 0,.junk,.junk,.junk,.junk,.sl .no (encM (X0w l h p i).1),.sc (.int .i64 ((l.length:Int)-2-(i:Nat)))]++List.replicate 81 .junk,[encI h],[],st⟩) (l.length-1) ?_ ?_
     · simp -dsimp only [go_sem]
       exact⟨0,by omega,by omega,rfl,by simp⟩
     · rintro c s' ⟨i,rfl,hi,he,rfl⟩
       by_cases hlt:i<l.length-1
       · have d3:decide ((l.length:Int)-2-(i:Nat)≥0)=true:=decide_eq_true (by omega)
         have e3:IntKind.i64.wrap ((l.length:Int)-2-(i:Nat)-1)=(l.length:Int)-2-((i+1:Nat):Int):=by rw [Q0k _ (by omega) (by omega)];omega
         have e4:(l.length:Int)-2-(i:Nat)=((l.length-2-i:Nat):Int):=by omega
         have gJ:=K0d l (l.length-2-i) (by omega)
         have wj:=wl.2 (l.length-2-i) (by omega)
         have fi:=hfin i hlt he
         have hst:X0w l h p (i+1)=if (K0a h (X0w l h p i).1 p).2≠0 then([],(K0a h (X0w l h p i).1 p).2) else opM 0 (K0a h (X0w l h p i).1 p).1 (l.getD (l.length-2-i) []) p:=by rw [X0w,if_neg (by rw [he];decide)]
         have b1:l.length-2-i<l.length:=by omega
         rw [e4] at d3 e3
         have wv:=wi i
         simp -dsimp only [go_sem,e4,d3]
         refine(v1a h (X0w l h p i).1 p _ wh wv).mono ?_
         rintro r st2 ⟨rfl,rfl⟩
         have wz:=W1q h (X0w l h p i).1 p
         generalize hZ:X0w l h p (i+1)=Z at hst fi
         generalize K0a h (X0w l h p i).1 p=z at hst wz⊢
         by_cases hz:z.2=0
         · have b0:(z.2==0)=true:=by simp [hz]
           rw [if_neg (by rw [hz];decide)] at hst
           simp -dsimp only [go_sem,b0,gJ]
           refine⟨⟨Int.natCast_nonneg _,by exact_mod_cast b1⟩,?_⟩
           refine(H2l z.1 (l.getD (l.length-2-i) []) p _ wz wj).mono ?_
           rintro r st2 ⟨rfl,rfl⟩
           rw [←hst]
           by_cases hu:Z.2=0
           · have c3:(Z.2 !=0)=false:=by simp [hu]
             simp -dsimp only [go_sem,c3,e3]
             exact⟨l.length-1-(i+1),by omega,i+1,rfl,by omega,by rw [hZ];exact hu,by rw [hZ]⟩
           · have c3:(Z.2 !=0)=true:=by simp [hu]
             simp -dsimp only [go_sem,c3]
             rw [fi hu (by rw [hst] at hu⊢;exact X2w hu)]
             rfl
         · have b0:(z.2==0)=false:=by simp [hz]
           have b2:(z.2 !=0)=true:=by simp [hz]
           rw [if_pos hz] at hst
           simp -dsimp only [go_sem,b0,b2]
           rw [fi (by rw [hst];exact hz) (by rw [hst]),hst]
           rfl
       · have d3:decide ((l.length:Int)-2-(i:Nat)≥0)=false:=decide_eq_false (by omega)
         have hie:i=l.length-1:=by omega
         simp -dsimp only [go_sem,d3]
         refine Q0a ?_
         simp -dsimp only [go_sem]
         rw [←hie,he]
end Go.Pv
end
section
/-The document's derivatives along a solution,and one entry of the next matrix. -/
set_option maxRecDepth 100000
namespace Go.Pv
open Go.Proofs
def wJac (jac:List (List (List Mn))) (n:Nat):Prop:=jac.length=n∧ ∀i,i<n→(jac.getD i []).length=n∧ ∀l,l<n→wP ((jac.getD i []).getD l [])
end Go.Pv
end
