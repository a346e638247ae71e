/- Parts of the walk: N49, N50, N51, N52, N53, N54, N55, N56, N57, M46, N58, N59. -/
import Derived.Test.YtagacielooaapaaGreatDoorZBE
import Derived.Test.YtagacielooaapaaGreatDoorZAR
import Derived.Test.YtagacielooaapaaGreatDoorZAF
import Derived.Test.YtagacielooaapaaGreatDoorZBD
import Derived.Test.YtagacielooaapaaGreatDoorZAQ
set_option linter.unusedVariables false
set_option linter.unusedSimpArgs false
section
/-Powers:iv.times,iv.Pow,the document's Power,Pow. -/
set_option maxRecDepth 100000
namespace Go.Pv
open Go.Proofs
theorem x1j (x:Nm) (k:Nat) (st:Q0e) (hx:Q0g x=true) (hk:k≤8):PCalls Tryz.prog 262 [.agg (encN x),.sc (.int .i64 k)] st (fun r st'=> ∃y,bd 1000 1000000 y∧qN y=powQ (qN x) k∧r= .agg (encN y)∧st'=st):=by
 have hb:=X0e hx
 refine Q0b none Tryz.func262 rfl fun E=>Q0a ?_
 simp -dsimp only [go_sem]
 refine(G2e _).mono ?_
 rintro r st ⟨rfl,rfl⟩
 simp -dsimp only [go_sem]
 refine Q0f [false,false,true,false,true,true,false,true,true] 3 0
  (fun n s=> ∃i y,n=k-i∧i≤k∧bd (1+64*i) (65536*i) y∧qN y=powQ (qN x) i∧s=⟨[.junk,.junk,.lp 0 0,.junk,.lp 1 0,.lp 2 0,.junk,.sc (.int .i64 k),.sc (.int .i64 (i:Nat))]++List.replicate 6 .junk,[encN x,[.sc (.bool false),.sc (.int .i64 0),.sl .full []],encN y],[],st⟩) k ?_ ?_
 · simp -dsimp only [go_sem]
   exact⟨0,oneN,by omega,by omega,⟨by decide,by decide,by decide⟩,X3b,rfl⟩
 · rintro n s ⟨i,y,rfl,hi,hy,hq,rfl⟩
   simp -dsimp only [go_sem]
   refine ck (fun h'=> ?_) (fun h'=> ?_)
   · have hlt:i<k:=by have:=of_decide_eq_true h';omega
     have e3:=j0m i (by omega)
     simp -dsimp only [go_sem]
     refine(K1q y x _ _ _ _ _ hy hb (by omega) (by omega) (by omega) (by omega)).mono ?_
     rintro r st ⟨z,hz,hzq,rfl,rfl⟩
     simp -dsimp only [go_sem,e3]
     exact⟨k-(i+1),by omega,i+1,z,rfl,by omega,hz.mono (by omega) (by omega),by rw [hzq,hq];rfl,rfl⟩
   · have hge:i=k:=by have:=of_decide_eq_false h';omega
     subst hge
     simp -dsimp only [go_sem]
     refine Q0a ?_
     simp -dsimp only [go_sem]
     exact⟨y,hy.mono (by omega) (by omega),hq,rfl⟩
theorem Y3x {n:Nat} (h:((n:Int).tmod 2==0)=true):n % 2=0:=by
 have h1:=X1o h
 have e:(n:Int).tmod 2=((n % 2:Nat):Int):=rfl
 omega
theorem y2t {n:Nat} (h:((n:Int).tmod 2==0)=false):n % 2≠0:=by
 have h1:=H1u h
 have e:(n:Int).tmod 2=((n % 2:Nat):Int):=rfl
 omega
theorem Y3b (a:Ivl) (k p:Int) (st:Q0e) (ha:wI a):PCalls Tryz.prog 249 [.agg (encI a),.sc (.int .i64 k),.sc (.int .i64 p)] st (fun r st'=>r= .tup [.agg (encI (powI a k p).1),.sc (.int .i64 (powI a k p).2)]∧st'=st):=by
 refine Q0b none Tryz.func249 rfl fun E=>Q0a ?_
 simp -dsimp only [go_sem]
 refine(K1d a a p _ ha ha).mono ?_
 rintro r st ⟨rfl,rfl⟩
 cases hv:(Q0h a&&Q0h a&&Z0l p) with
 | false=>
  have hp:powI a k p=(default,1):=by
   rw [powI,if_neg]
   rintro⟨h1,_,_,h4⟩
   rw [h1,h4] at hv;cases hv
  simp -dsimp only [go_sem,hv]
  rw [hp];rfl
 | true=>
  simp only [Bool.and_eq_true] at hv
  obtain⟨⟨r1,_⟩,r3⟩:=hv
  simp -dsimp only [go_sem]
  refine gkF (fun g1=> ?_) (fun g1=> ?_)
  · have g1':=of_decide_eq_false g1
    simp -dsimp only [go_sem,g1]
    refine ck (fun g2=> ?_) (fun g2=> ?_)
    · have g2':=of_decide_eq_true g2
      have hp:powI a k p=(default,1):=by
       rw [powI,if_neg]
       rintro⟨_,h2,h3,_⟩;omega
      simp -dsimp only [go_sem]
      rw [hp];rfl
    · have g2':=of_decide_eq_false g2
      obtain⟨q,rfl,q1,q2,q3⟩:=z0r r3
      obtain⟨n,rfl⟩: ∃n:Nat,k=n:=⟨k.toNat,by omega⟩
      have hn:n≤8:=by omega
      obtain⟨a1,a2,_⟩:=Q0n r1
      have hp:powI a n q=H0g (Q0y (z0i a n) q false) (Q0y (j0p a n) q true):=by
       rw [powI,if_pos ⟨r1,by omega,by omega,r3⟩,q3,Int.toNat_natCast]
      rw [hp]
      clear hp
      simp -dsimp only [go_sem]
      refine U1x Z0x 66 [0,1,2,3,4,5,6,7] [8,9] [10,11] (.step 0 [] (.step 1 [] (.step 2 [] (.step 4 [] (.step 5 [] (.step 6 [] (.step 3 [5] (.step 7 [] (.done))))))))) (.step 10 [] (.step 11 [] (.done))) (by decide+kernel) (by simp) ?_
      simp -dsimp only [go_sem]
      refine(x1j a.lo n _ a1 hn).mono ?_
      rintro r st ⟨y,hy,hyq,rfl,rfl⟩
      simp -dsimp only [go_sem]
      refine(x1j a.hi n _ a2 hn).mono ?_
      rintro r st ⟨z,hz,hzq,rfl,rfl⟩
      have sy:=V1l hy (by omega) (by omega)
      have sz:=V1l hz (by omega) (by omega)
      have hlow:=U2m r1 hyq hzq
      have hhigh:=(z1m r1 hyq hzq).2
      have bl:=w0z hy hz
      have bg:=y0c hy hz
      simp -dsimp only [go_sem]
      refine U1x Z0x 66 [0,1,2,3,4,5] [6,7] [8,9] (.step 0 [] (.step 1 [] (.step 3 [] (.step 4 [] (.step 2 [3,4] (.step 5 [] (.done))))))) (.step 8 [] (.step 9 [] (.done))) (by decide+kernel) (by simp) ?_
      simp -dsimp only [go_sem]
      refine(v1z y z _ sy sz).mono ?_
      rintro r st ⟨rfl,rfl⟩
      simp -dsimp only [go_sem]
      refine(Q1q y z _ sy sz).mono ?_
      rintro r st ⟨rfl,rfl⟩
      generalize Z0c y z=lo at*
      generalize Z0d y z=hi at*
      simp -dsimp only [go_sem]
      refine gkT (fun g3=> ?_) (fun g3=> ?_)
      · have g3':0<n:=by have:=of_decide_eq_true g3;omega
        simp -dsimp only [go_sem,g3]
        refine gkT (fun g4=> ?_) (fun g4=> ?_)
        · have g4':=Y3x g4
          simp -dsimp only [go_sem,g3,g4]
          refine(q0w a.lo _ (by have:=(Q0u a1).1;omega)).mono ?_
          rintro r st ⟨rfl,rfl⟩
          simp -dsimp only [go_sem,g3,g4]
          refine gkT (fun g5=> ?_) (fun g5=> ?_)
          · have g5':=of_decide_eq_true g5
            simp -dsimp only [go_sem,g3,g4,g5]
            refine(q0w a.hi _ (by have:=(Q0u a2).1;omega)).mono ?_
            rintro r st ⟨rfl,rfl⟩
            simp -dsimp only [go_sem,g3,g4,g5]
            refine ck (fun g6=> ?_) (fun g6=> ?_)
            · have g6':=of_decide_eq_true g6
              rw [if_pos ⟨g3',g4',g5',g6'⟩] at hlow
              simp -dsimp only [go_sem]
              refine(U0t default hi q _ (X0e (show Q0g default=true by decide)|>.mono (by omega) (by omega)) (bg.mono (by omega) (by omega)) (by omega) (by omega)).mono ?_
              rintro r st ⟨rfl,rfl⟩
              rw [hlow,hhigh]
              simp -dsimp only [go_sem]
            · have g6':=of_decide_eq_false g6
              rw [if_neg (fun e=>g6' e.2.2.2)] at hlow
              simp -dsimp only [go_sem]
              refine(U0t lo hi q _ (bl.mono (by omega) (by omega)) (bg.mono (by omega) (by omega)) (by omega) (by omega)).mono ?_
              rintro r st ⟨rfl,rfl⟩
              rw [hlow,hhigh]
              simp -dsimp only [go_sem]
          · have g5':=of_decide_eq_false g5
            rw [if_neg (fun e=>g5' e.2.2.1)] at hlow
            simp -dsimp only [go_sem,g3,g4,g5]
            refine(U0t lo hi q _ (bl.mono (by omega) (by omega)) (bg.mono (by omega) (by omega)) (by omega) (by omega)).mono ?_
            rintro r st ⟨rfl,rfl⟩
            rw [hlow,hhigh]
            simp -dsimp only [go_sem]
        · have g4':=y2t g4
          rw [if_neg (fun e=>g4' e.2.1)] at hlow
          simp -dsimp only [go_sem,g3,g4]
          refine(U0t lo hi q _ (bl.mono (by omega) (by omega)) (bg.mono (by omega) (by omega)) (by omega) (by omega)).mono ?_
          rintro r st ⟨rfl,rfl⟩
          rw [hlow,hhigh]
          simp -dsimp only [go_sem]
      · have g3': ¬0<n:=by have:=of_decide_eq_false g3;omega
        rw [if_neg (fun e=>g3' e.1)] at hlow
        simp -dsimp only [go_sem,g3]
        refine(U0t lo hi q _ (bl.mono (by omega) (by omega)) (bg.mono (by omega) (by omega)) (by omega) (by omega)).mono ?_
        rintro r st ⟨rfl,rfl⟩
        rw [hlow,hhigh]
        simp -dsimp only [go_sem]
  · have g1':=of_decide_eq_true g1
    have hp:powI a k p=(default,1):=by
     rw [powI,if_neg]
     rintro⟨_,h2,h3,_⟩;omega
    simp -dsimp only [go_sem,g1]
    rw [hp];rfl
end Go.Pv
end
section
/-Polynomials of the program:At,over a box,Range. -/
set_option maxRecDepth 100000
namespace Go.Pv
open Go.Proofs
theorem X2q {α:Type} [Inhabited α] (l:List α) (f:α→Bool):l.all f=true↔ ∀i,i<l.length→f (l.getD i default)=true:=by
 rw [List.all_eq_true]
 constructor
 · intro h i hi
   have:l.getD i default=l[i]:=by simp [List.getD_eq_getElem?_getD,hi]
   rw [this];exact h _ (List.getElem_mem hi)
 · intro h x hx
   obtain⟨i,hi,e⟩:=List.mem_iff_getElem.1 hx
   have:=h i hi
   rw [show l.getD i default=l[i] by simp [List.getD_eq_getElem?_getD,hi],e] at this
   exact this
theorem j3c (y:Ivl) (st:Q0e) (hwi:wI y):PCalls Tryz.prog 226 [.agg (encI y)] st (fun r st'=>r= .sc (.bool (!Q0h y))∧st'=st):=by
 refine Q0b none Tryz.func226 rfl fun E=>Q0a ?_
 simp -dsimp only [go_sem]
 refine(K0q y _ hwi).mono ?_
 rintro r st ⟨rfl,rfl⟩
 simp -dsimp only [go_sem]
theorem w1s (l:List Ivl) (st:Q0e) (hl:l.length≤100000000000) (hw: ∀i,i<l.length→wI (l.getD i default)):PCalls Tryz.prog 225 [.sl .no (Q0m l),.fn (.func 226) [] []] st (fun r st'=>r= .sc (.bool (!l.all Q0h))∧st'=st):=by
 refine Q0b none Tryz.func225 rfl fun E=>Q0a ?_
 simp -dsimp only [go_sem]
 suffices h:PCalls Tryz.prog 248 [.sl .no (Q0m l),.fn (.func 226) [] []] st (fun r st'=>(∃k:Int,r= .sc (.int .i64 k)∧decide (k≥0)= !l.all Q0h)∧st'=st) by
  refine h.mono ?_
  rintro r st ⟨⟨k,rfl,hk⟩,rfl⟩
  simp -dsimp only [go_sem,hk]
 refine Q0b none Tryz.func248 rfl fun E=>Q0a ?_
 simp -dsimp only [go_sem]
 refine Q0f [true,true,false,false,false,false,false,true,true] 0 0
  (fun n s=> ∃i,n=l.length-i∧i≤l.length∧(∀j,j<i→Q0h (l.getD j default)=true)∧s=⟨[.sl .no (Q0m l),.fn (.func 226) [] [],.junk,.junk,.junk,.junk,.junk,.sc (.int .i64 l.length),.sc (.int .i64 (i:Nat))]++List.replicate 10 .junk,[],[],st⟩) l.length ?_ ?_
 · simp -dsimp only [go_sem]
   exact⟨0,by omega,by omega,fun j hj=>by omega,rfl⟩
 · rintro n s ⟨i,rfl,hi,hr,rfl⟩
   simp -dsimp only [go_sem]
   refine ck (fun h'=> ?_) (fun h'=> ?_)
   · have hlt:i<l.length:=by have:=of_decide_eq_true h';omega
     have e1:=K0t l i hlt
     have e3:=j0m i (by omega)
     have hc:Q0c Tryz.prog 226=true:=rfl
     simp -dsimp only [go_sem,e1,hc]
     refine⟨by omega,?_⟩
     refine(j3c (l.getD i default) _ (hw i hlt)).mono ?_
     rintro r st ⟨rfl,rfl⟩
     simp -dsimp only [go_sem]
     refine ck (fun h2=> ?_) (fun h2=> ?_)
     · have hf:Q0h (l.getD i default)=false:=by simpa using h2
       have hv:l.all Q0h=false:=Bool.eq_false_iff.2 fun e=>by
        have:=(X2q l Q0h).1 e i hlt
        rw [hf] at this;cases this
       simp -dsimp only [go_sem]
       exact⟨_,rfl,by rw [hv,decide_eq_true (by omega)];rfl⟩
     · have ht:Q0h (l.getD i default)=true:=by simpa using h2
       simp -dsimp only [go_sem,e3]
       refine⟨l.length-(i+1),by omega,i+1,rfl,by omega,fun j hj=> ?_,rfl⟩
       by_cases e:j=i
       · subst e;exact ht
       · exact hr j (by omega)
   · have hge:i=l.length:=by have:=of_decide_eq_false h';omega
     have hv:l.all Q0h=true:=(X2q l Q0h).2 fun j hj=>hr j (by omega)
     simp -dsimp only [go_sem]
     refine Q0a ?_
     simp -dsimp only [go_sem]
     exact⟨_,rfl,by rw [hv];rfl⟩
theorem K2g (m:Mn) (b:List Ivl) (p:Int) (st:Q0e) (hl:m.ks.length=b.length) (h4:b.length≤4) (hk:K0a m.ks=true) (hm:Q0g m.c=true) (hb: ∀i,i<b.length→wI (b.getD i default)):PCalls Tryz.prog 227 [.agg (j0r m),.sl .no (Q0m b),.sc (.int .i64 p)] st (fun r st'=>r= .tup [.agg (encI (Z0v m b p b.length).1),.sc (.int .i64 (Z0v m b p b.length).2)]∧st'=st):=by
 refine Q0b none Tryz.func227 rfl fun E=>Q0a ?_
 simp -dsimp only [go_sem]
 refine(j3x m.c _ (q0h (Q0u hm))).mono ?_
 rintro r st ⟨rfl,rfl⟩
 simp -dsimp only [go_sem]
 refine Q0f [false,true,true,false,false,false,true,false,true,false,false,false,false,false,false,false,false,true,true,true] 3 0
  (fun n s=> ∃i,n=b.length-i∧i≤b.length∧(Z0v m b p i).2=0∧s=⟨[.junk,.sl .no (Q0m b),.sc (.int .i64 p),.junk,.junk,.junk,.lp 1 0,.junk,.lp 2 0,.junk,.junk,.junk,.junk,.junk,.junk,.junk,.junk,.sl .no (encZ m.ks),.sc (.int .i64 m.ks.length),.sc (.int .i64 (i:Nat))]++List.replicate 33 .junk,[j0r m,[.sc (.bool false),.sc (.int .i64 0),.sl .full [],.sc (.bool false),.sc (.int .i64 0),.sl .full []],encI (Z0v m b p i).1],[],st⟩) b.length ?_ ?_
 · simp -dsimp only [go_sem]
   exact⟨0,by omega,by omega,rfl,rfl⟩
 · rintro n s ⟨i,rfl,hi,h0,rfl⟩
   have wo:=G1h hm b p i
   simp -dsimp only [go_sem]
   refine ck (fun h'=> ?_) (fun h'=> ?_)
   · have hlt:i<b.length:=by have:=of_decide_eq_true h';omega
     have e1:=Y0x m.ks i (by omega)
     have e2:=K0t b i hlt
     have e3:=j0m i (by omega)
     have hnext:Z0v m b p (i+1)=if m.ks.getD i 0=0 then Z0v m b p i
      else if (powI (b.getD i default) (m.ks.getD i 0) p).2≠0 then(default,(powI (b.getD i default) (m.ks.getD i 0) p).2)
      else opI 2 (Z0v m b p i).1 (powI (b.getD i default) (m.ks.getD i 0) p).1 p:=by rw [Z0v,if_neg (by rw [h0];decide)]
     simp -dsimp only [go_sem,e1]
     refine⟨by omega,?_⟩
     refine ck (fun h2=> ?_) (fun h2=> ?_)
     · rw [if_pos (X1o h2)] at hnext
       simp -dsimp only [go_sem,e3]
       exact⟨b.length-(i+1),by omega,i+1,rfl,by omega,by rw [hnext];exact h0,by rw [hnext]⟩
     · rw [if_neg (H1u h2)] at hnext
       have wp:=V3t (b.getD i default) (m.ks.getD i 0) p
       simp -dsimp only [go_sem,e2]
       refine⟨by omega,?_⟩
       refine(Y3b (b.getD i default) (m.ks.getD i 0) p _ (hb i hlt)).mono ?_
       rintro r st ⟨rfl,rfl⟩
       simp -dsimp only [go_sem]
       refine ck (fun h3=> ?_) (fun h3=> ?_)
       · rw [if_pos (V0p h3)] at hnext
         have hs:=k0m (m:=m) (b:=b) (p:=p) (i:=i+1) (by rw [hnext];exact V0p h3) (b.length-(i+1))
         rw [show i+1+(b.length-(i+1))=b.length from by omega,hnext] at hs
         simp -dsimp only [go_sem]
         rw [hs];rfl
       · rw [if_neg (by rw [W0y h3];decide)] at hnext
         simp -dsimp only [go_sem]
         refine(H2j (Z0v m b p i).1 (powI (b.getD i default) (m.ks.getD i 0) p).1 p _ wo wp).mono ?_
         rintro r st ⟨rfl,rfl⟩
         rw [←hnext]
         simp -dsimp only [go_sem]
         refine ck (fun h4=> ?_) (fun h4=> ?_)
         · have hs:=k0m (m:=m) (b:=b) (p:=p) (i:=i+1) (V0p h4) (b.length-(i+1))
           rw [show i+1+(b.length-(i+1))=b.length from by omega] at hs
           simp -dsimp only [go_sem]
           rw [hs];rfl
         · simp -dsimp only [go_sem,e3]
           exact⟨b.length-(i+1),by omega,i+1,rfl,by omega,W0y h4,rfl⟩
   · have hge:i=b.length:=by have:=of_decide_eq_false h';omega
     subst hge
     simp -dsimp only [go_sem]
     refine Q0a ?_
     simp -dsimp only [go_sem]
     rw [h0]
theorem v1g (q:List Mn) (b:List Ivl) (p:Int) (st:Q0e) (hq:wP q) (hb:wB b):PCalls Tryz.prog 182 [.sl .no (X0c q),.sl .no (Q0m b),.sc (.int .i64 p)] st (fun r st'=>r= .tup [.agg (encI (K0z q b p).1),.sc (.int .i64 (K0z q b p).2)]∧st'=st):=by
 refine Q0b none Tryz.func182 rfl fun E=>Q0a ?_
 have bad: ¬(J0z q b.length=true∧b.all Q0h=true∧Z0l p=true)→K0z q b p=(default,1):=fun h=>if_neg h
 simp -dsimp only [go_sem]
 refine(J1n q _ _ hq).mono ?_
 rintro r st ⟨rfl,rfl⟩
 cases r1:J0z q (b.length:Int) with
 | false=>
  have hv:=bad (by rintro⟨h,_⟩;rw [r1] at h;cases h)
  simp -dsimp only [go_sem]
  rw [hv];rfl
 | true=>
  simp -dsimp only [go_sem]
  refine gkF (fun g1=> ?_) (fun g1=> ?_)
  · have g1':=of_decide_eq_false g1
    simp -dsimp only [go_sem,g1]
    refine gkF (fun g2=> ?_) (fun g2=> ?_)
    · have g2':=of_decide_eq_false g2
      have hc:Q0c Tryz.prog 226=true:=rfl
      have hp:Z0l p=true:=by unfold Z0l;rw [decide_eq_true (by omega),decide_eq_true (by omega)];rfl
      simp -dsimp only [go_sem,g1,g2,hc]
      refine(w1s b _ hb.1 hb.2).mono ?_
      rintro r st ⟨rfl,rfl⟩
      cases r2:b.all Q0h with
      | false=>
       have hv:=bad (by rintro⟨_,h,_⟩;rw [r2] at h;cases h)
       simp -dsimp only [go_sem,g1,g2]
       rw [hv];rfl
      | true=>
       have hrp:K0z q b p=Z0a q b p q.length:=if_pos ⟨r1,r2,hp⟩
       rw [hrp]
       clear hrp bad
       have h4:=((W0l _ _).1 r1).1
       simp -dsimp only [go_sem,g1,g2]
       refine X0o 1 ?_
       simp -dsimp only [go_sem]
       refine Q0f [false,true,true,false,false,false,true,false,true,false,false,false,false,false,false,false,false,false,false,false,false,false,false,false,false,false,false,false,false,false,false,true,true,true] 2 0
        (fun n s=> ∃i,n=q.length-i∧i≤q.length∧(Z0a q b p i).2=0∧s=⟨[.junk,.sl .no (Q0m b),.sc (.int .i64 p),.junk,.junk,.junk,.lp 0 0,.junk,.lp 1 0,.junk,.junk,.junk,.junk,.junk,.junk,.junk,.junk,.junk,.junk,.junk,.junk,.junk,.junk,.junk,.junk,.junk,.junk,.junk,.junk,.junk,.junk,.sl .no (X0c q),.sc (.int .i64 q.length),.sc (.int .i64 (i:Nat))]++List.replicate 27 .junk,[[.sc (.bool false),.sc (.int .i64 0),.sl .full [],.sc (.bool false),.sc (.int .i64 0),.sl .full []],encI (Z0a q b p i).1],[],st⟩) q.length ?_ ?_
       · simp -dsimp only [go_sem]
         exact⟨0,by omega,by omega,rfl,rfl⟩
       · rintro n s ⟨i,rfl,hi,h0,rfl⟩
         have wr:=z1d q b p i
         simp -dsimp only [go_sem]
         refine ck (fun h'=> ?_) (fun h'=> ?_)
         · have hlt:i<q.length:=by have:=of_decide_eq_true h';omega
           have e1:=x0h q i hlt
           have e3:=j0m i (by omega)
           obtain⟨k1,k2,k3⟩:=k1v r1 hlt
           have wo:=G1h k3 b p b.length
           have hnext:Z0a q b p (i+1)=if (Z0v (q.getD i default) b p b.length).2≠0 then(default,(Z0v (q.getD i default) b p b.length).2)
            else opI 0 (Z0a q b p i).1 (Z0v (q.getD i default) b p b.length).1 p:=by rw [Z0a,if_neg (by rw [h0];decide)]
           simp -dsimp only [go_sem,e1]
           refine⟨by omega,?_⟩
           refine(K2g (q.getD i default) b p _ (by omega) (by omega) k2 k3 hb.2).mono ?_
           rintro r st ⟨rfl,rfl⟩
           simp -dsimp only [go_sem]
           refine ck (fun h3=> ?_) (fun h3=> ?_)
           · rw [if_pos (V0p h3)] at hnext
             have hs:=z0o (q:=q) (b:=b) (p:=p) (i:=i+1) (by rw [hnext];exact V0p h3) (q.length-(i+1))
             rw [show i+1+(q.length-(i+1))=q.length from by omega,hnext] at hs
             simp -dsimp only [go_sem]
             rw [hs];rfl
           · rw [if_neg (by rw [W0y h3];decide)] at hnext
             simp -dsimp only [go_sem]
             refine(H2k (Z0a q b p i).1 (Z0v (q.getD i default) b p b.length).1 p _ wr wo).mono ?_
             rintro r st ⟨rfl,rfl⟩
             rw [←hnext]
             simp -dsimp only [go_sem]
             refine ck (fun h4=> ?_) (fun h4=> ?_)
             · have hs:=z0o (q:=q) (b:=b) (p:=p) (i:=i+1) (V0p h4) (q.length-(i+1))
               rw [show i+1+(q.length-(i+1))=q.length from by omega] at hs
               simp -dsimp only [go_sem]
               rw [hs];rfl
             · simp -dsimp only [go_sem,e3]
               exact⟨q.length-(i+1),by omega,i+1,rfl,by omega,W0y h4,rfl⟩
         · have hge:i=q.length:=by have:=of_decide_eq_false h';omega
           subst hge
           simp -dsimp only [go_sem]
           refine Q0a ?_
           simp -dsimp only [go_sem]
           rw [h0]
    · have hv:=bad (by rintro⟨_,_,h⟩;unfold Z0l at h;simp only [Bool.and_eq_true,decide_eq_true_eq] at h;have:=of_decide_eq_true g2;omega)
      simp -dsimp only [go_sem,g1,g2]
      rw [hv];rfl
  · have hv:=bad (by rintro⟨_,_,h⟩;unfold Z0l at h;simp only [Bool.and_eq_true,decide_eq_true_eq] at h;have:=of_decide_eq_true g1;omega)
    simp -dsimp only [go_sem,g1]
    rw [hv];rfl
end Go.Pv
end
section
/-Polynomials of the document:Value,At,Range. -/
set_option maxRecDepth 100000
namespace Go.Pv
open Go.Proofs
theorem x1c {x:Nm} (h:Q0g x=true):luQ 65536 69632 (qN x):=by
 have:=x1d (y1g h)
 rw [Q0p] at this;exact this
end Go.Pv
end
section
/-Fields at points and over boxes,on both sides. -/
set_option maxRecDepth 100000
namespace Go.Pv
open Go.Proofs
def atFd (f:List (List Mn)) (x:List Nm):List Nm×Int:=if V0z f=true∧x.length=f.length then tabF (fun i=>atP (f.getD i []) x) 0 f.length [] else([],1)
def Z0p (f:List (List Mn)) (b:List Ivl) (p:Int):List Ivl×Int:=if V0z f=true∧b.length=f.length then tabF (fun i=>K0z (f.getD i []) b p) 0 f.length [] else([],1)
theorem k0h {f:List (List Mn)} {b:List Ivl} {p:Int} (h: ¬(V0z f=true∧b.length=f.length∧rightB b=true)):Z0p f b p=([],1):=by
 unfold Z0p
 split
 · rename_i c
   have h4:=((U0a f).1 c.1).1
   have hb: ¬b.all Q0h=true:=fun e=>h ⟨c.1,c.2,by unfold rightB;rw [e,decide_eq_true (by omega),decide_eq_true (by omega)];rfl⟩
   exact J2e _ h4.1 1 (by decide) fun i=>by unfold K0z;rw [if_neg (fun e=>hb e.2.1)]
 · rfl
theorem x1y (f:List (List Mn)) (b:List Ivl) (p:Int) (st:Q0e) (hf:wF f) (hb:wB b):PCalls Tryz.prog 120 [.sl .no (X0k f),.sl .no (Q0m b),.sc (.int .i64 p)] st (fun r st'=>r= .tup [.sl .no (Q0m (Z0p f b p).1),.sc (.int .i64 (Z0p f b p).2)]∧st'=st):=by
 have hfl:=hf.1
 refine Q0b none Tryz.func120 rfl fun E=>Q0a ?_
 simp -dsimp only [go_sem]
 refine(Z1l f _ hf).mono ?_
 rintro r st ⟨rfl,rfl⟩
 cases r1:V0z f with
 | false=>
  have hv:=k0h (f:=f) (b:=b) (p:=p) (by rintro⟨h,_⟩;rw [r1] at h;cases h)
  simp -dsimp only [go_sem]
  rw [hv];rfl
 | true=>
  have h4:=((U0a f).1 r1).1
  simp -dsimp only [go_sem]
  refine(K0g b _ hb).mono ?_
  rintro r st ⟨rfl,rfl⟩
  cases r2:rightB b with
  | false=>
   have hv:=k0h (f:=f) (b:=b) (p:=p) (by rintro⟨_,_,h⟩;rw [r2] at h;cases h)
   simp -dsimp only [go_sem]
   rw [hv];rfl
  | true=>
   simp -dsimp only [go_sem]
   refine ck (fun h=> ?_) (fun h=> ?_)
   · have hne:=Z1i h
     have hv:=k0h (f:=f) (b:=b) (p:=p) (by rintro⟨_,h,_⟩;exact hne h)
     simp -dsimp only [go_sem]
     rw [hv];rfl
   · have heq:=j0v h
     have hv:Z0p f b p=tabF (fun i=>K0z (f.getD i []) b p) 0 f.length []:=if_pos ⟨r1,heq⟩
     rw [hv]
     simp -dsimp only [go_sem]
     refine X0y 8 6 ?_
     simp -dsimp only [go_sem]
     refine Q0f [false,true,true,false,false,false,false,false,true,false,false,false,false,false,false,false,false,false,false,false,false,false,false,false,false,false,false,false,true,true,true] 0 1
      (fun n s=> ∃(i:Nat) (o:List Ivl),n=f.length-i∧i≤f.length∧o.length=i∧tabF (fun i=>K0z (f.getD i []) b p) 0 f.length []=tabF (fun i=>K0z (f.getD i []) b p) i (f.length-i) o∧
       s=⟨[.junk,.sl .no (Q0m b),.sc (.int .i64 p),.junk,.junk,.junk,.junk,.junk,.sl (.own 0) (Q0m o),.junk,.junk,.junk,.junk,.junk,.junk,.junk,.junk,.junk,.junk,.junk,.junk,.junk,.junk,.junk,.junk,.junk,.junk,.junk,.sl .no (X0k f),.sc (.int .i64 f.length),.sc (.int .i64 (i:Nat))]++List.replicate 19 .junk,[],[(o.length,6)],st⟩) f.length ?_ ?_
     · simp -dsimp only [go_sem]
       exact⟨0,[],by omega,by omega,rfl,rfl,rfl⟩
     · rintro n s ⟨i,o,rfl,hi,ho,hr,rfl⟩
       simp -dsimp only [go_sem]
       refine ck (fun h'=> ?_) (fun h'=> ?_)
       · have hlt:i<f.length:=by have:=of_decide_eq_true h';omega
         have e1:=K1y f i hlt
         have e3:=j0m i (by omega)
         have e4:=W2v (fun i=>K0z (f.getD i []) b p) hlt o
         simp -dsimp only [go_sem,e1]
         refine⟨by omega,?_⟩
         refine(v1g (f.getD i []) b p _ (hf.2 i hlt) hb).mono ?_
         rintro r st ⟨rfl,rfl⟩
         simp -dsimp only [go_sem]
         refine ck (fun h2=> ?_) (fun h2=> ?_)
         · have hne:=V0p h2
           simp -dsimp only [go_sem]
           rw [hr,e4,if_pos hne];rfl
         · have he:=W0y h2
           simp -dsimp only [go_sem,e3]
           refine⟨⟨by omega,by omega⟩,f.length-(i+1),by omega,i+1,o++ [(K0z (f.getD i []) b p).1],rfl,by omega,by simp [ho],?_,?_⟩
           · rw [hr,e4,if_neg (fun hh=>hh he)]
           · simp [Q0m,encI]
       · have hge:i=f.length:=by have:=of_decide_eq_false h';omega
         subst hge
         simp -dsimp only [go_sem]
         refine V0c [false,false,false,false,false,false,false,false,true] (Q0a ?_)
         simp -dsimp only [go_sem]
         rw [hr,j2g]
end Go.Pv
end
section
/-field.Jac. -/
set_option maxRecDepth 100000
namespace Go.Pv
open Go.Proofs
def jacG (f:List (List Mn)) (i j:Nat):List Mn×Int:=U4j (f.getD i []) (j:Nat) f.length
def jacF (f:List (List Mn)):List (List (List Mn))×Int:=if V0z f=true then tabF (fun i=>tabF (fun j=>jacG f i j) 0 f.length []) 0 f.length [] else([],1)
end Go.Pv
end
section
/-The document's gather,for terms in falling order. -/
set_option maxRecDepth 100000
namespace Go.Pv
open Go.Proofs
theorem Y1r (a:List Tm) (i:Nat) (h:i<a.length):a.drop i=a.getD i default::a.drop (i+1):=by
 rw [List.drop_eq_getElem_cons h]
 simp [List.getD_eq_getElem?_getD,h]
theorem J2d (a:List Tm) (i:Nat) (h:i<a.length):a.take (i+1)=a.take i++ [a.getD i default]:=by
 rw [List.take_add_one,List.getElem?_eq_getElem h]
 simp [List.getD_eq_getElem?_getD,h]
end Go.Pv
end
section
/-Layer 11:light,told. -/
set_option maxRecDepth 100000
namespace Go.Pv
open Go.Proofs
theorem Y2w (q:List Mn) (b:List Ivl) (p:Int):wI (K0z q b p).1:=by
 unfold K0z
 split
 · exact z1d _ _ _ _
 · exact y0r
theorem K2a (f:List (List Mn)) (b:List Ivl) (p:Int) (hf:f.length≤100000000000):wB (Z0p f b p).1:=by
 have key:(Z0p f b p).1.length≤100000000000∧ ∀y∈(Z0p f b p).1,wI y:=by
  unfold Z0p
  split
  · refine⟨?_,y1s wI f.length 0 [] (fun i _ _=>Y2w _ _ _) (fun x hx=>by cases hx)⟩
    have:=y1t (G:=fun i=>K0z (f.getD i []) b p) f.length 0 []
    rw [List.length_nil] at this;omega
  · exact⟨by simp,fun y hy=>by cases hy⟩
 refine⟨key.1,fun i hi=> ?_⟩
 rw [show(Z0p f b p).1.getD i default=(Z0p f b p).1[i] by simp [List.getD_eq_getElem?_getD,hi]]
 exact key.2 _ (List.getElem_mem hi)
end Go.Pv
end
