/- Parts of the walk: N91, N94, N95. -/
import Derived.Test.YtagacielooaapaaGreatDoorZCC
import Derived.Test.YtagacielooaapaaGreatDoorZBR
import Derived.Test.YtagacielooaapaaGreatDoorZCB
import Derived.Test.YtagacielooaapaaGreatDoorZAE
import Derived.Test.YtagacielooaapaaGreatDoorZM
set_option linter.unusedVariables false
set_option linter.unusedSimpArgs false
section
/-The document's series:long,Coef,product. -/
set_option maxRecDepth 100000
namespace Go.Pv
open Go.Proofs
theorem J1b (a:List Ivl) (k:Nat) (st:Q0g) (hk:k≤1000000) (la:a.length≤1000000) (wa: ∀x∈a,wI x):PCalls Tryz.prog 198 [.sl .no (Q0n a),.sc (.int .i64 k)] st
 (fun r st'=>r= .sc (.bool (K0d a k))∧st'=st):=by
 refine Q0b none Tryz.func198 rfl fun E=>Q0a ?_
 have wk:IntKind.i64.wrap ((k:Int)+1)=((k+1:Nat):Int):=by rw [Q0h _ (by omega) (by omega)];omega
 simp -dsimp only [go_sem,wk]
 refine ck (fun h=> ?_) (fun h=> ?_)
 · have hl:a.length<k+1:=by have:=of_decide_eq_true h;omega
   have:K0d a k=false:=Bool.eq_false_iff.2 fun hu=>by have:=w0y hu;omega
   simp -dsimp only [go_sem]
   rw [this]
 · have hl:k<a.length:=by have:=of_decide_eq_false h;omega
   simp -dsimp only [go_sem]
   refine Q0e [true,true,false,false,false,true] 0 0
    (fun c s'=> ∃i,c=k+1-i∧i≤k+1∧(∀j,j<i→Q0i (a.getD j default)=true)∧
     s'=⟨[.sl .no (Q0n a),.sc (.int .i64 (k:Nat)),.junk,.junk,.junk,.sc (.int .i64 (i:Nat))]++List.replicate 16 .junk,[],[],st⟩) (k+1) ?_ ?_
   · simp -dsimp only [go_sem]
     exact⟨0,by omega,by omega,fun j hj=>absurd hj (by omega),rfl⟩
   · rintro c s' ⟨i,rfl,hi,hall,rfl⟩
     simp -dsimp only [go_sem]
     refine ck (fun h=> ?_) (fun h=> ?_)
     · have hlt:i<k+1:=by have:=of_decide_eq_true h;omega
       have e3:IntKind.i64.wrap ((i:Int)+1)=((i+1:Nat):Int):=by rw [Q0h _ (by omega) (by omega)];omega
       have gI:=Z0m a i (by omega)
       simp -dsimp only [go_sem,gI]
       refine⟨by omega,?_⟩
       refine(X0w (a.getD i default) _ (z0j wa i)).mono ?_
       rintro r st ⟨rfl,rfl⟩
       cases hr:Q0i (a.getD i default) with
       | false=>
        have:K0d a k=false:=Bool.eq_false_iff.2 fun hu=>by
         have:=X2o hu (show i≤k by omega)
         rw [hr] at this;cases this
        simp -dsimp only [go_sem]
        rw [this]
       | true=>
        simp -dsimp only [go_sem,e3]
        refine⟨k+1-(i+1),by omega,i+1,rfl,by omega,fun j hj=> ?_,rfl⟩
        by_cases e:j=i
        · rw [e];exact hr
        · exact hall j (by omega)
     · have hge:i=k+1:=by have:=of_decide_eq_false h;omega
       subst hge
       simp -dsimp only [go_sem]
       refine Q0a ?_
       simp -dsimp only [go_sem]
       rw [J1c hl fun j hj=>hall j (by omega)]
set_option maxHeartbeats 4000000 in
theorem Q3a (a b:List Ivl) (k:Nat) (p:Int) (st:Q0g) (hk:k≤10) (la:a.length≤1000000) (lb:b.length≤1000000) (wa: ∀x∈a,wI x) (wb: ∀x∈b,wI x):
 PCalls Tryz.prog 237 [.sl .no (Q0n a),.sl .no (Q0n b),.sc (.int .i64 k),.sc (.int .i64 p)] st
 (fun r st'=>r= .tup [.agg (encI (J0o a b k p).1),.sc (.int .i64 (J0o a b k p).2)]∧st'=st):=by
 refine Q0b none Tryz.func237 rfl fun E=>Q0a ?_
 have d1:decide ((k:Int)<0)=false:=decide_eq_false (by omega)
 have d2:decide ((k:Int)>10)=false:=decide_eq_false (by omega)
 simp -dsimp only [go_sem,d1,d2]
 refine(J1b a k st (by omega) la wa).mono ?_
 rintro r st ⟨rfl,rfl⟩
 cases ha:K0d a k with
 | false=>
  have e:J0o a b k p=(default,1):=by unfold J0o;rw [ha];simp
  rw [e]
  simp -dsimp only [go_sem]
  rfl
 | true=>
 simp -dsimp only [go_sem]
 refine(J1b b k st (by omega) lb wb).mono ?_
 rintro r st ⟨rfl,rfl⟩
 cases hb:K0d b k with
 | false=>
  have e:J0o a b k p=(default,1):=by unfold J0o;rw [hb];simp
  rw [e]
  simp -dsimp only [go_sem]
  rfl
 | true=>
 simp -dsimp only [go_sem]
 refine(w0p p st).mono ?_
 rintro r st ⟨rfl,rfl⟩
 cases hp:Z0b p with
 | false=>
  have e:J0o a b k p=(default,1):=by unfold J0o;rw [hp];simp
  rw [e]
  simp -dsimp only [go_sem]
  rfl
 | true=>
 have e:J0o a b k p=H0v p (U0l a b k) false default:=by unfold J0o;rw [hp,ha,hb];simp
 rw [e]
 have hka:=w0y ha
 have hkb:=w0y hb
 simp -dsimp only [go_sem]
 refine J0l 0 (J0l 1 ?_)
 simp -dsimp only [go_sem]
 refine Q0e [true,true,true,true,false,false,false,false,true,false,true,true] 2 0
  (fun c s'=> ∃(i:Nat) (s:Ivl),c=k+1-i∧i≤k+1∧wI s∧H0v p ((U0l a b k).drop i) (decide (0<i)) s=H0v p (U0l a b k) false default∧
   s'=⟨[.sl .no (Q0n a),.sl .no (Q0n b),.sc (.int .i64 (k:Nat)),.sc (.int .i64 p),.junk,.junk,.junk,.junk,.lp 0 0,.junk,.lp 1 0,.sc (.int .i64 (i:Nat))]++List.replicate 65 .junk,[encI default,encI s],[],st⟩) (k+1) ?_ ?_
 · simp -dsimp only [go_sem]
   exact⟨0,default,by omega,by omega,W0m,rfl,rfl⟩
 · rintro c s' ⟨i,s,rfl,hi,ws,hc,rfl⟩
   simp -dsimp only [go_sem]
   refine ck (fun h=> ?_) (fun h=> ?_)
   · have hlt:i<k+1:=by have:=of_decide_eq_true h;omega
     have e3:IntKind.i64.wrap ((i:Int)+1)=((i+1:Nat):Int):=by rw [Q0h _ (by omega) (by omega)];omega
     have e4:IntKind.i64.wrap ((k:Int)-(i:Int))=((k-i:Nat):Int):=by rw [Q0h _ (by omega) (by omega)];omega
     have gI:=Z0m a i (by omega)
     have gJ:=Z0m b (k-i) (by omega)
     rw [U1d a b k i hlt,U0z] at hc
     have m1:=z0j wa i
     have m2:=z0j wb (k-i)
     simp -dsimp only [go_sem]
     refine Q0l Z0k 77 (.step 0 [] (.step 1 [] (.step 2 [] (.step 3 [] (.step 4 [] (.step 5 [] (.step 6 [] (.step 7 [] (.step 8 [] (.step 9 [] (.step 10 [] (.alt (.step 11 [] (.step 12 [] (.step 13 [] (.step 14 [] (.step 15 [3,9] (.step 16 [] (.step 17 [] (.done)))))))) (.step 15 [3,9] (.step 11 [] (.step 12 [] (.step 13 [] (.step 14 [] (.step 16 [] (.step 17 [] (.done)))))))))))))))))))) (by decide+kernel) (by simp) ?_
     simp -dsimp only [go_sem,gI,gJ,e4]
     refine⟨⟨by omega,by omega⟩,⟨by omega,by omega⟩,And.intro ?_ ?_⟩
     all_goals
      refine(Q2z (a.getD i default) (b.getD (k-i) default) p _ m1 m2).mono ?_
      rintro r st2 ⟨rfl,rfl⟩
      have wz:=Y2f 2 (a.getD i default) (b.getD (k-i) default) p
      simp only at hc
      generalize opI 2 (a.getD i default) (b.getD (k-i) default) p=z at hc wz⊢
      by_cases hz:z.2=0
      · have b0:(z.2==0)=true:=by simp [hz]
        have b1:(z.2 !=0)=false:=by simp [hz]
        rw [if_pos hz] at hc
        by_cases i0:i=0
        · have d3:decide ((i:Int)>0)=false:=decide_eq_false (by omega)
          rw [if_neg (by simp [i0])] at hc
          simp -dsimp only [go_sem,b0,b1,d3,e3,hz]
          exact⟨k+1-(i+1),by omega,i+1,z.1,rfl,by omega,wz,by rw [decide_eq_true (show 0<i+1 by omega)];exact hc,rfl⟩
        · have d3:decide ((i:Int)>0)=true:=decide_eq_true (by omega)
          rw [if_pos (by simp;omega)] at hc
          simp -dsimp only [go_sem,b0,b1,d3,hz]
          refine(G1w s z.1 p _ ws wz).mono ?_
          rintro r st2 ⟨rfl,rfl⟩
          have wu:=Y2f 0 s z.1 p
          generalize opI 0 s z.1 p=u at hc wu⊢
          by_cases hu:u.2=0
          · have c1:(u.2 !=0)=false:=by simp [hu]
            rw [if_pos hu] at hc
            simp -dsimp only [go_sem,c1,e3]
            exact⟨k+1-(i+1),by omega,i+1,u.1,rfl,by omega,wu,by rw [decide_eq_true (show 0<i+1 by omega)];exact hc,rfl⟩
          · have c1:(u.2 !=0)=true:=by simp [hu]
            rw [if_neg hu] at hc
            simp -dsimp only [go_sem,c1]
            rw [←hc]
            rfl
      · have b0:(z.2==0)=false:=by simp [hz]
        have b1:(z.2 !=0)=true:=by simp [hz]
        rw [if_neg hz] at hc
        simp -dsimp only [go_sem,b0,b1]
        rw [←hc]
        rfl
   · have hge:i=k+1:=by have:=of_decide_eq_false h;omega
     subst hge
     simp -dsimp only [go_sem]
     refine Q0a ?_
     simp -dsimp only [go_sem]
     rw [show(U0l a b k).drop (k+1)= [] from by simp [U0l]] at hc
     rw [←hc]
     rfl
theorem w1c (a b:List Ivl) (k:Nat) (p:Int) (st:Q0g) (hk:k≤10) (la:a.length≤1000000) (lb:b.length≤1000000) (wa: ∀x∈a,wI x) (wb: ∀x∈b,wI x):
 PCalls Tryz.prog 199 [.sl .no (Q0n a),.sl .no (Q0n b),.sc (.int .i64 k),.sc (.int .i64 p)] st
 (fun r st'=>r= .tup [.sl .no (Q0n (W0e a b k p).1),.sc (.int .i64 (W0e a b k p).2)]∧st'=st):=by
 refine Q0b none Tryz.func199 rfl fun E=>Q0a ?_
 simp -dsimp only [go_sem]
 refine X0k 10 6 ?_
 simp -dsimp only [go_sem]
 refine Q0e [true,true,true,true,false,false,false,false,false,false,true,true] 0 1
  (fun m s=> ∃(j:Nat) (o:List Ivl),m=k+1-j∧j≤k+1∧o.length=j∧tabF (fun j=>J0o a b j p) j (k+1-j) o=W0e a b k p∧
   s=⟨[.sl .no (Q0n a),.sl .no (Q0n b),.sc (.int .i64 (k:Nat)),.sc (.int .i64 p),.junk,.junk,.junk,.junk,.junk,.junk,.sl (.own 0) (Q0n o),.sc (.int .i64 (j:Nat))]++List.replicate 23 .junk,[],[(j,6)],st⟩) (k+1) ?_ ?_
 · simp -dsimp only [go_sem]
   exact⟨0,[],by omega,by omega,rfl,rfl,rfl⟩
 · rintro m s ⟨j,o,rfl,hj,ho,ht,rfl⟩
   simp -dsimp only [go_sem]
   refine ck (fun h=> ?_) (fun h=> ?_)
   · have hlt:j<k+1:=by have:=of_decide_eq_true h;omega
     have e3:IntKind.i64.wrap ((j:Int)+1)=((j+1:Nat):Int):=by rw [Q0h _ (by omega) (by omega)];omega
     rw [q0a _ hlt] at ht
     simp -dsimp only [go_sem]
     refine(Q3a a b j p _ (by omega) la lb wa wb).mono ?_
     rintro r st ⟨rfl,rfl⟩
     generalize J0o a b j p=c at ht⊢
     by_cases hc:c.2=0
     · have ec:(c.2 !=0)=false:=by rw [hc];rfl
       rw [if_neg (by rw [hc];decide)] at ht
       have hsn:=K0z o c.1
       simp -dsimp only [go_sem,ec,e3,hsn,ho]
       exact⟨by omega,k+1-(j+1),by omega,j+1,o++ [c.1],rfl,by omega,by simp [ho],ht,rfl⟩
     · have ec:(c.2 !=0)=true:=bne_iff_ne.2 hc
       rw [if_pos hc] at ht
       simp -dsimp only [go_sem,ec]
       rw [←ht]
       rfl
   · have hge:j=k+1:=by have:=of_decide_eq_false h;omega
     subst hge
     rw [v0z] at ht
     simp -dsimp only [go_sem]
     refine J0m [false,false,false,false,false,false,false,false,false,false,true] (Q0a ?_)
     simp -dsimp only [go_sem]
     rw [←ht]
end Go.Pv
end
section
/-The document's polynomial of series. -/
set_option maxRecDepth 100000
namespace Go.Pv
open Go.Proofs
set_option maxHeartbeats 4000000 in
theorem z3p (q:List Mn) (xs:List (List Ivl)) (k:Nat) (p:Int) (st:Q0g) (hk:k≤10) (wq:wP q) (wx:wXs xs):
 PCalls Tryz.prog 144 [.sl .no (Z0z q),.sl .no (encM xs),.sc (.int .i64 k),.sc (.int .i64 p)] st
 (fun r st'=>r= .tup [.agg (encI (V0h q xs k p).1),.sc (.int .i64 (V0h q xs k p).2)]∧st'=st):=by
 have bad: ¬(j0z k p=true∧X0m q xs.length=true∧(xs.all fun x=>K0d x (k:Int).toNat)=true)→V0h q xs k p=(default,1):=fun h=>by unfold V0h;rw [if_neg h]
 refine Q0b none Tryz.func144 rfl fun E=>Q0a ?_
 have hk1:k+1≤1000000:=by omega
 have d1:decide ((k:Int)<0)=false:=decide_eq_false (by omega)
 have d2:decide ((k:Int)>10)=false:=decide_eq_false (by omega)
 have wk:IntKind.i64.wrap ((k:Int)+1)=((k+1:Nat):Int):=by rw [Q0h _ (by omega) (by omega)];omega
 simp -dsimp only [go_sem,d1,d2]
 refine(k0d q xs.length _ wq).mono ?_
 rintro r st ⟨rfl,rfl⟩
 cases hr:X0m q xs.length with
 | false=>
  rw [bad (fun h=>by rw [hr] at h;exact absurd h.2.1 (by decide))]
  simp -dsimp only [go_sem]
  rfl
 | true=>
 simp -dsimp only [go_sem]
 refine(w0p p _).mono ?_
 rintro r st ⟨rfl,rfl⟩
 cases hp:Z0b p with
 | false=>
  rw [bad (fun h=>by have:=h.1;unfold j0z at this;rw [hp] at this;simp at this)]
  simp -dsimp only [go_sem]
  rfl
 | true=>
 have hval:j0z k p=true:=by unfold j0z;rw [hp];simp;omega
 have hdef:V0h q xs k p=if (xs.all fun x=>K0d x k)=true then ofS q xs k p q.length else(default,1):=by
  unfold V0h
  rw [Int.toNat_natCast]
  by_cases h3:(xs.all fun x=>K0d x k)=true
  · rw [if_pos ⟨hval,hr,h3⟩,if_pos h3]
  · rw [if_neg (fun h=>h3 h.2.2),if_neg h3]
 rw [hdef]
 have hall:=k1v (xs:=xs) (k:=k)
 generalize hU:(xs.all fun x=>K0d x k)=U at hall⊢
 simp -dsimp only [go_sem]
 refine J0l 0 ?_
 simp -dsimp only [go_sem]
 refine Q0e [true,true,true,true,false,false,false,false,true,false,true] 1 0
  (fun c s'=> ∃i,c=xs.length-i∧i≤xs.length∧(∀j,j<i→K0d (xs.getD j []) k=true)∧
   s'=⟨[.sl .no (Z0z q),.sl .no (encM xs),.sc (.int .i64 (k:Nat)),.sc (.int .i64 p),.junk,.junk,.junk,.junk,.lp 0 0,.junk,.sc (.int .i64 (i:Nat))]++List.replicate 109 .junk,[encI default],[],st⟩) xs.length ?_ ?_
 · simp -dsimp only [go_sem]
   exact⟨0,by omega,by omega,fun j hj=>absurd hj (by omega),rfl⟩
 · rintro c s' ⟨i,rfl,hi,hup,rfl⟩
   have wx1:=wx.1
   simp -dsimp only [go_sem]
   refine ck (fun h=> ?_) (fun h=> ?_)
   · have hlt:i<xs.length:=by have:=of_decide_eq_true h;omega
     have e3:IntKind.i64.wrap ((i:Int)+1)=((i+1:Nat):Int):=by rw [Q0h _ (by omega) (by omega)];omega
     have g2:=V0t xs i hlt
     obtain⟨lx1,lx2⟩:=wx.2 i hlt
     simp -dsimp only [go_sem,g2]
     refine⟨by omega,?_⟩
     refine(J1b (xs.getD i []) k _ (by omega) lx1 lx2).mono ?_
     rintro r st ⟨rfl,rfl⟩
     cases hu:K0d (xs.getD i []) k with
     | false=>
      have hno:U≠true:=fun e=>by
       have:=hall.1 e i hlt
       rw [hu] at this;cases this
      simp -dsimp only [go_sem]
      rw [if_neg hno]
      rfl
     | true=>
      simp -dsimp only [go_sem,e3]
      refine⟨xs.length-(i+1),by omega,i+1,rfl,by omega,fun j hj=> ?_,rfl⟩
      by_cases e:j=i
      · rw [e];exact hu
      · exact hup j (by omega)
   · have hge:i=xs.length:=by have:=of_decide_eq_false h;omega
     subst hge
     rw [if_pos (hall.2 hup)]
     clear hall hU
     have fin: ∀i,i<q.length→(ofS q xs k p i).2≠0→ofS q xs k p q.length=(default,(ofS q xs k p i).2):=fun i hi he=>by
      have:=X1t he (q.length-(i+1))
      rw [show i+1+(q.length-(i+1))=q.length by omega] at this
      exact this
     have fin2: ∀i,i<q.length→(ofS q xs k p i).2=0→(ofS q xs k p (i+1)).2≠0→ofS q xs k p q.length=(default,(ofS q xs k p (i+1)).2):=fun i hi h0 he=>by
      by_cases hl:i+1<q.length
      · exact fin (i+1) hl he
      · have:i+1=q.length:=by omega
        rw [←this]
        have hd:(ofS q xs k p (i+1)).1=default:=by
         rw [ofS,if_neg (by rw [h0];decide)] at he⊢
         split
         · rfl
         · rename_i c
           rw [if_neg c] at he
           exact w1q 0 _ _ _ he
        exact Prod.ext hd rfl
     generalize hR:ofS q xs k p q.length=R at fin fin2⊢
     have hS: ∀i,wI (ofS q xs k p i).1:=fun i=>Z2z i
     simp -dsimp only [go_sem]
     refine Q0a ?_
     simp -dsimp only [go_sem]
     refine J0l 1 ?_
     simp -dsimp only [go_sem]
     refine Q0e [true,true,true,true,false,false,false,false,true,false,false,true,true] 2 0
      (fun c s'=> ∃m,c=q.length-m∧m≤q.length∧(ofS q xs k p m).2=0∧
       s'=⟨[.sl .no (Z0z q),.sl .no (encM xs),.sc (.int .i64 (k:Nat)),.sc (.int .i64 p),.junk,.junk,.junk,.junk,.lp 0 0,.junk,.junk,.lp 1 0,.sc (.int .i64 (m:Nat))]++List.replicate 107 .junk,[encI default,encI (ofS q xs k p m).1],[],st⟩) q.length ?_ ?_
     · simp -dsimp only [go_sem]
       exact⟨0,by omega,by omega,rfl,rfl⟩
     · rintro c s' ⟨m,rfl,hm,he,rfl⟩
       have wq1:=wq.1
       simp -dsimp only [go_sem]
       refine ck (fun h2=> ?_) (fun h2=> ?_)
       · have hlt:m<q.length:=by have:=of_decide_eq_true h2;omega
         have e3:IntKind.i64.wrap ((m:Int)+1)=((m+1:Nat):Int):=by rw [Q0h _ (by omega) (by omega)];omega
         have g3:=Y0t q m hlt
         have hmono:=J1u hr hlt
         have hwm:=wq.2 m hlt
         have hstep:ofS q xs k p (m+1)=if (Z0v (q.getD m default) xs k p xs.length).2≠0 then(default,(Z0v (q.getD m default) xs k p xs.length).2) else opI 0 (ofS q xs k p m).1 ((Z0v (q.getD m default) xs k p xs.length).1.getD k default) p:=by rw [ofS,if_neg (by rw [he];decide)]
         have f2:=fin2 m hlt he
         rw [hstep] at f2
         simp -dsimp only [go_sem,wk,g3]
         refine⟨⟨by omega,by omega,by omega⟩,⟨by omega,by omega⟩,?_⟩
         generalize q.getD m default=mo at g3 hmono hwm hstep f2
         refine(w1g mo.c _).mono ?_
         rintro r st ⟨rfl,rfl⟩
         simp -dsimp only [go_sem,g3]
         have r1:over (repC (k+1) [.sc (.bool false),.sc (.int .i64 0),.sl .no [],.sc (.bool false),.sc (.int .i64 0),.sl .no []]) 0 [.sc (.bool mo.c.neg),.sc (.int .i64 mo.c.exp),.sl .no (encW mo.c.w),.sc (.bool mo.c.neg),.sc (.int .i64 mo.c.exp),.sl .no (encW mo.c.w)]=flat (Q0n (numS mo.c k)):=by
          have:=X2b mo.c k
          rw [←Z3p] at this
          exact this
         refine⟨by simp [q0w];omega,?_⟩
         refine q0z 2 6 ?_ ?_
         · simp only [W0a]
           exact q2s (q2r rfl) rfl
         have r2:=J2c (numS mo.c k) (k+1) (by simp [numS])
         have r3:(flat (Q0n (numS mo.c k))).length=(k+1)*6:=by rw [Z1u];simp [numS]
         simp -dsimp only [go_sem,Z2o,Q2y,r1,r2,r3]
         have ok0:=fun i=>X1p (m:=mo) (xs:=xs) (k:=k) (p:=p) hwm.1 i
         have hovl:=K1q (m:=mo) (xs:=xs) (k:=k) (p:=p) xs.length
         have finS: ∀i,i≤xs.length→(Z0v mo xs k p i).2≠0→(Z0v mo xs k p xs.length).2=(Z0v mo xs k p i).2:=fun i hi he=>by
          have:=j0l he (xs.length-i)
          rw [show i+(xs.length-i)=xs.length by omega] at this
          exact this
         refine Q0e [true,true,true,true,false,false,false,false,true,false,false,true,true,true,true] 2 0
          (fun c s'=> ∃i,c=xs.length-i∧i≤xs.length∧(Z0v mo xs k p i).2=0∧
           s'=⟨[.sl .no (Z0z q),.sl .no (encM xs),.sc (.int .i64 (k:Nat)),.sc (.int .i64 p),.junk,.junk,.junk,.junk,.lp 0 0,.junk,.junk,.lp 1 0,.sc (.int .i64 (m:Nat)),.sl .no (Q0n (Z0v mo xs k p i).1),.sc (.int .i64 (i:Nat))]++List.replicate 105 .junk,[encI default,encI (ofS q xs k p m).1],[],st⟩) xs.length ?_ ?_
         · simp -dsimp only [go_sem]
           exact⟨0,by omega,by omega,rfl,rfl⟩
         · rintro c s' ⟨i,rfl,hi,he2,rfl⟩
           simp -dsimp only [go_sem]
           refine ck (fun h3=> ?_) (fun h3=> ?_)
           · have hlt2:i<xs.length:=by have:=of_decide_eq_true h3;omega
             have e5:IntKind.i64.wrap ((i:Int)+1)=((i+1:Nat):Int):=by rw [Q0h _ (by omega) (by omega)];omega
             have hks:mo.ks.length=xs.length:=by have:=hmono.1;omega
             have g1:=U0p mo.ks i (by omega)
             have g2:=V0t xs i hlt2
             have hat:=V0j hmono.2.1 i (by omega)
             have hk8:mo.ks.getD i 0=((mo.ks.getD i 0).toNat:Int):=by omega
             have hk9:(mo.ks.getD i 0).toNat≤8:=by omega
             have hstepS:Z0v mo xs k p (i+1)=J0i (Z0v mo xs k p i).1 (xs.getD i []) k p (mo.ks.getD i 0).toNat:=by rw [Z0v,if_neg (by rw [he2];decide)]
             have oks:=ok0 i
             obtain⟨lx1,lx2⟩:=wx.2 i hlt2
             have fin1:=finS (i+1) (by omega)
             rw [hstepS] at fin1
             rw [hk8] at g1
             generalize (mo.ks.getD i 0).toNat=n at g1 hk9 hstepS fin1
             generalize (Z0v mo xs k p i).1=s0 at oks hstepS fin1⊢
             simp -dsimp only [go_sem]
             refine Q0e [true,true,true,true,false,false,false,false,true,false,false,true,true,true,true,true] 2 0
              (fun c s'=> ∃j,c=n-j∧j≤n∧(J0i s0 (xs.getD i []) k p j).2=0∧
               s'=⟨[.sl .no (Z0z q),.sl .no (encM xs),.sc (.int .i64 (k:Nat)),.sc (.int .i64 p),.junk,.junk,.junk,.junk,.lp 0 0,.junk,.junk,.lp 1 0,.sc (.int .i64 (m:Nat)),.sl .no (Q0n (J0i s0 (xs.getD i []) k p j).1),.sc (.int .i64 (i:Nat)),.sc (.int .i64 (j:Nat))]++List.replicate 104 .junk,[encI default,encI (ofS q xs k p m).1],[],st⟩) n ?_ ?_
             · simp -dsimp only [go_sem]
               exact⟨0,by omega,by omega,rfl,rfl⟩
             · rintro c s' ⟨j,rfl,hj,hej,rfl⟩
               simp -dsimp only [go_sem,g3,g1]
               refine⟨⟨by omega,by omega⟩,⟨by omega,by omega⟩,?_⟩
               refine ck (fun h4=> ?_) (fun h4=> ?_)
               · have hlt3:j<n:=by have:=of_decide_eq_true h4;omega
                 have e4:IntKind.i64.wrap ((j:Int)+1)=((j+1:Nat):Int):=by rw [Q0h _ (by omega) (by omega)];omega
                 have okn:=H1e (x:=xs.getD i []) (p:=p) oks j
                 have hstep2:J0i s0 (xs.getD i []) k p (j+1)=W0e (J0i s0 (xs.getD i []) k p j).1 (xs.getD i []) k p:=by rw [J0i,if_neg (by rw [hej];decide)]
                 simp -dsimp only [go_sem,g2]
                 refine⟨⟨Int.natCast_nonneg _,hlt2⟩,?_⟩
                 have hpr:=fun st=>w1c (J0i s0 (xs.getD i []) k p j).1 (xs.getD i []) k p st hk (Nat.le_trans okn.1 hk1) lx1 okn.2 lx2
                 have hbad:(J0i s0 (xs.getD i []) k p (j+1)).2≠0→R=(default,(J0i s0 (xs.getD i []) k p (j+1)).2):=fun hz=>by
                  have hst:=j0m hz (n-(j+1))
                  rw [show j+1+(n-(j+1))=n by omega] at hst
                  have hal:=fin1 (by rw [hst];exact hz)
                  rw [hst] at hal
                  have hne:(Z0v mo xs k p xs.length).2≠0:=by rw [hal];exact hz
                  rw [if_pos hne] at f2
                  rw [f2 hne];exact congrArg (Prod.mk default) hal
                 refine Exists.elim (⟨_,rfl⟩: ∃W,W=J0i s0 (xs.getD i []) k p (j+1)) fun W hW=> ?_
                 rw [←hW] at hstep2 hbad
                 rw [←hstep2] at hpr
                 clear hstep2 f2 fin1
                 refine(hpr _).mono ?_
                 rintro r st ⟨rfl,rfl⟩
                 by_cases hz:W.2=0
                 · have ez:(W.2 !=0)=false:=by rw [hz];rfl
                   simp -dsimp only [go_sem,ez,e4]
                   exact⟨n-(j+1),by omega,j+1,rfl,by omega,by rw [←hW];exact hz,by rw [←hW]⟩
                 · have ez:(W.2 !=0)=true:=bne_iff_ne.2 hz
                   simp -dsimp only [go_sem,ez]
                   rw [hbad hz]
                   rfl
               · have hge:j=n:=by have:=of_decide_eq_false h4;omega
                 subst hge
                 simp -dsimp only [go_sem]
                 refine Q0a ?_
                 simp -dsimp only [go_sem,e5]
                 refine⟨xs.length-(i+1),by omega,i+1,rfl,by omega,by rw [hstepS];exact hej,by rw [hstepS]⟩
           · have hge:i=xs.length:=by have:=of_decide_eq_false h3;omega
             subst hge
             have hln:=hovl he2
             have gI:=Z0m (Z0v mo xs k p xs.length).1 k (by omega)
             have wO:=z0j (ok0 xs.length).2 k
             rw [if_neg (by rw [he2];decide)] at hstep f2
             simp -dsimp only [go_sem]
             refine Q0a ?_
             simp -dsimp only [go_sem]
             refine Q0l Z0k 120 (.step 0 [] (.step 1 [] (.step 2 [] (.step 3 [] (.step 4 [] (.step 5 [] (.alt (.step 6 [] (.step 7 [] (.step 8 [] (.step 9 [] (.step 10 [0,4] (.step 11 [] (.step 12 [] (.done)))))))) (.step 10 [0,4] (.step 6 [] (.step 7 [] (.step 8 [] (.step 9 [] (.step 11 [] (.step 12 [] (.done))))))))))))))) (by decide+kernel) (by simp) ?_
             simp -dsimp only [go_sem,gI]
             refine⟨⟨by omega,by omega⟩,And.intro ?_ ?_⟩
             all_goals
              refine(G1w (ofS q xs k p m).1 ((Z0v mo xs k p xs.length).1.getD k default) p _ (hS m) wO).mono ?_
              rintro r st2 ⟨rfl,rfl⟩
              rw [←hstep] at f2⊢
              generalize hW:ofS q xs k p (m+1)=W at f2⊢
              by_cases hz2:W.2=0
              · have ez2:(W.2 !=0)=false:=by rw [hz2];rfl
                simp -dsimp only [go_sem,ez2,e3]
                refine Q0a ?_
                simp -dsimp only [go_sem,e3]
                exact⟨q.length-(m+1),by omega,m+1,rfl,by omega,by rw [hW];exact hz2,by rw [hW]⟩
              · have ez2:(W.2 !=0)=true:=bne_iff_ne.2 hz2
                simp -dsimp only [go_sem,ez2]
                rw [f2 hz2]
                rfl
       · have hge:m=q.length:=by have:=of_decide_eq_false h2;omega
         subst hge
         simp -dsimp only [go_sem]
         refine Q0a ?_
         simp -dsimp only [go_sem]
         rw [hR] at he⊢
         rw [he]
end Go.Pv
end
section
/-The document's sum of a series;the sums of many;a whole number as a point. -/
set_option maxRecDepth 100000
namespace Go.Pv
open Go.Proofs
set_option maxHeartbeats 4000000 in
theorem Y2q (a:List Ivl) (h:Ivl) (p:Int) (st:Q0g) (la:a.length≤1000000) (wa: ∀x∈a,wI x) (wh:wI h):
 PCalls Tryz.prog 147 [.sl .no (Q0n a),.agg (encI h),.sc (.int .i64 p)] st
 (fun r st'=>r= .tup [.agg (encI (Z0p a h p).1),.sc (.int .i64 (Z0p a h p).2)]∧st'=st):=by
 have bad: ¬(1≤a.length∧a.length≤11∧K0d a (a.length-1)=true∧Q0i h=true∧Z0b p=true)→Z0p a h p=(default,1):=fun hn=>by unfold Z0p;rw [if_neg hn]
 refine Q0b none Tryz.func147 rfl fun E=>Q0a ?_
 by_cases c1:1≤a.length∧a.length≤11
 rotate_left
 · rw [bad (fun x=>c1 ⟨x.1,x.2.1⟩)]
   by_cases c2:1≤a.length
   · have d1:decide ((a.length:Int)<1)=false:=decide_eq_false (by omega)
     have d2:decide ((a.length:Int)>11)=true:=decide_eq_true (by omega)
     simp -dsimp only [go_sem,d1,d2]
     rfl
   · have d1:decide ((a.length:Int)<1)=true:=decide_eq_true (by omega)
     simp -dsimp only [go_sem,d1]
     rfl
 have d1:decide ((a.length:Int)<1)=false:=decide_eq_false (by omega)
 have d2:decide ((a.length:Int)>11)=false:=decide_eq_false (by omega)
 have e1:IntKind.i64.wrap ((a.length:Int)-1)=((a.length-1:Nat):Int):=by rw [Q0h _ (by omega) (by omega)];omega
 simp -dsimp only [go_sem,d1,d2,e1]
 refine(J1b a (a.length-1) _ (by omega) la wa).mono ?_
 rintro r st ⟨rfl,rfl⟩
 cases ha:K0d a (a.length-1) with
 | false=>
  rw [bad (fun x=>by rw [ha] at x;exact absurd x.2.2.1 (by decide))]
  simp -dsimp only [go_sem]
  rfl
 | true=>
 simp -dsimp only [go_sem]
 refine(X0w h _ wh).mono ?_
 rintro r st ⟨rfl,rfl⟩
 cases hh:Q0i h with
 | false=>
  rw [bad (fun x=>by rw [hh] at x;exact absurd x.2.2.2.1 (by decide))]
  simp -dsimp only [go_sem]
  rfl
 | true=>
 simp -dsimp only [go_sem]
 refine(w0p p _).mono ?_
 rintro r st ⟨rfl,rfl⟩
 cases hp:Z0b p with
 | false=>
  rw [bad (fun x=>by rw [hp] at x;exact absurd x.2.2.2.2 (by decide))]
  simp -dsimp only [go_sem]
  rfl
 | true=>
 have hs:Z0p a h p=sumN a h p (a.length-1):=by unfold Z0p;rw [if_pos ⟨c1.1,c1.2,ha,hh,hp⟩]
 rw [hs]
 have gI:=Z0m a (a.length-1) (by omega)
 have e2:IntKind.i64.wrap ((a.length:Int)-2)=(a.length:Int)-2-((0:Nat):Int):=by rw [Q0h _ (by omega) (by omega)];omega
 have hw: ∀i,wI (sumN a h p i).1:=fun i=>v1m wa i
 have fin: ∀i,i<a.length-1→(sumN a h p i).2=0→(sumN a h p (i+1)).2≠0→sumN a h p (a.length-1)=(default,(sumN a h p (i+1)).2):=fun i hi h0 he=>by
  by_cases hl:i+1=a.length-1
  · rw [←hl,q0b h0]
    rw [q0b h0] at he
    exact x1g he
  · have:=w0a he (a.length-1-(i+1+1))
    rw [show i+1+1+(a.length-1-(i+1+1))=a.length-1 by omega] at this
    exact this
 have g0:a.getD (a.length-1) default=(sumN a h p 0).1:=rfl
 rw [g0] at gI
 simp -dsimp only [go_sem,e1,gI]
 refine⟨⟨by omega,by omega⟩,?_⟩
 simp -dsimp only [go_sem,e2]
 refine J0l 1 ?_
 simp -dsimp only [go_sem]
 refine Q0e [true,false,true,false,true,false,true,false,true,true] 3 0
  (fun c s'=> ∃i,c=a.length-1-i∧i≤a.length-1∧(sumN a h p i).2=0∧
   s'=⟨[.sl .no (Q0n a),.junk,.sc (.int .i64 p),.junk,.lp 0 0,.junk,.lp 1 0,.junk,.lp 2 0,.sc (.int .i64 ((a.length:Int)-2-(i:Nat)))]++List.replicate 67 .junk,[encI h,encI default,encI (sumN a h p i).1],[],st⟩) (a.length-1) ?_ ?_
 · simp -dsimp only [go_sem]
   exact⟨0,by omega,by omega,rfl,rfl⟩
 · rintro c s' ⟨i,rfl,hi,he,rfl⟩
   by_cases hlt:i<a.length-1
   · have d3:decide ((a.length:Int)-2-(i:Nat)≥0)=true:=decide_eq_true (by omega)
     have e3:IntKind.i64.wrap ((a.length:Int)-2-(i:Nat)-1)=(a.length:Int)-2-((i+1:Nat):Int):=by rw [Q0h _ (by omega) (by omega)];omega
     have e4:(a.length:Int)-2-(i:Nat)=((a.length-2-i:Nat):Int):=by omega
     have gJ:=Z0m a (a.length-2-i) (by omega)
     have fi:=fin i hlt he
     have hst:=q0b (a:=a) (h:=h) (p:=p) he
     have wi:=hw i
     have wj:=z0j wa (a.length-2-i)
     have b1:a.length-2-i<a.length:=by omega
     rw [e4] at d3 e3
     unfold W1v at hst
     simp -dsimp only [go_sem,e4,d3]
     refine(Q2z (sumN a h p i).1 h p _ wi wh).mono ?_
     rintro r st2 ⟨rfl,rfl⟩
     have wz:=Y2f 2 (sumN a h p i).1 h p
     generalize hZ:sumN a h p (i+1)=Z at hst fi
     generalize opI 2 (sumN a h p i).1 h p=z at hst wz⊢
     by_cases hz:z.2=0
     · have b0:(z.2==0)=true:=by simp [hz]
       rw [if_neg (by rw [hz];decide)] at hst
       simp -dsimp only [go_sem,b0]
       refine Q0a ?_
       refine Q0l Z0k 77 (.step 0 [] (.step 1 [] (.step 2 [] (.step 3 [] (.step 4 [] (.step 5 [] (.step 6 [] (.step 7 [] (.step 8 [] (.step 9 [] (.step 10 [] (.step 11 [] (.done))))))))))))) (by decide+kernel) (by simp) ?_
       simp -dsimp only [go_sem,gJ]
       refine⟨⟨Int.natCast_nonneg _,by exact_mod_cast b1⟩,?_⟩
       refine(G1w z.1 (a.getD (a.length-2-i) default) p _ wz wj).mono ?_
       rintro r st2 ⟨rfl,rfl⟩
       rw [←hst]
       by_cases hu:Z.2=0
       · have c1:(Z.2 !=0)=false:=by simp [hu]
         simp -dsimp only [go_sem,c1,e3]
         exact⟨a.length-1-(i+1),by omega,i+1,rfl,by omega,by rw [hZ];exact hu,by rw [hZ]⟩
       · have c1:(Z.2 !=0)=true:=by simp [hu]
         simp -dsimp only [go_sem,c1]
         rw [fi hu]
         rfl
     · have b0:(z.2==0)=false:=by simp [hz]
       have b2:(z.2 !=0)=true:=by simp [hz]
       rw [if_pos hz] at hst
       simp -dsimp only [go_sem,b0,b2]
       rw [fi (by rw [hst];exact hz),hst]
       rfl
   · have d3:decide ((a.length:Int)-2-(i:Nat)≥0)=false:=decide_eq_false (by omega)
     have hie:i=a.length-1:=by omega
     simp -dsimp only [go_sem,d3]
     refine Q0a ?_
     simp -dsimp only [go_sem]
     rw [←hie,he]
theorem j1z : ∀n,n<12→(Q0c (oddV false n 0).m).length≤1000:=by decide+kernel
theorem Y2d (n:Nat) (st:Q0g) (hn:n<12):PCalls Tryz.prog 146 [.sc (.int .i64 n)] st (fun r st'=>r= .agg (encI ⟨ptW n,ptW n⟩)∧st'=st):=by
 have hd:=j1z n hn
 refine Q0b none Tryz.func146 rfl fun E=>Q0a ?_
 simp -dsimp only [go_sem]
 refine(v1b n _ (by omega)).mono ?_
 rintro r st ⟨rfl,rfl⟩
 simp -dsimp only [go_sem]
 refine(Y1m (oddV false n 0) _ (by omega)).mono ?_
 rintro r st ⟨rfl,rfl⟩
 simp -dsimp only [go_sem]
 rw [show(numV (oddV false n 0)).1=ptW n from rfl]
 refine(w1g (ptW n) _).mono ?_
 rintro r st ⟨rfl,rfl⟩
 simp -dsimp only [go_sem]
set_option maxHeartbeats 4000000 in
theorem v1o (l:List (List Ivl)) (h:Ivl) (p:Int) (st:Q0g) (wl:wXs l) (wh:wI h):
 PCalls Tryz.prog 78 [.sl .no (encM l),.agg (encI h),.sc (.int .i64 p)] st
 (fun r st'=>r= .tup [.sl .no (Q0n (j0v l h p).1),.sc (.int .i64 (j0v l h p).2)]∧st'=st):=by
 refine Q0b none Tryz.func78 rfl fun E=>Q0a ?_
 by_cases c1:1≤l.length∧l.length≤4
 rotate_left
 · have hs:j0v l h p=([],1):=by unfold j0v;rw [if_neg c1]
   rw [hs]
   by_cases c2:1≤l.length
   · have d1:decide ((l.length:Int)<1)=false:=decide_eq_false (by omega)
     have d2:decide ((l.length:Int)>4)=true:=decide_eq_true (by omega)
     simp -dsimp only [go_sem,d1,d2]
   · have d1:decide ((l.length:Int)<1)=true:=decide_eq_true (by omega)
     simp -dsimp only [go_sem,d1]
 have d1:decide ((l.length:Int)<1)=false:=decide_eq_false (by omega)
 have d2:decide ((l.length:Int)>4)=false:=decide_eq_false (by omega)
 have hs:j0v l h p=if (l.any fun a=>decide ((Z0p a h p).2=1))=true then([],1) else tabF (fun j=>Z0p (l.getD j []) h p) 0 l.length []:=by unfold j0v;rw [if_pos c1]
 rw [hs]
 have hall:=x2v (l:=l) (h:=h) (p:=p)
 generalize hA:(l.any fun a=>decide ((Z0p a h p).2=1))=A at hall⊢
 simp -dsimp only [go_sem,d1,d2]
 refine Q0e [true,false,true,false,true,false,false,false,true] 1 0
  (fun c s'=> ∃i,c=l.length-i∧i≤l.length∧(∀j,j<i→(Z0p (l.getD j []) h p).2≠1)∧
   s'=⟨[.sl .no (encM l),.junk,.sc (.int .i64 p),.junk,.lp 0 0,.junk,.junk,.junk,.sc (.int .i64 (i:Nat))]++List.replicate 57 .junk,[encI h],[],st⟩) l.length ?_ ?_
 · simp -dsimp only [go_sem]
   exact⟨0,by omega,by omega,fun j hj=>absurd hj (by omega),rfl⟩
 · rintro c s' ⟨i,rfl,hi,hno,rfl⟩
   have wl1:=wl.1
   simp -dsimp only [go_sem]
   refine ck (fun hk=> ?_) (fun hk=> ?_)
   · have hlt:i<l.length:=by have:=of_decide_eq_true hk;omega
     have e3:IntKind.i64.wrap ((i:Int)+1)=((i+1:Nat):Int):=by rw [Q0h _ (by omega) (by omega)];omega
     have g2:=V0t l i hlt
     obtain⟨lx1,lx2⟩:=wl.2 i hlt
     simp -dsimp only [go_sem]
     refine Q0l Z0k 66 (.step 0 [] (.step 1 [] (.step 2 [] (.step 3 [] (.step 4 [] (.step 5 [] (.alt (.step 6 [] (.step 7 [] (.step 8 [] (.step 9 [] (.step 10 [3,4] (.step 11 [] (.step 12 [] (.done)))))))) (.step 10 [3,4] (.step 6 [] (.step 7 [] (.step 8 [] (.step 9 [] (.step 11 [] (.step 12 [] (.done))))))))))))))) (by decide+kernel) (by simp) ?_
     simp -dsimp only [go_sem,g2]
     refine⟨by omega,And.intro ?_ ?_⟩
     all_goals
      refine(Y2q (l.getD i []) h p _ lx1 lx2 wh).mono ?_
      rintro r st2 ⟨rfl,rfl⟩
      generalize hS:Z0p (l.getD i []) h p=S
      by_cases s1:S.2=1
      · have q1:(S.2==1)=true:=by rw [s1];rfl
        rw [if_pos (hall.2 ⟨i,hlt,by rw [hS];exact s1⟩)]
        simp -dsimp only [go_sem,s1,q1]
      · have q1:(S.2==1)=false:=beq_eq_false_iff_ne.2 s1
        simp -dsimp only [go_sem,q1,e3]
        refine⟨l.length-(i+1),by omega,i+1,rfl,by omega,fun j hj=> ?_,rfl⟩
        by_cases e:j=i
        · rw [e,hS];exact s1
        · exact hno j (by omega)
   · have hge:i=l.length:=by have:=of_decide_eq_false hk;omega
     subst hge
     rw [if_neg (fun hx=>by obtain⟨j,hj,e⟩:=hall.1 hx;exact hno j hj e)]
     simp -dsimp only [go_sem]
     refine Q0a ?_
     simp -dsimp only [go_sem]
     refine X0k 11 6 ?_
     simp -dsimp only [go_sem]
     refine Q0e [true,false,true,false,true,false,false,false,false,false,false,true,true] 1 1
      (fun c s'=> ∃(i:Nat) (o:List Ivl),c=l.length-i∧i≤l.length∧o.length=i∧tabF (fun j=>Z0p (l.getD j []) h p) i (l.length-i) o=tabF (fun j=>Z0p (l.getD j []) h p) 0 l.length []∧
       s'=⟨[.sl .no (encM l),.junk,.sc (.int .i64 p),.junk,.lp 0 0,.junk,.junk,.junk,.junk,.junk,.junk,.sl (.own 0) (Q0n o),.sc (.int .i64 (i:Nat))]++List.replicate 53 .junk,[encI h],[(i,6)],st⟩) l.length ?_ ?_
     · simp -dsimp only [go_sem]
       exact⟨0,[],by omega,by omega,rfl,rfl,rfl⟩
     · rintro c s' ⟨i,o,rfl,hi,ho,ht,rfl⟩
       simp -dsimp only [go_sem]
       refine ck (fun hk=> ?_) (fun hk=> ?_)
       · have hlt:i<l.length:=by have:=of_decide_eq_true hk;omega
         have e3:IntKind.i64.wrap ((i:Int)+1)=((i+1:Nat):Int):=by rw [Q0h _ (by omega) (by omega)];omega
         have g2:=V0t l i hlt
         obtain⟨lx1,lx2⟩:=wl.2 i hlt
         rw [q0a _ hlt] at ht
         simp -dsimp only [go_sem]
         refine Q0l Z0k 66 (.step 0 [] (.step 1 [] (.step 2 [] (.step 3 [] (.step 4 [] (.step 5 [] (.alt (.step 6 [] (.step 7 [] (.step 8 [] (.step 9 [] (.step 10 [3,4] (.step 11 [] (.step 12 [] (.done)))))))) (.step 10 [3,4] (.step 6 [] (.step 7 [] (.step 8 [] (.step 9 [] (.step 11 [] (.step 12 [] (.done))))))))))))))) (by decide+kernel) (by simp) ?_
         simp -dsimp only [go_sem,g2]
         refine⟨by omega,And.intro ?_ ?_⟩
         all_goals
          refine(Y2q (l.getD i []) h p _ lx1 lx2 wh).mono ?_
          rintro r st2 ⟨rfl,rfl⟩
          have hsn:=K0z o (Z0p (l.getD i []) h p).1
          generalize Z0p (l.getD i []) h p=S at hsn ht⊢
          by_cases hc:S.2=0
          · have ec:(S.2 !=0)=false:=by rw [hc];rfl
            rw [if_neg (by rw [hc];decide)] at ht
            simp -dsimp only [go_sem,ec,e3,hsn,ho]
            exact⟨by omega,l.length-(i+1),by omega,i+1,o++ [S.1],rfl,by omega,by simp [ho],ht,rfl⟩
          · have ec:(S.2 !=0)=true:=bne_iff_ne.2 hc
            rw [if_pos hc] at ht
            simp -dsimp only [go_sem,ec]
            rw [←ht]
            rfl
       · have hge:i=l.length:=by have:=of_decide_eq_false hk;omega
         subst hge
         rw [v0z] at ht
         simp -dsimp only [go_sem]
         refine J0m [false,false,false,false,false,false,false,false,false,false,false,true] (Q0a ?_)
         simp -dsimp only [go_sem]
         rw [←ht]
end Go.Pv
end
