/- Parts of the walk: N61, N62, N64, N65. -/
import Derived.Test.YtagacielooaapaaGreatDoorZBE
import Derived.Test.YtagacielooaapaaGreatDoorZBM
import Derived.Test.YtagacielooaapaaGreatDoorZBI
import Derived.Test.YtagacielooaapaaGreatDoorZAM
import Derived.Test.YtagacielooaapaaGreatDoorZBJ
import Derived.Test.YtagacielooaapaaGreatDoorZAR
set_option linter.unusedVariables false
set_option linter.unusedSimpArgs false
section
/-The document's gather,for any terms. -/
set_option maxRecDepth 100000
namespace Go.Pv
open Go.Proofs
theorem k0d (O:List Tm): ∀i,i<(Z0i O).length→((Z0i O).getD i .junk).cells.length=4:=fun i hi=>by
 rw [K0q] at hi
 rw [v0w O i hi];rfl
theorem U0s (O:List Tm):(flat (Z0i O)).length=O.length*4:=by rw [J0x (k0d O),K0q]
theorem Q2o (O:List Tm) (R:List PV) (k m:Nat) (hk:k<O.length) (hm:m<4):(flat (Z0i O)++R).getD (k*4+m) .junk=(k0g (O.getD k default)).getD m .junk:=by
 have h:=U0s O
 rw [Q0p _ _ _ _ (by omega),H0p (k0d O) _ (by rw [K0q];omega),show(k*4+m)/4=k from by omega,show(k*4+m) % 4=m from by omega,v0w O k hk]
 rfl
theorem K2g (O:List Tm) (k:Nat):(flat (Z0i O)).drop (k*4)=flat (Z0i (O.drop k)):=by
 induction k generalizing O with
 | zero=>simp
 | succ k ih=>
  cases O with
  | nil=>simp [Z0i,flat]
  | cons o r=>
   have e:flat (Z0i (o::r))=k0g o++flat (Z0i r):=rfl
   rw [e,show(k+1)*4=4+k*4 from by omega,←List.drop_drop,List.drop_append_of_le_length (by simp [k0g]),show(k0g o).drop 4= [] from rfl,List.nil_append,ih r,List.drop_succ_cons]
theorem W3t (O:List Tm) (R:List PV) (k:Nat) (hk:k<O.length):((flat (Z0i O)++R).drop (k*4)).take 3=encV (O.getD k default).v:=by
 have h:=U0s O
 rw [List.drop_append_of_le_length (by omega),K2g,show O.drop k=O.getD k default::O.drop (k+1) from W1q O k hk]
 rfl
theorem H2o (O:List Tm) (R:List PV) (k:Nat) (v:Vl) (hk:k<O.length):over (flat (Z0i O)++R) (k*4) (encV v)=flat (Z0i (O.set k ⟨v,(O.getD k default).ks⟩))++R:=by
 have h:=U0s O
 induction k generalizing O with
 | zero=>
  cases O with
  | nil=>simp at hk
  | cons o r=>rfl
 | succ k ih=>
  cases O with
  | nil=>simp at hk
  | cons o r=>
   have e:flat (Z0i (o::r))=k0g o++flat (Z0i r):=rfl
   have ih':=ih r (by simpa using hk) (U0s r)
   have hl:(k0g o).length=4:=rfl
   have hget:(o::r).getD (k+1) default=r.getD k default:=rfl
   rw [hget,List.set_cons_succ,show flat (Z0i (o::r.set k ⟨v,(r.getD k default).ks⟩))=k0g o++flat (Z0i (r.set k ⟨v,(r.getD k default).ks⟩)) from rfl,e,List.append_assoc,List.append_assoc,←ih']
   unfold over
   rw [show(k+1)*4=4+k*4 from by omega,List.take_append,List.drop_append,hl,List.take_of_length_le (by rw [hl];omega),List.drop_of_length_le (by rw [hl];omega)]
   simp only [show 4+k*4-4=k*4 from by omega,show 4+k*4+(encV v).length-4=k*4+(encV v).length from by omega,List.nil_append,List.append_assoc]
theorem U0r (O:List Tm):(flat (Z0i O)).all PV.quiet=true:=by
 induction O with
 | nil=>rfl
 | cons o r ih=>
  have e:flat (Z0i (o::r))=k0g o++flat (Z0i r):=rfl
  rw [e,List.all_append,ih];rfl
theorem W1k (O:List Tm) (R:List PV) (n:Nat) (hn:n=O.length):(flat (Z0i O)++R).take (n*4)=flat (Z0i O):=V2w (k0d O) (by rw [K0q];exact hn)
theorem W1l (O X:List Tm) (R:List PV):flat (Z0i O)++(flat (Z0i X)++R)=flat (Z0i (O++X))++R:=by
 rw [←List.append_assoc,←v1a,q2c]
theorem z1g (O:List Tm):(flat (Z0i O)).map PV.forget2=flat (Z0i O):=by
 induction O with
 | nil=>rfl
 | cons o r ih=>
  have e:flat (Z0i (o::r))=k0g o++flat (Z0i r):=rfl
  rw [e,List.map_append,ih];rfl
theorem z1h (O:List Tm) (R:List PV):V0t 4 O.length (flat (Z0i O)++R)=Z0i O:=by
 have:=q0s (sz:=4) (ys:=Z0i O) R (fun y hy=>by
  unfold Z0i at hy
  obtain⟨t,_,rfl⟩:=List.mem_map.1 hy
  exact⟨rfl,rfl⟩)
 rw [K0q] at this
 exact this
theorem z1f (O:List Tm) (R:List PV):(flat (Z0i O)++R).map PV.forget2=flat (Z0i O)++R.map PV.forget2∧(O.length*4≤(flat (Z0i O)).length+(R.map PV.forget2).length)=True∧V0t 4 O.length (flat (Z0i O)++R.map PV.forget2)=Z0i O:=
 ⟨by rw [List.map_append,z1g],eq_true (by have:=U0s O;omega),z1h O _⟩
theorem Y1p {O X:List Tm} {R:List PV} {cap n:Nat} {id:TypeId} (hn:n=O.length) (hc:n≤cap) (hR:R.length=(cap-n)*4) (hq:R.all PV.quiet=true) (hl:n+X.length≤1000):
 Y1a (flat (Z0i O)++R) n cap (Z0i X) ⟨id,4,64,true,true,false⟩:=by
 have h1:=U0s O
 refine⟨rfl,by show 0<4;decide,by show _=cap*4;rw [List.length_append,h1,hR];omega,by rw [K0q];omega,by show(n+(Z0i X).length)*64≤_;rw [K0q];omega,y2a X,by rw [List.all_append,U0r,hq];rfl,U0r X⟩
def K4o (O:List Tm) (cap:Nat) (R:List PV):Prop:=R.length=(cap-O.length)*4∧O.length≤cap∧R.all PV.quiet=true
set_option maxHeartbeats 4000000 in
theorem w2l (ts:List Tm) (st:Q0f) (hl:ts.length≤24) (hw: ∀i,i<ts.length→wK (ts.getD i default).ks∧smV (ts.getD i default).v)
 (hwT: ∀i,i≤ts.length→ ∀t∈gatT (ts.take i) [],wK t.ks∧smV t.v∧(Q0e t.v.m).length≤1000000000000):
 PCalls Tryz.prog 126 [.sl .no (Z0i ts)] st (fun r st'=>r= .tup [.sl .no (X0c (G0x (gatT ts []) []).1),.sc (.int .i64 (G0x (gatT ts []) []).2)]∧st'=st):=by
 refine Q0b none Tryz.func126 rfl fun E=>Q0a ?_
 simp -dsimp only [go_sem]
 refine X1o ?_
 refine w0x 4 0 (by simp) (by rfl) ?_
 simp -dsimp only [go_sem]
 refine Z0y [true,false,false,false,true,true] 1 0
  (fun c s=> ∃(i cap:Nat) (O:List Tm) (R:List PV),c=ts.length-i∧i≤ts.length∧O=gatT (ts.take i) []∧K4o O cap R∧s=⟨[.sl .no (Z0i ts),.junk,.junk,.junk,.mr 0 O.length cap,.sc (.int .i64 (i:Nat))]++List.replicate 122 .junk,[flat (Z0i O)++R],[],st⟩) ts.length ?_ ?_
 · simp -dsimp only [go_sem]
   exact⟨0,0,[],[],by omega,by omega,by simp [gatT],⟨rfl,Nat.le_refl _,rfl⟩,rfl⟩
 · rintro c s ⟨i,cap,O,R,rfl,hi,hO,hR,rfl⟩
   have hOl:O.length≤i:=by
    rw [hO]
    have: ∀(ts acc:List Tm),(gatT ts acc).length≤acc.length+ts.length:=by
     intro ts
     induction ts with
     | nil=>intro acc;exact Nat.le_refl _
     | cons t r ih=>
      intro acc
      have h1:=ih (insT t acc)
      have h2:=j0w t acc
      rw [gatT];simp only [List.length_cons];omega
    have h3:=this (ts.take i) []
    rw [List.length_take] at h3
    simp at h3;omega
   obtain⟨hR1,hR2,hR3⟩:=hR
   have hall:(flat (Z0i O)++R).all PV.quiet=true:=by rw [List.all_append,U0r,hR3];rfl
   have hlims:=J0r (a:=1) (b:=0) hall
   have hfl:=U0s O
   have hOw: ∀j,j<O.length→wK (O.getD j default).ks∧smV (O.getD j default).v∧(Q0e (O.getD j default).v.m).length≤1000000000000:=fun j hj=>by
    rw [show O.getD j default=O[j] by simp [List.getD_eq_getElem?_getD,hj]]
    exact hwT i hi _ (by rw [←hO];exact List.getElem_mem hj)
   have hnx:i<ts.length→gatT (ts.take (i+1)) []=insT (ts.getD i default) O:=fun h=>by rw [X2a ts i h,q1t,←hO]
   have hfin:i=ts.length→O=gatT ts []:=fun e=>by rw [hO,e,List.take_length]
   refine Q0n (Q0a ?_)
   simp -dsimp only [go_sem]
   refine ck (fun h'=> ?_) (fun h'=> ?_)
   · have hlt:i<ts.length:=by have:=of_decide_eq_true h';omega
     have e1:=v0w ts i hlt
     have e3:=Z1y i (by omega)
     simp -dsimp only [go_sem]
     refine Q0n (K0m (Q0n (Q0a ?_)))
     simp -dsimp only [go_sem]
     refine G0j [true,false,false,false,true,true,true] 1 0
      (fun s=> ∃k,k≤O.length∧(∀q,q<k→ordK (O.getD q default).ks (ts.getD i default).ks>0)∧(k<O.length→ ¬ordK (O.getD k default).ks (ts.getD i default).ks>0)∧s=⟨[.sl .no (Z0i ts),.junk,.junk,.junk,.mr 0 O.length cap,.sc (.int .i64 (i:Nat)),.sc (.int .i64 (k:Nat))]++List.replicate 121 .junk,[flat (Z0i O)++R],[],st⟩) ?_ ?_
     · simp -dsimp only [go_sem]
       refine Q0d [true,false,false,false,true,true,true] 1 0
        (fun c s=> ∃j,c=O.length-j∧j≤O.length∧(∀q,q<j→ordK (O.getD q default).ks (ts.getD i default).ks>0)∧s=⟨[.sl .no (Z0i ts),.junk,.junk,.junk,.mr 0 O.length cap,.sc (.int .i64 (i:Nat)),.sc (.int .i64 (j:Nat))]++List.replicate 121 .junk,[flat (Z0i O)++R],[],st⟩) O.length ?_ ?_
       · simp -dsimp only [go_sem]
         exact⟨hlims,0,by omega,by omega,fun q hq=>absurd hq (by omega),rfl⟩
       · rintro c s ⟨j,rfl,hj,hq,rfl⟩
         have f3:=Z1y j (by omega)
         simp -dsimp only [go_sem]
         refine Q0l Z0t 128 (.step 0 [] (.step 1 [] (.step 2 [] (.step 3 [] (.step 4 [] (.step 5 [] (.step 6 [] (.step 7 [] (.step 8 [] (.step 9 [] (.step 10 [] (.step 11 [] (.step 12 [] (.step 13 [] (.step 14 [] (.step 15 [] (.step 16 [] (.step 17 [] (.done))))))))))))))))))) (by decide+kernel) (by simp) ?_
         simp -dsimp only [go_sem]
         refine gkT (fun h1=> ?_) (fun h1=> ?_)
         · have hlt2:j<O.length:=by have:=of_decide_eq_true h1;omega
           have e2:=Q2o O R j 3 hlt2 (by omega)
           simp -dsimp only [go_sem,h1,e1,e2]
           refine⟨⟨by omega,hlt2⟩,by omega,⟨by omega,by omega⟩,?_⟩
           refine(V1q (O.getD j default).ks (ts.getD i default).ks _ (hOw j hlt2).1 (hw i hlt).1).mono ?_
           rintro r st ⟨rfl,rfl⟩
           simp -dsimp only [go_sem,h1]
           refine ck (fun h2=> ?_) (fun h2=> ?_)
           · simp -dsimp only [go_sem,f3]
             exact⟨hlims,O.length-(j+1),by omega,j+1,rfl,by omega,fun q hq'=>by
              by_cases e:q=j
              · rw [e];exact of_decide_eq_true h2
              · exact hq q (by omega),rfl⟩
           · simp -dsimp only [go_sem]
             exact⟨hlims,j,by omega,hq,fun _=>of_decide_eq_false h2,rfl⟩
         · have hge:j=O.length:=by have:=of_decide_eq_false h1;omega
           subst hge
           simp -dsimp only [go_sem,h1]
           exact⟨hlims,O.length,by omega,hq,fun h=>absurd h (Nat.lt_irrefl _),rfl⟩
     · rintro s ⟨k,hk,hq,hnq,rfl⟩
       refine G0j [true,false,false,false,true,true,true] 1 0
        (fun s=>insT (ts.getD i default) O=O.take k++ts.getD i default::O.drop k∧s=⟨[.sl .no (Z0i ts),.junk,.junk,.junk,.mr 0 O.length cap,.sc (.int .i64 (i:Nat)),.sc (.int .i64 (k:Nat))]++List.replicate 121 .junk,[flat (Z0i O)++R],[],st⟩) ?_ ?_
       rotate_left
       · rintro s ⟨hs,rfl⟩
         clear hq hnq
         obtain⟨f1,f2,f3⟩:=z1f O R
         refine q0c 0 4 (by simp only [V0n];exact Q1x hall) ?_
         generalize R.map PV.forget2=R' at f1 f2 f3
         simp -dsimp only [go_sem,f1,f2,f3]
         refine Q0n (Q0a ?_)
         simp -dsimp only [go_sem]
         refine w0x 7 0 (by simp) (by rfl) ?_
         simp -dsimp only [go_sem]
         refine Q0n ?_
         refine Q1z [false,false,false,false,true,false] ?_
         have hA:(O.take k).length=k:=by rw [List.length_take];omega
         have hB:(O.drop k).length=O.length-k:=List.length_drop
         simp -dsimp only [go_sem]
         have hOO:O.take O.length=O:=List.take_length
         generalize O.take k=A at*
         generalize hBe:O.drop k=B at*
         refine⟨⟨⟨by omega,by omega⟩,by omega⟩,Y1p (O:= []) rfl (by omega) rfl rfl (by omega),?_⟩
         intro c1 R1 g1 g2 g3
         have t1:=W1k A R1 A.length rfl
         refine Q0n ?_
         refine Q1z [false,false,false,false,false,false,true,false] ?_
         have hone: [PV.agg [.sc (.bool (ts.getD i default).v.neg),.sl .no (encD (Q0e (ts.getD i default).v.m)),.sc (.int .i64 (ts.getD i default).v.e),.sl .no (encZ (ts.getD i default).ks)]]=Z0i [ts.getD i default]:=rfl
         simp -dsimp only [go_sem,e1,hone,t1,W1l]
         refine⟨⟨by omega,by omega⟩,Y1p rfl g1 g2 g3 (by show A.length+1≤1000;omega),?_⟩
         intro c2 R2 k1 k2 k3
         have hA2:(A++ [ts.getD i default]).length=A.length+1:=by simp
         generalize hA3:A++ [ts.getD i default]=A2 at*
         have t2:=W1k A2 R2 (A.length+1) hA2.symm
         refine Q1z [false,false,false,false,true,false] ?_
         simp -dsimp only [go_sem,hOO,hBe,t2,W1l]
         refine⟨⟨⟨by omega,by omega⟩,by omega⟩,Y1p hA2.symm k1 k2 k3 (by omega),?_⟩
         intro c3 R3 l1 l2 l3
         have hall2:(flat (Z0i (A2++B))++R3).all PV.quiet=true:=by rw [List.all_append,U0r,l3];rfl
         have hl2:(A2++B).length=A.length+1+B.length:=by rw [List.length_append,hA2]
         refine Q0a ?_
         simp -dsimp only [go_sem,e3]
         exact⟨J0r hall2,ts.length-(i+1),by omega,i+1,c3,A2++B,R3,rfl,by omega,by rw [hnx hlt,hs,←hA3];simp,⟨by rw [hl2];exact l2,by rw [hl2];exact l1,l3⟩,by rw [hl2]⟩
       simp -dsimp only [go_sem]
       refine Q0l Z0t 128 (.step 0 [] (.step 1 [] (.step 2 [] (.step 3 [] (.step 4 [] (.step 5 [] (.step 6 [] (.step 7 [] (.step 8 [] (.step 9 [] (.step 10 [] (.step 11 [] (.step 12 [] (.step 13 [] (.step 14 [] (.step 15 [] (.step 16 [] (.step 17 [] (.done))))))))))))))))))) (by decide+kernel) (by simp) ?_
       simp -dsimp only [go_sem]
       refine gkT (fun h1=> ?_) (fun h1=> ?_)
       · have hlt2:k<O.length:=by have:=of_decide_eq_true h1;omega
         have e2:=Q2o O R k 3 hlt2 (by omega)
         simp -dsimp only [go_sem,h1,e1,e2]
         refine⟨⟨by omega,hlt2⟩,by omega,⟨by omega,by omega⟩,?_⟩
         refine(V1q (O.getD k default).ks (ts.getD i default).ks _ (hOw k hlt2).1 (hw i hlt).1).mono ?_
         rintro r st ⟨rfl,rfl⟩
         simp -dsimp only [go_sem,h1]
         refine ck (fun h2=> ?_) (fun h2=> ?_)
         · have hz:ordK (O.getD k default).ks (ts.getD i default).ks=0:=G1e h2
           have e4:=W3t O R k hlt2
           simp -dsimp only [go_sem]
           refine Q0l Z0t 128 (.step 0 [] (.step 1 [] (.step 2 [] (.step 3 [] (.step 4 [] (.step 5 [] (.step 6 [] (.step 7 [] (.step 8 [] (.step 9 [] (.step 10 [] (.step 11 [] (.step 12 [] (.step 13 [] (.step 14 [] (.step 15 [] (.done))))))))))))))))) (by decide+kernel) (by simp) ?_
           simp -dsimp only [go_sem,e1,e4]
           refine⟨⟨by omega,hlt2⟩,by omega,⟨by omega,by omega⟩,?_⟩
           refine(V1u (O.getD k default).v (ts.getD i default).v _ (hOw k hlt2).2.1 (hw i hlt).2).mono ?_
           rintro r st ⟨rfl,rfl⟩
           have e5:=H2o O R k (K0n (O.getD k default).v (ts.getD i default).v) hlt2
           unfold encV at e5
           simp -dsimp only [go_sem,e5]
           have hs:insT (ts.getD i default) O=O.set k ⟨K0n (O.getD k default).v (ts.getD i default).v,(O.getD k default).ks⟩:=H2a hlt2 hq hz
           have hall2:(flat (Z0i (O.set k ⟨K0n (O.getD k default).v (ts.getD i default).v,(O.getD k default).ks⟩))++R).all PV.quiet=true:=by rw [List.all_append,U0r,hR3];rfl
           refine⟨⟨by omega,hlt2⟩,⟨by omega,by omega⟩,Q0a ?_⟩
           simp -dsimp only [go_sem,e3]
           exact⟨J0r hall2,ts.length-(i+1),by omega,i+1,cap,_,R,rfl,by omega,by rw [hnx hlt,hs],⟨by rw [List.length_set];exact hR1,by rw [List.length_set];exact hR2,hR3⟩,by rw [List.length_set]⟩
         · have hne:=V2j h2
           have hs:insT (ts.getD i default) O=O.take k++ts.getD i default::O.drop k:=H2b hlt2 hq (hnq hlt2) hne
           simp -dsimp only [go_sem]
           exact⟨hlims,hs⟩
       · have hge:k=O.length:=by have:=of_decide_eq_false h1;omega
         have hs:insT (ts.getD i default) O=O.take k++ts.getD i default::O.drop k:=by
          rw [w2d (by rw [←hge];exact hq),hge,List.take_length,List.drop_length]
         simp -dsimp only [go_sem,h1]
         exact⟨hlims,hs⟩
   · have hge:i=ts.length:=by have:=of_decide_eq_false h';omega
     have hO2:=hfin hge
     subst hO2
     have hO24:(gatT ts []).length≤24:=by omega
     clear hlims hnx hfin hge h' hi
     obtain⟨f1,f2,f3⟩:=z1f (gatT ts []) R
     generalize gatT ts []=O at*
     simp -dsimp only [go_sem]
     refine q0c 0 4 (by simp only [V0n];exact Q1x hall) ?_
     generalize R.map PV.forget2=R' at f1 f2 f3
     simp -dsimp only [go_sem,f1,f2,f3]
     refine Q0a ?_
     simp -dsimp only [go_sem]
     refine X0k 8 4 ?_
     simp -dsimp only [go_sem]
     refine Q0d [false,false,false,false,true,false,false,false,true,true] 0 1
      (fun c s=> ∃(j:Nat) (o:List Mn),c=O.length-j∧j≤O.length∧o.length≤j∧G0x O []=G0x (O.drop j) o∧
       s=⟨[.junk,.junk,.junk,.junk,.sl .no (Z0i O),.junk,.junk,.junk,.sl (.own 0) (X0c o),.sc (.int .i64 (j:Nat))]++List.replicate 118 .junk,[],[(o.length,4)],st⟩) O.length ?_ ?_
     · simp -dsimp only [go_sem]
       exact⟨0,[],by omega,by omega,by simp,rfl,rfl⟩
     · rintro c s ⟨j,o,rfl,hj,ho,hr,rfl⟩
       simp -dsimp only [go_sem]
       refine ck (fun h1=> ?_) (fun h1=> ?_)
       · have hlt:j<O.length:=by have:=of_decide_eq_true h1;omega
         have e1:=v0w O j hlt
         have e3:=Z1y j (by omega)
         obtain⟨w1,_,w2⟩:=hOw j hlt
         have w3:=w1.1
         rw [W1q O j hlt,G0x] at hr
         simp -dsimp only [go_sem,e1]
         refine⟨by omega,?_⟩
         refine(j1h (O.getD j default).v _).mono ?_
         rintro r st ⟨rfl,rfl⟩
         simp -dsimp only [go_sem]
         refine ck (fun h2=> ?_) (fun h2=> ?_)
         · rw [if_pos (G1e h2)] at hr
           simp -dsimp only [go_sem,e3]
           exact⟨O.length-(j+1),by omega,j+1,o,rfl,by omega,by omega,hr,rfl⟩
         · rw [if_neg (V2j h2)] at hr
           simp -dsimp only [go_sem,e1]
           refine⟨by omega,?_⟩
           refine(V2o (O.getD j default).v _ w2).mono ?_
           rintro r st ⟨rfl,rfl⟩
           simp -dsimp only [go_sem]
           refine ck (fun h3=> ?_) (fun h3=> ?_)
           · rw [if_pos (Q1b h3)] at hr
             simp -dsimp only [go_sem]
             rw [hr];rfl
           · rw [if_neg (by rw [Z1n h3];decide)] at hr
             simp -dsimp only [go_sem]
             refine Q0l Z0t 128 (.step 0 [] (.step 1 [] (.step 2 [] (.step 3 [] (.step 4 [] (.step 5 [] (.step 6 [] (.step 7 [] (.step 8 [1] (.step 9 [] (.step 10 [] (.step 11 [] (.step 12 [] (.done)))))))))))))) (by decide+kernel) (by simp) ?_
             simp -dsimp only [go_sem,e1,e3]
             refine⟨by omega,⟨by omega,by omega⟩,⟨by omega,by omega⟩,O.length-(j+1),by omega,j+1,o++ [⟨(numV (O.getD j default).v).1,(O.getD j default).ks⟩],rfl,by omega,by simp;omega,hr,?_⟩
             simp [X0c,k0h]
       · have hge:j=O.length:=by have:=of_decide_eq_false h1;omega
         subst hge
         rw [List.drop_length,G0x] at hr
         have z1:decide ((o.length:Int)>24)=false:=decide_eq_false (by omega)
         simp -dsimp only [go_sem]
         refine K0b [false,false,false,false,false,false,false,false,true] (Q0a ?_)
         simp -dsimp only [go_sem,z1]
         rw [hr]
end Go.Pv
end
section
/-The document's Make;the deck's powers,monomials,polynomials,fields. -/
set_option maxRecDepth 100000
namespace Go.Pv
open Go.Proofs
theorem V2z (ks:List Int) (j:Nat) (x:Int) (hj:j<ks.length):(ks.set j x).sum=ks.sum-ks.getD j 0+x:=by
 induction ks generalizing j with
 | nil=>simp at hj
 | cons k r ih=>
  cases j with
  | zero=>simp;omega
  | succ j=>
   have:=ih j (by simpa using hj)
   simp only [List.set_cons_succ,List.sum_cons,List.getD_cons_succ,this];omega
def okKs (n:Nat) (D:Int) (ks:List Int):Prop:=ks.length=n∧(∀j,j<n→0≤ks.getD j 0)∧ks.sum≤D
theorem okKs.right {n:Nat} {D:Int} {ks:List Int} (h:okKs n D ks) (hD:D≤8):J0v ks=true:=(J0q ks).2 ⟨fun j hj=>h.2.1 j (by rw [←h.1];exact hj),by have:=h.2.2;omega⟩
theorem okKs.wK {n:Nat} {D:Int} {ks:List Int} (h:okKs n D ks) (hD:D≤8) (hn:n≤1000):wK ks:=⟨by rw [h.1];omega,fun i hi=>by
 have:=K0l (h.right hD) i hi
 omega⟩
theorem repZ (n:Nat):List.replicate n (PV.sc (.int .i64 0))=encZ (List.replicate n 0):=by simp [encZ]
theorem Q2r (T:List Int) (q:Nat) (c:Int) (h:q<T.length):over (encZ T) q [.sc (.int .i64 c)]=encZ (T.set q c):=by
 have:=V3l 0 T q c h
 simpa using this
theorem K3b (n:Nat):(List.replicate n (0:Int)).sum=0:=by
 induction n with
 | zero=>rfl
 | succ n ih=>rw [List.replicate_succ,List.sum_cons,ih];rfl
def k1f (n:Nat) (D:Int) (m:Mn):Prop:=okKs n D m.ks∧smN m.c
def tmOf (m:Mn):Tm:=⟨ofN m.c,m.ks⟩
theorem y1t {n:Nat} {D:Int} {m:Mn} (h:k1f n D m) (hD:D≤8):okT n 12 18 D (tmOf m):=
 ⟨h.1.1,h.1.right hD,h.1.2.2,X0m h.2.1,z0n h.2.2⟩
theorem J2q {n:Nat} {D:Int} {m:Mn} (h:k1f n D m) (hD:D≤8):W0i m n=true:=(z0m _ _).2 ⟨by have:=h.1.1;omega,h.1.right hD,h.2.1⟩
theorem z3y {n L U:Nat} {D:Int} {t:Tm} (h:okT n L U D t) (hn:n≤4):wK t.ks:=⟨by rw [h.1];omega,fun i hi=>by
 have:=K0l h.2.1 i hi
 omega⟩
theorem V3h {n L U:Nat} {D:Int} {t:Tm} (h:okT n L U D t) (hb:L+U≤4000):smV t.v∧(Q0e t.v.m).length≤1000000000000:=by
 have:=Q2e h.2.2.2.1 h.2.2.2.2
 refine⟨⟨by have:=this.1;omega,by have:=this.2.1;omega,by have:=this.2.2;omega⟩,W1y this (by omega)⟩
theorem z0s {α:Type} [Inhabited α] {l:List α} {P:α→Prop} (h: ∀x∈l,P x) {i:Nat} (hi:i<l.length):P (l.getD i default):=by
 rw [show l.getD i default=l[i] by simp [List.getD_eq_getElem?_getD,hi]]
 exact h _ (List.getElem_mem hi)
set_option maxHeartbeats 4000000 in
theorem W2z (p:List Mn) (n:Nat) (D:Int) (st:Q0f) (hn:1≤n) (hn4:n≤4) (hl:p.length≤24) (hD:D≤8) (hp: ∀m∈p,k1f n D m):PCalls Tryz.prog 64 [.sl .no (X0c p),.sc (.int .i64 n)] st
 (fun r st'=>r= .tup [.sl .no (X0c (G0x (gatT (p.map tmOf) []) []).1),.sc (.int .i64 (G0x (gatT (p.map tmOf) []) []).2)]∧st'=st):=by
 have hok: ∀t∈p.map tmOf,okT n 12 18 D t:=fun t ht=>by
  obtain⟨m,hm,rfl⟩:=List.mem_map.1 ht
  exact y1t (hp m hm) hD
 refine Q0b none Tryz.func64 rfl fun E=>Q0a ?_
 simp -dsimp only [go_sem]
 have d1:decide ((n:Int)<1)=false:=decide_eq_false (by omega)
 have d2:decide ((n:Int)>4)=false:=decide_eq_false (by omega)
 simp -dsimp only [go_sem,d1,d2]
 refine X0k 6 4 ?_
 simp -dsimp only [go_sem]
 refine Q0d [true,true,false,false,false,false,true,true] 0 1 (fun c s=> ∃i,c=p.length-i∧i≤p.length∧
  s=⟨[.sl .no (X0c p),.sc (.int .i64 n),.junk,.junk,.junk,.junk,.sl (.own 0) (Z0i ((p.take i).map tmOf)),.sc (.int .i64 (i:Nat))]++List.replicate 38 .junk,[],[(i,4)],st⟩) p.length ?_ ?_
 · simp -dsimp only [go_sem]
   exact⟨0,by omega,by omega,rfl⟩
 · rintro c s ⟨i,rfl,hi,rfl⟩
   have htl:((p.take i).map tmOf).length=i:=by rw [List.length_map,List.length_take];omega
   simp -dsimp only [go_sem]
   refine ck (fun h1=> ?_) (fun h1=> ?_)
   · have hlt:i<p.length:=by have:=of_decide_eq_true h1;omega
     have e1:=z0v p i hlt
     have e3:=Z1y i (by omega)
     have hm:=z0s hp hlt
     have hsn2:(p.take (i+1)).map tmOf=(p.take i).map tmOf++ [tmOf (p.getD i default)]:=by
      rw [List.take_add_one,List.map_append,List.getElem?_eq_getElem hlt]
      simp [List.getD_eq_getElem?_getD,hlt]
     have hwm:wMn (p.getD i default):=⟨X0x hm.2.1,hm.1.wK hD (by omega)⟩
     simp -dsimp only [go_sem,e1]
     refine⟨by omega,?_⟩
     refine(W2y (p.getD i default) n _ hwm (by omega)).mono ?_
     rintro r st ⟨rfl,rfl⟩
     rw [J2q hm hD]
     simp -dsimp only [go_sem,Bool.not_true]
     refine Q0l Z0t 46 (.step 0 [] (.step 1 [] (.step 2 [] (.step 3 [] (.step 4 [] (.step 5 [] (.step 7 [] (.step 8 [] (.step 9 [] (.step 10 [] (.step 11 [] (.step 6 [11] (.step 12 [] (.step 13 [] (.step 14 [] (.step 15 [] (.done))))))))))))))))) (by decide+kernel) (by simp) ?_
     generalize hT:(p.take i).map tmOf=T at*
     simp -dsimp only [go_sem,e1]
     refine⟨⟨by omega,by omega⟩,⟨by omega,by omega⟩,?_⟩
     refine(of_c (p.getD i default).c _ (by have:=X0x hm.2.1;unfold wN at this;omega)).mono ?_
     rintro r st ⟨rfl,rfl⟩
     have hsn:Z0i T++ [PV.agg [.sc (.bool (ofN (p.getD i default).c).neg),.sl .no (encD (Q0e (ofN (p.getD i default).c).m)),.sc (.int .i64 (ofN (p.getD i default).c).e),.sl .no (encZ (p.getD i default).ks)]]=Z0i (T++ [tmOf (p.getD i default)]):=K2j T (tmOf (p.getD i default))
     simp -dsimp only [go_sem,e1,e3,hsn,htl]
     exact⟨⟨by omega,by omega⟩,p.length-(i+1),by omega,i+1,rfl,by omega,by rw [hsn2]⟩
   · have hge:i=p.length:=by have:=of_decide_eq_false h1;omega
     subst hge
     have hfull:p.take p.length=p:=List.take_length
     rw [hfull] at htl
     simp -dsimp only [go_sem,hfull]
     refine K0b [false,false,false,false,false,false,true] (Q0a ?_)
     simp -dsimp only [go_sem]
     have hw: ∀(T:List Tm) (i:Nat),(∀t∈T,okT n 12 (18+i) D t)→i≤100→ ∀t∈T,wK t.ks∧smV t.v∧(Q0e t.v.m).length≤1000000000000:=fun T i hT hi t ht=>by
      have:=V3h (hT t ht) (by omega)
      exact⟨z3y (hT t ht) hn4,this.1,this.2⟩
     refine(w2l (p.map tmOf) _ (by rw [htl];exact hl) (fun i hi=> ?_) (fun i hi t ht=> ?_)).mono ?_
     · have:=hw (p.map tmOf) 0 hok (by omega)
       exact⟨(z0s (P:=fun t=>wK t.ks) (fun t ht=>(this t ht).1) hi),(z0s (P:=fun t=>smV t.v) (fun t ht=>(this t ht).2.1) hi)⟩
     · have:=(k1y (n:=n) (L:=12) (D:=D) ((p.map tmOf).take i) [] 18 (fun t ht=>hok t (List.mem_of_mem_take ht)) (fun t ht=>by cases ht) List.Pairwise.nil).1
       exact hw _ ((p.map tmOf).take i).length this (by rw [List.length_take,htl];omega) t ht
     · rintro r st ⟨rfl,rfl⟩
       simp -dsimp only [go_sem]
def okPoly (n M:Nat) (D:Int) (p:List Mn):Prop:=K0a p n=true∧p.length≤M∧ ∀m∈p,okMn n 12 (18+M) D m
def okField (n M:Nat) (D:Int) (f:List (List Mn)):Prop:=f.length=n∧ ∀p∈f,okPoly n M D p
theorem okField.right {n M:Nat} {D:Int} {f:List (List Mn)} (h:okField n M D f) (hn:1≤n) (hn4:n≤4):W0k f=true:=(x0o f).2 ⟨by rw [h.1];exact⟨hn,hn4⟩,fun i hi=>by
 rw [show f.getD i []=f[i] by simp [List.getD_eq_getElem?_getD,hi],h.1]
 exact(h.2 _ (List.getElem_mem hi)).1⟩
end Go.Pv
end
section
/-Layer 11:FieldDrawn,FieldHolds. -/
set_option maxRecDepth 100000
namespace Go.Pv
open Go.Proofs
theorem okPoly.at {n M:Nat} {D:Int} {p:List Mn} (h:okPoly n M D p) {j:Nat} (hj:j<p.length):okMn n 12 (18+M) D (p.getD j default):=z0s h.2.2 hj
theorem okField.at {n M:Nat} {D:Int} {f:List (List Mn)} (h:okField n M D f) {i:Nat} (hi:i<f.length):okPoly n M D (f.getD i []):=by
 rw [show f.getD i []=f[i] by simp [List.getD_eq_getElem?_getD,hi]]
 exact h.2 _ (List.getElem_mem hi)
theorem okField.wF {n M:Nat} {D:Int} {f:List (List Mn)} (h:okField n M D f) (hn4:n≤4) (hM:M≤20):wF f:=⟨by have:=h.1;omega,fun i hi=>⟨by have:=(h.at hi).2.1;omega,fun j hj=>by
 obtain⟨a1,a2,a3,a4,a5,a6⟩:=(h.at hi).at hj
 exact⟨X0x a4,by rw [a1];omega,fun k hk=>by
  have:=K0l a2 k hk
  omega⟩⟩⟩
theorem z3b {b:List Ivl} {n:Nat} (hl:b.length=n) (hn4:n≤4) (h: ∀m,m<b.length→smI (b.getD m default)):wB b:=⟨by omega,fun i hi=>G0d (h i hi).1⟩
theorem x3t {b:List Ivl} {q:List Nm} (hb: ∀m,m<b.length→smI (b.getD m default)) (hq: ∀j,j<b.length→ ∃n,n≤8∧q.getD j default=inN (b.getD j default) n): ∀j,j<b.length→Q0i (q.getD j default)=true∧memI (qN (q.getD j default)) (b.getD j default)∧luQ 62 105 (qN (q.getD j default)):=fun j hj=>by
 obtain⟨n,hn,e⟩:=hq j hj
 rw [e];exact K3x (hb j hj) hn
theorem H1i {n M:Nat} {D:Int} {q:List Mn} {b:List Ivl} {p:Int} {L U:Nat} (hq:okPoly n M D q) (hM:M≤24) (hl:b.length=n) (hn1:1≤n) (hn4:n≤4) (hb: ∀j,j<b.length→luI L U (b.getD j default)) (hp:Z0h p=true) (hbd:154+8*L+8*U≤4096):
 v0e q b p=X0y q b p q.length∧(X0y q b p q.length).2=0∧luI (12+L*8) (26+M+U*8+2*q.length) (X0y q b p q.length).1:=by
 have hlu:=H1j (q:=q) (b:=b) (p:=p) (Lc:=12) (Uc:=18+M) (L:=L) (U:=U) hp (fun j hj=>by
  obtain⟨a1,a2,a3,a4,a5,a6⟩:=hq.at hj
  exact⟨a4,a6,a2,by omega⟩) (by omega) hb (by have:=hq.2.1;omega) (by omega) q.length (Nat.le_refl _)
 refine⟨?_,hlu.1,hlu.2.mono (by omega) (by omega)⟩
 unfold v0e
 have hr:=hq.1
 rw [←hl] at hr
 rw [if_pos ⟨hr,List.all_eq_true.2 fun x hx=>by
  obtain⟨j,hj,e⟩:=List.mem_iff_getElem.1 hx
  have:=(hb j hj).1
  rw [show b.getD j default=b[j] by simp [List.getD_eq_getElem?_getD,hj],e] at this
  exact this,hp⟩]
theorem Y1q {n M:Nat} {D:Int} {f:List (List Mn)} {b:List Ivl} {p:Int} {L U:Nat} (hf:okField n M D f) (hM:M≤24) (hl:b.length=n) (hn1:1≤n) (hn4:n≤4) (hb: ∀j,j<b.length→luI L U (b.getD j default)) (hp:Z0h p=true) (hbd:154+8*L+8*U≤4096):
 (J0i f b p).2=0∧(J0i f b p).1.length=n∧ ∀i,i<n→(J0i f b p).1.getD i default=(X0y (f.getD i []) b p (f.getD i []).length).1∧(X0y (f.getD i []) b p (f.getD i []).length).2=0∧luI (12+L*8) (26+M+U*8+2*M) (X0y (f.getD i []) b p (f.getD i []).length).1:=by
 have hfl:=hf.1
 have key: ∀i,i<n→_:=fun i hi=>H1i (hf.at (i:=i) (by omega)) hM hl hn1 hn4 hb hp hbd
 have h0:(tabF (fun i=>v0e (f.getD i []) b p) 0 f.length []).2=0:=Y0o _ _ _ fun j _ hj=>by
  show(v0e (f.getD j []) b p).2=0
  rw [(key j (by omega)).1];exact(key j (by omega)).2.1
 obtain⟨g1,g2,g3⟩:=K0v h0
 unfold J0i
 rw [if_pos ⟨hf.right hn1 hn4,by omega⟩]
 refine⟨h0,by omega,fun i hi=> ?_⟩
 obtain⟨k1,k2,k3⟩:=key i hi
 refine⟨?_,k2,k3.mono (by omega) (by have:=(hf.at (i:=i) (by omega)).2.1;omega)⟩
 rw [g3 i (by omega)]
 show(v0e (f.getD i []) b p).1=_
 rw [k1]
end Go.Pv
end
section
/-Layer 11:FieldChains. -/
set_option maxRecDepth 100000
namespace Go.Pv
open Go.Proofs
theorem Q3y {k:Nat} {x y:Nm} {L U:Nat} (hk:k<2) (hx:Q0i x=true) (hy:Q0i y=true) (h1:luQ L U (qN x)) (h2:luQ L U (qN y)) (hb:L+U+2≤4096):(strN k x y).2=0∧Q0i (strN k x y).1=true∧qN (strN k x y).1=exQ k (qN x) (qN y)∧luQ L (U+1) (qN (strN k x y).1):=by
 have hc:canV (exV k (ofN x) (ofN y)):=y0y k (X0m hx) (X0m hy)
 have hq:qV (exV k (ofN x) (ofN y))=exQ k (qN x) (qN y):=by rw [j2s];rfl
 have hl:luQ L (U+1) (qV (exV k (ofN x) (ofN y))):=by
  rw [hq]
  unfold exQ
  split
  · exact q0m h1 h2
  · rw [if_pos (by omega)];exact J1g h1 h2
 have hf:=Y0v hc hl (by omega)
 have hv:=(J0g hc hf).2
 unfold strN
 rw [if_pos ⟨hx,hy⟩]
 exact⟨hf,J0h (x0b hc),by rw [hv,hq],by rw [hv];exact hl⟩
theorem v2m {L U:Nat} {x y:Rat} (h:luQ L U x) (e:y*2=x):luQ (L+1) U y:=by
 obtain⟨z,h1,h2⟩:=h
 refine⟨z,?_,Nat.le_trans h2 (Nat.pow_le_pow_right (by decide) (by omega))⟩
 have:=Y2j z (-(L:Int))
 rw [show -(L:Int)-1= -((L+1:Nat):Int) from by omega,←h1] at this
 exact J3u (by rw [e,this])
theorem X2p {x:Nm} {L U:Nat} (hx:Q0i x=true) (h:luQ L U (qN x)) (hb:L+U+2≤4096):(X0e x (-1)).2=0∧Q0i (X0e x (-1)).1=true∧qN (X0e x (-1)).1*2=qN x∧luQ (L+1) U (qN (X0e x (-1)).1):=by
 unfold X0e
 rw [if_pos hx]
 split
 · rename_i hw
   have h0:qN x=0:=Y2i (by rw [hw];rfl)
   refine⟨rfl,hx,?_,?_⟩
   · show qN x*2=qN x
     rw [h0,Rat.zero_mul]
   · show luQ (L+1) U (qN x)
     rw [h0];exact W0r _ _
 · rename_i hw
   rw [if_neg (by omega)]
   have hc:canV (⟨x.neg,valW x.w,x.exp+ -1⟩:Vl):=by
    rcases X0m hx with h1 | h1
    · exact .inl h1
    · have:valW x.w=0:=congrArg Vl.m h1
      exfalso
      have h2:=k2q hx
      rw [h1] at h2
      have h3:=congrArg Prod.fst h2
      have:x=default:=h3.symm
      rw [this] at hw
      exact hw rfl
   have hq:qV (⟨x.neg,valW x.w,x.exp+ -1⟩:Vl)*2=qN x:=K3t x
   have hl:=v2m h hq
   have hf:=Y0v hc hl (by omega)
   have hv:=(J0g hc hf).2
   exact⟨hf,J0h (x0b hc),by rw [hv];exact hq,by rw [hv];exact hl⟩
structure Pts (a b m w:List Nm) (i:Nat):Prop where
 la:a.length=i
 lb:b.length=i
 lm:m.length=i
 lw:w.length=i
 pa: ∀k,k<i→Q0i (a.getD k default)=true∧luQ 12 18 (qN (a.getD k default))
 pb: ∀k,k<i→Q0i (b.getD k default)=true∧luQ 12 18 (qN (b.getD k default))
 pm: ∀k,k<i→Q0i (m.getD k default)=true∧luQ 13 19 (qN (m.getD k default))∧qN (m.getD k default)*2=qN (a.getD k default)+qN (b.getD k default)
 pw: ∀k,k<i→Q0i (w.getD k default)=true∧luQ 12 19 (qN (w.getD k default))∧qN (w.getD k default)=qN (b.getD k default)-qN (a.getD k default)
theorem Pts.snoc {a b m w:List Nm} {i:Nat} (h:Pts a b m w i) {x y:Nm} (hx:smN x) (hy:smN y):Pts (a++ [x]) (b++ [y]) (m++ [(X0e (strN 0 x y).1 (-1)).1]) (w++ [(strN 1 y x).1]) (i+1)∧(strN 0 x y).2=0∧(X0e (strN 0 x y).1 (-1)).2=0∧(strN 1 y x).2=0:=by
 obtain⟨s1,s2,s3,s4⟩:=Q3y (k:=0) (by omega) hx.1 hy.1 (z0n hx.2) (z0n hy.2) (by omega)
 obtain⟨d1,d2,d3,d4⟩:=Q3y (k:=1) (by omega) hy.1 hx.1 (z0n hy.2) (z0n hx.2) (by omega)
 obtain⟨c1,c2,c3,c4⟩:=X2p s2 s4 (by omega)
 rw [exQ0] at s3
 rw [exQ1] at d3
 have g: ∀ {l:List Nm} {z:Nm} {k:Nat},l.length=i→k<i+1→(k<i∧(l++ [z]).getD k default=l.getD k default)∨(k=i∧(l++ [z]).getD k default=z):=fun {l z k} hl hk=>by
  by_cases hk2:k<i
  · exact .inl ⟨hk2,Y1m _ _ _ _ (by omega)⟩
  · have e:k=l.length:=by omega
    exact .inr ⟨by omega,by rw [e,k0v]⟩
 refine⟨⟨by simp [h.la],by simp [h.lb],by simp [h.lm],by simp [h.lw],fun k hk=> ?_,fun k hk=> ?_,fun k hk=> ?_,fun k hk=> ?_⟩,s1,c1,d1⟩
 · rcases g (z:=x) h.la hk with ⟨e1,e2⟩ | ⟨e1,e2⟩
   · rw [e2];exact h.pa k e1
   · rw [e2];exact⟨hx.1,z0n hx.2⟩
 · rcases g (z:=y) h.lb hk with ⟨e1,e2⟩ | ⟨e1,e2⟩
   · rw [e2];exact h.pb k e1
   · rw [e2];exact⟨hy.1,z0n hy.2⟩
 · rcases g (z:=(X0e (strN 0 x y).1 (-1)).1) h.lm hk with ⟨e1,e2⟩ | ⟨e1,e2⟩
   · rcases g (z:=x) h.la hk with ⟨f1,f2⟩ | ⟨f1,f2⟩
     · rcases g (z:=y) h.lb hk with ⟨g1,g2⟩ | ⟨g1,g2⟩
       · rw [e2,f2,g2];exact h.pm k e1
       · omega
     · omega
   · rcases g (z:=x) h.la hk with ⟨f1,f2⟩ | ⟨f1,f2⟩
     · omega
     · rcases g (z:=y) h.lb hk with ⟨g1,g2⟩ | ⟨g1,g2⟩
       · omega
       · rw [e2,f2,g2];exact⟨c2,c4,by rw [c3,s3]⟩
 · rcases g (z:=(strN 1 y x).1) h.lw hk with ⟨e1,e2⟩ | ⟨e1,e2⟩
   · rcases g (z:=x) h.la hk with ⟨f1,f2⟩ | ⟨f1,f2⟩
     · rcases g (z:=y) h.lb hk with ⟨g1,g2⟩ | ⟨g1,g2⟩
       · rw [e2,f2,g2];exact h.pw k e1
       · omega
     · omega
   · rcases g (z:=x) h.la hk with ⟨f1,f2⟩ | ⟨f1,f2⟩
     · omega
     · rcases g (z:=y) h.lb hk with ⟨g1,g2⟩ | ⟨g1,g2⟩
       · omega
       · rw [e2,f2,g2];exact⟨d2,d4,d3⟩
end Go.Pv
end
