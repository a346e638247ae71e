/- Parts of the walk: N61, N62, N64. -/
import Derived.Test.YthichlfphjbadaaGreatZBE
import Derived.Test.YthichlfphjbadaaGreatZBM
import Derived.Test.YthichlfphjbadaaGreatZBI
import Derived.Test.YthichlfphjbadaaGreatZAM
import Derived.Test.YthichlfphjbadaaGreatZBJ
import Derived.Test.YthichlfphjbadaaGreatZAR
set_option linter.unusedVariables false
set_option linter.unusedSimpArgs false
section
/-The document's gather,for any terms. -/
set_option maxRecDepth 100000
namespace Go.Pv
open Go.Proofs
theorem k0q (O:List Tm): ∀i,i<(Z0i O).length→((Z0i O).getD i .junk).cells.length=4:=fun i hi=>by
 rw [K0u] at hi
 rw [w0t O i hi];rfl
theorem G0e (O:List Tm):(flat (Z0i O)).length=O.length*4:=by rw [X0q (k0q O),K0u]
theorem Z2o (O:List Tm) (R:List PV) (k m:Nat) (hk:k<O.length) (hm:m<4):(flat (Z0i O)++R).getD (k*4+m) .junk=(k0u (O.getD k default)).getD m .junk:=by
 have h:=G0e O
 rw [Q0r _ _ _ _ (by omega),V0j (k0q O) _ (by rw [K0u];omega),show(k*4+m)/4=k from by omega,show(k*4+m) % 4=m from by omega,w0t O k hk]
 rfl
theorem K2q (O:List Tm) (k:Nat):(flat (Z0i O)).drop (k*4)=flat (Z0i (O.drop k)):=by
 induction k generalizing O with
 | zero=>simp
 | succ k ih=>
  cases O with
  | nil=>simp [Z0i,flat]
  | cons o r=>
   have e:flat (Z0i (o::r))=k0u o++flat (Z0i r):=rfl
   rw [e,show(k+1)*4=4+k*4 from by omega,←List.drop_drop,List.drop_append_of_le_length (by simp [k0u]),show(k0u o).drop 4= [] from rfl,List.nil_append,ih r,List.drop_succ_cons]
theorem V3k (O:List Tm) (R:List PV) (k:Nat) (hk:k<O.length):((flat (Z0i O)++R).drop (k*4)).take 3=encV (O.getD k default).v:=by
 have h:=G0e O
 rw [List.drop_append_of_le_length (by omega),K2q,show O.drop k=O.getD k default::O.drop (k+1) from U1p O k hk]
 rfl
theorem H2i (O:List Tm) (R:List PV) (k:Nat) (v:Vl) (hk:k<O.length):over (flat (Z0i O)++R) (k*4) (encV v)=flat (Z0i (O.set k ⟨v,(O.getD k default).ks⟩))++R:=by
 have h:=G0e O
 induction k generalizing O with
 | zero=>
  cases O with
  | nil=>simp at hk
  | cons o r=>rfl
 | succ k ih=>
  cases O with
  | nil=>simp at hk
  | cons o r=>
   have e:flat (Z0i (o::r))=k0u o++flat (Z0i r):=rfl
   have ih':=ih r (by simpa using hk) (G0e r)
   have hl:(k0u o).length=4:=rfl
   have hget:(o::r).getD (k+1) default=r.getD k default:=rfl
   rw [hget,List.set_cons_succ,show flat (Z0i (o::r.set k ⟨v,(r.getD k default).ks⟩))=k0u o++flat (Z0i (r.set k ⟨v,(r.getD k default).ks⟩)) from rfl,e,List.append_assoc,List.append_assoc,←ih']
   unfold over
   rw [show(k+1)*4=4+k*4 from by omega,List.take_append,List.drop_append,hl,List.take_of_length_le (by rw [hl];omega),List.drop_of_length_le (by rw [hl];omega)]
   simp only [show 4+k*4-4=k*4 from by omega,show 4+k*4+(encV v).length-4=k*4+(encV v).length from by omega,List.nil_append,List.append_assoc]
theorem G0d (O:List Tm):(flat (Z0i O)).all PV.quiet=true:=by
 induction O with
 | nil=>rfl
 | cons o r ih=>
  have e:flat (Z0i (o::r))=k0u o++flat (Z0i r):=rfl
  rw [e,List.all_append,ih];rfl
theorem U1f (O:List Tm) (R:List PV) (n:Nat) (hn:n=O.length):(flat (Z0i O)++R).take (n*4)=flat (Z0i O):=W2k (k0q O) (by rw [K0u];exact hn)
theorem U1g (O X:List Tm) (R:List PV):flat (Z0i O)++(flat (Z0i X)++R)=flat (Z0i (O++X))++R:=by
 rw [←List.append_assoc,←w1k,H2t]
theorem j1i (O:List Tm):(flat (Z0i O)).map PV.forget2=flat (Z0i O):=by
 induction O with
 | nil=>rfl
 | cons o r ih=>
  have e:flat (Z0i (o::r))=k0u o++flat (Z0i r):=rfl
  rw [e,List.map_append,ih];rfl
theorem j1j (O:List Tm) (R:List PV):W0w 4 O.length (flat (Z0i O)++R)=Z0i O:=by
 have:=k0v (sz:=4) (ys:=Z0i O) R (fun y hy=>by
  unfold Z0i at hy
  obtain⟨t,_,rfl⟩:=List.mem_map.1 hy
  exact⟨rfl,rfl⟩)
 rw [K0u] at this
 exact this
theorem j1h (O:List Tm) (R:List PV):(flat (Z0i O)++R).map PV.forget2=flat (Z0i O)++R.map PV.forget2∧(O.length*4≤(flat (Z0i O)).length+(R.map PV.forget2).length)=True∧W0w 4 O.length (flat (Z0i O)++R.map PV.forget2)=Z0i O:=
 ⟨by rw [List.map_append,j1i],eq_true (by have:=G0e O;omega),j1j O _⟩
theorem G1l {O X:List Tm} {R:List PV} {cap n:Nat} {id:TypeId} (hn:n=O.length) (hc:n≤cap) (hR:R.length=(cap-n)*4) (hq:R.all PV.quiet=true) (hl:n+X.length≤1000):
 k1q (flat (Z0i O)++R) n cap (Z0i X) ⟨id,4,64,true,true,false⟩:=by
 have h1:=G0e O
 refine⟨rfl,by show 0<4;decide,by show _=cap*4;rw [List.length_append,h1,hR];omega,by rw [K0u];omega,by show(n+(Z0i X).length)*64≤_;rw [K0u];omega,w2k X,by rw [List.all_append,G0d,hq];rfl,G0d X⟩
def Z4n (O:List Tm) (cap:Nat) (R:List PV):Prop:=R.length=(cap-O.length)*4∧O.length≤cap∧R.all PV.quiet=true
set_option maxHeartbeats 4000000 in
theorem v2x (ts:List Tm) (st:Q0g) (hl:ts.length≤24) (hw: ∀i,i<ts.length→wK (ts.getD i default).ks∧smV (ts.getD i default).v)
 (hwT: ∀i,i≤ts.length→ ∀t∈gatT (ts.take i) [],wK t.ks∧smV t.v∧(Q0d t.v.m).length≤1000000000000):
 PCalls Tryz.prog 136 [.sl .no (Z0i ts)] st (fun r st'=>r= .tup [.sl .no (J0w (q0n (gatT ts []) []).1),.sc (.int .i64 (q0n (gatT ts []) []).2)]∧st'=st):=by
 refine Q0b none Tryz.func136 rfl fun E=>Q0a ?_
 simp -dsimp only [go_sem]
 refine x1b ?_
 refine y0z 4 0 (by simp) (by rfl) ?_
 simp -dsimp only [go_sem]
 refine H0c [true,false,false,false,true,true] 1 0
  (fun c s=> ∃(i cap:Nat) (O:List Tm) (R:List PV),c=ts.length-i∧i≤ts.length∧O=gatT (ts.take i) []∧Z4n O cap R∧s=⟨[.sl .no (Z0i ts),.junk,.junk,.junk,.mr 0 O.length cap,.sc (.int .i64 (i:Nat))]++List.replicate 122 .junk,[flat (Z0i O)++R],[],st⟩) ts.length ?_ ?_
 · simp -dsimp only [go_sem]
   exact⟨0,0,[],[],by omega,by omega,by simp [gatT],⟨rfl,Nat.le_refl _,rfl⟩,rfl⟩
 · rintro c s ⟨i,cap,O,R,rfl,hi,hO,hR,rfl⟩
   have hOl:O.length≤i:=by
    rw [hO]
    have: ∀(ts acc:List Tm),(gatT ts acc).length≤acc.length+ts.length:=by
     intro ts
     induction ts with
     | nil=>intro acc;exact Nat.le_refl _
     | cons t r ih=>
      intro acc
      have h1:=ih (insT t acc)
      have h2:=k0n t acc
      rw [gatT];simp only [List.length_cons];omega
    have h3:=this (ts.take i) []
    rw [List.length_take] at h3
    simp at h3;omega
   obtain⟨hR1,hR2,hR3⟩:=hR
   have hall:(flat (Z0i O)++R).all PV.quiet=true:=by rw [List.all_append,G0d,hR3];rfl
   have hlims:=V0b (a:=1) (b:=0) hall
   have hfl:=G0e O
   have hOw: ∀j,j<O.length→wK (O.getD j default).ks∧smV (O.getD j default).v∧(Q0d (O.getD j default).v.m).length≤1000000000000:=fun j hj=>by
    rw [show O.getD j default=O[j] by simp [List.getD_eq_getElem?_getD,hj]]
    exact hwT i hi _ (by rw [←hO];exact List.getElem_mem hj)
   have hnx:i<ts.length→gatT (ts.take (i+1)) []=insT (ts.getD i default) O:=fun h=>by rw [X2v ts i h,j1c,←hO]
   have hfin:i=ts.length→O=gatT ts []:=fun e=>by rw [hO,e,List.take_length]
   refine Q0h (Q0a ?_)
   simp -dsimp only [go_sem]
   refine ck (fun h'=> ?_) (fun h'=> ?_)
   · have hlt:i<ts.length:=by have:=of_decide_eq_true h';omega
     have e1:=w0t ts i hlt
     have e3:=G0k i (by omega)
     simp -dsimp only [go_sem]
     refine Q0h (w0b (Q0h (Q0a ?_)))
     simp -dsimp only [go_sem]
     refine Q0x [true,false,false,false,true,true,true] 1 0
      (fun s=> ∃k,k≤O.length∧(∀q,q<k→ordK (O.getD q default).ks (ts.getD i default).ks>0)∧(k<O.length→ ¬ordK (O.getD k default).ks (ts.getD i default).ks>0)∧s=⟨[.sl .no (Z0i ts),.junk,.junk,.junk,.mr 0 O.length cap,.sc (.int .i64 (i:Nat)),.sc (.int .i64 (k:Nat))]++List.replicate 121 .junk,[flat (Z0i O)++R],[],st⟩) ?_ ?_
     · simp -dsimp only [go_sem]
       refine Q0e [true,false,false,false,true,true,true] 1 0
        (fun c s=> ∃j,c=O.length-j∧j≤O.length∧(∀q,q<j→ordK (O.getD q default).ks (ts.getD i default).ks>0)∧s=⟨[.sl .no (Z0i ts),.junk,.junk,.junk,.mr 0 O.length cap,.sc (.int .i64 (i:Nat)),.sc (.int .i64 (j:Nat))]++List.replicate 121 .junk,[flat (Z0i O)++R],[],st⟩) O.length ?_ ?_
       · simp -dsimp only [go_sem]
         exact⟨hlims,0,by omega,by omega,fun q hq=>absurd hq (by omega),rfl⟩
       · rintro c s ⟨j,rfl,hj,hq,rfl⟩
         have f3:=G0k j (by omega)
         simp -dsimp only [go_sem]
         refine Q0o Z0p 128 (.step 0 [] (.step 1 [] (.step 2 [] (.step 3 [] (.step 4 [] (.step 5 [] (.step 6 [] (.step 7 [] (.step 8 [] (.step 9 [] (.step 10 [] (.step 11 [] (.step 12 [] (.step 13 [] (.step 14 [] (.step 15 [] (.step 16 [] (.step 17 [] (.done))))))))))))))))))) (by decide+kernel) (by simp) ?_
         simp -dsimp only [go_sem]
         refine gkT (fun h1=> ?_) (fun h1=> ?_)
         · have hlt2:j<O.length:=by have:=of_decide_eq_true h1;omega
           have e2:=Z2o O R j 3 hlt2 (by omega)
           simp -dsimp only [go_sem,h1,e1,e2]
           refine⟨⟨by omega,hlt2⟩,by omega,⟨by omega,by omega⟩,?_⟩
           refine(y0r (O.getD j default).ks (ts.getD i default).ks _ (hOw j hlt2).1 (hw i hlt).1).mono ?_
           rintro r st ⟨rfl,rfl⟩
           simp -dsimp only [go_sem,h1]
           refine ck (fun h2=> ?_) (fun h2=> ?_)
           · simp -dsimp only [go_sem,f3]
             exact⟨hlims,O.length-(j+1),by omega,j+1,rfl,by omega,fun q hq'=>by
              by_cases e:q=j
              · rw [e];exact of_decide_eq_true h2
              · exact hq q (by omega),rfl⟩
           · simp -dsimp only [go_sem]
             exact⟨hlims,j,by omega,hq,fun _=>of_decide_eq_false h2,rfl⟩
         · have hge:j=O.length:=by have:=of_decide_eq_false h1;omega
           subst hge
           simp -dsimp only [go_sem,h1]
           exact⟨hlims,O.length,by omega,hq,fun h=>absurd h (Nat.lt_irrefl _),rfl⟩
     · rintro s ⟨k,hk,hq,hnq,rfl⟩
       refine Q0x [true,false,false,false,true,true,true] 1 0
        (fun s=>insT (ts.getD i default) O=O.take k++ts.getD i default::O.drop k∧s=⟨[.sl .no (Z0i ts),.junk,.junk,.junk,.mr 0 O.length cap,.sc (.int .i64 (i:Nat)),.sc (.int .i64 (k:Nat))]++List.replicate 121 .junk,[flat (Z0i O)++R],[],st⟩) ?_ ?_
       rotate_left
       · rintro s ⟨hs,rfl⟩
         clear hq hnq
         obtain⟨f1,f2,f3⟩:=j1h O R
         refine k0i 0 4 (by simp only [G0c];exact H1a hall) ?_
         generalize R.map PV.forget2=R' at f1 f2 f3
         simp -dsimp only [go_sem,f1,f2,f3]
         refine Q0h (Q0a ?_)
         simp -dsimp only [go_sem]
         refine y0z 7 0 (by simp) (by rfl) ?_
         simp -dsimp only [go_sem]
         refine Q0h ?_
         refine Z1q [false,false,false,false,true,false] ?_
         have hA:(O.take k).length=k:=by rw [List.length_take];omega
         have hB:(O.drop k).length=O.length-k:=List.length_drop
         simp -dsimp only [go_sem]
         have hOO:O.take O.length=O:=List.take_length
         generalize O.take k=A at*
         generalize hBe:O.drop k=B at*
         refine⟨⟨⟨by omega,by omega⟩,by omega⟩,G1l (O:= []) rfl (by omega) rfl rfl (by omega),?_⟩
         intro c1 R1 g1 g2 g3
         have t1:=U1f A R1 A.length rfl
         refine Q0h ?_
         refine Z1q [false,false,false,false,false,false,true,false] ?_
         have hone: [PV.agg [.sc (.bool (ts.getD i default).v.neg),.sl .no (encD (Q0d (ts.getD i default).v.m)),.sc (.int .i64 (ts.getD i default).v.e),.sl .no (encZ (ts.getD i default).ks)]]=Z0i [ts.getD i default]:=rfl
         simp -dsimp only [go_sem,e1,hone,t1,U1g]
         refine⟨⟨by omega,by omega⟩,G1l rfl g1 g2 g3 (by show A.length+1≤1000;omega),?_⟩
         intro c2 R2 k1 k2 k3
         have hA2:(A++ [ts.getD i default]).length=A.length+1:=by simp
         generalize hA3:A++ [ts.getD i default]=A2 at*
         have t2:=U1f A2 R2 (A.length+1) hA2.symm
         refine Z1q [false,false,false,false,true,false] ?_
         simp -dsimp only [go_sem,hOO,hBe,t2,U1g]
         refine⟨⟨⟨by omega,by omega⟩,by omega⟩,G1l hA2.symm k1 k2 k3 (by omega),?_⟩
         intro c3 R3 l1 l2 l3
         have hall2:(flat (Z0i (A2++B))++R3).all PV.quiet=true:=by rw [List.all_append,G0d,l3];rfl
         have hl2:(A2++B).length=A.length+1+B.length:=by rw [List.length_append,hA2]
         refine Q0a ?_
         simp -dsimp only [go_sem,e3]
         exact⟨V0b hall2,ts.length-(i+1),by omega,i+1,c3,A2++B,R3,rfl,by omega,by rw [hnx hlt,hs,←hA3];simp,⟨by rw [hl2];exact l2,by rw [hl2];exact l1,l3⟩,by rw [hl2]⟩
       simp -dsimp only [go_sem]
       refine Q0o Z0p 128 (.step 0 [] (.step 1 [] (.step 2 [] (.step 3 [] (.step 4 [] (.step 5 [] (.step 6 [] (.step 7 [] (.step 8 [] (.step 9 [] (.step 10 [] (.step 11 [] (.step 12 [] (.step 13 [] (.step 14 [] (.step 15 [] (.step 16 [] (.step 17 [] (.done))))))))))))))))))) (by decide+kernel) (by simp) ?_
       simp -dsimp only [go_sem]
       refine gkT (fun h1=> ?_) (fun h1=> ?_)
       · have hlt2:k<O.length:=by have:=of_decide_eq_true h1;omega
         have e2:=Z2o O R k 3 hlt2 (by omega)
         simp -dsimp only [go_sem,h1,e1,e2]
         refine⟨⟨by omega,hlt2⟩,by omega,⟨by omega,by omega⟩,?_⟩
         refine(y0r (O.getD k default).ks (ts.getD i default).ks _ (hOw k hlt2).1 (hw i hlt).1).mono ?_
         rintro r st ⟨rfl,rfl⟩
         simp -dsimp only [go_sem,h1]
         refine ck (fun h2=> ?_) (fun h2=> ?_)
         · have hz:ordK (O.getD k default).ks (ts.getD i default).ks=0:=X1c h2
           have e4:=V3k O R k hlt2
           simp -dsimp only [go_sem]
           refine Q0o Z0p 128 (.step 0 [] (.step 1 [] (.step 2 [] (.step 3 [] (.step 4 [] (.step 5 [] (.step 6 [] (.step 7 [] (.step 8 [] (.step 9 [] (.step 10 [] (.step 11 [] (.step 12 [] (.step 13 [] (.step 14 [] (.step 15 [] (.done))))))))))))))))) (by decide+kernel) (by simp) ?_
           simp -dsimp only [go_sem,e1,e4]
           refine⟨⟨by omega,hlt2⟩,by omega,⟨by omega,by omega⟩,?_⟩
           refine(Q2n (O.getD k default).v (ts.getD i default).v _ (hOw k hlt2).2.1 (hw i hlt).2).mono ?_
           rintro r st ⟨rfl,rfl⟩
           have e5:=H2i O R k (J0l (O.getD k default).v (ts.getD i default).v) hlt2
           unfold encV at e5
           simp -dsimp only [go_sem,e5]
           have hs:insT (ts.getD i default) O=O.set k ⟨J0l (O.getD k default).v (ts.getD i default).v,(O.getD k default).ks⟩:=G2u hlt2 hq hz
           have hall2:(flat (Z0i (O.set k ⟨J0l (O.getD k default).v (ts.getD i default).v,(O.getD k default).ks⟩))++R).all PV.quiet=true:=by rw [List.all_append,G0d,hR3];rfl
           refine⟨⟨by omega,hlt2⟩,⟨by omega,by omega⟩,Q0a ?_⟩
           simp -dsimp only [go_sem,e3]
           exact⟨V0b hall2,ts.length-(i+1),by omega,i+1,cap,_,R,rfl,by omega,by rw [hnx hlt,hs],⟨by rw [List.length_set];exact hR1,by rw [List.length_set];exact hR2,hR3⟩,by rw [List.length_set]⟩
         · have hne:=X1d h2
           have hs:insT (ts.getD i default) O=O.take k++ts.getD i default::O.drop k:=G2v hlt2 hq (hnq hlt2) hne
           simp -dsimp only [go_sem]
           exact⟨hlims,hs⟩
       · have hge:k=O.length:=by have:=of_decide_eq_false h1;omega
         have hs:insT (ts.getD i default) O=O.take k++ts.getD i default::O.drop k:=by
          rw [v2p (by rw [←hge];exact hq),hge,List.take_length,List.drop_length]
         simp -dsimp only [go_sem,h1]
         exact⟨hlims,hs⟩
   · have hge:i=ts.length:=by have:=of_decide_eq_false h';omega
     have hO2:=hfin hge
     subst hO2
     have hO24:(gatT ts []).length≤24:=by omega
     clear hlims hnx hfin hge h' hi
     obtain⟨f1,f2,f3⟩:=j1h (gatT ts []) R
     generalize gatT ts []=O at*
     simp -dsimp only [go_sem]
     refine k0i 0 4 (by simp only [G0c];exact H1a hall) ?_
     generalize R.map PV.forget2=R' at f1 f2 f3
     simp -dsimp only [go_sem,f1,f2,f3]
     refine Q0a ?_
     simp -dsimp only [go_sem]
     refine Z0y 8 4 ?_
     simp -dsimp only [go_sem]
     refine Q0e [false,false,false,false,true,false,false,false,true,true] 0 1
      (fun c s=> ∃(j:Nat) (o:List Mn),c=O.length-j∧j≤O.length∧o.length≤j∧q0n O []=q0n (O.drop j) o∧
       s=⟨[.junk,.junk,.junk,.junk,.sl .no (Z0i O),.junk,.junk,.junk,.sl (.own 0) (J0w o),.sc (.int .i64 (j:Nat))]++List.replicate 118 .junk,[],[(o.length,4)],st⟩) O.length ?_ ?_
     · simp -dsimp only [go_sem]
       exact⟨0,[],by omega,by omega,by simp,rfl,rfl⟩
     · rintro c s ⟨j,o,rfl,hj,ho,hr,rfl⟩
       simp -dsimp only [go_sem]
       refine ck (fun h1=> ?_) (fun h1=> ?_)
       · have hlt:j<O.length:=by have:=of_decide_eq_true h1;omega
         have e1:=w0t O j hlt
         have e3:=G0k j (by omega)
         obtain⟨w1,_,w2⟩:=hOw j hlt
         have w3:=w1.1
         rw [U1p O j hlt,q0n] at hr
         simp -dsimp only [go_sem,e1]
         refine⟨by omega,?_⟩
         refine(W2x (O.getD j default).v _).mono ?_
         rintro r st ⟨rfl,rfl⟩
         simp -dsimp only [go_sem]
         refine ck (fun h2=> ?_) (fun h2=> ?_)
         · rw [if_pos (X1c h2)] at hr
           simp -dsimp only [go_sem,e3]
           exact⟨O.length-(j+1),by omega,j+1,o,rfl,by omega,by omega,hr,rfl⟩
         · rw [if_neg (X1d h2)] at hr
           simp -dsimp only [go_sem,e1]
           refine⟨by omega,?_⟩
           refine(X1j (O.getD j default).v _ w2).mono ?_
           rintro r st ⟨rfl,rfl⟩
           simp -dsimp only [go_sem]
           refine ck (fun h3=> ?_) (fun h3=> ?_)
           · rw [if_pos (W1j h3)] at hr
             simp -dsimp only [go_sem]
             rw [hr];rfl
           · rw [if_neg (by rw [q1j h3];decide)] at hr
             simp -dsimp only [go_sem]
             refine Q0o Z0p 128 (.step 0 [] (.step 1 [] (.step 2 [] (.step 3 [] (.step 4 [] (.step 5 [] (.step 6 [] (.step 7 [] (.step 8 [1] (.step 9 [] (.step 10 [] (.step 11 [] (.step 12 [] (.done)))))))))))))) (by decide+kernel) (by simp) ?_
             simp -dsimp only [go_sem,e1,e3]
             refine⟨by omega,⟨by omega,by omega⟩,⟨by omega,by omega⟩,O.length-(j+1),by omega,j+1,o++ [⟨(numV (O.getD j default).v).1,(O.getD j default).ks⟩],rfl,by omega,by simp;omega,hr,?_⟩
             simp [J0w,H1t]
       · have hge:j=O.length:=by have:=of_decide_eq_false h1;omega
         subst hge
         rw [List.drop_length,q0n] at hr
         have z1:decide ((o.length:Int)>24)=false:=decide_eq_false (by omega)
         simp -dsimp only [go_sem]
         refine J0u [false,false,false,false,false,false,false,false,true] (Q0a ?_)
         simp -dsimp only [go_sem,z1]
         rw [hr]
end Go.Pv
end
section
/-The document's Make;the deck's powers,monomials,polynomials,fields. -/
set_option maxRecDepth 100000
namespace Go.Pv
open Go.Proofs
theorem X3x (ks:List Int) (j:Nat) (x:Int) (hj:j<ks.length):(ks.set j x).sum=ks.sum-ks.getD j 0+x:=by
 induction ks generalizing j with
 | nil=>simp at hj
 | cons k r ih=>
  cases j with
  | zero=>simp;omega
  | succ j=>
   have:=ih j (by simpa using hj)
   simp only [List.set_cons_succ,List.sum_cons,List.getD_cons_succ,this];omega
def okKs (n:Nat) (D:Int) (ks:List Int):Prop:=ks.length=n∧(∀j,j<n→0≤ks.getD j 0)∧ks.sum≤D
theorem okKs.right {n:Nat} {D:Int} {ks:List Int} (h:okKs n D ks) (hD:D≤8):U0h ks=true:=(V0a ks).2 ⟨fun j hj=>h.2.1 j (by rw [←h.1];exact hj),by have:=h.2.2;omega⟩
theorem okKs.wK {n:Nat} {D:Int} {ks:List Int} (h:okKs n D ks) (hD:D≤8) (hn:n≤1000):wK ks:=⟨by rw [h.1];omega,fun i hi=>by
 have:=U0t (h.right hD) i hi
 omega⟩
theorem repZ (n:Nat):List.replicate n (PV.sc (.int .i64 0))=encZ (List.replicate n 0):=by simp [encZ]
theorem w2h (T:List Int) (q:Nat) (c:Int) (h:q<T.length):over (encZ T) q [.sc (.int .i64 c)]=encZ (T.set q c):=by
 have:=K3i 0 T q c h
 simpa using this
theorem X3y (n:Nat):(List.replicate n (0:Int)).sum=0:=by
 induction n with
 | zero=>rfl
 | succ n ih=>rw [List.replicate_succ,List.sum_cons,ih];rfl
theorem j2s (l:List UInt64) (i k n D:Nat) (st:Q0g) (h:atD st k l i) (hi:i≤900000000000) (hn:1≤n) (hn2:n≤1000) (hD:D≤8):PCalls Tryz.prog 137 [.gp k 0,.sc (.int .i64 n),.sc (.int .i64 D)] st
 (fun r st'=> ∃ks j,okKs n D ks∧i≤j∧j≤i+1+D∧r= .sl .no (encZ ks)∧st'=st.set k (dk l j)):=by
 refine Q0b none Tryz.func137 rfl fun E=>Q0a ?_
 have x1:IntKind.i64.wrap ((D:Int)+1)=((D+1:Nat):Int):=by
  rw [show((D:Int)+1)=((D+1:Nat):Int) from rfl,Q0i _ (by omega)]
 simp -dsimp only [go_sem,x1]
 refine⟨⟨by omega,by omega,by omega⟩,?_⟩
 refine(V0f l i k (D+1) st h (by omega) (by omega) (by omega)).mono ?_
 rintro r st' ⟨rfl,rfl⟩
 have hnx:=k0k l i (n:=D+1) (by omega)
 simp -dsimp only [go_sem]
 refine Q0e [true,true,false,false,false,false,false,true,true] 1 0 (fun m s=> ∃(ks:List Int) (c j:Nat),m=c∧c≤D∧okKs n (D-c) ks∧i≤j∧j+c≤i+1+D∧
  s=⟨[.gp k 0,.sc (.int .i64 n),.junk,.junk,.junk,.junk,.junk,.ms false 0 0 n,.sc (.int .i64 (c:Nat))]++List.replicate 19 .junk,[encZ ks],[],st.set k (dk l j)⟩) (nx l i (D+1)) ?_ ?_
 · simp -dsimp only [go_sem]
   refine⟨(by rw [repZ];exact w2i _ _ _),List.replicate n 0,nx l i (D+1),i+1,rfl,by omega,⟨by simp,fun j hj=>by simp [List.getD_eq_getElem?_getD,hj],by rw [X3y];omega⟩,by omega,by omega,?_⟩
   rw [repZ]
 · rintro m s ⟨ks,c,j,hm,hc,hks,hj1,hj2,rfl⟩
   subst hm
   obtain⟨k1,k2,k3⟩:=hks
   simp -dsimp only [go_sem]
   refine ck (fun h1=> ?_) (fun h1=> ?_)
   · have hpos:0<m:=by have:=of_decide_eq_true h1;omega
     have x2:IntKind.i64.wrap ((m:Int)-1)=((m-1:Nat):Int):=by rw [Q0q _ (by omega) (by omega)];omega
     simp -dsimp only [go_sem]
     refine(V0f l j k n _ (h.set j) (by omega) (by omega) (by omega)).mono ?_
     rintro r st' ⟨rfl,rfl⟩
     have hq:=k0k l j (n:=n) (by omega)
     generalize nx l j n=q at hq⊢
     have hg:=Z1y ks q (by omega)
     have hv:=k2 q hq
     have hup:ks.getD q 0≤8:=by
      have:=U0t ((V0a ks).2 ⟨fun j hj=>k2 j (by omega),by omega⟩) q (by omega)
      exact this.2
     have x3:IntKind.i64.wrap (ks.getD q 0+1)=ks.getD q 0+1:=Q0q _ (by omega) (by omega)
     have hs:=w2h ks q (ks.getD q 0+1) (by omega)
     simp -dsimp only [go_sem,hg,x3,hs,x2,X0x]
     refine⟨⟨by omega,hq⟩,by omega,⟨by omega,hq⟩,⟨by omega,by omega⟩,m-1,by omega,ks.set q (ks.getD q 0+1),m-1,j+1,rfl,by omega,⟨by rw [List.length_set,k1],fun a ha=> ?_,?_⟩,by omega,by omega,rfl⟩
     · by_cases e:q=a
       · subst e;rw [Q0p _ _ _ _ (by omega)];omega
       · rw [Q0j _ _ _ _ _ e];exact k2 a ha
     · rw [X3x _ _ _ (by omega)];omega
   · have hz:m=0:=by have:=of_decide_eq_false h1;omega
     subst hz
     have ht:ks.take n=ks:=List.take_of_length_le (by omega)
     have hle:(n≤ks.length)=True:=eq_true (by omega)
     simp -dsimp only [go_sem]
     refine x0z 0 (by simp only [G0c];exact V3t _) (Q0a ?_)
     simp -dsimp only [go_sem,ht,hle]
     exact⟨ks,j,⟨k1,k2,by omega⟩,by omega,by omega,rfl,rfl⟩
def U2w (n:Nat) (D:Int) (m:Mn):Prop:=okKs n D m.ks∧smN m.c
theorem K3k (l:List UInt64) (i k n M D:Nat) (st:Q0g) (h:atD st k l i) (hi:i≤800000000000) (hn:1≤n) (hn2:n≤1000) (hM:M≤20) (hD:D≤8):PCalls Tryz.prog 90 [.gp k 0,.sc (.int .i64 n),.sc (.int .i64 M),.sc (.int .i64 D)] st
 (fun r st'=> ∃p j,p.length≤M∧(∀m∈p,U2w n D m)∧i≤j∧j≤i+1+10*M∧r= .sl .no (J0w p)∧st'=st.set k (dk l j)):=by
 refine Q0b none Tryz.func90 rfl fun E=>Q0a ?_
 have x1:IntKind.i64.wrap ((M:Int)+1)=((M+1:Nat):Int):=by
  rw [show((M:Int)+1)=((M+1:Nat):Int) from rfl,Q0i _ (by omega)]
 simp -dsimp only [go_sem,x1]
 refine(V0f l i k (M+1) st h (by omega) (by omega) (by omega)).mono ?_
 rintro r st' ⟨rfl,rfl⟩
 have hnx:=k0k l i (n:=M+1) (by omega)
 simp -dsimp only [go_sem]
 refine Z0y 9 4 ?_
 simp -dsimp only [go_sem]
 refine Q0e [true,true,false,true,false,false,false,false,false,true,true] 0 1 (fun m s=> ∃(p:List Mn) (c j:Nat),m=c∧p.length+c≤M∧(∀m∈p,U2w n D m)∧i≤j∧j+10*c≤i+1+10*M∧
  s=⟨[.gp k 0,.sc (.int .i64 n),.junk,.sc (.int .i64 D),.junk,.junk,.junk,.junk,.junk,.sl (.own 0) (J0w p),.sc (.int .i64 (c:Nat))]++List.replicate 19 .junk,[],[(p.length,4)],st.set k (dk l j)⟩) (nx l i (M+1)) ?_ ?_
 · simp -dsimp only [go_sem]
   exact⟨[],nx l i (M+1),i+1,rfl,by simp;omega,(fun m hm=>by cases hm),by omega,by omega,rfl⟩
 · rintro m s ⟨p,c,j,hm,hc,hp,hj1,hj2,rfl⟩
   subst hm
   simp -dsimp only [go_sem]
   refine ck (fun h1=> ?_) (fun h1=> ?_)
   · have hpos:0<m:=by have:=of_decide_eq_true h1;omega
     have x2:IntKind.i64.wrap ((m:Int)-1)=((m-1:Nat):Int):=by rw [Q0q _ (by omega) (by omega)];omega
     simp -dsimp only [go_sem]
     refine(x2n l j k _ (h.set j) (by omega)).mono ?_
     rintro r st' ⟨x,hx,rfl,rfl⟩
     simp -dsimp only [go_sem,X0x]
     refine(j2s l (j+1) k n D _ (h.set (j+1)) (by omega) hn hn2 hD).mono ?_
     rintro r st' ⟨ks,j',hks,hj3,hj4,rfl,rfl⟩
     have hsn:J0w p++ [PV.agg [.sc (.bool x.neg),.sc (.int .i64 x.exp),.sl .no (encW x.w),.sl .no (encZ ks)]]=J0w (p++ [⟨x,ks⟩]):=K2u p ⟨x,ks⟩
     simp -dsimp only [go_sem,X0x,x2,hsn]
     refine⟨⟨by omega,by omega⟩,m-1,by omega,p++ [⟨x,ks⟩],m-1,j',rfl,by simp;omega,fun y hy=> ?_,by omega,by omega,by simp⟩
     rcases List.mem_append.1 hy with hy | hy
     · exact hp y hy
     · rw [List.mem_singleton.1 hy];exact⟨hks,hx⟩
   · have hz:m=0:=by have:=of_decide_eq_false h1;omega
     subst hz
     simp -dsimp only [go_sem]
     refine J0u [false,false,false,false,false,false,false,false,false,true] (Q0a ?_)
     simp -dsimp only [go_sem]
     exact⟨p,j,by omega,hp,by omega,by omega,rfl,rfl⟩
def tmOf (m:Mn):Tm:=⟨ofN m.c,m.ks⟩
theorem Q2t {n:Nat} {D:Int} {m:Mn} (h:U2w n D m) (hD:D≤8):okT n 12 18 D (tmOf m):=
 ⟨h.1.1,h.1.right hD,h.1.2.2,X0u h.2.1,q3m h.2.2⟩
theorem J2y {n:Nat} {D:Int} {m:Mn} (h:U2w n D m) (hD:D≤8):H0d m n=true:=(x1s _ _).2 ⟨by have:=h.1.1;omega,h.1.right hD,h.2.1⟩
theorem q3e {n L U:Nat} {D:Int} {t:Tm} (h:okT n L U D t) (hn:n≤4):wK t.ks:=⟨by rw [h.1];omega,fun i hi=>by
 have:=U0t h.2.1 i hi
 omega⟩
theorem K3e {n L U:Nat} {D:Int} {t:Tm} (h:okT n L U D t) (hb:L+U≤4000):smV t.v∧(Q0d t.v.m).length≤1000000000000:=by
 have:=G2i h.2.2.2.1 h.2.2.2.2
 refine⟨⟨by have:=this.1;omega,by have:=this.2.1;omega,by have:=this.2.2;omega⟩,q0a this (by omega)⟩
theorem z0w {α:Type} [Inhabited α] {l:List α} {P:α→Prop} (h: ∀x∈l,P x) {i:Nat} (hi:i<l.length):P (l.getD i default):=by
 rw [show l.getD i default=l[i] by simp [List.getD_eq_getElem?_getD,hi]]
 exact h _ (List.getElem_mem hi)
set_option maxHeartbeats 4000000 in
theorem Y2n (p:List Mn) (n:Nat) (D:Int) (st:Q0g) (hn:1≤n) (hn4:n≤4) (hl:p.length≤24) (hD:D≤8) (hp: ∀m∈p,U2w n D m):PCalls Tryz.prog 89 [.sl .no (J0w p),.sc (.int .i64 n)] st
 (fun r st'=>r= .tup [.sl .no (J0w (q0n (gatT (p.map tmOf) []) []).1),.sc (.int .i64 (q0n (gatT (p.map tmOf) []) []).2)]∧st'=st):=by
 have hok: ∀t∈p.map tmOf,okT n 12 18 D t:=fun t ht=>by
  obtain⟨m,hm,rfl⟩:=List.mem_map.1 ht
  exact Q2t (hp m hm) hD
 refine Q0b none Tryz.func89 rfl fun E=>Q0a ?_
 simp -dsimp only [go_sem]
 have d1:decide ((n:Int)<1)=false:=decide_eq_false (by omega)
 have d2:decide ((n:Int)>4)=false:=decide_eq_false (by omega)
 simp -dsimp only [go_sem,d1,d2]
 refine Z0y 6 4 ?_
 simp -dsimp only [go_sem]
 refine Q0e [true,true,false,false,false,false,true,true] 0 1 (fun c s=> ∃i,c=p.length-i∧i≤p.length∧
  s=⟨[.sl .no (J0w p),.sc (.int .i64 n),.junk,.junk,.junk,.junk,.sl (.own 0) (Z0i ((p.take i).map tmOf)),.sc (.int .i64 (i:Nat))]++List.replicate 38 .junk,[],[(i,4)],st⟩) p.length ?_ ?_
 · simp -dsimp only [go_sem]
   exact⟨0,by omega,by omega,rfl⟩
 · rintro c s ⟨i,rfl,hi,rfl⟩
   have htl:((p.take i).map tmOf).length=i:=by rw [List.length_map,List.length_take];omega
   simp -dsimp only [go_sem]
   refine ck (fun h1=> ?_) (fun h1=> ?_)
   · have hlt:i<p.length:=by have:=of_decide_eq_true h1;omega
     have e1:=K1y p i hlt
     have e3:=G0k i (by omega)
     have hm:=z0w hp hlt
     have hsn2:(p.take (i+1)).map tmOf=(p.take i).map tmOf++ [tmOf (p.getD i default)]:=by
      rw [List.take_add_one,List.map_append,List.getElem?_eq_getElem hlt]
      simp [List.getD_eq_getElem?_getD,hlt]
     have hwm:wMn (p.getD i default):=⟨Q0t hm.2.1,hm.1.wK hD (by omega)⟩
     simp -dsimp only [go_sem,e1]
     refine⟨by omega,?_⟩
     refine(z1k (p.getD i default) n _ hwm (by omega)).mono ?_
     rintro r st ⟨rfl,rfl⟩
     rw [J2y hm hD]
     simp -dsimp only [go_sem,Bool.not_true]
     refine Q0o Z0p 46 (.step 0 [] (.step 1 [] (.step 2 [] (.step 3 [] (.step 4 [] (.step 5 [] (.step 7 [] (.step 8 [] (.step 9 [] (.step 10 [] (.step 11 [] (.step 6 [11] (.step 12 [] (.step 13 [] (.step 14 [] (.step 15 [] (.done))))))))))))))))) (by decide+kernel) (by simp) ?_
     generalize hT:(p.take i).map tmOf=T at*
     simp -dsimp only [go_sem,e1]
     refine⟨⟨by omega,by omega⟩,⟨by omega,by omega⟩,?_⟩
     refine(of_c (p.getD i default).c _ (by have:=Q0t hm.2.1;unfold wN at this;omega)).mono ?_
     rintro r st ⟨rfl,rfl⟩
     have hsn:Z0i T++ [PV.agg [.sc (.bool (ofN (p.getD i default).c).neg),.sl .no (encD (Q0d (ofN (p.getD i default).c).m)),.sc (.int .i64 (ofN (p.getD i default).c).e),.sl .no (encZ (p.getD i default).ks)]]=Z0i (T++ [tmOf (p.getD i default)]):=K2t T (tmOf (p.getD i default))
     simp -dsimp only [go_sem,e1,e3,hsn,htl]
     exact⟨⟨by omega,by omega⟩,p.length-(i+1),by omega,i+1,rfl,by omega,by rw [hsn2]⟩
   · have hge:i=p.length:=by have:=of_decide_eq_false h1;omega
     subst hge
     have hfull:p.take p.length=p:=List.take_length
     rw [hfull] at htl
     simp -dsimp only [go_sem,hfull]
     refine J0u [false,false,false,false,false,false,true] (Q0a ?_)
     simp -dsimp only [go_sem]
     have hw: ∀(T:List Tm) (i:Nat),(∀t∈T,okT n 12 (18+i) D t)→i≤100→ ∀t∈T,wK t.ks∧smV t.v∧(Q0d t.v.m).length≤1000000000000:=fun T i hT hi t ht=>by
      have:=K3e (hT t ht) (by omega)
      exact⟨q3e (hT t ht) hn4,this.1,this.2⟩
     refine(v2x (p.map tmOf) _ (by rw [htl];exact hl) (fun i hi=> ?_) (fun i hi t ht=> ?_)).mono ?_
     · have:=hw (p.map tmOf) 0 hok (by omega)
       exact⟨(z0w (P:=fun t=>wK t.ks) (fun t ht=>(this t ht).1) hi),(z0w (P:=fun t=>smV t.v) (fun t ht=>(this t ht).2.1) hi)⟩
     · have:=(w1j (n:=n) (L:=12) (D:=D) ((p.map tmOf).take i) [] 18 (fun t ht=>hok t (List.mem_of_mem_take ht)) (fun t ht=>by cases ht) List.Pairwise.nil).1
       exact hw _ ((p.map tmOf).take i).length this (by rw [List.length_take,htl];omega) t ht
     · rintro r st ⟨rfl,rfl⟩
       simp -dsimp only [go_sem]
def okPoly (n M:Nat) (D:Int) (p:List Mn):Prop:=V0r p n=true∧p.length≤M∧ ∀m∈p,okMn n 12 (18+M) D m
theorem q3a (l:List UInt64) (i k n M D:Nat) (st:Q0g) (h:atD st k l i) (hi:i≤800000000000) (hn:1≤n) (hn4:n≤4) (hM:M≤20) (hD:D≤8):PCalls Tryz.prog 48 [.gp k 0,.sc (.int .i64 n),.sc (.int .i64 M),.sc (.int .i64 D)] st
 (fun r st'=> ∃p j,okPoly n M D p∧i≤j∧j≤i+1+10*M∧r= .sl .no (J0w p)∧st'=st.set k (dk l j)):=by
 refine Q0b none Tryz.func48 rfl fun E=>Q0a ?_
 simp -dsimp only [go_sem]
 refine(K3k l i k n M D st h hi hn (by omega) hM hD).mono ?_
 rintro r st' ⟨p,j,hpl,hp,hj1,hj2,rfl,rfl⟩
 simp -dsimp only [go_sem]
 refine(Y2n p n D _ hn hn4 (by omega) (by omega) hp).mono ?_
 rintro r st' ⟨rfl,rfl⟩
 have hok: ∀t∈p.map tmOf,okT n 12 18 D t:=fun t ht=>by
  obtain⟨m,hm,rfl⟩:=List.mem_map.1 ht
  exact Q2t (hp m hm) (by omega)
 obtain⟨g1,g2,g3,g4⟩:=K2o (n:=n) (L:=12) (U:=18) (D:=D) (ts:=p.map tmOf) (by rw [List.length_map];omega) hn hn4 (by rw [List.length_map];omega) hok
 rw [List.length_map] at g3 g4
 generalize (q0n (gatT (p.map tmOf) []) []).1=P at*
 generalize (q0n (gatT (p.map tmOf) []) []).2=e at*
 simp -dsimp only [go_sem]
 exact⟨P,j,⟨g2,by omega,fun m hm=>by
  obtain⟨a1,a2,a3,a4,a5,a6⟩:=g3 m hm
  exact⟨a1,a2,a3,a4,a5,a6.up (by omega)⟩⟩,hj1,hj2,rfl,rfl⟩
def okField (n M:Nat) (D:Int) (f:List (List Mn)):Prop:=f.length=n∧ ∀p∈f,okPoly n M D p
theorem okField.right {n M:Nat} {D:Int} {f:List (List Mn)} (h:okField n M D f) (hn:1≤n) (hn4:n≤4):W0g f=true:=(H0n f).2 ⟨by rw [h.1];exact⟨hn,hn4⟩,fun i hi=>by
 rw [show f.getD i []=f[i] by simp [List.getD_eq_getElem?_getD,hi],h.1]
 exact(h.2 _ (List.getElem_mem hi)).1⟩
theorem V1d (l:List UInt64) (i k n M D:Nat) (st:Q0g) (h:atD st k l i) (hi:i≤700000000000) (hn:1≤n) (hn4:n≤4) (hM:M≤20) (hD:D≤8):PCalls Tryz.prog 18 [.gp k 0,.sc (.int .i64 n),.sc (.int .i64 M),.sc (.int .i64 D)] st
 (fun r st'=> ∃f j,okField n M D f∧i≤j∧j≤i+1000∧r= .sl .no (K0i f)∧st'=st.set k (dk l j)):=by
 refine Q0b none Tryz.func18 rfl fun E=>Q0a ?_
 simp -dsimp only [go_sem]
 refine Z0y 9 1 ?_
 simp -dsimp only [go_sem]
 refine Q0e [true,true,true,true,false,false,false,false,false,true,true] 0 1 (fun m s=> ∃(f:List (List Mn)) (j:Nat),m=n-f.length∧f.length≤n∧(∀p∈f,okPoly n M D p)∧i≤j∧j≤i+250*f.length∧
  s=⟨[.gp k 0,.sc (.int .i64 n),.sc (.int .i64 M),.sc (.int .i64 D),.junk,.junk,.junk,.junk,.junk,.sl (.own 0) (K0i f),.sc (.int .i64 (f.length:Nat))]++List.replicate 14 .junk,[],[(f.length,1)],st.set k (dk l j)⟩) n ?_ ?_
 · simp -dsimp only [go_sem]
   refine⟨[],i,by simp,by simp,(fun m hm=>by cases hm),by omega,by omega,?_⟩
   rw [h.same];rfl
 · rintro m s ⟨f,j,rfl,hf,hp,hj1,hj2,rfl⟩
   simp -dsimp only [go_sem]
   refine ck (fun h1=> ?_) (fun h1=> ?_)
   · have hlt:f.length<n:=by have:=of_decide_eq_true h1;omega
     have x2:=G0k f.length (by omega)
     simp -dsimp only [go_sem]
     refine(q3a l j k n M D _ (h.set j) (by omega) hn hn4 hM hD).mono ?_
     rintro r st' ⟨p,j',hpo,hj3,hj4,rfl,rfl⟩
     simp -dsimp only [go_sem,X0x,x2]
     refine⟨⟨by omega,by omega⟩,n-(f.length+1),by omega,f++ [p],j',by simp,by simp;omega,fun y hy=> ?_,by omega,by simp;omega,by simp⟩
     rcases List.mem_append.1 hy with hy | hy
     · exact hp y hy
     · rw [List.mem_singleton.1 hy];exact hpo
   · have hge:f.length=n:=by have:=of_decide_eq_false h1;omega
     simp -dsimp only [go_sem]
     refine J0u [false,false,false,false,false,false,false,false,false,true] (Q0a ?_)
     simp -dsimp only [go_sem]
     exact⟨f,j,⟨hge,hp⟩,by omega,by omega,rfl,rfl⟩
end Go.Pv
end
section
/-Layer 11:FieldDrawn,FieldHolds. -/
set_option maxRecDepth 100000
namespace Go.Pv
open Go.Proofs
theorem okPoly.at {n M:Nat} {D:Int} {p:List Mn} (h:okPoly n M D p) {j:Nat} (hj:j<p.length):okMn n 12 (18+M) D (p.getD j default):=z0w h.2.2 hj
theorem okField.at {n M:Nat} {D:Int} {f:List (List Mn)} (h:okField n M D f) {i:Nat} (hi:i<f.length):okPoly n M D (f.getD i []):=by
 rw [show f.getD i []=f[i] by simp [List.getD_eq_getElem?_getD,hi]]
 exact h.2 _ (List.getElem_mem hi)
theorem okField.wF {n M:Nat} {D:Int} {f:List (List Mn)} (h:okField n M D f) (hn4:n≤4) (hM:M≤20):wF f:=⟨by have:=h.1;omega,fun i hi=>⟨by have:=(h.at hi).2.1;omega,fun j hj=>by
 obtain⟨a1,a2,a3,a4,a5,a6⟩:=(h.at hi).at hj
 exact⟨Q0t a4,by rw [a1];omega,fun k hk=>by
  have:=U0t a2 k hk
  omega⟩⟩⟩
theorem z1w {n M:Nat} {D:Int} {q:List Mn} {b:List Ivl} {p:Int} {L U:Nat} (hq:okPoly n M D q) (hM:M≤24) (hl:b.length=n) (hn1:1≤n) (hn4:n≤4) (hb: ∀j,j<b.length→luI L U (b.getD j default)) (hp:Z0t p=true) (hbd:154+8*L+8*U≤4096):
 v0y q b p=J0c q b p q.length∧(J0c q b p q.length).2=0∧luI (12+L*8) (26+M+U*8+2*q.length) (J0c q b p q.length).1:=by
 have hlu:=z1x (q:=q) (b:=b) (p:=p) (Lc:=12) (Uc:=18+M) (L:=L) (U:=U) hp (fun j hj=>by
  obtain⟨a1,a2,a3,a4,a5,a6⟩:=hq.at hj
  exact⟨a4,a6,a2,by omega⟩) (by omega) hb (by have:=hq.2.1;omega) (by omega) q.length (Nat.le_refl _)
 refine⟨?_,hlu.1,hlu.2.mono (by omega) (by omega)⟩
 unfold v0y
 have hr:=hq.1
 rw [←hl] at hr
 rw [if_pos ⟨hr,List.all_eq_true.2 fun x hx=>by
  obtain⟨j,hj,e⟩:=List.mem_iff_getElem.1 hx
  have:=(hb j hj).1
  rw [show b.getD j default=b[j] by simp [List.getD_eq_getElem?_getD,hj],e] at this
  exact this,hp⟩]
theorem G1y {n M:Nat} {D:Int} {f:List (List Mn)} {b:List Ivl} {p:Int} {L U:Nat} (hf:okField n M D f) (hM:M≤24) (hl:b.length=n) (hn1:1≤n) (hn4:n≤4) (hb: ∀j,j<b.length→luI L U (b.getD j default)) (hp:Z0t p=true) (hbd:154+8*L+8*U≤4096):
 (J0o f b p).2=0∧(J0o f b p).1.length=n∧ ∀i,i<n→(J0o f b p).1.getD i default=(J0c (f.getD i []) b p (f.getD i []).length).1∧(J0c (f.getD i []) b p (f.getD i []).length).2=0∧luI (12+L*8) (26+M+U*8+2*M) (J0c (f.getD i []) b p (f.getD i []).length).1:=by
 have hfl:=hf.1
 have key: ∀i,i<n→_:=fun i hi=>z1w (hf.at (i:=i) (by omega)) hM hl hn1 hn4 hb hp hbd
 have h0:(tabF (fun i=>v0y (f.getD i []) b p) 0 f.length []).2=0:=x0m _ _ _ fun j _ hj=>by
  show(v0y (f.getD j []) b p).2=0
  rw [(key j (by omega)).1];exact(key j (by omega)).2.1
 obtain⟨g1,g2,g3⟩:=x0l h0
 unfold J0o
 rw [if_pos ⟨hf.right hn1 hn4,by omega⟩]
 refine⟨h0,by omega,fun i hi=> ?_⟩
 obtain⟨k1,k2,k3⟩:=key i hi
 refine⟨?_,k2,k3.mono (by omega) (by have:=(hf.at (i:=i) (by omega)).2.1;omega)⟩
 rw [g3 i (by omega)]
 show(v0y (f.getD i []) b p).1=_
 rw [k1]
end Go.Pv
end
