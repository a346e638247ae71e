/- Parts of the walk: N61, N62, N64. -/
import Derived.Test.YtagacielooaapaaGreatDoorZBF
import Derived.Test.YtagacielooaapaaGreatDoorZBM
import Derived.Test.YtagacielooaapaaGreatDoorZBI
import Derived.Test.YtagacielooaapaaGreatDoorZAM
import Derived.Test.YtagacielooaapaaGreatDoorZBJ
import Derived.Test.YtagacielooaapaaGreatDoorZAR
set_option linter.unusedVariables false
set_option linter.unusedSimpArgs false
section
/-The document's gather,for any terms. -/
set_option maxRecDepth 100000
namespace Go.Pv
open Go.Proofs
theorem k0v (O:List Tm): ∀i,i<(Z0k O).length→((Z0k O).getD i .junk).cells.length=4:=fun i hi=>by
 rw [K0s] at hi
 rw [y0g O i hi];rfl
theorem G0b (O:List Tm):(flat (Z0k O)).length=O.length*4:=by rw [J0w (k0v O),K0s]
theorem Z2u (O:List Tm) (R:List PV) (k m:Nat) (hk:k<O.length) (hm:m<4):(flat (Z0k O)++R).getD (k*4+m) .junk=(k0y (O.getD k default)).getD m .junk:=by
 have h:=G0b O
 rw [Q0s _ _ _ _ (by omega),q0a (k0v O) _ (by rw [K0s];omega),show(k*4+m)/4=k from by omega,show(k*4+m) % 4=m from by omega,y0g O k hk]
 rfl
theorem V2h (O:List Tm) (k:Nat):(flat (Z0k O)).drop (k*4)=flat (Z0k (O.drop k)):=by
 induction k generalizing O with
 | zero=>simp
 | succ k ih=>
  cases O with
  | nil=>simp [Z0k,flat]
  | cons o r=>
   have e:flat (Z0k (o::r))=k0y o++flat (Z0k r):=rfl
   rw [e,show(k+1)*4=4+k*4 from by omega,←List.drop_drop,List.drop_append_of_le_length (by simp [k0y]),show(k0y o).drop 4= [] from rfl,List.nil_append,ih r,List.drop_succ_cons]
theorem Y3r (O:List Tm) (R:List PV) (k:Nat) (hk:k<O.length):((flat (Z0k O)++R).drop (k*4)).take 3=encV (O.getD k default).v:=by
 have h:=G0b O
 rw [List.drop_append_of_le_length (by omega),V2h,show O.drop k=O.getD k default::O.drop (k+1) from Y1r O k hk]
 rfl
theorem H2x (O:List Tm) (R:List PV) (k:Nat) (v:Vl) (hk:k<O.length):over (flat (Z0k O)++R) (k*4) (encV v)=flat (Z0k (O.set k ⟨v,(O.getD k default).ks⟩))++R:=by
 have h:=G0b O
 induction k generalizing O with
 | zero=>
  cases O with
  | nil=>simp at hk
  | cons o r=>rfl
 | succ k ih=>
  cases O with
  | nil=>simp at hk
  | cons o r=>
   have e:flat (Z0k (o::r))=k0y o++flat (Z0k r):=rfl
   have ih':=ih r (by simpa using hk) (G0b r)
   have hl:(k0y o).length=4:=rfl
   have hget:(o::r).getD (k+1) default=r.getD k default:=rfl
   rw [hget,List.set_cons_succ,show flat (Z0k (o::r.set k ⟨v,(r.getD k default).ks⟩))=k0y o++flat (Z0k (r.set k ⟨v,(r.getD k default).ks⟩)) from rfl,e,List.append_assoc,List.append_assoc,←ih']
   unfold over
   rw [show(k+1)*4=4+k*4 from by omega,List.take_append,List.drop_append,hl,List.take_of_length_le (by rw [hl];omega),List.drop_of_length_le (by rw [hl];omega)]
   simp only [show 4+k*4-4=k*4 from by omega,show 4+k*4+(encV v).length-4=k*4+(encV v).length from by omega,List.nil_append,List.append_assoc]
theorem G0a (O:List Tm):(flat (Z0k O)).all PV.quiet=true:=by
 induction O with
 | nil=>rfl
 | cons o r ih=>
  have e:flat (Z0k (o::r))=k0y o++flat (Z0k r):=rfl
  rw [e,List.all_append,ih];rfl
theorem Y1l (O:List Tm) (R:List PV) (n:Nat) (hn:n=O.length):(flat (Z0k O)++R).take (n*4)=flat (Z0k O):=W2u (k0v O) (by rw [K0s];exact hn)
theorem Y1m (O X:List Tm) (R:List PV):flat (Z0k O)++(flat (Z0k X)++R)=flat (Z0k (O++X))++R:=by
 rw [←List.append_assoc,←w1k,q2k]
theorem x1u (O:List Tm):(flat (Z0k O)).map PV.forget2=flat (Z0k O):=by
 induction O with
 | nil=>rfl
 | cons o r ih=>
  have e:flat (Z0k (o::r))=k0y o++flat (Z0k r):=rfl
  rw [e,List.map_append,ih];rfl
theorem x1v (O:List Tm) (R:List PV):W0j 4 O.length (flat (Z0k O)++R)=Z0k O:=by
 have:=v0b (sz:=4) (ys:=Z0k O) R (fun y hy=>by
  unfold Z0k at hy
  obtain⟨t,_,rfl⟩:=List.mem_map.1 hy
  exact⟨rfl,rfl⟩)
 rw [K0s] at this
 exact this
theorem x1t (O:List Tm) (R:List PV):(flat (Z0k O)++R).map PV.forget2=flat (Z0k O)++R.map PV.forget2∧(O.length*4≤(flat (Z0k O)).length+(R.map PV.forget2).length)=True∧W0j 4 O.length (flat (Z0k O)++R.map PV.forget2)=Z0k O:=
 ⟨by rw [List.map_append,x1u],eq_true (by have:=G0b O;omega),x1v O _⟩
theorem U1s {O X:List Tm} {R:List PV} {cap n:Nat} {id:TypeId} (hn:n=O.length) (hc:n≤cap) (hR:R.length=(cap-n)*4) (hq:R.all PV.quiet=true) (hl:n+X.length≤1000):
 k1f (flat (Z0k O)++R) n cap (Z0k X) ⟨id,4,64,true,true,false⟩:=by
 have h1:=G0b O
 refine⟨rfl,by show 0<4;decide,by show _=cap*4;rw [List.length_append,h1,hR];omega,by rw [K0s];omega,by show(n+(Z0k X).length)*64≤_;rw [K0s];omega,Q3a X,by rw [List.all_append,G0a,hq];rfl,G0a X⟩
def V4n (O:List Tm) (cap:Nat) (R:List PV):Prop:=R.length=(cap-O.length)*4∧O.length≤cap∧R.all PV.quiet=true
set_option maxHeartbeats 4000000 in
theorem y2h (ts:List Tm) (st:Q0e) (hl:ts.length≤24) (hw: ∀i,i<ts.length→wK (ts.getD i default).ks∧smV (ts.getD i default).v)
 (hwT: ∀i,i≤ts.length→ ∀t∈gatT (ts.take i) [],wK t.ks∧smV t.v∧(Q0d t.v.m).length≤1000000000000):
 PCalls Tryz.prog 126 [.sl .no (Z0k ts)] st (fun r st'=>r= .tup [.sl .no (X0c (U0y (gatT ts []) []).1),.sc (.int .i64 (U0y (gatT ts []) []).2)]∧st'=st):=by
 refine Q0b none Tryz.func126 rfl fun E=>Q0a ?_
 simp -dsimp only [go_sem]
 refine z1i ?_
 refine Q1c 4 0 (by simp) (by rfl) ?_
 simp -dsimp only [go_sem]
 refine J0g [true,false,false,false,true,true] 1 0
  (fun c s=> ∃(i cap:Nat) (O:List Tm) (R:List PV),c=ts.length-i∧i≤ts.length∧O=gatT (ts.take i) []∧V4n O cap R∧s=⟨[.sl .no (Z0k ts),.junk,.junk,.junk,.mr 0 O.length cap,.sc (.int .i64 (i:Nat))]++List.replicate 122 .junk,[flat (Z0k O)++R],[],st⟩) ts.length ?_ ?_
 · simp -dsimp only [go_sem]
   exact⟨0,0,[],[],by omega,by omega,by simp [gatT],⟨rfl,Nat.le_refl _,rfl⟩,rfl⟩
 · rintro c s ⟨i,cap,O,R,rfl,hi,hO,hR,rfl⟩
   have hOl:O.length≤i:=by
    rw [hO]
    have: ∀(ts acc:List Tm),(gatT ts acc).length≤acc.length+ts.length:=by
     intro ts
     induction ts with
     | nil=>intro acc;exact Nat.le_refl _
     | cons t r ih=>
      intro acc
      have h1:=ih (insT t acc)
      have h2:=k0r t acc
      rw [gatT];simp only [List.length_cons];omega
    have h3:=this (ts.take i) []
    rw [List.length_take] at h3
    simp at h3;omega
   obtain⟨hR1,hR2,hR3⟩:=hR
   have hall:(flat (Z0k O)++R).all PV.quiet=true:=by rw [List.all_append,G0a,hR3];rfl
   have hlims:=W0m (a:=1) (b:=0) hall
   have hfl:=G0b O
   have hOw: ∀j,j<O.length→wK (O.getD j default).ks∧smV (O.getD j default).v∧(Q0d (O.getD j default).v.m).length≤1000000000000:=fun j hj=>by
    rw [show O.getD j default=O[j] by simp [List.getD_eq_getElem?_getD,hj]]
    exact hwT i hi _ (by rw [←hO];exact List.getElem_mem hj)
   have hnx:i<ts.length→gatT (ts.take (i+1)) []=insT (ts.getD i default) O:=fun h=>by rw [J2d ts i h,x1o,←hO]
   have hfin:i=ts.length→O=gatT ts []:=fun e=>by rw [hO,e,List.take_length]
   refine Q0v (Q0a ?_)
   simp -dsimp only [go_sem]
   refine ck (fun h'=> ?_) (fun h'=> ?_)
   · have hlt:i<ts.length:=by have:=of_decide_eq_true h';omega
     have e1:=y0g ts i hlt
     have e3:=j0m i (by omega)
     simp -dsimp only [go_sem]
     refine Q0v (Y0c (Q0v (Q0a ?_)))
     simp -dsimp only [go_sem]
     refine G0q [true,false,false,false,true,true,true] 1 0
      (fun s=> ∃k,k≤O.length∧(∀q,q<k→ordK (O.getD q default).ks (ts.getD i default).ks>0)∧(k<O.length→ ¬ordK (O.getD k default).ks (ts.getD i default).ks>0)∧s=⟨[.sl .no (Z0k ts),.junk,.junk,.junk,.mr 0 O.length cap,.sc (.int .i64 (i:Nat)),.sc (.int .i64 (k:Nat))]++List.replicate 121 .junk,[flat (Z0k O)++R],[],st⟩) ?_ ?_
     · simp -dsimp only [go_sem]
       refine Q0f [true,false,false,false,true,true,true] 1 0
        (fun c s=> ∃j,c=O.length-j∧j≤O.length∧(∀q,q<j→ordK (O.getD q default).ks (ts.getD i default).ks>0)∧s=⟨[.sl .no (Z0k ts),.junk,.junk,.junk,.mr 0 O.length cap,.sc (.int .i64 (i:Nat)),.sc (.int .i64 (j:Nat))]++List.replicate 121 .junk,[flat (Z0k O)++R],[],st⟩) O.length ?_ ?_
       · simp -dsimp only [go_sem]
         exact⟨hlims,0,by omega,by omega,fun q hq=>absurd hq (by omega),rfl⟩
       · rintro c s ⟨j,rfl,hj,hq,rfl⟩
         have f3:=j0m j (by omega)
         simp -dsimp only [go_sem]
         refine Q0l Z0x 128 (.step 0 [] (.step 1 [] (.step 2 [] (.step 3 [] (.step 4 [] (.step 5 [] (.step 6 [] (.step 7 [] (.step 8 [] (.step 9 [] (.step 10 [] (.step 11 [] (.step 12 [] (.step 13 [] (.step 14 [] (.step 15 [] (.step 16 [] (.step 17 [] (.done))))))))))))))))))) (by decide+kernel) (by simp) ?_
         simp -dsimp only [go_sem]
         refine gkT (fun h1=> ?_) (fun h1=> ?_)
         · have hlt2:j<O.length:=by have:=of_decide_eq_true h1;omega
           have e2:=Z2u O R j 3 hlt2 (by omega)
           simp -dsimp only [go_sem,h1,e1,e2]
           refine⟨⟨by omega,hlt2⟩,by omega,⟨by omega,by omega⟩,?_⟩
           refine(W1k (O.getD j default).ks (ts.getD i default).ks _ (hOw j hlt2).1 (hw i hlt).1).mono ?_
           rintro r st ⟨rfl,rfl⟩
           simp -dsimp only [go_sem,h1]
           refine ck (fun h2=> ?_) (fun h2=> ?_)
           · simp -dsimp only [go_sem,f3]
             exact⟨hlims,O.length-(j+1),by omega,j+1,rfl,by omega,fun q hq'=>by
              by_cases e:q=j
              · rw [e];exact of_decide_eq_true h2
              · exact hq q (by omega),rfl⟩
           · simp -dsimp only [go_sem]
             exact⟨hlims,j,by omega,hq,fun _=>of_decide_eq_false h2,rfl⟩
         · have hge:j=O.length:=by have:=of_decide_eq_false h1;omega
           subst hge
           simp -dsimp only [go_sem,h1]
           exact⟨hlims,O.length,by omega,hq,fun h=>absurd h (Nat.lt_irrefl _),rfl⟩
     · rintro s ⟨k,hk,hq,hnq,rfl⟩
       refine G0q [true,false,false,false,true,true,true] 1 0
        (fun s=>insT (ts.getD i default) O=O.take k++ts.getD i default::O.drop k∧s=⟨[.sl .no (Z0k ts),.junk,.junk,.junk,.mr 0 O.length cap,.sc (.int .i64 (i:Nat)),.sc (.int .i64 (k:Nat))]++List.replicate 121 .junk,[flat (Z0k O)++R],[],st⟩) ?_ ?_
       rotate_left
       · rintro s ⟨hs,rfl⟩
         clear hq hnq
         obtain⟨f1,f2,f3⟩:=x1t O R
         refine k0i 0 4 (by simp only [U0z];exact U1w hall) ?_
         generalize R.map PV.forget2=R' at f1 f2 f3
         simp -dsimp only [go_sem,f1,f2,f3]
         refine Q0v (Q0a ?_)
         simp -dsimp only [go_sem]
         refine Q1c 7 0 (by simp) (by rfl) ?_
         simp -dsimp only [go_sem]
         refine Q0v ?_
         refine X1c [false,false,false,false,true,false] ?_
         have hA:(O.take k).length=k:=by rw [List.length_take];omega
         have hB:(O.drop k).length=O.length-k:=List.length_drop
         simp -dsimp only [go_sem]
         have hOO:O.take O.length=O:=List.take_length
         generalize O.take k=A at*
         generalize hBe:O.drop k=B at*
         refine⟨⟨⟨by omega,by omega⟩,by omega⟩,U1s (O:= []) rfl (by omega) rfl rfl (by omega),?_⟩
         intro c1 R1 g1 g2 g3
         have t1:=Y1l A R1 A.length rfl
         refine Q0v ?_
         refine X1c [false,false,false,false,false,false,true,false] ?_
         have hone: [PV.agg [.sc (.bool (ts.getD i default).v.neg),.sl .no (encD (Q0d (ts.getD i default).v.m)),.sc (.int .i64 (ts.getD i default).v.e),.sl .no (encZ (ts.getD i default).ks)]]=Z0k [ts.getD i default]:=rfl
         simp -dsimp only [go_sem,e1,hone,t1,Y1m]
         refine⟨⟨by omega,by omega⟩,U1s rfl g1 g2 g3 (by show A.length+1≤1000;omega),?_⟩
         intro c2 R2 k1 k2 k3
         have hA2:(A++ [ts.getD i default]).length=A.length+1:=by simp
         generalize hA3:A++ [ts.getD i default]=A2 at*
         have t2:=Y1l A2 R2 (A.length+1) hA2.symm
         refine X1c [false,false,false,false,true,false] ?_
         simp -dsimp only [go_sem,hOO,hBe,t2,Y1m]
         refine⟨⟨⟨by omega,by omega⟩,by omega⟩,U1s hA2.symm k1 k2 k3 (by omega),?_⟩
         intro c3 R3 l1 l2 l3
         have hall2:(flat (Z0k (A2++B))++R3).all PV.quiet=true:=by rw [List.all_append,G0a,l3];rfl
         have hl2:(A2++B).length=A.length+1+B.length:=by rw [List.length_append,hA2]
         refine Q0a ?_
         simp -dsimp only [go_sem,e3]
         exact⟨W0m hall2,ts.length-(i+1),by omega,i+1,c3,A2++B,R3,rfl,by omega,by rw [hnx hlt,hs,←hA3];simp,⟨by rw [hl2];exact l2,by rw [hl2];exact l1,l3⟩,by rw [hl2]⟩
       simp -dsimp only [go_sem]
       refine Q0l Z0x 128 (.step 0 [] (.step 1 [] (.step 2 [] (.step 3 [] (.step 4 [] (.step 5 [] (.step 6 [] (.step 7 [] (.step 8 [] (.step 9 [] (.step 10 [] (.step 11 [] (.step 12 [] (.step 13 [] (.step 14 [] (.step 15 [] (.step 16 [] (.step 17 [] (.done))))))))))))))))))) (by decide+kernel) (by simp) ?_
       simp -dsimp only [go_sem]
       refine gkT (fun h1=> ?_) (fun h1=> ?_)
       · have hlt2:k<O.length:=by have:=of_decide_eq_true h1;omega
         have e2:=Z2u O R k 3 hlt2 (by omega)
         simp -dsimp only [go_sem,h1,e1,e2]
         refine⟨⟨by omega,hlt2⟩,by omega,⟨by omega,by omega⟩,?_⟩
         refine(W1k (O.getD k default).ks (ts.getD i default).ks _ (hOw k hlt2).1 (hw i hlt).1).mono ?_
         rintro r st ⟨rfl,rfl⟩
         simp -dsimp only [go_sem,h1]
         refine ck (fun h2=> ?_) (fun h2=> ?_)
         · have hz:ordK (O.getD k default).ks (ts.getD i default).ks=0:=X1o h2
           have e4:=Y3r O R k hlt2
           simp -dsimp only [go_sem]
           refine Q0l Z0x 128 (.step 0 [] (.step 1 [] (.step 2 [] (.step 3 [] (.step 4 [] (.step 5 [] (.step 6 [] (.step 7 [] (.step 8 [] (.step 9 [] (.step 10 [] (.step 11 [] (.step 12 [] (.step 13 [] (.step 14 [] (.step 15 [] (.done))))))))))))))))) (by decide+kernel) (by simp) ?_
           simp -dsimp only [go_sem,e1,e4]
           refine⟨⟨by omega,hlt2⟩,by omega,⟨by omega,by omega⟩,?_⟩
           refine(W1u (O.getD k default).v (ts.getD i default).v _ (hOw k hlt2).2.1 (hw i hlt).2).mono ?_
           rintro r st ⟨rfl,rfl⟩
           have e5:=H2x O R k (K0o (O.getD k default).v (ts.getD i default).v) hlt2
           unfold encV at e5
           simp -dsimp only [go_sem,e5]
           have hs:insT (ts.getD i default) O=O.set k ⟨K0o (O.getD k default).v (ts.getD i default).v,(O.getD k default).ks⟩:=H2n hlt2 hq hz
           have hall2:(flat (Z0k (O.set k ⟨K0o (O.getD k default).v (ts.getD i default).v,(O.getD k default).ks⟩))++R).all PV.quiet=true:=by rw [List.all_append,G0a,hR3];rfl
           refine⟨⟨by omega,hlt2⟩,⟨by omega,by omega⟩,Q0a ?_⟩
           simp -dsimp only [go_sem,e3]
           exact⟨W0m hall2,ts.length-(i+1),by omega,i+1,cap,_,R,rfl,by omega,by rw [hnx hlt,hs],⟨by rw [List.length_set];exact hR1,by rw [List.length_set];exact hR2,hR3⟩,by rw [List.length_set]⟩
         · have hne:=H1u h2
           have hs:insT (ts.getD i default) O=O.take k++ts.getD i default::O.drop k:=H2o hlt2 hq (hnq hlt2) hne
           simp -dsimp only [go_sem]
           exact⟨hlims,hs⟩
       · have hge:k=O.length:=by have:=of_decide_eq_false h1;omega
         have hs:insT (ts.getD i default) O=O.take k++ts.getD i default::O.drop k:=by
          rw [w2x (by rw [←hge];exact hq),hge,List.take_length,List.drop_length]
         simp -dsimp only [go_sem,h1]
         exact⟨hlims,hs⟩
   · have hge:i=ts.length:=by have:=of_decide_eq_false h';omega
     have hO2:=hfin hge
     subst hO2
     have hO24:(gatT ts []).length≤24:=by omega
     clear hlims hnx hfin hge h' hi
     obtain⟨f1,f2,f3⟩:=x1t (gatT ts []) R
     generalize gatT ts []=O at*
     simp -dsimp only [go_sem]
     refine k0i 0 4 (by simp only [U0z];exact U1w hall) ?_
     generalize R.map PV.forget2=R' at f1 f2 f3
     simp -dsimp only [go_sem,f1,f2,f3]
     refine Q0a ?_
     simp -dsimp only [go_sem]
     refine X0y 8 4 ?_
     simp -dsimp only [go_sem]
     refine Q0f [false,false,false,false,true,false,false,false,true,true] 0 1
      (fun c s=> ∃(j:Nat) (o:List Mn),c=O.length-j∧j≤O.length∧o.length≤j∧U0y O []=U0y (O.drop j) o∧
       s=⟨[.junk,.junk,.junk,.junk,.sl .no (Z0k O),.junk,.junk,.junk,.sl (.own 0) (X0c o),.sc (.int .i64 (j:Nat))]++List.replicate 118 .junk,[],[(o.length,4)],st⟩) O.length ?_ ?_
     · simp -dsimp only [go_sem]
       exact⟨0,[],by omega,by omega,by simp,rfl,rfl⟩
     · rintro c s ⟨j,o,rfl,hj,ho,hr,rfl⟩
       simp -dsimp only [go_sem]
       refine ck (fun h1=> ?_) (fun h1=> ?_)
       · have hlt:j<O.length:=by have:=of_decide_eq_true h1;omega
         have e1:=y0g O j hlt
         have e3:=j0m j (by omega)
         obtain⟨w1,_,w2⟩:=hOw j hlt
         have w3:=w1.1
         rw [Y1r O j hlt,U0y] at hr
         simp -dsimp only [go_sem,e1]
         refine⟨by omega,?_⟩
         refine(U1p (O.getD j default).v _).mono ?_
         rintro r st ⟨rfl,rfl⟩
         simp -dsimp only [go_sem]
         refine ck (fun h2=> ?_) (fun h2=> ?_)
         · rw [if_pos (X1o h2)] at hr
           simp -dsimp only [go_sem,e3]
           exact⟨O.length-(j+1),by omega,j+1,o,rfl,by omega,by omega,hr,rfl⟩
         · rw [if_neg (H1u h2)] at hr
           simp -dsimp only [go_sem,e1]
           refine⟨by omega,?_⟩
           refine(W2n (O.getD j default).v _ w2).mono ?_
           rintro r st ⟨rfl,rfl⟩
           simp -dsimp only [go_sem]
           refine ck (fun h3=> ?_) (fun h3=> ?_)
           · rw [if_pos (V0p h3)] at hr
             simp -dsimp only [go_sem]
             rw [hr];rfl
           · rw [if_neg (by rw [W0y h3];decide)] at hr
             simp -dsimp only [go_sem]
             refine Q0l Z0x 128 (.step 0 [] (.step 1 [] (.step 2 [] (.step 3 [] (.step 4 [] (.step 5 [] (.step 6 [] (.step 7 [] (.step 8 [1] (.step 9 [] (.step 10 [] (.step 11 [] (.step 12 [] (.done)))))))))))))) (by decide+kernel) (by simp) ?_
             simp -dsimp only [go_sem,e1,e3]
             refine⟨by omega,⟨by omega,by omega⟩,⟨by omega,by omega⟩,O.length-(j+1),by omega,j+1,o++ [⟨(numV (O.getD j default).v).1,(O.getD j default).ks⟩],rfl,by omega,by simp;omega,hr,?_⟩
             simp [X0c,j0r]
       · have hge:j=O.length:=by have:=of_decide_eq_false h1;omega
         subst hge
         rw [List.drop_length,U0y] at hr
         have z1:decide ((o.length:Int)>24)=false:=decide_eq_false (by omega)
         simp -dsimp only [go_sem]
         refine V0c [false,false,false,false,false,false,false,false,true] (Q0a ?_)
         simp -dsimp only [go_sem,z1]
         rw [hr]
end Go.Pv
end
section
/-The document's Make;the deck's powers,monomials,polynomials,fields. -/
set_option maxRecDepth 100000
namespace Go.Pv
open Go.Proofs
theorem W2x (ks:List Int) (j:Nat) (x:Int) (hj:j<ks.length):(ks.set j x).sum=ks.sum-ks.getD j 0+x:=by
 induction ks generalizing j with
 | nil=>simp at hj
 | cons k r ih=>
  cases j with
  | zero=>simp;omega
  | succ j=>
   have:=ih j (by simpa using hj)
   simp only [List.set_cons_succ,List.sum_cons,List.getD_cons_succ,this];omega
def okKs (n:Nat) (D:Int) (ks:List Int):Prop:=ks.length=n∧(∀j,j<n→0≤ks.getD j 0)∧ks.sum≤D
theorem okKs.right {n:Nat} {D:Int} {ks:List Int} (h:okKs n D ks) (hD:D≤8):K0a ks=true:=(J0m ks).2 ⟨fun j hj=>h.2.1 j (by rw [←h.1];exact hj),by have:=h.2.2;omega⟩
theorem okKs.wK {n:Nat} {D:Int} {ks:List Int} (h:okKs n D ks) (hD:D≤8) (hn:n≤1000):wK ks:=⟨by rw [h.1];omega,fun i hi=>by
 have:=V0b (h.right hD) i hi
 omega⟩
theorem repZ (n:Nat):List.replicate n (PV.sc (.int .i64 0))=encZ (List.replicate n 0):=by simp [encZ]
theorem Z2y (T:List Int) (q:Nat) (c:Int) (h:q<T.length):over (encZ T) q [.sc (.int .i64 c)]=encZ (T.set q c):=by
 have:=W3i 0 T q c h
 simpa using this
theorem K3x (n:Nat):(List.replicate n (0:Int)).sum=0:=by
 induction n with
 | zero=>rfl
 | succ n ih=>rw [List.replicate_succ,List.sum_cons,ih];rfl
def K2o (n:Nat) (D:Int) (m:Mn):Prop:=okKs n D m.ks∧smN m.c
def tmOf (m:Mn):Tm:=⟨ofN m.c,m.ks⟩
theorem Z2a {n:Nat} {D:Int} {m:Mn} (h:K2o n D m) (hD:D≤8):okT n 12 18 D (tmOf m):=
 ⟨h.1.1,h.1.right hD,h.1.2.2,X0g h.2.1,x1d h.2.2⟩
theorem K2n {n:Nat} {D:Int} {m:Mn} (h:K2o n D m) (hD:D≤8):W0h m n=true:=(z0z _ _).2 ⟨by have:=h.1.1;omega,h.1.right hD,h.2.1⟩
theorem x3y {n L U:Nat} {D:Int} {t:Tm} (h:okT n L U D t) (hn:n≤4):wK t.ks:=⟨by rw [h.1];omega,fun i hi=>by
 have:=V0b h.2.1 i hi
 omega⟩
theorem W3e {n L U:Nat} {D:Int} {t:Tm} (h:okT n L U D t) (hb:L+U≤4000):smV t.v∧(Q0d t.v.m).length≤1000000000000:=by
 have:=Z2l h.2.2.2.1 h.2.2.2.2
 refine⟨⟨by have:=this.1;omega,by have:=this.2.1;omega,by have:=this.2.2;omega⟩,U1b this (by omega)⟩
theorem x0f {α:Type} [Inhabited α] {l:List α} {P:α→Prop} (h: ∀x∈l,P x) {i:Nat} (hi:i<l.length):P (l.getD i default):=by
 rw [show l.getD i default=l[i] by simp [List.getD_eq_getElem?_getD,hi]]
 exact h _ (List.getElem_mem hi)
set_option maxHeartbeats 4000000 in
theorem Y2u (p:List Mn) (n:Nat) (D:Int) (st:Q0e) (hn:1≤n) (hn4:n≤4) (hl:p.length≤24) (hD:D≤8) (hp: ∀m∈p,K2o n D m):PCalls Tryz.prog 64 [.sl .no (X0c p),.sc (.int .i64 n)] st
 (fun r st'=>r= .tup [.sl .no (X0c (U0y (gatT (p.map tmOf) []) []).1),.sc (.int .i64 (U0y (gatT (p.map tmOf) []) []).2)]∧st'=st):=by
 have hok: ∀t∈p.map tmOf,okT n 12 18 D t:=fun t ht=>by
  obtain⟨m,hm,rfl⟩:=List.mem_map.1 ht
  exact Z2a (hp m hm) hD
 refine Q0b none Tryz.func64 rfl fun E=>Q0a ?_
 simp -dsimp only [go_sem]
 have d1:decide ((n:Int)<1)=false:=decide_eq_false (by omega)
 have d2:decide ((n:Int)>4)=false:=decide_eq_false (by omega)
 simp -dsimp only [go_sem,d1,d2]
 refine X0y 6 4 ?_
 simp -dsimp only [go_sem]
 refine Q0f [true,true,false,false,false,false,true,true] 0 1 (fun c s=> ∃i,c=p.length-i∧i≤p.length∧
  s=⟨[.sl .no (X0c p),.sc (.int .i64 n),.junk,.junk,.junk,.junk,.sl (.own 0) (Z0k ((p.take i).map tmOf)),.sc (.int .i64 (i:Nat))]++List.replicate 38 .junk,[],[(i,4)],st⟩) p.length ?_ ?_
 · simp -dsimp only [go_sem]
   exact⟨0,by omega,by omega,rfl⟩
 · rintro c s ⟨i,rfl,hi,rfl⟩
   have htl:((p.take i).map tmOf).length=i:=by rw [List.length_map,List.length_take];omega
   simp -dsimp only [go_sem]
   refine ck (fun h1=> ?_) (fun h1=> ?_)
   · have hlt:i<p.length:=by have:=of_decide_eq_true h1;omega
     have e1:=x0h p i hlt
     have e3:=j0m i (by omega)
     have hm:=x0f hp hlt
     have hsn2:(p.take (i+1)).map tmOf=(p.take i).map tmOf++ [tmOf (p.getD i default)]:=by
      rw [List.take_add_one,List.map_append,List.getElem?_eq_getElem hlt]
      simp [List.getD_eq_getElem?_getD,hlt]
     have hwm:wMn (p.getD i default):=⟨V0a hm.2.1,hm.1.wK hD (by omega)⟩
     simp -dsimp only [go_sem,e1]
     refine⟨by omega,?_⟩
     refine(Y2t (p.getD i default) n _ hwm (by omega)).mono ?_
     rintro r st ⟨rfl,rfl⟩
     rw [K2n hm hD]
     simp -dsimp only [go_sem,Bool.not_true]
     refine Q0l Z0x 46 (.step 0 [] (.step 1 [] (.step 2 [] (.step 3 [] (.step 4 [] (.step 5 [] (.step 7 [] (.step 8 [] (.step 9 [] (.step 10 [] (.step 11 [] (.step 6 [11] (.step 12 [] (.step 13 [] (.step 14 [] (.step 15 [] (.done))))))))))))))))) (by decide+kernel) (by simp) ?_
     generalize hT:(p.take i).map tmOf=T at*
     simp -dsimp only [go_sem,e1]
     refine⟨⟨by omega,by omega⟩,⟨by omega,by omega⟩,?_⟩
     refine(of_c (p.getD i default).c _ (by have:=V0a hm.2.1;unfold wN at this;omega)).mono ?_
     rintro r st ⟨rfl,rfl⟩
     have hsn:Z0k T++ [PV.agg [.sc (.bool (ofN (p.getD i default).c).neg),.sl .no (encD (Q0d (ofN (p.getD i default).c).m)),.sc (.int .i64 (ofN (p.getD i default).c).e),.sl .no (encZ (p.getD i default).ks)]]=Z0k (T++ [tmOf (p.getD i default)]):=V2k T (tmOf (p.getD i default))
     simp -dsimp only [go_sem,e1,e3,hsn,htl]
     exact⟨⟨by omega,by omega⟩,p.length-(i+1),by omega,i+1,rfl,by omega,by rw [hsn2]⟩
   · have hge:i=p.length:=by have:=of_decide_eq_false h1;omega
     subst hge
     have hfull:p.take p.length=p:=List.take_length
     rw [hfull] at htl
     simp -dsimp only [go_sem,hfull]
     refine V0c [false,false,false,false,false,false,true] (Q0a ?_)
     simp -dsimp only [go_sem]
     have hw: ∀(T:List Tm) (i:Nat),(∀t∈T,okT n 12 (18+i) D t)→i≤100→ ∀t∈T,wK t.ks∧smV t.v∧(Q0d t.v.m).length≤1000000000000:=fun T i hT hi t ht=>by
      have:=W3e (hT t ht) (by omega)
      exact⟨x3y (hT t ht) hn4,this.1,this.2⟩
     refine(y2h (p.map tmOf) _ (by rw [htl];exact hl) (fun i hi=> ?_) (fun i hi t ht=> ?_)).mono ?_
     · have:=hw (p.map tmOf) 0 hok (by omega)
       exact⟨(x0f (P:=fun t=>wK t.ks) (fun t ht=>(this t ht).1) hi),(x0f (P:=fun t=>smV t.v) (fun t ht=>(this t ht).2.1) hi)⟩
     · have:=(w1i (n:=n) (L:=12) (D:=D) ((p.map tmOf).take i) [] 18 (fun t ht=>hok t (List.mem_of_mem_take ht)) (fun t ht=>by cases ht) List.Pairwise.nil).1
       exact hw _ ((p.map tmOf).take i).length this (by rw [List.length_take,htl];omega) t ht
     · rintro r st ⟨rfl,rfl⟩
       simp -dsimp only [go_sem]
def okPoly (n M:Nat) (D:Int) (p:List Mn):Prop:=J0z p n=true∧p.length≤M∧ ∀m∈p,okMn n 12 (18+M) D m
def okField (n M:Nat) (D:Int) (f:List (List Mn)):Prop:=f.length=n∧ ∀p∈f,okPoly n M D p
theorem okField.right {n M:Nat} {D:Int} {f:List (List Mn)} (h:okField n M D f) (hn:1≤n) (hn4:n≤4):V0z f=true:=(U0a f).2 ⟨by rw [h.1];exact⟨hn,hn4⟩,fun i hi=>by
 rw [show f.getD i []=f[i] by simp [List.getD_eq_getElem?_getD,hi],h.1]
 exact(h.2 _ (List.getElem_mem hi)).1⟩
end Go.Pv
end
section
/-Layer 11:FieldDrawn,FieldHolds. -/
set_option maxRecDepth 100000
namespace Go.Pv
open Go.Proofs
theorem okPoly.at {n M:Nat} {D:Int} {p:List Mn} (h:okPoly n M D p) {j:Nat} (hj:j<p.length):okMn n 12 (18+M) D (p.getD j default):=x0f h.2.2 hj
theorem okField.at {n M:Nat} {D:Int} {f:List (List Mn)} (h:okField n M D f) {i:Nat} (hi:i<f.length):okPoly n M D (f.getD i []):=by
 rw [show f.getD i []=f[i] by simp [List.getD_eq_getElem?_getD,hi]]
 exact h.2 _ (List.getElem_mem hi)
theorem okField.wF {n M:Nat} {D:Int} {f:List (List Mn)} (h:okField n M D f) (hn4:n≤4) (hM:M≤20):wF f:=⟨by have:=h.1;omega,fun i hi=>⟨by have:=(h.at hi).2.1;omega,fun j hj=>by
 obtain⟨a1,a2,a3,a4,a5,a6⟩:=(h.at hi).at hj
 exact⟨V0a a4,by rw [a1];omega,fun k hk=>by
  have:=V0b a2 k hk
  omega⟩⟩⟩
theorem x3a {b:List Ivl} {n:Nat} (hl:b.length=n) (hn4:n≤4) (h: ∀m,m<b.length→smI (b.getD m default)):wB b:=⟨by omega,fun i hi=>U1g (h i hi).1⟩
theorem W4q {b:List Ivl} {q:List Nm} (hb: ∀m,m<b.length→smI (b.getD m default)) (hq: ∀j,j<b.length→ ∃n,n≤8∧q.getD j default=inN (b.getD j default) n): ∀j,j<b.length→Q0g (q.getD j default)=true∧memI (qN (q.getD j default)) (b.getD j default)∧luQ 62 105 (qN (q.getD j default)):=fun j hj=>by
 obtain⟨n,hn,e⟩:=hq j hj
 rw [e];exact V4v (hb j hj) hn
theorem z1c {n M:Nat} {D:Int} {q:List Mn} {b:List Ivl} {p:Int} {L U:Nat} (hq:okPoly n M D q) (hM:M≤24) (hl:b.length=n) (hn1:1≤n) (hn4:n≤4) (hb: ∀j,j<b.length→luI L U (b.getD j default)) (hp:Z0l p=true) (hbd:154+8*L+8*U≤4096):
 K0z q b p=Z0a q b p q.length∧(Z0a q b p q.length).2=0∧luI (12+L*8) (26+M+U*8+2*q.length) (Z0a q b p q.length).1:=by
 have hlu:=z1e (q:=q) (b:=b) (p:=p) (Lc:=12) (Uc:=18+M) (L:=L) (U:=U) hp (fun j hj=>by
  obtain⟨a1,a2,a3,a4,a5,a6⟩:=hq.at hj
  exact⟨a4,a6,a2,by omega⟩) (by omega) hb (by have:=hq.2.1;omega) (by omega) q.length (Nat.le_refl _)
 refine⟨?_,hlu.1,hlu.2.mono (by omega) (by omega)⟩
 unfold K0z
 have hr:=hq.1
 rw [←hl] at hr
 rw [if_pos ⟨hr,List.all_eq_true.2 fun x hx=>by
  obtain⟨j,hj,e⟩:=List.mem_iff_getElem.1 hx
  have:=(hb j hj).1
  rw [show b.getD j default=b[j] by simp [List.getD_eq_getElem?_getD,hj],e] at this
  exact this,hp⟩]
theorem U1u {n M:Nat} {D:Int} {f:List (List Mn)} {b:List Ivl} {p:Int} {L U:Nat} (hf:okField n M D f) (hM:M≤24) (hl:b.length=n) (hn1:1≤n) (hn4:n≤4) (hb: ∀j,j<b.length→luI L U (b.getD j default)) (hp:Z0l p=true) (hbd:154+8*L+8*U≤4096):
 (Z0p f b p).2=0∧(Z0p f b p).1.length=n∧ ∀i,i<n→(Z0p f b p).1.getD i default=(Z0a (f.getD i []) b p (f.getD i []).length).1∧(Z0a (f.getD i []) b p (f.getD i []).length).2=0∧luI (12+L*8) (26+M+U*8+2*M) (Z0a (f.getD i []) b p (f.getD i []).length).1:=by
 have hfl:=hf.1
 have key: ∀i,i<n→_:=fun i hi=>z1c (hf.at (i:=i) (by omega)) hM hl hn1 hn4 hb hp hbd
 have h0:(tabF (fun i=>K0z (f.getD i []) b p) 0 f.length []).2=0:=x0u _ _ _ fun j _ hj=>by
  show(K0z (f.getD j []) b p).2=0
  rw [(key j (by omega)).1];exact(key j (by omega)).2.1
 obtain⟨g1,g2,g3⟩:=x0t h0
 unfold Z0p
 rw [if_pos ⟨hf.right hn1 hn4,by omega⟩]
 refine⟨h0,by omega,fun i hi=> ?_⟩
 obtain⟨k1,k2,k3⟩:=key i hi
 refine⟨?_,k2,k3.mono (by omega) (by have:=(hf.at (i:=i) (by omega)).2.1;omega)⟩
 rw [g3 i (by omega)]
 show(K0z (f.getD i []) b p).1=_
 rw [k1]
end Go.Pv
end
