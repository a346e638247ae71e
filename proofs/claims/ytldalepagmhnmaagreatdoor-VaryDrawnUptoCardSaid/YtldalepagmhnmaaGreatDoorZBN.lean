/- Parts of the walk: N61, N62, N64, N65. -/
import Derived.Test.YtldalepagmhnmaaGreatDoorZBG
import Derived.Test.YtldalepagmhnmaaGreatDoorZBI
set_option linter.unusedVariables false
set_option linter.unusedSimpArgs false
section
set_option maxRecDepth 100000
namespace Go.Pv
open Go.Proofs
theorem v0d (O:List Tm): ∀i,i<(Z0d O).length->((Z0d O).getD i .junk).cells.length=4:=fun i hi=>by rw[V0n] at hi;rw[G0t O i hi];rfl
theorem G0s (O:List Tm):(flat (Z0d O)).length=O.length*4:=by rw[X0z (v0d O),V0n]
theorem y1z (O:List Tm)(R:List PV)(k m:Nat)(hk:k<O.length)(hm:m<4):(flat (Z0d O)++R).getD (k*4+m) .junk=(j0y (O.getD k default)).getD m .junk:=by have h:=G0s O;rw[Q0k _ _ _ _ (by omega),Y0c (v0d O) _ (by rw[V0n];omega),show(k*4+m)/4=k from by omega,show(k*4+m) % 4=m from by omega,G0t O k hk];rfl
theorem J2q (O:List Tm)(k:Nat):(flat (Z0d O)).drop (k*4)=flat (Z0d (O.drop k)):=by
 induction k generalizing O with
 | zero=>simp
 | succ k ih=>
  cases O with
  | nil=>simp[Z0d,flat]
  | cons o r=>
   have e:flat (Z0d (o::r))=j0y o++flat (Z0d r):=rfl;rw[e,show(k+1)*4=4+k*4 from by omega,<-List.drop_drop,List.drop_append_of_le_length (by simp[j0y]),show(j0y o).drop 4= [] from rfl,List.nil_append,ih r,List.drop_succ_cons]
theorem V3x (O:List Tm)(R:List PV)(k:Nat)(hk:k<O.length):((flat (Z0d O)++R).drop (k*4)).take 3=encV (O.getD k default).v:=by have h:=G0s O;rw[List.drop_append_of_le_length (by omega),J2q,show O.drop k=O.getD k default::O.drop (k+1) from Q1n O k hk];rfl
theorem G2r (O:List Tm)(R:List PV)(k:Nat)(v:Vl)(hk:k<O.length):over (flat (Z0d O)++R) (k*4) (encV v)=flat (Z0d (O.set k ⟨v,(O.getD k default).ks⟩))++R:=by
 have h:=G0s O
 induction k generalizing O with
 | zero=>
  cases O with
  | nil=>simp at hk
  | cons o r=>rfl
 | succ k ih=>
  cases O with
  | nil=>simp at hk
  | cons o r=>
   have e:flat (Z0d (o::r))=j0y o++flat (Z0d r):=rfl;have ih':=ih r (by simpa using hk) (G0s r);have hl:(j0y o).length=4:=rfl;have hget:(o::r).getD (k+1) default=r.getD k default:=rfl;rw[hget,List.set_cons_succ,show flat (Z0d (o::r.set k ⟨v,(r.getD k default).ks⟩))=j0y o++flat (Z0d (r.set k ⟨v,(r.getD k default).ks⟩)) from rfl,e,List.append_assoc,List.append_assoc,<-ih'];unfold over;rw[show(k+1)*4=4+k*4 from by omega,List.take_append,List.drop_append,hl,List.take_of_length_le (by rw[hl];omega),List.drop_of_length_le (by rw[hl];omega)];simp only[show 4+k*4-4=k*4 from by omega,show 4+k*4+(encV v).length-4=k*4+(encV v).length from by omega,List.nil_append,List.append_assoc]
theorem G0r (O:List Tm):(flat (Z0d O)).all PV.quiet=true:=by
 induction O with
 | nil=>rfl
 | cons o r ih=>
  have e:flat (Z0d (o::r))=j0y o++flat (Z0d r):=rfl;rw[e,List.all_append,ih];rfl
theorem Y1b (O:List Tm)(R:List PV)(n:Nat)(hn:n=O.length):(flat (Z0d O)++R).take (n*4)=flat (Z0d O):=V2i (v0d O) (by rw[V0n];exact hn)
theorem Y1c (O X:List Tm)(R:List PV):flat (Z0d O)++(flat (Z0d X)++R)=flat (Z0d (O++X))++R:=by rw[<-List.append_assoc,<-K1e,H2h]
theorem z1j (O:List Tm):(flat (Z0d O)).map PV.forget2=flat (Z0d O):=by
 induction O with
 | nil=>rfl
 | cons o r ih=>
  have e:flat (Z0d (o::r))=j0y o++flat (Z0d r):=rfl;rw[e,List.map_append,ih];rfl
theorem z1k (O:List Tm)(R:List PV):Y0j 4 O.length (flat (Z0d O)++R)=Z0d O:=by have:=z0b (sz:=4) (ys:=Z0d O) R (fun y hy=>by unfold Z0d at hy;obtain⟨t,_,rfl⟩:=List.mem_map.1 hy;exact⟨rfl,rfl⟩);rw[V0n] at this;exact this
theorem z1i (O:List Tm)(R:List PV):(flat (Z0d O)++R).map PV.forget2=flat (Z0d O)++R.map PV.forget2/\(O.length*4<=(flat (Z0d O)).length+(R.map PV.forget2).length)=True/\Y0j 4 O.length (flat (Z0d O)++R.map PV.forget2)=Z0d O:=
 ⟨by rw[List.map_append,z1j],eq_true (by have:=G0s O;omega),z1k O _⟩
theorem U1m {O X:List Tm}{R:List PV}{cap n:Nat}{id:TypeId}(hn:n=O.length)(hc:n<=cap)(hR:R.length=(cap-n)*4)(hq:R.all PV.quiet=true)(hl:n+X.length<=1000):
 Y1y (flat (Z0d O)++R) n cap (Z0d X) ⟨id,4,64,true,true,false⟩:=by
 have h1:=G0s O;refine⟨rfl,by show 0<4;decide,by show _=cap*4;rw[List.length_append,h1,hR];omega,by rw[V0n];omega,by show(n+(Z0d X).length)*64<=_;rw[V0n];omega,y2e X,by rw[List.all_append,G0r,hq];rfl,G0r X⟩
def X4e (O:List Tm)(cap:Nat)(R:List PV):Prop:=R.length=(cap-O.length)*4/\O.length<=cap/\R.all PV.quiet=true
set_option maxHeartbeats 4000000 in
theorem w2m (ts:List Tm)(st:Q0f)(hl:ts.length<=24)(hw: ∀i,i<ts.length->wK (ts.getD i default).ks/\smV (ts.getD i default).v)
 (hwT: ∀i,i<=ts.length-> ∀t∈gatT (ts.take i) [],wK t.ks/\smV t.v/\(Q0c t.v.m).length<=1000000000000):
 PCalls Tryz.prog 199 [.sl .no (Z0d ts)] st (fun r st'=>r= .tup [.sl .no (Z0l (Y0g (gatT ts []) []).1),.sc (.int .i64 (Y0g (gatT ts []) []).2)]/\st'=st):=by
 refine Q0b none Tryz.func199 rfl fun E=>Q0a ?_;simp-dsimp only[go_sem];refine J1g ?_;refine Q1a 4 0 (by simp) (by rfl) ?_;simp-dsimp only[go_sem];refine Q0t [true,false,false,false,true,true] 1 0
  (fun c s=> ∃(i cap:Nat) (O:List Tm) (R:List PV),c=ts.length-i/\i<=ts.length/\O=gatT (ts.take i) []/\X4e O cap R/\s=⟨[.sl .no (Z0d ts),.junk,.junk,.junk,.mr 0 O.length cap,.sc (.int .i64 (i:Nat))]++List.replicate 122 .junk,[flat (Z0d O)++R],[],st⟩) ts.length ?_ ?_
 simp-dsimp only[go_sem];exact⟨0,0,[],[],by omega,by omega,by simp[gatT],⟨rfl,Nat.le_refl _,rfl⟩,rfl⟩
 . rintro c s ⟨i,cap,O,R,rfl,hi,hO,hR,rfl⟩;have hOl:O.length<=i:=by
    rw[hO];have: ∀(ts acc:List Tm),(gatT ts acc).length<=acc.length+ts.length:=by
     intro ts
     induction ts with
     | nil=>intro acc;exact Nat.le_refl _
     | cons t r ih=>
      intro acc;have h1:=ih (insT t acc);have h2:=k0z t acc;rw[gatT];simp only[List.length_cons];omega
    have h3:=this (ts.take i) [];rw[List.length_take] at h3;simp at h3;omega
   obtain⟨hR1,hR2,hR3⟩:=hR;have hall:(flat (Z0d O)++R).all PV.quiet=true:=(by rw[List.all_append,G0r,hR3];rfl);have hlims:=K0n (a:=1) (b:=0) hall;have hfl:=G0s O;have hOw: ∀j,j<O.length->wK (O.getD j default).ks/\smV (O.getD j default).v/\(Q0c (O.getD j default).v.m).length<=1000000000000:=fun j hj=>by rw[show O.getD j default=O[j] by simp[q_a,hj]];exact hwT i hi _ (by rw[<-hO];exact List.getElem_mem hj)
   have hnx:i<ts.length->gatT (ts.take (i+1)) []=insT (ts.getD i default) O:=fun h=>(by rw[W1d ts i h,z1c,<-hO]);have hfin:i=ts.length->O=gatT ts []:=fun e=>(by rw[hO,e,List.take_length]);refine Q0h (Q0a ?_);simp-dsimp only[go_sem];refine ck (fun h'=> ?_) (fun h'=> ?_)
   . have hlt:i<ts.length:=by have:=q_b h';omega
     have e1:=G0t ts i hlt;have e3:=X0q i (by omega);simp-dsimp only[go_sem];refine Q0h (Z0p (Q0h (Q0a ?_)));simp-dsimp only[go_sem];refine U0c [true,false,false,false,true,true,true] 1 0
      (fun s=> ∃k,k<=O.length/\(∀q,q<k->ordK (O.getD q default).ks (ts.getD i default).ks>0)/\(k<O.length-> ¬ordK (O.getD k default).ks (ts.getD i default).ks>0)/\s=⟨[.sl .no (Z0d ts),.junk,.junk,.junk,.mr 0 O.length cap,.sc (.int .i64 (i:Nat)),.sc (.int .i64 (k:Nat))]++List.replicate 121 .junk,[flat (Z0d O)++R],[],st⟩) ?_ ?_
     simp-dsimp only[go_sem];refine Q0e [true,false,false,false,true,true,true] 1 0
      (fun c s=> ∃j,c=O.length-j/\j<=O.length/\(∀q,q<j->ordK (O.getD q default).ks (ts.getD i default).ks>0)/\s=⟨[.sl .no (Z0d ts),.junk,.junk,.junk,.mr 0 O.length cap,.sc (.int .i64 (i:Nat)),.sc (.int .i64 (j:Nat))]++List.replicate 121 .junk,[flat (Z0d O)++R],[],st⟩) O.length ?_ ?_
     simp-dsimp only[go_sem];exact⟨hlims,0,by omega,by omega,fun q hq=>absurd hq (by omega),rfl⟩;rintro c s ⟨j,rfl,hj,hq,rfl⟩;have f3:=X0q j (by omega);simp-dsimp only[go_sem];refine Q0j Z0a 128 (.step 0 [] (.step 1 [] (.step 2 [] (.step 3 [] (.step 4 [] (.step 5 [] (.step 6 [] (.step 7 [] (.step 8 [] (.step 9 [] (.step 10 [] (.step 11 [] (.step 12 [] (.step 13 [] (.step 14 [] (.step 15 [] (.step 16 [] (.step 17 [] (.done))))))))))))))))))) (by decide+kernel) (by simp) ?_;simp-dsimp only[go_sem];refine gkT (fun h1=> ?_) (fun h1=> ?_);have hlt2:j<O.length:=(by have:=q_b h1;omega);have e2:=y1z O R j 3 hlt2 (by omega);simp-dsimp only[go_sem,h1,e1,e2];refine⟨⟨by omega,hlt2⟩,by omega,⟨by omega,by omega⟩,?_⟩;refine(j0e (O.getD j default).ks (ts.getD i default).ks _ (hOw j hlt2).1 (hw i hlt).1).mono ?_;rintro r st ⟨rfl,rfl⟩;simp-dsimp only[go_sem,h1];refine ck (fun h2=> ?_) (fun h2=> ?_);simp-dsimp only[go_sem,f3];exact⟨hlims,O.length-(j+1),by omega,j+1,rfl,by omega,fun q hq'=>by by_cases e:q=j;rw[e];exact q_b h2;exact hq q (by omega),rfl⟩;simp-dsimp only[go_sem];exact⟨hlims,j,by omega,hq,fun _=>q_c h2,rfl⟩;have hge:j=O.length:=(by have:=q_c h1;omega);subst hge;simp-dsimp only[go_sem,h1];exact⟨hlims,O.length,by omega,hq,fun h=>absurd h (Nat.lt_irrefl _),rfl⟩
     . rintro s ⟨k,hk,hq,hnq,rfl⟩;refine U0c [true,false,false,false,true,true,true] 1 0
        (fun s=>insT (ts.getD i default) O=O.take k++ts.getD i default::O.drop k/\s=⟨[.sl .no (Z0d ts),.junk,.junk,.junk,.mr 0 O.length cap,.sc (.int .i64 (i:Nat)),.sc (.int .i64 (k:Nat))]++List.replicate 121 .junk,[flat (Z0d O)++R],[],st⟩) ?_ ?_
       rotate_left;rintro s ⟨hs,rfl⟩;clear hq hnq;obtain⟨f1,f2,f3⟩:=z1i O R;refine G0g 0 4 (by simp only[W0m];exact U1r hall) ?_;generalize R.map PV.forget2=R' at f1 f2 f3;simp-dsimp only[go_sem,f1,f2,f3];refine Q0h (Q0a ?_);simp-dsimp only[go_sem];refine Q1a 7 0 (by simp) (by rfl) ?_;simp-dsimp only[go_sem];refine Q0h ?_;refine Z1u [false,false,false,false,true,false] ?_;have hA:(O.take k).length=k:=(by rw[List.length_take];omega);have hB:(O.drop k).length=O.length-k:=List.length_drop;simp-dsimp only[go_sem];have hOO:O.take O.length=O:=List.take_length;generalize O.take k=A at*
       generalize hBe:O.drop k=B at*
       refine⟨⟨⟨by omega,by omega⟩,by omega⟩,U1m (O:= []) rfl (by omega) rfl rfl (by omega),?_⟩;intro c1 R1 g1 g2 g3;have t1:=Y1b A R1 A.length rfl;refine Q0h ?_;refine Z1u [false,false,false,false,false,false,true,false] ?_;have hone: [PV.agg [.sc (.bool (ts.getD i default).v.neg),.sl .no (encD (Q0c (ts.getD i default).v.m)),.sc (.int .i64 (ts.getD i default).v.e),.sl .no (encZ (ts.getD i default).ks)]]=Z0d [ts.getD i default]:=rfl;simp-dsimp only[go_sem,e1,hone,t1,Y1c];refine⟨⟨by omega,by omega⟩,U1m rfl g1 g2 g3 (by show A.length+1<=1000;omega),?_⟩;intro c2 R2 k1 k2 k3;have hA2:(A++ [ts.getD i default]).length=A.length+1:=(by simp);generalize hA3:A++ [ts.getD i default]=A2 at*
       have t2:=Y1b A2 R2 (A.length+1) hA2.symm;refine Z1u [false,false,false,false,true,false] ?_;simp-dsimp only[go_sem,hOO,hBe,t2,Y1c];refine⟨⟨⟨by omega,by omega⟩,by omega⟩,U1m hA2.symm k1 k2 k3 (by omega),?_⟩;intro c3 R3 l1 l2 l3;have hall2:(flat (Z0d (A2++B))++R3).all PV.quiet=true:=(by rw[List.all_append,G0r,l3];rfl);have hl2:(A2++B).length=A.length+1+B.length:=(by rw[List.length_append,hA2]);refine Q0a ?_;simp-dsimp only[go_sem,e3];exact⟨K0n hall2,ts.length-(i+1),by omega,i+1,c3,A2++B,R3,rfl,by omega,by rw[hnx hlt,hs,<-hA3];simp,⟨by rw[hl2];exact l2,by rw[hl2];exact l1,l3⟩,by rw[hl2]⟩;simp-dsimp only[go_sem];refine Q0j Z0a 128 (.step 0 [] (.step 1 [] (.step 2 [] (.step 3 [] (.step 4 [] (.step 5 [] (.step 6 [] (.step 7 [] (.step 8 [] (.step 9 [] (.step 10 [] (.step 11 [] (.step 12 [] (.step 13 [] (.step 14 [] (.step 15 [] (.step 16 [] (.step 17 [] (.done))))))))))))))))))) (by decide+kernel) (by simp) ?_;simp-dsimp only[go_sem];refine gkT (fun h1=> ?_) (fun h1=> ?_);have hlt2:k<O.length:=(by have:=q_b h1;omega);have e2:=y1z O R k 3 hlt2 (by omega);simp-dsimp only[go_sem,h1,e1,e2];refine⟨⟨by omega,hlt2⟩,by omega,⟨by omega,by omega⟩,?_⟩;refine(j0e (O.getD k default).ks (ts.getD i default).ks _ (hOw k hlt2).1 (hw i hlt).1).mono ?_;rintro r st ⟨rfl,rfl⟩;simp-dsimp only[go_sem,h1];refine ck (fun h2=> ?_) (fun h2=> ?_);have hz:ordK (O.getD k default).ks (ts.getD i default).ks=0:=Q1t h2;have e4:=V3x O R k hlt2;simp-dsimp only[go_sem];refine Q0j Z0a 128 (.step 0 [] (.step 1 [] (.step 2 [] (.step 3 [] (.step 4 [] (.step 5 [] (.step 6 [] (.step 7 [] (.step 8 [] (.step 9 [] (.step 10 [] (.step 11 [] (.step 12 [] (.step 13 [] (.step 14 [] (.step 15 [] (.done))))))))))))))))) (by decide+kernel) (by simp) ?_;simp-dsimp only[go_sem,e1,e4];refine⟨⟨by omega,hlt2⟩,by omega,⟨by omega,by omega⟩,?_⟩;refine(y1a (O.getD k default).v (ts.getD i default).v _ (hOw k hlt2).2.1 (hw i hlt).2).mono ?_;rintro r st ⟨rfl,rfl⟩;have e5:=G2r O R k (U0i (O.getD k default).v (ts.getD i default).v) hlt2;unfold encV at e5;simp-dsimp only[go_sem,e5];have hs:insT (ts.getD i default) O=O.set k ⟨U0i (O.getD k default).v (ts.getD i default).v,(O.getD k default).ks⟩:=G2i hlt2 hq hz;have hall2:(flat (Z0d (O.set k ⟨U0i (O.getD k default).v (ts.getD i default).v,(O.getD k default).ks⟩))++R).all PV.quiet=true:=(by rw[List.all_append,G0r,hR3];rfl);refine⟨⟨by omega,hlt2⟩,⟨by omega,by omega⟩,Q0a ?_⟩;simp-dsimp only[go_sem,e3];exact⟨K0n hall2,ts.length-(i+1),by omega,i+1,cap,_,R,rfl,by omega,by rw[hnx hlt,hs],⟨by rw[List.length_set];exact hR1,by rw[List.length_set];exact hR2,hR3⟩,by rw[List.length_set]⟩;have hne:=V1w h2;have hs:insT (ts.getD i default) O=O.take k++ts.getD i default::O.drop k:=G2j hlt2 hq (hnq hlt2) hne;simp-dsimp only[go_sem];exact⟨hlims,hs⟩;have hge:k=O.length:=(by have:=q_c h1;omega);have hs:insT (ts.getD i default) O=O.take k++ts.getD i default::O.drop k:=(by rw[w2e (by rw[<-hge];exact hq),hge,List.take_length,List.drop_length]);simp-dsimp only[go_sem,h1];exact⟨hlims,hs⟩
   have hge:i=ts.length:=by have:=q_c h';omega
   have hO2:=hfin hge;subst hO2;have hO24:(gatT ts []).length<=24:=(by omega);clear hlims hnx hfin hge h' hi;obtain⟨f1,f2,f3⟩:=z1i (gatT ts []) R;generalize gatT ts []=O at*
   simp-dsimp only[go_sem];refine G0g 0 4 (by simp only[W0m];exact U1r hall) ?_;generalize R.map PV.forget2=R' at f1 f2 f3;simp-dsimp only[go_sem,f1,f2,f3];refine Q0a ?_;simp-dsimp only[go_sem];refine Q0v 8 4 ?_;simp-dsimp only[go_sem];refine Q0e [false,false,false,false,true,false,false,false,true,true] 0 1
    (fun c s=> ∃(j:Nat) (o:List Mn),c=O.length-j/\j<=O.length/\o.length<=j/\Y0g O []=Y0g (O.drop j) o/\
     s=⟨[.junk,.junk,.junk,.junk,.sl .no (Z0d O),.junk,.junk,.junk,.sl (.own 0) (Z0l o),.sc (.int .i64 (j:Nat))]++List.replicate 118 .junk,[],[(o.length,4)],st⟩) O.length ?_ ?_
   simp-dsimp only[go_sem];exact⟨0,[],by omega,by omega,by simp,rfl,rfl⟩;rintro c s ⟨j,o,rfl,hj,ho,hr,rfl⟩;simp-dsimp only[go_sem];refine ck (fun h1=> ?_) (fun h1=> ?_);have hlt:j<O.length:=(by have:=q_b h1;omega);have e1:=G0t O j hlt;have e3:=X0q j (by omega);obtain⟨w1,_,w2⟩:=hOw j hlt;have w3:=w1.1;rw[Q1n O j hlt,Y0g] at hr;simp-dsimp only[go_sem,e1];refine⟨by omega,?_⟩;refine(W0y (O.getD j default).v _).mono ?_;rintro r st ⟨rfl,rfl⟩;simp-dsimp only[go_sem];refine ck (fun h2=> ?_) (fun h2=> ?_);rw[if_pos (Q1t h2)] at hr;simp-dsimp only[go_sem,e3];exact⟨O.length-(j+1),by omega,j+1,o,rfl,by omega,by omega,hr,rfl⟩;rw[if_neg (V1w h2)] at hr;simp-dsimp only[go_sem,e1];refine⟨by omega,?_⟩;refine(V1y (O.getD j default).v _ w2).mono ?_;rintro r st ⟨rfl,rfl⟩;simp-dsimp only[go_sem];refine ck (fun h3=> ?_) (fun h3=> ?_);rw[if_pos (U0l h3)] at hr;simp-dsimp only[go_sem];rw[hr];rfl;rw[if_neg (by rw[G0c h3];decide)] at hr;simp-dsimp only[go_sem];refine Q0j Z0a 128 (.step 0 [] (.step 1 [] (.step 2 [] (.step 3 [] (.step 4 [] (.step 5 [] (.step 6 [] (.step 7 [] (.step 8 [1] (.step 9 [] (.step 10 [] (.step 11 [] (.step 12 [] (.done)))))))))))))) (by decide+kernel) (by simp) ?_;simp-dsimp only[go_sem,e1,e3];refine⟨by omega,⟨by omega,by omega⟩,⟨by omega,by omega⟩,O.length-(j+1),by omega,j+1,o++ [⟨(numV (O.getD j default).v).1,(O.getD j default).ks⟩],rfl,by omega,by simp;omega,hr,?_⟩;simp[Z0l,H0t];have hge:j=O.length:=(by have:=q_c h1;omega);subst hge;rw[List.drop_length,Y0g] at hr;have z1:decide ((o.length:Int)>24)=false:=q_g (by omega);simp-dsimp only[go_sem];refine X0j [false,false,false,false,false,false,false,false,true] (Q0a ?_);simp-dsimp only[go_sem,z1];rw[hr]
theorem J3l (ks:List Int)(j:Nat)(x:Int)(hj:j<ks.length):(ks.set j x).sum=ks.sum-ks.getD j 0+x:=by
 induction ks generalizing j with
 | nil=>simp at hj
 | cons k r ih=>
  cases j with
  | zero=>simp;omega
  | succ j=>
   have:=ih j (by simpa using hj);simp only[List.set_cons_succ,List.sum_cons,List.getD_cons_succ,this];omega
def okKs (n:Nat)(D:Int)(ks:List Int):Prop:=ks.length=n/\(∀j,j<n->0<=ks.getD j 0)/\ks.sum<=D
theorem okKs.right {n:Nat}{D:Int}{ks:List Int}(h:okKs n D ks)(hD:D<=8):Y0a ks=true:=(J0v ks).2 ⟨fun j hj=>h.2.1 j (by rw[<-h.1];exact hj),by have:=h.2.2;omega⟩
theorem okKs.wK {n:Nat}{D:Int}{ks:List Int}(h:okKs n D ks)(hD:D<=8)(hn:n<=1000):wK ks:=⟨by rw[h.1];omega,fun i hi=>by have:=K0l (h.right hD) i hi;omega⟩
theorem repZ (n:Nat):List.replicate n (PV.sc (.int .i64 0))=encZ (List.replicate n 0):=by simp[encZ]
theorem y2a (T:List Int)(q:Nat)(c:Int)(h:q<T.length):over (encZ T) q [.sc (.int .i64 c)]=encZ (T.set q c):=by have:=Y2s 0 T q c h;simpa using this
theorem J3m (n:Nat):(List.replicate n (0:Int)).sum=0:=by
 induction n with
 | zero=>rfl
 | succ n ih=>rw[List.replicate_succ,List.sum_cons,ih];rfl
theorem k2e (l:List UInt64)(i k n D:Nat)(st:Q0f)(h:atD st k l i)(hi:i<=900000000000)(hn:1<=n)(hn2:n<=1000)(hD:D<=8):PCalls Tryz.prog 200 [.gp k 0,.sc (.int .i64 n),.sc (.int .i64 D)] st
 (fun r st'=> ∃ks j,okKs n D ks/\i<=j/\j<=i+1+D/\r= .sl .no (encZ ks)/\st'=st.set k (dk l j)):=by
 refine Q0b none Tryz.func200 rfl fun E=>Q0a ?_;have x1:IntKind.i64.wrap ((D:Int)+1)=((D+1:Nat):Int):=(by rw[show((D:Int)+1)=((D+1:Nat):Int) from rfl,Q0o _ (by omega)]);simp-dsimp only[go_sem,x1];refine⟨⟨by omega,by omega,by omega⟩,?_⟩;refine(x0m l i k (D+1) st h (by omega) (by omega) (by omega)).mono ?_;rintro r st' ⟨rfl,rfl⟩;have hnx:=Y2w l i (n:=D+1) (by omega);simp-dsimp only[go_sem];refine Q0e [true,true,false,false,false,false,false,true,true] 1 0 (fun m s=> ∃(ks:List Int) (c j:Nat),m=c/\c<=D/\okKs n (D-c) ks/\i<=j/\j+c<=i+1+D/\
  s=⟨[.gp k 0,.sc (.int .i64 n),.junk,.junk,.junk,.junk,.junk,.ms false 0 0 n,.sc (.int .i64 (c:Nat))]++List.replicate 19 .junk,[encZ ks],[],st.set k (dk l j)⟩) (nx l i (D+1)) ?_ ?_
 simp-dsimp only[go_sem];refine⟨(by rw[repZ];exact y2c _ _ _),List.replicate n 0,nx l i (D+1),i+1,rfl,by omega,⟨by simp,fun j hj=>by simp[q_a,hj],by rw[J3m];omega⟩,by omega,by omega,?_⟩;rw[repZ];rintro m s ⟨ks,c,j,hm,hc,hks,hj1,hj2,rfl⟩;subst hm;obtain⟨k1,k2,k3⟩:=hks;simp-dsimp only[go_sem];refine ck (fun h1=> ?_) (fun h1=> ?_);have hpos:0<m:=(by have:=q_b h1;omega);have x2:IntKind.i64.wrap ((m:Int)-1)=((m-1:Nat):Int):=(by rw[Q0i _ (by omega) (by omega)];omega);simp-dsimp only[go_sem];refine(x0m l j k n _ (h.set j) (by omega) (by omega) (by omega)).mono ?_;rintro r st' ⟨rfl,rfl⟩;have hq:=Y2w l j (n:=n) (by omega);generalize nx l j n=q at hq⊢;have hg:=K0g ks q (by omega);have hv:=k2 q hq;have hup:ks.getD q 0<=8:=by have:=K0l ((J0v ks).2 ⟨fun j hj=>k2 j (by omega),by omega⟩) q (by omega);exact this.2
 have x3:IntKind.i64.wrap (ks.getD q 0+1)=ks.getD q 0+1:=Q0i _ (by omega) (by omega);have hs:=y2a ks q (ks.getD q 0+1) (by omega);simp-dsimp only[go_sem,hg,x3,hs,x2,w0a];refine⟨⟨by omega,hq⟩,by omega,⟨by omega,hq⟩,⟨by omega,by omega⟩,m-1,by omega,ks.set q (ks.getD q 0+1),m-1,j+1,rfl,by omega,⟨by rw[List.length_set,k1],fun a ha=> ?_,?_⟩,by omega,by omega,rfl⟩;by_cases e:q=a;subst e;rw[Q0s _ _ _ _ (by omega)];omega;rw[Q0l _ _ _ _ _ e];exact k2 a ha;rw[J3l _ _ _ (by omega)];omega;have hz:m=0:=(by have:=q_c h1;omega);subst hz;have ht:ks.take n=ks:=List.take_of_length_le (by omega);have hle:(n<=ks.length)=True:=eq_true (by omega);simp-dsimp only[go_sem];refine Z0r 0 (by simp only[W0m];exact W3f _) (Q0a ?_);simp-dsimp only[go_sem,ht,hle];exact⟨ks,j,⟨k1,k2,by omega⟩,by omega,by omega,rfl,rfl⟩
def Y2q (n:Nat)(D:Int)(m:Mn):Prop:=okKs n D m.ks/\smN m.c
theorem V3d (l:List UInt64)(i k n M D:Nat)(st:Q0f)(h:atD st k l i)(hi:i<=800000000000)(hn:1<=n)(hn2:n<=1000)(hM:M<=20)(hD:D<=8):PCalls Tryz.prog 132 [.gp k 0,.sc (.int .i64 n),.sc (.int .i64 M),.sc (.int .i64 D)] st
 (fun r st'=> ∃p j,p.length<=M/\(∀m∈p,Y2q n D m)/\i<=j/\j<=i+1+10*M/\r= .sl .no (Z0l p)/\st'=st.set k (dk l j)):=by
 refine Q0b none Tryz.func132 rfl fun E=>Q0a ?_;have x1:IntKind.i64.wrap ((M:Int)+1)=((M+1:Nat):Int):=(by rw[show((M:Int)+1)=((M+1:Nat):Int) from rfl,Q0o _ (by omega)]);simp-dsimp only[go_sem,x1];refine(x0m l i k (M+1) st h (by omega) (by omega) (by omega)).mono ?_;rintro r st' ⟨rfl,rfl⟩;have hnx:=Y2w l i (n:=M+1) (by omega);simp-dsimp only[go_sem];refine Q0v 9 4 ?_;simp-dsimp only[go_sem];refine Q0e [true,true,false,true,false,false,false,false,false,true,true] 0 1 (fun m s=> ∃(p:List Mn) (c j:Nat),m=c/\p.length+c<=M/\(∀m∈p,Y2q n D m)/\i<=j/\j+10*c<=i+1+10*M/\
  s=⟨[.gp k 0,.sc (.int .i64 n),.junk,.sc (.int .i64 D),.junk,.junk,.junk,.junk,.junk,.sl (.own 0) (Z0l p),.sc (.int .i64 (c:Nat))]++List.replicate 19 .junk,[],[(p.length,4)],st.set k (dk l j)⟩) (nx l i (M+1)) ?_ ?_
 simp-dsimp only[go_sem];exact⟨[],nx l i (M+1),i+1,rfl,by simp;omega,(fun m hm=>by cases hm),by omega,by omega,rfl⟩;rintro m s ⟨p,c,j,hm,hc,hp,hj1,hj2,rfl⟩;subst hm;simp-dsimp only[go_sem];refine ck (fun h1=> ?_) (fun h1=> ?_);have hpos:0<m:=(by have:=q_b h1;omega);have x2:IntKind.i64.wrap ((m:Int)-1)=((m-1:Nat):Int):=(by rw[Q0i _ (by omega) (by omega)];omega);simp-dsimp only[go_sem];refine(Z1q l j k _ (h.set j) (by omega)).mono ?_;rintro r st' ⟨x,hx,rfl,rfl⟩;simp-dsimp only[go_sem,w0a];refine(k2e l (j+1) k n D _ (h.set (j+1)) (by omega) hn hn2 hD).mono ?_;rintro r st' ⟨ks,j',hks,hj3,hj4,rfl,rfl⟩;have hsn:Z0l p++ [PV.agg [.sc (.bool x.neg),.sc (.int .i64 x.exp),.sl .no (encW x.w),.sl .no (encZ ks)]]=Z0l (p++ [⟨x,ks⟩]):=J2u p ⟨x,ks⟩;simp-dsimp only[go_sem,w0a,x2,hsn];refine⟨⟨by omega,by omega⟩,m-1,by omega,p++ [⟨x,ks⟩],m-1,j',rfl,by simp;omega,fun y hy=> ?_,by omega,by omega,by simp⟩;rcases List.mem_append.1 hy with hy | hy;exact hp y hy;rw[List.mem_singleton.1 hy];exact⟨hks,hx⟩;have hz:m=0:=(by have:=q_c h1;omega);subst hz;simp-dsimp only[go_sem];refine X0j [false,false,false,false,false,false,false,false,false,true] (Q0a ?_);simp-dsimp only[go_sem];exact⟨p,j,by omega,hp,by omega,by omega,rfl,rfl⟩
def tmOf (m:Mn):Tm:=⟨ofN m.c,m.ks⟩
theorem y1c {n:Nat}{D:Int}{m:Mn}(h:Y2q n D m)(hD:D<=8):okT n 12 18 D (tmOf m):=
 ⟨h.1.1,h.1.right hD,h.1.2.2,U0r h.2.1,q3x h.2.2⟩
theorem X2x {n:Nat}{D:Int}{m:Mn}(h:Y2q n D m)(hD:D<=8):W0w m n=true:=(G0l _ _).2 ⟨by have:=h.1.1;omega,h.1.right hD,h.2.1⟩
theorem q3k {n L U:Nat}{D:Int}{t:Tm}(h:okT n L U D t)(hn:n<=4):wK t.ks:=⟨by rw[h.1];omega,fun i hi=>by have:=K0l h.2.1 i hi;omega⟩
theorem K3o {n L U:Nat}{D:Int}{t:Tm}(h:okT n L U D t)(hb:L+U<=4000):smV t.v/\(Q0c t.v.m).length<=1000000000000:=by have:=Z3p h.2.2.2.1 h.2.2.2.2;refine⟨⟨by have:=this.1;omega,by have:=this.2.1;omega,by have:=this.2.2;omega⟩,V0d this (by omega)⟩
theorem x0h {α:Type}[Inhabited α]{l:List α}{P:α->Prop}(h: ∀x∈l,P x){i:Nat}(hi:i<l.length):P (l.getD i default):=by rw[show l.getD i default=l[i] by simp[q_a,hi]];exact h _ (List.getElem_mem hi)
set_option maxHeartbeats 4000000 in
theorem W2l (p:List Mn)(n:Nat)(D:Int)(st:Q0f)(hn:1<=n)(hn4:n<=4)(hl:p.length<=24)(hD:D<=8)(hp: ∀m∈p,Y2q n D m):PCalls Tryz.prog 131 [.sl .no (Z0l p),.sc (.int .i64 n)] st
 (fun r st'=>r= .tup [.sl .no (Z0l (Y0g (gatT (p.map tmOf) []) []).1),.sc (.int .i64 (Y0g (gatT (p.map tmOf) []) []).2)]/\st'=st):=by
 have hok: ∀t∈p.map tmOf,okT n 12 18 D t:=fun t ht=>by obtain⟨m,hm,rfl⟩:=List.mem_map.1 ht;exact y1c (hp m hm) hD
 refine Q0b none Tryz.func131 rfl fun E=>Q0a ?_;simp-dsimp only[go_sem];have d1:decide ((n:Int)<1)=false:=q_g (by omega);have d2:decide ((n:Int)>4)=false:=q_g (by omega);simp-dsimp only[go_sem,d1,d2];refine Q0v 6 4 ?_;simp-dsimp only[go_sem];refine Q0e [true,true,false,false,false,false,true,true] 0 1 (fun c s=> ∃i,c=p.length-i/\i<=p.length/\
  s=⟨[.sl .no (Z0l p),.sc (.int .i64 n),.junk,.junk,.junk,.junk,.sl (.own 0) (Z0d ((p.take i).map tmOf)),.sc (.int .i64 (i:Nat))]++List.replicate 38 .junk,[],[(i,4)],st⟩) p.length ?_ ?_
 simp-dsimp only[go_sem];exact⟨0,by omega,by omega,rfl⟩;rintro c s ⟨i,rfl,hi,rfl⟩;have htl:((p.take i).map tmOf).length=i:=(by rw[List.length_map,List.length_take];omega);simp-dsimp only[go_sem];refine ck (fun h1=> ?_) (fun h1=> ?_);have hlt:i<p.length:=(by have:=q_b h1;omega);have e1:=V0o p i hlt;have e3:=X0q i (by omega);have hm:=x0h hp hlt;have hsn2:(p.take (i+1)).map tmOf=(p.take i).map tmOf++ [tmOf (p.getD i default)]:=by rw[List.take_add_one,List.map_append,List.getElem?_eq_getElem hlt];simp[q_a,hlt]
 have hwm:wMn (p.getD i default):=⟨K0k hm.2.1,hm.1.wK hD (by omega)⟩;simp-dsimp only[go_sem,e1];refine⟨by omega,?_⟩;refine(q1h (p.getD i default) n _ hwm (by omega)).mono ?_;rintro r st ⟨rfl,rfl⟩;rw[X2x hm hD];simp-dsimp only[go_sem,Bool.not_true];refine Q0j Z0a 46 (.step 0 [] (.step 1 [] (.step 2 [] (.step 3 [] (.step 4 [] (.step 5 [] (.step 7 [] (.step 8 [] (.step 9 [] (.step 10 [] (.step 11 [] (.step 6 [11] (.step 12 [] (.step 13 [] (.step 14 [] (.step 15 [] (.done))))))))))))))))) (by decide+kernel) (by simp) ?_;generalize hT:(p.take i).map tmOf=T at*
 simp-dsimp only[go_sem,e1];refine⟨⟨by omega,by omega⟩,⟨by omega,by omega⟩,?_⟩;refine(of_c (p.getD i default).c _ (by have:=K0k hm.2.1;unfold wN at this;omega)).mono ?_;rintro r st ⟨rfl,rfl⟩;have hsn:Z0d T++ [PV.agg [.sc (.bool (ofN (p.getD i default).c).neg),.sl .no (encD (Q0c (ofN (p.getD i default).c).m)),.sc (.int .i64 (ofN (p.getD i default).c).e),.sl .no (encZ (p.getD i default).ks)]]=Z0d (T++ [tmOf (p.getD i default)]):=Y1i T (tmOf (p.getD i default));simp-dsimp only[go_sem,e1,e3,hsn,htl];exact⟨⟨by omega,by omega⟩,p.length-(i+1),by omega,i+1,rfl,by omega,by rw[hsn2]⟩;have hge:i=p.length:=(by have:=q_c h1;omega);subst hge;have hfull:p.take p.length=p:=List.take_length;rw[hfull] at htl;simp-dsimp only[go_sem,hfull];refine X0j [false,false,false,false,false,false,true] (Q0a ?_);simp-dsimp only[go_sem];have hw: ∀(T:List Tm) (i:Nat),(∀t∈T,okT n 12 (18+i) D t)->i<=100-> ∀t∈T,wK t.ks/\smV t.v/\(Q0c t.v.m).length<=1000000000000:=fun T i hT hi t ht=>by have:=K3o (hT t ht) (by omega);exact⟨q3k (hT t ht) hn4,this.1,this.2⟩
 refine(w2m (p.map tmOf) _ (by rw[htl];exact hl) (fun i hi=> ?_) (fun i hi t ht=> ?_)).mono ?_;have:=hw (p.map tmOf) 0 hok (by omega);exact⟨(x0h (P:=fun t=>wK t.ks) (fun t ht=>(this t ht).1) hi),(x0h (P:=fun t=>smV t.v) (fun t ht=>(this t ht).2.1) hi)⟩;have:=(k1y (n:=n) (L:=12) (D:=D) ((p.map tmOf).take i) [] 18 (fun t ht=>hok t (List.mem_of_mem_take ht)) (fun t ht=>by cases ht) List.Pairwise.nil).1;exact hw _ ((p.map tmOf).take i).length this (by rw[List.length_take,htl];omega) t ht;rintro r st ⟨rfl,rfl⟩;simp-dsimp only[go_sem]
def okPoly (n M:Nat)(D:Int)(p:List Mn):Prop:=Z0z p n=true/\p.length<=M/\ ∀m∈p,okMn n 12 (18+M) D m
theorem q3h (l:List UInt64)(i k n M D:Nat)(st:Q0f)(h:atD st k l i)(hi:i<=800000000000)(hn:1<=n)(hn4:n<=4)(hM:M<=20)(hD:D<=8):PCalls Tryz.prog 63 [.gp k 0,.sc (.int .i64 n),.sc (.int .i64 M),.sc (.int .i64 D)] st
 (fun r st'=> ∃p j,okPoly n M D p/\i<=j/\j<=i+1+10*M/\r= .sl .no (Z0l p)/\st'=st.set k (dk l j)):=by
 refine Q0b none Tryz.func63 rfl fun E=>Q0a ?_;simp-dsimp only[go_sem];refine(V3d l i k n M D st h hi hn (by omega) hM hD).mono ?_;rintro r st' ⟨p,j,hpl,hp,hj1,hj2,rfl,rfl⟩;simp-dsimp only[go_sem];refine(W2l p n D _ hn hn4 (by omega) (by omega) hp).mono ?_;rintro r st' ⟨rfl,rfl⟩;have hok: ∀t∈p.map tmOf,okT n 12 18 D t:=fun t ht=>by obtain⟨m,hm,rfl⟩:=List.mem_map.1 ht;exact y1c (hp m hm) (by omega)
 obtain⟨g1,g2,g3,g4⟩:=J2n (n:=n) (L:=12) (U:=18) (D:=D) (ts:=p.map tmOf) (by rw[List.length_map];omega) hn hn4 (by rw[List.length_map];omega) hok;rw[List.length_map] at g3 g4;generalize (Y0g (gatT (p.map tmOf) []) []).1=P at*
 generalize (Y0g (gatT (p.map tmOf) []) []).2=e at*
 simp-dsimp only[go_sem];exact⟨P,j,⟨g2,by omega,fun m hm=>by obtain⟨a1,a2,a3,a4,a5,a6⟩:=g3 m hm;exact⟨a1,a2,a3,a4,a5,a6.up (by omega)⟩⟩,hj1,hj2,rfl,rfl⟩
def okField (n M:Nat)(D:Int)(f:List (List Mn)):Prop:=f.length=n/\ ∀p∈f,okPoly n M D p
theorem v1k (l:List UInt64)(i k n M D:Nat)(st:Q0f)(h:atD st k l i)(hi:i<=700000000000)(hn:1<=n)(hn4:n<=4)(hM:M<=20)(hD:D<=8):PCalls Tryz.prog 14 [.gp k 0,.sc (.int .i64 n),.sc (.int .i64 M),.sc (.int .i64 D)] st
 (fun r st'=> ∃f j,okField n M D f/\i<=j/\j<=i+1000/\r= .sl .no (Z0t f)/\st'=st.set k (dk l j)):=by
 refine Q0b none Tryz.func14 rfl fun E=>Q0a ?_;simp-dsimp only[go_sem];refine Q0v 9 1 ?_;simp-dsimp only[go_sem];refine Q0e [true,true,true,true,false,false,false,false,false,true,true] 0 1 (fun m s=> ∃(f:List (List Mn)) (j:Nat),m=n-f.length/\f.length<=n/\(∀p∈f,okPoly n M D p)/\i<=j/\j<=i+250*f.length/\
  s=⟨[.gp k 0,.sc (.int .i64 n),.sc (.int .i64 M),.sc (.int .i64 D),.junk,.junk,.junk,.junk,.junk,.sl (.own 0) (Z0t f),.sc (.int .i64 (f.length:Nat))]++List.replicate 14 .junk,[],[(f.length,1)],st.set k (dk l j)⟩) n ?_ ?_
 simp-dsimp only[go_sem];refine⟨[],i,by simp,by simp,(fun m hm=>by cases hm),by omega,by omega,?_⟩;rw[h.same];rfl;rintro m s ⟨f,j,rfl,hf,hp,hj1,hj2,rfl⟩;simp-dsimp only[go_sem];refine ck (fun h1=> ?_) (fun h1=> ?_);have hlt:f.length<n:=(by have:=q_b h1;omega);have x2:=X0q f.length (by omega);simp-dsimp only[go_sem];refine(q3h l j k n M D _ (h.set j) (by omega) hn hn4 hM hD).mono ?_;rintro r st' ⟨p,j',hpo,hj3,hj4,rfl,rfl⟩;simp-dsimp only[go_sem,w0a,x2];refine⟨⟨by omega,by omega⟩,n-(f.length+1),by omega,f++ [p],j',by simp,by simp;omega,fun y hy=> ?_,by omega,by simp;omega,by simp⟩;rcases List.mem_append.1 hy with hy | hy;exact hp y hy;rw[List.mem_singleton.1 hy];exact hpo;have hge:f.length=n:=(by have:=q_c h1;omega);simp-dsimp only[go_sem];refine X0j [false,false,false,false,false,false,false,false,false,true] (Q0a ?_);simp-dsimp only[go_sem];exact⟨f,j,⟨hge,hp⟩,by omega,by omega,rfl,rfl⟩
theorem okPoly.at {n M:Nat}{D:Int}{p:List Mn}(h:okPoly n M D p){j:Nat}(hj:j<p.length):okMn n 12 (18+M) D (p.getD j default):=x0h h.2.2 hj
theorem okField.at {n M:Nat}{D:Int}{f:List (List Mn)}(h:okField n M D f){i:Nat}(hi:i<f.length):okPoly n M D (f.getD i []):=by rw[show f.getD i []=f[i] by simp[q_a,hi]];exact h.2 _ (List.getElem_mem hi)
theorem okField.wF {n M:Nat}{D:Int}{f:List (List Mn)}(h:okField n M D f)(hn4:n<=4)(hM:M<=20):wF f:=⟨by have:=h.1;omega,fun i hi=>⟨by have:=(h.at hi).2.1;omega,fun j hj=>by obtain⟨a1,a2,a3,a4,a5,a6⟩:=(h.at hi).at hj;exact⟨K0k a4,by rw[a1];omega,fun k hk=>by have:=K0l a2 k hk;omega⟩⟩⟩
theorem H3p {b:List Ivl}{n:Nat}(hl:b.length=n)(hn4:n<=4)(h: ∀m,m<b.length->smI (b.getD m default)):wB b:=⟨by omega,fun i hi=>X0x (h i hi).1⟩
end Go.Pv
end
