/- Parts of the walk: N17, N18, N19, N20, N21, N22, N24, N25, N23, N26. -/
import Derived.Test.YtldalepagmhnmaaGreatDoorZAE
import Derived.Test.YtldalepagmhnmaaGreatDoorZAA
set_option linter.unusedVariables false
set_option linter.unusedSimpArgs false
section
set_option maxRecDepth 100000
namespace Go.Pv
open Go.Proofs
theorem Z1f {v:Vl}{n k:Nat}(h:bdV n k v)(h1:n<=1000000000000)(h2:k<=100000000000):smV v:=⟨by have:=h.1;omega,by have:=h.2.1;omega,by have:=h.2.2;omega⟩
theorem Y2z {x:Nm}(h:Q0q x=true):x.w.length<=1000000000000:=by have:=(X0j h).1;omega
theorem W3h (k:Nat)(a b:Ivl)(p:Int):wI (opI k a b p).1:=K0p (X0q k a b p)
def k1 :Nm:=⟨false,0,[1]⟩
def k2 :Nm:=⟨false,1,[1]⟩
def k4 :Nm:=⟨false,2,[1]⟩
theorem J0n (i:Nat)(h:i<100000000000000):IntKind.i64.wrap ((i:Int)+1)=((i+1:Nat):Int):=by rw[Q0l _ (by omega) (by omega)];omega
theorem k3k (l:List UInt64)(i k:Nat)(st:Q0f)(h:atD st k l i)(hi:i<=1000000000):PCalls Tryz.prog 17 [.gp k 0] st
 (fun r st'=> ∃(p j:Nat),8<=p/\p<=256/\i<=j/\j<=i+2/\r= .sc (.int .i64 p)/\st'=st.set k (dk l j)):=by
 refine Q0b none Tryz.func17 rfl fun E=>Q0a ?_;simp-dsimp only[go_sem];refine(z0i l i k 6 st h (by omega) (by omega) (by omega)).mono ?_;rintro r st' ⟨rfl,rfl⟩;simp-dsimp only[go_sem];refine ck (fun h1=> ?_) (fun h1=> ?_);simp-dsimp only[go_sem];exact⟨8,i+1,by omega,by omega,by omega,by omega,rfl,rfl⟩;simp-dsimp only[go_sem];refine ck (fun h2=> ?_) (fun h2=> ?_);simp-dsimp only[go_sem];exact⟨256,i+1,by omega,by omega,by omega,by omega,rfl,rfl⟩;simp-dsimp only[go_sem];refine(z0i l (i+1) k 60 _ (h.set (i+1)) (by omega) (by omega) (by omega)).mono ?_;rintro r st' ⟨rfl,rfl⟩;have n1:=z1p l (i+1) (n:=60) (by omega);have x1:IntKind.i64.wrap (12+(nx l (i+1) 60:Int))=((12+nx l (i+1) 60:Nat):Int):=(by rw[show(12+(nx l (i+1) 60:Int))=((12+nx l (i+1) 60:Nat):Int) from by omega,Q0n _ (by omega)]);simp-dsimp only[go_sem,k0b,x1];exact⟨12+nx l (i+1) 60,i+2,by omega,by omega,by omega,by omega,rfl,rfl⟩
set_option maxHeartbeats 1000000 in
theorem X3k (l:List UInt64)(i k:Nat)(a:Ivl)(st:Q0f)(h:atD st k l i)(hi:i<=1000000000)(ha:Q0p a=true):PCalls Tryz.prog 77 [.gp k 0,.agg (encI a)] st
 (fun r st'=>r= .agg (encN (inN a (nx l i 9)))/\st'=st.set k (dk l (i+1))):=by
 have hlt:=z1p l i (n:=9) (by omega);obtain⟨a1,a2,_⟩:=Z0s ha;have d1:=V1r a1;have d2:=V1r a2;refine Q0b none Tryz.func77 rfl fun E=>Q0a ?_;simp-dsimp only[go_sem];refine(z0i l i k 9 st h (by omega) (by omega) (by omega)).mono ?_;rintro r st' ⟨rfl,rfl⟩;generalize nx l i 9=n at*
 unfold inN;have x0:IntKind.i64.wrap (n:Int)=(n:Int):=Q0n _ (by omega);simp-dsimp only[go_sem,x0];refine ck (fun h1=> ?_) (fun h1=> ?_);have h0:n=0:=G0c (b:=0) h1;rw[if_pos h0];simp-dsimp only[go_sem]
 . have h0:n≠0:=z0o (b:=0) h1;rw[if_neg h0];simp-dsimp only[go_sem];refine ck (fun h2=> ?_) (fun h2=> ?_);have h8:n=8:=G0c (b:=8) h2;rw[if_pos h8];simp-dsimp only[go_sem]
   . have h8:n≠8:=z0o (b:=8) h2;rw[if_neg h8];have x1:IntKind.i64.wrap (8-(n:Int))=((8-n:Nat):Int):=(by rw[show 8-(n:Int)=((8-n:Nat):Int) from by omega,Q0n _ (by omega)]);have w1:=q0p (k:=8-n) (by omega);have w2:=q0p (k:=n) (by omega);have b1:=k1g d1 w1;have b2:=k1g d2 w2;have b3:=X2r b1 b2;have b4:=U1k b3;have hin:inV a n=G0m (V0x (byV (ofN a.lo) (oddV false (8-n) 0)) (byV (ofN a.hi) (oddV false n 0))):=rfl;rw[hin];simp-dsimp only[go_sem];refine w2p Z0m 50 [0,1,2,3,4,5,6,7,8,9,10,11,12,13] [14] [15] (.step 0 [] (.step 1 [] (.step 3 [] (.step 4 [] (.step 7 [] (.step 8 [] (.step 10 [] (.step 2 [8] (.step 5 [8] (.step 6 [8] (.step 9 [] (.step 11 [1] (.step 12 [1] (.step 13 [] (.done))))))))))))))) (.step 15 [] (.done)) (by decide+kernel) (by simp) ?_;simp-dsimp only[go_sem,x1];refine(of_c a.lo _ (Y2z a1)).mono ?_;rintro r st' ⟨rfl,rfl⟩;simp-dsimp only[go_sem,x1];refine(k0j (8-n) _ (by omega)).mono ?_;rintro r st' ⟨rfl,rfl⟩;simp-dsimp only[go_sem,x1];refine(by_c _ _ _ (Z1f d1 (by omega) (by omega)) (Z1f w1 (by omega) (by omega))).mono ?_;rintro r st' ⟨rfl,rfl⟩;simp-dsimp only[go_sem];refine(of_c a.hi _ (Y2z a2)).mono ?_;rintro r st' ⟨rfl,rfl⟩;simp-dsimp only[go_sem];refine(k0j n _ (by omega)).mono ?_;rintro r st' ⟨rfl,rfl⟩;simp-dsimp only[go_sem];refine(by_c _ _ _ (Z1f d2 (by omega) (by omega)) (Z1f w2 (by omega) (by omega))).mono ?_;rintro r st' ⟨rfl,rfl⟩;simp-dsimp only[go_sem];refine(Y1b _ _ _ (Z1f b1 (by omega) (by omega)) (Z1f b2 (by omega) (by omega))).mono ?_;rintro r st' ⟨rfl,rfl⟩;generalize V0x (byV (ofN a.lo) (oddV false (8-n) 0)) (byV (ofN a.hi) (oddV false n 0))=v at*
     have x2:IntKind.i64.wrap (v.e-3)=v.e-3:=Q0l _ (by have:=b3.2.1;omega) (by have:=b3.2.2;omega);simp-dsimp only[go_sem];refine(U1v v _).mono ?_;rintro r st' ⟨rfl,rfl⟩;simp-dsimp only[go_sem];refine ck (fun h3=> ?_) (fun h3=> ?_)
     case' refine_1=>
      have hz:=G0x h3;have he:G0m v= { v with e:=v.e-3 } :=if_pos hz;rw[he] at b4⊢;generalize hzz:({ v with e:=v.e-3 } :Vl)=z at*
      have z1:v.neg=z.neg:=(by rw[<-hzz]);have z2:v.m=z.m:=(by rw[<-hzz]);have z3:v.e-3=z.e:=(by rw[<-hzz]);simp-dsimp only[go_sem,x2];rw[z1,z2,z3]
     case' refine_2=>
      have hz:=H0t h3;have he:G0m v=v:=if_neg (fun e=>e hz);rw[he] at b4⊢;generalize v=z at*
      simp-dsimp only[go_sem]
     all_goals
      refine(Q2f z _ (Z1b b4 (by omega))).mono ?_;rintro r st' ⟨rfl,rfl⟩;simp-dsimp only[go_sem];refine ck (fun h4=> ?_) (fun h4=> ?_);have hne:=G0x h4;rw[if_pos hne];simp-dsimp only[go_sem];have hne:=H0t h4;rw[if_neg (fun e=>e hne)];simp-dsimp only[go_sem]
theorem Q3z (l:List UInt64)(i k:Nat)(b:List Ivl)(st:Q0f)(h:atD st k l i)(hi:i<=100000000)(hl:b.length<=1000000)(hb: ∀j,j<b.length->Q0p (b.getD j default)=true):PCalls Tryz.prog 21 [.gp k 0,.sl .no (Q0v b)] st
 (fun r st'=> ∃q,q.length=b.length/\(∀j,j<b.length-> ∃n,n<=8/\q.getD j default=inN (b.getD j default) n)/\r= .sl .no (J0p q)/\st'=st.set k (dk l (i+b.length))):=by
 refine Q0b none Tryz.func21 rfl fun E=>Q0a ?_;simp-dsimp only[go_sem];refine Z0c 5 3 ?_;simp-dsimp only[go_sem];refine Q0d [true,true,false,false,false,true,true] 0 1 (fun m s=> ∃q,m=b.length-q.length/\q.length<=b.length/\(∀j,j<q.length-> ∃n,n<=8/\q.getD j default=inN (b.getD j default) n)/\
  s=⟨[.gp k 0,.sl .no (Q0v b),.junk,.junk,.junk,.sl (.own 0) (J0p q),.sc (.int .i64 (q.length:Nat))]++List.replicate 16 .junk,[],[(q.length,3)],st.set k (dk l (i+q.length))⟩) b.length ?_ ?_
 simp-dsimp only[go_sem];refine⟨[],by simp,by simp,(fun j hj=>by simp at hj),?_⟩;show _=PFS.mk _ _ _ (st.set k (dk l i));rw[h.same];rfl;rintro m s ⟨q,rfl,hq,hr,rfl⟩;simp-dsimp only[go_sem];refine ck (fun h1=> ?_) (fun h1=> ?_);have hlt:q.length<b.length:=(by have:=q_b h1;omega);have e1:=X0r b q.length hlt;have x1:IntKind.i64.wrap ((q.length:Int)+1)=((q.length+1:Nat):Int):=(by rw[show((q.length:Int)+1)=((q.length+1:Nat):Int) from rfl,Q0n _ (by omega)]);have n1:=z1p l (i+q.length) (n:=9) (by omega);simp-dsimp only[go_sem,e1];refine⟨⟨by omega,hlt⟩,?_⟩;refine(X3k l (i+q.length) k _ _ (h.set (i+q.length)) (by omega) (hb _ hlt)).mono ?_;rintro r st' ⟨rfl,rfl⟩;simp-dsimp only[go_sem,k0b,x1];refine⟨by omega,b.length-(q.length+1),by omega,q++ [inN (b.getD q.length default) (nx l (i+q.length) 9)],by simp,by simp;omega,fun j hj=> ?_,by simp[J0p,encN,Nat.add_assoc]⟩;by_cases hj2:j<q.length;rw[v2l _ _ _ _ hj2];exact hr j hj2;have e:j=q.length:=(by simp at hj;omega);rw[e,Q2o];exact⟨_,by omega,rfl⟩;have hge:q.length=b.length:=(by have:=q_c h1;omega);simp-dsimp only[go_sem];refine X0p [false,false,false,false,false,true] (Q0a ?_);simp-dsimp only[go_sem];exact⟨q,hge,fun j hj=>hr j (by omega),rfl,by rw[hge]⟩
end Go.Pv
end
