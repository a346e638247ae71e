/- Parts of the walk: N127, N128, N129, N130. -/
import Derived.Test.YthichlfphjbadaaGreatZEC
import Derived.Test.YthichlfphjbadaaGreatZBX
import Derived.Test.YthichlfphjbadaaGreatZAF
import Derived.Test.YthichlfphjbadaaGreatZBV
import Derived.Test.YthichlfphjbadaaGreatZEE
import Derived.Test.YthichlfphjbadaaGreatZM
set_option linter.unusedVariables false
set_option linter.unusedSimpArgs false
section
/-Problems out of the deck. -/
set_option maxRecDepth 100000
namespace Go.Pv
open Go.Proofs
theorem V2x (c:Nat) (h:c<1000):valW [UInt64.ofNat c]=c:=by
 simp [valW,nW,val]
 omega
theorem w1d {w:List UInt64} {e:Int} (hw:Q0l (valW w)≤6) (h1: -6≤e) (h2:e≤2):0≤qN (U0n false w e).1:=by
 unfold U0n
 split
 · show 0≤qN default;rw [H0b];exact Rat.le_refl
 · split
   · show 0≤qN default;rw [H0b];exact Rat.le_refl
   · have hb:=V1o (neg:=false) (m:=valW w) (e:=e) (n:=6) (k:=6) hw (by omega) (by omega)
     have hf:=w0f hb (by omega) (by omega)
     rw [(J0f (q0r _ _ _) hf).2,w0a,←J0p e]
     exact qM_le.2 (by simp)
theorem q1t {L U:Nat} {x y:Nm} (hx:Q0f x=true) (hy:Q0f y=true) (h1:luQ L U (qN x)) (h2:luQ L U (qN y)) (hb:L+U+2≤4096):(X0s x y).2=0∧qN (X0s x y).1=qN x+qN y:=by
 have cc:=K0w (X0u hx) (X0u hy)
 have hl:luQ L (U+1) (qV (J0l (ofN x) (ofN y))):=by rw [V0e];exact q0m h1 h2
 have hf:=U0o cc hl (by omega)
 unfold X0s
 rw [if_pos ⟨hx,hy⟩]
 refine⟨hf,?_⟩
 rw [(J0f cc hf).2,V0e]
 rfl
theorem X3s {x w:Nm} (hx:tN x) (hw:tN w) (h0:0≤qN w):luI 20 20 ⟨x,(X0s x w).1⟩:=by
 obtain⟨s1,s2⟩:=q1t hx.1.1 hw.1.1 hx.2 hw.2 (by omega)
 have hr:=J1a x w
 refine⟨?_,hx.2.mono (by omega) (by omega),?_⟩
 · exact V0h hx.1.1 hr (cmpN_le.2 (by show qN x≤qN (X0s x w).1;rw [s2];grind))
 · show luQ 20 20 (qN (X0s x w).1)
   rw [s2]
   exact(q0m hx.2 hw.2).mono (by omega) (by omega)
theorem Q3a {neg:Bool} {c:Nat} {e:Int} (hc:c≤7) (h1: -6≤e) (h2:e≤2):tN (U0n neg [UInt64.ofNat c] e).1:=
 X3v (by rw [V2x c (by omega)];exact bitlen_le_iff.2 (by omega)) h1 h2
set_option maxHeartbeats 1000000 in
theorem K2y (l:List UInt64) (i k n:Nat) (st:Q0g) (h:atD st k l i) (hi:i≤800000000000) (hn:n≤1000000):PCalls Tryz.prog 47 [.gp k 0,.sc (.int .i64 n)] st
 (fun r st'=> ∃b j,b.length=n∧(∀m,m<b.length→luI 20 20 (b.getD m default))∧i≤j∧j≤i+3*n∧r= .sl .no (Q0u b)∧st'=st.set k (dk l j)):=by
 refine Q0b none Tryz.func47 rfl fun E=>Q0a ?_
 simp -dsimp only [go_sem]
 refine Z0y 5 6 ?_
 simp -dsimp only [go_sem]
 refine Q0e [true,true,false,false,false,true,true] 0 1 (fun m s=> ∃b j,m=n-b.length∧b.length≤n∧(∀m,m<b.length→luI 20 20 (b.getD m default))∧i≤j∧j≤i+3*b.length∧
  s=⟨[.gp k 0,.sc (.int .i64 n),.junk,.junk,.junk,.sl (.own 0) (Q0u b),.sc (.int .i64 b.length)]++List.replicate 34 .junk,[],[(b.length,6)],st.set k (dk l j)⟩) n ?_ ?_
 · simp -dsimp only [go_sem]
   refine⟨[],i,by simp,by simp,fun m hm=>by simp at hm,by omega,by omega,?_⟩
   rw [h.same];rfl
 · rintro m s ⟨b,j,rfl,hb,hr,hj,hj2,rfl⟩
   simp -dsimp only [go_sem]
   refine ck (fun h1=> ?_) (fun h1=> ?_)
   · have hlt:b.length<n:=by have:=of_decide_eq_true h1;omega
     have x1:IntKind.i64.wrap ((b.length:Int)+1)=((b.length+1:Nat):Int):=by
      rw [show((b.length:Int)+1)=((b.length+1:Nat):Int) from rfl,Q0i _ (by omega)]
     have c1:(l.getD (j+1) 0).toNat&&&7≤7:=Nat.and_le_right
     have c2:(l.getD (j+1+1) 0).toNat&&&7≤7:=Nat.and_le_right
     have v1:=(l.getD (j+1) 0).toNat_lt
     have v2:=(l.getD (j+1+1) 0).toNat_lt
     have a1:bAnd .u64 ((l.getD (j+1) 0).toNat:Int) 7=((UInt64.ofNat ((l.getD (j+1) 0).toNat&&&7)).toNat:Int):=by
      rw [show(7:Int)=((7:Nat):Int) from rfl,G0w _ _ (by omega) (by omega),W0d _ (by omega)]
     have a2:bAnd .u64 ((l.getD (j+1+1) 0).toNat:Int) 7=((UInt64.ofNat ((l.getD (j+1+1) 0).toNat&&&7)).toNat:Int):=by
      rw [show(7:Int)=((7:Nat):Int) from rfl,G0w _ _ (by omega) (by omega),W0d _ (by omega)]
     simp -dsimp only [go_sem]
     refine(X2k l j k 2 _ (h.set j) (by omega) (by omega) (by omega)).mono ?_
     rintro r st' ⟨rfl,rfl⟩
     simp -dsimp only [go_sem,X0x]
     refine(Y1s l (j+1) k _ (h.set (j+1)) (by omega)).mono ?_
     rintro r st' ⟨rfl,rfl⟩
     generalize hyes:decide (nx l j 2=2-1)=yes
     simp -dsimp only [go_sem,X0x,a1]
     refine(J2z yes [UInt64.ofNat ((l.getD (j+1) 0).toNat&&&7)] (-2) _ (by simp) (by omega) (by omega)).mono ?_
     rintro r st' ⟨rfl,rfl⟩
     have tx:tN (U0n yes [UInt64.ofNat ((l.getD (j+1) 0).toNat&&&7)] (-2)).1:=Q3a c1 (by omega) (by omega)
     generalize (U0n yes [UInt64.ofNat ((l.getD (j+1) 0).toNat&&&7)] (-2)).1=x at tx
     simp -dsimp only [go_sem]
     refine(Y1s l (j+1+1) k _ (h.set (j+1+1)) (by omega)).mono ?_
     rintro r st' ⟨rfl,rfl⟩
     simp -dsimp only [go_sem,X0x,a2]
     refine(J2z false [UInt64.ofNat ((l.getD (j+1+1) 0).toNat&&&7)] (-6) _ (by simp) (by omega) (by omega)).mono ?_
     rintro r st' ⟨rfl,rfl⟩
     have tw:tN (U0n false [UInt64.ofNat ((l.getD (j+1+1) 0).toNat&&&7)] (-6)).1:=Q3a c2 (by omega) (by omega)
     have tw0:0≤qN (U0n false [UInt64.ofNat ((l.getD (j+1+1) 0).toNat&&&7)] (-6)).1:=w1d (by rw [V2x _ (by omega)];exact bitlen_le_iff.2 (by omega)) (by omega) (by omega)
     generalize (U0n false [UInt64.ofNat ((l.getD (j+1+1) 0).toNat&&&7)] (-6)).1=w at tw tw0
     simp -dsimp only [go_sem]
     refine(v0g x w _ (Q0t tx.1.1) (Q0t tw.1.1)).mono ?_
     rintro r st' ⟨rfl,rfl⟩
     have ti:=X3s tx tw tw0
     generalize (X0s x w).1=y at ti
     simp -dsimp only [go_sem,x1]
     refine⟨by omega,n-(b.length+1),by omega,b++ [⟨x,y⟩],j+1+1+1,by simp,by simp;omega,fun m hm=> ?_,by omega,by simp;omega,by simp [Q0u,encI,encN]⟩
     by_cases hm2:m<b.length
     · rw [G1g _ _ _ _ hm2];exact hr m hm2
     · have e:m=b.length:=by simp at hm;omega
       rw [e,v0i];exact ti
   · have hge:b.length=n:=by have:=of_decide_eq_false h1;omega
     simp -dsimp only [go_sem]
     refine J0u [false,false,false,false,false,true] (Q0a ?_)
     simp -dsimp only [go_sem]
     exact⟨b,j,hge,hr,hj,by omega,rfl,rfl⟩
end Go.Pv
end
section
/-The deck's Problem. -/
set_option maxRecDepth 100000
namespace Go.Pv
open Go.Proofs
theorem Z4z {k:Nat} :1≤p2 (k:Int):=by
 have h:qM 1 0≤qM ((2^k:Nat):Int) 0:=qM_le.2 (by have:=Nat.pow_pos (n:=k) (show 0<2 by decide);omega)
 have e1:qM 1 0=1:=by rw [←x1l];rfl
 have e2:qM ((2^k:Nat):Int) 0=p2 (k:Int):=by
  have:=W0v 1 k 0
  rw [x1l]
  simpa using this
 rwa [e1,e2] at h
theorem Z2j {x y:Rat} {k:Nat} (h:y*p2 (k:Int)=x) (hx:0<x):0<y∧y≤x:=by
 have hy:=U2i h hx
 refine⟨hy,?_⟩
 have h1:=Z4z (k:=k)
 have h2:=J0d (a:=y) (b:=p2 (k:Int)-1) (by grind) (by grind)
 grind
set_option maxHeartbeats 2000000 in
theorem w0w (l:List UInt64) (i k n:Nat) (f:List (List Mn)) (st:Q0g) (h:atD st k l i) (hi:i≤600000000000) (hn:1≤n) (hn4:n≤4) (hf:okField n 2 2 f):PCalls Tryz.prog 17 [.gp k 0,.sl .no (K0i f)] st
 (fun r st'=> ∃p j,okPb n p∧p.fld=f∧i≤j∧j≤i+100∧r= .agg (K1z p)∧st'=st.set k (dk l j)):=by
 have hfl:f.length=n:=hf.1
 refine Q0b none Tryz.func17 rfl fun E=>Q0h (Q0a ?_)
 simp -dsimp only [go_sem]
 refine Q0h (Q0a ?_)
 simp -dsimp only [go_sem]
 refine(V0f l i k 4 st h (by omega) (by omega) (by omega)).mono ?_
 rintro r st' ⟨rfl,rfl⟩
 have k1:=k0k l i (n:=4) (by omega)
 generalize nx l i 4=a at k1
 have s1:IntKind.i64.wrap ((a:Int)-3)=(a:Int)-3:=Q0q _ (by omega) (by omega)
 have s2:IntKind.i64.wrap (a:Int)=(a:Int):=Q0i _ (by omega)
 simp -dsimp only [go_sem,s1,s2]
 refine(J2z false [1] ((a:Int)-3) _ (by simp) (by omega) (by omega)).mono ?_
 rintro r st' ⟨rfl,rfl⟩
 have hmost:(U0n false [1] ((a:Int)-3)).1=tq (1*2^a):=by rw [show(1:UInt64)=UInt64.ofNat 1 from rfl,G2f 1 a (by decide) k1 (by decide)]
 rw [hmost]
 have hp2:1*2^a≤8:=by have:=Nat.pow_le_pow_right (show 0<2 by decide) (show a≤3 by omega);omega
 have hp0:0<1*2^a:=by have:=Nat.pow_pos (n:=a) (show 0<2 by decide);omega
 obtain⟨m1,m2⟩:=X3r hp0 (by omega)
 have m3:Q0f (tq (1*2^a))=true:=K0f _
 generalize tq (1*2^a)=most at m1 m2 m3
 simp -dsimp only [go_sem]
 refine Q0x [true,true,false,false,true,true,true] 3 0 (fun s=> ∃least,Q0f least=true∧0<qN least∧qN least≤qN most∧s=⟨[.gp k 0,.sl .no (K0i f),.junk,.junk,.lp 0 0,.lp 1 0,.lp 2 0]++List.replicate 33 .junk,[[.sl .full [],.sl .full [],.sc (.bool false),.sc (.int .i64 0),.sl .full [],.sc (.bool false),.sc (.int .i64 0),.sl .full [],.sc (.bool false),.sc (.int .i64 0),.sl .full [],.sc (.int .i64 0),.sc (.int .i64 0),.sc (.int .i64 0)],encN most,encN least],[],st.set k (dk l (i+1+1))⟩) ?_ ?_
 · have k2:=k0k l (i+1) (n:=7) (by omega)
   have s3:IntKind.i64.wrap (0-(nx l (i+1) 7:Int))= -(nx l (i+1) 7:Int):=by rw [Q0q _ (by omega) (by omega)];omega
   have s4:IntKind.i64.wrap (nx l (i+1) 7:Int)=(nx l (i+1) 7:Int):=Q0i _ (by omega)
   obtain⟨z1,z2⟩:=X1u (k:=nx l (i+1) 7) m3 m1 (by omega) (by omega)
   have z3:=(x0s z1).2
   obtain⟨z4,z5⟩:=Z2j z3 m2
   have z6:=z0e most (-(nx l (i+1) 7:Int))
   have wmost:wN most:=Q0t m3
   simp -dsimp only [go_sem]
   refine Q0o Z0p 40 (.step 0 [] (.step 1 [] (.alt (.step 2 [0] (.step 3 [] (.alt (.step 4 [] (.step 5 [] (.step 6 [] (.step 7 [] (.step 8 [0] (.step 9 [] (.step 10 [] (.done)))))))) (.step 8 [0] (.step 4 [] (.step 5 [] (.step 6 [] (.step 7 [] (.step 9 [] (.step 10 [] (.done))))))))))) (.step 8 [0] (.step 2 [0] (.step 3 [] (.step 4 [] (.step 5 [] (.step 6 [] (.step 7 [] (.step 9 [] (.step 10 [] (.done))))))))))))) (by decide+kernel) (by simp) ?_
   simp -dsimp only [go_sem]
   refine And.intro ?_ ?_
   all_goals
    refine(V0f l (i+1) k 7 _ (h.set (i+1)) (by omega) (by omega) (by omega)).mono ?_
    rintro r st' ⟨rfl,rfl⟩
    simp -dsimp only [go_sem,X0x,s3,s4]
   all_goals try refine And.intro ?_ ?_
   all_goals
    refine(Y1d most (-(nx l (i+1) 7:Int)) _ wmost).mono ?_
    rintro r st' ⟨rfl,rfl⟩
    simp -dsimp only [go_sem]
    exact⟨_,z6,z4,z5,rfl⟩
 rintro s ⟨least,q1,q2,q3,rfl⟩
 refine Q0a ?_
 simp -dsimp only [go_sem]
 refine Q0o Z0p 40 (.step 0 [] (.step 1 [] (.step 2 [] (.step 3 [] (.step 5 [] (.step 7 [] (.step 8 [] (.step 9 [] (.step 12 [] (.step 15 [] (.step 4 [7,8] (.step 6 [7,8] (.step 10 [7,8] (.step 11 [] (.step 13 [7,8] (.step 14 [] (.step 16 [7,8] (.step 17 [] (.step 18 [] (.step 19 [] (.done))))))))))))))))))))) (by decide+kernel) (by simp) ?_
 simp -dsimp only [go_sem,hfl]
 refine(K2y l (i+1+1) k n _ (h.set (i+1+1)) (by omega) (by omega)).mono ?_
 rintro r st' ⟨b,j,hbl,hbl2,hj1,hj2,rfl,rfl⟩
 simp -dsimp only [go_sem,X0x]
 refine(y2z l j k _ (h.set j) (by omega)).mono ?_
 rintro r st' ⟨q,hq0,hq1,rfl,rfl⟩
 simp -dsimp only [go_sem,X0x]
 refine(V0f l (j+2) k 49 _ (h.set (j+2)) (by omega) (by omega) (by omega)).mono ?_
 rintro r st' ⟨rfl,rfl⟩
 have k3:=k0k l (j+2) (n:=49) (by omega)
 generalize nx l (j+2) 49=pr at k3
 have s5:IntKind.i64.wrap (16+(pr:Int))=16+(pr:Int):=Q0q _ (by omega) (by omega)
 simp -dsimp only [go_sem,X0x,s5]
 refine(V0f l (j+2+1) k 3 _ (h.set (j+2+1)) (by omega) (by omega) (by omega)).mono ?_
 rintro r st' ⟨rfl,rfl⟩
 have k4:=k0k l (j+2+1) (n:=3) (by omega)
 generalize nx l (j+2+1) 3=od at k4
 have s6:IntKind.i64.wrap (2+(od:Int))=2+(od:Int):=Q0q _ (by omega) (by omega)
 simp -dsimp only [go_sem,X0x,s6]
 refine(V0f l (j+2+1+1) k 9 _ (h.set (j+2+1+1)) (by omega) (by omega) (by omega)).mono ?_
 rintro r st' ⟨rfl,rfl⟩
 have k5:=k0k l (j+2+1+1) (n:=9) (by omega)
 generalize nx l (j+2+1+1) 9=bu at k5
 have s7:IntKind.i64.wrap (1+(bu:Int))=1+(bu:Int):=Q0q _ (by omega) (by omega)
 simp -dsimp only [go_sem,X0x,s7]
 refine⟨⟨f,b,tq q,most,least,16+(pr:Int),2+(od:Int),1+(bu:Int)⟩,j+2+1+1+1,?_,rfl,by omega,by omega,rfl,rfl⟩
 exact⟨hf,hbl,fun m hm=>hbl2 m (by omega),⟨q,hq0,hq1,rfl⟩,m3,q1,q2,q3,by show(16:Int)≤16+(pr:Int);omega,by show 16+(pr:Int)≤64;omega,by show(2:Int)≤2+(od:Int);omega,by show 2+(od:Int)≤4;omega,by show(1:Int)≤1+(bu:Int);omega,by show 1+(bu:Int)≤9;omega⟩
end Go.Pv
end
section
/-The deck's Points,Frame. -/
set_option maxRecDepth 100000
namespace Go.Pv
open Go.Proofs
theorem H0u (q:List (List Nm)):(encQ q).all PV.quiet=true:=List.all_eq_true.2 fun p hp=>by
 simp only [encQ,List.mem_map] at hp
 obtain⟨x,_,rfl⟩:=hp
 rfl
theorem U1l (O:List (List Nm)) (R:List PV) (n:Nat) (h:n=O.length):(encQ O++R).take (n*1)=encQ O:=by
 rw [Nat.mul_one,h,show O.length=(encQ O).length from(V0q O).symm,List.take_left]
theorem H2u (O:List (List Nm)) (x:List Nm) (R:List PV):encQ O++(flat [PV.sl .no (Q0z x)]++R)=encQ (O++ [x])++R:=by
 simp [encQ,flat,PV.cells]
theorem x2x {O:List (List Nm)} {x:List Nm} {R:List PV} {cap n by_:Nat} {id:TypeId} (hn:n=O.length) (hc:n≤cap) (hR:R.length=(cap-n)*1) (hq:R.all PV.quiet=true) (hl:n+1≤1000) (hby:by_≤1000):
 k1q (encQ O++R) n cap [PV.sl .no (Q0z x)] ⟨id,1,by_,false,true,false⟩:=by
 refine⟨rfl,by show 0<1;decide,by show _=cap*1;rw [List.length_append,V0q,hR];omega,by simp;omega,?_,rfl,by rw [List.all_append,H0u,hq];rfl,rfl⟩
 show(n+ [PV.sl Tag.no (Q0z x)].length)*by_≤_
 have:(n+ [PV.sl Tag.no (Q0z x)].length)*by_≤1000*1000:=Nat.mul_le_mul (by simp;omega) hby
 omega
def k2i (n:Nat) (q:List Nm):Prop:=q.length=n∧ ∀i,i<n→Q0f (q.getD i default)=true
set_option maxHeartbeats 4000000 in
theorem j1z (l:List UInt64) (i k n:Nat) (st:Q0g) (h:atD st k l i) (hi:i≤600000000000) (hn:1≤n) (hn4:n≤4):PCalls Tryz.prog 93 [.gp k 0,.sc (.int .i64 n)] st
 (fun r st'=> ∃q j,q.length=n∧(∀m,m<n→k2i n (q.getD m []))∧i≤j∧j≤i+100∧r= .sl .no (encQ q)∧st'=st.set k (dk l j)):=by
 refine Q0b none Tryz.func93 rfl fun E=>Q0a ?_
 simp -dsimp only [go_sem]
 refine x1b ?_
 refine y0z 5 0 (by simp) (by rfl) ?_
 simp -dsimp only [go_sem]
 refine H0c [true,true,false,false,false,true,true] 1 0 (fun c s=> ∃(O:List (List Nm)) (j cap:Nat) (R:List PV),c=n-O.length∧O.length≤n∧(∀m,m<O.length→k2i n (O.getD m []))∧i≤j∧j≤i+4*O.length∧R.length=(cap-O.length)*1∧O.length≤cap∧R.all PV.quiet=true∧
  s=⟨[.gp k 0,.sc (.int .i64 n)]++(List.replicate 3 .junk++([.mr 0 O.length cap,.sc (.int .i64 O.length)]++(List.replicate 35 .junk))),[encQ O++R],[],st.set k (dk l j)⟩) n ?_ ?_
 · simp -dsimp only [go_sem]
   refine⟨[],i,0,[],by simp,by simp,fun m hm=>by simp at hm,by omega,by omega,rfl,Nat.le_refl _,rfl,?_⟩
   rw [h.same];rfl
 · rintro c s ⟨O,j,cap,R,rfl,hO,hr,hj,hj2,r1,r2,r3,rfl⟩
   have hall:(encQ O++R).all PV.quiet=true:=by rw [List.all_append,H0u,r3];rfl
   have hlims0:=V0b (a:=1) (b:=0) r3
   have hlims1:=V0b (a:=1) (b:=1) r3
   refine Q0h (Q0a ?_)
   simp -dsimp only [go_sem]
   refine ck (fun h1=> ?_) (fun h1=> ?_)
   · have hlt:O.length<n:=by have:=of_decide_eq_true h1;omega
     have x1:=G0k O.length (by omega)
     simp -dsimp only [go_sem]
     refine Q0h (w0b ?_)
     refine Q0h (Q0a ?_)
     simp -dsimp only [go_sem]
     refine Z0y 7 3 ?_
     simp -dsimp only [go_sem]
     have hlA:=V0b (a:=1) (b:=1) hall
     refine Q0x [true,true,false,false,false,true,true,true] 1 1 (fun s=> ∃(q:List Nm) (j':Nat),k2i n q∧j≤j'∧j'≤j+n∧s=⟨[.gp k 0,.sc (.int .i64 n)]++(List.replicate 3 .junk++([.mr 0 O.length cap,.sc (.int .i64 O.length),.sl (.own 0) (Q0z q)]++(List.replicate 34 .junk))),[encQ O++R],[(q.length,3)],st.set k (dk l j')⟩) ?_ ?_
     · simp -dsimp only [go_sem]
       refine Q0e [true,true,false,false,false,true,true,true,true] 1 1 (fun c s=> ∃(q:List Nm),c=n-q.length∧q.length≤n∧(∀m,m<q.length→Q0f (q.getD m default)=true)∧s=⟨[.gp k 0,.sc (.int .i64 n)]++(List.replicate 3 .junk++([.mr 0 O.length cap,.sc (.int .i64 O.length),.sl (.own 0) (Q0z q),.sc (.int .i64 q.length)]++(List.replicate 33 .junk))),[encQ O++R],[(q.length,3)],st.set k (dk l (j+q.length))⟩) n ?_ ?_
       · simp -dsimp only [go_sem]
         refine⟨hlA,[],by simp,by simp,fun m hm=>by simp at hm,?_⟩
         rfl
       · rintro c s ⟨q,rfl,hq,hqr,rfl⟩
         simp -dsimp only [go_sem]
         refine ck (fun h2=> ?_) (fun h2=> ?_)
         · have hlt2:q.length<n:=by have:=of_decide_eq_true h2;omega
           have x2:=G0k q.length (by omega)
           simp -dsimp only [go_sem]
           refine(j0z l (j+q.length) k _ (h.set (j+q.length)) (by omega)).mono ?_
           rintro r st' ⟨x,hx,rfl,rfl⟩
           simp -dsimp only [go_sem,X0x,x2]
           refine⟨by omega,hlA,n-(q.length+1),by omega,q++ [x],by simp,by simp;omega,fun m hm=> ?_,by simp [Q0z,encN,Nat.add_assoc]⟩
           by_cases hm2:m<q.length
           · rw [G1g _ _ _ _ hm2];exact hqr m hm2
           · have e:m=q.length:=by simp at hm;omega
             rw [e,v0i];exact hx
         · have hge:q.length=n:=by have:=of_decide_eq_false h2;omega
           simp -dsimp only [go_sem]
           exact⟨hlA,q,j+q.length,⟨hge,fun m hm=>hqr m (by omega)⟩,by omega,by omega,rfl⟩
     rintro s ⟨q,j',hrow,hj3,hj4,rfl⟩
     refine Z1q [false,false,false,true,false] ?_
     have t1:=U1l O R O.length rfl
     rw [Nat.mul_one] at t1
     simp -dsimp only [go_sem,t1,H2u]
     refine⟨x2x rfl r2 r1 r3 (by omega) (by omega),?_⟩
     intro c1 R1 g1 g2 g3
     have hall2:(encQ (O++ [q])++R1).all PV.quiet=true:=by rw [List.all_append,H0u,g3];rfl
     have hlims:=V0b (a:=1) (b:=0) hall2
     refine Q0a ?_
     simp -dsimp only [go_sem,x1]
     refine⟨hlims,n-(O.length+1),by omega,O++ [q],j',c1,R1,by simp,by simp;omega,fun m hm=> ?_,by omega,by simp;omega,by rw [g2];simp,by simpa using g1,g3,by simp⟩
     by_cases hm2:m<O.length
     · rw [G1g _ _ _ _ hm2];exact hr m hm2
     · have e:m=O.length:=by simp at hm;omega
       rw [e,v0i];exact hrow
   · have hge:O.length=n:=by have:=of_decide_eq_false h1;omega
     have hlB:=V0b (a:=1) (b:=0) hall
     simp -dsimp only [go_sem]
     refine Q0x [true,true,false,false,false,true] 1 0 (fun s=> ∃(O':List (List Nm)) (j':Nat),O'.length=n∧(∀m,m<n→k2i n (O'.getD m []))∧j≤j'∧j'≤j+1∧s=⟨[.gp k 0,.sc (.int .i64 n)]++(List.replicate 3 .junk++([.mr 0 n cap]++(List.replicate 36 .junk))),[encQ O'++R],[],st.set k (dk l j')⟩) ?_ ?_
     · rw [hge] at r1 r2 hr
       by_cases h3:1<n
       rotate_left
       · have d1:decide ((n:Int)>1)=false:=decide_eq_false (by omega)
         simp -dsimp only [go_sem,d1]
         exact⟨hlB,O,j,hge,hr,by omega,by omega,by rw [hge]⟩
       have d1:decide ((n:Int)>1)=true:=decide_eq_true (by omega)
       simp -dsimp only [go_sem,d1]
       refine(X2k l j k 9 _ (h.set j) (by omega) (by omega) (by omega)).mono ?_
       rintro r st' ⟨rfl,rfl⟩
       simp -dsimp only [go_sem,d1,X0x]
       refine ck (fun h4=> ?_) (fun h4=> ?_)
       · have x3:IntKind.i64.wrap ((n:Int)-1)=((n-1:Nat):Int):=by rw [Q0q _ (by omega) (by omega)];omega
         have g0:(encQ O++R).getD 0 .junk= .sl .no (Q0z (O.getD 0 [])):=by rw [Q0r _ _ _ _ (by rw [V0q];omega),j0e O 0 (by omega)]
         have hx0:(encQ O++R).length=O.length+R.length:=by rw [List.length_append,V0q]
         have ho:over (encQ O++R) (n-1) [PV.sl .no (Q0z (O.getD 0 []))]=encQ (O.set (n-1) (O.getD 0 []))++R:=by
          unfold over
          rw [List.take_append_of_le_length (by rw [V0q];omega),List.drop_append_of_le_length (by rw [V0q];simp;omega)]
          have e:encQ (O.set (n-1) (O.getD 0 []))=(encQ O).set (n-1) (.sl .no (Q0z (O.getD 0 []))):=by simp [encQ,List.map_set]
          rw [e,List.set_eq_take_append_cons_drop,if_pos (by rw [V0q];omega)]
          simp [List.append_assoc]
         have hlC:(encQ (O.set (n-1) (O.getD 0 []))++R).all (PV.lim 1 0)=true:=V0b (by rw [List.all_append,H0u,r3];rfl)
         simp -dsimp only [go_sem,x3,hge,hx0,g0,ho]
         refine⟨by omega,by omega,⟨by omega,by omega⟩,⟨by omega,by omega⟩,hlC,O.set (n-1) (O.getD 0 []),j+1,by simp [hge],fun m hm=> ?_,by omega,by omega,rfl⟩
         by_cases e:n-1=m
         · rw [e,Q0p _ _ _ _ (by omega)];exact hr 0 (by omega)
         · rw [Q0j _ _ _ _ _ e];exact hr m hm
       · simp -dsimp only [go_sem]
         exact⟨hlB,O,j+1,hge,hr,by omega,by omega,by rw [hge]⟩
     rintro s ⟨O',j',hl',hr',hj3,hj4,rfl⟩
     have hall':(encQ O'++R).all PV.quiet=true:=by rw [List.all_append,H0u,r3];rfl
     refine j2n 5 0 n cap (by rfl) (by omega) ?_
     simp -dsimp only [go_sem]
     have hft:List.take n (List.map PV.forget2 (encQ O'++R))=encQ O':=by
      have e:List.map PV.forget2 (encQ O')=encQ O':=by simp [encQ,PV.forget2,PV.forget1]
      have:=U1l O' (R.map PV.forget2) n hl'.symm
      rw [Nat.mul_one] at this
      rw [List.map_append,e];exact this
     have hln:n≤O'.length+R.length:=by omega
     refine x0z 0 (by simp only [G0c];exact H1a hall') ?_
     simp -dsimp only [go_sem,hft,hln]
     refine Q0a ?_
     simp -dsimp only [go_sem]
     exact⟨O',j',hl',hr',by omega,by omega,rfl,rfl⟩
set_option maxHeartbeats 2000000 in
theorem w1q (l:List UInt64) (i k n:Nat) (st:Q0g) (h:atD st k l i) (hi:i≤500000000000) (hn:1≤n) (hn4:n≤4):PCalls Tryz.prog 51 [.gp k 0,.sc (.int .i64 n)] st
 (fun r st'=> ∃f j,X0m f=true∧f.m.length=n∧i≤j∧j≤i+200∧r= .agg (H0v f)∧st'=st.set k (dk l j)):=by
 refine Q0b none Tryz.func51 rfl fun E=>Q0h (Q0a ?_)
 simp -dsimp only [go_sem]
 refine Q0h (Q0a ?_)
 simp -dsimp only [go_sem]
 refine(j1z l i k n st h (by omega) hn hn4).mono ?_
 rintro r st' ⟨q,j0,hq,hq2,hj,hj2,rfl,rfl⟩
 simp -dsimp only [go_sem]
 refine V0x 1 0 3 ?_
 simp -dsimp only [go_sem]
 refine V0x 1 2 6 ?_
 simp -dsimp only [go_sem]
 refine Q0a ?_
 simp -dsimp only [go_sem]
 refine Q0e [true,true,false,false,true,true,true] 2 2 (fun c s=> ∃(m:List Nm) (r:List Ivl),c=n-m.length∧m.length≤n∧r.length=m.length∧(∀i,i<m.length→Q0f (m.getD i default)=true)∧(∀i,i<m.length→hasI (r.getD i default) default=true)∧
  s=⟨[.gp k 0,.sc (.int .i64 n)]++(List.replicate 2 .junk++([.lp 0 0,.lp 1 0,.sc (.int .i64 m.length)]++(List.replicate 30 .junk))),[[.sl .full [],.sl .full [],.sl .full []],[.sl (.own 0) (Q0z m),.sl .no (encQ q),.sl (.own 1) (Q0u r)]],[(m.length,3),(r.length,6)],st.set k (dk l (j0+3*m.length))⟩) n ?_ ?_
 · simp -dsimp only [go_sem]
   exact⟨[],[],by simp,by simp,rfl,fun i hi=>by simp at hi,fun i hi=>by simp at hi,rfl⟩
 · rintro c s ⟨m,r,rfl,hm,hr,hmr,hrr,rfl⟩
   simp -dsimp only [go_sem]
   refine ck (fun h1=> ?_) (fun h1=> ?_)
   · have hlt:m.length<n:=by have:=of_decide_eq_true h1;omega
     have x1:=G0k m.length (by omega)
     simp -dsimp only [go_sem]
     refine Q0o Z0p 37 (.step 0 [] (.step 1 [] (.step 2 [] (.step 3 [1] (.step 4 [] (.step 5 [] (.step 6 [] (.step 7 [] (.done))))))))) (by decide+kernel) (by simp) ?_
     simp -dsimp only [go_sem]
     refine(j0z l (j0+3*m.length) k _ (h.set _) (by omega)).mono ?_
     rintro r' st' ⟨x,hx,rfl,rfl⟩
     simp -dsimp only [go_sem,X0x]
     refine⟨by omega,?_⟩
     refine Q0o Z0p 37 (.step 0 [] (.step 1 [] (.step 2 [] (.step 6 [] (.step 3 [1] (.step 4 [1] (.step 5 [1] (.step 7 [1] (.step 8 [1] (.step 9 [] (.step 10 [] (.step 11 [] (.step 12 [] (.step 13 [] (.done))))))))))))))) (by decide+kernel) (by simp) ?_
     simp -dsimp only [go_sem]
     refine(j0z l (j0+3*m.length+1) k _ (h.set _) (by omega)).mono ?_
     rintro r' st' ⟨y,hy,rfl,rfl⟩
     simp -dsimp only [go_sem,X0x]
     refine(j3p y _ (Q0t hy)).mono ?_
     rintro r' st' ⟨rfl,rfl⟩
     have ra:Q0f (absN y)=true:=Q1q y
     simp -dsimp only [go_sem]
     refine(K3m (absN y) _ (Q0t ra)).mono ?_
     rintro r' st' ⟨rfl,rfl⟩
     simp -dsimp only [go_sem]
     refine(j0z l (j0+3*m.length+1+1) k _ (h.set _) (by omega)).mono ?_
     rintro r' st' ⟨z,hz,rfl,rfl⟩
     simp -dsimp only [go_sem,X0x]
     refine(j3p z _ (Q0t hz)).mono ?_
     rintro r' st' ⟨rfl,rfl⟩
     simp -dsimp only [go_sem,x1]
     refine⟨by omega,n-(m.length+1),by omega,m++ [x],r++ [⟨Y0y (absN y),absN z⟩],by simp,by simp;omega,by simp [hr],fun i hi=> ?_,fun i hi=> ?_,?_⟩
     · by_cases hm2:i<m.length
       · rw [G1g _ _ _ _ hm2];exact hmr i hm2
       · have e:i=m.length:=by simp at hi;omega
         rw [e,v0i];exact hx
     · by_cases hm2:i<m.length
       · rw [G1g _ _ _ _ (by omega)];exact hrr i hm2
       · have e:i=r.length:=by simp at hi;omega
         rw [e,v0i];exact W2m y z
     · simp [Q0z,encN,Q0u,encI,Nat.mul_add,Nat.add_assoc]
   · have hge:m.length=n:=by have:=of_decide_eq_false h1;omega
     simp -dsimp only [go_sem]
     refine Y0u 1 ?_
     simp -dsimp only [go_sem]
     refine Q0a ?_
     simp -dsimp only [go_sem]
     refine⟨⟨m,q,r⟩,j0+3*m.length,Y1a (by show 1≤m.length;omega) (by show m.length≤4;omega) hmr (by show q.length=m.length;omega) (by show r.length=m.length;omega) (fun i hi=> ?_) (fun i hi=>hrr i (by have:i<r.length:=hi;omega)),hge,by omega,by omega,rfl,rfl⟩
     have hi:i<q.length:=hi
     obtain⟨a1,a2⟩:=hq2 i (by omega)
     exact⟨by show(q.getD i []).length=m.length;omega,fun j hj=>a2 j (by have:j<m.length:=hj;omega)⟩
end Go.Pv
end
section
/-The deck's State. -/
set_option maxRecDepth 100000
namespace Go.Pv
open Go.Proofs
theorem okPb.w {n:Nat} {p:Pb} (h:okPb n p) (hn:1≤n) (hn4:n≤4) (hf:wF p.fld):wPb p:=by
 obtain⟨h1,h2,h3,⟨q,q1,q2,h4⟩,h5,h6,_⟩:=h
 exact⟨hf,⟨by omega,fun i hi=>z1b (h3 i (by omega)).1⟩,by rw [h4];exact Q0t (K0f q),Q0t h5,Q0t h6⟩
set_option maxHeartbeats 4000000 in
theorem V1c (l:List UInt64) (i k n:Nat) (p:Pb) (st:Q0g) (h:atD st k l i) (hi:i≤400000000000) (hn:1≤n) (hn4:n≤4) (hp:okPb n p) (hf:wF p.fld):PCalls Tryz.prog 19 [.gp k 0,.agg (K1z p)] st
 (fun r st'=> ∃s j,Z0g s=true∧s.f.m.length=n∧i≤j∧j≤i+300∧r= .agg (J0v s)∧st'=st.set k (dk l j)):=by
 have wp:=hp.w hn hn4 hf
 obtain⟨b1,b2,b3⟩:=hp.begin hn hn4
 have hfr:=j1e (L:=20) (U:=20) (b:=p.box) (p:=p.prec) (by rw [hp.2.1];exact hn) (by rw [hp.2.1];exact hn4) (fun i hi=>hp.2.2.1 i (by rw [hp.2.1] at hi;exact hi)) (hp.right hn hn4).2 (by omega)
 obtain⟨p1,p2,p3,⟨q,q1,q2,p4⟩,p5,p6,p7,p8,p9,p10,p11,p12,p13,p14⟩:=hp
 have hbl:(W0l p.box p.prec).1.m.length=n:=by rw [hfr.2.2,p2]
 refine Q0b none Tryz.func19 rfl fun E=>Q0h (Q0a ?_)
 simp -dsimp only [go_sem]
 refine Q0h (Q0a ?_)
 simp -dsimp only [go_sem]
 have c0:PCalls Tryz.prog 49 [.agg (K1z p)] st (fun r st'=>r= .tup [.agg (J0v (y0d p).1),.sc (.int .i64 (y0d p).2)]∧st'=st):=J2n p st wp
 refine c0.mono ?_
 rintro r st ⟨rfl,rfl⟩
 rw [b1] at b3⊢
 simp -dsimp only [go_sem]
 refine Q0h (Q0a ?_)
 simp -dsimp only [go_sem]
 refine(X2k l i k 2 _ h (by omega) (by omega) (by omega)).mono ?_
 rintro r st' ⟨rfl,rfl⟩
 simp -dsimp only [go_sem]
 refine ck (fun h1=> ?_) (fun h1=> ?_)
 · simp -dsimp only [go_sem]
   exact⟨⟨0,default,p.most,(W0l p.box p.prec).1⟩,i+1,b3,hbl,by omega,by omega,rfl,rfl⟩
 simp -dsimp only [go_sem]
 have e1:IntKind.i64.wrap (p.budget+1)=((p.budget.toNat+1:Nat):Int):=by rw [Q0q _ (by omega) (by omega)];omega
 refine Q0h (Q0a ?_)
 simp -dsimp only [go_sem,e1]
 refine(V0f l (i+1) k (p.budget.toNat+1) _ (h.set (i+1)) (by omega) (by omega) (by omega)).mono ?_
 rintro r st' ⟨rfl,rfl⟩
 have k1:=k0k l (i+1) (n:=p.budget.toNat+1) (by omega)
 generalize nx l (i+1) (p.budget.toNat+1)=idx at k1
 simp -dsimp only [go_sem,X0x]
 refine Q0h (Q0a ?_)
 simp -dsimp only [go_sem,p2]
 refine(w1q l (i+1+1) k n _ (h.set (i+1+1)) (by omega) hn hn4).mono ?_
 rintro r st' ⟨f,j,f1,f2,hj,hj2,rfl,rfl⟩
 simp -dsimp only [go_sem,X0x]
 refine Q0x [true,false,false,true,true,true] 3 0 (fun s=> ∃(hh:Nm) (j':Nat),Q0f hh=true∧0<qN hh∧j≤j'∧j'≤j+1∧s=⟨[.gp k 0,.junk,.junk,.lp 0 0,.lp 1 0,.lp 2 0]++List.replicate 47 .junk,[K1z p,[.sc (.int .i64 0),.sc (.bool false),.sc (.int .i64 0),.sl .full [],.sc (.bool false),.sc (.int .i64 0),.sl .full [],.sl .full [],.sl .full [],.sl .full []],J0v ⟨idx,default,hh,f⟩],[],st.set k (dk l j')⟩) ?_ ?_
 · simp -dsimp only [go_sem]
   refine(X2k l j k 2 _ (h.set j) (by omega) (by omega) (by omega)).mono ?_
   rintro r st' ⟨rfl,rfl⟩
   simp -dsimp only [go_sem,X0x]
   refine ck (fun h2=> ?_) (fun h2=> ?_)
   · simp -dsimp only [go_sem]
     exact⟨p.least,j+1,p6,p7,by omega,by omega,rfl⟩
   · simp -dsimp only [go_sem]
     exact⟨p.most,j+1,p5,by grind,by omega,by omega,rfl⟩
 rintro s ⟨hh,j',u1,u2,u3,u4,rfl⟩
 refine Q0x [true,false,false,true,true,true,false,true,true] 4 0 (fun s=> ∃(t:Nm) (j2:Nat),Q0f t=true∧t.neg=false∧j≤j2∧j2≤j+2∧s=⟨[.gp k 0,.junk,.junk,.lp 0 0,.lp 1 0,.lp 2 0,.junk,.lp 3 0,.sc (.int .i64 0)]++List.replicate 44 .junk,[K1z p,[.sc (.int .i64 0),.sc (.bool false),.sc (.int .i64 0),.sl .full [],.sc (.bool false),.sc (.int .i64 0),.sl .full [],.sl .full [],.sl .full [],.sl .full []],J0v ⟨idx,default,hh,f⟩,encN t],[],st.set k (dk l j2)⟩) ?_ ?_
 · have k2:=k0k l j' (n:=3) (by omega)
   have s3:IntKind.i64.wrap (0-((1+nx l j' 3:Nat):Int))= -((1+nx l j' 3:Nat):Int):=by rw [Q0q _ (by omega) (by omega)];omega
   have s4:IntKind.i64.wrap (1+(nx l j' 3:Int))=((1+nx l j' 3:Nat):Int):=by rw [Q0q _ (by omega) (by omega)];omega
   have s5:IntKind.i64.wrap ((1+nx l j' 3:Nat):Int)=((1+nx l j' 3:Nat):Int):=Q0i _ (by omega)
   have hut:Q0f p.until'=true:=by rw [p4];exact K0f q
   have hul:=X3r q1 q2
   rw [←p4] at hul
   obtain⟨z1,z2⟩:=X1u (k:=1+nx l j' 3) hut hul.1 (by omega) (by omega)
   have z3:=(x0s z1).2
   obtain⟨z4,z5⟩:=Z2j z3 hul.2
   have z6:=z0e p.until' (-((1+nx l j' 3:Nat):Int))
   have wut:wN p.until':=Q0t hut
   simp -dsimp only [go_sem]
   refine Q0o Z0p 53 (.step 0 [] (.step 1 [] (.step 2 [] (.alt (.step 3 [1] (.step 4 [] (.step 5 [] (.alt (.step 6 [] (.step 7 [] (.step 8 [] (.step 9 [] (.step 10 [1] (.step 11 [] (.step 12 [] (.done)))))))) (.step 10 [1] (.step 6 [] (.step 7 [] (.step 8 [] (.step 9 [] (.step 11 [] (.step 12 [] (.done)))))))))))) (.step 10 [1] (.step 3 [1] (.step 4 [] (.step 5 [] (.step 6 [] (.step 7 [] (.step 8 [] (.step 9 [] (.step 11 [] (.step 12 [] (.done))))))))))))))) (by decide+kernel) (by simp) ?_
   simp -dsimp only [go_sem]
   refine And.intro ?_ ?_
   all_goals
    refine(V0f l j' k 3 _ (h.set j') (by omega) (by omega) (by omega)).mono ?_
    rintro r st' ⟨rfl,rfl⟩
    simp -dsimp only [go_sem,X0x,s3,s4,s5]
   all_goals try refine And.intro ?_ ?_
   all_goals
    refine(Y1d p.until' (-((1+nx l j' 3:Nat):Int)) _ wut).mono ?_
    rintro r st' ⟨rfl,rfl⟩
    simp -dsimp only [go_sem,z1]
    exact⟨_,j'+1,z6,(x1k z4).1,by omega,by omega,rfl⟩
 rintro s ⟨t,j2,v1,v2,v3,v4,rfl⟩
 refine Q0h (Q0a ?_)
 simp -dsimp only [go_sem]
 refine(X2k l j2 k 2 _ (h.set j2) (by omega) (by omega) (by omega)).mono ?_
 rintro r st' ⟨rfl,rfl⟩
 simp -dsimp only [go_sem,X0x]
 refine ck (fun h2=> ?_) (fun h2=> ?_)
 · simp -dsimp only [go_sem]
   refine Q0a ?_
   simp -dsimp only [go_sem]
   exact⟨⟨idx,t,hh,f⟩,j2+1,y0m (by omega) (by omega) v1 v2 u1 u2 f1,f2,by omega,by omega,rfl,rfl⟩
 · simp -dsimp only [go_sem]
   refine Q0a ?_
   simp -dsimp only [go_sem]
   exact⟨⟨idx,default,hh,f⟩,j2+1,y0m (by omega) (by omega) (by decide) rfl u1 u2 f1,f2,by omega,by omega,rfl,rfl⟩
end Go.Pv
end
