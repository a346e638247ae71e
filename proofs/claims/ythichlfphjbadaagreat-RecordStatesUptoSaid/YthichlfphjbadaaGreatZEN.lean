/- Parts of the walk: N127, N128, N129, N130. -/
import Derived.Test.YthichlfphjbadaaGreatZEH
import Derived.Test.YthichlfphjbadaaGreatZBX
import Derived.Test.YthichlfphjbadaaGreatZAF
import Derived.Test.YthichlfphjbadaaGreatZBV
import Derived.Test.YthichlfphjbadaaGreatZEE
import Derived.Test.YthichlfphjbadaaGreatZM
set_option linter.unusedVariables false
set_option linter.unusedSimpArgs false
section
/-Problems out of the deck. -/
set_option maxRecDepth 100000
namespace Go.Pv
open Go.Proofs
theorem J2t (c:Nat) (h:c<1000):valW [UInt64.ofNat c]=c:=by
 simp [valW,nW,val]
 omega
theorem k1e {w:List UInt64} {e:Int} (hw:Q0j (valW w)≤6) (h1: -6≤e) (h2:e≤2):0≤qN (U0e false w e).1:=by
 unfold U0e
 split
 · show 0≤qN default;rw [G0o];exact Rat.le_refl
 · split
   · show 0≤qN default;rw [G0o];exact Rat.le_refl
   · have hb:=K1b (neg:=false) (m:=valW w) (e:=e) (n:=6) (k:=6) hw (by omega) (by omega)
     have hf:=v0h hb (by omega) (by omega)
     rw [(J0f (q0c _ _ _) hf).2,v0d,←J0m e]
     exact qM_le.2 (by simp)
theorem H1f {L U:Nat} {x y:Nm} (hx:Q0f x=true) (hy:Q0f y=true) (h1:luQ L U (qN x)) (h2:luQ L U (qN y)) (hb:L+U+2≤4096):(J0j x y).2=0∧qN (J0j x y).1=qN x+qN y:=by
 have cc:=K0r (X0u hx) (X0u hy)
 have hl:luQ L (U+1) (qV (J0p (ofN x) (ofN y))):=by rw [K0z];exact H0v h1 h2
 have hf:=U0f cc hl (by omega)
 unfold J0j
 rw [if_pos ⟨hx,hy⟩]
 refine⟨hf,?_⟩
 rw [(J0f cc hf).2,K0z]
 rfl
theorem Q3j {x w:Nm} (hx:tN x) (hw:tN w) (h0:0≤qN w):luI 20 20 ⟨x,(J0j x w).1⟩:=by
 obtain⟨s1,s2⟩:=H1f hx.1.1 hw.1.1 hx.2 hw.2 (by omega)
 have hr:=Z1q x w
 refine⟨?_,hx.2.mono (by omega) (by omega),?_⟩
 · exact Y0g hx.1.1 hr (cmpN_le.2 (by show qN x≤qN (J0j x w).1;rw [s2];grind))
 · show luQ 20 20 (qN (J0j x w).1)
   rw [s2]
   exact(H0v hx.2 hw.2).mono (by omega) (by omega)
theorem v2p {neg:Bool} {c:Nat} {e:Int} (hc:c≤7) (h1: -6≤e) (h2:e≤2):tN (U0e neg [UInt64.ofNat c] e).1:=
 Q3m (by rw [J2t c (by omega)];exact bitlen_le_iff.2 (by omega)) h1 h2
set_option maxHeartbeats 1000000 in
theorem X2x (l:List UInt64) (i k n:Nat) (st:Q0g) (h:atD st k l i) (hi:i≤800000000000) (hn:n≤1000000):PCalls Tryz.prog 47 [.gp k 0,.sc (.int .i64 n)] st
 (fun r st'=> ∃b j,b.length=n∧(∀m,m<b.length→luI 20 20 (b.getD m default))∧i≤j∧j≤i+3*n∧r= .sl .no (Q0t b)∧st'=st.set k (dk l j)):=by
 refine Q0b none Tryz.func47 rfl fun E=>Q0a ?_
 simp -dsimp only [go_sem]
 refine X0k 5 6 ?_
 simp -dsimp only [go_sem]
 refine Q0e [true,true,false,false,false,true,true] 0 1 (fun m s=> ∃b j,m=n-b.length∧b.length≤n∧(∀m,m<b.length→luI 20 20 (b.getD m default))∧i≤j∧j≤i+3*b.length∧
  s=⟨[.gp k 0,.sc (.int .i64 n),.junk,.junk,.junk,.sl (.own 0) (Q0t b),.sc (.int .i64 b.length)]++List.replicate 34 .junk,[],[(b.length,6)],st.set k (dk l j)⟩) n ?_ ?_
 · simp -dsimp only [go_sem]
   refine⟨[],i,by simp,by simp,fun m hm=>by simp at hm,by omega,by omega,?_⟩
   rw [h.same];rfl
 · rintro m s ⟨b,j,rfl,hb,hr,hj,hj2,rfl⟩
   simp -dsimp only [go_sem]
   refine ck (fun h1=> ?_) (fun h1=> ?_)
   · have hlt:b.length<n:=by have:=of_decide_eq_true h1;omega
     have x1:IntKind.i64.wrap ((b.length:Int)+1)=((b.length+1:Nat):Int):=by
      rw [show((b.length:Int)+1)=((b.length+1:Nat):Int) from rfl,Q0k _ (by omega)]
     have c1:(l.getD (j+1) 0).toNat&&&7≤7:=Nat.and_le_right
     have c2:(l.getD (j+1+1) 0).toNat&&&7≤7:=Nat.and_le_right
     have v1:=(l.getD (j+1) 0).toNat_lt
     have v2:=(l.getD (j+1+1) 0).toNat_lt
     have a1:bAnd .u64 ((l.getD (j+1) 0).toNat:Int) 7=((UInt64.ofNat ((l.getD (j+1) 0).toNat&&&7)).toNat:Int):=by
      rw [show(7:Int)=((7:Nat):Int) from rfl,W0g _ _ (by omega) (by omega),V0u _ (by omega)]
     have a2:bAnd .u64 ((l.getD (j+1+1) 0).toNat:Int) 7=((UInt64.ofNat ((l.getD (j+1+1) 0).toNat&&&7)).toNat:Int):=by
      rw [show(7:Int)=((7:Nat):Int) from rfl,W0g _ _ (by omega) (by omega),V0u _ (by omega)]
     simp -dsimp only [go_sem]
     refine(J2m l j k 2 _ (h.set j) (by omega) (by omega) (by omega)).mono ?_
     rintro r st' ⟨rfl,rfl⟩
     simp -dsimp only [go_sem,K0f]
     refine(W1d l (j+1) k _ (h.set (j+1)) (by omega)).mono ?_
     rintro r st' ⟨rfl,rfl⟩
     generalize hyes:decide (nx l j 2=2-1)=yes
     simp -dsimp only [go_sem,K0f,a1]
     refine(Z2y yes [UInt64.ofNat ((l.getD (j+1) 0).toNat&&&7)] (-2) _ (by simp) (by omega) (by omega)).mono ?_
     rintro r st' ⟨rfl,rfl⟩
     have tx:tN (U0e yes [UInt64.ofNat ((l.getD (j+1) 0).toNat&&&7)] (-2)).1:=v2p c1 (by omega) (by omega)
     generalize (U0e yes [UInt64.ofNat ((l.getD (j+1) 0).toNat&&&7)] (-2)).1=x at tx
     simp -dsimp only [go_sem]
     refine(W1d l (j+1+1) k _ (h.set (j+1+1)) (by omega)).mono ?_
     rintro r st' ⟨rfl,rfl⟩
     simp -dsimp only [go_sem,K0f,a2]
     refine(Z2y false [UInt64.ofNat ((l.getD (j+1+1) 0).toNat&&&7)] (-6) _ (by simp) (by omega) (by omega)).mono ?_
     rintro r st' ⟨rfl,rfl⟩
     have tw:tN (U0e false [UInt64.ofNat ((l.getD (j+1+1) 0).toNat&&&7)] (-6)).1:=v2p c2 (by omega) (by omega)
     have tw0:0≤qN (U0e false [UInt64.ofNat ((l.getD (j+1+1) 0).toNat&&&7)] (-6)).1:=k1e (by rw [J2t _ (by omega)];exact bitlen_le_iff.2 (by omega)) (by omega) (by omega)
     generalize (U0e false [UInt64.ofNat ((l.getD (j+1+1) 0).toNat&&&7)] (-6)).1=w at tw tw0
     simp -dsimp only [go_sem]
     refine(Y1p x w _ (Z0g tx.1.1) (Z0g tw.1.1)).mono ?_
     rintro r st' ⟨rfl,rfl⟩
     have ti:=Q3j tx tw tw0
     generalize (J0j x w).1=y at ti
     simp -dsimp only [go_sem,x1]
     refine⟨by omega,n-(b.length+1),by omega,b++ [⟨x,y⟩],j+1+1+1,by simp,by simp;omega,fun m hm=> ?_,by omega,by simp;omega,by simp [Q0t,encI,encN]⟩
     by_cases hm2:m<b.length
     · rw [K2k _ _ _ _ hm2];exact hr m hm2
     · have e:m=b.length:=by simp at hm;omega
       rw [e,H1g];exact ti
   · have hge:b.length=n:=by have:=of_decide_eq_false h1;omega
     simp -dsimp only [go_sem]
     refine V0b [false,false,false,false,false,true] (Q0a ?_)
     simp -dsimp only [go_sem]
     exact⟨b,j,hge,hr,hj,by omega,rfl,rfl⟩
end Go.Pv
end
section
/-The deck's Problem. -/
set_option maxRecDepth 100000
namespace Go.Pv
open Go.Proofs
theorem y3r {k:Nat} :1≤p2 (k:Int):=by
 have h:qM 1 0≤qM ((2^k:Nat):Int) 0:=qM_le.2 (by have:=Nat.pow_pos (n:=k) (show 0<2 by decide);omega)
 have e1:qM 1 0=1:=by rw [←q1r];rfl
 have e2:qM ((2^k:Nat):Int) 0=p2 (k:Int):=by
  have:=W0m 1 k 0
  rw [q1r]
  simpa using this
 rwa [e1,e2] at h
theorem y1j {x y:Rat} {k:Nat} (h:y*p2 (k:Int)=x) (hx:0<x):0<y∧y≤x:=by
 have hy:=W2a h hx
 refine⟨hy,?_⟩
 have h1:=y3r (k:=k)
 have h2:=J0b (a:=y) (b:=p2 (k:Int)-1) (by grind) (by grind)
 grind
set_option maxHeartbeats 2000000 in
theorem G1f (l:List UInt64) (i k n:Nat) (f:List (List Mn)) (st:Q0g) (h:atD st k l i) (hi:i≤600000000000) (hn:1≤n) (hn4:n≤4) (hf:okField n 2 2 f):PCalls Tryz.prog 17 [.gp k 0,.sl .no (K0e f)] st
 (fun r st'=> ∃p j,okPb n p∧p.fld=f∧i≤j∧j≤i+100∧r= .agg (K1s p)∧st'=st.set k (dk l j)):=by
 have hfl:f.length=n:=hf.1
 refine Q0b none Tryz.func17 rfl fun E=>Q0h (Q0a ?_)
 simp -dsimp only [go_sem]
 refine Q0h (Q0a ?_)
 simp -dsimp only [go_sem]
 refine(W0x l i k 4 st h (by omega) (by omega) (by omega)).mono ?_
 rintro r st' ⟨rfl,rfl⟩
 have k1:=Q1g l i (n:=4) (by omega)
 generalize nx l i 4=a at k1
 have s1:IntKind.i64.wrap ((a:Int)-3)=(a:Int)-3:=Q0p _ (by omega) (by omega)
 have s2:IntKind.i64.wrap (a:Int)=(a:Int):=Q0k _ (by omega)
 simp -dsimp only [go_sem,s1,s2]
 refine(Z2y false [1] ((a:Int)-3) _ (by simp) (by omega) (by omega)).mono ?_
 rintro r st' ⟨rfl,rfl⟩
 have hmost:(U0e false [1] ((a:Int)-3)).1=tq (1*2^a):=by rw [show(1:UInt64)=UInt64.ofNat 1 from rfl,W2y 1 a (by decide) k1 (by decide)]
 rw [hmost]
 have hp2:1*2^a≤8:=by have:=Nat.pow_le_pow_right (show 0<2 by decide) (show a≤3 by omega);omega
 have hp0:0<1*2^a:=by have:=Nat.pow_pos (n:=a) (show 0<2 by decide);omega
 obtain⟨m1,m2⟩:=Q3i hp0 (by omega)
 have m3:Q0f (tq (1*2^a))=true:=k0u _
 generalize tq (1*2^a)=most at m1 m2 m3
 simp -dsimp only [go_sem]
 refine Z0y [true,true,false,false,true,true,true] 3 0 (fun s=> ∃least,Q0f least=true∧0<qN least∧qN least≤qN most∧s=⟨[.gp k 0,.sl .no (K0e f),.junk,.junk,.lp 0 0,.lp 1 0,.lp 2 0]++List.replicate 33 .junk,[[.sl .full [],.sl .full [],.sc (.bool false),.sc (.int .i64 0),.sl .full [],.sc (.bool false),.sc (.int .i64 0),.sl .full [],.sc (.bool false),.sc (.int .i64 0),.sl .full [],.sc (.int .i64 0),.sc (.int .i64 0),.sc (.int .i64 0)],encN most,encN least],[],st.set k (dk l (i+1+1))⟩) ?_ ?_
 · have k2:=Q1g l (i+1) (n:=7) (by omega)
   have s3:IntKind.i64.wrap (0-(nx l (i+1) 7:Int))= -(nx l (i+1) 7:Int):=by rw [Q0p _ (by omega) (by omega)];omega
   have s4:IntKind.i64.wrap (nx l (i+1) 7:Int)=(nx l (i+1) 7:Int):=Q0k _ (by omega)
   obtain⟨z1,z2⟩:=Z1m (k:=nx l (i+1) 7) m3 m1 (by omega) (by omega)
   have z3:=(x0c z1).2
   obtain⟨z4,z5⟩:=y1j z3 m2
   have z6:=q0n most (-(nx l (i+1) 7:Int))
   have wmost:wN most:=Z0g m3
   simp -dsimp only [go_sem]
   refine Q0m Z0t 40 (.step 0 [] (.step 1 [] (.alt (.step 2 [0] (.step 3 [] (.alt (.step 4 [] (.step 5 [] (.step 6 [] (.step 7 [] (.step 8 [0] (.step 9 [] (.step 10 [] (.done)))))))) (.step 8 [0] (.step 4 [] (.step 5 [] (.step 6 [] (.step 7 [] (.step 9 [] (.step 10 [] (.done))))))))))) (.step 8 [0] (.step 2 [0] (.step 3 [] (.step 4 [] (.step 5 [] (.step 6 [] (.step 7 [] (.step 9 [] (.step 10 [] (.done))))))))))))) (by decide+kernel) (by simp) ?_
   simp -dsimp only [go_sem]
   refine And.intro ?_ ?_
   all_goals
    refine(W0x l (i+1) k 7 _ (h.set (i+1)) (by omega) (by omega) (by omega)).mono ?_
    rintro r st' ⟨rfl,rfl⟩
    simp -dsimp only [go_sem,K0f,s3,s4]
   all_goals try refine And.intro ?_ ?_
   all_goals
    refine(V1o most (-(nx l (i+1) 7:Int)) _ wmost).mono ?_
    rintro r st' ⟨rfl,rfl⟩
    simp -dsimp only [go_sem]
    exact⟨_,z6,z4,z5,rfl⟩
 rintro s ⟨least,q1,q2,q3,rfl⟩
 refine Q0a ?_
 simp -dsimp only [go_sem]
 refine Q0m Z0t 40 (.step 0 [] (.step 1 [] (.step 2 [] (.step 3 [] (.step 5 [] (.step 7 [] (.step 8 [] (.step 9 [] (.step 12 [] (.step 15 [] (.step 4 [7,8] (.step 6 [7,8] (.step 10 [7,8] (.step 11 [] (.step 13 [7,8] (.step 14 [] (.step 16 [7,8] (.step 17 [] (.step 18 [] (.step 19 [] (.done))))))))))))))))))))) (by decide+kernel) (by simp) ?_
 simp -dsimp only [go_sem,hfl]
 refine(X2x l (i+1+1) k n _ (h.set (i+1+1)) (by omega) (by omega)).mono ?_
 rintro r st' ⟨b,j,hbl,hbl2,hj1,hj2,rfl,rfl⟩
 simp -dsimp only [go_sem,K0f]
 refine(Y3l l j k _ (h.set j) (by omega)).mono ?_
 rintro r st' ⟨q,hq0,hq1,rfl,rfl⟩
 simp -dsimp only [go_sem,K0f]
 refine(W0x l (j+2) k 49 _ (h.set (j+2)) (by omega) (by omega) (by omega)).mono ?_
 rintro r st' ⟨rfl,rfl⟩
 have k3:=Q1g l (j+2) (n:=49) (by omega)
 generalize nx l (j+2) 49=pr at k3
 have s5:IntKind.i64.wrap (16+(pr:Int))=16+(pr:Int):=Q0p _ (by omega) (by omega)
 simp -dsimp only [go_sem,K0f,s5]
 refine(W0x l (j+2+1) k 3 _ (h.set (j+2+1)) (by omega) (by omega) (by omega)).mono ?_
 rintro r st' ⟨rfl,rfl⟩
 have k4:=Q1g l (j+2+1) (n:=3) (by omega)
 generalize nx l (j+2+1) 3=od at k4
 have s6:IntKind.i64.wrap (2+(od:Int))=2+(od:Int):=Q0p _ (by omega) (by omega)
 simp -dsimp only [go_sem,K0f,s6]
 refine(W0x l (j+2+1+1) k 9 _ (h.set (j+2+1+1)) (by omega) (by omega) (by omega)).mono ?_
 rintro r st' ⟨rfl,rfl⟩
 have k5:=Q1g l (j+2+1+1) (n:=9) (by omega)
 generalize nx l (j+2+1+1) 9=bu at k5
 have s7:IntKind.i64.wrap (1+(bu:Int))=1+(bu:Int):=Q0p _ (by omega) (by omega)
 simp -dsimp only [go_sem,K0f,s7]
 refine⟨⟨f,b,tq q,most,least,16+(pr:Int),2+(od:Int),1+(bu:Int)⟩,j+2+1+1+1,?_,rfl,by omega,by omega,rfl,rfl⟩
 exact⟨hf,hbl,fun m hm=>hbl2 m (by omega),⟨q,hq0,hq1,rfl⟩,m3,q1,q2,q3,by show(16:Int)≤16+(pr:Int);omega,by show 16+(pr:Int)≤64;omega,by show(2:Int)≤2+(od:Int);omega,by show 2+(od:Int)≤4;omega,by show(1:Int)≤1+(bu:Int);omega,by show 1+(bu:Int)≤9;omega⟩
end Go.Pv
end
section
/-The deck's Points,Frame. -/
set_option maxRecDepth 100000
namespace Go.Pv
open Go.Proofs
theorem H0f (q:List (List Nm)):(encQ q).all PV.quiet=true:=List.all_eq_true.2 fun p hp=>by
 simp only [encQ,List.mem_map] at hp
 obtain⟨x,_,rfl⟩:=hp
 rfl
theorem W1w (O:List (List Nm)) (R:List PV) (n:Nat) (h:n=O.length):(encQ O++R).take (n*1)=encQ O:=by
 rw [Nat.mul_one,h,show O.length=(encQ O).length from(V0i O).symm,List.take_left]
theorem U2q (O:List (List Nm)) (x:List Nm) (R:List PV):encQ O++(flat [PV.sl .no (Q0w x)]++R)=encQ (O++ [x])++R:=by
 simp [encQ,flat,PV.cells]
theorem q2k {O:List (List Nm)} {x:List Nm} {R:List PV} {cap n by_:Nat} {id:TypeId} (hn:n=O.length) (hc:n≤cap) (hR:R.length=(cap-n)*1) (hq:R.all PV.quiet=true) (hl:n+1≤1000) (hby:by_≤1000):
 x1s (encQ O++R) n cap [PV.sl .no (Q0w x)] ⟨id,1,by_,false,true,false⟩:=by
 refine⟨rfl,by show 0<1;decide,by show _=cap*1;rw [List.length_append,V0i,hR];omega,by simp;omega,?_,rfl,by rw [List.all_append,H0f,hq];rfl,rfl⟩
 show(n+ [PV.sl Tag.no (Q0w x)].length)*by_≤_
 have:(n+ [PV.sl Tag.no (Q0w x)].length)*by_≤1000*1000:=Nat.mul_le_mul (by simp;omega) hby
 omega
def z2w (n:Nat) (q:List Nm):Prop:=q.length=n∧ ∀i,i<n→Q0f (q.getD i default)=true
set_option maxHeartbeats 4000000 in
theorem x1a (l:List UInt64) (i k n:Nat) (st:Q0g) (h:atD st k l i) (hi:i≤600000000000) (hn:1≤n) (hn4:n≤4):PCalls Tryz.prog 93 [.gp k 0,.sc (.int .i64 n)] st
 (fun r st'=> ∃q j,q.length=n∧(∀m,m<n→z2w n (q.getD m []))∧i≤j∧j≤i+100∧r= .sl .no (encQ q)∧st'=st.set k (dk l j)):=by
 refine Q0b none Tryz.func93 rfl fun E=>Q0a ?_
 simp -dsimp only [go_sem]
 refine q1g ?_
 refine w0t 5 0 (by simp) (by rfl) ?_
 simp -dsimp only [go_sem]
 refine G0p [true,true,false,false,false,true,true] 1 0 (fun c s=> ∃(O:List (List Nm)) (j cap:Nat) (R:List PV),c=n-O.length∧O.length≤n∧(∀m,m<O.length→z2w n (O.getD m []))∧i≤j∧j≤i+4*O.length∧R.length=(cap-O.length)*1∧O.length≤cap∧R.all PV.quiet=true∧
  s=⟨[.gp k 0,.sc (.int .i64 n)]++(List.replicate 3 .junk++([.mr 0 O.length cap,.sc (.int .i64 O.length)]++(List.replicate 35 .junk))),[encQ O++R],[],st.set k (dk l j)⟩) n ?_ ?_
 · simp -dsimp only [go_sem]
   refine⟨[],i,0,[],by simp,by simp,fun m hm=>by simp at hm,by omega,by omega,rfl,Nat.le_refl _,rfl,?_⟩
   rw [h.same];rfl
 · rintro c s ⟨O,j,cap,R,rfl,hO,hr,hj,hj2,r1,r2,r3,rfl⟩
   have hall:(encQ O++R).all PV.quiet=true:=by rw [List.all_append,H0f,r3];rfl
   have hlims0:=K0w (a:=1) (b:=0) r3
   have hlims1:=K0w (a:=1) (b:=1) r3
   refine Q0h (Q0a ?_)
   simp -dsimp only [go_sem]
   refine ck (fun h1=> ?_) (fun h1=> ?_)
   · have hlt:O.length<n:=by have:=of_decide_eq_true h1;omega
     have x1:=Y0r O.length (by omega)
     simp -dsimp only [go_sem]
     refine Q0h (v0e ?_)
     refine Q0h (Q0a ?_)
     simp -dsimp only [go_sem]
     refine X0k 7 3 ?_
     simp -dsimp only [go_sem]
     have hlA:=K0w (a:=1) (b:=1) hall
     refine Z0y [true,true,false,false,false,true,true,true] 1 1 (fun s=> ∃(q:List Nm) (j':Nat),z2w n q∧j≤j'∧j'≤j+n∧s=⟨[.gp k 0,.sc (.int .i64 n)]++(List.replicate 3 .junk++([.mr 0 O.length cap,.sc (.int .i64 O.length),.sl (.own 0) (Q0w q)]++(List.replicate 34 .junk))),[encQ O++R],[(q.length,3)],st.set k (dk l j')⟩) ?_ ?_
     · simp -dsimp only [go_sem]
       refine Q0e [true,true,false,false,false,true,true,true,true] 1 1 (fun c s=> ∃(q:List Nm),c=n-q.length∧q.length≤n∧(∀m,m<q.length→Q0f (q.getD m default)=true)∧s=⟨[.gp k 0,.sc (.int .i64 n)]++(List.replicate 3 .junk++([.mr 0 O.length cap,.sc (.int .i64 O.length),.sl (.own 0) (Q0w q),.sc (.int .i64 q.length)]++(List.replicate 33 .junk))),[encQ O++R],[(q.length,3)],st.set k (dk l (j+q.length))⟩) n ?_ ?_
       · simp -dsimp only [go_sem]
         refine⟨hlA,[],by simp,by simp,fun m hm=>by simp at hm,?_⟩
         rfl
       · rintro c s ⟨q,rfl,hq,hqr,rfl⟩
         simp -dsimp only [go_sem]
         refine ck (fun h2=> ?_) (fun h2=> ?_)
         · have hlt2:q.length<n:=by have:=of_decide_eq_true h2;omega
           have x2:=Y0r q.length (by omega)
           simp -dsimp only [go_sem]
           refine(Y1r l (j+q.length) k _ (h.set (j+q.length)) (by omega)).mono ?_
           rintro r st' ⟨x,hx,rfl,rfl⟩
           simp -dsimp only [go_sem,K0f,x2]
           refine⟨by omega,hlA,n-(q.length+1),by omega,q++ [x],by simp,by simp;omega,fun m hm=> ?_,by simp [Q0w,encN,Nat.add_assoc]⟩
           by_cases hm2:m<q.length
           · rw [K2k _ _ _ _ hm2];exact hqr m hm2
           · have e:m=q.length:=by simp at hm;omega
             rw [e,H1g];exact hx
         · have hge:q.length=n:=by have:=of_decide_eq_false h2;omega
           simp -dsimp only [go_sem]
           exact⟨hlA,q,j+q.length,⟨hge,fun m hm=>hqr m (by omega)⟩,by omega,by omega,rfl⟩
     rintro s ⟨q,j',hrow,hj3,hj4,rfl⟩
     refine Q1m [false,false,false,true,false] ?_
     have t1:=W1w O R O.length rfl
     rw [Nat.mul_one] at t1
     simp -dsimp only [go_sem,t1,U2q]
     refine⟨q2k rfl r2 r1 r3 (by omega) (by omega),?_⟩
     intro c1 R1 g1 g2 g3
     have hall2:(encQ (O++ [q])++R1).all PV.quiet=true:=by rw [List.all_append,H0f,g3];rfl
     have hlims:=K0w (a:=1) (b:=0) hall2
     refine Q0a ?_
     simp -dsimp only [go_sem,x1]
     refine⟨hlims,n-(O.length+1),by omega,O++ [q],j',c1,R1,by simp,by simp;omega,fun m hm=> ?_,by omega,by simp;omega,by rw [g2];simp,by simpa using g1,g3,by simp⟩
     by_cases hm2:m<O.length
     · rw [K2k _ _ _ _ hm2];exact hr m hm2
     · have e:m=O.length:=by simp at hm;omega
       rw [e,H1g];exact hrow
   · have hge:O.length=n:=by have:=of_decide_eq_false h1;omega
     have hlB:=K0w (a:=1) (b:=0) hall
     simp -dsimp only [go_sem]
     refine Z0y [true,true,false,false,false,true] 1 0 (fun s=> ∃(O':List (List Nm)) (j':Nat),O'.length=n∧(∀m,m<n→z2w n (O'.getD m []))∧j≤j'∧j'≤j+1∧s=⟨[.gp k 0,.sc (.int .i64 n)]++(List.replicate 3 .junk++([.mr 0 n cap]++(List.replicate 36 .junk))),[encQ O'++R],[],st.set k (dk l j')⟩) ?_ ?_
     · rw [hge] at r1 r2 hr
       by_cases h3:1<n
       rotate_left
       · have d1:decide ((n:Int)>1)=false:=decide_eq_false (by omega)
         simp -dsimp only [go_sem,d1]
         exact⟨hlB,O,j,hge,hr,by omega,by omega,by rw [hge]⟩
       have d1:decide ((n:Int)>1)=true:=decide_eq_true (by omega)
       simp -dsimp only [go_sem,d1]
       refine(J2m l j k 9 _ (h.set j) (by omega) (by omega) (by omega)).mono ?_
       rintro r st' ⟨rfl,rfl⟩
       simp -dsimp only [go_sem,d1,K0f]
       refine ck (fun h4=> ?_) (fun h4=> ?_)
       · have x3:IntKind.i64.wrap ((n:Int)-1)=((n-1:Nat):Int):=by rw [Q0p _ (by omega) (by omega)];omega
         have g0:(encQ O++R).getD 0 .junk= .sl .no (Q0w (O.getD 0 [])):=by rw [Q0o _ _ _ _ (by rw [V0i];omega),H0y O 0 (by omega)]
         have hx0:(encQ O++R).length=O.length+R.length:=by rw [List.length_append,V0i]
         have ho:over (encQ O++R) (n-1) [PV.sl .no (Q0w (O.getD 0 []))]=encQ (O.set (n-1) (O.getD 0 []))++R:=by
          unfold over
          rw [List.take_append_of_le_length (by rw [V0i];omega),List.drop_append_of_le_length (by rw [V0i];simp;omega)]
          have e:encQ (O.set (n-1) (O.getD 0 []))=(encQ O).set (n-1) (.sl .no (Q0w (O.getD 0 []))):=by simp [encQ,List.map_set]
          rw [e,List.set_eq_take_append_cons_drop,if_pos (by rw [V0i];omega)]
          simp [List.append_assoc]
         have hlC:(encQ (O.set (n-1) (O.getD 0 []))++R).all (PV.lim 1 0)=true:=K0w (by rw [List.all_append,H0f,r3];rfl)
         simp -dsimp only [go_sem,x3,hge,hx0,g0,ho]
         refine⟨by omega,by omega,⟨by omega,by omega⟩,⟨by omega,by omega⟩,hlC,O.set (n-1) (O.getD 0 []),j+1,by simp [hge],fun m hm=> ?_,by omega,by omega,rfl⟩
         by_cases e:n-1=m
         · rw [e,Q0n _ _ _ _ (by omega)];exact hr 0 (by omega)
         · rw [Q0i _ _ _ _ _ e];exact hr m hm
       · simp -dsimp only [go_sem]
         exact⟨hlB,O,j+1,hge,hr,by omega,by omega,by rw [hge]⟩
     rintro s ⟨O',j',hl',hr',hj3,hj4,rfl⟩
     have hall':(encQ O'++R).all PV.quiet=true:=by rw [List.all_append,H0f,r3];rfl
     refine z2c 5 0 n cap (by rfl) (by omega) ?_
     simp -dsimp only [go_sem]
     have hft:List.take n (List.map PV.forget2 (encQ O'++R))=encQ O':=by
      have e:List.map PV.forget2 (encQ O')=encQ O':=by simp [encQ,PV.forget2,PV.forget1]
      have:=W1w O' (R.map PV.forget2) n hl'.symm
      rw [Nat.mul_one] at this
      rw [List.map_append,e];exact this
     have hln:n≤O'.length+R.length:=by omega
     refine x0g 0 (by simp only [H0x];exact U1j hall') ?_
     simp -dsimp only [go_sem,hft,hln]
     refine Q0a ?_
     simp -dsimp only [go_sem]
     exact⟨O',j',hl',hr',by omega,by omega,rfl,rfl⟩
set_option maxHeartbeats 2000000 in
theorem k1s (l:List UInt64) (i k n:Nat) (st:Q0g) (h:atD st k l i) (hi:i≤500000000000) (hn:1≤n) (hn4:n≤4):PCalls Tryz.prog 51 [.gp k 0,.sc (.int .i64 n)] st
 (fun r st'=> ∃f j,X0i f=true∧f.m.length=n∧i≤j∧j≤i+200∧r= .agg (G0a f)∧st'=st.set k (dk l j)):=by
 refine Q0b none Tryz.func51 rfl fun E=>Q0h (Q0a ?_)
 simp -dsimp only [go_sem]
 refine Q0h (Q0a ?_)
 simp -dsimp only [go_sem]
 refine(x1a l i k n st h (by omega) hn hn4).mono ?_
 rintro r st' ⟨q,j0,hq,hq2,hj,hj2,rfl,rfl⟩
 simp -dsimp only [go_sem]
 refine q0u 1 0 3 ?_
 simp -dsimp only [go_sem]
 refine q0u 1 2 6 ?_
 simp -dsimp only [go_sem]
 refine Q0a ?_
 simp -dsimp only [go_sem]
 refine Q0e [true,true,false,false,true,true,true] 2 2 (fun c s=> ∃(m:List Nm) (r:List Ivl),c=n-m.length∧m.length≤n∧r.length=m.length∧(∀i,i<m.length→Q0f (m.getD i default)=true)∧(∀i,i<m.length→hasI (r.getD i default) default=true)∧
  s=⟨[.gp k 0,.sc (.int .i64 n)]++(List.replicate 2 .junk++([.lp 0 0,.lp 1 0,.sc (.int .i64 m.length)]++(List.replicate 30 .junk))),[[.sl .full [],.sl .full [],.sl .full []],[.sl (.own 0) (Q0w m),.sl .no (encQ q),.sl (.own 1) (Q0t r)]],[(m.length,3),(r.length,6)],st.set k (dk l (j0+3*m.length))⟩) n ?_ ?_
 · simp -dsimp only [go_sem]
   exact⟨[],[],by simp,by simp,rfl,fun i hi=>by simp at hi,fun i hi=>by simp at hi,rfl⟩
 · rintro c s ⟨m,r,rfl,hm,hr,hmr,hrr,rfl⟩
   simp -dsimp only [go_sem]
   refine ck (fun h1=> ?_) (fun h1=> ?_)
   · have hlt:m.length<n:=by have:=of_decide_eq_true h1;omega
     have x1:=Y0r m.length (by omega)
     simp -dsimp only [go_sem]
     refine Q0m Z0t 37 (.step 0 [] (.step 1 [] (.step 2 [] (.step 3 [1] (.step 4 [] (.step 5 [] (.step 6 [] (.step 7 [] (.done))))))))) (by decide+kernel) (by simp) ?_
     simp -dsimp only [go_sem]
     refine(Y1r l (j0+3*m.length) k _ (h.set _) (by omega)).mono ?_
     rintro r' st' ⟨x,hx,rfl,rfl⟩
     simp -dsimp only [go_sem,K0f]
     refine⟨by omega,?_⟩
     refine Q0m Z0t 37 (.step 0 [] (.step 1 [] (.step 2 [] (.step 6 [] (.step 3 [1] (.step 4 [1] (.step 5 [1] (.step 7 [1] (.step 8 [1] (.step 9 [] (.step 10 [] (.step 11 [] (.step 12 [] (.step 13 [] (.done))))))))))))))) (by decide+kernel) (by simp) ?_
     simp -dsimp only [go_sem]
     refine(Y1r l (j0+3*m.length+1) k _ (h.set _) (by omega)).mono ?_
     rintro r' st' ⟨y,hy,rfl,rfl⟩
     simp -dsimp only [go_sem,K0f]
     refine(z3g y _ (Z0g hy)).mono ?_
     rintro r' st' ⟨rfl,rfl⟩
     have ra:Q0f (absN y)=true:=y0j y
     simp -dsimp only [go_sem]
     refine(X3c (absN y) _ (Z0g ra)).mono ?_
     rintro r' st' ⟨rfl,rfl⟩
     simp -dsimp only [go_sem]
     refine(Y1r l (j0+3*m.length+1+1) k _ (h.set _) (by omega)).mono ?_
     rintro r' st' ⟨z,hz,rfl,rfl⟩
     simp -dsimp only [go_sem,K0f]
     refine(z3g z _ (Z0g hz)).mono ?_
     rintro r' st' ⟨rfl,rfl⟩
     simp -dsimp only [go_sem,x1]
     refine⟨by omega,n-(m.length+1),by omega,m++ [x],r++ [⟨Y0o (absN y),absN z⟩],by simp,by simp;omega,by simp [hr],fun i hi=> ?_,fun i hi=> ?_,?_⟩
     · by_cases hm2:i<m.length
       · rw [K2k _ _ _ _ hm2];exact hmr i hm2
       · have e:i=m.length:=by simp at hi;omega
         rw [e,H1g];exact hx
     · by_cases hm2:i<m.length
       · rw [K2k _ _ _ _ (by omega)];exact hrr i hm2
       · have e:i=r.length:=by simp at hi;omega
         rw [e,H1g];exact K2h y z
     · simp [Q0w,encN,Q0t,encI,Nat.mul_add,Nat.add_assoc]
   · have hge:m.length=n:=by have:=of_decide_eq_false h1;omega
     simp -dsimp only [go_sem]
     refine y0u 1 ?_
     simp -dsimp only [go_sem]
     refine Q0a ?_
     simp -dsimp only [go_sem]
     refine⟨⟨m,q,r⟩,j0+3*m.length,V1k (by show 1≤m.length;omega) (by show m.length≤4;omega) hmr (by show q.length=m.length;omega) (by show r.length=m.length;omega) (fun i hi=> ?_) (fun i hi=>hrr i (by have:i<r.length:=hi;omega)),hge,by omega,by omega,rfl,rfl⟩
     have hi:i<q.length:=hi
     obtain⟨a1,a2⟩:=hq2 i (by omega)
     exact⟨by show(q.getD i []).length=m.length;omega,fun j hj=>a2 j (by have:j<m.length:=hj;omega)⟩
end Go.Pv
end
section
/-The deck's State. -/
set_option maxRecDepth 100000
namespace Go.Pv
open Go.Proofs
theorem okPb.w {n:Nat} {p:Pb} (h:okPb n p) (hn:1≤n) (hn4:n≤4) (hf:wF p.fld):wPb p:=by
 obtain⟨h1,h2,h3,⟨q,q1,q2,h4⟩,h5,h6,_⟩:=h
 exact⟨hf,⟨by omega,fun i hi=>H1n (h3 i (by omega)).1⟩,by rw [h4];exact Z0g (k0u q),Z0g h5,Z0g h6⟩
set_option maxHeartbeats 4000000 in
theorem k1r (l:List UInt64) (i k n:Nat) (p:Pb) (st:Q0g) (h:atD st k l i) (hi:i≤400000000000) (hn:1≤n) (hn4:n≤4) (hp:okPb n p) (hf:wF p.fld):PCalls Tryz.prog 19 [.gp k 0,.agg (K1s p)] st
 (fun r st'=> ∃s j,Q0z s=true∧s.f.m.length=n∧i≤j∧j≤i+300∧r= .agg (J0h s)∧st'=st.set k (dk l j)):=by
 have wp:=hp.w hn hn4 hf
 obtain⟨b1,b2,b3⟩:=hp.begin hn hn4
 have hfr:=z1k (L:=20) (U:=20) (b:=p.box) (p:=p.prec) (by rw [hp.2.1];exact hn) (by rw [hp.2.1];exact hn4) (fun i hi=>hp.2.2.1 i (by rw [hp.2.1] at hi;exact hi)) (hp.right hn hn4).2 (by omega)
 obtain⟨p1,p2,p3,⟨q,q1,q2,p4⟩,p5,p6,p7,p8,p9,p10,p11,p12,p13,p14⟩:=hp
 have hbl:(W0b p.box p.prec).1.m.length=n:=by rw [hfr.2.2,p2]
 refine Q0b none Tryz.func19 rfl fun E=>Q0h (Q0a ?_)
 simp -dsimp only [go_sem]
 refine Q0h (Q0a ?_)
 simp -dsimp only [go_sem]
 have c0:PCalls Tryz.prog 49 [.agg (K1s p)] st (fun r st'=>r= .tup [.agg (J0h (w0a p).1),.sc (.int .i64 (w0a p).2)]∧st'=st):=Z2k p st wp
 refine c0.mono ?_
 rintro r st ⟨rfl,rfl⟩
 rw [b1] at b3⊢
 simp -dsimp only [go_sem]
 refine Q0h (Q0a ?_)
 simp -dsimp only [go_sem]
 refine(J2m l i k 2 _ h (by omega) (by omega) (by omega)).mono ?_
 rintro r st' ⟨rfl,rfl⟩
 simp -dsimp only [go_sem]
 refine ck (fun h1=> ?_) (fun h1=> ?_)
 · simp -dsimp only [go_sem]
   exact⟨⟨0,default,p.most,(W0b p.box p.prec).1⟩,i+1,b3,hbl,by omega,by omega,rfl,rfl⟩
 simp -dsimp only [go_sem]
 have e1:IntKind.i64.wrap (p.budget+1)=((p.budget.toNat+1:Nat):Int):=by rw [Q0p _ (by omega) (by omega)];omega
 refine Q0h (Q0a ?_)
 simp -dsimp only [go_sem,e1]
 refine(W0x l (i+1) k (p.budget.toNat+1) _ (h.set (i+1)) (by omega) (by omega) (by omega)).mono ?_
 rintro r st' ⟨rfl,rfl⟩
 have k1:=Q1g l (i+1) (n:=p.budget.toNat+1) (by omega)
 generalize nx l (i+1) (p.budget.toNat+1)=idx at k1
 simp -dsimp only [go_sem,K0f]
 refine Q0h (Q0a ?_)
 simp -dsimp only [go_sem,p2]
 refine(k1s l (i+1+1) k n _ (h.set (i+1+1)) (by omega) hn hn4).mono ?_
 rintro r st' ⟨f,j,f1,f2,hj,hj2,rfl,rfl⟩
 simp -dsimp only [go_sem,K0f]
 refine Z0y [true,false,false,true,true,true] 3 0 (fun s=> ∃(hh:Nm) (j':Nat),Q0f hh=true∧0<qN hh∧j≤j'∧j'≤j+1∧s=⟨[.gp k 0,.junk,.junk,.lp 0 0,.lp 1 0,.lp 2 0]++List.replicate 47 .junk,[K1s p,[.sc (.int .i64 0),.sc (.bool false),.sc (.int .i64 0),.sl .full [],.sc (.bool false),.sc (.int .i64 0),.sl .full [],.sl .full [],.sl .full [],.sl .full []],J0h ⟨idx,default,hh,f⟩],[],st.set k (dk l j')⟩) ?_ ?_
 · simp -dsimp only [go_sem]
   refine(J2m l j k 2 _ (h.set j) (by omega) (by omega) (by omega)).mono ?_
   rintro r st' ⟨rfl,rfl⟩
   simp -dsimp only [go_sem,K0f]
   refine ck (fun h2=> ?_) (fun h2=> ?_)
   · simp -dsimp only [go_sem]
     exact⟨p.least,j+1,p6,p7,by omega,by omega,rfl⟩
   · simp -dsimp only [go_sem]
     exact⟨p.most,j+1,p5,by grind,by omega,by omega,rfl⟩
 rintro s ⟨hh,j',u1,u2,u3,u4,rfl⟩
 refine Z0y [true,false,false,true,true,true,false,true,true] 4 0 (fun s=> ∃(t:Nm) (j2:Nat),Q0f t=true∧t.neg=false∧j≤j2∧j2≤j+2∧s=⟨[.gp k 0,.junk,.junk,.lp 0 0,.lp 1 0,.lp 2 0,.junk,.lp 3 0,.sc (.int .i64 0)]++List.replicate 44 .junk,[K1s p,[.sc (.int .i64 0),.sc (.bool false),.sc (.int .i64 0),.sl .full [],.sc (.bool false),.sc (.int .i64 0),.sl .full [],.sl .full [],.sl .full [],.sl .full []],J0h ⟨idx,default,hh,f⟩,encN t],[],st.set k (dk l j2)⟩) ?_ ?_
 · have k2:=Q1g l j' (n:=3) (by omega)
   have s3:IntKind.i64.wrap (0-((1+nx l j' 3:Nat):Int))= -((1+nx l j' 3:Nat):Int):=by rw [Q0p _ (by omega) (by omega)];omega
   have s4:IntKind.i64.wrap (1+(nx l j' 3:Int))=((1+nx l j' 3:Nat):Int):=by rw [Q0p _ (by omega) (by omega)];omega
   have s5:IntKind.i64.wrap ((1+nx l j' 3:Nat):Int)=((1+nx l j' 3:Nat):Int):=Q0k _ (by omega)
   have hut:Q0f p.until'=true:=by rw [p4];exact k0u q
   have hul:=Q3i q1 q2
   rw [←p4] at hul
   obtain⟨z1,z2⟩:=Z1m (k:=1+nx l j' 3) hut hul.1 (by omega) (by omega)
   have z3:=(x0c z1).2
   obtain⟨z4,z5⟩:=y1j z3 hul.2
   have z6:=q0n p.until' (-((1+nx l j' 3:Nat):Int))
   have wut:wN p.until':=Z0g hut
   simp -dsimp only [go_sem]
   refine Q0m Z0t 53 (.step 0 [] (.step 1 [] (.step 2 [] (.alt (.step 3 [1] (.step 4 [] (.step 5 [] (.alt (.step 6 [] (.step 7 [] (.step 8 [] (.step 9 [] (.step 10 [1] (.step 11 [] (.step 12 [] (.done)))))))) (.step 10 [1] (.step 6 [] (.step 7 [] (.step 8 [] (.step 9 [] (.step 11 [] (.step 12 [] (.done)))))))))))) (.step 10 [1] (.step 3 [1] (.step 4 [] (.step 5 [] (.step 6 [] (.step 7 [] (.step 8 [] (.step 9 [] (.step 11 [] (.step 12 [] (.done))))))))))))))) (by decide+kernel) (by simp) ?_
   simp -dsimp only [go_sem]
   refine And.intro ?_ ?_
   all_goals
    refine(W0x l j' k 3 _ (h.set j') (by omega) (by omega) (by omega)).mono ?_
    rintro r st' ⟨rfl,rfl⟩
    simp -dsimp only [go_sem,K0f,s3,s4,s5]
   all_goals try refine And.intro ?_ ?_
   all_goals
    refine(V1o p.until' (-((1+nx l j' 3:Nat):Int)) _ wut).mono ?_
    rintro r st' ⟨rfl,rfl⟩
    simp -dsimp only [go_sem,z1]
    exact⟨_,j'+1,z6,(q1p z4).1,by omega,by omega,rfl⟩
 rintro s ⟨t,j2,v1,v2,v3,v4,rfl⟩
 refine Q0h (Q0a ?_)
 simp -dsimp only [go_sem]
 refine(J2m l j2 k 2 _ (h.set j2) (by omega) (by omega) (by omega)).mono ?_
 rintro r st' ⟨rfl,rfl⟩
 simp -dsimp only [go_sem,K0f]
 refine ck (fun h2=> ?_) (fun h2=> ?_)
 · simp -dsimp only [go_sem]
   refine Q0a ?_
   simp -dsimp only [go_sem]
   exact⟨⟨idx,t,hh,f⟩,j2+1,w0g (by omega) (by omega) v1 v2 u1 u2 f1,f2,by omega,by omega,rfl,rfl⟩
 · simp -dsimp only [go_sem]
   refine Q0a ?_
   simp -dsimp only [go_sem]
   exact⟨⟨idx,default,hh,f⟩,j2+1,w0g (by omega) (by omega) (by decide) rfl u1 u2 f1,f2,by omega,by omega,rfl,rfl⟩
end Go.Pv
end
