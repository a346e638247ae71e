/- Parts of the walk: H1, H2, H3, H10. -/
import Derived.Test.YtagacielooaapaaGreatDoorZH
import Derived.Test.YtagacielooaapaaGreatDoorZL
set_option linter.unusedVariables false
set_option linter.unusedSimpArgs false
section
/-The document's Words,Val.Num,Make. -/
set_option maxRecDepth 100000
namespace Go.Pv
open Go.Proofs
theorem K3d (m:Nat) (st:Q0e) (hm:(Q0d m).length≤1000000000000):PCalls Tryz.prog 160 [.sl .no (encD (Q0d m))] st (fun r st'=>r= .sl .no (encW (Q0o m))∧st'=st):=by
 rw [←k2w m]
 obtain⟨a,ha⟩: ∃a,a=Q0d m:=⟨_,rfl⟩
 rw [←ha] at hm⊢
 refine Q0b none Tryz.func160 rfl fun E=>Q0a ?_
 simp -dsimp only [go_sem]
 refine X0y 3 1 ?_
 simp -dsimp only [go_sem]
 refine Q0f [true,false,false,true,true] 0 1 (fun n s=> ∃k,n=a.length+1-2*k∧2*k≤a.length+1∧
  s=⟨[.sl .no (encD a),.junk,.junk,.sl (.own 0) (encW (pk a k)),.sc (.int .i64 (2*k:Nat))]++List.replicate 31 .junk,[],[((pk a k).length,1)],st⟩) (a.length+1) ?_ ?_
 · simp -dsimp only [go_sem]
   exact⟨0,by omega,by omega,rfl⟩
 · rintro n s ⟨k,rfl,hk,rfl⟩
   simp -dsimp only [go_sem]
   refine ck (fun h=> ?_) (fun h=> ?_)
   · have hlt:2*k<a.length:=by have:=of_decide_eq_true h;omega
     have g1:=J0i a (2*k) hlt
     have h1:=(a.getD (2*k) 0).toNat_lt
     have h2:=(a.getD (2*k+1) 0).toNat_lt
     have x1:IntKind.i64.wrap (((2*k:Nat):Int)+1)=((2*k+1:Nat):Int):=by
      rw [show(((2*k:Nat):Int)+1)=((2*k+1:Nat):Int) from rfl,Q0k _ (by omega)]
     have x2:IntKind.i64.wrap (((2*k:Nat):Int)+2)=((2*(k+1):Nat):Int):=by
      rw [show(((2*k:Nat):Int)+2)=((2*(k+1):Nat):Int) from by omega,Q0k _ (by omega)]
     have w1:IntKind.u64.wrap ((a.getD (2*k) 0).toNat:Int)=((a.getD (2*k) 0).toNat:Int):=J0e _ (by omega)
     have w2:IntKind.u64.wrap ((a.getD (2*k+1) 0).toNat:Int)=((a.getD (2*k+1) 0).toNat:Int):=J0e _ (by omega)
     have ew:=v1i a k
     have en:=v1j a k
     have pl:=H0s a k
     simp -dsimp only [go_sem,g1,x1,w1]
     refine⟨by omega,?_⟩
     refine ck (fun h5=> ?_) (fun h5=> ?_)
     · have hlt2:2*k+1<a.length:=by have:=of_decide_eq_true h5;omega
       have g2:=J0i a (2*k+1) hlt2
       have s1:bOr .u64 ((a.getD (2*k) 0).toNat:Int) (bShl .u64 ((a.getD (2*k+1) 0).toNat:Int) 32)=((UInt64.ofNat ((a.getD (2*k) 0).toNat+4294967296*(a.getD (2*k+1) 0).toNat)).toNat:Int):=by
        rw [ew,show(32:Int)=((32:Nat):Int) from rfl,y0p _ 32 (by omega),H1m _ _ (by omega) (Nat.mod_lt _ (by decide)),z1x _ _ 32 (by omega) (k0p _ 32 (by omega))]
        congr 1
        omega
       simp -dsimp only [go_sem,x1,x2,g2,w2,s1]
       refine⟨by omega,by omega,a.length+1-2*(k+1),by omega,k+1,rfl,by omega,by rw [en];simp⟩
     · have h0:a.getD (2*k+1) 0=0:=H0e _ _ _ (by have:=of_decide_eq_false h5;omega)
       have s1:((a.getD (2*k) 0).toNat:Int)=((UInt64.ofNat ((a.getD (2*k) 0).toNat+4294967296*(a.getD (2*k+1) 0).toNat)).toNat:Int):=by
        rw [ew,h0];rfl
       simp -dsimp only [go_sem,x2]
       rw [s1,q2g,←en]
       refine⟨by omega,a.length+1-2*(k+1),by omega,k+1,rfl,by omega,by simp [H0s]⟩
   · have hge:k=(a.length+1)/2:=by have:=of_decide_eq_false h;omega
     simp -dsimp only [go_sem]
     refine V0c [false,false,false,true] (Q0a ?_)
     simp -dsimp only [go_sem]
     rw [hge]
theorem W2n (v:Vl) (st:Q0e) (hm:(Q0d v.m).length≤1000000000000):PCalls Tryz.prog 94 [.agg (encV v)] st (fun r st'=>r= .tup [.agg (encN (numV v).1),.sc (.int .i64 (numV v).2)]∧st'=st):=by
 refine Q0b none Tryz.func94 rfl fun E=>Q0a ?_
 simp -dsimp only [go_sem]
 refine ck (fun h=> ?_) (fun h=> ?_)
 · have h0:v.m=0:=digitsOf_nil.1 (List.length_eq_zero_iff.1 (Y0q (b:=0) h))
   simp -dsimp only [go_sem]
   rw [numV,if_pos h0];rfl
 · have h0:v.m≠0:=fun e=>z0f (b:=0) h (by rw [e,Z0f];rfl)
   simp -dsimp only [go_sem]
   refine(K3d v.m st hm).mono ?_
   rintro r st ⟨rfl,rfl⟩
   simp -dsimp only [go_sem]
   have bad:64<(Q0o v.m).length∨v.e< -65536∨65536<v.e→numV v=(default,2):=fun h=>by rw [numV,if_neg h0,if_pos h]
   refine gkF (fun h1=> ?_) (fun h1=> ?_)
   · have h1':=of_decide_eq_false h1
     simp -dsimp only [go_sem,h1]
     refine gkF (fun h2=> ?_) (fun h2=> ?_)
     · have h2':=of_decide_eq_false h2
       simp -dsimp only [go_sem,h1,h2]
       refine ck (fun h3=> ?_) (fun h3=> ?_)
       · have h3':=of_decide_eq_true h3
         simp -dsimp only [go_sem]
         rw [bad (by omega)];rfl
       · have h3':=of_decide_eq_false h3
         simp -dsimp only [go_sem]
         rw [numV,if_neg h0,if_neg (by omega)]
     · have h2':=of_decide_eq_true h2
       simp -dsimp only [go_sem,h1,h2]
       rw [bad (by omega)];rfl
   · have h1':=of_decide_eq_true h1
     simp -dsimp only [go_sem,h1]
     rw [bad (by omega)];rfl
theorem j3k (neg:Bool) (w:List UInt64) (e:Int) (st:Q0e) (hw:w.length≤1000000000) (he1: -1000000000000≤e) (he2:e≤1000000000000):PCalls Tryz.prog 129 [.sc (.bool neg),.sl .no (encW w),.sc (.int .i64 e)] st (fun r st'=>r= .tup [.agg (encN (Q1o neg w e).1),.sc (.int .i64 (Q1o neg w e).2)]∧st'=st):=by
 have hb:=G0x w
 unfold K0j at hb
 have hl:=X0s (valW w)
 have ht:=z0l (valW w)
 refine Q0b none Tryz.func129 rfl fun E=>Q0a ?_
 simp -dsimp only [go_sem]
 refine(U2p w st (by omega)).mono ?_
 rintro r st ⟨rfl,rfl⟩
 simp -dsimp only [go_sem]
 refine ck (fun h=> ?_) (fun h=> ?_)
 · have h0:valW w=0:=digitsOf_nil.1 (List.length_eq_zero_iff.1 (Y0q (b:=0) h))
   simp -dsimp only [go_sem]
   rw [Q1o,if_pos h0];rfl
 · have h0:valW w≠0:=fun e=>z0f (b:=0) h (by rw [e,Z0f];rfl)
   have w1:IntKind.i64.wrap (-65536-(tz (valW w):Int))= -65536-(tz (valW w):Int):=Q0j _ (by omega) (by omega)
   simp -dsimp only [go_sem,w1]
   have bad:65536<e∨e< -65536-(tz (valW w):Int)→Q1o neg w e=(default,2):=fun h=>by rw [Q1o,if_neg h0,if_pos h]
   refine gkF (fun h1=> ?_) (fun h1=> ?_)
   · have h1':=of_decide_eq_false h1
     simp -dsimp only [go_sem,h1]
     refine(W2c (valW w) st (by omega)).mono ?_
     rintro r st ⟨rfl,rfl⟩
     simp -dsimp only [go_sem,h1,w1]
     refine ck (fun h2=> ?_) (fun h2=> ?_)
     · have h2':=of_decide_eq_true h2
       simp -dsimp only [go_sem]
       rw [bad (by omega)];rfl
     · have h2':=of_decide_eq_false h2
       simp -dsimp only [go_sem]
       refine(K2p neg (valW w) e st (by omega) (by omega) (by omega)).mono ?_
       rintro r st ⟨rfl,rfl⟩
       simp -dsimp only [go_sem]
       have hv:(Q0d (oddV neg (valW w) e).m).length≤1000000000000:=by
        have:(oddV neg (valW w) e).m≤valW w:=by
         unfold oddV;split
         · exact Nat.zero_le _
         · exact Nat.div_le_self _ _
        have h1:=X0s (oddV neg (valW w) e).m
        have h2:=G0j this
        omega
       refine(W2n _ st hv).mono ?_
       rintro r st ⟨rfl,rfl⟩
       simp -dsimp only [go_sem]
       rw [Q1o,if_neg h0,if_neg (by omega)]
   · have h1':=of_decide_eq_true h1
     simp -dsimp only [go_sem,h1]
     rw [bad (by omega)];rfl
theorem j3b (neg:Bool) (w:List UInt64) (e:Int) (st:Q0e) (hw:w.length≤1000000000) (he1: -1000000000000≤e) (he2:e≤1000000000000):PCalls Tryz.prog 67 [.sc (.bool neg),.sl .no (encW w),.sc (.int .i64 e)] st (fun r st'=>r= .agg (encN (Q1o neg w e).1)∧st'=st):=by
 refine Q0b none Tryz.func67 rfl fun E=>Q0a ?_
 simp -dsimp only [go_sem]
 refine(j3k neg w e st hw he1 he2).mono ?_
 rintro r st ⟨rfl,rfl⟩
 simp -dsimp only [go_sem]
end Go.Pv
end
section
/-The deck:Of,Next,N,Yes. -/
set_option maxRecDepth 100000
namespace Go.Pv
open Go.Proofs
def dk (l:List UInt64) (i:Nat):List PV:= [.sl .no (encW l),.sc (.int .i64 i)]
def atD (st:Q0e) (k:Nat) (l:List UInt64) (i:Nat):Prop:=st.getD k []=dk l i
theorem atD.lt {st:Q0e} {k:Nat} {l:List UInt64} {i:Nat} (h:atD st k l i):k<st.length:=by
 refine Nat.lt_of_not_le fun hn=> ?_
 unfold atD at h
 rw [List.getD_eq_getElem?_getD,List.getElem?_eq_none hn] at h
 cases h
theorem atD.set {st:Q0e} {k:Nat} {l:List UInt64} {i:Nat} (h:atD st k l i) (j:Nat):atD (st.set k (dk l j)) k l j:=by
 unfold atD
 rw [Q0r _ _ _ _ h.lt]
theorem atD.same {st:Q0e} {k:Nat} {l:List UInt64} {i:Nat} (h:atD st k l i):st.set k (dk l i)=st:=by
 have hlt:=h.lt
 unfold atD at h
 rw [←h,List.getD_eq_getElem?_getD,List.getElem?_eq_getElem hlt,Option.getD_some,List.set_getElem_self]
theorem Z1c (st:Q0e) (k:Nat) (l:List UInt64) (i j:Nat):(st.set k (dk l i)).set k (dk l j)=st.set k (dk l j):=List.set_set ..
theorem Q3e (l:List UInt64) (st:Q0e):PCalls Tryz.prog 15 [.sl .no (encW l)] st (fun r st'=>r= .gp st.length 0∧st'=st++ [dk l 0]):=by
 refine Q0b none Tryz.func15 rfl fun E=>Q0v (Q0a ?_)
 simp -dsimp only [go_sem]
 refine Q0v (Q0a ?_)
 simp -dsimp only [go_sem]
 refine w0a 0 (by simp [go_sem]) (by simp) (Q0a ?_)
 simp -dsimp only [go_sem]
 rfl
theorem G2h (l:List UInt64) (i k:Nat) (st:Q0e) (h:atD st k l i) (hi:i≤1000000000000):PCalls Tryz.prog 62 [.gp k 0] st (fun r st'=>r= .sc (.int .u64 (l.getD i 0).toNat)∧st'=st.set k (dk l (i+1))):=by
 unfold atD dk at h
 refine Q0b none Tryz.func62 rfl fun E=>Q0a ?_
 simp -dsimp only [go_sem]
 refine Q0l Z0x 32 (.step 0 [] (.step 1 [] (.step 2 [] (.step 3 [] (.step 4 [] (.step 5 [] (.step 6 [] (.step 7 [] (.step 8 [] (.step 9 [] (.done))))))))))) (by decide+kernel) (by simp) ?_
 simp -dsimp only [go_sem,h]
 have x1:IntKind.i64.wrap ((i:Int)+1)=((i+1:Nat):Int):=by
  rw [show((i:Int)+1)=((i+1:Nat):Int) from rfl,Q0k _ (by omega)]
 refine ck (fun h1=> ?_) (fun h1=> ?_)
 · have hlt:i<l.length:=by have:=of_decide_eq_true h1;omega
   have g1:=Z0n l i hlt
   simp -dsimp only [go_sem]
   refine Q0l Z0x 32 (.step 0 [] (.step 1 [] (.step 2 [] (.step 3 [] (.step 4 [] (.step 5 [] (.step 6 [] (.step 7 [] (.step 8 [] (.step 9 [] (.step 10 [] (.done)))))))))))) (by decide+kernel) (by simp) ?_
   simp -dsimp only [go_sem,h,g1,x1]
   exact⟨⟨by omega,hlt⟩,rfl⟩
 · have hge:l.length≤i:=by have:=of_decide_eq_false h1;omega
   simp -dsimp only [go_sem,h,x1]
   rw [H0e _ _ _ hge]
   exact⟨rfl,rfl⟩
def nx (l:List UInt64) (i n:Nat):Nat:=(l.getD i 0).toNat % n
theorem G1k (l:List UInt64) (i:Nat) {n:Nat} (h:0<n):nx l i n<n:=Nat.mod_lt _ h
theorem H0h (l:List UInt64) (i k n:Nat) (st:Q0e) (h:atD st k l i) (hi:i≤1000000000000) (hn:0<n) (hn2:n≤1000000000000):PCalls Tryz.prog 16 [.gp k 0,.sc (.int .i64 n)] st (fun r st'=>r= .sc (.int .i64 (nx l i n))∧st'=st.set k (dk l (i+1))):=by
 refine Q0b none Tryz.func16 rfl fun E=>Q0a ?_
 simp -dsimp only [go_sem]
 refine(G2h l i k st h hi).mono ?_
 rintro r st ⟨rfl,rfl⟩
 have hm:(l.getD i 0).toNat % n<n:=Nat.mod_lt _ hn
 have hv:=(l.getD i 0).toNat_lt
 have w1:IntKind.u64.wrap (n:Int)=(n:Int):=J0e _ (by omega)
 have w2:((l.getD i 0).toNat:Int).tmod (n:Int)=(nx l i n:Int):=x0s _ _
 have w3:IntKind.i64.wrap (nx l i n:Int)=(nx l i n:Int):=Q0k _ (by unfold nx;omega)
 have w4:((n:Int)==0)=false:=by simp;omega
 simp -dsimp only [go_sem,w1,w2,w3,w4]
 simp;omega
theorem K4w (l:List UInt64) (i k n:Nat) (st:Q0e) (h:atD st k l i) (hi:i≤1000000000000) (hn:0<n) (hn2:n≤1000000000000):PCalls Tryz.prog 50 [.gp k 0,.sc (.int .i64 n)] st (fun r st'=>r= .sc (.bool (decide (nx l i n=n-1)))∧st'=st.set k (dk l (i+1))):=by
 refine Q0b none Tryz.func50 rfl fun E=>Q0a ?_
 simp -dsimp only [go_sem]
 refine(H0h l i k n st h hi hn hn2).mono ?_
 rintro r st ⟨rfl,rfl⟩
 have w1:IntKind.i64.wrap ((n:Int)-1)=((n-1:Nat):Int):=by rw [Q0j _ (by omega) (by omega)];omega
 simp -dsimp only [go_sem,w1]
 congr 2
 rw [Bool.eq_iff_iff];simp;omega
end Go.Pv
end
section
/-Numbers,intervals,boxes,times out of the deck. -/
set_option maxRecDepth 100000
namespace Go.Pv
open Go.Proofs
theorem V3z (x:Nm) (st:Q0e):PCalls Tryz.prog 82 [.agg (encN x)] st (fun r st'=>r= .agg (encI ⟨x,x⟩)∧st'=st):=by
 refine Q0b none Tryz.func82 rfl fun E=>Q0a ?_
 simp -dsimp only [go_sem]
theorem x2b (a b:Nm) (st:Q0e) (ha:wN a) (hb:wN b):PCalls Tryz.prog 84 [.agg (encN a),.agg (encN b)] st (fun r st'=>r= .agg (encI (betw a b))∧st'=st):=by
 unfold wN at ha hb
 refine Q0b none Tryz.func84 rfl fun E=>Q0a ?_
 simp -dsimp only [go_sem]
 refine(Q3i a b st (by omega) (by omega)).mono ?_
 rintro r st ⟨rfl,rfl⟩
 simp -dsimp only [go_sem]
 refine ck (fun h=> ?_) (fun h=> ?_)
 · have h1:=of_decide_eq_true h
   simp -dsimp only [go_sem]
   rw [betw,if_pos h1]
 · have h1:=of_decide_eq_false h
   simp -dsimp only [go_sem]
   rw [betw,if_neg h1]
theorem z3o (l:List UInt64) (i k:Nat) (st:Q0e) (h:atD st k l i) (hi:i≤900000000000):PCalls Tryz.prog 21 [.gp k 0] st (fun r st'=> ∃q,0<q∧q≤64∧r= .agg (encN (tq q))∧st'=st.set k (dk l (i+2))):=by
 refine Q0b none Tryz.func21 rfl fun E=>Q0a ?_
 simp -dsimp only [go_sem]
 refine(G2h l i k st h (by omega)).mono ?_
 rintro r st' ⟨rfl,rfl⟩
 have hv:=(l.getD i 0).toNat_lt
 obtain⟨v,hve⟩: ∃v,v=(l.getD i 0).toNat:=⟨_,rfl⟩
 rw [←hve] at hv
 have hc:v&&&7≤7:=Nat.and_le_right
 have s1:IntKind.u64.wrap (1+bAnd .u64 (v:Int) 7)=((UInt64.ofNat (1+(v&&&7))).toNat:Int):=by
  rw [show(7:Int)=((7:Nat):Int) from rfl,j0i _ _ (by omega) (by omega),Z0z _ (by omega),show(1:Int)+((v&&&7:Nat):Int)=((1+(v&&&7):Nat):Int) from by omega,J0e _ (by omega)]
 have h1:=h.set (i+1)
 simp -dsimp only [go_sem,←hve,s1]
 refine(H0h l (i+1) k 4 _ h1 (by omega) (by omega) (by omega)).mono ?_
 rintro r st' ⟨rfl,rfl⟩
 have hj:=G1k l (i+1) (n:=4) (by omega)
 have s2:IntKind.i64.wrap (IntKind.i64.wrap (nx l (i+1) 4:Int)-3)=(nx l (i+1) 4:Int)-3:=by
  rw [Q0k _ (by omega),Q0j _ (by omega) (by omega)]
 have s3:IntKind.i64.wrap ((nx l (i+1) 4:Int)-3)=(nx l (i+1) 4:Int)-3:=by
  rw [Q0j _ (by omega) (by omega)]
 simp -dsimp only [go_sem,s2,s3,Z1c]
 have he:=W3r (1+(v&&&7)) (nx l (i+1) 4) (by omega) hj (by omega)
 refine(j3b false [UInt64.ofNat (1+(v&&&7))] ((nx l (i+1) 4:Int)-3) _ (by simp) (by omega) (by omega)).mono ?_
 rintro r st' ⟨rfl,rfl⟩
 simp -dsimp only [go_sem]
 rw [he]
 have hp:2^nx l (i+1) 4≤8:=Nat.pow_le_pow_right (by decide) (by omega:nx l (i+1) 4≤3)
 have hp0:0<2^nx l (i+1) 4:=Nat.pow_pos (by decide)
 have hle:=Nat.mul_le_mul (by omega:1+(v&&&7)≤8) hp
 exact⟨_,Nat.mul_pos (by omega) hp0,hle,rfl⟩
end Go.Pv
end
section
/-Numbers,intervals and boxes out of the deck. -/
set_option maxRecDepth 100000
namespace Go.Pv
open Go.Proofs
def isW (x:Int):Prop:=0≤x∧x<18446744073709551616
def absN (x:Nm):Nm:=if Q0g x=true then⟨false,x.exp,x.w⟩ else default
def H4k (x:Nm):Nm:=if Q0g x=true then(if x.w= [] then x else⟨!x.neg,x.exp,x.w⟩) else default
end Go.Pv
end
