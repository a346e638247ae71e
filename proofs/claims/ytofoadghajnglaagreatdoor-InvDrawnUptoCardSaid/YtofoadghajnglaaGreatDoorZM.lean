/- Parts of the walk: H1, H2, H3, H10. -/
import Derived.Test.YtofoadghajnglaaGreatDoorZH
import Derived.Test.YtofoadghajnglaaGreatDoorZK
set_option linter.unusedVariables false
set_option linter.unusedSimpArgs false
section
/-The document's Words,Val.Num,Make. -/
set_option maxRecDepth 100000
namespace Go.Pv
open Go.Proofs
theorem v2p (m:Nat) (st:Q0f) (hm:(Q0c m).length≤1000000000000):PCalls Tryz.prog 239 [.sl .no (encD (Q0c m))] st (fun r st'=>r= .sl .no (encW (Q0n m))∧st'=st):=by
 rw [←H2a m]
 obtain⟨a,ha⟩: ∃a,a=Q0c m:=⟨_,rfl⟩
 rw [←ha] at hm⊢
 refine Q0b none Tryz.func239 rfl fun E=>Q0a ?_
 simp -dsimp only [go_sem]
 refine X0c 3 1 ?_
 simp -dsimp only [go_sem]
 refine Q0e [true,false,false,true,true] 0 1 (fun n s=> ∃k,n=a.length+1-2*k∧2*k≤a.length+1∧
  s=⟨[.sl .no (encD a),.junk,.junk,.sl (.own 0) (encW (pk a k)),.sc (.int .i64 (2*k:Nat))]++List.replicate 31 .junk,[],[((pk a k).length,1)],st⟩) (a.length+1) ?_ ?_
 · simp -dsimp only [go_sem]
   exact⟨0,by omega,by omega,rfl⟩
 · rintro n s ⟨k,rfl,hk,rfl⟩
   simp -dsimp only [go_sem]
   refine ck (fun h=> ?_) (fun h=> ?_)
   · have hlt:2*k<a.length:=by have:=of_decide_eq_true h;omega
     have g1:=X0t a (2*k) hlt
     have h1:=(a.getD (2*k) 0).toNat_lt
     have h2:=(a.getD (2*k+1) 0).toNat_lt
     have x1:IntKind.i64.wrap (((2*k:Nat):Int)+1)=((2*k+1:Nat):Int):=by
      rw [show(((2*k:Nat):Int)+1)=((2*k+1:Nat):Int) from rfl,Q0m _ (by omega)]
     have x2:IntKind.i64.wrap (((2*k:Nat):Int)+2)=((2*(k+1):Nat):Int):=by
      rw [show(((2*k:Nat):Int)+2)=((2*(k+1):Nat):Int) from by omega,Q0m _ (by omega)]
     have w1:IntKind.u64.wrap ((a.getD (2*k) 0).toNat:Int)=((a.getD (2*k) 0).toNat:Int):=J0q _ (by omega)
     have w2:IntKind.u64.wrap ((a.getD (2*k+1) 0).toNat:Int)=((a.getD (2*k+1) 0).toNat:Int):=J0q _ (by omega)
     have ew:=x1b a k
     have en:=x1c a k
     have pl:=G0x a k
     simp -dsimp only [go_sem,g1,x1,w1]
     refine⟨by omega,?_⟩
     refine ck (fun h5=> ?_) (fun h5=> ?_)
     · have hlt2:2*k+1<a.length:=by have:=of_decide_eq_true h5;omega
       have g2:=X0t a (2*k+1) hlt2
       have s1:bOr .u64 ((a.getD (2*k) 0).toNat:Int) (bShl .u64 ((a.getD (2*k+1) 0).toNat:Int) 32)=((UInt64.ofNat ((a.getD (2*k) 0).toNat+4294967296*(a.getD (2*k+1) 0).toNat)).toNat:Int):=by
        rw [ew,show(32:Int)=((32:Nat):Int) from rfl,G0h _ 32 (by omega),J1u _ _ (by omega) (Nat.mod_lt _ (by decide)),X1c _ _ 32 (by omega) (j0f _ 32 (by omega))]
        congr 1
        omega
       simp -dsimp only [go_sem,x1,x2,g2,w2,s1]
       refine⟨by omega,by omega,a.length+1-2*(k+1),by omega,k+1,rfl,by omega,by rw [en];simp⟩
     · have h0:a.getD (2*k+1) 0=0:=G0m _ _ _ (by have:=of_decide_eq_false h5;omega)
       have s1:((a.getD (2*k) 0).toNat:Int)=((UInt64.ofNat ((a.getD (2*k) 0).toNat+4294967296*(a.getD (2*k+1) 0).toNat)).toNat:Int):=by
        rw [ew,h0];rfl
       simp -dsimp only [go_sem,x2]
       rw [s1,V2u,←en]
       refine⟨by omega,a.length+1-2*(k+1),by omega,k+1,rfl,by omega,by simp [G0x]⟩
   · have hge:k=(a.length+1)/2:=by have:=of_decide_eq_false h;omega
     simp -dsimp only [go_sem]
     refine Z1w [false,false,false,true] (Q0a ?_)
     simp -dsimp only [go_sem]
     rw [hge]
theorem Q1t (v:Vl) (st:Q0f) (hm:(Q0c v.m).length≤1000000000000):PCalls Tryz.prog 180 [.agg (encV v)] st (fun r st'=>r= .tup [.agg (encN (numV v).1),.sc (.int .i64 (numV v).2)]∧st'=st):=by
 refine Q0b none Tryz.func180 rfl fun E=>Q0a ?_
 simp -dsimp only [go_sem]
 refine ck (fun h=> ?_) (fun h=> ?_)
 · have h0:v.m=0:=digitsOf_nil.1 (List.length_eq_zero_iff.1 (U0z (b:=0) h))
   simp -dsimp only [go_sem]
   rw [numV,if_pos h0];rfl
 · have h0:v.m≠0:=fun e=>z0b (b:=0) h (by rw [e,Z0g];rfl)
   simp -dsimp only [go_sem]
   refine(v2p v.m st hm).mono ?_
   rintro r st ⟨rfl,rfl⟩
   simp -dsimp only [go_sem]
   have bad:64<(Q0n v.m).length∨v.e< -65536∨65536<v.e→numV v=(default,2):=fun h=>by rw [numV,if_neg h0,if_pos h]
   refine gkF (fun h1=> ?_) (fun h1=> ?_)
   · have h1':=of_decide_eq_false h1
     simp -dsimp only [go_sem,h1]
     refine gkF (fun h2=> ?_) (fun h2=> ?_)
     · have h2':=of_decide_eq_false h2
       simp -dsimp only [go_sem,h1,h2]
       refine ck (fun h3=> ?_) (fun h3=> ?_)
       · have h3':=of_decide_eq_true h3
         simp -dsimp only [go_sem]
         rw [bad (by omega)];rfl
       · have h3':=of_decide_eq_false h3
         simp -dsimp only [go_sem]
         rw [numV,if_neg h0,if_neg (by omega)]
     · have h2':=of_decide_eq_true h2
       simp -dsimp only [go_sem,h1,h2]
       rw [bad (by omega)];rfl
   · have h1':=of_decide_eq_true h1
     simp -dsimp only [go_sem,h1]
     rw [bad (by omega)];rfl
theorem V3x (neg:Bool) (w:List UInt64) (e:Int) (st:Q0f) (hw:w.length≤1000000000) (he1: -1000000000000≤e) (he2:e≤1000000000000):PCalls Tryz.prog 132 [.sc (.bool neg),.sl .no (encW w),.sc (.int .i64 e)] st (fun r st'=>r= .tup [.agg (encN (q0j neg w e).1),.sc (.int .i64 (q0j neg w e).2)]∧st'=st):=by
 have hb:=V0o w
 unfold X0l at hb
 have hl:=Z0l (valW w)
 have ht:=q0p (valW w)
 refine Q0b none Tryz.func132 rfl fun E=>Q0a ?_
 simp -dsimp only [go_sem]
 refine(k2b w st (by omega)).mono ?_
 rintro r st ⟨rfl,rfl⟩
 simp -dsimp only [go_sem]
 refine ck (fun h=> ?_) (fun h=> ?_)
 · have h0:valW w=0:=digitsOf_nil.1 (List.length_eq_zero_iff.1 (U0z (b:=0) h))
   simp -dsimp only [go_sem]
   rw [q0j,if_pos h0];rfl
 · have h0:valW w≠0:=fun e=>z0b (b:=0) h (by rw [e,Z0g];rfl)
   have w1:IntKind.i64.wrap (-65536-(tz (valW w):Int))= -65536-(tz (valW w):Int):=Q0r _ (by omega) (by omega)
   simp -dsimp only [go_sem,w1]
   have bad:65536<e∨e< -65536-(tz (valW w):Int)→q0j neg w e=(default,2):=fun h=>by rw [q0j,if_neg h0,if_pos h]
   refine gkF (fun h1=> ?_) (fun h1=> ?_)
   · have h1':=of_decide_eq_false h1
     simp -dsimp only [go_sem,h1]
     refine(Z2j (valW w) st (by omega)).mono ?_
     rintro r st ⟨rfl,rfl⟩
     simp -dsimp only [go_sem,h1,w1]
     refine ck (fun h2=> ?_) (fun h2=> ?_)
     · have h2':=of_decide_eq_true h2
       simp -dsimp only [go_sem]
       rw [bad (by omega)];rfl
     · have h2':=of_decide_eq_false h2
       simp -dsimp only [go_sem]
       refine(W1y neg (valW w) e st (by omega) (by omega) (by omega)).mono ?_
       rintro r st ⟨rfl,rfl⟩
       simp -dsimp only [go_sem]
       have hv:(Q0c (oddV neg (valW w) e).m).length≤1000000000000:=by
        have:(oddV neg (valW w) e).m≤valW w:=by
         unfold oddV;split
         · exact Nat.zero_le _
         · exact Nat.div_le_self _ _
        have h1:=Z0l (oddV neg (valW w) e).m
        have h2:=X0o this
        omega
       refine(Q1t _ st hv).mono ?_
       rintro r st ⟨rfl,rfl⟩
       simp -dsimp only [go_sem]
       rw [q0j,if_neg h0,if_neg (by omega)]
   · have h1':=of_decide_eq_true h1
     simp -dsimp only [go_sem,h1]
     rw [bad (by omega)];rfl
theorem G1u (neg:Bool) (w:List UInt64) (e:Int) (st:Q0f) (hw:w.length≤1000000000) (he1: -1000000000000≤e) (he2:e≤1000000000000):PCalls Tryz.prog 62 [.sc (.bool neg),.sl .no (encW w),.sc (.int .i64 e)] st (fun r st'=>r= .agg (encN (q0j neg w e).1)∧st'=st):=by
 refine Q0b none Tryz.func62 rfl fun E=>Q0a ?_
 simp -dsimp only [go_sem]
 refine(V3x neg w e st hw he1 he2).mono ?_
 rintro r st ⟨rfl,rfl⟩
 simp -dsimp only [go_sem]
theorem Q2w (a b:Vl) (st:Q0f) (ha:smV a) (hb:smV b):PCalls Tryz.prog 191 [.sc (.int .i64 0),.agg (encV a),.agg (encV b)] st (fun r st'=>r= .agg (encV (G0w a b))∧st'=st):=by
 refine Q0b none Tryz.func191 rfl fun E=>Q0a ?_
 simp -dsimp only [go_sem]
 refine(v1a a b st ha hb).mono ?_
 rintro r st ⟨rfl,rfl⟩
 simp -dsimp only [go_sem]
end Go.Pv
end
section
/-The deck:Of,Next,N,Yes. -/
set_option maxRecDepth 100000
namespace Go.Pv
open Go.Proofs
def dk (l:List UInt64) (i:Nat):List PV:= [.sl .no (encW l),.sc (.int .i64 i)]
def atD (st:Q0f) (k:Nat) (l:List UInt64) (i:Nat):Prop:=st.getD k []=dk l i
theorem atD.lt {st:Q0f} {k:Nat} {l:List UInt64} {i:Nat} (h:atD st k l i):k<st.length:=by
 refine Nat.lt_of_not_le fun hn=> ?_
 unfold atD at h
 rw [List.getD_eq_getElem?_getD,List.getElem?_eq_none hn] at h
 cases h
theorem atD.set {st:Q0f} {k:Nat} {l:List UInt64} {i:Nat} (h:atD st k l i) (j:Nat):atD (st.set k (dk l j)) k l j:=by
 unfold atD
 rw [Q0p _ _ _ _ h.lt]
theorem q0a (st:Q0f) (k:Nat) (l:List UInt64) (i j:Nat):(st.set k (dk l i)).set k (dk l j)=st.set k (dk l j):=List.set_set ..
theorem x2f (l:List UInt64) (st:Q0f):PCalls Tryz.prog 16 [.sl .no (encW l)] st (fun r st'=>r= .gp st.length 0∧st'=st++ [dk l 0]):=by
 refine Q0b none Tryz.func16 rfl fun E=>Q0l (Q0a ?_)
 simp -dsimp only [go_sem]
 refine Q0l (Q0a ?_)
 simp -dsimp only [go_sem]
 refine U0x 0 (by simp [go_sem]) (by simp) (Q0a ?_)
 simp -dsimp only [go_sem]
 rfl
theorem X1f (l:List UInt64) (i k:Nat) (st:Q0f) (h:atD st k l i) (hi:i≤1000000000000):PCalls Tryz.prog 61 [.gp k 0] st (fun r st'=>r= .sc (.int .u64 (l.getD i 0).toNat)∧st'=st.set k (dk l (i+1))):=by
 unfold atD dk at h
 refine Q0b none Tryz.func61 rfl fun E=>Q0a ?_
 simp -dsimp only [go_sem]
 refine Q0k Z0f 32 (.step 0 [] (.step 1 [] (.step 2 [] (.step 3 [] (.step 4 [] (.step 5 [] (.step 6 [] (.step 7 [] (.step 8 [] (.step 9 [] (.done))))))))))) (by decide+kernel) (by simp) ?_
 simp -dsimp only [go_sem,h]
 have x1:IntKind.i64.wrap ((i:Int)+1)=((i+1:Nat):Int):=by
  rw [show((i:Int)+1)=((i+1:Nat):Int) from rfl,Q0m _ (by omega)]
 refine ck (fun h1=> ?_) (fun h1=> ?_)
 · have hlt:i<l.length:=by have:=of_decide_eq_true h1;omega
   have g1:=Z0e l i hlt
   simp -dsimp only [go_sem]
   refine Q0k Z0f 32 (.step 0 [] (.step 1 [] (.step 2 [] (.step 3 [] (.step 4 [] (.step 5 [] (.step 6 [] (.step 7 [] (.step 8 [] (.step 9 [] (.step 10 [] (.done)))))))))))) (by decide+kernel) (by simp) ?_
   simp -dsimp only [go_sem,h,g1,x1]
   exact⟨⟨by omega,hlt⟩,rfl⟩
 · have hge:l.length≤i:=by have:=of_decide_eq_false h1;omega
   simp -dsimp only [go_sem,h,x1]
   rw [G0m _ _ _ hge]
   exact⟨rfl,rfl⟩
def nx (l:List UInt64) (i n:Nat):Nat:=(l.getD i 0).toNat % n
theorem V3p (l:List UInt64) (i:Nat) {n:Nat} (h:0<n):nx l i n<n:=Nat.mod_lt _ h
theorem Y1q (l:List UInt64) (i k n:Nat) (st:Q0f) (h:atD st k l i) (hi:i≤1000000000000) (hn:0<n) (hn2:n≤1000000000000):PCalls Tryz.prog 39 [.gp k 0,.sc (.int .i64 n)] st (fun r st'=>r= .sc (.int .i64 (nx l i n))∧st'=st.set k (dk l (i+1))):=by
 refine Q0b none Tryz.func39 rfl fun E=>Q0a ?_
 simp -dsimp only [go_sem]
 refine(X1f l i k st h hi).mono ?_
 rintro r st ⟨rfl,rfl⟩
 have hm:(l.getD i 0).toNat % n<n:=Nat.mod_lt _ hn
 have hv:=(l.getD i 0).toNat_lt
 have w1:IntKind.u64.wrap (n:Int)=(n:Int):=J0q _ (by omega)
 have w2:((l.getD i 0).toNat:Int).tmod (n:Int)=(nx l i n:Int):=U0t _ _
 have w3:IntKind.i64.wrap (nx l i n:Int)=(nx l i n:Int):=Q0m _ (by unfold nx;omega)
 have w4:((n:Int)==0)=false:=by simp;omega
 simp -dsimp only [go_sem,w1,w2,w3,w4]
 simp;omega
theorem J3y (l:List UInt64) (i k n:Nat) (st:Q0f) (h:atD st k l i) (hi:i≤1000000000000) (hn:0<n) (hn2:n≤1000000000000):PCalls Tryz.prog 19 [.gp k 0,.sc (.int .i64 n)] st (fun r st'=>r= .sc (.bool (decide (nx l i n=n-1)))∧st'=st.set k (dk l (i+1))):=by
 refine Q0b none Tryz.func19 rfl fun E=>Q0a ?_
 simp -dsimp only [go_sem]
 refine(Y1q l i k n st h hi hn hn2).mono ?_
 rintro r st ⟨rfl,rfl⟩
 have w1:IntKind.i64.wrap ((n:Int)-1)=((n-1:Nat):Int):=by rw [Q0r _ (by omega) (by omega)];omega
 simp -dsimp only [go_sem,w1]
 congr 2
 rw [Bool.eq_iff_iff];simp;omega
end Go.Pv
end
section
/-Numbers,intervals,boxes,times out of the deck. -/
set_option maxRecDepth 100000
namespace Go.Pv
open Go.Proofs
theorem w2y (x:Nm) (st:Q0f):PCalls Tryz.prog 99 [.agg (encN x)] st (fun r st'=>r= .agg (encI ⟨x,x⟩)∧st'=st):=by
 refine Q0b none Tryz.func99 rfl fun E=>Q0a ?_
 simp -dsimp only [go_sem]
end Go.Pv
end
section
/-Numbers,intervals and boxes out of the deck. -/
set_option maxRecDepth 100000
namespace Go.Pv
open Go.Proofs
def isW (x:Int):Prop:=0≤x∧x<18446744073709551616
theorem X1m {x:Int} (h:isW x): ∃c:UInt64,x=(c.toNat:Int):=by
 obtain⟨h1,h2⟩:=h
 refine⟨UInt64.ofNat x.toNat,?_⟩
 rw [UInt64.toNat_ofNat'];omega
theorem Y1f (x:Int):isW (IntKind.u64.wrap x):=by
 unfold isW
 simp [IntKind.wrap,IntKind.bits,IntKind.signed]
 omega
theorem Q3h (x y:Int):isW (bAnd .u64 x y):=Y1f _
theorem H1e (x y:Int):isW (bOr .u64 x y):=Y1f _
theorem Q3g (x y:Int):isW (bShl .u64 x y):=Y1f _
def absN (x:Nm):Nm:=if Q0j x=true then⟨false,x.exp,x.w⟩ else default
theorem Y0w (x:Nm):Q0j (absN x)=true:=by
 unfold absN
 split
 · rename_i h
   unfold Q0j at h⊢
   simp only at h⊢
   split
   · rename_i hw;rw [if_pos hw] at h;simp at h;simp [h]
   · rename_i hw;rw [if_neg hw] at h;exact h
 · exact K0i
theorem j2a (x:Nm) (st:Q0f) (hw:wN x):PCalls Tryz.prog 126 [.agg (encN x)] st (fun r st'=>r= .agg (encN (absN x))∧st'=st):=by
 unfold wN at hw
 refine Q0b none Tryz.func126 rfl fun E=>Q0a ?_
 simp -dsimp only [go_sem]
 refine(W0i x st (by omega)).mono ?_
 rintro r st ⟨rfl,rfl⟩
 simp -dsimp only [go_sem]
 refine ck (fun h=> ?_) (fun h=> ?_)
 · have hr:Q0j x=false:=by simpa using h
   simp -dsimp only [go_sem]
   rw [absN,if_neg (by simp [hr])];rfl
 · have hr:Q0j x=true:=by simpa using h
   simp -dsimp only [go_sem]
   rw [absN,if_pos hr]
theorem j3c (l:List UInt64) (i k:Nat) (st:Q0f) (h:atD st k l i) (hi:i≤1000000000000):PCalls Tryz.prog 17 [.gp k 0] st
 (fun r st'=> ∃n:Nat,1≤n∧n≤4∧r= .sc (.int .i64 n)∧st'=st.set k (dk l (i+1))):=by
 refine Q0b none Tryz.func17 rfl fun E=>Q0a ?_
 simp -dsimp only [go_sem]
 refine(Y1q l i k 4 st h hi (by omega) (by omega)).mono ?_
 rintro r st' ⟨rfl,rfl⟩
 have n1:=V3p l i (n:=4) (by omega)
 have x1:IntKind.i64.wrap (1+(nx l i 4:Int))=((1+nx l i 4:Nat):Int):=by rw [show(1+(nx l i 4:Int))=((1+nx l i 4:Nat):Int) from by omega,Q0m _ (by omega)]
 simp -dsimp only [go_sem,x1]
 exact⟨1+nx l i 4,by omega,by omega,rfl⟩
set_option maxHeartbeats 4000000 in
theorem W2g (l:List UInt64) (i k:Nat) (st:Q0f) (h:atD st k l i) (hi:i≤900000000000):PCalls Tryz.prog 20 [.gp k 0] st
 (fun r st'=> ∃x j,Q0j x=true∧i≤j∧j≤i+4∧r= .agg (encN x)∧st'=st.set k (dk l j)):=by
 refine Q0b none Tryz.func20 rfl fun E=>Q0a ?_
 simp -dsimp only [go_sem]
 refine(X1f l i k st h (by omega)).mono ?_
 rintro r st' ⟨rfl,rfl⟩
 have hu:=(l.getD i 0).toNat_lt
 obtain⟨u,hue⟩: ∃u,u=(l.getD i 0).toNat:=⟨_,rfl⟩
 rw [←hue] at hu⊢
 have s5:bShr .u64 (u:Int) 1=((u/2:Nat):Int):=G0g .u64 u 1 (by decide)
 have m1:((u/2:Nat):Int).tmod 41=((u/2 % 41:Nat):Int):=by rw [show(41:Int)=((41:Nat):Int) from rfl,←Int.ofNat_tmod]
 have w1:IntKind.i64.wrap ((u/2 % 41:Nat):Int)=((u/2 % 41:Nat):Int):=Q0m _ (by omega)
 obtain⟨e,he⟩: ∃e:Int,e=((u/2 % 41:Nat):Int)-32:=⟨_,rfl⟩
 have w2:IntKind.i64.wrap (((u/2 % 41:Nat):Int)-32)=e:=by rw [he];exact Q0r _ (by omega) (by omega)
 obtain⟨nb,hnb⟩: ∃nb,nb=(bAnd .u64 (u:Int) 1==1):=⟨_,rfl⟩
 simp -dsimp only [go_sem,s5,m1,w1,w2,←hnb]
 have z30:bShr .u64 (u:Int) 30=((u/2^30:Nat):Int):=G0g .u64 u 30 (by decide)
 have z20:bShr .u64 (u:Int) 20=((u/2^20:Nat):Int):=G0g .u64 u 20 (by decide)
 obtain⟨d,hd⟩: ∃d:Nat,d=u/2^30 % 9:=⟨_,rfl⟩
 have y1:((u/2^30:Nat):Int).tmod 9=(d:Int):=by rw [hd,show(9:Int)=((9:Nat):Int) from rfl,←Int.ofNat_tmod]
 have y2:IntKind.i64.wrap (d:Int)=(d:Int):=Q0m _ (by omega)
 have y3:IntKind.i64.wrap (65536-(d:Int))=65536-(d:Int):=Q0r _ (by omega) (by omega)
 have y4:IntKind.i64.wrap ((d:Int)-65536)=(d:Int)-65536:=Q0r _ (by omega) (by omega)
 obtain⟨f,hf⟩: ∃f:Nat,f=u/2^20 % 64:=⟨_,rfl⟩
 have y5:((u/2^20:Nat):Int).tmod 64=(f:Int):=by rw [hf,show(64:Int)=((64:Nat):Int) from rfl,←Int.ofNat_tmod]
 have y6:IntKind.i64.wrap (e-100)=e-100:=Q0r _ (by omega) (by omega)
 have y7:IntKind.i64.wrap (e-30)=e-30:=Q0r _ (by omega) (by omega)
 have h1:atD (st.set k (dk l (i+1))) k l (i+1):=h.set (i+1)
 have h2:atD (st.set k (dk l (i+2))) k l (i+2):=h.set (i+2)
 have h3:atD (st.set k (dk l (i+3))) k l (i+3):=h.set (i+3)
 refine ck (fun q0=> ?_) (fun q0=> ?_)
 · simp -dsimp only [go_sem]
   obtain⟨c,hc⟩:=X1m (Q3h (bShr .u64 (u:Int) 10) 31)
   rw [hc]
   refine(G1u nb [c] (e) _ (by simp) (by omega) (by omega)).mono ?_
   rintro r st' ⟨rfl,rfl⟩
   simp -dsimp only [go_sem,q0a]
   exact⟨(q0j nb [c] (e)).1,i+1,K0a _ _ _,by omega,by omega,rfl,rfl⟩
 simp -dsimp only [go_sem]
 refine ck (fun q1=> ?_) (fun q1=> ?_)
 · simp -dsimp only [go_sem]
   refine(X1f l (i+1) k _ h1 (by omega)).mono ?_
   rintro r st' ⟨rfl,rfl⟩
   simp -dsimp only [go_sem,q0a]
   refine(X1f l (i+2) k _ h2 (by omega)).mono ?_
   rintro r st' ⟨rfl,rfl⟩
   simp -dsimp only [go_sem,q0a]
   refine(X1f l (i+3) k _ h3 (by omega)).mono ?_
   rintro r st' ⟨rfl,rfl⟩
   simp -dsimp only [go_sem,q0a,y6]
   refine(G1u nb [l.getD (i+1) 0,l.getD (i+2) 0,l.getD (i+3) 0] (e-100) _ (by simp) (by omega) (by omega)).mono ?_
   rintro r st' ⟨rfl,rfl⟩
   simp -dsimp only [go_sem,q0a]
   exact⟨(q0j nb [l.getD (i+1) 0,l.getD (i+2) 0,l.getD (i+3) 0] (e-100)).1,i+4,K0a _ _ _,by omega,by omega,rfl,rfl⟩
 simp -dsimp only [go_sem]
 refine ck (fun q2=> ?_) (fun q2=> ?_)
 · simp -dsimp only [go_sem]
   obtain⟨c,hc⟩:=X1m (H1e 9223372036854775808 (bShr .u64 (u:Int) 11))
   obtain⟨c2,hc2⟩:=X1m (H1e 9223372036854775808 (u:Int))
   rw [hc,hc2]
   refine(G1u nb [c,c2] (e) _ (by simp) (by omega) (by omega)).mono ?_
   rintro r st' ⟨rfl,rfl⟩
   simp -dsimp only [go_sem,q0a]
   exact⟨(q0j nb [c,c2] (e)).1,i+1,K0a _ _ _,by omega,by omega,rfl,rfl⟩
 have last:True:=trivial
 simp -dsimp only [go_sem]
 refine ck (fun q3=> ?_) (fun q3=> ?_)
 · simp -dsimp only [go_sem]
   refine ck (fun q4=> ?_) (fun q4=> ?_)
   · simp -dsimp only [go_sem,z30,y1,y2,y3]
     obtain⟨c,hc⟩:=X1m (H1e 1 (bAnd .u64 (bShr .u64 (u:Int) 20) 15))
     rw [hc]
     refine(G1u nb [c] (65536-(d:Int)) _ (by simp) (by omega) (by omega)).mono ?_
     rintro r st' ⟨rfl,rfl⟩
     simp -dsimp only [go_sem,q0a]
     exact⟨(q0j nb [c] (65536-(d:Int))).1,i+1,K0a _ _ _,by omega,by omega,rfl,rfl⟩
   simp -dsimp only [go_sem]
   refine ck (fun q5=> ?_) (fun q5=> ?_)
   · simp -dsimp only [go_sem,z30,y1,y2,y4]
     obtain⟨c,hc⟩:=X1m (H1e 1 (bAnd .u64 (bShr .u64 (u:Int) 20) 15))
     rw [hc]
     refine(G1u nb [c] ((d:Int)-65536) _ (by simp) (by omega) (by omega)).mono ?_
     rintro r st' ⟨rfl,rfl⟩
     simp -dsimp only [go_sem,q0a]
     exact⟨(q0j nb [c] ((d:Int)-65536)).1,i+1,K0a _ _ _,by omega,by omega,rfl,rfl⟩
   simp -dsimp only [go_sem,z20,y5]
   refine⟨by omega,?_⟩
   obtain⟨c,hc⟩:=X1m (Q3g 1 (f:Int))
   rw [hc]
   refine(G1u nb [c] (e) _ (by simp) (by omega) (by omega)).mono ?_
   rintro r st' ⟨rfl,rfl⟩
   simp -dsimp only [go_sem,q0a]
   exact⟨(q0j nb [c] (e)).1,i+1,K0a _ _ _,by omega,by omega,rfl,rfl⟩
 simp -dsimp only [go_sem]
 refine(X1f l (i+1) k _ h1 (by omega)).mono ?_
 rintro r st' ⟨rfl,rfl⟩
 simp -dsimp only [go_sem,q0a,y7]
 obtain⟨c,hc⟩:=X1m (H1e (bShr .u64 (u:Int) 10) (bShl .u64 ((l.getD (i+1) 0).toNat:Int) 20))
 rw [hc]
 refine(G1u nb [c] (e-30) _ (by simp) (by omega) (by omega)).mono ?_
 rintro r st' ⟨rfl,rfl⟩
 simp -dsimp only [go_sem,q0a]
 exact⟨(q0j nb [c] (e-30)).1,i+2,K0a _ _ _,by omega,by omega,rfl,rfl⟩
end Go.Pv
end
