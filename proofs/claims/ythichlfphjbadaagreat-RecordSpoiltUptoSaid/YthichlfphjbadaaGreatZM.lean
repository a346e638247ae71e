/- Parts of the walk: H1, H2, H3, H4, H10. -/
import Derived.Test.YthichlfphjbadaaGreatZH
import Derived.Test.YthichlfphjbadaaGreatZK
set_option linter.unusedVariables false
set_option linter.unusedSimpArgs false
section
/-The document's Words,Val.Num,Make. -/
set_option maxRecDepth 100000
namespace Go.Pv
open Go.Proofs
theorem X3b (m:Nat) (st:Q0g) (hm:(Q0d m).length≤1000000000000):PCalls Tryz.prog 123 [.sl .no (encD (Q0d m))] st (fun r st'=>r= .sl .no (encW (X0c m))∧st'=st):=by
 rw [←k2a m]
 obtain⟨a,ha⟩: ∃a,a=Q0d m:=⟨_,rfl⟩
 rw [←ha] at hm⊢
 refine Q0b none Tryz.func123 rfl fun E=>Q0a ?_
 simp -dsimp only [go_sem]
 refine Z0y 3 1 ?_
 simp -dsimp only [go_sem]
 refine Q0e [true,false,false,true,true] 0 1 (fun n s=> ∃k,n=a.length+1-2*k∧2*k≤a.length+1∧
  s=⟨[.sl .no (encD a),.junk,.junk,.sl (.own 0) (encW (pk a k)),.sc (.int .i64 (2*k:Nat))]++List.replicate 31 .junk,[],[((pk a k).length,1)],st⟩) (a.length+1) ?_ ?_
 · simp -dsimp only [go_sem]
   exact⟨0,by omega,by omega,rfl⟩
 · rintro n s ⟨k,rfl,hk,rfl⟩
   simp -dsimp only [go_sem]
   refine ck (fun h=> ?_) (fun h=> ?_)
   · have hlt:2*k<a.length:=by have:=of_decide_eq_true h;omega
     have g1:=K0k a (2*k) hlt
     have h1:=(a.getD (2*k) 0).toNat_lt
     have h2:=(a.getD (2*k+1) 0).toNat_lt
     have x1:IntKind.i64.wrap (((2*k:Nat):Int)+1)=((2*k+1:Nat):Int):=by
      rw [show(((2*k:Nat):Int)+1)=((2*k+1:Nat):Int) from rfl,Q0i _ (by omega)]
     have x2:IntKind.i64.wrap (((2*k:Nat):Int)+2)=((2*(k+1):Nat):Int):=by
      rw [show(((2*k:Nat):Int)+2)=((2*(k+1):Nat):Int) from by omega,Q0i _ (by omega)]
     have w1:IntKind.u64.wrap ((a.getD (2*k) 0).toNat:Int)=((a.getD (2*k) 0).toNat:Int):=Z0m _ (by omega)
     have w2:IntKind.u64.wrap ((a.getD (2*k+1) 0).toNat:Int)=((a.getD (2*k+1) 0).toNat:Int):=Z0m _ (by omega)
     have ew:=v1p a k
     have en:=v1q a k
     have pl:=H0q a k
     simp -dsimp only [go_sem,g1,x1,w1]
     refine⟨by omega,?_⟩
     refine ck (fun h5=> ?_) (fun h5=> ?_)
     · have hlt2:2*k+1<a.length:=by have:=of_decide_eq_true h5;omega
       have g2:=K0k a (2*k+1) hlt2
       have s1:bOr .u64 ((a.getD (2*k) 0).toNat:Int) (bShl .u64 ((a.getD (2*k+1) 0).toNat:Int) 32)=((UInt64.ofNat ((a.getD (2*k) 0).toNat+4294967296*(a.getD (2*k+1) 0).toNat)).toNat:Int):=by
        rw [ew,show(32:Int)=((32:Nat):Int) from rfl,W0r _ 32 (by omega),x0f _ _ (by omega) (Nat.mod_lt _ (by decide)),w0e _ _ 32 (by omega) (K1h _ 32 (by omega))]
        congr 1
        omega
       simp -dsimp only [go_sem,x1,x2,g2,w2,s1]
       refine⟨by omega,by omega,a.length+1-2*(k+1),by omega,k+1,rfl,by omega,by rw [en];simp⟩
     · have h0:a.getD (2*k+1) 0=0:=z0x _ _ _ (by have:=of_decide_eq_false h5;omega)
       have s1:((a.getD (2*k) 0).toNat:Int)=((UInt64.ofNat ((a.getD (2*k) 0).toNat+4294967296*(a.getD (2*k+1) 0).toNat)).toNat:Int):=by
        rw [ew,h0];rfl
       simp -dsimp only [go_sem,x2]
       rw [s1,j1n,←en]
       refine⟨by omega,a.length+1-2*(k+1),by omega,k+1,rfl,by omega,by simp [H0q]⟩
   · have hge:k=(a.length+1)/2:=by have:=of_decide_eq_false h;omega
     simp -dsimp only [go_sem]
     refine J0u [false,false,false,true] (Q0a ?_)
     simp -dsimp only [go_sem]
     rw [hge]
theorem X1j (v:Vl) (st:Q0g) (hm:(Q0d v.m).length≤1000000000000):PCalls Tryz.prog 73 [.agg (encV v)] st (fun r st'=>r= .tup [.agg (encN (numV v).1),.sc (.int .i64 (numV v).2)]∧st'=st):=by
 refine Q0b none Tryz.func73 rfl fun E=>Q0a ?_
 simp -dsimp only [go_sem]
 refine ck (fun h=> ?_) (fun h=> ?_)
 · have h0:v.m=0:=digitsOf_nil.1 (List.length_eq_zero_iff.1 (G0p (b:=0) h))
   simp -dsimp only [go_sem]
   rw [numV,if_pos h0];rfl
 · have h0:v.m≠0:=fun e=>q0v (b:=0) h (by rw [e,X0a];rfl)
   simp -dsimp only [go_sem]
   refine(X3b v.m st hm).mono ?_
   rintro r st ⟨rfl,rfl⟩
   simp -dsimp only [go_sem]
   have bad:64<(X0c v.m).length∨v.e< -65536∨65536<v.e→numV v=(default,2):=fun h=>by rw [numV,if_neg h0,if_pos h]
   refine gkF (fun h1=> ?_) (fun h1=> ?_)
   · have h1':=of_decide_eq_false h1
     simp -dsimp only [go_sem,h1]
     refine gkF (fun h2=> ?_) (fun h2=> ?_)
     · have h2':=of_decide_eq_false h2
       simp -dsimp only [go_sem,h1,h2]
       refine ck (fun h3=> ?_) (fun h3=> ?_)
       · have h3':=of_decide_eq_true h3
         simp -dsimp only [go_sem]
         rw [bad (by omega)];rfl
       · have h3':=of_decide_eq_false h3
         simp -dsimp only [go_sem]
         rw [numV,if_neg h0,if_neg (by omega)]
     · have h2':=of_decide_eq_true h2
       simp -dsimp only [go_sem,h1,h2]
       rw [bad (by omega)];rfl
   · have h1':=of_decide_eq_true h1
     simp -dsimp only [go_sem,h1]
     rw [bad (by omega)];rfl
theorem q3l (neg:Bool) (w:List UInt64) (e:Int) (st:Q0g) (hw:w.length≤1000000000) (he1: -1000000000000≤e) (he2:e≤1000000000000):PCalls Tryz.prog 87 [.sc (.bool neg),.sl .no (encW w),.sc (.int .i64 e)] st (fun r st'=>r= .tup [.agg (encN (U0n neg w e).1),.sc (.int .i64 (U0n neg w e).2)]∧st'=st):=by
 have hb:=y0c w
 unfold U0p at hb
 have hl:=X0o (valW w)
 have ht:=z0c (valW w)
 refine Q0b none Tryz.func87 rfl fun E=>Q0a ?_
 simp -dsimp only [go_sem]
 refine(U2o w st (by omega)).mono ?_
 rintro r st ⟨rfl,rfl⟩
 simp -dsimp only [go_sem]
 refine ck (fun h=> ?_) (fun h=> ?_)
 · have h0:valW w=0:=digitsOf_nil.1 (List.length_eq_zero_iff.1 (G0p (b:=0) h))
   simp -dsimp only [go_sem]
   rw [U0n,if_pos h0];rfl
 · have h0:valW w≠0:=fun e=>q0v (b:=0) h (by rw [e,X0a];rfl)
   have w1:IntKind.i64.wrap (-65536-(tz (valW w):Int))= -65536-(tz (valW w):Int):=Q0q _ (by omega) (by omega)
   simp -dsimp only [go_sem,w1]
   have bad:65536<e∨e< -65536-(tz (valW w):Int)→U0n neg w e=(default,2):=fun h=>by rw [U0n,if_neg h0,if_pos h]
   refine gkF (fun h1=> ?_) (fun h1=> ?_)
   · have h1':=of_decide_eq_false h1
     simp -dsimp only [go_sem,h1]
     refine(V2q (valW w) st (by omega)).mono ?_
     rintro r st ⟨rfl,rfl⟩
     simp -dsimp only [go_sem,h1,w1]
     refine ck (fun h2=> ?_) (fun h2=> ?_)
     · have h2':=of_decide_eq_true h2
       simp -dsimp only [go_sem]
       rw [bad (by omega)];rfl
     · have h2':=of_decide_eq_false h2
       simp -dsimp only [go_sem]
       refine(v1y neg (valW w) e st (by omega) (by omega) (by omega)).mono ?_
       rintro r st ⟨rfl,rfl⟩
       simp -dsimp only [go_sem]
       have hv:(Q0d (oddV neg (valW w) e).m).length≤1000000000000:=by
        have:(oddV neg (valW w) e).m≤valW w:=by
         unfold oddV;split
         · exact Nat.zero_le _
         · exact Nat.div_le_self _ _
        have h1:=X0o (oddV neg (valW w) e).m
        have h2:=K0b this
        omega
       refine(X1j _ st hv).mono ?_
       rintro r st ⟨rfl,rfl⟩
       simp -dsimp only [go_sem]
       rw [U0n,if_neg h0,if_neg (by omega)]
   · have h1':=of_decide_eq_true h1
     simp -dsimp only [go_sem,h1]
     rw [bad (by omega)];rfl
theorem J2z (neg:Bool) (w:List UInt64) (e:Int) (st:Q0g) (hw:w.length≤1000000000) (he1: -1000000000000≤e) (he2:e≤1000000000000):PCalls Tryz.prog 45 [.sc (.bool neg),.sl .no (encW w),.sc (.int .i64 e)] st (fun r st'=>r= .agg (encN (U0n neg w e).1)∧st'=st):=by
 refine Q0b none Tryz.func45 rfl fun E=>Q0a ?_
 simp -dsimp only [go_sem]
 refine(q3l neg w e st hw he1 he2).mono ?_
 rintro r st ⟨rfl,rfl⟩
 simp -dsimp only [go_sem]
theorem K2s (a b:Vl) (st:Q0g) (ha:smV a) (hb:smV b):PCalls Tryz.prog 71 [.sc (.int .i64 0),.agg (encV a),.agg (encV b)] st (fun r st'=>r= .agg (encV (J0l a b))∧st'=st):=by
 refine Q0b none Tryz.func71 rfl fun E=>Q0a ?_
 simp -dsimp only [go_sem]
 refine(Q2n a b st ha hb).mono ?_
 rintro r st ⟨rfl,rfl⟩
 simp -dsimp only [go_sem]
theorem v1n {a b:Vl} (ha:smV a) (hb:smV b):(Q0d (J0l a b).m).length≤1000000000000:=by
 obtain⟨a1,a2,a3⟩:=ha
 obtain⟨b1,b2,b3⟩:=hb
 have key: ∀m,Q0l m≤10000000000000→(Q0d m).length≤1000000000000:=fun m h=>by
  have:=X0o m;omega
 refine key _ ?_
 unfold J0l
 split
 · omega
 · split
   · omega
   · have hodd: ∀(s:Int) (e:Int),Q0l (mkV s e).m≤Q0l s.natAbs:=fun s e=>by
      refine K0b ?_
      unfold mkV oddV
      split
      · exact Nat.zero_le _
      · exact Nat.div_le_self _ _
     refine Nat.le_trans (hodd _ _) ?_
     have h1:=Int.natAbs_add_le (Z0w a*2^(a.e-min a.e b.e).toNat) (Z0w b*2^(b.e-min a.e b.e).toNat)
     rw [natAbs_pow,natAbs_pow] at h1
     have na: ∀v:Vl,(Z0w v).natAbs=v.m:=fun v=>by unfold Z0w;split<;>simp
     rw [na,na] at h1
     have h2:=J0a a.m (a.e-min a.e b.e).toNat
     have h3:=J0a b.m (b.e-min a.e b.e).toNat
     have h4:=K0b h1
     have h5:=W0p (a.m*2^(a.e-min a.e b.e).toNat) (b.m*2^(b.e-min a.e b.e).toNat)
     omega
theorem v0g (a b:Nm) (st:Q0g) (ha:wN a) (hb:wN b):PCalls Tryz.prog 30 [.sc (.int .i64 0),.agg (encN a),.agg (encN b)] st (fun r st'=>r= .tup [.agg (encN (X0s a b).1),.sc (.int .i64 (X0s a b).2)]∧st'=st):=by
 unfold wN at ha hb
 refine Q0b none Tryz.func30 rfl fun E=>Q0a ?_
 simp -dsimp only [go_sem]
 refine(Z0j a st (by omega)).mono ?_
 rintro r st ⟨rfl,rfl⟩
 simp -dsimp only [go_sem]
 refine gkF (fun h=> ?_) (fun h=> ?_)
 · have h1:Q0f a=true:=by simpa using h
   simp -dsimp only [go_sem,h1]
   refine(Z0j b st (by omega)).mono ?_
   rintro r st ⟨rfl,rfl⟩
   simp -dsimp only [go_sem]
   refine ck (fun h=> ?_) (fun h=> ?_)
   · have h2:Q0f b=false:=by simpa using h
     simp -dsimp only [go_sem]
     rw [X0s,if_neg (by simp [h2])];rfl
   · have h2:Q0f b=true:=by simpa using h
     simp -dsimp only [go_sem]
     refine Q0o Z0p 26 (.step 0 [] (.step 1 [] (.step 3 [] (.step 2 [3] (.step 4 [] (.step 5 [] (.step 6 [] (.step 7 [] (.step 8 [] (.step 9 [] (.step 10 [] (.done)))))))))))) (by decide+kernel) (by simp) ?_
     simp -dsimp only [go_sem]
     refine(of_c a st (by omega)).mono ?_
     rintro r st ⟨rfl,rfl⟩
     simp -dsimp only [go_sem]
     refine(of_c b st (by omega)).mono ?_
     rintro r st ⟨rfl,rfl⟩
     simp -dsimp only [go_sem]
     have sa:=G1h (J0s h1)
     have sb:=G1h (J0s h2)
     refine(K2s _ _ st sa sb).mono ?_
     rintro r st ⟨rfl,rfl⟩
     simp -dsimp only [go_sem]
     refine(X1j _ st (v1n sa sb)).mono ?_
     rintro r st ⟨rfl,rfl⟩
     simp -dsimp only [go_sem]
     rw [X0s,if_pos ⟨h1,h2⟩]
 · have h1:Q0f a=false:=by simpa using h
   simp -dsimp only [go_sem,h1]
   rw [X0s,if_neg (by simp [h1])];rfl
end Go.Pv
end
section
/-The deck:Of,Next,N,Yes. -/
set_option maxRecDepth 100000
namespace Go.Pv
open Go.Proofs
def dk (l:List UInt64) (i:Nat):List PV:= [.sl .no (encW l),.sc (.int .i64 i)]
def atD (st:Q0g) (k:Nat) (l:List UInt64) (i:Nat):Prop:=st.getD k []=dk l i
theorem atD.lt {st:Q0g} {k:Nat} {l:List UInt64} {i:Nat} (h:atD st k l i):k<st.length:=by
 refine Nat.lt_of_not_le fun hn=> ?_
 unfold atD at h
 rw [List.getD_eq_getElem?_getD,List.getElem?_eq_none hn] at h
 cases h
theorem atD.set {st:Q0g} {k:Nat} {l:List UInt64} {i:Nat} (h:atD st k l i) (j:Nat):atD (st.set k (dk l j)) k l j:=by
 unfold atD
 rw [Q0p _ _ _ _ h.lt]
theorem atD.same {st:Q0g} {k:Nat} {l:List UInt64} {i:Nat} (h:atD st k l i):st.set k (dk l i)=st:=by
 have hlt:=h.lt
 unfold atD at h
 rw [←h,List.getD_eq_getElem?_getD,List.getElem?_eq_getElem hlt,Option.getD_some,List.set_getElem_self]
theorem X0x (st:Q0g) (k:Nat) (l:List UInt64) (i j:Nat):(st.set k (dk l i)).set k (dk l j)=st.set k (dk l j):=List.set_set ..
theorem Z2q (l:List UInt64) (st:Q0g):PCalls Tryz.prog 10 [.sl .no (encW l)] st (fun r st'=>r= .gp st.length 0∧st'=st++ [dk l 0]):=by
 refine Q0b none Tryz.func10 rfl fun E=>Q0h (Q0a ?_)
 simp -dsimp only [go_sem]
 refine Q0h (Q0a ?_)
 simp -dsimp only [go_sem]
 refine V0l 0 (by simp [go_sem]) (by simp) (Q0a ?_)
 simp -dsimp only [go_sem]
 rfl
theorem Y1s (l:List UInt64) (i k:Nat) (st:Q0g) (h:atD st k l i) (hi:i≤1000000000000):PCalls Tryz.prog 69 [.gp k 0] st (fun r st'=>r= .sc (.int .u64 (l.getD i 0).toNat)∧st'=st.set k (dk l (i+1))):=by
 unfold atD dk at h
 refine Q0b none Tryz.func69 rfl fun E=>Q0a ?_
 simp -dsimp only [go_sem]
 refine Q0o Z0p 32 (.step 0 [] (.step 1 [] (.step 2 [] (.step 3 [] (.step 4 [] (.step 5 [] (.step 6 [] (.step 7 [] (.step 8 [] (.step 9 [] (.done))))))))))) (by decide+kernel) (by simp) ?_
 simp -dsimp only [go_sem,h]
 have x1:IntKind.i64.wrap ((i:Int)+1)=((i+1:Nat):Int):=by
  rw [show((i:Int)+1)=((i+1:Nat):Int) from rfl,Q0i _ (by omega)]
 refine ck (fun h1=> ?_) (fun h1=> ?_)
 · have hlt:i<l.length:=by have:=of_decide_eq_true h1;omega
   have g1:=J0m l i hlt
   simp -dsimp only [go_sem]
   refine Q0o Z0p 32 (.step 0 [] (.step 1 [] (.step 2 [] (.step 3 [] (.step 4 [] (.step 5 [] (.step 6 [] (.step 7 [] (.step 8 [] (.step 9 [] (.step 10 [] (.done)))))))))))) (by decide+kernel) (by simp) ?_
   simp -dsimp only [go_sem,h,g1,x1]
   exact⟨⟨by omega,hlt⟩,rfl⟩
 · have hge:l.length≤i:=by have:=of_decide_eq_false h1;omega
   simp -dsimp only [go_sem,h,x1]
   rw [z0x _ _ _ hge]
   exact⟨rfl,rfl⟩
def nx (l:List UInt64) (i n:Nat):Nat:=(l.getD i 0).toNat % n
theorem k0k (l:List UInt64) (i:Nat) {n:Nat} (h:0<n):nx l i n<n:=Nat.mod_lt _ h
theorem V0f (l:List UInt64) (i k n:Nat) (st:Q0g) (h:atD st k l i) (hi:i≤1000000000000) (hn:0<n) (hn2:n≤1000000000000):PCalls Tryz.prog 28 [.gp k 0,.sc (.int .i64 n)] st (fun r st'=>r= .sc (.int .i64 (nx l i n))∧st'=st.set k (dk l (i+1))):=by
 refine Q0b none Tryz.func28 rfl fun E=>Q0a ?_
 simp -dsimp only [go_sem]
 refine(Y1s l i k st h hi).mono ?_
 rintro r st ⟨rfl,rfl⟩
 have hm:(l.getD i 0).toNat % n<n:=Nat.mod_lt _ hn
 have hv:=(l.getD i 0).toNat_lt
 have w1:IntKind.u64.wrap (n:Int)=(n:Int):=Z0m _ (by omega)
 have w2:((l.getD i 0).toNat:Int).tmod (n:Int)=(nx l i n:Int):=x0k _ _
 have w3:IntKind.i64.wrap (nx l i n:Int)=(nx l i n:Int):=Q0i _ (by unfold nx;omega)
 have w4:((n:Int)==0)=false:=by simp;omega
 simp -dsimp only [go_sem,w1,w2,w3,w4]
 simp;omega
theorem X2k (l:List UInt64) (i k n:Nat) (st:Q0g) (h:atD st k l i) (hi:i≤1000000000000) (hn:0<n) (hn2:n≤1000000000000):PCalls Tryz.prog 50 [.gp k 0,.sc (.int .i64 n)] st (fun r st'=>r= .sc (.bool (decide (nx l i n=n-1)))∧st'=st.set k (dk l (i+1))):=by
 refine Q0b none Tryz.func50 rfl fun E=>Q0a ?_
 simp -dsimp only [go_sem]
 refine(V0f l i k n st h hi hn hn2).mono ?_
 rintro r st ⟨rfl,rfl⟩
 have w1:IntKind.i64.wrap ((n:Int)-1)=((n-1:Nat):Int):=by rw [Q0q _ (by omega) (by omega)];omega
 simp -dsimp only [go_sem,w1]
 congr 2
 rw [Bool.eq_iff_iff];simp;omega
end Go.Pv
end
section
/-Numbers,intervals,boxes,times out of the deck. -/
set_option maxRecDepth 100000
namespace Go.Pv
open Go.Proofs
theorem j0z (l:List UInt64) (i k:Nat) (st:Q0g) (h:atD st k l i) (hi:i≤1000000000000):PCalls Tryz.prog 94 [.gp k 0] st (fun r st'=> ∃x,Q0f x=true∧r= .agg (encN x)∧st'=st.set k (dk l (i+1))):=by
 refine Q0b none Tryz.func94 rfl fun E=>Q0a ?_
 simp -dsimp only [go_sem]
 refine(Y1s l i k st h hi).mono ?_
 rintro r st ⟨rfl,rfl⟩
 have hv:=(l.getD i 0).toNat_lt
 obtain⟨v,hve⟩: ∃v,v=(l.getD i 0).toNat:=⟨_,rfl⟩
 rw [←hve] at hv
 have s1:bAnd .u64 (bShr .u64 (v:Int) 1) 63=((UInt64.ofNat (v/2&&&63)).toNat:Int):=by
  rw [show(1:Int)=((1:Nat):Int) from rfl,Y0k _ _ (by omega),show(63:Int)=((63:Nat):Int) from rfl,G0w _ _ (by omega) (by omega),W0d _ (Nat.lt_of_le_of_lt Nat.and_le_right (by omega))]
 have s2:IntKind.i64.wrap (IntKind.i64.wrap ((bShr .u64 (v:Int) 7).tmod 9)-6)=((v/128 % 9:Nat):Int)-6:=by
  rw [show(7:Int)=((7:Nat):Int) from rfl,Y0k _ _ (by omega),show(9:Int)=((9:Nat):Int) from rfl,x0k,Q0i _ (by omega),Q0q _ (by omega) (by omega)]
 simp -dsimp only [go_sem,←hve,s1,s2]
 refine(J2z _ [UInt64.ofNat (v/2&&&63)] _ _ (by simp) (by omega) (by omega)).mono ?_
 rintro r st' ⟨rfl,rfl⟩
 simp -dsimp only [go_sem]
 exact⟨_,Q1v _ _ _,rfl⟩
theorem U2j (x:Nm) (st:Q0g):PCalls Tryz.prog 118 [.agg (encN x)] st (fun r st'=>r= .agg (encI ⟨x,x⟩)∧st'=st):=by
 refine Q0b none Tryz.func118 rfl fun E=>Q0a ?_
 simp -dsimp only [go_sem]
theorem q2y (a b:Nm) (st:Q0g) (ha:wN a) (hb:wN b):PCalls Tryz.prog 119 [.agg (encN a),.agg (encN b)] st (fun r st'=>r= .agg (encI (betw a b))∧st'=st):=by
 unfold wN at ha hb
 refine Q0b none Tryz.func119 rfl fun E=>Q0a ?_
 simp -dsimp only [go_sem]
 refine(G0v a b st (by omega) (by omega)).mono ?_
 rintro r st ⟨rfl,rfl⟩
 simp -dsimp only [go_sem]
 refine ck (fun h=> ?_) (fun h=> ?_)
 · have h1:=of_decide_eq_true h
   simp -dsimp only [go_sem]
   rw [betw,if_pos h1]
 · have h1:=of_decide_eq_false h
   simp -dsimp only [go_sem]
   rw [betw,if_neg h1]
theorem W2r (l:List UInt64) (i k:Nat) (st:Q0g) (h:atD st k l i) (hi:i≤900000000000):PCalls Tryz.prog 70 [.gp k 0] st (fun r st'=> ∃x j,Q0n x=true∧i≤j∧j≤i+3∧r= .agg (encI x)∧st'=st.set k (dk l j)):=by
 refine Q0b none Tryz.func70 rfl fun E=>Q0a ?_
 simp -dsimp only [go_sem]
 refine(X2k l i k 3 st h (by omega) (by omega) (by omega)).mono ?_
 rintro r st' ⟨rfl,rfl⟩
 have h1:=h.set (i+1)
 have h2:=h.set (i+2)
 simp -dsimp only [go_sem]
 refine ck (fun hy=> ?_) (fun hy=> ?_)
 · simp -dsimp only [go_sem]
   refine(j0z l (i+1) k _ h1 (by omega)).mono ?_
   rintro r st' ⟨x,hx,rfl,rfl⟩
   simp -dsimp only [go_sem,X0x]
   refine(U2j x _).mono ?_
   rintro r st' ⟨rfl,rfl⟩
   simp -dsimp only [go_sem]
   exact⟨⟨x,x⟩,i+2,k0j hx,by omega,by omega,rfl,rfl⟩
 · simp -dsimp only [go_sem]
   refine(j0z l (i+1) k _ h1 (by omega)).mono ?_
   rintro r st' ⟨x,hx,rfl,rfl⟩
   simp -dsimp only [go_sem,X0x]
   refine(j0z l (i+2) k _ h2 (by omega)).mono ?_
   rintro r st' ⟨y,hy,rfl,rfl⟩
   simp -dsimp only [go_sem,X0x]
   refine(q2y x y _ (Q0t hx) (Q0t hy)).mono ?_
   rintro r st' ⟨rfl,rfl⟩
   simp -dsimp only [go_sem]
   exact⟨betw x y,i+3,V2e hx hy,by omega,by omega,rfl,rfl⟩
theorem J2c (l:List UInt64) (i k n:Nat) (st:Q0g) (h:atD st k l i) (hi:i≤800000000000) (hn:n≤1000000):PCalls Tryz.prog 29 [.gp k 0,.sc (.int .i64 n)] st (fun r st'=> ∃b j,b.length=n∧(∀m,m<b.length→Q0n (b.getD m default)=true)∧i≤j∧j≤i+3*n∧r= .sl .no (Q0u b)∧st'=st.set k (dk l j)):=by
 refine Q0b none Tryz.func29 rfl fun E=>Q0a ?_
 simp -dsimp only [go_sem]
 refine Z0y 5 6 ?_
 simp -dsimp only [go_sem]
 refine Q0e [true,true,false,false,false,true,true] 0 1 (fun m s=> ∃b j,m=n-b.length∧b.length≤n∧(∀m,m<b.length→Q0n (b.getD m default)=true)∧i≤j∧j≤i+3*b.length∧
  s=⟨[.gp k 0,.sc (.int .i64 n),.junk,.junk,.junk,.sl (.own 0) (Q0u b),.sc (.int .i64 b.length)]++List.replicate 11 .junk,[],[(b.length,6)],st.set k (dk l j)⟩) n ?_ ?_
 · simp -dsimp only [go_sem]
   refine⟨[],i,by simp,by simp,fun m hm=>by simp at hm,by omega,by omega,?_⟩
   rw [h.same];rfl
 · rintro m s ⟨b,j,rfl,hb,hr,hj,hj2,rfl⟩
   simp -dsimp only [go_sem]
   refine ck (fun h1=> ?_) (fun h1=> ?_)
   · have hlt:b.length<n:=by have:=of_decide_eq_true h1;omega
     have x1:IntKind.i64.wrap ((b.length:Int)+1)=((b.length+1:Nat):Int):=by
      rw [show((b.length:Int)+1)=((b.length+1:Nat):Int) from rfl,Q0i _ (by omega)]
     simp -dsimp only [go_sem]
     refine(W2r l j k _ (h.set j) (by omega)).mono ?_
     rintro r st' ⟨x,j',hx,hj3,hj4,rfl,rfl⟩
     simp -dsimp only [go_sem,X0x,x1]
     refine⟨by omega,n-(b.length+1),by omega,b++ [x],j',by simp,by simp;omega,fun m hm=> ?_,by omega,by simp;omega,by simp [Q0u,encI]⟩
     by_cases hm2:m<b.length
     · rw [G1g _ _ _ _ hm2];exact hr m hm2
     · have e:m=b.length:=by simp at hm;omega
       rw [e,v0i];exact hx
   · have hge:b.length=n:=by have:=of_decide_eq_false h1;omega
     simp -dsimp only [go_sem]
     refine J0u [false,false,false,false,false,true] (Q0a ?_)
     simp -dsimp only [go_sem]
     exact⟨b,j,hge,hr,hj,by omega,rfl,rfl⟩
theorem y2z (l:List UInt64) (i k:Nat) (st:Q0g) (h:atD st k l i) (hi:i≤900000000000):PCalls Tryz.prog 31 [.gp k 0] st (fun r st'=> ∃q,0<q∧q≤64∧r= .agg (encN (tq q))∧st'=st.set k (dk l (i+2))):=by
 refine Q0b none Tryz.func31 rfl fun E=>Q0a ?_
 simp -dsimp only [go_sem]
 refine(Y1s l i k st h (by omega)).mono ?_
 rintro r st' ⟨rfl,rfl⟩
 have hv:=(l.getD i 0).toNat_lt
 obtain⟨v,hve⟩: ∃v,v=(l.getD i 0).toNat:=⟨_,rfl⟩
 rw [←hve] at hv
 have hc:v&&&7≤7:=Nat.and_le_right
 have s1:IntKind.u64.wrap (1+bAnd .u64 (v:Int) 7)=((UInt64.ofNat (1+(v&&&7))).toNat:Int):=by
  rw [show(7:Int)=((7:Nat):Int) from rfl,G0w _ _ (by omega) (by omega),W0d _ (by omega),show(1:Int)+((v&&&7:Nat):Int)=((1+(v&&&7):Nat):Int) from by omega,Z0m _ (by omega)]
 have h1:=h.set (i+1)
 simp -dsimp only [go_sem,←hve,s1]
 refine(V0f l (i+1) k 4 _ h1 (by omega) (by omega) (by omega)).mono ?_
 rintro r st' ⟨rfl,rfl⟩
 have hj:=k0k l (i+1) (n:=4) (by omega)
 have s2:IntKind.i64.wrap (IntKind.i64.wrap (nx l (i+1) 4:Int)-3)=(nx l (i+1) 4:Int)-3:=by
  rw [Q0i _ (by omega),Q0q _ (by omega) (by omega)]
 have s3:IntKind.i64.wrap ((nx l (i+1) 4:Int)-3)=(nx l (i+1) 4:Int)-3:=by
  rw [Q0q _ (by omega) (by omega)]
 simp -dsimp only [go_sem,s2,s3,X0x]
 have he:=G2f (1+(v&&&7)) (nx l (i+1) 4) (by omega) hj (by omega)
 refine(J2z false [UInt64.ofNat (1+(v&&&7))] ((nx l (i+1) 4:Int)-3) _ (by simp) (by omega) (by omega)).mono ?_
 rintro r st' ⟨rfl,rfl⟩
 simp -dsimp only [go_sem]
 rw [he]
 have hp:2^nx l (i+1) 4≤8:=Nat.pow_le_pow_right (by decide) (by omega:nx l (i+1) 4≤3)
 have hp0:0<2^nx l (i+1) 4:=Nat.pow_pos (by decide)
 have hle:=Nat.mul_le_mul (by omega:1+(v&&&7)≤8) hp
 exact⟨_,Nat.mul_pos (by omega) hp0,hle,rfl⟩
end Go.Pv
end
section
/-Tubes out of the deck. -/
set_option maxRecDepth 100000
namespace Go.Pv
open Go.Proofs
set_option maxHeartbeats 1000000 in
theorem U1r (l:List UInt64) (i k n most:Nat) (st:Q0g) (h:atD st k l i) (hi:i≤1000000000) (hn:1≤n∧n≤4) (hm:most≤600):PCalls Tryz.prog 11 [.gp k 0,.sc (.int .i64 n),.sc (.int .i64 most)] st
 (fun r st'=> ∃a at' q j,z2l n a at' q∧a.length≤most∧i≤j∧j≤i+1000000∧r= .sl .no (W0m a)∧st'=st.set k (dk l j)):=by
 refine Q0b none Tryz.func11 rfl fun E=>Q0a ?_
 have x0:IntKind.i64.wrap ((most:Int)+1)=((most+1:Nat):Int):=by
  rw [show((most:Int)+1)=((most+1:Nat):Int) from rfl,Q0i _ (by omega)]
 simp -dsimp only [go_sem,x0]
 refine(V0f l i k (most+1) st h (by omega) (by omega) (by omega)).mono ?_
 rintro r st' ⟨rfl,rfl⟩
 have hk0:=k0k l i (n:=most+1) (by omega)
 obtain⟨k0,hk0e⟩: ∃k0,k0=nx l i (most+1):=⟨_,rfl⟩
 rw [←hk0e] at hk0⊢
 simp -dsimp only [go_sem]
 refine Z0y 7 9 ?_
 simp -dsimp only [go_sem]
 refine Y0u 0 ?_
 simp -dsimp only [go_sem]
 refine Q0e [true,true,false,false,false,false,false,true,true,true,true] 1 1 (fun m s=> ∃a at' q j,z2l n a at' q∧a.length+m≤most∧i≤j∧j≤i+1+a.length*16∧
  s=⟨[.gp k 0,.sc (.int .i64 n),.junk,.junk,.junk,.junk,.junk,.sl (.own 0) (W0m a),.sc (.int .i64 at'),.lp 0 0,.sc (.int .i64 m)]++List.replicate 43 .junk,[encN (tq q)],[(a.length,9)],st.set k (dk l j)⟩) k0 ?_ ?_
 · simp -dsimp only [go_sem]
   refine⟨[],0,0,i+1,z2k n,by simp;omega,by omega,by omega,?_⟩
   rw [show tq 0=default from by decide];rfl
 · rintro m s ⟨a,at',q,j,hT,hal,hj,hj2,rfl⟩
   simp -dsimp only [go_sem]
   refine ck (fun h1=> ?_) (fun h1=> ?_)
   · have hpos:0<m:=by have:=of_decide_eq_true h1;omega
     have b1:=hT.2.2.2.1
     have b2:=hT.2.2.2.2
     have n1:=k0k l j (n:=4) (by omega)
     have n2:=k0k l (j+1) (n:=5) (by omega)
     have n3:nx l j 4/3*nx l (j+1) 5≤4:=Nat.le_trans (Nat.mul_le_mul (by omega:nx l j 4/3≤1) (by omega:nx l (j+1) 5≤4)) (by omega)
     have x1:IntKind.i64.wrap ((at':Int)+1)=(at':Int)+1:=Q0q _ (by omega) (by omega)
     have x2:IntKind.i64.wrap ((nx l j 4:Int).tdiv 3)=((nx l j 4/3:Nat):Int):=by
      rw [show(3:Int)=((3:Nat):Int) from rfl,Z1m,Q0i _ (by omega)]
     have x3:IntKind.i64.wrap (((nx l j 4/3:Nat):Int)*(nx l (j+1) 5:Int))=((nx l j 4/3*nx l (j+1) 5:Nat):Int):=by
      rw [←Int.natCast_mul,Q0i _ (by omega)]
     have x4:IntKind.i64.wrap ((at':Int)+1+((nx l j 4/3*nx l (j+1) 5:Nat):Int))=((at'+1+nx l j 4/3*nx l (j+1) 5:Nat):Int):=by
      rw [Q0q _ (by omega) (by omega)];omega
     have x5:IntKind.i64.wrap ((m:Int)-1)=((m-1:Nat):Int):=by rw [Q0q _ (by omega) (by omega)];omega
     simp -dsimp only [go_sem]
     refine Q0o Z0p 54 (.step 0 [] (.step 1 [] (.step 2 [] (.step 3 [] (.step 4 [] (.step 7 [] (.step 11 [] (.step 12 [] (.step 13 [] (.alt (.step 5 [11] (.step 6 [] (.alt (.step 8 [11] (.step 9 [] (.step 10 [] (.alt (.step 14 [11] (.step 15 [] (.step 16 [11] (.step 17 [] (.done))))) (.step 16 [11] (.step 14 [11] (.step 15 [] (.step 17 [] (.done))))))))) (.step 16 [11] (.step 8 [11] (.step 9 [] (.step 10 [] (.step 14 [11] (.step 15 [] (.step 17 [] (.done))))))))))) (.step 16 [11] (.step 5 [11] (.step 6 [] (.step 8 [11] (.step 9 [] (.step 10 [] (.step 14 [11] (.step 15 [] (.step 17 [] (.done)))))))))))))))))))) (by decide+kernel) (by simp) ?_
     simp -dsimp only [go_sem,x1]
     refine And.intro ?_ ?_
     all_goals
      refine(V0f l j k 4 _ (h.set j) (by omega) (by omega) (by omega)).mono ?_
      rintro r st' ⟨rfl,rfl⟩
      simp -dsimp only [go_sem,x1,x2,X0x]
     all_goals try refine And.intro ?_ ?_
     all_goals
      refine(V0f l (j+1) k 5 _ (h.set (j+1)) (by omega) (by omega) (by omega)).mono ?_
      rintro r st' ⟨rfl,rfl⟩
      simp -dsimp only [go_sem,x1,x2,x3,x4,X0x]
     all_goals try refine And.intro ?_ ?_
     all_goals
      refine(J2c l (j+1+1) k n _ (h.set (j+1+1)) (by omega) (by omega)).mono ?_
      rintro r st' ⟨b,j',hbl,hbr,hj3,hj4,rfl,rfl⟩
      simp -dsimp only [go_sem,x1,x2,x3,x4,X0x]
     all_goals
      refine Q0o Z0p 54 (.step 0 [] (.step 1 [] (.step 2 [0] (.step 3 [] (.step 4 [] (.step 5 [] (.step 6 [] (.step 7 [] (.step 8 [] (.done)))))))))) (by decide+kernel) (by simp) ?_
      simp -dsimp only [go_sem]
      refine(y2z l j' k _ (h.set j') (by omega)).mono ?_
      rintro r st' ⟨p,hp1,hp2,rfl,rfl⟩
      simp -dsimp only [go_sem,X0x]
      refine(v0g (tq q) (tq p) _ (Q0t (K0f q)) (Q0t (K0f p))).mono ?_
      rintro r st' ⟨rfl,rfl⟩
      simp -dsimp only [go_sem,k1w q p (by omega)]
      refine⟨by omega,?_⟩
      refine Q0o Z0p 54 (.step 0 [] (.step 1 [] (.step 2 [] (.step 3 [] (.step 4 [] (.step 5 [] (.done))))))) (by decide+kernel) (by simp) ?_
      simp -dsimp only [go_sem,x5]
      refine⟨m-1,by omega,a++ [⟨(at':Int)+1,((at'+1+nx l j 4/3*nx l (j+1) 5:Nat):Int),tq q,tq (q+p),b⟩],at'+1+nx l j 4/3*nx l (j+1) 5,q+p,j'+2,
       V2k hT (by omega) hn n3 ⟨hp1,hp2⟩ hbl hbr (by rw [show((at'+1+nx l j 4/3*nx l (j+1) 5:Nat):Int)=(at':Int)+1+((nx l j 4/3*nx l (j+1) 5:Nat):Int) from by omega]),
       by simp;omega,by omega,by simp;omega,by simp [W0m,encS]⟩
   · have hge:m=0:=by have:=of_decide_eq_false h1;omega
     simp -dsimp only [go_sem]
     refine J0u [false,false,false,false,false,false,false,true] (Q0a ?_)
     simp -dsimp only [go_sem]
     exact⟨a,at',q,j,hT,by omega,hj,by omega,rfl,rfl⟩
end Go.Pv
end
section
/-Numbers,intervals and boxes out of the deck. -/
set_option maxRecDepth 100000
namespace Go.Pv
open Go.Proofs
def isW (x:Int):Prop:=0≤x∧x<18446744073709551616
def absN (x:Nm):Nm:=if Q0f x=true then⟨false,x.exp,x.w⟩ else default
def Y0y (x:Nm):Nm:=if Q0f x=true then(if x.w= [] then x else⟨!x.neg,x.exp,x.w⟩) else default
theorem Q1q (x:Nm):Q0f (absN x)=true:=by
 unfold absN
 split
 · rename_i h
   unfold Q0f at h⊢
   simp only at h⊢
   split
   · rename_i hw;rw [if_pos hw] at h;simp at h;simp [h]
   · rename_i hw;rw [if_neg hw] at h;exact h
 · exact Z0q
theorem x1t (x:Nm):Q0f (Y0y x)=true:=by
 unfold Y0y
 split
 · rename_i h
   split
   · exact h
   · rename_i hw
     unfold Q0f at h⊢
     simp only at h⊢
     rw [if_neg hw] at h⊢;exact h
 · exact Z0q
theorem Z2b (x:Nm):0≤mant (absN x):=by
 unfold absN mant
 split
 · simp
 · decide
theorem Y1v (x:Nm):mant (Y0y (absN x))≤0:=by
 have h:=Q1q x
 unfold Y0y
 rw [if_pos h]
 split
 · rename_i hw
   unfold mant
   rw [hw];simp [valW,nW,val]
 · unfold mant
   have:(absN x).neg=false:=by unfold absN;split<;>rfl
   rw [this];simp
theorem X2w (x y:Nm):Q0n ⟨Y0y (absN x),absN y⟩=true:=by
 unfold Q0n
 simp only [Bool.and_eq_true,decide_eq_true_eq]
 refine⟨⟨x1t _,Q1q _⟩,?_⟩
 unfold cmpN cmpE
 refine cmpI_le.2 ?_
 have h1:=Y1v x
 have h2:=Z2b y
 have p1:(0:Int)≤2^((Y0y (absN x)).exp-min (Y0y (absN x)).exp (absN y).exp).toNat:=Int.pow_nonneg (by decide)
 have p2:(0:Int)≤2^((absN y).exp-min (Y0y (absN x)).exp (absN y).exp).toNat:=Int.pow_nonneg (by decide)
 have q1:=Int.mul_nonpos_of_nonpos_of_nonneg h1 p1
 have q2:=Int.mul_nonneg h2 p2
 omega
theorem j3p (x:Nm) (st:Q0g) (hw:wN x):PCalls Tryz.prog 96 [.agg (encN x)] st (fun r st'=>r= .agg (encN (absN x))∧st'=st):=by
 unfold wN at hw
 refine Q0b none Tryz.func96 rfl fun E=>Q0a ?_
 simp -dsimp only [go_sem]
 refine(Z0j x st (by omega)).mono ?_
 rintro r st ⟨rfl,rfl⟩
 simp -dsimp only [go_sem]
 refine ck (fun h=> ?_) (fun h=> ?_)
 · have hr:Q0f x=false:=by simpa using h
   simp -dsimp only [go_sem]
   rw [absN,if_neg (by simp [hr])];rfl
 · have hr:Q0f x=true:=by simpa using h
   simp -dsimp only [go_sem]
   rw [absN,if_pos hr]
theorem K3m (x:Nm) (st:Q0g) (hw:wN x):PCalls Tryz.prog 95 [.agg (encN x)] st (fun r st'=>r= .agg (encN (Y0y x))∧st'=st):=by
 unfold wN at hw
 refine Q0b none Tryz.func95 rfl fun E=>Q0a ?_
 simp -dsimp only [go_sem]
 refine(Z0j x st (by omega)).mono ?_
 rintro r st ⟨rfl,rfl⟩
 simp -dsimp only [go_sem]
 refine ck (fun h=> ?_) (fun h=> ?_)
 · have hr:Q0f x=false:=by simpa using h
   simp -dsimp only [go_sem]
   rw [Y0y,if_neg (by simp [hr])];rfl
 · have hr:Q0f x=true:=by simpa using h
   simp -dsimp only [go_sem]
   refine ck (fun h0=> ?_) (fun h0=> ?_)
   · have hw0:x.w= []:=List.length_eq_zero_iff.1 (G0p (b:=0) h0)
     simp -dsimp only [go_sem]
     rw [Y0y,if_pos hr,if_pos hw0]
   · have hw0:x.w≠ []:=fun e=>q0v (b:=0) h0 (by rw [e];rfl)
     simp -dsimp only [go_sem]
     rw [Y0y,if_pos hr,if_neg hw0]
theorem w2n (l:List UInt64) (i k:Nat) (st:Q0g) (h:atD st k l i) (hi:i≤1000000000000):PCalls Tryz.prog 12 [.gp k 0] st
 (fun r st'=> ∃n:Nat,1≤n∧n≤4∧r= .sc (.int .i64 n)∧st'=st.set k (dk l (i+1))):=by
 refine Q0b none Tryz.func12 rfl fun E=>Q0a ?_
 simp -dsimp only [go_sem]
 refine(V0f l i k 4 st h hi (by omega) (by omega)).mono ?_
 rintro r st' ⟨rfl,rfl⟩
 have n1:=k0k l i (n:=4) (by omega)
 have x1:IntKind.i64.wrap (1+(nx l i 4:Int))=((1+nx l i 4:Nat):Int):=by rw [show(1+(nx l i 4:Int))=((1+nx l i 4:Nat):Int) from by omega,Q0i _ (by omega)]
 simp -dsimp only [go_sem,x1]
 exact⟨1+nx l i 4,by omega,by omega,rfl⟩
end Go.Pv
end
