/- Parts of the walk: H1, H2, H3, H4, H10. -/
import Derived.Test.YthichlfphjbadaaGreatZH
import Derived.Test.YthichlfphjbadaaGreatZK
set_option linter.unusedVariables false
set_option linter.unusedSimpArgs false
section
/-The document's Words,Val.Num,Make. -/
set_option maxRecDepth 100000
namespace Go.Pv
open Go.Proofs
theorem y2p (m:Nat) (st:Q0g) (hm:(Q0d m).length≤1000000000000):PCalls Tryz.prog 123 [.sl .no (encD (Q0d m))] st (fun r st'=>r= .sl .no (encW (Z0z m))∧st'=st):=by
 rw [←z2o m]
 obtain⟨a,ha⟩: ∃a,a=Q0d m:=⟨_,rfl⟩
 rw [←ha] at hm⊢
 refine Q0b none Tryz.func123 rfl fun E=>Q0a ?_
 simp -dsimp only [go_sem]
 refine X0k 3 1 ?_
 simp -dsimp only [go_sem]
 refine Q0e [true,false,false,true,true] 0 1 (fun n s=> ∃k,n=a.length+1-2*k∧2*k≤a.length+1∧
  s=⟨[.sl .no (encD a),.junk,.junk,.sl (.own 0) (encW (pk a k)),.sc (.int .i64 (2*k:Nat))]++List.replicate 31 .junk,[],[((pk a k).length,1)],st⟩) (a.length+1) ?_ ?_
 · simp -dsimp only [go_sem]
   exact⟨0,by omega,by omega,rfl⟩
 · rintro n s ⟨k,rfl,hk,rfl⟩
   simp -dsimp only [go_sem]
   refine ck (fun h=> ?_) (fun h=> ?_)
   · have hlt:2*k<a.length:=by have:=of_decide_eq_true h;omega
     have g1:=K0g a (2*k) hlt
     have h1:=(a.getD (2*k) 0).toNat_lt
     have h2:=(a.getD (2*k+1) 0).toNat_lt
     have x1:IntKind.i64.wrap (((2*k:Nat):Int)+1)=((2*k+1:Nat):Int):=by
      rw [show(((2*k:Nat):Int)+1)=((2*k+1:Nat):Int) from rfl,Q0k _ (by omega)]
     have x2:IntKind.i64.wrap (((2*k:Nat):Int)+2)=((2*(k+1):Nat):Int):=by
      rw [show(((2*k:Nat):Int)+2)=((2*(k+1):Nat):Int) from by omega,Q0k _ (by omega)]
     have w1:IntKind.u64.wrap ((a.getD (2*k) 0).toNat:Int)=((a.getD (2*k) 0).toNat:Int):=Z0c _ (by omega)
     have w2:IntKind.u64.wrap ((a.getD (2*k+1) 0).toNat:Int)=((a.getD (2*k+1) 0).toNat:Int):=Z0c _ (by omega)
     have ew:=j1q a k
     have en:=j1r a k
     have pl:=H0b a k
     simp -dsimp only [go_sem,g1,x1,w1]
     refine⟨by omega,?_⟩
     refine ck (fun h5=> ?_) (fun h5=> ?_)
     · have hlt2:2*k+1<a.length:=by have:=of_decide_eq_true h5;omega
       have g2:=K0g a (2*k+1) hlt2
       have s1:bOr .u64 ((a.getD (2*k) 0).toNat:Int) (bShl .u64 ((a.getD (2*k+1) 0).toNat:Int) 32)=((UInt64.ofNat ((a.getD (2*k) 0).toNat+4294967296*(a.getD (2*k+1) 0).toNat)).toNat:Int):=by
        rw [ew,show(32:Int)=((32:Nat):Int) from rfl,W0f _ 32 (by omega),k0d _ _ (by omega) (Nat.mod_lt _ (by decide)),y0w _ _ 32 (by omega) (X1x _ 32 (by omega))]
        congr 1
        omega
       simp -dsimp only [go_sem,x1,x2,g2,w2,s1]
       refine⟨by omega,by omega,a.length+1-2*(k+1),by omega,k+1,rfl,by omega,by rw [en];simp⟩
     · have h0:a.getD (2*k+1) 0=0:=z0f _ _ _ (by have:=of_decide_eq_false h5;omega)
       have s1:((a.getD (2*k) 0).toNat:Int)=((UInt64.ofNat ((a.getD (2*k) 0).toNat+4294967296*(a.getD (2*k+1) 0).toNat)).toNat:Int):=by
        rw [ew,h0];rfl
       simp -dsimp only [go_sem,x2]
       rw [s1,U2o,←en]
       refine⟨by omega,a.length+1-2*(k+1),by omega,k+1,rfl,by omega,by simp [H0b]⟩
   · have hge:k=(a.length+1)/2:=by have:=of_decide_eq_false h;omega
     simp -dsimp only [go_sem]
     refine V0b [false,false,false,true] (Q0a ?_)
     simp -dsimp only [go_sem]
     rw [hge]
theorem Z1c (v:Vl) (st:Q0g) (hm:(Q0d v.m).length≤1000000000000):PCalls Tryz.prog 73 [.agg (encV v)] st (fun r st'=>r= .tup [.agg (encN (numV v).1),.sc (.int .i64 (numV v).2)]∧st'=st):=by
 refine Q0b none Tryz.func73 rfl fun E=>Q0a ?_
 simp -dsimp only [go_sem]
 refine ck (fun h=> ?_) (fun h=> ?_)
 · have h0:v.m=0:=digitsOf_nil.1 (List.length_eq_zero_iff.1 (Y0z (b:=0) h))
   simp -dsimp only [go_sem]
   rw [numV,if_pos h0];rfl
 · have h0:v.m≠0:=fun e=>G0f (b:=0) h (by rw [e,Z0v];rfl)
   simp -dsimp only [go_sem]
   refine(y2p v.m st hm).mono ?_
   rintro r st ⟨rfl,rfl⟩
   simp -dsimp only [go_sem]
   have bad:64<(Z0z v.m).length∨v.e< -65536∨65536<v.e→numV v=(default,2):=fun h=>by rw [numV,if_neg h0,if_pos h]
   refine gkF (fun h1=> ?_) (fun h1=> ?_)
   · have h1':=of_decide_eq_false h1
     simp -dsimp only [go_sem,h1]
     refine gkF (fun h2=> ?_) (fun h2=> ?_)
     · have h2':=of_decide_eq_false h2
       simp -dsimp only [go_sem,h1,h2]
       refine ck (fun h3=> ?_) (fun h3=> ?_)
       · have h3':=of_decide_eq_true h3
         simp -dsimp only [go_sem]
         rw [bad (by omega)];rfl
       · have h3':=of_decide_eq_false h3
         simp -dsimp only [go_sem]
         rw [numV,if_neg h0,if_neg (by omega)]
     · have h2':=of_decide_eq_true h2
       simp -dsimp only [go_sem,h1,h2]
       rw [bad (by omega)];rfl
   · have h1':=of_decide_eq_true h1
     simp -dsimp only [go_sem,h1]
     rw [bad (by omega)];rfl
theorem G3d (neg:Bool) (w:List UInt64) (e:Int) (st:Q0g) (hw:w.length≤1000000000) (he1: -1000000000000≤e) (he2:e≤1000000000000):PCalls Tryz.prog 87 [.sc (.bool neg),.sl .no (encW w),.sc (.int .i64 e)] st (fun r st'=>r= .tup [.agg (encN (U0e neg w e).1),.sc (.int .i64 (U0e neg w e).2)]∧st'=st):=by
 have hb:=v0z w
 unfold U0g at hb
 have hl:=X0m (valW w)
 have ht:=q0k (valW w)
 refine Q0b none Tryz.func87 rfl fun E=>Q0a ?_
 simp -dsimp only [go_sem]
 refine(W2e w st (by omega)).mono ?_
 rintro r st ⟨rfl,rfl⟩
 simp -dsimp only [go_sem]
 refine ck (fun h=> ?_) (fun h=> ?_)
 · have h0:valW w=0:=digitsOf_nil.1 (List.length_eq_zero_iff.1 (Y0z (b:=0) h))
   simp -dsimp only [go_sem]
   rw [U0e,if_pos h0];rfl
 · have h0:valW w≠0:=fun e=>G0f (b:=0) h (by rw [e,Z0v];rfl)
   have w1:IntKind.i64.wrap (-65536-(tz (valW w):Int))= -65536-(tz (valW w):Int):=Q0p _ (by omega) (by omega)
   simp -dsimp only [go_sem,w1]
   have bad:65536<e∨e< -65536-(tz (valW w):Int)→U0e neg w e=(default,2):=fun h=>by rw [U0e,if_neg h0,if_pos h]
   refine gkF (fun h1=> ?_) (fun h1=> ?_)
   · have h1':=of_decide_eq_false h1
     simp -dsimp only [go_sem,h1]
     refine(J2l (valW w) st (by omega)).mono ?_
     rintro r st ⟨rfl,rfl⟩
     simp -dsimp only [go_sem,h1,w1]
     refine ck (fun h2=> ?_) (fun h2=> ?_)
     · have h2':=of_decide_eq_true h2
       simp -dsimp only [go_sem]
       rw [bad (by omega)];rfl
     · have h2':=of_decide_eq_false h2
       simp -dsimp only [go_sem]
       refine(j1z neg (valW w) e st (by omega) (by omega) (by omega)).mono ?_
       rintro r st ⟨rfl,rfl⟩
       simp -dsimp only [go_sem]
       have hv:(Q0d (oddV neg (valW w) e).m).length≤1000000000000:=by
        have:(oddV neg (valW w) e).m≤valW w:=by
         unfold oddV;split
         · exact Nat.zero_le _
         · exact Nat.div_le_self _ _
        have h1:=X0m (oddV neg (valW w) e).m
        have h2:=J0w this
        omega
       refine(Z1c _ st hv).mono ?_
       rintro r st ⟨rfl,rfl⟩
       simp -dsimp only [go_sem]
       rw [U0e,if_neg h0,if_neg (by omega)]
   · have h1':=of_decide_eq_true h1
     simp -dsimp only [go_sem,h1]
     rw [bad (by omega)];rfl
theorem Z2y (neg:Bool) (w:List UInt64) (e:Int) (st:Q0g) (hw:w.length≤1000000000) (he1: -1000000000000≤e) (he2:e≤1000000000000):PCalls Tryz.prog 45 [.sc (.bool neg),.sl .no (encW w),.sc (.int .i64 e)] st (fun r st'=>r= .agg (encN (U0e neg w e).1)∧st'=st):=by
 refine Q0b none Tryz.func45 rfl fun E=>Q0a ?_
 simp -dsimp only [go_sem]
 refine(G3d neg w e st hw he1 he2).mono ?_
 rintro r st ⟨rfl,rfl⟩
 simp -dsimp only [go_sem]
theorem X2r (a b:Vl) (st:Q0g) (ha:smV a) (hb:smV b):PCalls Tryz.prog 71 [.sc (.int .i64 0),.agg (encV a),.agg (encV b)] st (fun r st'=>r= .agg (encV (J0p a b))∧st'=st):=by
 refine Q0b none Tryz.func71 rfl fun E=>Q0a ?_
 simp -dsimp only [go_sem]
 refine(w1m a b st ha hb).mono ?_
 rintro r st ⟨rfl,rfl⟩
 simp -dsimp only [go_sem]
theorem j1o {a b:Vl} (ha:smV a) (hb:smV b):(Q0d (J0p a b).m).length≤1000000000000:=by
 obtain⟨a1,a2,a3⟩:=ha
 obtain⟨b1,b2,b3⟩:=hb
 have key: ∀m,Q0j m≤10000000000000→(Q0d m).length≤1000000000000:=fun m h=>by
  have:=X0m m;omega
 refine key _ ?_
 unfold J0p
 split
 · omega
 · split
   · omega
   · have hodd: ∀(s:Int) (e:Int),Q0j (mkV s e).m≤Q0j s.natAbs:=fun s e=>by
      refine J0w ?_
      unfold mkV oddV
      split
      · exact Nat.zero_le _
      · exact Nat.div_le_self _ _
     refine Nat.le_trans (hodd _ _) ?_
     have h1:=Int.natAbs_add_le (Z0x a*2^(a.e-min a.e b.e).toNat) (Z0x b*2^(b.e-min a.e b.e).toNat)
     rw [natAbs_pow,natAbs_pow] at h1
     have na: ∀v:Vl,(Z0x v).natAbs=v.m:=fun v=>by unfold Z0x;split<;>simp
     rw [na,na] at h1
     have h2:=X0y a.m (a.e-min a.e b.e).toNat
     have h3:=X0y b.m (b.e-min a.e b.e).toNat
     have h4:=J0w h1
     have h5:=W0e (a.m*2^(a.e-min a.e b.e).toNat) (b.m*2^(b.e-min a.e b.e).toNat)
     omega
theorem Y1p (a b:Nm) (st:Q0g) (ha:wN a) (hb:wN b):PCalls Tryz.prog 30 [.sc (.int .i64 0),.agg (encN a),.agg (encN b)] st (fun r st'=>r= .tup [.agg (encN (J0j a b).1),.sc (.int .i64 (J0j a b).2)]∧st'=st):=by
 unfold wN at ha hb
 refine Q0b none Tryz.func30 rfl fun E=>Q0a ?_
 simp -dsimp only [go_sem]
 refine(Z0m a st (by omega)).mono ?_
 rintro r st ⟨rfl,rfl⟩
 simp -dsimp only [go_sem]
 refine gkF (fun h=> ?_) (fun h=> ?_)
 · have h1:Q0f a=true:=by simpa using h
   simp -dsimp only [go_sem,h1]
   refine(Z0m b st (by omega)).mono ?_
   rintro r st ⟨rfl,rfl⟩
   simp -dsimp only [go_sem]
   refine ck (fun h=> ?_) (fun h=> ?_)
   · have h2:Q0f b=false:=by simpa using h
     simp -dsimp only [go_sem]
     rw [J0j,if_neg (by simp [h2])];rfl
   · have h2:Q0f b=true:=by simpa using h
     simp -dsimp only [go_sem]
     refine Q0m Z0t 26 (.step 0 [] (.step 1 [] (.step 3 [] (.step 2 [3] (.step 4 [] (.step 5 [] (.step 6 [] (.step 7 [] (.step 8 [] (.step 9 [] (.step 10 [] (.done)))))))))))) (by decide+kernel) (by simp) ?_
     simp -dsimp only [go_sem]
     refine(of_c a st (by omega)).mono ?_
     rintro r st ⟨rfl,rfl⟩
     simp -dsimp only [go_sem]
     refine(of_c b st (by omega)).mono ?_
     rintro r st ⟨rfl,rfl⟩
     simp -dsimp only [go_sem]
     have sa:=Y1s (J0o h1)
     have sb:=Y1s (J0o h2)
     refine(X2r _ _ st sa sb).mono ?_
     rintro r st ⟨rfl,rfl⟩
     simp -dsimp only [go_sem]
     refine(Z1c _ st (j1o sa sb)).mono ?_
     rintro r st ⟨rfl,rfl⟩
     simp -dsimp only [go_sem]
     rw [J0j,if_pos ⟨h1,h2⟩]
 · have h1:Q0f a=false:=by simpa using h
   simp -dsimp only [go_sem,h1]
   rw [J0j,if_neg (by simp [h1])];rfl
end Go.Pv
end
section
/-The deck:Of,Next,N,Yes. -/
set_option maxRecDepth 100000
namespace Go.Pv
open Go.Proofs
def dk (l:List UInt64) (i:Nat):List PV:= [.sl .no (encW l),.sc (.int .i64 i)]
def atD (st:Q0g) (k:Nat) (l:List UInt64) (i:Nat):Prop:=st.getD k []=dk l i
theorem atD.lt {st:Q0g} {k:Nat} {l:List UInt64} {i:Nat} (h:atD st k l i):k<st.length:=by
 refine Nat.lt_of_not_le fun hn=> ?_
 unfold atD at h
 rw [List.getD_eq_getElem?_getD,List.getElem?_eq_none hn] at h
 cases h
theorem atD.set {st:Q0g} {k:Nat} {l:List UInt64} {i:Nat} (h:atD st k l i) (j:Nat):atD (st.set k (dk l j)) k l j:=by
 unfold atD
 rw [Q0n _ _ _ _ h.lt]
theorem atD.same {st:Q0g} {k:Nat} {l:List UInt64} {i:Nat} (h:atD st k l i):st.set k (dk l i)=st:=by
 have hlt:=h.lt
 unfold atD at h
 rw [←h,List.getD_eq_getElem?_getD,List.getElem?_eq_getElem hlt,Option.getD_some,List.set_getElem_self]
theorem K0f (st:Q0g) (k:Nat) (l:List UInt64) (i j:Nat):(st.set k (dk l i)).set k (dk l j)=st.set k (dk l j):=List.set_set ..
theorem k2b (l:List UInt64) (st:Q0g):PCalls Tryz.prog 10 [.sl .no (encW l)] st (fun r st'=>r= .gp st.length 0∧st'=st++ [dk l 0]):=by
 refine Q0b none Tryz.func10 rfl fun E=>Q0h (Q0a ?_)
 simp -dsimp only [go_sem]
 refine Q0h (Q0a ?_)
 simp -dsimp only [go_sem]
 refine Y0a 0 (by simp [go_sem]) (by simp) (Q0a ?_)
 simp -dsimp only [go_sem]
 rfl
theorem W1d (l:List UInt64) (i k:Nat) (st:Q0g) (h:atD st k l i) (hi:i≤1000000000000):PCalls Tryz.prog 69 [.gp k 0] st (fun r st'=>r= .sc (.int .u64 (l.getD i 0).toNat)∧st'=st.set k (dk l (i+1))):=by
 unfold atD dk at h
 refine Q0b none Tryz.func69 rfl fun E=>Q0a ?_
 simp -dsimp only [go_sem]
 refine Q0m Z0t 32 (.step 0 [] (.step 1 [] (.step 2 [] (.step 3 [] (.step 4 [] (.step 5 [] (.step 6 [] (.step 7 [] (.step 8 [] (.step 9 [] (.done))))))))))) (by decide+kernel) (by simp) ?_
 simp -dsimp only [go_sem,h]
 have x1:IntKind.i64.wrap ((i:Int)+1)=((i+1:Nat):Int):=by
  rw [show((i:Int)+1)=((i+1:Nat):Int) from rfl,Q0k _ (by omega)]
 refine ck (fun h1=> ?_) (fun h1=> ?_)
 · have hlt:i<l.length:=by have:=of_decide_eq_true h1;omega
   have g1:=X0t l i hlt
   simp -dsimp only [go_sem]
   refine Q0m Z0t 32 (.step 0 [] (.step 1 [] (.step 2 [] (.step 3 [] (.step 4 [] (.step 5 [] (.step 6 [] (.step 7 [] (.step 8 [] (.step 9 [] (.step 10 [] (.done)))))))))))) (by decide+kernel) (by simp) ?_
   simp -dsimp only [go_sem,h,g1,x1]
   exact⟨⟨by omega,hlt⟩,rfl⟩
 · have hge:l.length≤i:=by have:=of_decide_eq_false h1;omega
   simp -dsimp only [go_sem,h,x1]
   rw [z0f _ _ _ hge]
   exact⟨rfl,rfl⟩
def nx (l:List UInt64) (i n:Nat):Nat:=(l.getD i 0).toNat % n
theorem Q1g (l:List UInt64) (i:Nat) {n:Nat} (h:0<n):nx l i n<n:=Nat.mod_lt _ h
theorem W0x (l:List UInt64) (i k n:Nat) (st:Q0g) (h:atD st k l i) (hi:i≤1000000000000) (hn:0<n) (hn2:n≤1000000000000):PCalls Tryz.prog 28 [.gp k 0,.sc (.int .i64 n)] st (fun r st'=>r= .sc (.int .i64 (nx l i n))∧st'=st.set k (dk l (i+1))):=by
 refine Q0b none Tryz.func28 rfl fun E=>Q0a ?_
 simp -dsimp only [go_sem]
 refine(W1d l i k st h hi).mono ?_
 rintro r st ⟨rfl,rfl⟩
 have hm:(l.getD i 0).toNat % n<n:=Nat.mod_lt _ hn
 have hv:=(l.getD i 0).toNat_lt
 have w1:IntKind.u64.wrap (n:Int)=(n:Int):=Z0c _ (by omega)
 have w2:((l.getD i 0).toNat:Int).tmod (n:Int)=(nx l i n:Int):=z0u _ _
 have w3:IntKind.i64.wrap (nx l i n:Int)=(nx l i n:Int):=Q0k _ (by unfold nx;omega)
 have w4:((n:Int)==0)=false:=by simp;omega
 simp -dsimp only [go_sem,w1,w2,w3,w4]
 simp;omega
theorem J2m (l:List UInt64) (i k n:Nat) (st:Q0g) (h:atD st k l i) (hi:i≤1000000000000) (hn:0<n) (hn2:n≤1000000000000):PCalls Tryz.prog 50 [.gp k 0,.sc (.int .i64 n)] st (fun r st'=>r= .sc (.bool (decide (nx l i n=n-1)))∧st'=st.set k (dk l (i+1))):=by
 refine Q0b none Tryz.func50 rfl fun E=>Q0a ?_
 simp -dsimp only [go_sem]
 refine(W0x l i k n st h hi hn hn2).mono ?_
 rintro r st ⟨rfl,rfl⟩
 have w1:IntKind.i64.wrap ((n:Int)-1)=((n-1:Nat):Int):=by rw [Q0p _ (by omega) (by omega)];omega
 simp -dsimp only [go_sem,w1]
 congr 2
 rw [Bool.eq_iff_iff];simp;omega
end Go.Pv
end
section
/-Numbers,intervals,boxes,times out of the deck. -/
set_option maxRecDepth 100000
namespace Go.Pv
open Go.Proofs
theorem Y1r (l:List UInt64) (i k:Nat) (st:Q0g) (h:atD st k l i) (hi:i≤1000000000000):PCalls Tryz.prog 94 [.gp k 0] st (fun r st'=> ∃x,Q0f x=true∧r= .agg (encN x)∧st'=st.set k (dk l (i+1))):=by
 refine Q0b none Tryz.func94 rfl fun E=>Q0a ?_
 simp -dsimp only [go_sem]
 refine(W1d l i k st h hi).mono ?_
 rintro r st ⟨rfl,rfl⟩
 have hv:=(l.getD i 0).toNat_lt
 obtain⟨v,hve⟩: ∃v,v=(l.getD i 0).toNat:=⟨_,rfl⟩
 rw [←hve] at hv
 have s1:bAnd .u64 (bShr .u64 (v:Int) 1) 63=((UInt64.ofNat (v/2&&&63)).toNat:Int):=by
  rw [show(1:Int)=((1:Nat):Int) from rfl,V0e _ _ (by omega),show(63:Int)=((63:Nat):Int) from rfl,W0g _ _ (by omega) (by omega),V0u _ (Nat.lt_of_le_of_lt Nat.and_le_right (by omega))]
 have s2:IntKind.i64.wrap (IntKind.i64.wrap ((bShr .u64 (v:Int) 7).tmod 9)-6)=((v/128 % 9:Nat):Int)-6:=by
  rw [show(7:Int)=((7:Nat):Int) from rfl,V0e _ _ (by omega),show(9:Int)=((9:Nat):Int) from rfl,z0u,Q0k _ (by omega),Q0p _ (by omega) (by omega)]
 simp -dsimp only [go_sem,←hve,s1,s2]
 refine(Z2y _ [UInt64.ofNat (v/2&&&63)] _ _ (by simp) (by omega) (by omega)).mono ?_
 rintro r st' ⟨rfl,rfl⟩
 simp -dsimp only [go_sem]
 exact⟨_,y0q _ _ _,rfl⟩
theorem Z3n (x:Nm) (st:Q0g):PCalls Tryz.prog 118 [.agg (encN x)] st (fun r st'=>r= .agg (encI ⟨x,x⟩)∧st'=st):=by
 refine Q0b none Tryz.func118 rfl fun E=>Q0a ?_
 simp -dsimp only [go_sem]
theorem Y3l (l:List UInt64) (i k:Nat) (st:Q0g) (h:atD st k l i) (hi:i≤900000000000):PCalls Tryz.prog 31 [.gp k 0] st (fun r st'=> ∃q,0<q∧q≤64∧r= .agg (encN (tq q))∧st'=st.set k (dk l (i+2))):=by
 refine Q0b none Tryz.func31 rfl fun E=>Q0a ?_
 simp -dsimp only [go_sem]
 refine(W1d l i k st h (by omega)).mono ?_
 rintro r st' ⟨rfl,rfl⟩
 have hv:=(l.getD i 0).toNat_lt
 obtain⟨v,hve⟩: ∃v,v=(l.getD i 0).toNat:=⟨_,rfl⟩
 rw [←hve] at hv
 have hc:v&&&7≤7:=Nat.and_le_right
 have s1:IntKind.u64.wrap (1+bAnd .u64 (v:Int) 7)=((UInt64.ofNat (1+(v&&&7))).toNat:Int):=by
  rw [show(7:Int)=((7:Nat):Int) from rfl,W0g _ _ (by omega) (by omega),V0u _ (by omega),show(1:Int)+((v&&&7:Nat):Int)=((1+(v&&&7):Nat):Int) from by omega,Z0c _ (by omega)]
 have h1:=h.set (i+1)
 simp -dsimp only [go_sem,←hve,s1]
 refine(W0x l (i+1) k 4 _ h1 (by omega) (by omega) (by omega)).mono ?_
 rintro r st' ⟨rfl,rfl⟩
 have hj:=Q1g l (i+1) (n:=4) (by omega)
 have s2:IntKind.i64.wrap (IntKind.i64.wrap (nx l (i+1) 4:Int)-3)=(nx l (i+1) 4:Int)-3:=by
  rw [Q0k _ (by omega),Q0p _ (by omega) (by omega)]
 have s3:IntKind.i64.wrap ((nx l (i+1) 4:Int)-3)=(nx l (i+1) 4:Int)-3:=by
  rw [Q0p _ (by omega) (by omega)]
 simp -dsimp only [go_sem,s2,s3,K0f]
 have he:=W2y (1+(v&&&7)) (nx l (i+1) 4) (by omega) hj (by omega)
 refine(Z2y false [UInt64.ofNat (1+(v&&&7))] ((nx l (i+1) 4:Int)-3) _ (by simp) (by omega) (by omega)).mono ?_
 rintro r st' ⟨rfl,rfl⟩
 simp -dsimp only [go_sem]
 rw [he]
 have hp:2^nx l (i+1) 4≤8:=Nat.pow_le_pow_right (by decide) (by omega:nx l (i+1) 4≤3)
 have hp0:0<2^nx l (i+1) 4:=Nat.pow_pos (by decide)
 have hle:=Nat.mul_le_mul (by omega:1+(v&&&7)≤8) hp
 exact⟨_,Nat.mul_pos (by omega) hp0,hle,rfl⟩
end Go.Pv
end
section
/-Numbers,intervals and boxes out of the deck. -/
set_option maxRecDepth 100000
namespace Go.Pv
open Go.Proofs
def isW (x:Int):Prop:=0≤x∧x<18446744073709551616
def absN (x:Nm):Nm:=if Q0f x=true then⟨false,x.exp,x.w⟩ else default
def Y0o (x:Nm):Nm:=if Q0f x=true then(if x.w= [] then x else⟨!x.neg,x.exp,x.w⟩) else default
theorem y0j (x:Nm):Q0f (absN x)=true:=by
 unfold absN
 split
 · rename_i h
   unfold Q0f at h⊢
   simp only at h⊢
   split
   · rename_i hw;rw [if_pos hw] at h;simp at h;simp [h]
   · rename_i hw;rw [if_neg hw] at h;exact h
 · exact Z0o
theorem z1a (x:Nm):Q0f (Y0o x)=true:=by
 unfold Y0o
 split
 · rename_i h
   split
   · exact h
   · rename_i hw
     unfold Q0f at h⊢
     simp only at h⊢
     rw [if_neg hw] at h⊢;exact h
 · exact Z0o
theorem y1c (x:Nm):0≤mant (absN x):=by
 unfold absN mant
 split
 · simp
 · decide
theorem W1g (x:Nm):mant (Y0o (absN x))≤0:=by
 have h:=y0j x
 unfold Y0o
 rw [if_pos h]
 split
 · rename_i hw
   unfold mant
   rw [hw];simp [valW,nW,val]
 · unfold mant
   have:(absN x).neg=false:=by unfold absN;split<;>rfl
   rw [this];simp
theorem Q2w (x y:Nm):Q0l ⟨Y0o (absN x),absN y⟩=true:=by
 unfold Q0l
 simp only [Bool.and_eq_true,decide_eq_true_eq]
 refine⟨⟨z1a _,y0j _⟩,?_⟩
 unfold cmpN cmpE
 refine cmpI_le.2 ?_
 have h1:=W1g x
 have h2:=y1c y
 have p1:(0:Int)≤2^((Y0o (absN x)).exp-min (Y0o (absN x)).exp (absN y).exp).toNat:=Int.pow_nonneg (by decide)
 have p2:(0:Int)≤2^((absN y).exp-min (Y0o (absN x)).exp (absN y).exp).toNat:=Int.pow_nonneg (by decide)
 have q1:=Int.mul_nonpos_of_nonpos_of_nonneg h1 p1
 have q2:=Int.mul_nonneg h2 p2
 omega
theorem z3g (x:Nm) (st:Q0g) (hw:wN x):PCalls Tryz.prog 96 [.agg (encN x)] st (fun r st'=>r= .agg (encN (absN x))∧st'=st):=by
 unfold wN at hw
 refine Q0b none Tryz.func96 rfl fun E=>Q0a ?_
 simp -dsimp only [go_sem]
 refine(Z0m x st (by omega)).mono ?_
 rintro r st ⟨rfl,rfl⟩
 simp -dsimp only [go_sem]
 refine ck (fun h=> ?_) (fun h=> ?_)
 · have hr:Q0f x=false:=by simpa using h
   simp -dsimp only [go_sem]
   rw [absN,if_neg (by simp [hr])];rfl
 · have hr:Q0f x=true:=by simpa using h
   simp -dsimp only [go_sem]
   rw [absN,if_pos hr]
theorem X3c (x:Nm) (st:Q0g) (hw:wN x):PCalls Tryz.prog 95 [.agg (encN x)] st (fun r st'=>r= .agg (encN (Y0o x))∧st'=st):=by
 unfold wN at hw
 refine Q0b none Tryz.func95 rfl fun E=>Q0a ?_
 simp -dsimp only [go_sem]
 refine(Z0m x st (by omega)).mono ?_
 rintro r st ⟨rfl,rfl⟩
 simp -dsimp only [go_sem]
 refine ck (fun h=> ?_) (fun h=> ?_)
 · have hr:Q0f x=false:=by simpa using h
   simp -dsimp only [go_sem]
   rw [Y0o,if_neg (by simp [hr])];rfl
 · have hr:Q0f x=true:=by simpa using h
   simp -dsimp only [go_sem]
   refine ck (fun h0=> ?_) (fun h0=> ?_)
   · have hw0:x.w= []:=List.length_eq_zero_iff.1 (Y0z (b:=0) h0)
     simp -dsimp only [go_sem]
     rw [Y0o,if_pos hr,if_pos hw0]
   · have hw0:x.w≠ []:=fun e=>G0f (b:=0) h0 (by rw [e];rfl)
     simp -dsimp only [go_sem]
     rw [Y0o,if_pos hr,if_neg hw0]
theorem X4e (l:List UInt64) (i k:Nat) (st:Q0g) (h:atD st k l i) (hi:i≤1000000000000):PCalls Tryz.prog 12 [.gp k 0] st
 (fun r st'=> ∃n:Nat,1≤n∧n≤4∧r= .sc (.int .i64 n)∧st'=st.set k (dk l (i+1))):=by
 refine Q0b none Tryz.func12 rfl fun E=>Q0a ?_
 simp -dsimp only [go_sem]
 refine(W0x l i k 4 st h hi (by omega) (by omega)).mono ?_
 rintro r st' ⟨rfl,rfl⟩
 have n1:=Q1g l i (n:=4) (by omega)
 have x1:IntKind.i64.wrap (1+(nx l i 4:Int))=((1+nx l i 4:Nat):Int):=by rw [show(1+(nx l i 4:Int))=((1+nx l i 4:Nat):Int) from by omega,Q0k _ (by omega)]
 simp -dsimp only [go_sem,x1]
 exact⟨1+nx l i 4,by omega,by omega,rfl⟩
end Go.Pv
end
