/- Parts of the walk: H1, H2, H3, H4, H10. -/
import Derived.Test.YthichlfphjbadaaGreatZH
import Derived.Test.YthichlfphjbadaaGreatZK
set_option linter.unusedVariables false
set_option linter.unusedSimpArgs false
section
/-The document's Words,Val.Num,Make. -/
set_option maxRecDepth 100000
namespace Go.Pv
open Go.Proofs
theorem X3w (m:Nat) (st:Q0g) (hm:(Q0e m).length≤1000000000000):PCalls Tryz.prog 123 [.sl .no (encD (Q0e m))] st (fun r st'=>r= .sl .no (encW (X0g m))∧st'=st):=by
 rw [←k2u m]
 obtain⟨a,ha⟩: ∃a,a=Q0e m:=⟨_,rfl⟩
 rw [←ha] at hm⊢
 refine Q0b none Tryz.func123 rfl fun E=>Q0a ?_
 simp -dsimp only [go_sem]
 refine X0b 3 1 ?_
 simp -dsimp only [go_sem]
 refine Q0d [true,false,false,true,true] 0 1 (fun n s=> ∃k,n=a.length+1-2*k∧2*k≤a.length+1∧
  s=⟨[.sl .no (encD a),.junk,.junk,.sl (.own 0) (encW (pk a k)),.sc (.int .i64 (2*k:Nat))]++List.replicate 31 .junk,[],[((pk a k).length,1)],st⟩) (a.length+1) ?_ ?_
 · simp -dsimp only [go_sem]
   exact⟨0,by omega,by omega,rfl⟩
 · rintro n s ⟨k,rfl,hk,rfl⟩
   simp -dsimp only [go_sem]
   refine ck (fun h=> ?_) (fun h=> ?_)
   · have hlt:2*k<a.length:=by have:=of_decide_eq_true h;omega
     have g1:=K0p a (2*k) hlt
     have h1:=(a.getD (2*k) 0).toNat_lt
     have h2:=(a.getD (2*k+1) 0).toNat_lt
     have x1:IntKind.i64.wrap (((2*k:Nat):Int)+1)=((2*k+1:Nat):Int):=by
      rw [show(((2*k:Nat):Int)+1)=((2*k+1:Nat):Int) from rfl,Q0i _ (by omega)]
     have x2:IntKind.i64.wrap (((2*k:Nat):Int)+2)=((2*(k+1):Nat):Int):=by
      rw [show(((2*k:Nat):Int)+2)=((2*(k+1):Nat):Int) from by omega,Q0i _ (by omega)]
     have w1:IntKind.u64.wrap ((a.getD (2*k) 0).toNat:Int)=((a.getD (2*k) 0).toNat:Int):=Z0d _ (by omega)
     have w2:IntKind.u64.wrap ((a.getD (2*k+1) 0).toNat:Int)=((a.getD (2*k+1) 0).toNat:Int):=Z0d _ (by omega)
     have ew:=w1q a k
     have en:=w1r a k
     have pl:=H0w a k
     simp -dsimp only [go_sem,g1,x1,w1]
     refine⟨by omega,?_⟩
     refine ck (fun h5=> ?_) (fun h5=> ?_)
     · have hlt2:2*k+1<a.length:=by have:=of_decide_eq_true h5;omega
       have g2:=K0p a (2*k+1) hlt2
       have s1:bOr .u64 ((a.getD (2*k) 0).toNat:Int) (bShl .u64 ((a.getD (2*k+1) 0).toNat:Int) 32)=((UInt64.ofNat ((a.getD (2*k) 0).toNat+4294967296*(a.getD (2*k+1) 0).toNat)).toNat:Int):=by
        rw [ew,show(32:Int)=((32:Nat):Int) from rfl,V0j _ 32 (by omega),z0f _ _ (by omega) (Nat.mod_lt _ (by decide)),k0g _ _ 32 (by omega) (V1f _ 32 (by omega))]
        congr 1
        omega
       simp -dsimp only [go_sem,x1,x2,g2,w2,s1]
       refine⟨by omega,by omega,a.length+1-2*(k+1),by omega,k+1,rfl,by omega,by rw [en];simp⟩
     · have h0:a.getD (2*k+1) 0=0:=x0j _ _ _ (by have:=of_decide_eq_false h5;omega)
       have s1:((a.getD (2*k) 0).toNat:Int)=((UInt64.ofNat ((a.getD (2*k) 0).toNat+4294967296*(a.getD (2*k+1) 0).toNat)).toNat:Int):=by
        rw [ew,h0];rfl
       simp -dsimp only [go_sem,x2]
       rw [s1,k1n,←en]
       refine⟨by omega,a.length+1-2*(k+1),by omega,k+1,rfl,by omega,by simp [H0w]⟩
   · have hge:k=(a.length+1)/2:=by have:=of_decide_eq_false h;omega
     simp -dsimp only [go_sem]
     refine J0x [false,false,false,true] (Q0a ?_)
     simp -dsimp only [go_sem]
     rw [hge]
theorem J1f (v:Vl) (st:Q0g) (hm:(Q0e v.m).length≤1000000000000):PCalls Tryz.prog 73 [.agg (encV v)] st (fun r st'=>r= .tup [.agg (encN (numV v).1),.sc (.int .i64 (numV v).2)]∧st'=st):=by
 refine Q0b none Tryz.func73 rfl fun E=>Q0a ?_
 simp -dsimp only [go_sem]
 refine ck (fun h=> ?_) (fun h=> ?_)
 · have h0:v.m=0:=digitsOf_nil.1 (List.length_eq_zero_iff.1 (U0o (b:=0) h))
   simp -dsimp only [go_sem]
   rw [numV,if_pos h0];rfl
 · have h0:v.m≠0:=fun e=>G0x (b:=0) h (by rw [e,X0d];rfl)
   simp -dsimp only [go_sem]
   refine(X3w v.m st hm).mono ?_
   rintro r st ⟨rfl,rfl⟩
   simp -dsimp only [go_sem]
   have bad:64<(X0g v.m).length∨v.e< -65536∨65536<v.e→numV v=(default,2):=fun h=>by rw [numV,if_neg h0,if_pos h]
   refine gkF (fun h1=> ?_) (fun h1=> ?_)
   · have h1':=of_decide_eq_false h1
     simp -dsimp only [go_sem,h1]
     refine gkF (fun h2=> ?_) (fun h2=> ?_)
     · have h2':=of_decide_eq_false h2
       simp -dsimp only [go_sem,h1,h2]
       refine ck (fun h3=> ?_) (fun h3=> ?_)
       · have h3':=of_decide_eq_true h3
         simp -dsimp only [go_sem]
         rw [bad (by omega)];rfl
       · have h3':=of_decide_eq_false h3
         simp -dsimp only [go_sem]
         rw [numV,if_neg h0,if_neg (by omega)]
     · have h2':=of_decide_eq_true h2
       simp -dsimp only [go_sem,h1,h2]
       rw [bad (by omega)];rfl
   · have h1':=of_decide_eq_true h1
     simp -dsimp only [go_sem,h1]
     rw [bad (by omega)];rfl
theorem z3q (neg:Bool) (w:List UInt64) (e:Int) (st:Q0g) (hw:w.length≤1000000000) (he1: -1000000000000≤e) (he2:e≤1000000000000):PCalls Tryz.prog 87 [.sc (.bool neg),.sl .no (encW w),.sc (.int .i64 e)] st (fun r st'=>r= .tup [.agg (encN (U0v neg w e).1),.sc (.int .i64 (U0v neg w e).2)]∧st'=st):=by
 have hb:=y0w w
 unfold U0x at hb
 have hl:=X0s (valW w)
 have ht:=z0n (valW w)
 refine Q0b none Tryz.func87 rfl fun E=>Q0a ?_
 simp -dsimp only [go_sem]
 refine(G2k w st (by omega)).mono ?_
 rintro r st ⟨rfl,rfl⟩
 simp -dsimp only [go_sem]
 refine ck (fun h=> ?_) (fun h=> ?_)
 · have h0:valW w=0:=digitsOf_nil.1 (List.length_eq_zero_iff.1 (U0o (b:=0) h))
   simp -dsimp only [go_sem]
   rw [U0v,if_pos h0];rfl
 · have h0:valW w≠0:=fun e=>G0x (b:=0) h (by rw [e,X0d];rfl)
   have w1:IntKind.i64.wrap (-65536-(tz (valW w):Int))= -65536-(tz (valW w):Int):=Q0p _ (by omega) (by omega)
   simp -dsimp only [go_sem,w1]
   have bad:65536<e∨e< -65536-(tz (valW w):Int)→U0v neg w e=(default,2):=fun h=>by rw [U0v,if_neg h0,if_pos h]
   refine gkF (fun h1=> ?_) (fun h1=> ?_)
   · have h1':=of_decide_eq_false h1
     simp -dsimp only [go_sem,h1]
     refine(W2p (valW w) st (by omega)).mono ?_
     rintro r st ⟨rfl,rfl⟩
     simp -dsimp only [go_sem,h1,w1]
     refine ck (fun h2=> ?_) (fun h2=> ?_)
     · have h2':=of_decide_eq_true h2
       simp -dsimp only [go_sem]
       rw [bad (by omega)];rfl
     · have h2':=of_decide_eq_false h2
       simp -dsimp only [go_sem]
       refine(w1z neg (valW w) e st (by omega) (by omega) (by omega)).mono ?_
       rintro r st ⟨rfl,rfl⟩
       simp -dsimp only [go_sem]
       have hv:(Q0e (oddV neg (valW w) e).m).length≤1000000000000:=by
        have:(oddV neg (valW w) e).m≤valW w:=by
         unfold oddV;split
         · exact Nat.zero_le _
         · exact Nat.div_le_self _ _
        have h1:=X0s (oddV neg (valW w) e).m
        have h2:=K0e this
        omega
       refine(J1f _ st hv).mono ?_
       rintro r st ⟨rfl,rfl⟩
       simp -dsimp only [go_sem]
       rw [U0v,if_neg h0,if_neg (by omega)]
   · have h1':=of_decide_eq_true h1
     simp -dsimp only [go_sem,h1]
     rw [bad (by omega)];rfl
theorem V2a (neg:Bool) (w:List UInt64) (e:Int) (st:Q0g) (hw:w.length≤1000000000) (he1: -1000000000000≤e) (he2:e≤1000000000000):PCalls Tryz.prog 45 [.sc (.bool neg),.sl .no (encW w),.sc (.int .i64 e)] st (fun r st'=>r= .agg (encN (U0v neg w e).1)∧st'=st):=by
 refine Q0b none Tryz.func45 rfl fun E=>Q0a ?_
 simp -dsimp only [go_sem]
 refine(z3q neg w e st hw he1 he2).mono ?_
 rintro r st ⟨rfl,rfl⟩
 simp -dsimp only [go_sem]
theorem V2t (a b:Vl) (st:Q0g) (ha:smV a) (hb:smV b):PCalls Tryz.prog 71 [.sc (.int .i64 0),.agg (encV a),.agg (encV b)] st (fun r st'=>r= .agg (encV (J0p a b))∧st'=st):=by
 refine Q0b none Tryz.func71 rfl fun E=>Q0a ?_
 simp -dsimp only [go_sem]
 refine(Z2m a b st ha hb).mono ?_
 rintro r st ⟨rfl,rfl⟩
 simp -dsimp only [go_sem]
theorem w1o {a b:Vl} (ha:smV a) (hb:smV b):(Q0e (J0p a b).m).length≤1000000000000:=by
 obtain⟨a1,a2,a3⟩:=ha
 obtain⟨b1,b2,b3⟩:=hb
 have key: ∀m,Q0l m≤10000000000000→(Q0e m).length≤1000000000000:=fun m h=>by
  have:=X0s m;omega
 refine key _ ?_
 unfold J0p
 split
 · omega
 · split
   · omega
   · have hodd: ∀(s:Int) (e:Int),Q0l (mkV s e).m≤Q0l s.natAbs:=fun s e=>by
      refine K0e ?_
      unfold mkV oddV
      split
      · exact Nat.zero_le _
      · exact Nat.div_le_self _ _
     refine Nat.le_trans (hodd _ _) ?_
     have h1:=Int.natAbs_add_le (Z0z a*2^(a.e-min a.e b.e).toNat) (Z0z b*2^(b.e-min a.e b.e).toNat)
     rw [natAbs_pow,natAbs_pow] at h1
     have na: ∀v:Vl,(Z0z v).natAbs=v.m:=fun v=>by unfold Z0z;split<;>simp
     rw [na,na] at h1
     have h2:=J0d a.m (a.e-min a.e b.e).toNat
     have h3:=J0d b.m (b.e-min a.e b.e).toNat
     have h4:=K0e h1
     have h5:=W0w (a.m*2^(a.e-min a.e b.e).toNat) (b.m*2^(b.e-min a.e b.e).toNat)
     omega
theorem w0a (a b:Nm) (st:Q0g) (ha:wN a) (hb:wN b):PCalls Tryz.prog 30 [.sc (.int .i64 0),.agg (encN a),.agg (encN b)] st (fun r st'=>r= .tup [.agg (encN (X0v a b).1),.sc (.int .i64 (X0v a b).2)]∧st'=st):=by
 unfold wN at ha hb
 refine Q0b none Tryz.func30 rfl fun E=>Q0a ?_
 simp -dsimp only [go_sem]
 refine(Z0k a st (by omega)).mono ?_
 rintro r st ⟨rfl,rfl⟩
 simp -dsimp only [go_sem]
 refine gkF (fun h=> ?_) (fun h=> ?_)
 · have h1:Q0f a=true:=by simpa using h
   simp -dsimp only [go_sem,h1]
   refine(Z0k b st (by omega)).mono ?_
   rintro r st ⟨rfl,rfl⟩
   simp -dsimp only [go_sem]
   refine ck (fun h=> ?_) (fun h=> ?_)
   · have h2:Q0f b=false:=by simpa using h
     simp -dsimp only [go_sem]
     rw [X0v,if_neg (by simp [h2])];rfl
   · have h2:Q0f b=true:=by simpa using h
     simp -dsimp only [go_sem]
     refine Q0o Z0n 26 (.step 0 [] (.step 1 [] (.step 3 [] (.step 2 [3] (.step 4 [] (.step 5 [] (.step 6 [] (.step 7 [] (.step 8 [] (.step 9 [] (.step 10 [] (.done)))))))))))) (by decide+kernel) (by simp) ?_
     simp -dsimp only [go_sem]
     refine(of_c a st (by omega)).mono ?_
     rintro r st ⟨rfl,rfl⟩
     simp -dsimp only [go_sem]
     refine(of_c b st (by omega)).mono ?_
     rintro r st ⟨rfl,rfl⟩
     simp -dsimp only [go_sem]
     have sa:=H1f (J0v h1)
     have sb:=H1f (J0v h2)
     refine(V2t _ _ st sa sb).mono ?_
     rintro r st ⟨rfl,rfl⟩
     simp -dsimp only [go_sem]
     refine(J1f _ st (w1o sa sb)).mono ?_
     rintro r st ⟨rfl,rfl⟩
     simp -dsimp only [go_sem]
     rw [X0v,if_pos ⟨h1,h2⟩]
 · have h1:Q0f a=false:=by simpa using h
   simp -dsimp only [go_sem,h1]
   rw [X0v,if_neg (by simp [h1])];rfl
end Go.Pv
end
section
/-The deck:Of,Next,N,Yes. -/
set_option maxRecDepth 100000
namespace Go.Pv
open Go.Proofs
def dk (l:List UInt64) (i:Nat):List PV:= [.sl .no (encW l),.sc (.int .i64 i)]
def atD (st:Q0g) (k:Nat) (l:List UInt64) (i:Nat):Prop:=st.getD k []=dk l i
theorem atD.lt {st:Q0g} {k:Nat} {l:List UInt64} {i:Nat} (h:atD st k l i):k<st.length:=by
 refine Nat.lt_of_not_le fun hn=> ?_
 unfold atD at h
 rw [List.getD_eq_getElem?_getD,List.getElem?_eq_none hn] at h
 cases h
theorem atD.set {st:Q0g} {k:Nat} {l:List UInt64} {i:Nat} (h:atD st k l i) (j:Nat):atD (st.set k (dk l j)) k l j:=by
 unfold atD
 rw [Q0q _ _ _ _ h.lt]
theorem atD.same {st:Q0g} {k:Nat} {l:List UInt64} {i:Nat} (h:atD st k l i):st.set k (dk l i)=st:=by
 have hlt:=h.lt
 unfold atD at h
 rw [←h,List.getD_eq_getElem?_getD,List.getElem?_eq_getElem hlt,Option.getD_some,List.set_getElem_self]
theorem J0a (st:Q0g) (k:Nat) (l:List UInt64) (i j:Nat):(st.set k (dk l i)).set k (dk l j)=st.set k (dk l j):=List.set_set ..
theorem q1u (l:List UInt64) (st:Q0g):PCalls Tryz.prog 10 [.sl .no (encW l)] st (fun r st'=>r= .gp st.length 0∧st'=st++ [dk l 0]):=by
 refine Q0b none Tryz.func10 rfl fun E=>Q0h (Q0a ?_)
 simp -dsimp only [go_sem]
 refine Q0h (Q0a ?_)
 simp -dsimp only [go_sem]
 refine V0q 0 (by simp [go_sem]) (by simp) (Q0a ?_)
 simp -dsimp only [go_sem]
 rfl
theorem U1p (l:List UInt64) (i k:Nat) (st:Q0g) (h:atD st k l i) (hi:i≤1000000000000):PCalls Tryz.prog 69 [.gp k 0] st (fun r st'=>r= .sc (.int .u64 (l.getD i 0).toNat)∧st'=st.set k (dk l (i+1))):=by
 unfold atD dk at h
 refine Q0b none Tryz.func69 rfl fun E=>Q0a ?_
 simp -dsimp only [go_sem]
 refine Q0o Z0n 32 (.step 0 [] (.step 1 [] (.step 2 [] (.step 3 [] (.step 4 [] (.step 5 [] (.step 6 [] (.step 7 [] (.step 8 [] (.step 9 [] (.done))))))))))) (by decide+kernel) (by simp) ?_
 simp -dsimp only [go_sem,h]
 have x1:IntKind.i64.wrap ((i:Int)+1)=((i+1:Nat):Int):=by
  rw [show((i:Int)+1)=((i+1:Nat):Int) from rfl,Q0i _ (by omega)]
 refine ck (fun h1=> ?_) (fun h1=> ?_)
 · have hlt:i<l.length:=by have:=of_decide_eq_true h1;omega
   have g1:=X0x l i hlt
   simp -dsimp only [go_sem]
   refine Q0o Z0n 32 (.step 0 [] (.step 1 [] (.step 2 [] (.step 3 [] (.step 4 [] (.step 5 [] (.step 6 [] (.step 7 [] (.step 8 [] (.step 9 [] (.step 10 [] (.done)))))))))))) (by decide+kernel) (by simp) ?_
   simp -dsimp only [go_sem,h,g1,x1]
   exact⟨⟨by omega,hlt⟩,rfl⟩
 · have hge:l.length≤i:=by have:=of_decide_eq_false h1;omega
   simp -dsimp only [go_sem,h,x1]
   rw [x0j _ _ _ hge]
   exact⟨rfl,rfl⟩
def nx (l:List UInt64) (i n:Nat):Nat:=(l.getD i 0).toNat % n
theorem v0c (l:List UInt64) (i:Nat) {n:Nat} (h:0<n):nx l i n<n:=Nat.mod_lt _ h
theorem V0l (l:List UInt64) (i k n:Nat) (st:Q0g) (h:atD st k l i) (hi:i≤1000000000000) (hn:0<n) (hn2:n≤1000000000000):PCalls Tryz.prog 28 [.gp k 0,.sc (.int .i64 n)] st (fun r st'=>r= .sc (.int .i64 (nx l i n))∧st'=st.set k (dk l (i+1))):=by
 refine Q0b none Tryz.func28 rfl fun E=>Q0a ?_
 simp -dsimp only [go_sem]
 refine(U1p l i k st h hi).mono ?_
 rintro r st ⟨rfl,rfl⟩
 have hm:(l.getD i 0).toNat % n<n:=Nat.mod_lt _ hn
 have hv:=(l.getD i 0).toNat_lt
 have w1:IntKind.u64.wrap (n:Int)=(n:Int):=Z0d _ (by omega)
 have w2:((l.getD i 0).toNat:Int).tmod (n:Int)=(nx l i n:Int):=x0w _ _
 have w3:IntKind.i64.wrap (nx l i n:Int)=(nx l i n:Int):=Q0i _ (by unfold nx;omega)
 have w4:((n:Int)==0)=false:=by simp;omega
 simp -dsimp only [go_sem,w1,w2,w3,w4]
 simp;omega
theorem J2k (l:List UInt64) (i k n:Nat) (st:Q0g) (h:atD st k l i) (hi:i≤1000000000000) (hn:0<n) (hn2:n≤1000000000000):PCalls Tryz.prog 50 [.gp k 0,.sc (.int .i64 n)] st (fun r st'=>r= .sc (.bool (decide (nx l i n=n-1)))∧st'=st.set k (dk l (i+1))):=by
 refine Q0b none Tryz.func50 rfl fun E=>Q0a ?_
 simp -dsimp only [go_sem]
 refine(V0l l i k n st h hi hn hn2).mono ?_
 rintro r st ⟨rfl,rfl⟩
 have w1:IntKind.i64.wrap ((n:Int)-1)=((n-1:Nat):Int):=by rw [Q0p _ (by omega) (by omega)];omega
 simp -dsimp only [go_sem,w1]
 congr 2
 rw [Bool.eq_iff_iff];simp;omega
end Go.Pv
end
section
/-Numbers,intervals,boxes,times out of the deck. -/
set_option maxRecDepth 100000
namespace Go.Pv
open Go.Proofs
theorem k0q (l:List UInt64) (i k:Nat) (st:Q0g) (h:atD st k l i) (hi:i≤1000000000000):PCalls Tryz.prog 94 [.gp k 0] st (fun r st'=> ∃x,Q0f x=true∧r= .agg (encN x)∧st'=st.set k (dk l (i+1))):=by
 refine Q0b none Tryz.func94 rfl fun E=>Q0a ?_
 simp -dsimp only [go_sem]
 refine(U1p l i k st h hi).mono ?_
 rintro r st ⟨rfl,rfl⟩
 have hv:=(l.getD i 0).toNat_lt
 obtain⟨v,hve⟩: ∃v,v=(l.getD i 0).toNat:=⟨_,rfl⟩
 rw [←hve] at hv
 have s1:bAnd .u64 (bShr .u64 (v:Int) 1) 63=((UInt64.ofNat (v/2&&&63)).toNat:Int):=by
  rw [show(1:Int)=((1:Nat):Int) from rfl,V0r _ _ (by omega),show(63:Int)=((63:Nat):Int) from rfl,W0y _ _ (by omega) (by omega),W0k _ (Nat.lt_of_le_of_lt Nat.and_le_right (by omega))]
 have s2:IntKind.i64.wrap (IntKind.i64.wrap ((bShr .u64 (v:Int) 7).tmod 9)-6)=((v/128 % 9:Nat):Int)-6:=by
  rw [show(7:Int)=((7:Nat):Int) from rfl,V0r _ _ (by omega),show(9:Int)=((9:Nat):Int) from rfl,x0w,Q0i _ (by omega),Q0p _ (by omega) (by omega)]
 simp -dsimp only [go_sem,←hve,s1,s2]
 refine(V2a _ [UInt64.ofNat (v/2&&&63)] _ _ (by simp) (by omega) (by omega)).mono ?_
 rintro r st' ⟨rfl,rfl⟩
 simp -dsimp only [go_sem]
 exact⟨_,Z1o _ _ _,rfl⟩
theorem G2f (x:Nm) (st:Q0g):PCalls Tryz.prog 118 [.agg (encN x)] st (fun r st'=>r= .agg (encI ⟨x,x⟩)∧st'=st):=by
 refine Q0b none Tryz.func118 rfl fun E=>Q0a ?_
 simp -dsimp only [go_sem]
theorem z2v (a b:Nm) (st:Q0g) (ha:wN a) (hb:wN b):PCalls Tryz.prog 119 [.agg (encN a),.agg (encN b)] st (fun r st'=>r= .agg (encI (betw a b))∧st'=st):=by
 unfold wN at ha hb
 refine Q0b none Tryz.func119 rfl fun E=>Q0a ?_
 simp -dsimp only [go_sem]
 refine(H0d a b st (by omega) (by omega)).mono ?_
 rintro r st ⟨rfl,rfl⟩
 simp -dsimp only [go_sem]
 refine ck (fun h=> ?_) (fun h=> ?_)
 · have h1:=of_decide_eq_true h
   simp -dsimp only [go_sem]
   rw [betw,if_pos h1]
 · have h1:=of_decide_eq_false h
   simp -dsimp only [go_sem]
   rw [betw,if_neg h1]
theorem Y2n (l:List UInt64) (i k:Nat) (st:Q0g) (h:atD st k l i) (hi:i≤900000000000):PCalls Tryz.prog 70 [.gp k 0] st (fun r st'=> ∃x j,Q0n x=true∧i≤j∧j≤i+3∧r= .agg (encI x)∧st'=st.set k (dk l j)):=by
 refine Q0b none Tryz.func70 rfl fun E=>Q0a ?_
 simp -dsimp only [go_sem]
 refine(J2k l i k 3 st h (by omega) (by omega) (by omega)).mono ?_
 rintro r st' ⟨rfl,rfl⟩
 have h1:=h.set (i+1)
 have h2:=h.set (i+2)
 simp -dsimp only [go_sem]
 refine ck (fun hy=> ?_) (fun hy=> ?_)
 · simp -dsimp only [go_sem]
   refine(k0q l (i+1) k _ h1 (by omega)).mono ?_
   rintro r st' ⟨x,hx,rfl,rfl⟩
   simp -dsimp only [go_sem,J0a]
   refine(G2f x _).mono ?_
   rintro r st' ⟨rfl,rfl⟩
   simp -dsimp only [go_sem]
   exact⟨⟨x,x⟩,i+2,v0b hx,by omega,by omega,rfl,rfl⟩
 · simp -dsimp only [go_sem]
   refine(k0q l (i+1) k _ h1 (by omega)).mono ?_
   rintro r st' ⟨x,hx,rfl,rfl⟩
   simp -dsimp only [go_sem,J0a]
   refine(k0q l (i+2) k _ h2 (by omega)).mono ?_
   rintro r st' ⟨y,hy,rfl,rfl⟩
   simp -dsimp only [go_sem,J0a]
   refine(z2v x y _ (Q0t hx) (Q0t hy)).mono ?_
   rintro r st' ⟨rfl,rfl⟩
   simp -dsimp only [go_sem]
   exact⟨betw x y,i+3,W2e hx hy,by omega,by omega,rfl,rfl⟩
theorem K2d (l:List UInt64) (i k n:Nat) (st:Q0g) (h:atD st k l i) (hi:i≤800000000000) (hn:n≤1000000):PCalls Tryz.prog 29 [.gp k 0,.sc (.int .i64 n)] st (fun r st'=> ∃b j,b.length=n∧(∀m,m<b.length→Q0n (b.getD m default)=true)∧i≤j∧j≤i+3*n∧r= .sl .no (Q0u b)∧st'=st.set k (dk l j)):=by
 refine Q0b none Tryz.func29 rfl fun E=>Q0a ?_
 simp -dsimp only [go_sem]
 refine X0b 5 6 ?_
 simp -dsimp only [go_sem]
 refine Q0d [true,true,false,false,false,true,true] 0 1 (fun m s=> ∃b j,m=n-b.length∧b.length≤n∧(∀m,m<b.length→Q0n (b.getD m default)=true)∧i≤j∧j≤i+3*b.length∧
  s=⟨[.gp k 0,.sc (.int .i64 n),.junk,.junk,.junk,.sl (.own 0) (Q0u b),.sc (.int .i64 b.length)]++List.replicate 11 .junk,[],[(b.length,6)],st.set k (dk l j)⟩) n ?_ ?_
 · simp -dsimp only [go_sem]
   refine⟨[],i,by simp,by simp,fun m hm=>by simp at hm,by omega,by omega,?_⟩
   rw [h.same];rfl
 · rintro m s ⟨b,j,rfl,hb,hr,hj,hj2,rfl⟩
   simp -dsimp only [go_sem]
   refine ck (fun h1=> ?_) (fun h1=> ?_)
   · have hlt:b.length<n:=by have:=of_decide_eq_true h1;omega
     have x1:IntKind.i64.wrap ((b.length:Int)+1)=((b.length+1:Nat):Int):=by
      rw [show((b.length:Int)+1)=((b.length+1:Nat):Int) from rfl,Q0i _ (by omega)]
     simp -dsimp only [go_sem]
     refine(Y2n l j k _ (h.set j) (by omega)).mono ?_
     rintro r st' ⟨x,j',hx,hj3,hj4,rfl,rfl⟩
     simp -dsimp only [go_sem,J0a,x1]
     refine⟨by omega,n-(b.length+1),by omega,b++ [x],j',by simp,by simp;omega,fun m hm=> ?_,by omega,by simp;omega,by simp [Q0u,encI]⟩
     by_cases hm2:m<b.length
     · rw [H1e _ _ _ _ hm2];exact hr m hm2
     · have e:m=b.length:=by simp at hm;omega
       rw [e,w0c];exact hx
   · have hge:b.length=n:=by have:=of_decide_eq_false h1;omega
     simp -dsimp only [go_sem]
     refine J0x [false,false,false,false,false,true] (Q0a ?_)
     simp -dsimp only [go_sem]
     exact⟨b,j,hge,hr,hj,by omega,rfl,rfl⟩
theorem Q3t (l:List UInt64) (i k:Nat) (st:Q0g) (h:atD st k l i) (hi:i≤900000000000):PCalls Tryz.prog 31 [.gp k 0] st (fun r st'=> ∃q,0<q∧q≤64∧r= .agg (encN (tq q))∧st'=st.set k (dk l (i+2))):=by
 refine Q0b none Tryz.func31 rfl fun E=>Q0a ?_
 simp -dsimp only [go_sem]
 refine(U1p l i k st h (by omega)).mono ?_
 rintro r st' ⟨rfl,rfl⟩
 have hv:=(l.getD i 0).toNat_lt
 obtain⟨v,hve⟩: ∃v,v=(l.getD i 0).toNat:=⟨_,rfl⟩
 rw [←hve] at hv
 have hc:v&&&7≤7:=Nat.and_le_right
 have s1:IntKind.u64.wrap (1+bAnd .u64 (v:Int) 7)=((UInt64.ofNat (1+(v&&&7))).toNat:Int):=by
  rw [show(7:Int)=((7:Nat):Int) from rfl,W0y _ _ (by omega) (by omega),W0k _ (by omega),show(1:Int)+((v&&&7:Nat):Int)=((1+(v&&&7):Nat):Int) from by omega,Z0d _ (by omega)]
 have h1:=h.set (i+1)
 simp -dsimp only [go_sem,←hve,s1]
 refine(V0l l (i+1) k 4 _ h1 (by omega) (by omega) (by omega)).mono ?_
 rintro r st' ⟨rfl,rfl⟩
 have hj:=v0c l (i+1) (n:=4) (by omega)
 have s2:IntKind.i64.wrap (IntKind.i64.wrap (nx l (i+1) 4:Int)-3)=(nx l (i+1) 4:Int)-3:=by
  rw [Q0i _ (by omega),Q0p _ (by omega) (by omega)]
 have s3:IntKind.i64.wrap ((nx l (i+1) 4:Int)-3)=(nx l (i+1) 4:Int)-3:=by
  rw [Q0p _ (by omega) (by omega)]
 simp -dsimp only [go_sem,s2,s3,J0a]
 have he:=H2d (1+(v&&&7)) (nx l (i+1) 4) (by omega) hj (by omega)
 refine(V2a false [UInt64.ofNat (1+(v&&&7))] ((nx l (i+1) 4:Int)-3) _ (by simp) (by omega) (by omega)).mono ?_
 rintro r st' ⟨rfl,rfl⟩
 simp -dsimp only [go_sem]
 rw [he]
 have hp:2^nx l (i+1) 4≤8:=Nat.pow_le_pow_right (by decide) (by omega:nx l (i+1) 4≤3)
 have hp0:0<2^nx l (i+1) 4:=Nat.pow_pos (by decide)
 have hle:=Nat.mul_le_mul (by omega:1+(v&&&7)≤8) hp
 exact⟨_,Nat.mul_pos (by omega) hp0,hle,rfl⟩
end Go.Pv
end
section
/-Tubes out of the deck. -/
set_option maxRecDepth 100000
namespace Go.Pv
open Go.Proofs
set_option maxHeartbeats 1000000 in
theorem G1o (l:List UInt64) (i k n most:Nat) (st:Q0g) (h:atD st k l i) (hi:i≤1000000000) (hn:1≤n∧n≤4) (hm:most≤600):PCalls Tryz.prog 11 [.gp k 0,.sc (.int .i64 n),.sc (.int .i64 most)] st
 (fun r st'=> ∃a at' q j,x2g n a at' q∧a.length≤most∧i≤j∧j≤i+1000000∧r= .sl .no (W0h a)∧st'=st.set k (dk l j)):=by
 refine Q0b none Tryz.func11 rfl fun E=>Q0a ?_
 have x0:IntKind.i64.wrap ((most:Int)+1)=((most+1:Nat):Int):=by
  rw [show((most:Int)+1)=((most+1:Nat):Int) from rfl,Q0i _ (by omega)]
 simp -dsimp only [go_sem,x0]
 refine(V0l l i k (most+1) st h (by omega) (by omega) (by omega)).mono ?_
 rintro r st' ⟨rfl,rfl⟩
 have hk0:=v0c l i (n:=most+1) (by omega)
 obtain⟨k0,hk0e⟩: ∃k0,k0=nx l i (most+1):=⟨_,rfl⟩
 rw [←hk0e] at hk0⊢
 simp -dsimp only [go_sem]
 refine X0b 7 9 ?_
 simp -dsimp only [go_sem]
 refine Y0z 0 ?_
 simp -dsimp only [go_sem]
 refine Q0d [true,true,false,false,false,false,false,true,true,true,true] 1 1 (fun m s=> ∃a at' q j,x2g n a at' q∧a.length+m≤most∧i≤j∧j≤i+1+a.length*16∧
  s=⟨[.gp k 0,.sc (.int .i64 n),.junk,.junk,.junk,.junk,.junk,.sl (.own 0) (W0h a),.sc (.int .i64 at'),.lp 0 0,.sc (.int .i64 m)]++List.replicate 43 .junk,[encN (tq q)],[(a.length,9)],st.set k (dk l j)⟩) k0 ?_ ?_
 · simp -dsimp only [go_sem]
   refine⟨[],0,0,i+1,x2f n,by simp;omega,by omega,by omega,?_⟩
   rw [show tq 0=default from by decide];rfl
 · rintro m s ⟨a,at',q,j,hT,hal,hj,hj2,rfl⟩
   simp -dsimp only [go_sem]
   refine ck (fun h1=> ?_) (fun h1=> ?_)
   · have hpos:0<m:=by have:=of_decide_eq_true h1;omega
     have b1:=hT.2.2.2.1
     have b2:=hT.2.2.2.2
     have n1:=v0c l j (n:=4) (by omega)
     have n2:=v0c l (j+1) (n:=5) (by omega)
     have n3:nx l j 4/3*nx l (j+1) 5≤4:=Nat.le_trans (Nat.mul_le_mul (by omega:nx l j 4/3≤1) (by omega:nx l (j+1) 5≤4)) (by omega)
     have x1:IntKind.i64.wrap ((at':Int)+1)=(at':Int)+1:=Q0p _ (by omega) (by omega)
     have x2:IntKind.i64.wrap ((nx l j 4:Int).tdiv 3)=((nx l j 4/3:Nat):Int):=by
      rw [show(3:Int)=((3:Nat):Int) from rfl,X1h,Q0i _ (by omega)]
     have x3:IntKind.i64.wrap (((nx l j 4/3:Nat):Int)*(nx l (j+1) 5:Int))=((nx l j 4/3*nx l (j+1) 5:Nat):Int):=by
      rw [←Int.natCast_mul,Q0i _ (by omega)]
     have x4:IntKind.i64.wrap ((at':Int)+1+((nx l j 4/3*nx l (j+1) 5:Nat):Int))=((at'+1+nx l j 4/3*nx l (j+1) 5:Nat):Int):=by
      rw [Q0p _ (by omega) (by omega)];omega
     have x5:IntKind.i64.wrap ((m:Int)-1)=((m-1:Nat):Int):=by rw [Q0p _ (by omega) (by omega)];omega
     simp -dsimp only [go_sem]
     refine Q0o Z0n 54 (.step 0 [] (.step 1 [] (.step 2 [] (.step 3 [] (.step 4 [] (.step 7 [] (.step 11 [] (.step 12 [] (.step 13 [] (.alt (.step 5 [11] (.step 6 [] (.alt (.step 8 [11] (.step 9 [] (.step 10 [] (.alt (.step 14 [11] (.step 15 [] (.step 16 [11] (.step 17 [] (.done))))) (.step 16 [11] (.step 14 [11] (.step 15 [] (.step 17 [] (.done))))))))) (.step 16 [11] (.step 8 [11] (.step 9 [] (.step 10 [] (.step 14 [11] (.step 15 [] (.step 17 [] (.done))))))))))) (.step 16 [11] (.step 5 [11] (.step 6 [] (.step 8 [11] (.step 9 [] (.step 10 [] (.step 14 [11] (.step 15 [] (.step 17 [] (.done)))))))))))))))))))) (by decide+kernel) (by simp) ?_
     simp -dsimp only [go_sem,x1]
     refine And.intro ?_ ?_
     all_goals
      refine(V0l l j k 4 _ (h.set j) (by omega) (by omega) (by omega)).mono ?_
      rintro r st' ⟨rfl,rfl⟩
      simp -dsimp only [go_sem,x1,x2,J0a]
     all_goals try refine And.intro ?_ ?_
     all_goals
      refine(V0l l (j+1) k 5 _ (h.set (j+1)) (by omega) (by omega) (by omega)).mono ?_
      rintro r st' ⟨rfl,rfl⟩
      simp -dsimp only [go_sem,x1,x2,x3,x4,J0a]
     all_goals try refine And.intro ?_ ?_
     all_goals
      refine(K2d l (j+1+1) k n _ (h.set (j+1+1)) (by omega) (by omega)).mono ?_
      rintro r st' ⟨b,j',hbl,hbr,hj3,hj4,rfl,rfl⟩
      simp -dsimp only [go_sem,x1,x2,x3,x4,J0a]
     all_goals
      refine Q0o Z0n 54 (.step 0 [] (.step 1 [] (.step 2 [0] (.step 3 [] (.step 4 [] (.step 5 [] (.step 6 [] (.step 7 [] (.step 8 [] (.done)))))))))) (by decide+kernel) (by simp) ?_
      simp -dsimp only [go_sem]
      refine(Q3t l j' k _ (h.set j') (by omega)).mono ?_
      rintro r st' ⟨p,hp1,hp2,rfl,rfl⟩
      simp -dsimp only [go_sem,J0a]
      refine(w0a (tq q) (tq p) _ (Q0t (K0i q)) (Q0t (K0i p))).mono ?_
      rintro r st' ⟨rfl,rfl⟩
      simp -dsimp only [go_sem,v1x q p (by omega)]
      refine⟨by omega,?_⟩
      refine Q0o Z0n 54 (.step 0 [] (.step 1 [] (.step 2 [] (.step 3 [] (.step 4 [] (.step 5 [] (.done))))))) (by decide+kernel) (by simp) ?_
      simp -dsimp only [go_sem,x5]
      refine⟨m-1,by omega,a++ [⟨(at':Int)+1,((at'+1+nx l j 4/3*nx l (j+1) 5:Nat):Int),tq q,tq (q+p),b⟩],at'+1+nx l j 4/3*nx l (j+1) 5,q+p,j'+2,
       W2j hT (by omega) hn n3 ⟨hp1,hp2⟩ hbl hbr (by rw [show((at'+1+nx l j 4/3*nx l (j+1) 5:Nat):Int)=(at':Int)+1+((nx l j 4/3*nx l (j+1) 5:Nat):Int) from by omega]),
       by simp;omega,by omega,by simp;omega,by simp [W0h,encS]⟩
   · have hge:m=0:=by have:=of_decide_eq_false h1;omega
     simp -dsimp only [go_sem]
     refine J0x [false,false,false,false,false,false,false,true] (Q0a ?_)
     simp -dsimp only [go_sem]
     exact⟨a,at',q,j,hT,by omega,hj,by omega,rfl,rfl⟩
end Go.Pv
end
section
/-Numbers,intervals and boxes out of the deck. -/
set_option maxRecDepth 100000
namespace Go.Pv
open Go.Proofs
def isW (x:Int):Prop:=0≤x∧x<18446744073709551616
def absN (x:Nm):Nm:=if Q0f x=true then⟨false,x.exp,x.w⟩ else default
def U0d (x:Nm):Nm:=if Q0f x=true then(if x.w= [] then x else⟨!x.neg,x.exp,x.w⟩) else default
theorem Z1j (x:Nm):Q0f (absN x)=true:=by
 unfold absN
 split
 · rename_i h
   unfold Q0f at h⊢
   simp only at h⊢
   split
   · rename_i hw;rw [if_pos hw] at h;simp at h;simp [h]
   · rename_i hw;rw [if_neg hw] at h;exact h
 · exact Z0t
theorem j1v (x:Nm):Q0f (U0d x)=true:=by
 unfold U0d
 split
 · rename_i h
   split
   · exact h
   · rename_i hw
     unfold Q0f at h⊢
     simp only at h⊢
     rw [if_neg hw] at h⊢;exact h
 · exact Z0t
theorem X2b (x:Nm):0≤mant (absN x):=by
 unfold absN mant
 split
 · simp
 · decide
theorem U1s (x:Nm):mant (U0d (absN x))≤0:=by
 have h:=Z1j x
 unfold U0d
 rw [if_pos h]
 split
 · rename_i hw
   unfold mant
   rw [hw];simp [valW,nW,val]
 · unfold mant
   have:(absN x).neg=false:=by unfold absN;split<;>rfl
   rw [this];simp
theorem J2x (x y:Nm):Q0n ⟨U0d (absN x),absN y⟩=true:=by
 unfold Q0n
 simp only [Bool.and_eq_true,decide_eq_true_eq]
 refine⟨⟨j1v _,Z1j _⟩,?_⟩
 unfold cmpN cmpE
 refine cmpI_le.2 ?_
 have h1:=U1s x
 have h2:=X2b y
 have p1:(0:Int)≤2^((U0d (absN x)).exp-min (U0d (absN x)).exp (absN y).exp).toNat:=Int.pow_nonneg (by decide)
 have p2:(0:Int)≤2^((absN y).exp-min (U0d (absN x)).exp (absN y).exp).toNat:=Int.pow_nonneg (by decide)
 have q1:=Int.mul_nonpos_of_nonpos_of_nonneg h1 p1
 have q2:=Int.mul_nonneg h2 p2
 omega
theorem k3v (x:Nm) (st:Q0g) (hw:wN x):PCalls Tryz.prog 96 [.agg (encN x)] st (fun r st'=>r= .agg (encN (absN x))∧st'=st):=by
 unfold wN at hw
 refine Q0b none Tryz.func96 rfl fun E=>Q0a ?_
 simp -dsimp only [go_sem]
 refine(Z0k x st (by omega)).mono ?_
 rintro r st ⟨rfl,rfl⟩
 simp -dsimp only [go_sem]
 refine ck (fun h=> ?_) (fun h=> ?_)
 · have hr:Q0f x=false:=by simpa using h
   simp -dsimp only [go_sem]
   rw [absN,if_neg (by simp [hr])];rfl
 · have hr:Q0f x=true:=by simpa using h
   simp -dsimp only [go_sem]
   rw [absN,if_pos hr]
theorem V3o (x:Nm) (st:Q0g) (hw:wN x):PCalls Tryz.prog 95 [.agg (encN x)] st (fun r st'=>r= .agg (encN (U0d x))∧st'=st):=by
 unfold wN at hw
 refine Q0b none Tryz.func95 rfl fun E=>Q0a ?_
 simp -dsimp only [go_sem]
 refine(Z0k x st (by omega)).mono ?_
 rintro r st ⟨rfl,rfl⟩
 simp -dsimp only [go_sem]
 refine ck (fun h=> ?_) (fun h=> ?_)
 · have hr:Q0f x=false:=by simpa using h
   simp -dsimp only [go_sem]
   rw [U0d,if_neg (by simp [hr])];rfl
 · have hr:Q0f x=true:=by simpa using h
   simp -dsimp only [go_sem]
   refine ck (fun h0=> ?_) (fun h0=> ?_)
   · have hw0:x.w= []:=List.length_eq_zero_iff.1 (U0o (b:=0) h0)
     simp -dsimp only [go_sem]
     rw [U0d,if_pos hr,if_pos hw0]
   · have hw0:x.w≠ []:=fun e=>G0x (b:=0) h0 (by rw [e];rfl)
     simp -dsimp only [go_sem]
     rw [U0d,if_pos hr,if_neg hw0]
theorem y2g (l:List UInt64) (i k:Nat) (st:Q0g) (h:atD st k l i) (hi:i≤1000000000000):PCalls Tryz.prog 12 [.gp k 0] st
 (fun r st'=> ∃n:Nat,1≤n∧n≤4∧r= .sc (.int .i64 n)∧st'=st.set k (dk l (i+1))):=by
 refine Q0b none Tryz.func12 rfl fun E=>Q0a ?_
 simp -dsimp only [go_sem]
 refine(V0l l i k 4 st h hi (by omega) (by omega)).mono ?_
 rintro r st' ⟨rfl,rfl⟩
 have n1:=v0c l i (n:=4) (by omega)
 have x1:IntKind.i64.wrap (1+(nx l i 4:Int))=((1+nx l i 4:Nat):Int):=by rw [show(1+(nx l i 4:Int))=((1+nx l i 4:Nat):Int) from by omega,Q0i _ (by omega)]
 simp -dsimp only [go_sem,x1]
 exact⟨1+nx l i 4,by omega,by omega,rfl⟩
end Go.Pv
end
