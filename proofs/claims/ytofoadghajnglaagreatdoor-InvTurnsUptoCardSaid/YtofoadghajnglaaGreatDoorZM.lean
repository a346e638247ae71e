/- Parts of the walk: H1, H2, H3, H10. -/
import Derived.Test.YtofoadghajnglaaGreatDoorZH
import Derived.Test.YtofoadghajnglaaGreatDoorZK
set_option linter.unusedVariables false
set_option linter.unusedSimpArgs false
section
/-The document's Words,Val.Num,Make. -/
set_option maxRecDepth 100000
namespace Go.Pv
open Go.Proofs
theorem Z3s (m:Nat) (st:Q0d) (hm:(Q0g m).length≤1000000000000):PCalls Tryz.prog 239 [.sl .no (encD (Q0g m))] st (fun r st'=>r= .sl .no (encW (Q0l m))∧st'=st):=by
 rw [←x2y m]
 obtain⟨a,ha⟩: ∃a,a=Q0g m:=⟨_,rfl⟩
 rw [←ha] at hm⊢
 refine Q0b none Tryz.func239 rfl fun E=>Q0a ?_
 simp -dsimp only [go_sem]
 refine J0j 3 1 ?_
 simp -dsimp only [go_sem]
 refine Q0e [true,false,false,true,true] 0 1 (fun n s=> ∃k,n=a.length+1-2*k∧2*k≤a.length+1∧
  s=⟨[.sl .no (encD a),.junk,.junk,.sl (.own 0) (encW (pk a k)),.sc (.int .i64 (2*k:Nat))]++List.replicate 31 .junk,[],[((pk a k).length,1)],st⟩) (a.length+1) ?_ ?_
 · simp -dsimp only [go_sem]
   exact⟨0,by omega,by omega,rfl⟩
 · rintro n s ⟨k,rfl,hk,rfl⟩
   simp -dsimp only [go_sem]
   refine ck (fun h=> ?_) (fun h=> ?_)
   · have hlt:2*k<a.length:=by have:=of_decide_eq_true h;omega
     have g1:=J0v a (2*k) hlt
     have h1:=(a.getD (2*k) 0).toNat_lt
     have h2:=(a.getD (2*k+1) 0).toNat_lt
     have x1:IntKind.i64.wrap (((2*k:Nat):Int)+1)=((2*k+1:Nat):Int):=by
      rw [show(((2*k:Nat):Int)+1)=((2*k+1:Nat):Int) from rfl,Q0j _ (by omega)]
     have x2:IntKind.i64.wrap (((2*k:Nat):Int)+2)=((2*(k+1):Nat):Int):=by
      rw [show(((2*k:Nat):Int)+2)=((2*(k+1):Nat):Int) from by omega,Q0j _ (by omega)]
     have w1:IntKind.u64.wrap ((a.getD (2*k) 0).toNat:Int)=((a.getD (2*k) 0).toNat:Int):=J0t _ (by omega)
     have w2:IntKind.u64.wrap ((a.getD (2*k+1) 0).toNat:Int)=((a.getD (2*k+1) 0).toNat:Int):=J0t _ (by omega)
     have ew:=j1q a k
     have en:=j1r a k
     have pl:=G0n a k
     simp -dsimp only [go_sem,g1,x1,w1]
     refine⟨by omega,?_⟩
     refine ck (fun h5=> ?_) (fun h5=> ?_)
     · have hlt2:2*k+1<a.length:=by have:=of_decide_eq_true h5;omega
       have g2:=J0v a (2*k+1) hlt2
       have s1:bOr .u64 ((a.getD (2*k) 0).toNat:Int) (bShl .u64 ((a.getD (2*k+1) 0).toNat:Int) 32)=((UInt64.ofNat ((a.getD (2*k) 0).toNat+4294967296*(a.getD (2*k+1) 0).toNat)).toNat:Int):=by
        rw [ew,show(32:Int)=((32:Nat):Int) from rfl,U0x _ 32 (by omega),K1h _ _ (by omega) (Nat.mod_lt _ (by decide)),V1t _ _ 32 (by omega) (j0f _ 32 (by omega))]
        congr 1
        omega
       simp -dsimp only [go_sem,x1,x2,g2,w2,s1]
       refine⟨by omega,by omega,a.length+1-2*(k+1),by omega,k+1,rfl,by omega,by rw [en];simp⟩
     · have h0:a.getD (2*k+1) 0=0:=G0d _ _ _ (by have:=of_decide_eq_false h5;omega)
       have s1:((a.getD (2*k) 0).toNat:Int)=((UInt64.ofNat ((a.getD (2*k) 0).toNat+4294967296*(a.getD (2*k+1) 0).toNat)).toNat:Int):=by
        rw [ew,h0];rfl
       simp -dsimp only [go_sem,x2]
       rw [s1,G2d,←en]
       refine⟨by omega,a.length+1-2*(k+1),by omega,k+1,rfl,by omega,by simp [G0n]⟩
   · have hge:k=(a.length+1)/2:=by have:=of_decide_eq_false h;omega
     simp -dsimp only [go_sem]
     refine W2b [false,false,false,true] (Q0a ?_)
     simp -dsimp only [go_sem]
     rw [hge]
theorem G3l (v:Vl) (st:Q0d) (hm:(Q0g v.m).length≤1000000000000):PCalls Tryz.prog 180 [.agg (encV v)] st (fun r st'=>r= .tup [.agg (encN (numV v).1),.sc (.int .i64 (numV v).2)]∧st'=st):=by
 refine Q0b none Tryz.func180 rfl fun E=>Q0a ?_
 simp -dsimp only [go_sem]
 refine ck (fun h=> ?_) (fun h=> ?_)
 · have h0:v.m=0:=digitsOf_nil.1 (List.length_eq_zero_iff.1 (G0q (b:=0) h))
   simp -dsimp only [go_sem]
   rw [numV,if_pos h0];rfl
 · have h0:v.m≠0:=fun e=>x0t (b:=0) h (by rw [e,X0a];rfl)
   simp -dsimp only [go_sem]
   refine(Z3s v.m st hm).mono ?_
   rintro r st ⟨rfl,rfl⟩
   simp -dsimp only [go_sem]
   have bad:64<(Q0l v.m).length∨v.e< -65536∨65536<v.e→numV v=(default,2):=fun h=>by rw [numV,if_neg h0,if_pos h]
   refine gkF (fun h1=> ?_) (fun h1=> ?_)
   · have h1':=of_decide_eq_false h1
     simp -dsimp only [go_sem,h1]
     refine gkF (fun h2=> ?_) (fun h2=> ?_)
     · have h2':=of_decide_eq_false h2
       simp -dsimp only [go_sem,h1,h2]
       refine ck (fun h3=> ?_) (fun h3=> ?_)
       · have h3':=of_decide_eq_true h3
         simp -dsimp only [go_sem]
         rw [bad (by omega)];rfl
       · have h3':=of_decide_eq_false h3
         simp -dsimp only [go_sem]
         rw [numV,if_neg h0,if_neg (by omega)]
     · have h2':=of_decide_eq_true h2
       simp -dsimp only [go_sem,h1,h2]
       rw [bad (by omega)];rfl
   · have h1':=of_decide_eq_true h1
     simp -dsimp only [go_sem,h1]
     rw [bad (by omega)];rfl
theorem q3i (neg:Bool) (w:List UInt64) (e:Int) (st:Q0d) (hw:w.length≤1000000000) (he1: -1000000000000≤e) (he2:e≤1000000000000):PCalls Tryz.prog 132 [.sc (.bool neg),.sl .no (encW w),.sc (.int .i64 e)] st (fun r st'=>r= .tup [.agg (encN (J1b neg w e).1),.sc (.int .i64 (J1b neg w e).2)]∧st'=st):=by
 have hb:=V0h w
 unfold X0n at hb
 have hl:=J0l (valW w)
 have ht:=q0o (valW w)
 refine Q0b none Tryz.func132 rfl fun E=>Q0a ?_
 simp -dsimp only [go_sem]
 refine(W2j w st (by omega)).mono ?_
 rintro r st ⟨rfl,rfl⟩
 simp -dsimp only [go_sem]
 refine ck (fun h=> ?_) (fun h=> ?_)
 · have h0:valW w=0:=digitsOf_nil.1 (List.length_eq_zero_iff.1 (G0q (b:=0) h))
   simp -dsimp only [go_sem]
   rw [J1b,if_pos h0];rfl
 · have h0:valW w≠0:=fun e=>x0t (b:=0) h (by rw [e,X0a];rfl)
   have w1:IntKind.i64.wrap (-65536-(tz (valW w):Int))= -65536-(tz (valW w):Int):=Q0v _ (by omega) (by omega)
   simp -dsimp only [go_sem,w1]
   have bad:65536<e∨e< -65536-(tz (valW w):Int)→J1b neg w e=(default,2):=fun h=>by rw [J1b,if_neg h0,if_pos h]
   refine gkF (fun h1=> ?_) (fun h1=> ?_)
   · have h1':=of_decide_eq_false h1
     simp -dsimp only [go_sem,h1]
     refine(K2e (valW w) st (by omega)).mono ?_
     rintro r st ⟨rfl,rfl⟩
     simp -dsimp only [go_sem,h1,w1]
     refine ck (fun h2=> ?_) (fun h2=> ?_)
     · have h2':=of_decide_eq_true h2
       simp -dsimp only [go_sem]
       rw [bad (by omega)];rfl
     · have h2':=of_decide_eq_false h2
       simp -dsimp only [go_sem]
       refine(W2v neg (valW w) e st (by omega) (by omega) (by omega)).mono ?_
       rintro r st ⟨rfl,rfl⟩
       simp -dsimp only [go_sem]
       have hv:(Q0g (oddV neg (valW w) e).m).length≤1000000000000:=by
        have:(oddV neg (valW w) e).m≤valW w:=by
         unfold oddV;split
         · exact Nat.zero_le _
         · exact Nat.div_le_self _ _
        have h1:=J0l (oddV neg (valW w) e).m
        have h2:=W0n this
        omega
       refine(G3l _ st hv).mono ?_
       rintro r st ⟨rfl,rfl⟩
       simp -dsimp only [go_sem]
       rw [J1b,if_neg h0,if_neg (by omega)]
   · have h1':=of_decide_eq_true h1
     simp -dsimp only [go_sem,h1]
     rw [bad (by omega)];rfl
theorem X4v (neg:Bool) (w:List UInt64) (e:Int) (st:Q0d) (hw:w.length≤1000000000) (he1: -1000000000000≤e) (he2:e≤1000000000000):PCalls Tryz.prog 62 [.sc (.bool neg),.sl .no (encW w),.sc (.int .i64 e)] st (fun r st'=>r= .agg (encN (J1b neg w e).1)∧st'=st):=by
 refine Q0b none Tryz.func62 rfl fun E=>Q0a ?_
 simp -dsimp only [go_sem]
 refine(q3i neg w e st hw he1 he2).mono ?_
 rintro r st ⟨rfl,rfl⟩
 simp -dsimp only [go_sem]
end Go.Pv
end
section
/-The deck:Of,Next,N,Yes. -/
set_option maxRecDepth 100000
namespace Go.Pv
open Go.Proofs
def dk (l:List UInt64) (i:Nat):List PV:= [.sl .no (encW l),.sc (.int .i64 i)]
def atD (st:Q0d) (k:Nat) (l:List UInt64) (i:Nat):Prop:=st.getD k []=dk l i
theorem atD.lt {st:Q0d} {k:Nat} {l:List UInt64} {i:Nat} (h:atD st k l i):k<st.length:=by
 refine Nat.lt_of_not_le fun hn=> ?_
 unfold atD at h
 rw [List.getD_eq_getElem?_getD,List.getElem?_eq_none hn] at h
 cases h
theorem atD.set {st:Q0d} {k:Nat} {l:List UInt64} {i:Nat} (h:atD st k l i) (j:Nat):atD (st.set k (dk l j)) k l j:=by
 unfold atD
 rw [Q0u _ _ _ _ h.lt]
theorem atD.same {st:Q0d} {k:Nat} {l:List UInt64} {i:Nat} (h:atD st k l i):st.set k (dk l i)=st:=by
 have hlt:=h.lt
 unfold atD at h
 rw [←h,List.getD_eq_getElem?_getD,List.getElem?_eq_getElem hlt,Option.getD_some,List.set_getElem_self]
theorem V2h (st:Q0d) (k:Nat) (l:List UInt64) (i j:Nat):(st.set k (dk l i)).set k (dk l j)=st.set k (dk l j):=List.set_set ..
theorem Q2x (l:List UInt64) (st:Q0d):PCalls Tryz.prog 16 [.sl .no (encW l)] st (fun r st'=>r= .gp st.length 0∧st'=st++ [dk l 0]):=by
 refine Q0b none Tryz.func16 rfl fun E=>Q0n (Q0a ?_)
 simp -dsimp only [go_sem]
 refine Q0n (Q0a ?_)
 simp -dsimp only [go_sem]
 refine x0e 0 (by simp [go_sem]) (by simp) (Q0a ?_)
 simp -dsimp only [go_sem]
 rfl
theorem y2v (l:List UInt64) (i k:Nat) (st:Q0d) (h:atD st k l i) (hi:i≤1000000000000):PCalls Tryz.prog 61 [.gp k 0] st (fun r st'=>r= .sc (.int .u64 (l.getD i 0).toNat)∧st'=st.set k (dk l (i+1))):=by
 unfold atD dk at h
 refine Q0b none Tryz.func61 rfl fun E=>Q0a ?_
 simp -dsimp only [go_sem]
 refine Q0p Z0y 32 (.step 0 [] (.step 1 [] (.step 2 [] (.step 3 [] (.step 4 [] (.step 5 [] (.step 6 [] (.step 7 [] (.step 8 [] (.step 9 [] (.done))))))))))) (by decide+kernel) (by simp) ?_
 simp -dsimp only [go_sem,h]
 have x1:IntKind.i64.wrap ((i:Int)+1)=((i+1:Nat):Int):=by
  rw [show((i:Int)+1)=((i+1:Nat):Int) from rfl,Q0j _ (by omega)]
 refine ck (fun h1=> ?_) (fun h1=> ?_)
 · have hlt:i<l.length:=by have:=of_decide_eq_true h1;omega
   have g1:=Z0h l i hlt
   simp -dsimp only [go_sem]
   refine Q0p Z0y 32 (.step 0 [] (.step 1 [] (.step 2 [] (.step 3 [] (.step 4 [] (.step 5 [] (.step 6 [] (.step 7 [] (.step 8 [] (.step 9 [] (.step 10 [] (.done)))))))))))) (by decide+kernel) (by simp) ?_
   simp -dsimp only [go_sem,h,g1,x1]
   exact⟨⟨by omega,hlt⟩,rfl⟩
 · have hge:l.length≤i:=by have:=of_decide_eq_false h1;omega
   simp -dsimp only [go_sem,h,x1]
   rw [G0d _ _ _ hge]
   exact⟨rfl,rfl⟩
def nx (l:List UInt64) (i n:Nat):Nat:=(l.getD i 0).toNat % n
theorem q3b (l:List UInt64) (i:Nat) {n:Nat} (h:0<n):nx l i n<n:=Nat.mod_lt _ h
theorem U1v (l:List UInt64) (i k n:Nat) (st:Q0d) (h:atD st k l i) (hi:i≤1000000000000) (hn:0<n) (hn2:n≤1000000000000):PCalls Tryz.prog 39 [.gp k 0,.sc (.int .i64 n)] st (fun r st'=>r= .sc (.int .i64 (nx l i n))∧st'=st.set k (dk l (i+1))):=by
 refine Q0b none Tryz.func39 rfl fun E=>Q0a ?_
 simp -dsimp only [go_sem]
 refine(y2v l i k st h hi).mono ?_
 rintro r st ⟨rfl,rfl⟩
 have hm:(l.getD i 0).toNat % n<n:=Nat.mod_lt _ hn
 have hv:=(l.getD i 0).toNat_lt
 have w1:IntKind.u64.wrap (n:Int)=(n:Int):=J0t _ (by omega)
 have w2:((l.getD i 0).toNat:Int).tmod (n:Int)=(nx l i n:Int):=H0f _ _
 have w3:IntKind.i64.wrap (nx l i n:Int)=(nx l i n:Int):=Q0j _ (by unfold nx;omega)
 have w4:((n:Int)==0)=false:=by simp;omega
 simp -dsimp only [go_sem,w1,w2,w3,w4]
 simp;omega
theorem Z4z (l:List UInt64) (i k n:Nat) (st:Q0d) (h:atD st k l i) (hi:i≤1000000000000) (hn:0<n) (hn2:n≤1000000000000):PCalls Tryz.prog 19 [.gp k 0,.sc (.int .i64 n)] st (fun r st'=>r= .sc (.bool (decide (nx l i n=n-1)))∧st'=st.set k (dk l (i+1))):=by
 refine Q0b none Tryz.func19 rfl fun E=>Q0a ?_
 simp -dsimp only [go_sem]
 refine(U1v l i k n st h hi hn hn2).mono ?_
 rintro r st ⟨rfl,rfl⟩
 have w1:IntKind.i64.wrap ((n:Int)-1)=((n-1:Nat):Int):=by rw [Q0v _ (by omega) (by omega)];omega
 simp -dsimp only [go_sem,w1]
 congr 2
 rw [Bool.eq_iff_iff];simp;omega
end Go.Pv
end
section
/-Numbers,intervals and boxes out of the deck. -/
set_option maxRecDepth 100000
namespace Go.Pv
open Go.Proofs
def absN (x:Nm):Nm:=if Q0h x=true then⟨false,x.exp,x.w⟩ else default
theorem Y1c (x:Nm):Q0h (absN x)=true:=by
 unfold absN
 split
 · rename_i h
   unfold Q0h at h⊢
   simp only at h⊢
   split
   · rename_i hw;rw [if_pos hw] at h;simp at h;simp [h]
   · rename_i hw;rw [if_neg hw] at h;exact h
 · exact X0h
theorem j3k (l:List UInt64) (i k:Nat) (st:Q0d) (h:atD st k l i) (hi:i≤1000000000000):PCalls Tryz.prog 17 [.gp k 0] st
 (fun r st'=> ∃n:Nat,1≤n∧n≤4∧r= .sc (.int .i64 n)∧st'=st.set k (dk l (i+1))):=by
 refine Q0b none Tryz.func17 rfl fun E=>Q0a ?_
 simp -dsimp only [go_sem]
 refine(U1v l i k 4 st h hi (by omega) (by omega)).mono ?_
 rintro r st' ⟨rfl,rfl⟩
 have n1:=q3b l i (n:=4) (by omega)
 have x1:IntKind.i64.wrap (1+(nx l i 4:Int))=((1+nx l i 4:Nat):Int):=by rw [show(1+(nx l i 4:Int))=((1+nx l i 4:Nat):Int) from by omega,Q0j _ (by omega)]
 simp -dsimp only [go_sem,x1]
 exact⟨1+nx l i 4,by omega,by omega,rfl⟩
end Go.Pv
end
