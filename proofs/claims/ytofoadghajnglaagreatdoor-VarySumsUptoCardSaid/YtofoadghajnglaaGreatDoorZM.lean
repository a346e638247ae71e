/- Parts of the walk: H1, H2, H3, H10. -/
import Derived.Test.YtofoadghajnglaaGreatDoorZH
import Derived.Test.YtofoadghajnglaaGreatDoorZL
set_option linter.unusedVariables false
set_option linter.unusedSimpArgs false
section
/-The document's Words,Val.Num,Make. -/
set_option maxRecDepth 100000
namespace Go.Pv
open Go.Proofs
theorem v2o (m:Nat) (st:Q0e) (hm:(Q0d m).length≤1000000000000):PCalls Tryz.prog 239 [.sl .no (encD (Q0d m))] st (fun r st'=>r= .sl .no (encW (Q0q m))∧st'=st):=by
 rw [←H2j m]
 obtain⟨a,ha⟩: ∃a,a=Q0d m:=⟨_,rfl⟩
 rw [←ha] at hm⊢
 refine Q0b none Tryz.func239 rfl fun E=>Q0a ?_
 simp -dsimp only [go_sem]
 refine Z0l 3 1 ?_
 simp -dsimp only [go_sem]
 refine Q0f [true,false,false,true,true] 0 1 (fun n s=> ∃k,n=a.length+1-2*k∧2*k≤a.length+1∧
  s=⟨[.sl .no (encD a),.junk,.junk,.sl (.own 0) (encW (pk a k)),.sc (.int .i64 (2*k:Nat))]++List.replicate 31 .junk,[],[((pk a k).length,1)],st⟩) (a.length+1) ?_ ?_
 · simp -dsimp only [go_sem]
   exact⟨0,by omega,by omega,rfl⟩
 · rintro n s ⟨k,rfl,hk,rfl⟩
   simp -dsimp only [go_sem]
   refine ck (fun h=> ?_) (fun h=> ?_)
   · have hlt:2*k<a.length:=by have:=of_decide_eq_true h;omega
     have g1:=J0a a (2*k) hlt
     have h1:=(a.getD (2*k) 0).toNat_lt
     have h2:=(a.getD (2*k+1) 0).toNat_lt
     have x1:IntKind.i64.wrap (((2*k:Nat):Int)+1)=((2*k+1:Nat):Int):=by
      rw [show(((2*k:Nat):Int)+1)=((2*k+1:Nat):Int) from rfl,Q0n _ (by omega)]
     have x2:IntKind.i64.wrap (((2*k:Nat):Int)+2)=((2*(k+1):Nat):Int):=by
      rw [show(((2*k:Nat):Int)+2)=((2*(k+1):Nat):Int) from by omega,Q0n _ (by omega)]
     have w1:IntKind.u64.wrap ((a.getD (2*k) 0).toNat:Int)=((a.getD (2*k) 0).toNat:Int):=J0g _ (by omega)
     have w2:IntKind.u64.wrap ((a.getD (2*k+1) 0).toNat:Int)=((a.getD (2*k+1) 0).toNat:Int):=J0g _ (by omega)
     have ew:=q1e a k
     have en:=q1f a k
     have pl:=G0f a k
     simp -dsimp only [go_sem,g1,x1,w1]
     refine⟨by omega,?_⟩
     refine ck (fun h5=> ?_) (fun h5=> ?_)
     · have hlt2:2*k+1<a.length:=by have:=of_decide_eq_true h5;omega
       have g2:=J0a a (2*k+1) hlt2
       have s1:bOr .u64 ((a.getD (2*k) 0).toNat:Int) (bShl .u64 ((a.getD (2*k+1) 0).toNat:Int) 32)=((UInt64.ofNat ((a.getD (2*k) 0).toNat+4294967296*(a.getD (2*k+1) 0).toNat)).toNat:Int):=by
        rw [ew,show(32:Int)=((32:Nat):Int) from rfl,U0r _ 32 (by omega),X1a _ _ (by omega) (Nat.mod_lt _ (by decide)),J1k _ _ 32 (by omega) (x0o _ 32 (by omega))]
        congr 1
        omega
       simp -dsimp only [go_sem,x1,x2,g2,w2,s1]
       refine⟨by omega,by omega,a.length+1-2*(k+1),by omega,k+1,rfl,by omega,by rw [en];simp⟩
     · have h0:a.getD (2*k+1) 0=0:=Y0x _ _ _ (by have:=of_decide_eq_false h5;omega)
       have s1:((a.getD (2*k) 0).toNat:Int)=((UInt64.ofNat ((a.getD (2*k) 0).toNat+4294967296*(a.getD (2*k+1) 0).toNat)).toNat:Int):=by
        rw [ew,h0];rfl
       simp -dsimp only [go_sem,x2]
       rw [s1,V2j,←en]
       refine⟨by omega,a.length+1-2*(k+1),by omega,k+1,rfl,by omega,by simp [G0f]⟩
   · have hge:k=(a.length+1)/2:=by have:=of_decide_eq_false h;omega
     simp -dsimp only [go_sem]
     refine Y0o [false,false,false,true] (Q0a ?_)
     simp -dsimp only [go_sem]
     rw [hge]
theorem Q2l (v:Vl) (st:Q0e) (hm:(Q0d v.m).length≤1000000000000):PCalls Tryz.prog 180 [.agg (encV v)] st (fun r st'=>r= .tup [.agg (encN (numV v).1),.sc (.int .i64 (numV v).2)]∧st'=st):=by
 refine Q0b none Tryz.func180 rfl fun E=>Q0a ?_
 simp -dsimp only [go_sem]
 refine ck (fun h=> ?_) (fun h=> ?_)
 · have h0:v.m=0:=digitsOf_nil.1 (List.length_eq_zero_iff.1 (U0m (b:=0) h))
   simp -dsimp only [go_sem]
   rw [numV,if_pos h0];rfl
 · have h0:v.m≠0:=fun e=>H0z (b:=0) h (by rw [e,Z0j];rfl)
   simp -dsimp only [go_sem]
   refine(v2o v.m st hm).mono ?_
   rintro r st ⟨rfl,rfl⟩
   simp -dsimp only [go_sem]
   have bad:64<(Q0q v.m).length∨v.e< -65536∨65536<v.e→numV v=(default,2):=fun h=>by rw [numV,if_neg h0,if_pos h]
   refine gkF (fun h1=> ?_) (fun h1=> ?_)
   · have h1':=of_decide_eq_false h1
     simp -dsimp only [go_sem,h1]
     refine gkF (fun h2=> ?_) (fun h2=> ?_)
     · have h2':=of_decide_eq_false h2
       simp -dsimp only [go_sem,h1,h2]
       refine ck (fun h3=> ?_) (fun h3=> ?_)
       · have h3':=of_decide_eq_true h3
         simp -dsimp only [go_sem]
         rw [bad (by omega)];rfl
       · have h3':=of_decide_eq_false h3
         simp -dsimp only [go_sem]
         rw [numV,if_neg h0,if_neg (by omega)]
     · have h2':=of_decide_eq_true h2
       simp -dsimp only [go_sem,h1,h2]
       rw [bad (by omega)];rfl
   · have h1':=of_decide_eq_true h1
     simp -dsimp only [go_sem,h1]
     rw [bad (by omega)];rfl
theorem W3l (neg:Bool) (w:List UInt64) (e:Int) (st:Q0e) (hw:w.length≤1000000000) (he1: -1000000000000≤e) (he2:e≤1000000000000):PCalls Tryz.prog 132 [.sc (.bool neg),.sl .no (encW w),.sc (.int .i64 e)] st (fun r st'=>r= .tup [.agg (encN (Q1u neg w e).1),.sc (.int .i64 (Q1u neg w e).2)]∧st'=st):=by
 have hb:=V0t w
 unfold X0h at hb
 have hl:=Z0y (valW w)
 have ht:=H0o (valW w)
 refine Q0b none Tryz.func132 rfl fun E=>Q0a ?_
 simp -dsimp only [go_sem]
 refine(k2d w st (by omega)).mono ?_
 rintro r st ⟨rfl,rfl⟩
 simp -dsimp only [go_sem]
 refine ck (fun h=> ?_) (fun h=> ?_)
 · have h0:valW w=0:=digitsOf_nil.1 (List.length_eq_zero_iff.1 (U0m (b:=0) h))
   simp -dsimp only [go_sem]
   rw [Q1u,if_pos h0];rfl
 · have h0:valW w≠0:=fun e=>H0z (b:=0) h (by rw [e,Z0j];rfl)
   have w1:IntKind.i64.wrap (-65536-(tz (valW w):Int))= -65536-(tz (valW w):Int):=Q0k _ (by omega) (by omega)
   simp -dsimp only [go_sem,w1]
   have bad:65536<e∨e< -65536-(tz (valW w):Int)→Q1u neg w e=(default,2):=fun h=>by rw [Q1u,if_neg h0,if_pos h]
   refine gkF (fun h1=> ?_) (fun h1=> ?_)
   · have h1':=of_decide_eq_false h1
     simp -dsimp only [go_sem,h1]
     refine(Q2f (valW w) st (by omega)).mono ?_
     rintro r st ⟨rfl,rfl⟩
     simp -dsimp only [go_sem,h1,w1]
     refine ck (fun h2=> ?_) (fun h2=> ?_)
     · have h2':=of_decide_eq_true h2
       simp -dsimp only [go_sem]
       rw [bad (by omega)];rfl
     · have h2':=of_decide_eq_false h2
       simp -dsimp only [go_sem]
       refine(q1l neg (valW w) e st (by omega) (by omega) (by omega)).mono ?_
       rintro r st ⟨rfl,rfl⟩
       simp -dsimp only [go_sem]
       have hv:(Q0d (oddV neg (valW w) e).m).length≤1000000000000:=by
        have:(oddV neg (valW w) e).m≤valW w:=by
         unfold oddV;split
         · exact Nat.zero_le _
         · exact Nat.div_le_self _ _
        have h1:=Z0y (oddV neg (valW w) e).m
        have h2:=J0y this
        omega
       refine(Q2l _ st hv).mono ?_
       rintro r st ⟨rfl,rfl⟩
       simp -dsimp only [go_sem]
       rw [Q1u,if_neg h0,if_neg (by omega)]
   · have h1':=of_decide_eq_true h1
     simp -dsimp only [go_sem,h1]
     rw [bad (by omega)];rfl
theorem v3a (neg:Bool) (w:List UInt64) (e:Int) (st:Q0e) (hw:w.length≤1000000000) (he1: -1000000000000≤e) (he2:e≤1000000000000):PCalls Tryz.prog 62 [.sc (.bool neg),.sl .no (encW w),.sc (.int .i64 e)] st (fun r st'=>r= .agg (encN (Q1u neg w e).1)∧st'=st):=by
 refine Q0b none Tryz.func62 rfl fun E=>Q0a ?_
 simp -dsimp only [go_sem]
 refine(W3l neg w e st hw he1 he2).mono ?_
 rintro r st ⟨rfl,rfl⟩
 simp -dsimp only [go_sem]
end Go.Pv
end
section
/-The deck:Of,Next,N,Yes. -/
set_option maxRecDepth 100000
namespace Go.Pv
open Go.Proofs
def dk (l:List UInt64) (i:Nat):List PV:= [.sl .no (encW l),.sc (.int .i64 i)]
def atD (st:Q0e) (k:Nat) (l:List UInt64) (i:Nat):Prop:=st.getD k []=dk l i
theorem atD.lt {st:Q0e} {k:Nat} {l:List UInt64} {i:Nat} (h:atD st k l i):k<st.length:=by
 refine Nat.lt_of_not_le fun hn=> ?_
 unfold atD at h
 rw [List.getD_eq_getElem?_getD,List.getElem?_eq_none hn] at h
 cases h
theorem atD.set {st:Q0e} {k:Nat} {l:List UInt64} {i:Nat} (h:atD st k l i) (j:Nat):atD (st.set k (dk l j)) k l j:=by
 unfold atD
 rw [Q0o _ _ _ _ h.lt]
theorem atD.same {st:Q0e} {k:Nat} {l:List UInt64} {i:Nat} (h:atD st k l i):st.set k (dk l i)=st:=by
 have hlt:=h.lt
 unfold atD at h
 rw [←h,List.getD_eq_getElem?_getD,List.getElem?_eq_getElem hlt,Option.getD_some,List.set_getElem_self]
theorem J1c (st:Q0e) (k:Nat) (l:List UInt64) (i j:Nat):(st.set k (dk l i)).set k (dk l j)=st.set k (dk l j):=List.set_set ..
theorem x2f (l:List UInt64) (st:Q0e):PCalls Tryz.prog 16 [.sl .no (encW l)] st (fun r st'=>r= .gp st.length 0∧st'=st++ [dk l 0]):=by
 refine Q0b none Tryz.func16 rfl fun E=>Q0h (Q0a ?_)
 simp -dsimp only [go_sem]
 refine Q0h (Q0a ?_)
 simp -dsimp only [go_sem]
 refine z0f 0 (by simp [go_sem]) (by simp) (Q0a ?_)
 simp -dsimp only [go_sem]
 rfl
theorem k2h (l:List UInt64) (i k:Nat) (st:Q0e) (h:atD st k l i) (hi:i≤1000000000000):PCalls Tryz.prog 61 [.gp k 0] st (fun r st'=>r= .sc (.int .u64 (l.getD i 0).toNat)∧st'=st.set k (dk l (i+1))):=by
 unfold atD dk at h
 refine Q0b none Tryz.func61 rfl fun E=>Q0a ?_
 simp -dsimp only [go_sem]
 refine Q0p Z0g 32 (.step 0 [] (.step 1 [] (.step 2 [] (.step 3 [] (.step 4 [] (.step 5 [] (.step 6 [] (.step 7 [] (.step 8 [] (.step 9 [] (.done))))))))))) (by decide+kernel) (by simp) ?_
 simp -dsimp only [go_sem,h]
 have x1:IntKind.i64.wrap ((i:Int)+1)=((i+1:Nat):Int):=by
  rw [show((i:Int)+1)=((i+1:Nat):Int) from rfl,Q0n _ (by omega)]
 refine ck (fun h1=> ?_) (fun h1=> ?_)
 · have hlt:i<l.length:=by have:=of_decide_eq_true h1;omega
   have g1:=Q0z l i hlt
   simp -dsimp only [go_sem]
   refine Q0p Z0g 32 (.step 0 [] (.step 1 [] (.step 2 [] (.step 3 [] (.step 4 [] (.step 5 [] (.step 6 [] (.step 7 [] (.step 8 [] (.step 9 [] (.step 10 [] (.done)))))))))))) (by decide+kernel) (by simp) ?_
   simp -dsimp only [go_sem,h,g1,x1]
   exact⟨⟨by omega,hlt⟩,rfl⟩
 · have hge:l.length≤i:=by have:=of_decide_eq_false h1;omega
   simp -dsimp only [go_sem,h,x1]
   rw [Y0x _ _ _ hge]
   exact⟨rfl,rfl⟩
def nx (l:List UInt64) (i n:Nat):Nat:=(l.getD i 0).toNat % n
theorem y2o (l:List UInt64) (i:Nat) {n:Nat} (h:0<n):nx l i n<n:=Nat.mod_lt _ h
theorem Z1n (l:List UInt64) (i k n:Nat) (st:Q0e) (h:atD st k l i) (hi:i≤1000000000000) (hn:0<n) (hn2:n≤1000000000000):PCalls Tryz.prog 39 [.gp k 0,.sc (.int .i64 n)] st (fun r st'=>r= .sc (.int .i64 (nx l i n))∧st'=st.set k (dk l (i+1))):=by
 refine Q0b none Tryz.func39 rfl fun E=>Q0a ?_
 simp -dsimp only [go_sem]
 refine(k2h l i k st h hi).mono ?_
 rintro r st ⟨rfl,rfl⟩
 have hm:(l.getD i 0).toNat % n<n:=Nat.mod_lt _ hn
 have hv:=(l.getD i 0).toNat_lt
 have w1:IntKind.u64.wrap (n:Int)=(n:Int):=J0g _ (by omega)
 have w2:((l.getD i 0).toNat:Int).tmod (n:Int)=(nx l i n:Int):=G0s _ _
 have w3:IntKind.i64.wrap (nx l i n:Int)=(nx l i n:Int):=Q0n _ (by unfold nx;omega)
 have w4:((n:Int)==0)=false:=by simp;omega
 simp -dsimp only [go_sem,w1,w2,w3,w4]
 simp;omega
theorem K3m (l:List UInt64) (i k n:Nat) (st:Q0e) (h:atD st k l i) (hi:i≤1000000000000) (hn:0<n) (hn2:n≤1000000000000):PCalls Tryz.prog 19 [.gp k 0,.sc (.int .i64 n)] st (fun r st'=>r= .sc (.bool (decide (nx l i n=n-1)))∧st'=st.set k (dk l (i+1))):=by
 refine Q0b none Tryz.func19 rfl fun E=>Q0a ?_
 simp -dsimp only [go_sem]
 refine(Z1n l i k n st h hi hn hn2).mono ?_
 rintro r st ⟨rfl,rfl⟩
 have w1:IntKind.i64.wrap ((n:Int)-1)=((n-1:Nat):Int):=by rw [Q0k _ (by omega) (by omega)];omega
 simp -dsimp only [go_sem,w1]
 congr 2
 rw [Bool.eq_iff_iff];simp;omega
end Go.Pv
end
section
/-Numbers,intervals,boxes,times out of the deck. -/
set_option maxRecDepth 100000
namespace Go.Pv
open Go.Proofs
theorem y2a (x:Nm) (st:Q0e):PCalls Tryz.prog 99 [.agg (encN x)] st (fun r st'=>r= .agg (encI ⟨x,x⟩)∧st'=st):=by
 refine Q0b none Tryz.func99 rfl fun E=>Q0a ?_
 simp -dsimp only [go_sem]
theorem Y2a (a b:Nm) (st:Q0e) (ha:wN a) (hb:wN b):PCalls Tryz.prog 100 [.agg (encN a),.agg (encN b)] st (fun r st'=>r= .agg (encI (betw a b))∧st'=st):=by
 unfold wN at ha hb
 refine Q0b none Tryz.func100 rfl fun E=>Q0a ?_
 simp -dsimp only [go_sem]
 refine(j1x a b st (by omega) (by omega)).mono ?_
 rintro r st ⟨rfl,rfl⟩
 simp -dsimp only [go_sem]
 refine ck (fun h=> ?_) (fun h=> ?_)
 · have h1:=of_decide_eq_true h
   simp -dsimp only [go_sem]
   rw [betw,if_pos h1]
 · have h1:=of_decide_eq_false h
   simp -dsimp only [go_sem]
   rw [betw,if_neg h1]
end Go.Pv
end
section
/-Numbers,intervals and boxes out of the deck. -/
set_option maxRecDepth 100000
namespace Go.Pv
open Go.Proofs
theorem y3i (l:List UInt64) (i k:Nat) (st:Q0e) (h:atD st k l i) (hi:i≤1000000000000):PCalls Tryz.prog 17 [.gp k 0] st
 (fun r st'=> ∃n:Nat,1≤n∧n≤4∧r= .sc (.int .i64 n)∧st'=st.set k (dk l (i+1))):=by
 refine Q0b none Tryz.func17 rfl fun E=>Q0a ?_
 simp -dsimp only [go_sem]
 refine(Z1n l i k 4 st h hi (by omega) (by omega)).mono ?_
 rintro r st' ⟨rfl,rfl⟩
 have n1:=y2o l i (n:=4) (by omega)
 have x1:IntKind.i64.wrap (1+(nx l i 4:Int))=((1+nx l i 4:Nat):Int):=by rw [show(1+(nx l i 4:Int))=((1+nx l i 4:Nat):Int) from by omega,Q0n _ (by omega)]
 simp -dsimp only [go_sem,x1]
 exact⟨1+nx l i 4,by omega,by omega,rfl⟩
end Go.Pv
end
