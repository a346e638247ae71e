/- Parts of the walk: M84, N140, N141, N142, N143, N144, N145. -/
import Derived.Test.YtofoadghajnglaaGreatDoorZFC
import Derived.Test.YtofoadghajnglaaGreatDoorZBE
import Derived.Test.YtofoadghajnglaaGreatDoorZM
import Derived.Test.YtofoadghajnglaaGreatDoorZEC
import Derived.Test.YtofoadghajnglaaGreatDoorZFB
import Derived.Test.YtofoadghajnglaaGreatDoorZAF
set_option linter.unusedVariables false
set_option linter.unusedSimpArgs false
section
/-Gauss and Jordan:the steps by which a matrix is turned round. No program in it. -/
namespace Go.Pv
def entQ (A:List (List Nm)) (i j:Nat):Nm:=(A.getD i []).getD j default
def pivN (A:List (List Nm)) (k:Nat):Nat→Nat
 | 0=>k
 | m+1=>if cmpR (absN (entQ A (k+1+m) k)) (absN (entQ A (pivN A k m) k))≤0 then pivN A k m else k+1+m
theorem X1n (A:List (List Nm)) (k:Nat): ∀m,k≤pivN A k m∧pivN A k m≤k+m
 | 0=>⟨Nat.le_refl _,Nat.le_refl _⟩
 | m+1=>by
  have:=X1n A k m
  unfold pivN
  split<;>omega
def z0g (d:Nm) (p:Int) (row:List Nm):Bool:=row.all fun c=>(divN c d p false).2==0
def divL (d:Nm) (p:Int) (row:List Nm):List Nm:=row.map fun c=>(divN c d p false).1
def Q1n (x m y:Nm) (p:Int):Nm×Int:=if (Q0s 2 m y p false).2≠0 then Q0s 2 m y p false else Q0s 1 x (Q0s 2 m y p false).1 p false
def q0i (m:Nm) (p:Int) (row other:List Nm):Bool:=(List.range row.length).all fun j=>(Q1n (row.getD j default) m (other.getD j default) p).2==0
def q0w (m:Nm) (p:Int) (row other:List Nm):List Nm:=(List.range row.length).map fun j=>(Q1n (row.getD j default) m (other.getD j default) p).1
structure GJ where
 a:List (List Nm)
 r:List (List Nm)
 e:Int
def K1v (p:Int) (k i:Nat) (x:GJ):GJ:=
 if i=k∨(entQ x.a i k).w= [] then x
 else if (q0i (entQ x.a i k) p (x.a.getD i []) (x.a.getD k [])&&q0i (entQ x.a i k) p (x.r.getD i []) (x.r.getD k []))=true then
  ⟨x.a.set i (q0w (entQ x.a i k) p (x.a.getD i []) (x.a.getD k [])),x.r.set i (q0w (entQ x.a i k) p (x.r.getD i []) (x.r.getD k [])),0⟩
 else⟨x.a,x.r,2⟩
def J0y (p:Int) (k:Nat) (x:GJ):Nat→GJ
 | 0=>x
 | i+1=>if (J0y p k x i).e=0 then K1v p k i (J0y p k x i) else J0y p k x i
def y0d (n k:Nat) (x:GJ):GJ:=⟨X0k [] x.a k (pivN x.a k (n-(k+1))),X0k [] x.r k (pivN x.a k (n-(k+1))),0⟩
def q0z (p:Int) (k:Nat) (x:GJ):GJ:=
 if (z0g (entQ x.a k k) p (x.a.getD k [])&&z0g (entQ x.a k k) p (x.r.getD k []))=true then⟨x.a.set k (divL (entQ x.a k k) p (x.a.getD k [])),x.r.set k (divL (entQ x.a k k) p (x.r.getD k [])),0⟩ else⟨x.a,x.r,2⟩
def x0p (p:Int) (n k:Nat) (x:GJ):GJ:=
 if (entQ x.a (pivN x.a k (n-(k+1))) k).w= [] then⟨x.a,x.r,3⟩
 else if (q0z p k (y0d n k x)).e=0 then J0y p k (q0z p k (y0d n k x)) n
 else q0z p k (y0d n k x)
def X0q (p:Int) (n:Nat) (x:GJ):Nat→GJ
 | 0=>x
 | k+1=>if (X0q p n x k).e=0 then x0p p n k (X0q p n x k) else X0q p n x k
def W0i (n:Nat):List (List Nm):=(List.range n).map fun i=>(List.range n).map fun j=>if i=j then⟨false,0,[1]⟩ else default
def Q0o (a:List (List Nm)) (p:Int):List (List Nm)×Int:=
 if rightQ a=true∧Z0a p=true then(if (X0q p a.length ⟨a,W0i a.length,0⟩ a.length).e=0 then((X0q p a.length ⟨a,W0i a.length,0⟩ a.length).r,0) else([],(X0q p a.length ⟨a,W0i a.length,0⟩ a.length).e)) else([],1)
def sqR (n:Nat) (a:List (List Nm)):Prop:=a.length=n∧ ∀r∈a,r.length=n∧ ∀c∈r,Q0h c=true
theorem sqR.row {n:Nat} {a:List (List Nm)} (h:sqR n a) {i:Nat} (hi:i<n):(a.getD i []).length=n∧ ∀c∈a.getD i [],Q0h c=true:=h.2 _ (Q0r _ _ _ (by rw [h.1];exact hi))
theorem sqR.ent {n:Nat} {a:List (List Nm)} (h:sqR n a) {i j:Nat} (hi:i<n) (hj:j<n):Q0h (entQ a i j)=true:=(h.row hi).2 _ (Q0r _ _ _ (by rw [(h.row hi).1];exact hj))
theorem sqR.set {n:Nat} {a:List (List Nm)} (h:sqR n a) {i:Nat} {r:List Nm} (hr:r.length=n∧ ∀c∈r,Q0h c=true):sqR n (a.set i r):=by
 refine⟨by rw [List.length_set];exact h.1,fun x hx=> ?_⟩
 rcases List.mem_or_eq_of_mem_set hx with hx | rfl
 · exact h.2 x hx
 · exact hr
theorem sqR.swap {n:Nat} {a:List (List Nm)} (h:sqR n a) {i j:Nat} (hi:i<n) (hj:j<n):sqR n (X0k [] a i j):=by
 unfold X0k
 exact(h.set (h.row hj)).set (h.row hi)
end Go.Pv
end
section
/-num.Abs,inv.square,the document's away;quotients by right numbers on both sides. -/
set_option maxRecDepth 100000
namespace Go.Pv
open Go.Proofs
theorem y1s (x:Nm) (st:Q0d) (hw:wN x):PCalls Tryz.prog 218 [.agg (encN x)] st (fun r st'=>r= .agg (encN (absN x))∧st'=st):=by
 unfold wN at hw
 refine Q0b none Tryz.func218 rfl fun E=>Q0a ?_
 simp -dsimp only [go_sem]
 refine(H3u x st (by omega)).mono ?_
 rintro r st ⟨rfl,rfl⟩
 simp -dsimp only [go_sem]
 refine(v1b (ownN x) st).mono ?_
 rintro r st ⟨rfl,rfl⟩
 simp -dsimp only [go_sem]
 unfold absN ownN magN
 split<;>rfl
set_option maxHeartbeats 1000000 in
theorem z2j (a:List (List Nm)) (st:Q0d) (hw:wQs a):PCalls Tryz.prog 88 [.sl .no (encQ a)] st (fun r st'=>r= .sc (.bool (rightQ a))∧st'=st):=by
 obtain⟨hl,hw⟩:=hw
 refine Q0b none Tryz.func88 rfl fun E=>Q0a ?_
 simp -dsimp only [go_sem]
 refine Q0e [true,false,false,false,false,false,false,true,true,true] 0 0 (fun n s=> ∃i,n=a.length-i∧i≤a.length∧(∀j,j<i→H0j (a.getD j []) a.length=true)∧s=⟨[.sl .no (encQ a),.junk,.junk,.junk,.junk,.junk,.junk,.sl .no (encQ a),.sc (.int .i64 a.length),.sc (.int .i64 (i:Nat))]++List.replicate 27 .junk,[],[],st⟩) a.length ?_ ?_
 · simp -dsimp only [go_sem]
   exact⟨0,by omega,by omega,fun j hj=>by omega,rfl⟩
 rintro n s ⟨i,rfl,hi,hr,rfl⟩
 simp -dsimp only [go_sem]
 refine ck (fun h=> ?_) (fun h=> ?_)
 · have hlt:i<a.length:=by have:=of_decide_eq_true h;omega
   have e1:=H0z a i hlt
   have e3:=V0b i (by omega)
   have wi:=hw i hlt
   have wil:=wi.1
   simp -dsimp only [go_sem,e1]
   refine⟨by omega,?_⟩
   refine ck (fun h2=> ?_) (fun h2=> ?_)
   · have hn:=X1v h2
     simp -dsimp only [go_sem]
     have:rightQ a=false:=Bool.eq_false_iff.2 fun e=>hn (by have:=(rightQ_iff.1 e).1 i hlt;unfold H0j at this;simp at this;exact this.2)
     rw [this]
   · have hn:=y0z h2
     simp -dsimp only [go_sem]
     refine Q0e [true,false,false,false,false,false,false,true,true,true,false,false,false,false,false,false,false,false,true,true,true] 0 0 (fun n s=> ∃k,n=(a.getD i []).length-k∧k≤(a.getD i []).length∧(∀j,j<k→Q0h ((a.getD i []).getD j default)=true)∧s=⟨[.sl .no (encQ a),.junk,.junk,.junk,.junk,.junk,.junk,.sl .no (encQ a),.sc (.int .i64 a.length),.sc (.int .i64 (i:Nat)),.junk,.junk,.junk,.junk,.junk,.junk,.junk,.junk,.sl .no (Z0n (a.getD i [])),.sc (.int .i64 (a.getD i []).length),.sc (.int .i64 (k:Nat))]++List.replicate 16 .junk,[],[],st⟩) (a.getD i []).length ?_ ?_
     · simp -dsimp only [go_sem]
       exact⟨0,by omega,by omega,fun j hj=>by omega,rfl⟩
     rintro n s ⟨k,rfl,hk,hrk,rfl⟩
     simp -dsimp only [go_sem]
     refine ck (fun h5=> ?_) (fun h5=> ?_)
     · have hklt:k<(a.getD i []).length:=by have:=of_decide_eq_true h5;omega
       have e2:=G0z (a.getD i []) k hklt
       have e4:=V0b k (by omega)
       have wk:=wi.2 k hklt
       unfold wN at wk
       simp -dsimp only [go_sem,e2]
       refine⟨by omega,?_⟩
       refine(X0p _ st (by omega)).mono ?_
       rintro r st ⟨rfl,rfl⟩
       simp -dsimp only [go_sem]
       refine ck (fun h6=> ?_) (fun h6=> ?_)
       · have hf:Q0h ((a.getD i []).getD k default)=false:=by simpa using h6
         simp -dsimp only [go_sem]
         have:rightQ a=false:=Bool.eq_false_iff.2 fun e=>by
          have:=(rightQ_iff.1 e).1 i hlt
          unfold H0j at this
          rw [Bool.and_eq_true] at this
          rw [(Z2i _ Q0h).1 this.1 k hklt] at hf;cases hf
         rw [this]
       · have ht:Q0h ((a.getD i []).getD k default)=true:=by simpa using h6
         simp -dsimp only [go_sem,e4]
         refine⟨(a.getD i []).length-(k+1),by omega,k+1,rfl,by omega,fun j hj=> ?_,rfl⟩
         by_cases e:j=k
         · subst e;exact ht
         · exact hrk j (by omega)
     · have hge:k=(a.getD i []).length:=by have:=of_decide_eq_false h5;omega
       simp -dsimp only [go_sem]
       refine Q0a ?_
       simp -dsimp only [go_sem,e3]
       refine⟨a.length-(i+1),by omega,i+1,rfl,by omega,fun j hj=> ?_,rfl⟩
       by_cases e:j=i
       · subst e
         unfold H0j
         rw [Bool.and_eq_true]
         exact⟨(Z2i _ Q0h).2 fun b hb=>hrk b (by omega),decide_eq_true hn⟩
       · exact hr j (by omega)
 · have hge:i=a.length:=by have:=of_decide_eq_false h;omega
   subst hge
   simp -dsimp only [go_sem]
   refine Q0a ?_
   simp -dsimp only [go_sem]
   have fin:rightQ a=(decide ((a.length:Int)≥1)&&decide ((a.length:Int)≤4)):=by
    rw [Bool.eq_iff_iff,rightQ_iff,Bool.and_eq_true,decide_eq_true_iff,decide_eq_true_iff]
    exact⟨fun h=>⟨by omega,by omega⟩,fun h=>⟨hr,by omega,by omega⟩⟩
   rw [fin]
   refine gkT (fun h1=> ?_) (fun h1=> ?_)
   · simp -dsimp only [go_sem,h1]
     try rfl
   · simp -dsimp only [go_sem,h1]
     try rfl
end Go.Pv
end
section
/-Quotients of right numbers,by both sides. -/
set_option maxRecDepth 100000
namespace Go.Pv
open Go.Proofs
def Y0r (a b:Nm) (p:Int) (up:Bool):Nm×Int:=if b.w= [] then(default,3) else divN a b p up
theorem j1k (a b:Nm) (p:Int) (up:Bool):Q0h (Y0r a b p up).1=true:=by
 unfold Y0r
 split
 · decide
 · exact J0z (y0n (Q0x (v0x _ _ _) _ _))
theorem V2m (a b:Nm) (p:Int) (up:Bool) (st:Q0d) (ha:Q0h a=true) (hb:Q0h b=true) (hp:Z0a p=true):
 PCalls Tryz.prog 137 [.agg (encN a),.agg (encN b),.sc (.int .i64 p),.sc (.bool up)] st (fun r st'=>r= .tup [.agg (encN (Y0r a b p up).1),.sc (.int .i64 (Y0r a b p up).2)]∧st'=st):=by
 by_cases h0:b.w= []
 · have wa:=Z0c ha
   have wb:=Z0c hb
   unfold wN at wa wb
   have hq:Y0r a b p up=(default,3):=by unfold Y0r;rw [if_pos h0]
   rw [hq]
   refine Q0b none Tryz.func137 rfl fun E=>Q0a ?_
   simp -dsimp only [go_sem]
   refine(X0p a _ (by omega)).mono ?_
   rintro r st ⟨rfl,rfl⟩
   rw [ha]
   simp -dsimp only [go_sem]
   refine(X0p b _ (by omega)).mono ?_
   rintro r st ⟨rfl,rfl⟩
   rw [hb]
   simp -dsimp only [go_sem]
   refine(Y0m _ _).mono ?_
   rintro r st ⟨rfl,rfl⟩
   rw [hp]
   have hbl:((b.w.length:Int)==0)=true:=by rw [h0];rfl
   simp -dsimp only [go_sem,hbl]
   try rfl
 · have hq:Y0r a b p up=divN a b p up:=by unfold Y0r;rw [if_neg h0]
   rw [hq]
   exact X1b a b p up st ha hb hp (Nat.pos_of_ne_zero fun e=>h0 ((X0b hb).1 e))
end Go.Pv
end
section
/-inv.copied,inv.ones:matrices that lie in the store. -/
set_option maxRecDepth 100000
namespace Go.Pv
open Go.Proofs
theorem j1e (x:List Nm):(Z0n x).all (fun x=>(x.cells.length==3)&&x.cells.all PV.cellOK)=true:=by
 simp only [Z0n,List.all_eq_true,List.mem_map]
 rintro _ ⟨c,_,rfl⟩
 rfl
theorem H0h {α:Type} (d:α) (l:List α) {i:Nat} (h:i<l.length):l.take (i+1)=l.take i++ [l.getD i d]:=by
 rw [List.take_add_one,List.getElem?_eq_getElem h,List.getD_eq_getElem?_getD,List.getElem?_eq_getElem h];rfl
theorem k0c (a:List (List Nm)) {i:Nat} (h:i<a.length):(a.take (i+1)).map rowC=(a.take i).map rowC++ [rowC (a.getD i [])]:=by
 rw [H0h [] a h,List.map_append];rfl
theorem q1n {x:List Nm} (h0:0<x.length) (h4:x.length≤4):GrowOK [] 0 0 (Z0n x) { id:=33,sz:=3,by_:=40,agg:=true,zok:=true,u8:=false } :=
 ⟨rfl,by decide,rfl,by rw [V0t];omega,by rw [V0t];show(0+x.length)*40≤_;omega,j1e x,by rw [V0t];exact h0⟩
theorem q1o (st:Q0d) (x:List Nm) (R:List PV):RowAt (st++ [flat (Z0n x)++R]) st.length (rowC x):=by
 refine⟨by simp,R,?_⟩
 rw [Q0k _ _ _ _ (Nat.le_refl _),Nat.sub_self];rfl
theorem y0x {P:Program} {f:FuncId} {args:List PV} {st:Q0d} {a:List (List Nm)} (h0:0<a.length) (hr: ∀r∈a,r.length=a.length)
 (h:PCalls P f args st fun r st'=> ∃ids cs X,st'=st++X∧Built st' st.length a.length a.length r ids cs (a.map rowC)):
 PCalls P f args st (fun r st'=> ∃A ids X,r= .ms true A 0 a.length∧st'=st++X∧QO st' A ids a∧st.length≤A∧ ∀i∈ids,st.length≤i):=by
 refine PCalls.unGr h ?_
 rintro r st' ⟨ids,cs,X,rfl,hB⟩
 obtain⟨A,cap,R,rfl,hA,hAl,hAc,hM,hU⟩:=hB.done h0
 refine⟨.ms true A 0 a.length,_,by rw [List.length_set],rfl,rfl,.gr _ _ _,hU,A,ids,X.set (A-st.length) ((ids.map fun i=>PV.ms true i 0 a.length)++R),rfl,?_,⟨hr,hM⟩,hA,hB.ge⟩
 rw [List.set_append_right _ _ hA]
set_option maxHeartbeats 1000000 in
theorem k1p (a:List (List Nm)) (st:Q0d) (h0:0<a.length) (h4:a.length≤4) (hr: ∀r∈a,r.length=a.length):
 PCalls Tryz.prog 90 [.sl .no (encQ a)] st (fun r st'=> ∃A ids X,r= .ms true A 0 a.length∧st'=st++X∧QO st' A ids a∧st.length≤A∧ ∀i∈ids,st.length≤i):=by
 refine y0x h0 hr ?_
 refine Q0b none Tryz.func90 rfl fun E=>Q0n (Q0a ?_)
 simp -dsimp only [go_sem]
 refine Q0n (Q0a ?_)
 simp -dsimp only [go_sem]
 refine Q0n (Q0a ?_)
 simp -dsimp only [go_sem]
 refine J0o [false,false,false,true,false,false,true,true,true] 0 0
  (fun m s=> ∃i out ids cs X,m=a.length-i∧i≤a.length∧Built (st++X) st.length a.length i out ids cs ((a.take i).map rowC)∧
   s=⟨[.junk,.junk,.junk,out,.junk,.junk,.sl .no (encQ a),.sc (.int .i64 a.length),.sc (.int .i64 (i:Nat))]++List.replicate 10 .junk,[],[],st++X⟩) a.length ?_ ?_
 · simp -dsimp only [go_sem]
   refine⟨0,.sl .full [],[],[],[],by omega,by omega,?_,by simp⟩
   rw [List.append_nil]
   exact Built.zero st _
 rintro m s ⟨i,out,ids,cs,X,rfl,hi,hB,rfl⟩
 refine Q0n (Q0a ?_)
 simp -dsimp only [go_sem]
 refine Q0n (Q0a ?_)
 simp -dsimp only [go_sem]
 refine ck (fun h=> ?_) (fun h=> ?_)
 · have hlt:i<a.length:=by have:=of_decide_eq_true h;omega
   have e1:=H0z a i hlt
   have e3:=V0b i (by omega)
   have hri:=hr _ (Q0r a i [] hlt)
   simp -dsimp only [go_sem]
   refine Q0n (V0e ?_)
   refine Q0n (Q0a ?_)
   simp -dsimp only [go_sem,e1]
   refine⟨by omega,?_⟩
   refine k0n [false,false,true,false,true] ?_
   rcases hB.out with ⟨rfl,rfl⟩ | ⟨hi0,A,cap,R,rfl,_⟩
   · simp -dsimp only [go_sem]
     refine⟨q1n (by omega) (by omega),fun cap' R hc' hR=>⟨GrowOK.mk_one rfl (by decide) rfl (by omega) (by omega) rfl rfl,fun cap2 R2 hc2 hR2=> ?_⟩⟩
     refine Q0a ?_
     simp -dsimp only [go_sem]
     have hY:RowAt (st++X++ [flat (Z0n (a.getD 0 []))++R]) (st.length+X.length) (rowC (a.getD 0 [])):=by have:=q1o (st++X) (a.getD 0 []) R;rwa [List.length_append] at this
     have hB2:=Built.first hB (Y:=st++X++ [flat (Z0n (a.getD 0 []))++R]) (c:= .gr (st.length+X.length) (a.getD 0 []).length cap') (by simp) (by rw [hri];exact .gr _ _ _) hY (by simp) hc2 (by rw [hR2];omega)
     obtain⟨X2,hX2⟩: ∃X2,st++X++ [flat (Z0n (a.getD 0 []))++R]++ [flat [PV.gr (st.length+X.length) (a.getD 0 []).length cap']++R2]=st++X2:=⟨_,by rw [List.append_assoc,List.append_assoc]⟩
     rw [hX2] at hB2⊢
     rw [←k0c a hlt] at hB2
     refine⟨a.length-(0+1),by omega,0+1,_,_,_,X2,rfl,by omega,hB2,?_⟩
     · rw [e3,show(st++X++ [flat (Z0n (a.getD 0 []))++R]).length=st.length+X.length+1 by simp;omega]
   · simp -dsimp only [go_sem]
     obtain⟨b1,b2,b3⟩:=hB.at hi0
     refine⟨q1n (by omega) (by omega),fun cap' R hc' hR=> ?_⟩
     have gA:(st++X++ [flat (Z0n (a.getD i []))++R]).getD A []=(st++X).getD A []:=Q0i _ _ _ _ b2
     refine⟨GrowOK.mk_one rfl (by decide) (by rw [gA,b3];omega) (by omega) (by omega) rfl rfl,fun A' cap2 st' hG=> ?_⟩
     refine Q0a ?_
     simp -dsimp only [go_sem]
     have hY:RowAt (st++X++ [flat (Z0n (a.getD i []))++R]) (st.length+X.length) (rowC (a.getD i [])):=by have:=q1o (st++X) (a.getD i []) R;rwa [List.length_append] at this
     have hB2:=Built.grow hB hi0 (Y:=st++X++ [flat (Z0n (a.getD i []))++R]) (c:= .gr (st.length+X.length) (a.getD i []).length cap') (by simp) (fun x hx=>Q0i _ _ _ _ hx) (by rw [hri];exact .gr _ _ _) hY (by simp) hG
     obtain⟨X2,rfl⟩: ∃X2,st'=st++X2:=by
      rw [List.append_assoc] at hG
      exact hG.app b1
     rw [←k0c a hlt] at hB2
     refine⟨a.length-(i+1),by omega,i+1,_,_,_,X2,rfl,by omega,hB2,?_⟩
     · rw [e3]
 · have hge:i=a.length:=by have:=of_decide_eq_false h;omega
   subst hge
   simp -dsimp only [go_sem]
   refine Q0a ?_
   rcases hB.out with ⟨hz,rfl⟩ | ⟨hi0,A,cap,R,rfl,_⟩
   · omega
   simp -dsimp only [go_sem]
   rw [List.take_length] at hB
   exact⟨ids,cs,X,rfl,hB⟩
end Go.Pv
end
section
/-inv:greatest,divide,less. -/
set_option maxRecDepth 100000
namespace Go.Pv
open Go.Proofs
theorem QO.top {st:Q0d} {A:Nat} {ids:List Nat} {a:List (List Nm)} (h:QO st A ids a) {i:Nat} (hi:i<a.length):(st.getD A []).getD i .junk= .ms true (ids.getD i 0) 0 a.length∧i+1≤(st.getD A []).length:=by
 obtain⟨R,hR⟩:=h.2.top.2
 have hii:i<ids.length:=by rw [h.2.lid];exact hi
 rw [hR]
 refine⟨?_,by rw [List.length_append,List.length_map];omega⟩
 rw [Q0i _ _ _ _ (by rw [List.length_map];exact hii),List.getD_eq_getElem?_getD,List.getElem?_map,List.getD_eq_getElem?_getD,List.getElem?_eq_getElem hii];rfl
theorem QO.rowAt {st:Q0d} {A:Nat} {ids:List Nat} {a:List (List Nm)} (h:QO st A ids a) {i:Nat} (hi:i<a.length):RowAt st (ids.getD i 0) (rowC (a.getD i []))∧(a.getD i []).length=a.length:=by
 have h1:=h.2.row i hi
 have e:(a.map rowC).getD i []=rowC (a.getD i []):=by
  rw [List.getD_eq_getElem?_getD,List.getElem?_map,List.getD_eq_getElem?_getD,List.getElem?_eq_getElem hi];rfl
 rw [e] at h1
 exact⟨h1,h.1 _ (Q0r _ _ _ hi)⟩
theorem RowAt.num {st:Q0d} {k:Nat} {x:List Nm} (h:RowAt st k (rowC x)) {j:Nat} (hj:j<x.length):((st.getD k []).drop (j*3)).take 3=encN (x.getD j default)∧j*3+3≤(st.getD k []).length∧(st.getD k []).getD (j*3+2) .junk= .sl .no (encW (x.getD j default).w):=by
 obtain⟨R,hR⟩:=h.2
 rw [hR]
 refine⟨G0l x j R hj,?_,H3e x j R hj⟩
 rw [List.length_append,V0j];omega
theorem QO.num {st:Q0d} {A:Nat} {ids:List Nat} {a:List (List Nm)} (h:QO st A ids a) {i j:Nat} (hi:i<a.length) (hj:j<a.length):((st.getD (ids.getD i 0) []).drop (j*3)).take 3=encN (entQ a i j)∧j*3+3≤(st.getD (ids.getD i 0) []).length∧(st.getD (ids.getD i 0) []).getD (j*3+2) .junk= .sl .no (encW (entQ a i j).w):=by
 obtain⟨h1,h2⟩:=h.rowAt hi
 exact h1.num (by rw [h2];exact hj)
set_option maxHeartbeats 1000000 in
theorem U1k (a:List (List Nm)) (A B:Nat) (ids:List Nat) (p:Int) (k:Nat) (st:Q0d) (h:QO st A ids a) (hk:k<a.length) (h4:a.length≤4) (hw: ∀i j,i<a.length→j<a.length→Q0h (entQ a i j)=true):
 PCalls Tryz.prog 151 [.agg [.ms true A 0 a.length,.ms true B 0 a.length,.sc (.int .i64 p)],.sc (.int .i64 (k:Nat))] st (fun r st'=>r= .sc (.int .i64 (pivN a k (a.length-(k+1)):Nat))∧st'=st):=by
 have x1:=V0b k (by omega)
 refine Q0b none Tryz.func151 rfl fun E=>Q0a ?_
 simp -dsimp only [go_sem,x1]
 refine Q0e [false,true,true,false,false,true,true] 1 0
  (fun m s=> ∃c,m=a.length-(k+1)-c∧c≤a.length-(k+1)∧
   s=⟨[.junk,.sc (.int .i64 (k:Nat)),.lp 0 0,.junk,.junk,.sc (.int .i64 (pivN a k c:Nat)),.sc (.int .i64 (k+1+c:Nat))]++List.replicate 32 .junk,[[.ms true A 0 a.length,.ms true B 0 a.length,.sc (.int .i64 p)]],[],st⟩) (a.length-(k+1)) ?_ ?_
 · simp -dsimp only [go_sem]
   exact⟨0,by omega,by omega,rfl⟩
 rintro m s ⟨c,rfl,hc,rfl⟩
 have hp:=X1n a k c
 simp -dsimp only [go_sem]
 refine ck (fun h1=> ?_) (fun h1=> ?_)
 · have hlt:k+1+c<a.length:=by have:=of_decide_eq_true h1;omega
   have x2:=V0b (k+1+c) (by omega)
   obtain⟨t1,t2⟩:=h.top hlt
   obtain⟨t3,t4⟩:=h.top (show pivN a k c<a.length by omega)
   obtain⟨n1,n2,_⟩:=h.num hlt hk
   obtain⟨n3,n4,_⟩:=h.num (show pivN a k c<a.length by omega) hk
   have w1:=Z0c (hw _ _ hlt hk)
   have w2:=Z0c (hw _ _ (show pivN a k c<a.length by omega) hk)
   simp -dsimp only [go_sem]
   refine Q0p Z0y 39 (.step 0 [] (.step 1 [] (.step 2 [] (.step 3 [] (.step 4 [] (.step 5 [] (.step 6 [] (.step 7 [] (.step 9 [] (.step 10 [] (.step 11 [] (.step 12 [] (.step 13 [] (.step 14 [] (.step 15 [] (.step 16 [] (.step 8 [1,10,13,16] (.step 17 [1,4,10] (.step 18 [1,4,10,13] (.step 19 [] (.done))))))))))))))))))))) (by decide+kernel) (by simp) ?_
   simp -dsimp only [go_sem,t1,t3,n1,n3]
   refine⟨⟨by omega,hlt⟩,t2,⟨by omega,by omega⟩,n2,⟨by omega,by omega⟩,t4,⟨by omega,by omega⟩,n4,?_⟩
   have r1:=Z0c (Y1c (entQ a (k+1+c) k))
   have r2:=Z0c (Y1c (entQ a (pivN a k c) k))
   unfold wN at r1 r2
   refine(y1s _ _ w1).mono ?_
   rintro r st' ⟨rfl,rfl⟩
   simp -dsimp only [go_sem]
   refine⟨⟨⟨t4,t3.symm⟩,n4,by rw [n3];rfl⟩,?_⟩
   refine(y1s _ _ w2).mono ?_
   rintro r st' ⟨rfl,rfl⟩
   simp -dsimp only [go_sem]
   refine⟨⟨t2,t1.symm⟩,?_⟩
   refine(Y1w _ _ _ (by omega) (by omega)).mono ?_
   rintro r st' ⟨rfl,rfl⟩
   simp -dsimp only [go_sem]
   refine⟨⟨⟨t2,t1.symm⟩,t4,t3.symm⟩,?_⟩
   refine ck (fun h2=> ?_) (fun h2=> ?_)
   · have hle:cmpR (absN (entQ a (k+1+c) k)) (absN (entQ a (pivN a k c) k))≤0:=of_decide_eq_true h2
     have hpv:pivN a k (c+1)=pivN a k c:=by rw [pivN,if_pos hle]
     simp -dsimp only [go_sem,x2]
     refine⟨a.length-(k+1)-(c+1),by omega,c+1,rfl,by omega,?_⟩
     rw [hpv]
     try rfl
   · have hle: ¬cmpR (absN (entQ a (k+1+c) k)) (absN (entQ a (pivN a k c) k))≤0:=of_decide_eq_false h2
     have hpv:pivN a k (c+1)=k+1+c:=by rw [pivN,if_neg hle]
     simp -dsimp only [go_sem,x2]
     refine⟨a.length-(k+1)-(c+1),by omega,c+1,rfl,by omega,?_⟩
     rw [hpv]
     try rfl
 · have hge:c=a.length-(k+1):=by have:=of_decide_eq_false h1;omega
   subst hge
   simp -dsimp only [go_sem]
   refine Q0a ?_
   simp -dsimp only [go_sem]
theorem G2q (d:Nm) (p:Int) (x:List Nm) {j:Nat} (hj:j<x.length):(divL d p (x.take j)++x.drop j).length=x.length∧(divL d p (x.take j)++x.drop j).getD j default=x.getD j default∧
 (divL d p (x.take j)++x.drop j).set j (divN (x.getD j default) d p false).1=divL d p (x.take (j+1))++x.drop (j+1):=by
 have hl:(divL d p (x.take j)).length=j:=by unfold divL;rw [List.length_map,List.length_take];omega
 refine⟨by rw [List.length_append,hl,List.length_drop];omega,?_,?_⟩
 · rw [Q0k _ _ _ _ (by omega),hl,Nat.sub_self,List.getD_eq_getElem?_getD,List.getElem?_drop,Nat.add_zero,←List.getD_eq_getElem?_getD]
 · rw [List.set_append_right _ _ (by omega),hl,Nat.sub_self]
   have e1:x.drop j=x.getD j default::x.drop (j+1):=by
    rw [List.getD_eq_getElem?_getD,List.getElem?_eq_getElem hj];exact List.drop_eq_getElem_cons hj
   rw [e1,List.set_cons_zero,H0h default x hj]
   unfold divL
   rw [List.map_append,List.append_assoc];rfl
theorem J2t {d:Nm} {p:Int} {x:List Nm} {j:Nat} (hj:j<x.length) (h:z0g d p (x.take j)=true):z0g d p (x.take (j+1))=decide ((divN (x.getD j default) d p false).2=0):=by
 rw [H0h default x hj]
 unfold z0g at h⊢
 rw [List.all_append,h,Bool.true_and]
 simp only [List.all_cons,List.all_nil,Bool.and_true]
 by_cases e:(divN (x.getD j default) d p false).2=0
 · rw [e];rfl
 · rw [decide_eq_false e];simpa using e
theorem G2p {d:Nm} {p:Int} {x:List Nm} {j:Nat} (hj:j<x.length) (h:(divN (x.getD j default) d p false).2≠0):z0g d p x=false:=by
 refine Bool.eq_false_iff.2 fun e=>h ?_
 unfold z0g at e
 rw [List.all_eq_true] at e
 simpa using e _ (Q0r x j default hj)
set_option maxHeartbeats 1000000 in
theorem Q2v (x:List Nm) (d:Nm) (A B n k:Nat) (R:List PV) (p:Int) (st:Q0d) (hk:k<st.length) (hg:st.getD k []=rowC x++R) (hx:x.length≤4) (hr: ∀c∈x,Q0h c=true) (hd:Q0h d=true) (hd0:d.w≠ []) (hp:Z0a p=true):
 PCalls Tryz.prog 153 [.agg [.ms true A 0 n,.ms true B 0 n,.sc (.int .i64 p)],.ms true k 0 x.length,.agg (encN d)] st
 (fun r st'=>(z0g d p x=true∧r= .sc (.int .i64 0)∧st'=st.set k (rowC (divL d p x)++R))∨(z0g d p x=false∧r= .sc (.int .i64 2)∧ ∃y,y.length=x.length∧st'=st.set k (rowC y++R))):=by
 have hdv:0<valW d.w:=Nat.pos_of_ne_zero fun e=>hd0 ((X0b hd).1 e)
 refine Q0b none Tryz.func153 rfl fun E=>Q0a ?_
 have hxl:=V0j x
 simp -dsimp only [go_sem]
 refine Q0e [false,true,false,true,false,true,false,false,false,false,false,true,true] 2 0
  (fun m s=> ∃j,m=x.length-j∧j≤x.length∧z0g d p (x.take j)=true∧
   s=⟨[.junk,.ms true k 0 x.length,.junk,.lp 0 0,.junk,.lp 1 0,.junk,.junk,.junk,.junk,.junk,.sc (.int .i64 x.length),.sc (.int .i64 (j:Nat))]++List.replicate 21 .junk,[[.ms true A 0 n,.ms true B 0 n,.sc (.int .i64 p)],encN d],[],st.set k (rowC (divL d p (x.take j)++x.drop j)++R)⟩) x.length ?_ ?_
 · simp -dsimp only [go_sem]
   refine⟨0,by omega,by omega,by simp [z0g],?_⟩
   rw [Y1l hk (by rw [hg];simp [divL])]
   rfl
 rintro m s ⟨j,rfl,hj,ho,rfl⟩
 simp -dsimp only [go_sem]
 refine ck (fun h1=> ?_) (fun h1=> ?_)
 · have hlt:j<x.length:=by have:=of_decide_eq_true h1;omega
   have x2:=V0b j (by omega)
   obtain⟨d1,d2,d3⟩:=G2q d p x hlt
   have hok:=J2t hlt ho
   generalize hD:divL d p (x.take j)++x.drop j=D at*
   have gst:=V1l (rowC D++R) hk
   have tk:=G0l D j R (by omega)
   rw [d2] at tk
   have hDl:=V0j D
   have hle:j*3+3≤(rowC D).length+R.length:=by omega
   have ov:=k0d D j R (divN (x.getD j default) d p false).1 (by omega)
   rw [d3] at ov
   unfold encN at ov
   have hxr:=hr _ (Q0r x j default hlt)
   simp -dsimp only [go_sem]
   refine Q0p Z0y 34 (.step 0 [] (.step 1 [] (.step 2 [] (.step 3 [] (.step 4 [] (.step 5 [] (.step 6 [] (.alt (.step 7 [] (.step 8 [] (.step 9 [] (.step 10 [] (.step 11 [3,4,6] (.step 12 [] (.step 13 [] (.done)))))))) (.step 11 [3,4,6] (.step 7 [] (.step 8 [] (.step 9 [] (.step 10 [] (.step 12 [] (.step 13 [] (.done)))))))))))))))) (by decide+kernel) (by simp) ?_
   simp -dsimp only [go_sem,gst,tk]
   refine⟨⟨by omega,hlt⟩,hle,?_⟩
   refine And.intro ?_ ?_
   all_goals
    first | refine(X1b _ _ p false _ hxr hd hp hdv).mono ?_ | (refine⟨hle,?_⟩;refine(X1b _ _ p false _ hxr hd hp hdv).mono ?_)
    rintro r st' ⟨rfl,rfl⟩
    by_cases he:(divN (x.getD j default) d p false).2=0
    · rw [he] at hok⊢
      simp -dsimp only [go_sem,gst,tk,x2,ov,List.set_set]
      try refine⟨hle,?_⟩
      refine⟨⟨by omega,hlt⟩,⟨hle,by omega⟩,x.length-(j+1),by omega,j+1,rfl,by omega,hok,rfl⟩
    · have h2:(divN (x.getD j default) d p false).2=2:=(j1z _).resolve_left he
      rw [h2]
      simp -dsimp only [go_sem,gst,tk]
      try refine⟨hle,?_⟩
      exact .inr ⟨G2p hlt he,D,d1,rfl⟩
 · have hge:j=x.length:=by have:=of_decide_eq_false h1;omega
   subst hge
   rw [List.take_length] at ho
   simp -dsimp only [go_sem]
   refine Q0a ?_
   simp -dsimp only [go_sem,ho]
   refine .inl ?_
   rw [List.take_length,List.drop_length,List.append_nil]
end Go.Pv
end
section
/-The document's copied;inv.ones and the document's One,as matrices that lie in the store. -/
set_option maxRecDepth 100000
namespace Go.Pv
open Go.Proofs
theorem y2t (n i:Nat) (hi:i<n):over (repC n (encN default)) (i*3) (encN oneN)=rowC (rowQ n i):=by
 rw [H3g]
 have:=k0d (List.replicate n default) i [] oneN (by simp;exact hi)
 rw [List.append_nil,List.append_nil] at this
 exact this
theorem U2p {n i:Nat} (hi:i<n):(over (repC n [PV.sc (.bool false),.sc (.int .i64 0),.sl .full []]) (i*3) (encN oneN)).map PV.forget2=rowC (rowQ n i):=by
 rw [x2z,x2a]
 exact y2t n i hi
theorem J4v (n i:Nat):fzOK (over (repC n [PV.sc (.bool false),.sc (.int .i64 0),.sl .full []]) (i*3) (encN oneN))=true:=K3s (K3r rfl) rfl
theorem x2b (n:Nat) (z:List PV):(repC n z).length=n*z.length:=by
 unfold repC
 simp
theorem w1n (n i:Nat):(rowQ n i).length=n:=by simp [rowQ]
theorem j2e (n i:Nat) (h:i<n):(oneL n).getD i []=rowQ n i:=by
 unfold oneL
 rw [List.getD_eq_getElem?_getD,List.getElem?_map,List.getElem?_range h];rfl
theorem j2d (n:Nat): ∀r∈oneL n,r.length=(oneL n).length:=fun r hr=>by
 rw [W0h]
 simp only [oneL,List.mem_map] at hr
 obtain⟨i,_,rfl⟩:=hr
 exact w1n n i
theorem J2n (st:Q0d) (x:List Nm):RowAt (st++ [rowC x]) st.length (rowC x):=by
 refine⟨by simp,[],?_⟩
 rw [Q0k _ _ _ _ (Nat.le_refl _),Nat.sub_self,List.append_nil];rfl
set_option maxHeartbeats 1000000 in
theorem U2i (n:Nat) (st:Q0d) (h0:0<n) (h4:n≤4):
 PCalls Tryz.prog 91 [.sc (.int .i64 n)] st (fun r st'=> ∃A ids X,r= .ms true A 0 (oneL n).length∧st'=st++X∧QO st' A ids (oneL n)∧st.length≤A∧ ∀i∈ids,st.length≤i):=by
 have hl:=W0h n
 refine y0x (by omega) (j2d n) ?_
 refine Q0b none Tryz.func91 rfl fun E=>Q0n (Q0a ?_)
 simp -dsimp only [go_sem]
 refine Q0n (Q0a ?_)
 simp -dsimp only [go_sem]
 refine Q0n (Q0a ?_)
 simp -dsimp only [go_sem]
 refine J0o [true,false,false,true,false,false,true,true] 0 0
  (fun m s=> ∃i out ids cs X,m=n-i∧i≤n∧Built (st++X) st.length (oneL n).length i out ids cs (((oneL n).take i).map rowC)∧
   s=⟨[.sc (.int .i64 n),.junk,.junk,out,.junk,.junk,.sc (.int .i64 n),.sc (.int .i64 (i:Nat))]++List.replicate 14 .junk,[],[],st++X⟩) n ?_ ?_
 · simp -dsimp only [go_sem]
   refine⟨0,.sl .full [],[],[],[],by omega,by omega,?_,by simp⟩
   rw [List.append_nil]
   exact Built.zero st _
 rintro m s ⟨i,out,ids,cs,X,rfl,hi,hB,rfl⟩
 refine Q0n (Q0a ?_)
 simp -dsimp only [go_sem]
 refine Q0n (Q0a ?_)
 simp -dsimp only [go_sem]
 refine ck (fun h=> ?_) (fun h=> ?_)
 · have hlt:i<n:=by have:=of_decide_eq_true h;omega
   have e3:=V0b i (by omega)
   have hov:=y2t n i hlt
   have hog:=j2e n i hlt
   simp -dsimp only [go_sem]
   refine Q0n (V0e ?_)
   refine Q0n (Q0a ?_)
   simp -dsimp only [go_sem]
   refine Q0n (Q0a ?_)
   simp -dsimp only [go_sem]
   refine⟨⟨by omega,by omega,by omega⟩,?_⟩
   refine Q0n (Q0a ?_)
   simp -dsimp only [go_sem]
   refine(q0u _).mono ?_
   rintro r st' ⟨rfl,rfl⟩
   simp -dsimp only [go_sem]
   have hrl:=x2b n [PV.sc (.bool false),.sc (.int .i64 0),.sl .full []]
   simp only [List.length_cons,List.length_nil] at hrl
   refine⟨⟨by omega,hlt⟩,⟨by omega,by omega⟩,?_⟩
   have hgv:(over (repC n [PV.sc (.bool false),.sc (.int .i64 0),.sl .full []]) (i*3) [PV.sc (.bool oneN.neg),.sc (.int .i64 oneN.exp),.sl .no (encW oneN.w)]).map PV.forget2=rowC (rowQ n i):=U2p hlt
   have hfz:=J4v n i
   have hne:over (repC n [PV.sc (.bool false),.sc (.int .i64 0),.sl .full []]) (i*3) (encN oneN)≠ []:=fun e=>by
    have h2:=V0j (rowQ n i)
    rw [←U2p hlt,e,w1n] at h2
    simp at h2;omega
   have hgl:=J2n (st++X) (rowQ n i)
   rw [List.length_append] at hgl
   rcases hB.out with ⟨rfl,rfl⟩ | ⟨hi0,A,cap,R,rfl,_⟩
   · refine x0e 0 hfz hne ?_
     rw [Nat.zero_mul] at hgv
     simp -dsimp only [go_sem,hgv]
     refine k0n [false,false,false,true] ?_
     simp -dsimp only [go_sem]
     refine⟨GrowOK.mk_one rfl (by decide) rfl (by omega) (by omega) rfl rfl,fun cap2 R2 hc2 hR2=> ?_⟩
     refine Q0a ?_
     simp -dsimp only [go_sem]
     have hB2:=Built.first hB (Y:=st++X++ [rowC (rowQ n 0)]) (c:= .ms true (st.length+X.length) 0 n) (by simp) (by rw [hl];exact .same _) hgl (by simp) hc2 (by rw [hR2];omega)
     obtain⟨X2,hX2⟩: ∃X2,st++X++ [rowC (rowQ n 0)]++ [flat [PV.ms true (st.length+X.length) 0 n]++R2]=st++X2:=⟨_,by rw [List.append_assoc,List.append_assoc]⟩
     rw [hX2] at hB2⊢
     have hlen:(st++X++ [rowC (rowQ n 0)]).length=st.length+X.length+1:=by simp;omega
     rw [hlen,←hog,←k0c (oneL n) (by omega)] at hB2
     refine⟨n-(0+1),by omega,0+1,_,_,_,X2,rfl,by omega,hB2,?_⟩
     rw [e3]
   · refine x0e 0 hfz hne ?_
     simp -dsimp only [go_sem,hgv]
     refine k0n [false,false,false,true] ?_
     simp -dsimp only [go_sem]
     obtain⟨b1,b2,b3⟩:=hB.at hi0
     have gA:(st++X++ [rowC (rowQ n i)]).getD A []=(st++X).getD A []:=Q0i _ _ _ _ b2
     refine⟨GrowOK.mk_one rfl (by decide) (by rw [gA,b3];omega) (by omega) (by omega) rfl rfl,fun A' cap2 st' hG=> ?_⟩
     refine Q0a ?_
     simp -dsimp only [go_sem]
     have hB2:=Built.grow hB hi0 (Y:=st++X++ [rowC (rowQ n i)]) (c:= .ms true (st.length+X.length) 0 n) (by simp) (fun x hx=>Q0i _ _ _ _ hx) (by rw [hl];exact .same _) hgl (by simp) hG
     obtain⟨X2,rfl⟩: ∃X2,st'=st++X2:=by
      rw [List.append_assoc] at hG
      exact hG.app b1
     rw [←hog,←k0c (oneL n) (by omega)] at hB2
     refine⟨n-(i+1),by omega,i+1,_,_,_,X2,rfl,by omega,hB2,?_⟩
     rw [e3]
 · have hge:i=n:=by have:=of_decide_eq_false h;omega
   subst hge
   simp -dsimp only [go_sem]
   refine Q0a ?_
   rcases hB.out with ⟨hz,rfl⟩ | ⟨hi0,A,cap,R,rfl,_⟩
   · omega
   simp -dsimp only [go_sem]
   rw [List.take_of_length_le (by omega)] at hB
   rw [hl] at hB⊢
   exact⟨ids,cs,X,rfl,hB⟩
end Go.Pv
end
section
/-inv.pair.less:a row less another one,times a number. -/
set_option maxRecDepth 100000
namespace Go.Pv
open Go.Proofs
theorem j1t {α:Type} (d:α) (F x:List α) {j:Nat} (hl:F.length=x.length) (hj:j<x.length):(F.take j++x.drop j).length=x.length∧(F.take j++x.drop j).getD j d=x.getD j d∧(F.take j++x.drop j).set j (F.getD j d)=F.take (j+1)++x.drop (j+1):=by
 have hlt:(F.take j).length=j:=by rw [List.length_take];omega
 refine⟨by rw [List.length_append,hlt,List.length_drop];omega,?_,?_⟩
 · rw [Q0k _ _ _ _ (by omega),hlt,Nat.sub_self,List.getD_eq_getElem?_getD,List.getElem?_drop,Nat.add_zero,←List.getD_eq_getElem?_getD]
 · rw [List.set_append_right _ _ (by omega),hlt,Nat.sub_self]
   have e1:x.drop j=x.getD j d::x.drop (j+1):=by
    rw [List.getD_eq_getElem?_getD,List.getElem?_eq_getElem hj];exact List.drop_eq_getElem_cons hj
   rw [e1,List.set_cons_zero,H0h d F (by omega),List.append_assoc];rfl
theorem Q1a (m:Nm) (p:Int) (x y:List Nm):(q0w m p x y).length=x.length:=by simp [q0w]
theorem Y2y (m:Nm) (p:Int) (x y:List Nm) {j:Nat} (h:j<x.length):(q0w m p x y).getD j default=(Q1n (x.getD j default) m (y.getD j default) p).1:=by
 unfold q0w
 exact v0m (fun j=>(Q1n (x.getD j default) m (y.getD j default) p).1) _ _ h
theorem W1b {m:Nm} {p:Int} {x y:List Nm} {j:Nat} (hj:j<x.length) (h:(Q1n (x.getD j default) m (y.getD j default) p).2≠0):q0i m p x y=false:=by
 refine Bool.eq_false_iff.2 fun e=>h ?_
 unfold q0i at e
 rw [List.all_eq_true] at e
 simpa using e j (List.mem_range.2 hj)
theorem J2d {m:Nm} {p:Int} {x y:List Nm} (h: ∀j,j<x.length→(Q1n (x.getD j default) m (y.getD j default) p).2=0):q0i m p x y=true:=by
 unfold q0i
 rw [List.all_eq_true]
 intro j hj
 rw [h j (List.mem_range.1 hj)];rfl
set_option maxHeartbeats 1000000 in
theorem q1u (x y:List Nm) (m:Nm) (A B n k o:Nat) (R R2:List PV) (p:Int) (st:Q0d) (hk:k<st.length) (ho:o<st.length) (hne:k≠o) (hg:st.getD k []=rowC x++R) (hgo:st.getD o []=rowC y++R2) (hx:x.length≤4) (hxy:x.length=y.length) (hr: ∀c∈x,Q0h c=true) (hry: ∀c∈y,Q0h c=true) (hm:Q0h m=true) (hp:Z0a p=true):
 PCalls Tryz.prog 154 [.agg [.ms true A 0 n,.ms true B 0 n,.sc (.int .i64 p)],.ms true k 0 x.length,.ms true o 0 y.length,.agg (encN m)] st
 (fun r st'=>(q0i m p x y=true∧r= .sc (.int .i64 0)∧st'=st.set k (rowC (q0w m p x y)++R))∨(q0i m p x y=false∧r= .sc (.int .i64 2)∧ ∃z,z.length=x.length∧st'=st.set k (rowC z++R))):=by
 have wm:=Z0c hm
 refine Q0b none Tryz.func154 rfl fun E=>Q0a ?_
 simp -dsimp only [go_sem]
 refine Q0e [false,true,true,false,true,false,false,true,false,false,false,false,false,true,true] 2 0
  (fun s' s=> ∃j,s'=x.length-j∧j≤x.length∧(∀i,i<j→(Q1n (x.getD i default) m (y.getD i default) p).2=0)∧
   s=⟨[.junk,.ms true k 0 x.length,.ms true o 0 y.length,.junk,.lp 0 0,.junk,.junk,.lp 1 0,.junk,.junk,.junk,.junk,.junk,.sc (.int .i64 x.length),.sc (.int .i64 (j:Nat))]++List.replicate 34 .junk,[[.ms true A 0 n,.ms true B 0 n,.sc (.int .i64 p)],encN m],[],st.set k (rowC ((q0w m p x y).take j++x.drop j)++R)⟩) x.length ?_ ?_
 · simp -dsimp only [go_sem]
   refine⟨0,by omega,by omega,fun i hi=>by omega,?_⟩
   rw [Y1l hk (by rw [hg];simp)]
   rfl
 rintro m' s ⟨j,rfl,hj,hok,rfl⟩
 simp -dsimp only [go_sem]
 refine ck (fun h1=> ?_) (fun h1=> ?_)
 · have hlt:j<x.length:=by have:=of_decide_eq_true h1;omega
   have x2:=V0b j (by omega)
   obtain⟨d1,d2,d3⟩:=j1t default (q0w m p x y) x (Q1a m p x y) hlt
   rw [Y2y m p x y hlt] at d3
   generalize hD:(q0w m p x y).take j++x.drop j=D at*
   have gst:=V1l (rowC D++R) hk
   have gso:(st.set k (rowC D++R)).getD o []=rowC y++R2:=by rw [Q0q _ _ _ _ _ hne];exact hgo
   have tk:=G0l D j R (by omega)
   rw [d2] at tk
   have tko:=G0l y j R2 (by omega)
   have hDl:=V0j D
   have hyl:=V0j y
   have hle:j*3+3≤(rowC D).length+R.length:=by omega
   have hlo:j*3+3≤(rowC y).length+R2.length:=by omega
   have ov: ∀c,over (rowC D++R) (j*3) (encN c)=rowC (D.set j c)++R:=fun c=>k0d D j R c (by omega)
   unfold encN at ov
   have hxr:=Z0c (hr _ (Q0r x j default hlt))
   have hyr:=Z0c (hry _ (Q0r y j default (by omega)))
   have ha:Q1n (x.getD j default) m (y.getD j default) p=if (Q0s 2 m (y.getD j default) p false).2≠0 then Q0s 2 m (y.getD j default) p false else Q0s 1 (x.getD j default) (Q0s 2 m (y.getD j default) p false).1 p false:=rfl
   have wq:=Z0c (Z0j 2 m (y.getD j default) p false)
   have e2:=H0l (k:=2) (up:=false) hm (hry _ (Q0r y j default (by omega))) hp
   have e1:=H0l (k:=1) (up:=false) (hr _ (Q0r x j default hlt)) (Z0j 2 m (y.getD j default) p false) hp
   simp -dsimp only [go_sem]
   refine Q0p Z0y 49 (.step 0 [] (.step 1 [] (.step 2 [] (.step 3 [] (.step 4 [] (.step 5 [] (.step 6 [] (.alt (.step 7 [] (.step 8 [] (.step 9 [] (.step 10 [] (.step 11 [0,4,6] (.step 12 [] (.step 13 [] (.done)))))))) (.step 11 [0,4,6] (.step 7 [] (.step 8 [] (.step 9 [] (.step 10 [] (.step 12 [] (.step 13 [] (.done)))))))))))))))) (by decide+kernel) (by simp) ?_
   simp -dsimp only [go_sem,gso,tko]
   refine⟨⟨by omega,by omega⟩,hlo,?_⟩
   refine And.intro ?_ ?_
   all_goals
    first | refine(Y1o _ _ p false _ wm hyr).mono ?_ | (refine⟨hlo,?_⟩;refine(Y1o _ _ p false _ wm hyr).mono ?_)
    rintro r st' ⟨rfl,rfl⟩
    by_cases he:(Q0s 2 m (y.getD j default) p false).2=0
    · rw [if_neg (fun h=>h he)] at ha
      rw [he]
      simp -dsimp only [go_sem,gso,tko]
      try refine⟨hlo,?_⟩
      refine Q0p Z0y 49 (.step 0 [] (.step 1 [] (.step 2 [] (.step 3 [] (.step 4 [] (.step 5 [] (.step 6 [] (.step 7 [] (.step 8 [] (.step 9 [] (.step 10 [] (.step 11 [] (.step 12 [] (.step 13 [] (.step 14 [] (.step 15 [] (.done))))))))))))))))) (by decide+kernel) (by simp) ?_
      simp -dsimp only [go_sem,gst,tk]
      refine⟨⟨by omega,hlt⟩,hle,?_⟩
      refine(Q1t _ _ p false _ hxr wq).mono ?_
      rintro r st' ⟨rfl,rfl⟩
      by_cases hf:(Q0s 1 (x.getD j default) (Q0s 2 m (y.getD j default) p false).1 p false).2=0
      · rw [hf]
        rw [ha] at d3
        simp -dsimp only [go_sem,gst,tk,ov,x2,d3,List.set_set]
        refine⟨⟨by omega,hlt⟩,⟨hle,by omega⟩,x.length-(j+1),by omega,j+1,rfl,by omega,fun i hi=> ?_,rfl⟩
        by_cases e:i=j
        · subst e;rw [ha];exact hf
        · exact hok i (by omega)
      · have h2:(Q0s 1 (x.getD j default) (Q0s 2 m (y.getD j default) p false).1 p false).2=2:=e1.resolve_left hf
        rw [h2]
        simp -dsimp only [go_sem,gst,tk,ov,List.set_set]
        exact⟨⟨by omega,hlt⟩,⟨hle,by omega⟩,.inr ⟨W1b hlt (by rw [ha];exact hf),_,by rw [List.length_set];exact d1,rfl⟩⟩
    · have h2:(Q0s 2 m (y.getD j default) p false).2=2:=e2.resolve_left he
      rw [if_pos he] at ha
      rw [h2]
      simp -dsimp only [go_sem,gso,tko]
      try refine⟨hlo,?_⟩
      refine .inr ⟨W1b hlt (by rw [ha];exact he),D,d1,rfl⟩
 · have hge:j=x.length:=by have:=of_decide_eq_false h1;omega
   subst hge
   simp -dsimp only [go_sem]
   refine Q0a ?_
   simp -dsimp only [go_sem]
   refine .inl ⟨J2d hok,?_⟩
   rw [List.take_of_length_le (by rw [Q1a];omega),List.drop_length,List.append_nil]
end Go.Pv
end
