/- Parts of the walk: M84, N140, N141. -/
import Derived.Test.YtofoadghajnglaaGreatDoorZFC
import Derived.Test.YtofoadghajnglaaGreatDoorZBE
import Derived.Test.YtofoadghajnglaaGreatDoorZM
import Derived.Test.YtofoadghajnglaaGreatDoorZEC
import Derived.Test.YtofoadghajnglaaGreatDoorZFB
import Derived.Test.YtofoadghajnglaaGreatDoorZAF
set_option linter.unusedVariables false
set_option linter.unusedSimpArgs false
section
/-Gauss and Jordan:the steps by which a matrix is turned round. No program in it. -/
namespace Go.Pv
def entQ (A:List (List Nm)) (i j:Nat):Nm:=(A.getD i []).getD j default
def pivN (A:List (List Nm)) (k:Nat):Nat→Nat
 | 0=>k
 | m+1=>if cmpR (absN (entQ A (k+1+m) k)) (absN (entQ A (pivN A k m) k))≤0 then pivN A k m else k+1+m
theorem Z1z (A:List (List Nm)) (k:Nat): ∀m,k≤pivN A k m∧pivN A k m≤k+m
 | 0=>⟨Nat.le_refl _,Nat.le_refl _⟩
 | m+1=>by
  have:=Z1z A k m
  unfold pivN
  split<;>omega
def H0v (d:Nm) (p:Int) (row:List Nm):Bool:=row.all fun c=>(divN c d p false).2==0
def divL (d:Nm) (p:Int) (row:List Nm):List Nm:=row.map fun c=>(divN c d p false).1
def Y0e (x m y:Nm) (p:Int):Nm×Int:=if (Q0t 2 m y p false).2≠0 then Q0t 2 m y p false else Q0t 1 x (Q0t 2 m y p false).1 p false
def q0e (m:Nm) (p:Int) (row other:List Nm):Bool:=(List.range row.length).all fun j=>(Y0e (row.getD j default) m (other.getD j default) p).2==0
def U0g (m:Nm) (p:Int) (row other:List Nm):List Nm:=(List.range row.length).map fun j=>(Y0e (row.getD j default) m (other.getD j default) p).1
structure GJ where
 a:List (List Nm)
 r:List (List Nm)
 e:Int
def X1x (p:Int) (k i:Nat) (x:GJ):GJ:=
 if i=k∨(entQ x.a i k).w= [] then x
 else if (q0e (entQ x.a i k) p (x.a.getD i []) (x.a.getD k [])&&q0e (entQ x.a i k) p (x.r.getD i []) (x.r.getD k []))=true then
  ⟨x.a.set i (U0g (entQ x.a i k) p (x.a.getD i []) (x.a.getD k [])),x.r.set i (U0g (entQ x.a i k) p (x.r.getD i []) (x.r.getD k [])),0⟩
 else⟨x.a,x.r,2⟩
def J0v (p:Int) (k:Nat) (x:GJ):Nat→GJ
 | 0=>x
 | i+1=>if (J0v p k x i).e=0 then X1x p k i (J0v p k x i) else J0v p k x i
def z2g (n k:Nat) (x:GJ):GJ:=⟨Z0s [] x.a k (pivN x.a k (n-(k+1))),Z0s [] x.r k (pivN x.a k (n-(k+1))),0⟩
def G0l (p:Int) (k:Nat) (x:GJ):GJ:=
 if (H0v (entQ x.a k k) p (x.a.getD k [])&&H0v (entQ x.a k k) p (x.r.getD k []))=true then⟨x.a.set k (divL (entQ x.a k k) p (x.a.getD k [])),x.r.set k (divL (entQ x.a k k) p (x.r.getD k [])),0⟩ else⟨x.a,x.r,2⟩
def Q1a (p:Int) (n k:Nat) (x:GJ):GJ:=
 if (entQ x.a (pivN x.a k (n-(k+1))) k).w= [] then⟨x.a,x.r,3⟩
 else if (G0l p k (z2g n k x)).e=0 then J0v p k (G0l p k (z2g n k x)) n
 else G0l p k (z2g n k x)
def X0a (p:Int) (n:Nat) (x:GJ):Nat→GJ
 | 0=>x
 | k+1=>if (X0a p n x k).e=0 then Q1a p n k (X0a p n x k) else X0a p n x k
def K0l (n:Nat):List (List Nm):=(List.range n).map fun i=>(List.range n).map fun j=>if i=j then⟨false,0,[1]⟩ else default
def Q0q (a:List (List Nm)) (p:Int):List (List Nm)×Int:=
 if V0v a=true∧Z0p p=true then(if (X0a p a.length ⟨a,K0l a.length,0⟩ a.length).e=0 then((X0a p a.length ⟨a,K0l a.length,0⟩ a.length).r,0) else([],(X0a p a.length ⟨a,K0l a.length,0⟩ a.length).e)) else([],1)
def sqR (n:Nat) (a:List (List Nm)):Prop:=a.length=n∧ ∀r∈a,r.length=n∧ ∀c∈r,Q0j c=true
theorem sqR.row {n:Nat} {a:List (List Nm)} (h:sqR n a) {i:Nat} (hi:i<n):(a.getD i []).length=n∧ ∀c∈a.getD i [],Q0j c=true:=h.2 _ (Q0s _ _ _ (by rw [h.1];exact hi))
theorem sqR.ent {n:Nat} {a:List (List Nm)} (h:sqR n a) {i j:Nat} (hi:i<n) (hj:j<n):Q0j (entQ a i j)=true:=(h.row hi).2 _ (Q0s _ _ _ (by rw [(h.row hi).1];exact hj))
theorem sqR.set {n:Nat} {a:List (List Nm)} (h:sqR n a) {i:Nat} {r:List Nm} (hr:r.length=n∧ ∀c∈r,Q0j c=true):sqR n (a.set i r):=by
 refine⟨by rw [List.length_set];exact h.1,fun x hx=> ?_⟩
 rcases List.mem_or_eq_of_mem_set hx with hx | rfl
 · exact h.2 x hx
 · exact hr
theorem sqR.swap {n:Nat} {a:List (List Nm)} (h:sqR n a) {i j:Nat} (hi:i<n) (hj:j<n):sqR n (Z0s [] a i j):=by
 unfold Z0s
 exact(h.set (h.row hj)).set (h.row hi)
end Go.Pv
end
section
/-num.Abs,inv.square,the document's away;quotients by right numbers on both sides. -/
set_option maxRecDepth 100000
namespace Go.Pv
open Go.Proofs
theorem v1i (x:Nm) (st:Q0f) (hw:wN x):PCalls Tryz.prog 218 [.agg (encN x)] st (fun r st'=>r= .agg (encN (absN x))∧st'=st):=by
 unfold wN at hw
 refine Q0b none Tryz.func218 rfl fun E=>Q0a ?_
 simp -dsimp only [go_sem]
 refine(V3l x st (by omega)).mono ?_
 rintro r st ⟨rfl,rfl⟩
 simp -dsimp only [go_sem]
 refine(j1a (ownN x) st).mono ?_
 rintro r st ⟨rfl,rfl⟩
 simp -dsimp only [go_sem]
 unfold absN ownN magN
 split<;>rfl
set_option maxHeartbeats 1000000 in
theorem U2r (a:List (List Nm)) (st:Q0f) (hw:wQs a):PCalls Tryz.prog 88 [.sl .no (encQ a)] st (fun r st'=>r= .sc (.bool (V0v a))∧st'=st):=by
 obtain⟨hl,hw⟩:=hw
 refine Q0b none Tryz.func88 rfl fun E=>Q0a ?_
 simp -dsimp only [go_sem]
 refine Q0e [true,false,false,false,false,false,false,true,true,true] 0 0 (fun n s=> ∃i,n=a.length-i∧i≤a.length∧(∀j,j<i→Y0f (a.getD j []) a.length=true)∧s=⟨[.sl .no (encQ a),.junk,.junk,.junk,.junk,.junk,.junk,.sl .no (encQ a),.sc (.int .i64 a.length),.sc (.int .i64 (i:Nat))]++List.replicate 27 .junk,[],[],st⟩) a.length ?_ ?_
 · simp -dsimp only [go_sem]
   exact⟨0,by omega,by omega,fun j hj=>by omega,rfl⟩
 rintro n s ⟨i,rfl,hi,hr,rfl⟩
 simp -dsimp only [go_sem]
 refine ck (fun h=> ?_) (fun h=> ?_)
 · have hlt:i<a.length:=by have:=of_decide_eq_true h;omega
   have e1:=V0f a i hlt
   have e3:=X0y i (by omega)
   have wi:=hw i hlt
   have wil:=wi.1
   simp -dsimp only [go_sem,e1]
   refine⟨by omega,?_⟩
   refine ck (fun h2=> ?_) (fun h2=> ?_)
   · have hn:=z0a h2
     simp -dsimp only [go_sem]
     have:V0v a=false:=Bool.eq_false_iff.2 fun e=>hn (by have:=(rightQ_iff.1 e).1 i hlt;unfold Y0f at this;simp at this;exact this.2)
     rw [this]
   · have hn:=q0d h2
     simp -dsimp only [go_sem]
     refine Q0e [true,false,false,false,false,false,false,true,true,true,false,false,false,false,false,false,false,false,true,true,true] 0 0 (fun n s=> ∃k,n=(a.getD i []).length-k∧k≤(a.getD i []).length∧(∀j,j<k→Q0j ((a.getD i []).getD j default)=true)∧s=⟨[.sl .no (encQ a),.junk,.junk,.junk,.junk,.junk,.junk,.sl .no (encQ a),.sc (.int .i64 a.length),.sc (.int .i64 (i:Nat)),.junk,.junk,.junk,.junk,.junk,.junk,.junk,.junk,.sl .no (Z0b (a.getD i [])),.sc (.int .i64 (a.getD i []).length),.sc (.int .i64 (k:Nat))]++List.replicate 16 .junk,[],[],st⟩) (a.getD i []).length ?_ ?_
     · simp -dsimp only [go_sem]
       exact⟨0,by omega,by omega,fun j hj=>by omega,rfl⟩
     rintro n s ⟨k,rfl,hk,hrk,rfl⟩
     simp -dsimp only [go_sem]
     refine ck (fun h5=> ?_) (fun h5=> ?_)
     · have hklt:k<(a.getD i []).length:=by have:=of_decide_eq_true h5;omega
       have e2:=J0w (a.getD i []) k hklt
       have e4:=X0y k (by omega)
       have wk:=wi.2 k hklt
       unfold wN at wk
       simp -dsimp only [go_sem,e2]
       refine⟨by omega,?_⟩
       refine(X0m _ st (by omega)).mono ?_
       rintro r st ⟨rfl,rfl⟩
       simp -dsimp only [go_sem]
       refine ck (fun h6=> ?_) (fun h6=> ?_)
       · have hf:Q0j ((a.getD i []).getD k default)=false:=by simpa using h6
         simp -dsimp only [go_sem]
         have:V0v a=false:=Bool.eq_false_iff.2 fun e=>by
          have:=(rightQ_iff.1 e).1 i hlt
          unfold Y0f at this
          rw [Bool.and_eq_true] at this
          rw [(Q1q _ Q0j).1 this.1 k hklt] at hf;cases hf
         rw [this]
       · have ht:Q0j ((a.getD i []).getD k default)=true:=by simpa using h6
         simp -dsimp only [go_sem,e4]
         refine⟨(a.getD i []).length-(k+1),by omega,k+1,rfl,by omega,fun j hj=> ?_,rfl⟩
         by_cases e:j=k
         · subst e;exact ht
         · exact hrk j (by omega)
     · have hge:k=(a.getD i []).length:=by have:=of_decide_eq_false h5;omega
       simp -dsimp only [go_sem]
       refine Q0a ?_
       simp -dsimp only [go_sem,e3]
       refine⟨a.length-(i+1),by omega,i+1,rfl,by omega,fun j hj=> ?_,rfl⟩
       by_cases e:j=i
       · subst e
         unfold Y0f
         rw [Bool.and_eq_true]
         exact⟨(Q1q _ Q0j).2 fun b hb=>hrk b (by omega),decide_eq_true hn⟩
       · exact hr j (by omega)
 · have hge:i=a.length:=by have:=of_decide_eq_false h;omega
   subst hge
   simp -dsimp only [go_sem]
   refine Q0a ?_
   simp -dsimp only [go_sem]
   have fin:V0v a=(decide ((a.length:Int)≥1)&&decide ((a.length:Int)≤4)):=by
    rw [Bool.eq_iff_iff,rightQ_iff,Bool.and_eq_true,decide_eq_true_iff,decide_eq_true_iff]
    exact⟨fun h=>⟨by omega,by omega⟩,fun h=>⟨hr,by omega,by omega⟩⟩
   rw [fin]
   refine gkT (fun h1=> ?_) (fun h1=> ?_)
   · simp -dsimp only [go_sem,h1]
     try rfl
   · simp -dsimp only [go_sem,h1]
     try rfl
theorem G1l (x m y:Nm) (p:Int) (st:Q0f) (hx:wN x) (hm:wN m) (hy:wN y):PCalls Tryz.prog 128 [.agg (encN x),.agg (encN m),.agg (encN y),.sc (.int .i64 p)] st (fun r st'=>r= .tup [.agg (encN (Y0e x m y p).1),.sc (.int .i64 (Y0e x m y p).2)]∧st'=st):=by
 refine Q0b none Tryz.func128 rfl fun E=>Q0a ?_
 simp -dsimp only [go_sem]
 refine(y0q m y p false _ hm hy).mono ?_
 rintro r st ⟨rfl,rfl⟩
 simp -dsimp only [go_sem]
 refine ck (fun h=> ?_) (fun h=> ?_)
 · have h2:=q0k h
   simp -dsimp only [go_sem]
   unfold Y0e
   rw [if_pos h2]
   try rfl
 · have h2:=x0m h
   simp -dsimp only [go_sem]
   refine(q0t x (Q0t 2 m y p false).1 p false _ hx ?_).mono ?_
   · exact Q0u (Z0k _ _ _ _ _)
   rintro r st ⟨rfl,rfl⟩
   simp -dsimp only [go_sem]
   unfold Y0e
   rw [if_neg (fun e=>e h2)]
   try rfl
end Go.Pv
end
section
/-Quotients of right numbers,by both sides. -/
set_option maxRecDepth 100000
namespace Go.Pv
open Go.Proofs
def W0y (a b:Nm) (p:Int) (up:Bool):Nm×Int:=if b.w= [] then(default,3) else divN a b p up
theorem z1v (a b:Nm) (p:Int) (up:Bool):Q0j (W0y a b p up).1=true:=by
 unfold W0y
 split
 · decide
 · exact W0h (J1q (V0g (Q1o _ _ _) _ _))
theorem X2r (a b:Nm) (p:Int) (up:Bool) (st:Q0f) (ha:Q0j a=true) (hb:Q0j b=true) (hp:Z0p p=true):
 PCalls Tryz.prog 137 [.agg (encN a),.agg (encN b),.sc (.int .i64 p),.sc (.bool up)] st (fun r st'=>r= .tup [.agg (encN (W0y a b p up).1),.sc (.int .i64 (W0y a b p up).2)]∧st'=st):=by
 by_cases h0:b.w= []
 · have wa:=Q0u ha
   have wb:=Q0u hb
   unfold wN at wa wb
   have hq:W0y a b p up=(default,3):=by unfold W0y;rw [if_pos h0]
   rw [hq]
   refine Q0b none Tryz.func137 rfl fun E=>Q0a ?_
   simp -dsimp only [go_sem]
   refine(X0m a _ (by omega)).mono ?_
   rintro r st ⟨rfl,rfl⟩
   rw [ha]
   simp -dsimp only [go_sem]
   refine(X0m b _ (by omega)).mono ?_
   rintro r st ⟨rfl,rfl⟩
   rw [hb]
   simp -dsimp only [go_sem]
   refine(Y0p _ _).mono ?_
   rintro r st ⟨rfl,rfl⟩
   rw [hp]
   have hbl:((b.w.length:Int)==0)=true:=by rw [h0];rfl
   simp -dsimp only [go_sem,hbl]
   try rfl
 · have hq:W0y a b p up=divN a b p up:=by unfold W0y;rw [if_neg h0]
   rw [hq]
   exact Z1j a b p up st ha hb hp (Nat.pos_of_ne_zero fun e=>h0 ((X0q hb).1 e))
theorem q0s (a b:Nm) (p:Int) (up:Bool) (st:Q0f) (ha:Q0j a=true) (hb:Q0j b=true) (hp:Z0p p=true):PCalls Tryz.prog 127 [.sc (.int .i64 3),.agg (encN a),.agg (encN b),.sc (.int .i64 p),.sc (.bool up)] st (fun r st'=>r= .tup [.agg (encN (W0y a b p up).1),.sc (.int .i64 (W0y a b p up).2)]∧st'=st):=by
 refine Q0b none Tryz.func127 rfl fun E=>Q0a ?_
 have e0: ∀x y:Nm,[PV.agg [.sc (.bool x.neg),.sc (.int .i64 x.exp),.sl .no (encW x.w)],.agg [.sc (.bool y.neg),.sc (.int .i64 y.exp),.sl .no (encW y.w)]]=Z0b [x,y]:=fun x y=>rfl
 simp -dsimp only [go_sem,e0]
 refine(x2x p [a,b] _ (by simp) (fun i hi=>by
  match i,hi with
  | 0,_=>exact Q0u ha
  | 1,_=>exact Q0u hb)).mono ?_
 rintro r st ⟨rfl,rfl⟩
 have hf: ∀x:Bool,x=false→(PV.sc (.bool x))= .sc (.bool false):=fun x h=>by rw [h]
 simp -dsimp only [go_sem]
 refine ck (fun h=> ?_) (fun h=> ?_)
 · exfalso
   simp [ha,hb,hp] at h
 · obtain⟨q,rfl,q1,q2,q3⟩:=K0e hp
   have d1:=J0x ha
   have d2:=J0x hb
   have hbz:b.w= []↔(ofN b).m=0:=(X0q hb).symm
   have hqv: ∀x y:Vl,(x=ofN a)→(y=ofN b)→divN a b q up=numV (Z0h (ratV x y q) q up):=fun x y hx hy=>by rw [hx,hy,divN,q3]
   simp -dsimp only [go_sem]
   refine W0r Z0f 49 [0,1,2,3] [4,5] [6,7] (.step 0 [] (.step 2 [] (.step 1 [2] (.step 3 [] (.done))))) (.step 6 [] (.step 7 [] (.done))) (by decide+kernel) (by simp) ?_
   simp -dsimp only [go_sem]
   refine(of_c a _ (V0u ha)).mono ?_
   rintro r st ⟨rfl,rfl⟩
   simp -dsimp only [go_sem]
   refine(of_c b _ (V0u hb)).mono ?_
   rintro r st ⟨rfl,rfl⟩
   unfold W0y
   generalize hx:ofN a=x at*
   generalize hy:ofN b=y at*
   have t3:((3:Int)==3)=true:=rfl
   by_cases hz:y.m=0
   · rw [if_pos (hbz.2 hz)]
     have f1:(((Q0c y.m).length:Int)==0)=true:=by rw [hz,Z0g];rfl
     simp -dsimp only [go_sem,t3,f1]
     try rfl
   · rw [if_neg (fun e=>hz (hbz.1 e)),hqv x y rfl rfl]
     have f1:(((Q0c y.m).length:Int)==0)=false:=beq_eq_false_iff_ne.2 (fun e=>hz (digitsOf_nil.1 (List.eq_nil_of_length_eq_zero (by omega))))
     simp -dsimp only [go_sem,t3,f1]
     refine(w2p x y q up _ d1 d2 (Nat.pos_of_ne_zero hz) (by omega)).mono ?_
     rintro r st ⟨rfl,rfl⟩
     have e1:=Y2d d1 d2 (p:=q) (by omega)
     have e2:=V0n e1 q up
     simp -dsimp only [go_sem]
     refine(Q1t _ _ (J0f e2 (by omega))).mono ?_
     rintro r st ⟨rfl,rfl⟩
     simp -dsimp only [go_sem]
end Go.Pv
end
