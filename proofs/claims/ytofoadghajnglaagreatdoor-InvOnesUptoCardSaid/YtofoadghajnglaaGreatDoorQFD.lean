/- Parts of the walk: M84, N140, N141. -/
import Derived.Test.YtofoadghajnglaaGreatDoorQFC
import Derived.Test.YtofoadghajnglaaGreatDoorQBE
import Derived.Test.YtofoadghajnglaaGreatDoorQM
import Derived.Test.YtofoadghajnglaaGreatDoorQEC
import Derived.Test.YtofoadghajnglaaGreatDoorQFB
import Derived.Test.YtofoadghajnglaaGreatDoorQAE
import Derived.Test.YtofoadghajnglaaGreatDoorQAA
import Derived.Test.YtofoadghajnglaaGreatDoorQY
import Derived.Test.YtofoadghajnglaaGreatDoorQH
set_option linter.unusedVariables false
set_option linter.unusedSimpArgs false
section
/-Gauss and Jordan:the steps by which a matrix is turned round. No program in it. -/
namespace Go.Pv
def entQ (A:List (List Nm)) (i j:Nat):Nm:=(A.getD i []).getD j default
def pivN (A:List (List Nm)) (k:Nat):Nat→Nat
 | 0=>k
 | m+1=>if cmpR (absN (entQ A (k+1+m) k)) (absN (entQ A (pivN A k m) k))≤0 then pivN A k m else k+1+m
theorem Z1e (A:List (List Nm)) (k:Nat): ∀m,k≤pivN A k m∧pivN A k m≤k+m
 | 0=>⟨Nat.le_refl _,Nat.le_refl _⟩
 | m+1=>by
  have:=Z1e A k m
  unfold pivN
  split<;>omega
def U0n (d:Nm) (p:Int) (row:List Nm):Bool:=row.all fun c=>(divN c d p false).2==0
def divL (d:Nm) (p:Int) (row:List Nm):List Nm:=row.map fun c=>(divN c d p false).1
def w0v (x m y:Nm) (p:Int):Nm×Int:=if (Q0p 2 m y p false).2≠0 then Q0p 2 m y p false else Q0p 1 x (Q0p 2 m y p false).1 p false
def G0s (m:Nm) (p:Int) (row other:List Nm):Bool:=(List.range row.length).all fun j=>(w0v (row.getD j default) m (other.getD j default) p).2==0
def H0c (m:Nm) (p:Int) (row other:List Nm):List Nm:=(List.range row.length).map fun j=>(w0v (row.getD j default) m (other.getD j default) p).1
structure GJ where
 a:List (List Nm)
 r:List (List Nm)
 e:Int
def x1n (p:Int) (k i:Nat) (x:GJ):GJ:=
 if i=k∨(entQ x.a i k).w= [] then x
 else if (G0s (entQ x.a i k) p (x.a.getD i []) (x.a.getD k [])&&G0s (entQ x.a i k) p (x.r.getD i []) (x.r.getD k []))=true then
  ⟨x.a.set i (H0c (entQ x.a i k) p (x.a.getD i []) (x.a.getD k [])),x.r.set i (H0c (entQ x.a i k) p (x.r.getD i []) (x.r.getD k [])),0⟩
 else⟨x.a,x.r,2⟩
def J0h (p:Int) (k:Nat) (x:GJ):Nat→GJ
 | 0=>x
 | i+1=>if (J0h p k x i).e=0 then x1n p k i (J0h p k x i) else J0h p k x i
def x1o (n k:Nat) (x:GJ):GJ:=⟨Z0o [] x.a k (pivN x.a k (n-(k+1))),Z0o [] x.r k (pivN x.a k (n-(k+1))),0⟩
def q0x (p:Int) (k:Nat) (x:GJ):GJ:=
 if (U0n (entQ x.a k k) p (x.a.getD k [])&&U0n (entQ x.a k k) p (x.r.getD k []))=true then⟨x.a.set k (divL (entQ x.a k k) p (x.a.getD k [])),x.r.set k (divL (entQ x.a k k) p (x.r.getD k [])),0⟩ else⟨x.a,x.r,2⟩
def x0y (p:Int) (n k:Nat) (x:GJ):GJ:=
 if (entQ x.a (pivN x.a k (n-(k+1))) k).w= [] then⟨x.a,x.r,3⟩
 else if (q0x p k (x1o n k x)).e=0 then J0h p k (q0x p k (x1o n k x)) n
 else q0x p k (x1o n k x)
def X0f (p:Int) (n:Nat) (x:GJ):Nat→GJ
 | 0=>x
 | k+1=>if (X0f p n x k).e=0 then x0y p n k (X0f p n x k) else X0f p n x k
def K0z (n:Nat):List (List Nm):=(List.range n).map fun i=>(List.range n).map fun j=>if i=j then⟨false,0,[1]⟩ else default
def Q0n (a:List (List Nm)) (p:Int):List (List Nm)×Int:=
 if rightQ a=true∧Z0b p=true then(if (X0f p a.length ⟨a,K0z a.length,0⟩ a.length).e=0 then((X0f p a.length ⟨a,K0z a.length,0⟩ a.length).r,0) else([],(X0f p a.length ⟨a,K0z a.length,0⟩ a.length).e)) else([],1)
def sqR (n:Nat) (a:List (List Nm)):Prop:=a.length=n∧ ∀r∈a,r.length=n∧ ∀c∈r,Q0i c=true
theorem sqR.row {n:Nat} {a:List (List Nm)} (h:sqR n a) {i:Nat} (hi:i<n):(a.getD i []).length=n∧ ∀c∈a.getD i [],Q0i c=true:=h.2 _ (Q0m _ _ _ (by rw [h.1];exact hi))
theorem sqR.ent {n:Nat} {a:List (List Nm)} (h:sqR n a) {i j:Nat} (hi:i<n) (hj:j<n):Q0i (entQ a i j)=true:=(h.row hi).2 _ (Q0m _ _ _ (by rw [(h.row hi).1];exact hj))
theorem sqR.set {n:Nat} {a:List (List Nm)} (h:sqR n a) {i:Nat} {r:List Nm} (hr:r.length=n∧ ∀c∈r,Q0i c=true):sqR n (a.set i r):=by
 refine⟨by rw [List.length_set];exact h.1,fun x hx=> ?_⟩
 rcases List.mem_or_eq_of_mem_set hx with hx | rfl
 · exact h.2 x hx
 · exact hr
theorem sqR.swap {n:Nat} {a:List (List Nm)} (h:sqR n a) {i j:Nat} (hi:i<n) (hj:j<n):sqR n (Z0o [] a i j):=by
 unfold Z0o
 exact(h.set (h.row hj)).set (h.row hi)
end Go.Pv
end
section
/-num.Abs,inv.square,the document's away;quotients by right numbers on both sides. -/
set_option maxRecDepth 100000
namespace Go.Pv
open Go.Proofs
theorem H1e (x:Nm) (st:Q0c) (hw:wN x):PCalls Tryz.prog 218 [.agg (encN x)] st (fun r st'=>r= .agg (encN (absN x))∧st'=st):=by
 unfold wN at hw
 refine Q0b none Tryz.func218 rfl fun E=>Q0a ?_
 simp -dsimp only [go_sem]
 refine(y2i x st (by omega)).mono ?_
 rintro r st ⟨rfl,rfl⟩
 simp -dsimp only [go_sem]
 refine(U1b (ownN x) st).mono ?_
 rintro r st ⟨rfl,rfl⟩
 simp -dsimp only [go_sem]
 unfold absN ownN magN
 split<;>rfl
set_option maxHeartbeats 1000000 in
theorem X2r (a:List (List Nm)) (st:Q0c) (hw:wQs a):PCalls Tryz.prog 88 [.sl .no (encQ a)] st (fun r st'=>r= .sc (.bool (rightQ a))∧st'=st):=by
 obtain⟨hl,hw⟩:=hw
 refine Q0b none Tryz.func88 rfl fun E=>Q0a ?_
 simp -dsimp only [go_sem]
 refine Q0e [true,false,false,false,false,false,false,true,true,true] 0 0 (fun n s=> ∃i,n=a.length-i∧i≤a.length∧(∀j,j<i→Y0f (a.getD j []) a.length=true)∧s=⟨[.sl .no (encQ a),.junk,.junk,.junk,.junk,.junk,.junk,.sl .no (encQ a),.sc (.int .i64 a.length),.sc (.int .i64 (i:Nat))]++List.replicate 27 .junk,[],[],st⟩) a.length ?_ ?_
 · simp -dsimp only [go_sem]
   exact⟨0,by omega,by omega,fun j hj=>by omega,rfl⟩
 rintro n s ⟨i,rfl,hi,hr,rfl⟩
 simp -dsimp only [go_sem]
 refine ck (fun h=> ?_) (fun h=> ?_)
 · have hlt:i<a.length:=by have:=of_decide_eq_true h;omega
   have e1:=Y0n a i hlt
   have e3:=K0f i (by omega)
   have wi:=hw i hlt
   have wil:=wi.1
   simp -dsimp only [go_sem,e1]
   refine⟨by omega,?_⟩
   refine ck (fun h2=> ?_) (fun h2=> ?_)
   · have hn:=x0q h2
     simp -dsimp only [go_sem]
     have:rightQ a=false:=Bool.eq_false_iff.2 fun e=>hn (by have:=(rightQ_iff.1 e).1 i hlt;unfold Y0f at this;simp at this;exact this.2)
     rw [this]
   · have hn:=U0d h2
     simp -dsimp only [go_sem]
     refine Q0e [true,false,false,false,false,false,false,true,true,true,false,false,false,false,false,false,false,false,true,true,true] 0 0 (fun n s=> ∃k,n=(a.getD i []).length-k∧k≤(a.getD i []).length∧(∀j,j<k→Q0i ((a.getD i []).getD j default)=true)∧s=⟨[.sl .no (encQ a),.junk,.junk,.junk,.junk,.junk,.junk,.sl .no (encQ a),.sc (.int .i64 a.length),.sc (.int .i64 (i:Nat)),.junk,.junk,.junk,.junk,.junk,.junk,.junk,.junk,.sl .no (Z0f (a.getD i [])),.sc (.int .i64 (a.getD i []).length),.sc (.int .i64 (k:Nat))]++List.replicate 16 .junk,[],[],st⟩) (a.getD i []).length ?_ ?_
     · simp -dsimp only [go_sem]
       exact⟨0,by omega,by omega,fun j hj=>by omega,rfl⟩
     rintro n s ⟨k,rfl,hk,hrk,rfl⟩
     simp -dsimp only [go_sem]
     refine ck (fun h5=> ?_) (fun h5=> ?_)
     · have hklt:k<(a.getD i []).length:=by have:=of_decide_eq_true h5;omega
       have e2:=V0a (a.getD i []) k hklt
       have e4:=K0f k (by omega)
       have wk:=wi.2 k hklt
       unfold wN at wk
       simp -dsimp only [go_sem,e2]
       refine⟨by omega,?_⟩
       refine(Z0v _ st (by omega)).mono ?_
       rintro r st ⟨rfl,rfl⟩
       simp -dsimp only [go_sem]
       refine ck (fun h6=> ?_) (fun h6=> ?_)
       · have hf:Q0i ((a.getD i []).getD k default)=false:=by simpa using h6
         simp -dsimp only [go_sem]
         have:rightQ a=false:=Bool.eq_false_iff.2 fun e=>by
          have:=(rightQ_iff.1 e).1 i hlt
          unfold Y0f at this
          rw [Bool.and_eq_true] at this
          rw [(q1h _ Q0i).1 this.1 k hklt] at hf;cases hf
         rw [this]
       · have ht:Q0i ((a.getD i []).getD k default)=true:=by simpa using h6
         simp -dsimp only [go_sem,e4]
         refine⟨(a.getD i []).length-(k+1),by omega,k+1,rfl,by omega,fun j hj=> ?_,rfl⟩
         by_cases e:j=k
         · subst e;exact ht
         · exact hrk j (by omega)
     · have hge:k=(a.getD i []).length:=by have:=of_decide_eq_false h5;omega
       simp -dsimp only [go_sem]
       refine Q0a ?_
       simp -dsimp only [go_sem,e3]
       refine⟨a.length-(i+1),by omega,i+1,rfl,by omega,fun j hj=> ?_,rfl⟩
       by_cases e:j=i
       · subst e
         unfold Y0f
         rw [Bool.and_eq_true]
         exact⟨(q1h _ Q0i).2 fun b hb=>hrk b (by omega),decide_eq_true hn⟩
       · exact hr j (by omega)
 · have hge:i=a.length:=by have:=of_decide_eq_false h;omega
   subst hge
   simp -dsimp only [go_sem]
   refine Q0a ?_
   simp -dsimp only [go_sem]
   have fin:rightQ a=(decide ((a.length:Int)≥1)&&decide ((a.length:Int)≤4)):=by
    rw [Bool.eq_iff_iff,rightQ_iff,Bool.and_eq_true,decide_eq_true_iff,decide_eq_true_iff]
    exact⟨fun h=>⟨by omega,by omega⟩,fun h=>⟨hr,by omega,by omega⟩⟩
   rw [fin]
   refine gkT (fun h1=> ?_) (fun h1=> ?_)
   · simp -dsimp only [go_sem,h1]
     try rfl
   · simp -dsimp only [go_sem,h1]
     try rfl
end Go.Pv
end
section
/-Quotients of right numbers,by both sides. -/
set_option maxRecDepth 100000
namespace Go.Pv
open Go.Proofs
def W0w (a b:Nm) (p:Int) (up:Bool):Nm×Int:=if b.w= [] then(default,3) else divN a b p up
theorem W1w (a b:Nm) (p:Int) (up:Bool):Q0i (W0w a b p up).1=true:=by
 unfold W0w
 split
 · decide
 · exact V0p (v0z (J0n (j0l _ _ _) _ _))
theorem k1p (a b:Nm) (p:Int) (up:Bool) (st:Q0c) (ha:Q0i a=true) (hb:Q0i b=true) (hp:Z0b p=true):
 PCalls Tryz.prog 137 [.agg (encN a),.agg (encN b),.sc (.int .i64 p),.sc (.bool up)] st (fun r st'=>r= .tup [.agg (encN (W0w a b p up).1),.sc (.int .i64 (W0w a b p up).2)]∧st'=st):=by
 by_cases h0:b.w= []
 · have wa:=Q0x ha
   have wb:=Q0x hb
   unfold wN at wa wb
   have hq:W0w a b p up=(default,3):=by unfold W0w;rw [if_pos h0]
   rw [hq]
   refine Q0b none Tryz.func137 rfl fun E=>Q0a ?_
   simp -dsimp only [go_sem]
   refine(Z0v a _ (by omega)).mono ?_
   rintro r st ⟨rfl,rfl⟩
   rw [ha]
   simp -dsimp only [go_sem]
   refine(Z0v b _ (by omega)).mono ?_
   rintro r st ⟨rfl,rfl⟩
   rw [hb]
   simp -dsimp only [go_sem]
   refine(V0m _ _).mono ?_
   rintro r st ⟨rfl,rfl⟩
   rw [hp]
   have hbl:((b.w.length:Int)==0)=true:=by rw [h0];rfl
   simp -dsimp only [go_sem,hbl]
   try rfl
 · have hq:W0w a b p up=divN a b p up:=by unfold W0w;rw [if_neg h0]
   rw [hq]
   exact k0f a b p up st ha hb hp (Nat.pos_of_ne_zero fun e=>h0 ((X0h hb).1 e))
end Go.Pv
end
