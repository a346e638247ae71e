/- Parts of the walk: M84, N140, N141. -/
import Derived.Test.YtldalepagmhnmaaGreatDoorZFC
import Derived.Test.YtldalepagmhnmaaGreatDoorZFB
set_option linter.unusedVariables false
set_option linter.unusedSimpArgs false
section
namespace Go.Pv
def entQ (A:List (List Nm))(i j:Nat):Nm:=(A.getD i []).getD j default
def pivN (A:List (List Nm))(k:Nat):Nat->Nat
 | 0=>k
 | m+1=>if cmpR (absN (entQ A (k+1+m) k)) (absN (entQ A (pivN A k m) k))<=0 then pivN A k m else k+1+m
theorem K1v (A:List (List Nm))(k:Nat): ∀m,k<=pivN A k m/\pivN A k m<=k+m
 | 0=>⟨Nat.le_refl _,Nat.le_refl _⟩
 | m+1=>by have:=K1v A k m;unfold pivN;split<;>omega
def z0m (d:Nm)(p:Int)(row:List Nm):Bool:=row.all fun c=>(divN c d p false).2==0
def divL (d:Nm)(p:Int)(row:List Nm):List Nm:=row.map fun c=>(divN c d p false).1
def W0c (x m y:Nm)(p:Int):Nm×Int:=if (Q0r 2 m y p false).2≠0 then Q0r 2 m y p false else Q0r 1 x (Q0r 2 m y p false).1 p false
def z0w (m:Nm)(p:Int)(row other:List Nm):Bool:=(List.range row.length).all fun j=>(W0c (row.getD j default) m (other.getD j default) p).2==0
def G0u (m:Nm)(p:Int)(row other:List Nm):List Nm:=(List.range row.length).map fun j=>(W0c (row.getD j default) m (other.getD j default) p).1
structure GJ where
 a:List (List Nm)
 r:List (List Nm)
 e:Int
def V1u (p:Int)(k i:Nat)(x:GJ):GJ:=
 if i=k\/(entQ x.a i k).w= [] then x
 else if (z0w (entQ x.a i k) p (x.a.getD i []) (x.a.getD k [])&&z0w (entQ x.a i k) p (x.r.getD i []) (x.r.getD k []))=true then
  ⟨x.a.set i (G0u (entQ x.a i k) p (x.a.getD i []) (x.a.getD k [])),x.r.set i (G0u (entQ x.a i k) p (x.r.getD i []) (x.r.getD k [])),0⟩
 else⟨x.a,x.r,2⟩
def K0m (p:Int)(k:Nat)(x:GJ):Nat->GJ
 | 0=>x
 | i+1=>if (K0m p k x i).e=0 then V1u p k i (K0m p k x i) else K0m p k x i
def Z3e (n k:Nat)(x:GJ):GJ:=⟨X0d [] x.a k (pivN x.a k (n-(k+1))),X0d [] x.r k (pivN x.a k (n-(k+1))),0⟩
def H0z (p:Int)(k:Nat)(x:GJ):GJ:=
 if (z0m (entQ x.a k k) p (x.a.getD k [])&&z0m (entQ x.a k k) p (x.r.getD k []))=true then⟨x.a.set k (divL (entQ x.a k k) p (x.a.getD k [])),x.r.set k (divL (entQ x.a k k) p (x.r.getD k [])),0⟩ else⟨x.a,x.r,2⟩
def X1s (p:Int)(n k:Nat)(x:GJ):GJ:=
 if (entQ x.a (pivN x.a k (n-(k+1))) k).w= [] then⟨x.a,x.r,3⟩
 else if (H0z p k (Z3e n k x)).e=0 then K0m p k (H0z p k (Z3e n k x)) n
 else H0z p k (Z3e n k x)
def X0q (p:Int)(n:Nat)(x:GJ):Nat->GJ
 | 0=>x
 | k+1=>if (X0q p n x k).e=0 then X1s p n k (X0q p n x k) else X0q p n x k
def V0b (n:Nat):List (List Nm):=(List.range n).map fun i=>(List.range n).map fun j=>if i=j then⟨false,0,[1]⟩ else default
def Q0v (a:List (List Nm))(p:Int):List (List Nm)×Int:=
 if X0p a=true/\Z0b p=true then(if (X0q p a.length ⟨a,V0b a.length,0⟩ a.length).e=0 then((X0q p a.length ⟨a,V0b a.length,0⟩ a.length).r,0) else([],(X0q p a.length ⟨a,V0b a.length,0⟩ a.length).e)) else([],1)
def sqR (n:Nat)(a:List (List Nm)):Prop:=a.length=n/\ ∀r∈a,r.length=n/\ ∀c∈r,Q0h c=true
theorem sqR.row {n:Nat}{a:List (List Nm)}(h:sqR n a){i:Nat}(hi:i<n):(a.getD i []).length=n/\ ∀c∈a.getD i [],Q0h c=true:=h.2 _ (Q0q _ _ _ (by rw[h.1];exact hi))
theorem sqR.ent {n:Nat}{a:List (List Nm)}(h:sqR n a){i j:Nat}(hi:i<n)(hj:j<n):Q0h (entQ a i j)=true:=(h.row hi).2 _ (Q0q _ _ _ (by rw[(h.row hi).1];exact hj))
theorem sqR.set {n:Nat}{a:List (List Nm)}(h:sqR n a){i:Nat}{r:List Nm}(hr:r.length=n/\ ∀c∈r,Q0h c=true):sqR n (a.set i r):=by refine⟨by rw[List.length_set];exact h.1,fun x hx=> ?_⟩;rcases List.mem_or_eq_of_mem_set hx with hx | rfl;exact h.2 x hx;exact hr
theorem sqR.swap {n:Nat}{a:List (List Nm)}(h:sqR n a){i j:Nat}(hi:i<n)(hj:j<n):sqR n (X0d [] a i j):=by unfold X0d;exact(h.set (h.row hj)).set (h.row hi)
set_option maxRecDepth 100000
open Go.Proofs
theorem J1h (x:Nm)(st:Q0g)(hw:wN x):PR 310 [.agg (encN x)] st (.agg (encN (absN x))):=by unfold wN at hw;refine J4z Tryz.func310 fun E=> ?_;refine(x3v x st oG).Q ?_;refine(y1y (ownN x) st).Q ?_;unfold absN ownN magN;split<;>rfl
set_option maxHeartbeats 4000000 in
theorem v2f (a:List (List Nm))(st:Q0g)(hw:wQs a):PR 284 [.sl .no (encQ a)] st (.sc (.bool (X0p a))):=by
 obtain⟨hl,hw⟩:=hw;refine J4z Tryz.func284 fun E=> ?_;refine Q0d [true,false,false,false,false,false,false,true,true,true] 0 0 (fun n s=> ∃i,n=a.length-i/\i<=a.length/\(∀j,j<i->Z0w (a.getD j []) a.length=true)/\s=⟨[.sl .no (encQ a),.junk,.junk,.junk,.junk,.junk,.junk,.sl .no (encQ a),.sc (.int .i64 a.length),.sc (.int .i64 (i:Nat))]++jk 27,[],[],st⟩) a.length ?_ ?_;refine K4w ?_;exact⟨0,oG,oG,fun j hj=>oG,rfl⟩;rintro n s ⟨i,rfl,hi,hr,rfl⟩;refine K4a (fun h=> ?_) (fun h=> ?_);have hlt:i<a.length:=(oT h);have e1:=X0z a i hlt;have e3:=Z0s i oG;have wi:=hw i hlt;have wil:=wi.1;simp-dsimp only[go_sem,e1];refine⟨oG,?_⟩;refine ck (fun h2=> ?_) (fun h2=> ?_);have hn:=z0v h2;refine K4w ?_;have:X0p a=false:=Bool.eq_false_iff.2 fun e=>hn (by have:=(rightQ_iff.1 e).1 i hlt;unfold Z0w at this;simp at this;exact this.2);rw[this];have hn:=G0q h2;refine K4w ?_;refine Q0d ([true,false,false,false,false,false,false,true,true,true]++rF 8++ [true,true,true]) 0 0 (fun n s=> ∃k,n=(a.getD i []).length-k/\k<=(a.getD i []).length/\(∀j,j<k->Q0h ((a.getD i []).getD j default)=true)/\s=⟨[.sl .no (encQ a),.junk,.junk,.junk,.junk,.junk,.junk,.sl .no (encQ a),.sc (.int .i64 a.length),.sc (.int .i64 (i:Nat))]++jk 8++ [.sl .no (Q0t (a.getD i [])),.sc (.int .i64 (a.getD i []).length),.sc (.int .i64 (k:Nat))]++jk 16,[],[],st⟩) (a.getD i []).length ?_ ?_;refine K4w ?_;exact⟨0,oG,oG,fun j hj=>oG,rfl⟩;rintro n s ⟨k,rfl,hk,hrk,rfl⟩;refine K4a (fun h5=> ?_) (fun h5=> ?_);have hklt:k<(a.getD i []).length:=(oT h5);have e2:=Z0d (a.getD i []) k hklt;have e4:=Z0s k oG;have wk:=wi.2 k hklt;unfold wN at wk;simp-dsimp only[go_sem,e2];refine⟨oG,?_⟩;refine(X0l _ st oG).Q ?_;refine ck (fun h6=> ?_) (fun h6=> ?_);have hf:Q0h ((a.getD i []).getD k default)=false:=(by simpa using h6);refine K4w ?_;have:X0p a=false:=Bool.eq_false_iff.2 fun e=>by have:=(rightQ_iff.1 e).1 i hlt;unfold Z0w at this;rw[q_i] at this;rw[(Y0h _ Q0h).1 this.1 k hklt] at hf;cases hf
 rw[this];have ht:Q0h ((a.getD i []).getD k default)=true:=(by simpa using h6);simp-dsimp only[go_sem,e4];refine⟨(a.getD i []).length-(k+1),oG,k+1,rfl,oG,fun j hj=> ?_,rfl⟩;by_cases e:j=k;subst e;exact ht;exact hrk j oG;have hge:k=(a.getD i []).length:=(oF h5);refine K4w ?_;refine Q0a ?_;simp-dsimp only[go_sem,e3];refine⟨a.length-(i+1),oG,i+1,rfl,oG,fun j hj=> ?_,rfl⟩;by_cases e:j=i;subst e;unfold Z0w;rw[q_i];exact⟨(Y0h _ Q0h).2 fun b hb=>hrk b oG,q_h hn⟩;exact hr j oG;have hge:i=a.length:=(oF h);subst hge;refine K4w ?_;refine J4y ?_;have fin:X0p a=(decide ((a.length:Int)>=1)&&decide ((a.length:Int)<=4)):=by rw[Bool.eq_iff_iff,rightQ_iff,q_i,decide_eq_true_iff,decide_eq_true_iff];exact⟨fun h=>⟨oG,oG⟩,fun h=>⟨hr,oG,oG⟩⟩
 rw[fin];refine gkT (fun h1=> ?_) (fun h1=> ?_);simp-dsimp only[go_sem,h1]
 try rfl
 simp-dsimp only[go_sem,h1]
 try rfl
theorem K1n (x m y:Nm)(p:Int)(st:Q0g)(hx:wN x)(hm:wN m)(hy:wN y):PR 303 [.agg (encN x),.agg (encN m),.agg (encN y),.sc (.int .i64 p)] st (.tup [.agg (encN (W0c x m y p).1),.sc (.int .i64 (W0c x m y p).2)]):=by
 refine J4z Tryz.func303 fun E=> ?_;refine(x0o m y p false _ hm hy).Q ?_;refine ck (fun h=> ?_) (fun h=> ?_);have h2:=W0z h;refine K4w ?_;unfold W0c;rw[if_pos h2]
 try rfl
 have h2:=Y0n h;refine K4w ?_;refine(x0p x (Q0r 2 m y p false).1 p false _ hx ?_).mono ?_;exact Q0o (Z0k _ _ _ _ _);rintro r st ⟨rfl,rfl⟩;refine K4w ?_;unfold W0c;rw[if_neg (fun e=>e h2)]
 try rfl
def W0n (a b:Nm)(p:Int)(up:Bool):Nm×Int:=if b.w= [] then(default,3) else divN a b p up
theorem v0e (a b:Nm)(p:Int)(up:Bool):Q0h (W0n a b p up).1=true:=by unfold W0n;split;decide;exact W0m (Z1y (V0a (q1v _ _ _) _ _))
theorem x1i (a b:Nm)(p:Int)(up:Bool)(st:Q0g)(ha:Q0h a=true)(hb:Q0h b=true)(hp:Z0b p=true):
 PR 217 [.agg (encN a),.agg (encN b),.sc (.int .i64 p),.sc (.bool up)] st (.tup [.agg (encN (W0n a b p up).1),.sc (.int .i64 (W0n a b p up).2)]):=by
 by_cases h0:b.w= [];have wa:=Q0o ha;have wb:=Q0o hb;unfold wN at wa wb;have hq:W0n a b p up=(default,3):=(by unfold W0n;rw[if_pos h0]);rw[hq];refine J4z Tryz.func217 fun E=> ?_;refine(X0l a _ oG).q ?_;rw[ha];refine K4w ?_;refine(X0l b _ oG).q ?_;rw[hb];refine K4w ?_;refine(K0x _ _).q ?_;rw[hp];have hbl:((b.w.length:Int)==0)=true:=(by rw[h0];rfl);simp-dsimp only[go_sem,hbl]
 try rfl
 have hq:W0n a b p up=divN a b p up:=by unfold W0n;rw[if_neg h0]
 rw[hq];exact K1e a b p up st ha hb hp (Nat.pos_of_ne_zero fun e=>h0 ((X0b hb).1 e))
theorem H0j (a b:Nm)(p:Int)(up:Bool)(st:Q0g)(ha:Q0h a=true)(hb:Q0h b=true)(hp:Z0b p=true):PR 279 [.sc (.int .i64 3),.agg (encN a),.agg (encN b),.sc (.int .i64 p),.sc (.bool up)] st (.tup [.agg (encN (W0n a b p up).1),.sc (.int .i64 (W0n a b p up).2)]):=by
 refine Q0b none Tryz.func279 rfl fun E=>Q0a ?_;have e0: ∀x y:Nm,[PV.agg [.sc (.bool x.neg),.sc (.int .i64 x.exp),.sl .no (encW x.w)],.agg [.sc (.bool y.neg),.sc (.int .i64 y.exp),.sl .no (encW y.w)]]=Q0t [x,y]:=fun x y=>rfl;simp-dsimp only[go_sem,e0];refine(J3d p [a,b] _ (by simp) (fun i hi=>by
  match i,hi with
  | 0,_=>exact Q0o ha
  | 1,_=>exact Q0o hb)).mono ?_
 rintro r st ⟨rfl,rfl⟩;have hf: ∀x:Bool,x=false->(PV.sc (.bool x))= .sc (.bool false):=fun x h=>(by rw[h]);refine K4a (fun h=> ?_) (fun h=> ?_);exfalso;simp[ha,hb,hp] at h;obtain⟨q,rfl,q1,q2,q3⟩:=J0w hp;have d1:=J0c ha;have d2:=J0c hb;have hbz:b.w= []<->(ofN b).m=0:=(X0b hb).symm;have hqv: ∀x y:Vl,(x=ofN a)->(y=ofN b)->divN a b q up=numV (Z0o (ratV x y q) q up):=fun x y hx hy=>(by rw[hx,hy,divN,q3]);refine K4w ?_;refine Y0b Z0c 49 [0,1,2,3] [4,5] [6,7] (.step 0 [] (.step 2 [] (.step 1 [2] (.step 3 [] (.done))))) (.step 6 [] (.step 7 [] (.done))) (by decide+kernel) (by simp) ?_;refine K4w ?_;refine(of_c a _ (K0j ha)).Q ?_;refine(of_c b _ (K0j hb)).q ?_;unfold W0n;generalize hx:ofN a=x at*
 generalize hy:ofN b=y at*
 have t3:((3:Int)==3)=true:=rfl;by_cases hz:y.m=0;rw[if_pos (hbz.2 hz)];have f1:(((Q0f y.m).length:Int)==0)=true:=(by rw[hz,Z0q];rfl);simp-dsimp only[go_sem,t3,f1]
 try rfl
 rw[if_neg (fun e=>hz (hbz.1 e)),hqv x y rfl rfl];have f1:(((Q0f y.m).length:Int)==0)=false:=beq_eq_false_iff_ne.2 (fun e=>hz (digitsOf_nil.1 (List.eq_nil_of_length_eq_zero oG)));simp-dsimp only[go_sem,t3,f1];refine(Y3l x y q up _ d1 d2 (Nat.pos_of_ne_zero hz) oG).q ?_;have e1:=j2l d1 d2 (p:=q) oG;have e2:=V0v e1 q up;refine K4w ?_;refine(X1b _ _ (X0x e2 oG)).Q0
end Go.Pv
end
