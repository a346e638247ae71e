/- Parts of the walk: H1, H2, H3, H10. -/
import Derived.Test.YtldalepagmhnmaaGreatDoorZH
import Derived.Test.YtldalepagmhnmaaGreatDoorZK
set_option linter.unusedVariables false
set_option linter.unusedSimpArgs false
section
set_option maxRecDepth 100000
namespace Go.Pv
open Go.Proofs
theorem W3a (m:Nat)(st:Q0g)(hm:(Q0f m).length<=1000000000000):PR 221 [.sl .no (encD (Q0f m))] st (.sl .no (encW (Q0p m))):=by
 rw[<-w2o m];obtain⟨a,ha⟩: ∃a,a=Q0f m:=⟨_,rfl⟩;rw[<-ha] at hm⊢;refine J4z Tryz.func221 fun E=> ?_;refine Z0j 3 1 ?_;refine K4w ?_;refine Q0d [true,false,false,true,true] 0 1 (fun n s=> ∃k,n=a.length+1-2*k/\2*k<=a.length+1/\
  s=⟨[.sl .no (encD a),.junk,.junk,.sl (.own 0) (encW (pk a k)),.sc (.int .i64 (2*k:Nat))]++jk 31,[],[((pk a k).length,1)],st⟩) (a.length+1) ?_ ?_
 refine K4w ?_;exact⟨0,oG,oG,rfl⟩;rintro n s ⟨k,rfl,hk,rfl⟩;refine K4a (fun h=> ?_) (fun h=> ?_);have hlt:2*k<a.length:=(oT h);have g1:=J0h a (2*k) hlt;have h1:=(a.getD (2*k) 0).toNat_lt;have h2:=(a.getD (2*k+1) 0).toNat_lt;have x1:IntKind.i64.wrap (((2*k:Nat):Int)+1)=((2*k+1:Nat):Int):=(by rw[show(((2*k:Nat):Int)+1)=((2*k+1:Nat):Int) from rfl,Q0n _ oG]);have x2:IntKind.i64.wrap (((2*k:Nat):Int)+2)=((2*(k+1):Nat):Int):=(by rw[show(((2*k:Nat):Int)+2)=((2*(k+1):Nat):Int) from oG,Q0n _ oG]);have w1:IntKind.u64.wrap ((a.getD (2*k) 0).toNat:Int)=((a.getD (2*k) 0).toNat:Int):=K0p _ oG;have w2:IntKind.u64.wrap ((a.getD (2*k+1) 0).toNat:Int)=((a.getD (2*k+1) 0).toNat:Int):=K0p _ oG;have ew:=w1r a k;have en:=w1s a k;have pl:=q0j a k;simp-dsimp only[go_sem,g1,x1,w1];refine⟨oG,?_⟩;refine ck (fun h5=> ?_) (fun h5=> ?_);have hlt2:2*k+1<a.length:=(oT h5);have g2:=J0h a (2*k+1) hlt2;have s1:bOr .u64 ((a.getD (2*k) 0).toNat:Int) (bShl .u64 ((a.getD (2*k+1) 0).toNat:Int) 32)=((UInt64.ofNat ((a.getD (2*k) 0).toNat+4294967296*(a.getD (2*k+1) 0).toNat)).toNat:Int):=(by rw[ew,show(32:Int)=((32:Nat):Int) from rfl,H0v _ 32 oG,W1w _ _ oG (Nat.mod_lt _ (by decide)),K1y _ _ 32 oG (v0m _ 32 oG)];congr 1;omega);simp-dsimp only[go_sem,x1,x2,g2,w2,s1];refine⟨oG,oG,a.length+1-2*(k+1),oG,k+1,rfl,oG,by rw[en];simp⟩;have h0:a.getD (2*k+1) 0=0:=z0l _ _ _ (oF h5);have s1:((a.getD (2*k) 0).toNat:Int)=((UInt64.ofNat ((a.getD (2*k) 0).toNat+4294967296*(a.getD (2*k+1) 0).toNat)).toNat:Int):=(by rw[ew,h0];rfl);simp-dsimp only[go_sem,x2];rw[s1,z2v,<-en];refine⟨oG,a.length+1-2*(k+1),oG,k+1,rfl,oG,by simp[q0j]⟩;have hge:k=(a.length+1)/2:=(oF h);refine K4w ?_;refine U0l [false,false,false,true] (Q0a ?_);refine K4w ?_;rw[hge]
theorem X1b (v:Vl)(st:Q0g)(hm:(Q0f v.m).length<=1000000000000):PR 157 [.agg (encV v)] st (.tup [.agg (encN (numV v).1),.sc (.int .i64 (numV v).2)]):=by refine J4z Tryz.func157 fun E=> ?_;refine ck (fun h=> ?_) (fun h=> ?_);have h0:v.m=0:=digitsOf_nil.1 (List.length_eq_zero_iff.1 (G0r (b:=0) h));refine K4w ?_;rw[numV,if_pos h0];rfl;have h0:v.m≠0:=fun e=>k0t (b:=0) h (by rw[e,Z0q];rfl);refine K4w ?_;refine(W3a v.m st hm).Q ?_;have bad:64<(Q0p v.m).length\/v.e< -65536\/65536<v.e->numV v=(default,2):=fun h=>(by rw[numV,if_neg h0,if_pos h]);refine gkF (fun h1=> ?_) (fun h1=> ?_);have h1':=q_c h1;simp-dsimp only[go_sem,h1];refine gkF (fun h2=> ?_) (fun h2=> ?_);have h2':=q_c h2;simp-dsimp only[go_sem,h1,h2];refine ck (fun h3=> ?_) (fun h3=> ?_);have h3':=q_b h3;refine K4w ?_;rw[bad oG];rfl;have h3':=q_c h3;refine K4w ?_;rw[numV,if_neg h0,if_neg oG];have h2':=q_b h2;simp-dsimp only[go_sem,h1,h2];rw[bad oG];rfl;have h1':=q_b h1;simp-dsimp only[go_sem,h1];rw[bad oG];rfl
theorem W2q (a b:Vl)(st:Q0g)(ha:smV a)(hb:smV b):PR 307 [.sc (.int .i64 0),.agg (encV a),.agg (encV b)] st (.agg (encV (U0v a b))):=by refine J4z Tryz.func307 fun E=> ?_;refine(j1d a b st ha hb).Q0
def dk (l:List UInt64)(i:Nat):List PV:= [.sl .no (encW l),.sc (.int .i64 i)]
def nx (l:List UInt64)(i n:Nat):Nat:=(l.getD i 0).toNat % n
theorem Y3x (x:Nm)(st:Q0g):PR 64 [.agg (encN x)] st (.agg (encI ⟨x,x⟩)):=by refine Q0b none Tryz.func64 rfl fun E=>Q0a ?_;exact K4v
def absN (x:Nm):Nm:=if Q0h x=true then⟨false,x.exp,x.w⟩ else default
theorem K0n (x:Nm):Q0h (absN x)=true:=by unfold absN;split;rename_i h;unfold Q0h at h⊢;simp only at h⊢;split;rename_i hw;rw[if_pos hw] at h;simp at h;simp[h];rename_i hw;rw[if_neg hw] at h;exact h;exact K0f
theorem Q3c (x:Nm):0<=mant (absN x):=by unfold absN mant;split;simp;decide
theorem J3g (x:Nm)(st:Q0g)(hw:wN x):PR 99 [.agg (encN x)] st (.agg (encN (absN x))):=by unfold wN at hw;refine J4z Tryz.func99 fun E=> ?_;refine(K0y x st oG).Q ?_;refine ck (fun h=> ?_) (fun h=> ?_);have hr:Q0h x=false:=(by simpa using h);refine K4w ?_;rw[absN,if_neg (by simp[hr])];rfl;have hr:Q0h x=true:=(by simpa using h);refine K4w ?_;rw[absN,if_pos hr]
end Go.Pv
end
