/- Parts of the walk: N15, N16, G4, M38. -/
import Derived.Test.YthichlfphjbadaaGreatZAD
import Derived.Test.YthichlfphjbadaaGreatZE
import Derived.Test.YthichlfphjbadaaGreatZM
import Derived.Test.YthichlfphjbadaaGreatZY
set_option linter.unusedVariables false
set_option linter.unusedSimpArgs false
section
/-Boxes:Of,Has,widths,Wide,blown,Blow,with,Halve. -/
set_option maxRecDepth 100000
namespace Go.Pv
open Go.Proofs
def wNs (l:List Nm):Prop:=l.length≤100000000000∧ ∀i,i<l.length→wN (l.getD i default)
theorem z2z (q:List Nm) (i:Nat) (h:i<q.length):ofB (q.take (i+1))=ofB (q.take i)++ [⟨q.getD i default,q.getD i default⟩]:=by
 unfold ofB
 rw [Y0d q i default h,List.map_append];rfl
end Go.Pv
end
section
/-The document's Bits,Mul,By,Whole,Round,Exact. -/
set_option maxRecDepth 100000
namespace Go.Pv
open Go.Proofs
theorem G2n (x n:Nat) (hx:0<x):Q0j x=Q0j (x/2)+1:=by
 by_cases h:x/2=0
 · have:x=1:=by omega
   subst this;rfl
 · exact z0m x 1 (by simpa using h)
theorem G2q (m:Nat) (h:(Q0d m).length≠0):Q0j m=32*((Q0d m).length-1)+Q0j ((Q0d m).getD ((Q0d m).length-1) 0).toNat:=by
 have h0:m≠0:=fun e=>h (by rw [e,Z0v];rfl)
 have hv:=Z0e m
 have hsp:=W0z (Q0d m) ((Q0d m).length-1) (by omega)
 have hd:valD ((Q0d m).drop ((Q0d m).length-1))=((Q0d m).getD ((Q0d m).length-1) 0).toNat:=by
  rw [k0j _ _ (by omega),q0j _ _ (by omega)];rfl
 rw [hd,hv] at hsp
 have hl:=w0b ((Q0d m).take ((Q0d m).length-1))
 rw [List.length_take,Nat.min_eq_left (by omega)] at hl
 have hne:((Q0d m).getD ((Q0d m).length-1) 0).toNat≠0:=by
  have hc:cutD (Q0d m)=Q0d m:=q0b m
  have:=(x1e (Q0d m) (fun e=>h (by rw [e];rfl))).1 (by rw [hc])
  exact fun e=>this ((z0t _).2 e)
 rw [q1o] at hsp hl
 conv=>lhs;rw [hsp]
 exact Y1e _ _ _ hl hne
theorem V2h (m:Nat) (st:Q0g) (hm:(Q0d m).length≤1000000000000):PCalls Tryz.prog 189 [.sl .no (encD (Q0d m))] st (fun r st'=>r= .sc (.int .i64 (Q0j m:Nat))∧st'=st):=by
 refine Q0b none Tryz.func189 rfl fun E=>Q0a ?_
 simp -dsimp only [go_sem]
 refine ck (fun h=> ?_) (fun h=> ?_)
 · have h0:(Q0d m).length=0:=Y0z (b:=0) h
   have hm0:m=0:=digitsOf_nil.1 (List.length_eq_zero_iff.1 h0)
   simp -dsimp only [go_sem]
   rw [hm0];rfl
 · have h0:(Q0d m).length≠0:=G0f (b:=0) h
   have hb:=G2q m h0
   have g1:=K0g (Q0d m) ((Q0d m).length-1) (by omega)
   generalize Q0d m=l at*
   have x1:IntKind.i64.wrap ((l.length:Int)-1)=((l.length-1:Nat):Int):=by
    rw [show(l.length:Int)-1=((l.length-1:Nat):Int) from by omega,Q0k _ (by omega)]
   have x2:IntKind.i64.wrap (32*((l.length-1:Nat):Int))=((32*(l.length-1):Nat):Int):=by
    rw [show 32*((l.length-1:Nat):Int)=((32*(l.length-1):Nat):Int) from by omega,Q0k _ (by omega)]
   have w:=UInt32.toNat_lt (l.getD (l.length-1) 0)
   simp -dsimp only [go_sem,x1,x2,g1]
   refine⟨⟨by omega,by omega⟩,?_⟩
   generalize (l.getD (l.length-1) 0).toNat=x0 at*
   refine Q0e [false,false,false,true,true] 0 0
    (fun n s'=> ∃(k:Nat),n<4294967296∧k+Q0j n=Q0j m∧s'=⟨[.junk,.junk,.junk,.sc (.int .i64 (k:Nat)),.sc (.int .u32 (n:Nat))]++List.replicate 20 .junk,[],[],st⟩) x0 ?_ ?_
   · simp -dsimp only [go_sem]
     exact⟨32*(l.length-1),by omega,hb.symm,rfl⟩
   · have hbm:Q0j m≤32*1000000000000:=by
      have:=x1o x0 (by omega)
      omega
     rintro n s' ⟨k,hx,hk,rfl⟩
     simp -dsimp only [go_sem]
     refine ck (fun h=> ?_) (fun h=> ?_)
     · have hp:0<n:=by have:=of_decide_eq_true h;omega
       have hs:=G2n n 0 hp
       have x3:IntKind.i64.wrap ((k:Int)+1)=((k+1:Nat):Int):=by
        rw [show((k:Int)+1)=((k+1:Nat):Int) from rfl,Q0k _ (by omega)]
       have x4:bShr .u32 (n:Int) 1=((n/2:Nat):Int):=Q2a n 1 (by omega)
       simp -dsimp only [go_sem,x3,x4]
       exact⟨n/2,by omega,k+1,by omega,by omega,rfl⟩
     · have hz:n=0:=by have:=of_decide_eq_false h;omega
       simp -dsimp only [go_sem]
       refine Q0a ?_
       simp -dsimp only [go_sem]
       rw [hz,K0t] at hk
       rw [←hk];rfl
theorem j1e (v:Vl) (p:Nat) (up:Bool) (st:Q0g) (hv:smV v) (hp:p≤1000000000):PCalls Tryz.prog 181 [.agg (encV v),.sc (.int .i64 p),.sc (.bool up)] st (fun r st'=>r= .agg (encV (Z0h v p up))∧st'=st):=by
 obtain⟨v1,v2,v3⟩:=hv
 have lv:=X0m v.m
 have x1:IntKind.i64.wrap ((Q0j v.m:Int)-(p:Int))=(Q0j v.m:Int)-(p:Int):=Q0p _ (by omega) (by omega)
 refine Q0b none Tryz.func181 rfl fun E=>Q0a ?_
 simp -dsimp only [go_sem]
 refine(V2h v.m _ (by omega)).mono ?_
 rintro r st ⟨rfl,rfl⟩
 simp -dsimp only [go_sem,x1]
 refine ck (fun h=> ?_) (fun h=> ?_)
 · have hle:Q0j v.m≤p:=by have:=of_decide_eq_true h;omega
   simp -dsimp only [go_sem]
   rw [Z0h,if_pos hle]
 · have hgt:p<Q0j v.m:=by have:=of_decide_eq_false h;omega
   have x2:(Q0j v.m:Int)-(p:Int)=((Q0j v.m-p:Nat):Int):=by omega
   rw [Z0h,if_neg (by omega)]
   obtain⟨d,hd⟩: ∃d,d=Q0j v.m-p:=⟨_,rfl⟩
   rw [x2,←hd]
   have x3:IntKind.i64.wrap (v.e+((d:Nat):Int))=v.e+((d:Nat):Int):=Q0p _ (by omega) (by omega)
   have lq:=J0w (Nat.div_le_self v.m (2^d))
   have lq2:=X0m (v.m/2^d)
   have lq3:=W0e (v.m/2^d) 1
   have b1:Q0j 1=1:=rfl
   simp -dsimp only [go_sem]
   refine(H1w v.m d _ (by omega) (by omega)).mono ?_
   rintro r st ⟨rfl,rfl⟩
   cases hc:decide (v.m % 2^d≠0) with
   | false=>
    have hz: ¬v.m % 2^d≠0:=of_decide_eq_false hc
    rw [if_neg (fun h=>hz h.1),Nat.add_zero]
    simp -dsimp only [go_sem,x3]
    refine(j1z v.neg (v.m/2^d) _ _ (by omega) (by omega) (by omega)).mono ?_
    rintro r st ⟨rfl,rfl⟩
    simp -dsimp only [go_sem]
   | true=>
    have hz:v.m % 2^d≠0:=of_decide_eq_true hc
    cases hu:(!up==v.neg) with
    | false=>
     have he:up=v.neg:=by cases up<;>cases hn:v.neg<;>simp_all
     rw [if_neg (fun h=>h.2 he),Nat.add_zero]
     simp -dsimp only [go_sem,x3,hu]
     refine(j1z v.neg (v.m/2^d) _ _ (by omega) (by omega) (by omega)).mono ?_
     rintro r st ⟨rfl,rfl⟩
     simp -dsimp only [go_sem]
    | true=>
     have hne:up≠v.neg:=by cases up<;>cases hn:v.neg<;>simp_all
     rw [if_pos ⟨hz,hne⟩]
     have e1: [PV.sc (.int .u32 1)]=encD (Q0d 1):=by
      rw [show Q0d 1= [1] from by decide+kernel];rfl
     simp -dsimp only [go_sem,x3,hu]
     rw [e1]
     refine(v1y (v.m/2^d) 1 _ (by omega) (by decide+kernel)).mono ?_
     rintro r st ⟨rfl,rfl⟩
     simp -dsimp only [go_sem,x3]
     refine(j1z v.neg (v.m/2^d+1) _ _ (by omega) (by omega) (by omega)).mono ?_
     rintro r st ⟨rfl,rfl⟩
     simp -dsimp only [go_sem]
end Go.Pv
end
section
/-The type of a slice of numbers. -/
namespace Go.Pv
open Go.Proofs
theorem W2p {k k':Nat} {l:List Nm} (h:okL okN k l) (hk:k≤k'):okL okN k' l:=⟨Nat.le_trans h.1 hk,fun i hi=>H0r (h.2 i hi) hk⟩
theorem v2o :Ty Tryz.prog 38 1 (fun l:List Nm=> [.sl .no (Q0w l)]) (okL okN):=
 y0n (Q1l Tryz.underlying38 (by kernel_rfl) J2z (by decide) (fun c=> .agg (encN c)) (fun _=>rfl)) id (fun _=>rfl) (fun _=>rfl) (fun _ _ h=>h) (fun h hk=>W2p h hk)
end Go.Pv
end
section
/-Lists of small intervals. No program in it. -/
namespace Go.Pv
def smB (b:List Ivl):Prop:=1≤b.length∧b.length≤4∧ ∀i,i<b.length→smI (b.getD i default)
theorem smB.right {b:List Ivl} (h:smB b):rightB b=true:=K0a (fun i hi=>(h.2.2 i hi).1) h.1 h.2.1
theorem Z2p {p:Nat} (h1:8≤p) (h2:p≤256):Z0q (p:Int)=true:=by
 unfold Z0q
 simp only [Bool.and_eq_true,decide_eq_true_eq]
 omega
end Go.Pv
end
