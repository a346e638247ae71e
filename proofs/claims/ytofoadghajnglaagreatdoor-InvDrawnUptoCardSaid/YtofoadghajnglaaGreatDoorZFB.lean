/- Parts of the walk: M83, N136, N137, N138, N139. -/
import Derived.Test.YtofoadghajnglaaGreatDoorZFA
import Derived.Test.YtofoadghajnglaaGreatDoorZBE
import Derived.Test.YtofoadghajnglaaGreatDoorZAB
import Derived.Test.YtofoadghajnglaaGreatDoorZBQ
import Derived.Test.YtofoadghajnglaaGreatDoorZBR
set_option linter.unusedVariables false
set_option linter.unusedSimpArgs false
section
/-Division word by word:the divisor is moved up until its highest bit is one;the highest words. No program in it. -/
namespace Go.Pv
theorem j2p {B:Nat} (hB:B=18446744073709551616) {v:List UInt64} {n:Nat} (hv:v.length≤n+2) (h:B^(n+1)≤valW v):v.length=n+2∧0<(v.getD (n+1) 0).toNat:=by
 have h1:=X0b v
 rw [←hB] at h1
 have hl:v.length=n+2:=by
  refine Classical.byContradiction fun hn=> ?_
  have:B^v.length≤B^(n+1):=Nat.pow_le_pow_right (by omega) (by omega)
  omega
 refine⟨hl,?_⟩
 have h2:=top1 hB v (n+1) (by omega)
 rw [List.take_of_length_le (by omega)] at h2
 refine Nat.pos_of_ne_zero fun e=> ?_
 rw [e,Nat.zero_mul] at h2
 omega
theorem Q2a {B:Nat} (hB:B=18446744073709551616) {b:List UInt64} {n s:Nat} (hb:b.length=n+2) (ht:0<(b.getD (n+1) 0).toNat) (hs:s=64-Q0h (b.getD (n+1) 0).toNat):
 s≤63∧valW b*2^s<B^(n+2)∧9223372036854775808*B^(n+1)≤valW b*2^s∧(Q0n (valW b*2^s)).length=n+2∧0<((Q0n (valW b*2^s)).getD (n+1) 0).toNat:=by
 have h2:=top1 hB b (n+1) (by omega)
 rw [List.take_of_length_le (by omega)] at h2
 have hlt:=(b.getD (n+1) 0).toNat_lt
 generalize (b.getD (n+1) 0).toNat=t at*
 have hb64:Q0h t≤64:=bitlen_le_iff.2 (by omega)
 have hb0:0<Q0h t:=Y0v (by omega)
 have p1:(t+1)*2^s≤18446744073709551616:=by
  have h1:=Z0c t
  have h3:2^Q0h t*2^s=18446744073709551616:=by rw [←Nat.pow_add,show Q0h t+s=64 by omega]
  rw [←h3]
  exact Nat.mul_le_mul_right _ h1
 have p2:9223372036854775808≤t*2^s:=by
  have h1:2^(Q0h t-1)≤t:=K0f (by omega)
  have h3:2^(Q0h t-1)*2^s=9223372036854775808:=by rw [←Nat.pow_add,show Q0h t-1+s=63 by omega]
  rw [←h3]
  exact Nat.mul_le_mul_right _ h1
 have hP:=Nat.two_pow_pos s
 have a1:valW b*2^s<B^(n+2):=by
  have h3:valW b<(t+1)*B^(n+1):=by rw [Nat.add_mul,Nat.one_mul];omega
  have h4:valW b*2^s<(t+1)*B^(n+1)*2^s:=Nat.mul_lt_mul_of_pos_right h3 hP
  have h5:(t+1)*B^(n+1)*2^s=(t+1)*2^s*B^(n+1):=Nat.mul_right_comm _ _ _
  have h6:(t+1)*2^s*B^(n+1)≤B*B^(n+1):=Nat.mul_le_mul_right _ (by omega)
  have h7:B^(n+2)=B*B^(n+1):=by rw [Nat.pow_succ,Nat.mul_comm]
  omega
 have a2:9223372036854775808*B^(n+1)≤valW b*2^s:=by
  have h3:t*B^(n+1)≤valW b:=by omega
  have h4:t*B^(n+1)*2^s≤valW b*2^s:=Nat.mul_le_mul_right _ h3
  have h5:t*B^(n+1)*2^s=t*2^s*B^(n+1):=Nat.mul_right_comm _ _ _
  have h6:9223372036854775808*B^(n+1)≤t*2^s*B^(n+1):=Nat.mul_le_mul_right _ p2
  omega
 refine⟨by omega,a1,a2,?_⟩
 have hle:(Q0n (valW b*2^s)).length≤n+2:=Z0r (by rw [←hB];exact a1)
 exact j2p hB hle (by rw [Q0z];omega)
theorem K3i {B:Nat} (hB:B=18446744073709551616) {v o:List UInt64} {n:Nat} (hv:v.length=n+2) (ho:o.length=n+3) (h:valW o<valW v*B):(o.getD (n+2) 0).toNat≤(v.getD (n+1) 0).toNat:=by
 have h1:=top1 hB v (n+1) (by omega)
 rw [List.take_of_length_le (by omega)] at h1
 have h2:=top1 hB o (n+2) (by omega)
 rw [List.take_of_length_le (by omega)] at h2
 generalize (o.getD (n+2) 0).toNat=x at*
 generalize (v.getD (n+1) 0).toNat=y at*
 have h3:valW v<(y+1)*B^(n+1):=by rw [Nat.add_mul,Nat.one_mul];omega
 have h4:valW v*B<(y+1)*B^(n+1)*B:=Nat.mul_lt_mul_of_pos_right h3 (by omega)
 have h5:(y+1)*B^(n+1)*B=(y+1)*B^(n+2):=by rw [Nat.pow_succ B (n+1),Nat.mul_assoc]
 have h6:x*B^(n+2)<(y+1)*B^(n+2):=by omega
 have:=Nat.lt_of_mul_lt_mul_right h6
 omega
theorem Q2u {B v1 u2 u1:Nat} (hB:0<B) (h1:u1<B):(V0i B v1 u2 u1).1<B:=by
 unfold V0i
 split
 · rename_i hc
   show(u2*B+u1)/v1<B
   refine Nat.div_lt_of_lt_mul ?_
   have:=Nat.mul_le_mul_right B (show u2+1≤v1 from hc)
   rw [Nat.add_mul,Nat.one_mul] at this
   omega
 · show B-1<B
   omega
theorem V2i {B a V la n s:Nat} (hB:B=18446744073709551616) (ha:a<B^la) (hs:s≤63) (hla:n+2≤la) (hV:9223372036854775808*B^(n+1)≤V):a*2^s<V*B^(la-(n+2)+1):=by
 have hP:2^s≤2^63:=Nat.pow_le_pow_right (by decide) hs
 have h1:a*2^s≤a*9223372036854775808:=Nat.mul_le_mul_left _ hP
 have h2:9223372036854775808*B^(n+1)*B^(la-(n+2)+1)≤V*B^(la-(n+2)+1):=Nat.mul_le_mul_right _ hV
 have h3:9223372036854775808*B^(n+1)*B^(la-(n+2)+1)=9223372036854775808*B^la:=by
  rw [Nat.mul_assoc,←Nat.pow_add,show n+1+(la-(n+2)+1)=la by omega]
 omega
end Go.Pv
end
section
/-math/bits.Div64 by any divisor. -/
set_option maxRecDepth 100000
namespace Go.Pv
open Go.Proofs
set_option maxHeartbeats 4000000 in
theorem x2d (hi lo d s s' y y1 y0 a b u32 u10 u1 u0 qa pa ra q1 A B p2 u21 qb pb rb q0 C D E1 F G Q R:Nat) (st:Q0f) (hd:d<18446744073709551616) (hhi:0<hi)
 (f1:((d:Int)==0)=false) (f2:decide ((d:Int)≤(hi:Int))=false) (f3:((hi:Int)==0)=false)
 (n1:IntKind.u64.wrap ((64-Q0h d:Nat):Int)=(s:Int)) (n2:bShl .u64 (d:Int) (s:Int)=(y:Int)) (n3:bShr .u64 (y:Int) 32=(y1:Int)) (n4:bAnd .u64 (y:Int) 4294967295=(y0:Int))
 (n5:bShl .u64 (hi:Int) (s:Int)=(a:Int)) (n6:IntKind.u64.wrap (64-(s:Int))=(s':Int)) (n7:bShr .u64 (lo:Int) (s':Int)=(b:Int)) (n8:bOr .u64 (a:Int) (b:Int)=(u32:Int))
 (n9:bShl .u64 (lo:Int) (s:Int)=(u10:Int)) (n10:bShr .u64 (u10:Int) 32=(u1:Int)) (n11:bAnd .u64 (u10:Int) 4294967295=(u0:Int)) (n12:((y1:Int) !=0)=true)
 (n13:IntKind.u64.wrap ((u32:Int).tdiv (y1:Int))=(qa:Int)) (n14:IntKind.u64.wrap ((qa:Int)*(y1:Int))=(pa:Int)) (n15:IntKind.u64.wrap ((u32:Int)-(pa:Int))=(ra:Int))
 (b1:y1<4294967296) (b2:y0<4294967296) (b3:u1<4294967296) (b4:u0<4294967296) (b5:ra<4294967296) (b6:qa≤4294967297) (b7:rb<4294967296) (b8:qb≤4294967297)
 (g1:(v0n 4294967296 y1 y0 u1 qa ra).1=q1) (g2:(v0n 4294967296 y1 y0 u0 qb rb).1=q0)
 (n16:IntKind.u64.wrap ((u32:Int)*4294967296)=(A:Int)) (n17:IntKind.u64.wrap ((A:Int)+(u1:Int))=(B:Int)) (n18:IntKind.u64.wrap ((q1:Int)*(y:Int))=(p2:Int)) (n19:IntKind.u64.wrap ((B:Int)-(p2:Int))=(u21:Int))
 (n20:IntKind.u64.wrap ((u21:Int).tdiv (y1:Int))=(qb:Int)) (n21:IntKind.u64.wrap ((qb:Int)*(y1:Int))=(pb:Int)) (n22:IntKind.u64.wrap ((u21:Int)-(pb:Int))=(rb:Int))
 (n23:IntKind.u64.wrap ((q1:Int)*4294967296)=(C:Int)) (n24:IntKind.u64.wrap ((C:Int)+(q0:Int))=(Q:Int)) (n25:IntKind.u64.wrap ((u21:Int)*4294967296)=(D:Int)) (n26:IntKind.u64.wrap ((D:Int)+(u0:Int))=(E1:Int))
 (n27:IntKind.u64.wrap ((q0:Int)*(y:Int))=(F:Int)) (n28:IntKind.u64.wrap ((E1:Int)-(F:Int))=(G:Int)) (n29:bShr .u64 (G:Int) (s:Int)=(R:Int)):PCalls Tryz.prog 276 [.sc (.int .u64 hi),.sc (.int .u64 lo),.sc (.int .u64 d)] st
 (fun r st'=>r= .tup [.sc (.int .u64 Q),.sc (.int .u64 R)]∧st'=st):=by
 refine Q0b none Tryz.func276 rfl fun E=>Q0l (Q0a ?_)
 simp -dsimp only [go_sem]
 refine Q0l (Q0a ?_)
 simp -dsimp only [go_sem,f1]
 refine Q0l (Q0a ?_)
 simp -dsimp only [go_sem,f2]
 refine Q0l (Q0a ?_)
 simp -dsimp only [go_sem,f3]
 refine Q0l (Q0a ?_)
 simp -dsimp only [go_sem]
 refine(k2f d hd st).mono ?_
 rintro r st ⟨rfl,rfl⟩
 simp -dsimp only [go_sem,n1]
 refine Q0l (Q0a ?_)
 simp -dsimp only [go_sem,n1,n2,n3,n4,n5,n6,n7,n8,n9,n10,n11,n12,n13,n14,n15]
 refine⟨by omega,?_⟩
 refine Q0l (Q0a ?_)
 simp -dsimp only [go_sem,n1,n2,n3,n4,n5,n6,n7,n8,n9,n10,n11,n12,n13,n14,n15]
 refine Q0l (Q0a ?_)
 simp -dsimp only [go_sem,n1,n2,n3,n4,n5,n6,n7,n8,n9,n10,n11,n12,n13,n14,n15]
 refine Q0l (Q0a ?_)
 simp -dsimp only [go_sem,n1,n2,n3,n4,n5,n6,n7,n8,n9,n10,n11,n12,n13,n14,n15]
 refine⟨by omega,by omega,?_⟩
 refine Q0l (Q0a ?_)
 simp -dsimp only [go_sem,n1,n2,n3,n4,n5,n6,n7,n8,n9,n10,n11,n12,n13,n14,n15]
 refine⟨by omega,?_⟩
 refine Q0l (Q0a ?_)
 simp -dsimp only [go_sem,n1,n2,n3,n4,n5,n6,n7,n8,n9,n10,n11,n12,n13,n14,n15]
 refine Q0l (Q0a ?_)
 simp -dsimp only [go_sem,n1,n2,n3,n4,n5,n6,n7,n8,n9,n10,n11,n12,n13,n14,n15]
 refine Q0l (Q0a ?_)
 simp -dsimp only [go_sem,n1,n2,n3,n4,n5,n6,n7,n8,n9,n10,n11,n12,n13,n14,n15]
 refine Q0l (Q0a ?_)
 simp -dsimp only [go_sem,n1,n2,n3,n4,n5,n6,n7,n8,n9,n10,n11,n12,n13,n14,n15]
 refine V0w [false,false,true,false,false,false,false,false,true,true,true,true,false,true,true,true,false] 0 0 (fun z=>z=⟨[.junk,.junk,.sc (.int .u64 y),.junk,.junk,.junk,.junk,.junk,.sc (.int .u64 s),.sc (.int .u64 y1),.sc (.int .u64 y0),.sc (.int .u64 u32),.junk,.sc (.int .u64 u1),.sc (.int .u64 u0),.sc (.int .u64 (q1:Nat)),.junk]++List.replicate 118 .junk,[],[],st⟩) ?_ ?_
 · simp -dsimp only [go_sem]
   refine Q0e [false,false,true,false,false,false,false,false,true,true,true,true,false,true,true,true,true] 0 0 (fun m z=> ∃q r,m=q∧q≤4294967297∧r<4294967296∧(v0n 4294967296 y1 y0 u1 q r).1=q1∧z=⟨[.junk,.junk,.sc (.int .u64 y),.junk,.junk,.junk,.junk,.junk,.sc (.int .u64 s),.sc (.int .u64 y1),.sc (.int .u64 y0),.sc (.int .u64 u32),.junk,.sc (.int .u64 u1),.sc (.int .u64 u0),.sc (.int .u64 (q:Nat)),.sc (.int .u64 (r:Nat))]++List.replicate 118 .junk,[],[],st⟩) qa ?_ ?_
   · simp -dsimp only [go_sem]
     exact⟨qa,ra,rfl,by omega,by omega,g1,rfl⟩
   rintro m z ⟨q,r,rfl,hq,hr,hG,rfl⟩
   have w1:IntKind.u64.wrap (4294967296*(r:Int))=((4294967296*r:Nat):Int):=by rw [U0o];omega
   have w2:IntKind.u64.wrap (((4294967296*r:Nat):Int)+(u1:Int))=((4294967296*r+u1:Nat):Int):=by rw [U0o];omega
   have w3:IntKind.u64.wrap ((r:Int)+(y1:Int))=((r+y1:Nat):Int):=by rw [U0o];omega
   have down: ∀q2,m=q2+1→(4294967296≤m∨r*4294967296+u1<m*y0)→(if 4294967296≤r+y1 then q2 else(v0n 4294967296 y1 y0 u1 q2 (r+y1)).1)=q1:=by
    intro q2 e hc
    subst e
    rw [v0n,if_pos hc] at hG
    split at hG<;>rename_i hh<;>(first | rw [if_pos hh] | rw [if_neg hh])<;>exact hG
   have stop: ¬(4294967296≤m∨r*4294967296+u1<m*y0)→m=q1:=by
    intro hc
    cases m with
    | zero=>exact hG
    | succ q2=>rw [v0n,if_neg hc] at hG;exact hG
   simp -dsimp only [go_sem]
   by_cases p1:4294967296≤m
   · have f1:decide ((m:Int)≥4294967296)=true:=decide_eq_true (by omega)
     obtain⟨q2,hq2⟩: ∃q2,m=q2+1:=⟨m-1,by omega⟩
     have hd:=down q2 hq2 (.inl p1)
     have x8:IntKind.u64.wrap ((m:Int)-1)=((q2:Nat):Int):=by rw [U0o];omega
     simp -dsimp only [go_sem,f1,x8,w3]
     refine ck (fun h=> ?_) (fun h=> ?_)
     · have hh:4294967296≤r+y1:=by have:=of_decide_eq_true h;omega
       rw [if_pos hh] at hd
       simp -dsimp only [go_sem,hd]
     · have hh: ¬4294967296≤r+y1:=by have:=of_decide_eq_false h;omega
       rw [if_neg hh] at hd
       simp -dsimp only [go_sem]
       exact⟨q2,by omega,q2,r+y1,rfl,by omega,by omega,hd,rfl⟩
   · have f1:decide ((m:Int)≥4294967296)=false:=decide_eq_false (by omega)
     have hb:m*y0≤4294967295*4294967295:=Nat.mul_le_mul (by omega) (by omega)
     have w4:IntKind.u64.wrap ((m:Int)*(y0:Int))=((m*y0:Nat):Int):=by rw [←Int.natCast_mul,Z0w,Nat.mod_eq_of_lt (by omega)]
     by_cases p2:r*4294967296+u1<m*y0
     · have f2:decide (((m*y0:Nat):Int)>((4294967296*r+u1:Nat):Int))=true:=decide_eq_true (by omega)
       obtain⟨q2,hq2⟩: ∃q2,m=q2+1:=⟨m-1,by
        have:m≠0:=fun e=>by rw [e,Nat.zero_mul] at p2;omega
        omega⟩
       have hd:=down q2 hq2 (.inr p2)
       have x8:IntKind.u64.wrap ((m:Int)-1)=((q2:Nat):Int):=by rw [U0o];omega
       simp -dsimp only [go_sem,f1,x8,w1,w2,w3,w4,f2]
       refine ck (fun h=> ?_) (fun h=> ?_)
       · have hh:4294967296≤r+y1:=by have:=of_decide_eq_true h;omega
         rw [if_pos hh] at hd
         simp -dsimp only [go_sem,hd]
       · have hh: ¬4294967296≤r+y1:=by have:=of_decide_eq_false h;omega
         rw [if_neg hh] at hd
         simp -dsimp only [go_sem]
         exact⟨q2,by omega,q2,r+y1,rfl,by omega,by omega,hd,rfl⟩
     · have f2:decide (((m*y0:Nat):Int)>((4294967296*r+u1:Nat):Int))=false:=decide_eq_false (by omega)
       have hd:=stop (by omega)
       simp -dsimp only [go_sem,f1,w1,w2,w4,f2]
       rw [hd]
 rintro z rfl
 refine Q0l (Q0a ?_)
 simp -dsimp only [go_sem,n16,n17,n18,n19]
 refine Q0l (Q0a ?_)
 simp -dsimp only [go_sem,n20,n12]
 refine Q0l (Q0a ?_)
 simp -dsimp only [go_sem,n21,n22]
 refine V0w [false,false,true,false,false,false,false,false,true,true,true,false,false,false,true,true,false,true,true] 0 0 (fun z=>z=⟨[.junk,.junk,.sc (.int .u64 y),.junk,.junk,.junk,.junk,.junk,.sc (.int .u64 s),.sc (.int .u64 y1),.sc (.int .u64 y0),.junk,.junk,.junk,.sc (.int .u64 u0),.sc (.int .u64 q1),.junk,.sc (.int .u64 u21),.sc (.int .u64 (q0:Nat))]++List.replicate 116 .junk,[],[],st⟩) ?_ ?_
 · simp -dsimp only [go_sem]
   refine Q0e [false,false,true,false,false,false,false,false,true,true,true,false,false,false,true,true,true,true,true] 0 0 (fun m z=> ∃q r,m=q∧q≤4294967297∧r<4294967296∧(v0n 4294967296 y1 y0 u0 q r).1=q0∧z=⟨[.junk,.junk,.sc (.int .u64 y),.junk,.junk,.junk,.junk,.junk,.sc (.int .u64 s),.sc (.int .u64 y1),.sc (.int .u64 y0),.junk,.junk,.junk,.sc (.int .u64 u0),.sc (.int .u64 q1),.sc (.int .u64 (r:Nat)),.sc (.int .u64 u21),.sc (.int .u64 (q:Nat))]++List.replicate 116 .junk,[],[],st⟩) qb ?_ ?_
   · simp -dsimp only [go_sem]
     exact⟨qb,rb,rfl,by omega,by omega,g2,rfl⟩
   rintro m z ⟨q,r,rfl,hq,hr,hG,rfl⟩
   have w1:IntKind.u64.wrap (4294967296*(r:Int))=((4294967296*r:Nat):Int):=by rw [U0o];omega
   have w2:IntKind.u64.wrap (((4294967296*r:Nat):Int)+(u0:Int))=((4294967296*r+u0:Nat):Int):=by rw [U0o];omega
   have w3:IntKind.u64.wrap ((r:Int)+(y1:Int))=((r+y1:Nat):Int):=by rw [U0o];omega
   have down: ∀q2,m=q2+1→(4294967296≤m∨r*4294967296+u0<m*y0)→(if 4294967296≤r+y1 then q2 else(v0n 4294967296 y1 y0 u0 q2 (r+y1)).1)=q0:=by
    intro q2 e hc
    subst e
    rw [v0n,if_pos hc] at hG
    split at hG<;>rename_i hh<;>(first | rw [if_pos hh] | rw [if_neg hh])<;>exact hG
   have stop: ¬(4294967296≤m∨r*4294967296+u0<m*y0)→m=q0:=by
    intro hc
    cases m with
    | zero=>exact hG
    | succ q2=>rw [v0n,if_neg hc] at hG;exact hG
   simp -dsimp only [go_sem]
   by_cases p1:4294967296≤m
   · have f1:decide ((m:Int)≥4294967296)=true:=decide_eq_true (by omega)
     obtain⟨q2,hq2⟩: ∃q2,m=q2+1:=⟨m-1,by omega⟩
     have hd:=down q2 hq2 (.inl p1)
     have x8:IntKind.u64.wrap ((m:Int)-1)=((q2:Nat):Int):=by rw [U0o];omega
     simp -dsimp only [go_sem,f1,x8,w3]
     refine ck (fun h=> ?_) (fun h=> ?_)
     · have hh:4294967296≤r+y1:=by have:=of_decide_eq_true h;omega
       rw [if_pos hh] at hd
       simp -dsimp only [go_sem,hd]
     · have hh: ¬4294967296≤r+y1:=by have:=of_decide_eq_false h;omega
       rw [if_neg hh] at hd
       simp -dsimp only [go_sem]
       exact⟨q2,by omega,q2,r+y1,rfl,by omega,by omega,hd,rfl⟩
   · have f1:decide ((m:Int)≥4294967296)=false:=decide_eq_false (by omega)
     have hb:m*y0≤4294967295*4294967295:=Nat.mul_le_mul (by omega) (by omega)
     have w4:IntKind.u64.wrap ((m:Int)*(y0:Int))=((m*y0:Nat):Int):=by rw [←Int.natCast_mul,Z0w,Nat.mod_eq_of_lt (by omega)]
     by_cases p2:r*4294967296+u0<m*y0
     · have f2:decide (((m*y0:Nat):Int)>((4294967296*r+u0:Nat):Int))=true:=decide_eq_true (by omega)
       obtain⟨q2,hq2⟩: ∃q2,m=q2+1:=⟨m-1,by
        have:m≠0:=fun e=>by rw [e,Nat.zero_mul] at p2;omega
        omega⟩
       have hd:=down q2 hq2 (.inr p2)
       have x8:IntKind.u64.wrap ((m:Int)-1)=((q2:Nat):Int):=by rw [U0o];omega
       simp -dsimp only [go_sem,f1,x8,w1,w2,w3,w4,f2]
       refine ck (fun h=> ?_) (fun h=> ?_)
       · have hh:4294967296≤r+y1:=by have:=of_decide_eq_true h;omega
         rw [if_pos hh] at hd
         simp -dsimp only [go_sem,hd]
       · have hh: ¬4294967296≤r+y1:=by have:=of_decide_eq_false h;omega
         rw [if_neg hh] at hd
         simp -dsimp only [go_sem]
         exact⟨q2,by omega,q2,r+y1,rfl,by omega,by omega,hd,rfl⟩
     · have f2:decide (((m*y0:Nat):Int)>((4294967296*r+u0:Nat):Int))=false:=decide_eq_false (by omega)
       have hd:=stop (by omega)
       simp -dsimp only [go_sem,f1,w1,w2,w4,f2]
       rw [hd]
 rintro z rfl
 refine Q0a ?_
 simp -dsimp only [go_sem,n23,n24,n25,n26,n27,n28,n29]
 omega
theorem j1f {hi lo d P y b u32 u10 u1 u0 q1 u21 q0 R:Nat} (hd:0<d) (hh:hi<d) (hy:y=d*P) (hP:0<P) (hb:lo*P=u10+18446744073709551616*b) (hbl:b<P) (h3:u32=hi*P+b) (h4:u10=u1*4294967296+u0) (h5:u0<4294967296) (h6:u1<4294967296)
 (h7:q1=(u32*4294967296+u1)/y) (h8:u21=(u32*4294967296+u1) % y) (h9:q0=(u21*4294967296+u0)/y) (h10:R=(u21*4294967296+u0) % y):
 u32<y∧u21<y∧q1<4294967296∧q0<4294967296∧R<y∧q1*4294967296+q0=(hi*18446744073709551616+lo)/d∧R=(hi*18446744073709551616+lo) % d*P∧q1*y+u21=u32*4294967296+u1∧q0*y+R=u21*4294967296+u0:=by
 have hy0:0<y:=by rw [hy];exact Nat.mul_pos hd hP
 have e2:hi*P+P≤y:=by
  have:(hi+1)*P≤d*P:=Nat.mul_le_mul_right _ hh
  rw [Nat.add_mul,Nat.one_mul] at this
  omega
 have e3:u32<y:=by omega
 have e4:u21<y:=by rw [h8];exact Nat.mod_lt _ hy0
 have e5:R<y:=by rw [h10];exact Nat.mod_lt _ hy0
 have e6:q1<4294967296:=by
  rw [h7]
  refine Nat.div_lt_of_lt_mul ?_
  have:=Nat.mul_le_mul_right 4294967296 (show u32+1≤y from e3)
  omega
 have e7:q0<4294967296:=by
  rw [h9]
  refine Nat.div_lt_of_lt_mul ?_
  have:=Nat.mul_le_mul_right 4294967296 (show u21+1≤y from e4)
  omega
 have e8:q1*y+u21=u32*4294967296+u1:=by rw [h7,h8];exact Nat.div_add_mod' _ _
 have e9:q0*y+R=u21*4294967296+u0:=by rw [h9,h10];exact Nat.div_add_mod' _ _
 have e10:(hi*18446744073709551616+lo)*P=(q1*4294967296+q0)*y+R:=by
  have a1:(hi*18446744073709551616+lo)*P=18446744073709551616*(hi*P)+lo*P:=by rw [Nat.add_mul,Nat.mul_right_comm,Nat.mul_comm (hi*P)]
  have a2:(q1*4294967296+q0)*y=4294967296*(q1*y)+q0*y:=by rw [Nat.add_mul,Nat.mul_right_comm,Nat.mul_comm (q1*y)]
  rw [a1,a2,hb]
  generalize q1*y=X at*
  generalize q0*y=Y at*
  generalize hi*P=Z at*
  omega
 refine⟨e3,e4,e6,e7,e5,?_,?_,e8,e9⟩
 · have:=Nat.mul_div_mul_right (hi*18446744073709551616+lo) d hP
   rw [←this,e10,←hy,Nat.mul_comm _ y,Nat.mul_add_div hy0,Nat.div_eq_of_lt e5,Nat.add_zero]
 · have:=Nat.mul_mod_mul_right P (hi*18446744073709551616+lo) d
   rw [←this,e10,←hy,Nat.mul_comm _ y,Nat.mul_add_mod,Nat.mod_eq_of_lt e5]
set_option maxHeartbeats 4000000 in
theorem Y3q :U3n:=by
 intro hi lo d st hd hd2 hh hlo
 have f1:((d:Int)==0)=false:=beq_eq_false_iff_ne.2 (by omega)
 have f2:decide ((d:Int)≤(hi:Int))=false:=decide_eq_false (by omega)
 by_cases h0:hi=0
 · subst h0
   have f3:(((0:Nat):Int)==0)=true:=rfl
   have f4:((d:Int) !=0)=true:=by simp;omega
   refine Q0b none Tryz.func276 rfl fun E=>Q0a ?_
   simp -dsimp only [go_sem,f1,f2,f3]
   refine Q0k Z0f 135 (.step 0 [] (.step 1 [] (.step 2 [] (.step 3 [] (.step 4 [] (.step 5 [] (.step 6 [] (.step 7 [] (.done))))))))) (by decide+kernel) (by simp) ?_
   have hq:lo/d<18446744073709551616:=Nat.lt_of_le_of_lt (Nat.div_le_self _ _) hlo
   simp -dsimp only [go_sem,f4]
   rw [U0u,U0t,Z0w,Nat.mod_eq_of_lt hq]
 have f3:((hi:Int)==0)=false:=beq_eq_false_iff_ne.2 (by omega)
 have hb64:Q0h d≤64:=bitlen_le_iff.2 (by omega)
 have hb0:0<Q0h d:=Y0v (by omega)
 obtain⟨s,hs⟩: ∃s,s=64-Q0h d:=⟨_,rfl⟩
 have hs64:s<64:=by omega
 have hP:=Nat.two_pow_pos s
 have hyl:d*2^s<18446744073709551616:=by
  have h1:=Z0c d
  have h2:2^Q0h d*2^s=18446744073709551616:=by rw [←Nat.pow_add,show Q0h d+s=64 by omega]
  rw [←h2]
  exact Nat.mul_lt_mul_of_pos_right h1 hP
 have hyn:9223372036854775808≤d*2^s:=by
  have h1:2^(Q0h d-1)≤d:=K0f (by omega)
  have h2:2^(Q0h d-1)*2^s=9223372036854775808:=by rw [←Nat.pow_add,show Q0h d-1+s=63 by omega]
  rw [←h2]
  exact Nat.mul_le_mul_right _ h1
 have hsp:=U1v lo s hlo (by omega)
 have hbl:=j2t lo s hlo (by omega)
 have hu10:=Nat.mod_lt (lo*2^s) (show 0<18446744073709551616 by decide)
 have n2:bShl .u64 (d:Int) (s:Int)=((d*2^s:Nat):Int):=by rw [G0h _ _ (by omega),Nat.mod_eq_of_lt hyl]
 have n9:bShl .u64 (lo:Int) (s:Int)=((lo*2^s % 18446744073709551616:Nat):Int):=by rw [G0h _ _ (by omega)]
 have n7:bShr .u64 (lo:Int) ((64-s:Nat):Int)=((lo/2^(64-s):Nat):Int):=by rw [V0p _ _ (by omega)]
 generalize hu:lo*2^s % 18446744073709551616=u10 at*
 generalize hbb:lo/2^(64-s)=b at*
 obtain⟨y,hy⟩: ∃y,y=d*2^s:=⟨_,rfl⟩
 obtain⟨u1,hu1⟩: ∃u1,u1=u10/4294967296:=⟨_,rfl⟩
 obtain⟨u0,hu0⟩: ∃u0,u0=u10 % 4294967296:=⟨_,rfl⟩
 obtain⟨a,ha⟩: ∃a,a=hi*2^s:=⟨_,rfl⟩
 obtain⟨u32,hu32⟩: ∃u32,u32=a+b:=⟨_,rfl⟩
 obtain⟨q1,hq1⟩: ∃q1,q1=(u32*4294967296+u1)/y:=⟨_,rfl⟩
 obtain⟨u21,hu21⟩: ∃u21,u21=(u32*4294967296+u1) % y:=⟨_,rfl⟩
 obtain⟨q0,hq0⟩: ∃q0,q0=(u21*4294967296+u0)/y:=⟨_,rfl⟩
 obtain⟨R,hR⟩: ∃R,R=(u21*4294967296+u0) % y:=⟨_,rfl⟩
 obtain⟨m1,m2,m3,m4,m5,m6,m7,m8,m9⟩:=j1f (b:=b) (u10:=u10) hd hh hy hP hsp hbl (by rw [hu32,ha]) (by omega) (by omega) (by omega) hq1 hu21 hq0 hR
 rw [←hy] at hyl hyn n2
 have hmod:a % 2^s=0:=by rw [ha];exact Nat.mul_mod_left _ _
 have hor:a|||b=a+b:=by rw [Nat.or_comm,X1c _ _ _ hbl hmod,Nat.add_comm]
 have n5:bShl .u64 (hi:Int) (s:Int)=(a:Int):=by rw [G0h _ _ (by omega),←ha,Nat.mod_eq_of_lt (by omega)]
 have n29:bShr .u64 (R:Int) (s:Int)=(((hi*18446744073709551616+lo) % d:Nat):Int):=by rw [V0p _ _ (by omega),m7,Nat.mul_div_cancel _ hP]
 rw [←m6]
 obtain⟨RR,hRR⟩: ∃RR,RR=(hi*18446744073709551616+lo) % d:=⟨_,rfl⟩
 rw [←hRR] at n29⊢
 clear m6 m7 hu hbb hsp hbl hmod
 obtain⟨y1,hy1⟩: ∃y1,y1=y/4294967296:=⟨_,rfl⟩
 obtain⟨y0,hy0⟩: ∃y0,y0=y % 4294967296:=⟨_,rfl⟩
 have hyy:y1*4294967296+y0=y:=by omega
 have hy1p:0<y1:=by omega
 have hT: ∀T,T<y→T/y1≤4294967297:=by
  intro T hT
  have:T<y1*4294967298:=by omega
  have:=Nat.div_lt_of_lt_mul this
  omega
 have n3:bShr .u64 (y:Int) 32=(y1:Int):=by rw [Z1a,hy1]
 have n4:bAnd .u64 (y:Int) 4294967295=(y0:Int):=by rw [w0b y hyl,hy0]
 have n1:IntKind.u64.wrap ((64-Q0h d:Nat):Int)=(s:Int):=by rw [←hs,Z0w,Nat.mod_eq_of_lt (by omega)]
 have n6:IntKind.u64.wrap (64-(s:Int))=((64-s:Nat):Int):=by rw [U0o];omega
 have n8:bOr .u64 (a:Int) (b:Int)=(u32:Int):=by rw [J1u _ _ (by omega) (by omega),hor,hu32]
 have n10:bShr .u64 (u10:Int) 32=(u1:Int):=by rw [Z1a,hu1]
 have n11:bAnd .u64 (u10:Int) 4294967295=(u0:Int):=by rw [w0b _ (by omega),hu0]
 have n12:((y1:Int) !=0)=true:=by simp;omega
 have dm1:=Nat.div_add_mod' u32 y1
 have ml1:=Nat.mod_lt u32 hy1p
 have q1b:=hT u32 m1
 have g1:=H1g (B:=4294967296) (v1:=y1) (v2:=y0) (u0:=u1) (T:=u32) (by omega) (by omega) (by omega) (by omega) (by decide)
 have dm2:=Nat.div_add_mod' u21 y1
 have ml2:=Nat.mod_lt u21 hy1p
 have q2b:=hT u21 m2
 have g2:=H1g (B:=4294967296) (v1:=y1) (v2:=y0) (u0:=u0) (T:=u21) (by omega) (by omega) (by omega) (by omega) (by decide)
 rw [hyy,←hq1] at g1
 rw [hyy,←hq0] at g2
 have n13:IntKind.u64.wrap ((u32:Int).tdiv (y1:Int))=((u32/y1:Nat):Int):=by rw [U0u,Z0w,Nat.mod_eq_of_lt (by omega)]
 have n20:IntKind.u64.wrap ((u21:Int).tdiv (y1:Int))=((u21/y1:Nat):Int):=by rw [U0u,Z0w,Nat.mod_eq_of_lt (by omega)]
 generalize u32/y1=qa at*
 generalize u32 % y1=ra at*
 generalize u21/y1=qb at*
 generalize u21 % y1=rb at*
 have n14:IntKind.u64.wrap ((qa:Int)*(y1:Int))=((qa*y1:Nat):Int):=by rw [←Int.natCast_mul,Z0w,Nat.mod_eq_of_lt (by omega)]
 have n21:IntKind.u64.wrap ((qb:Int)*(y1:Int))=((qb*y1:Nat):Int):=by rw [←Int.natCast_mul,Z0w,Nat.mod_eq_of_lt (by omega)]
 obtain⟨pa,hpa⟩: ∃pa,pa=qa*y1:=⟨_,rfl⟩
 obtain⟨pb,hpb⟩: ∃pb,pb=qb*y1:=⟨_,rfl⟩
 rw [←hpa] at n14 dm1
 rw [←hpb] at n21 dm2
 have n15:IntKind.u64.wrap ((u32:Int)-(pa:Int))=(ra:Int):=by rw [U0o];omega
 have n22:IntKind.u64.wrap ((u21:Int)-(pb:Int))=(rb:Int):=by rw [U0o];omega
 have c1:((q1:Int)*(y:Int))=((q1*y:Nat):Int):=(Int.natCast_mul _ _).symm
 have c2:((q0:Int)*(y:Int))=((q0*y:Nat):Int):=(Int.natCast_mul _ _).symm
 generalize hX:q1*y=X at*
 generalize hY:q0*y=Y at*
 have n16:IntKind.u64.wrap ((u32:Int)*4294967296)=((u32*4294967296 % 18446744073709551616:Nat):Int):=by rw [U0o];omega
 have n17:IntKind.u64.wrap (((u32*4294967296 % 18446744073709551616:Nat):Int)+(u1:Int))=(((u32*4294967296+u1) % 18446744073709551616:Nat):Int):=by rw [U0o];omega
 have n18:IntKind.u64.wrap ((q1:Int)*(y:Int))=((X % 18446744073709551616:Nat):Int):=by rw [c1,Z0w]
 have n19:IntKind.u64.wrap ((((u32*4294967296+u1) % 18446744073709551616:Nat):Int)-((X % 18446744073709551616:Nat):Int))=(u21:Int):=by rw [U0o];omega
 have n23:IntKind.u64.wrap ((q1:Int)*4294967296)=((q1*4294967296:Nat):Int):=by rw [U0o];omega
 have n24:IntKind.u64.wrap (((q1*4294967296:Nat):Int)+(q0:Int))=((q1*4294967296+q0:Nat):Int):=by rw [U0o];omega
 have n25:IntKind.u64.wrap ((u21:Int)*4294967296)=((u21*4294967296 % 18446744073709551616:Nat):Int):=by rw [U0o];omega
 have n26:IntKind.u64.wrap (((u21*4294967296 % 18446744073709551616:Nat):Int)+(u0:Int))=(((u21*4294967296+u0) % 18446744073709551616:Nat):Int):=by rw [U0o];omega
 have n27:IntKind.u64.wrap ((q0:Int)*(y:Int))=((Y % 18446744073709551616:Nat):Int):=by rw [c2,Z0w]
 have n28:IntKind.u64.wrap ((((u21*4294967296+u0) % 18446744073709551616:Nat):Int)-((Y % 18446744073709551616:Nat):Int))=(R:Int):=by rw [U0o];omega
 exact x2d hi lo d s (64-s) y y1 y0 a b u32 u10 u1 u0 qa pa ra q1 _ _ _ u21 qb pb rb q0 _ _ _ _ R _ RR st hd2 (by omega) f1 f2 f3 n1 n2 n3 n4 n5 n6 n7 n8 n9 n10 n11 n12 n13 n14 n15 (by omega) (by omega) (by omega) (by omega) (by omega) q1b (by omega) q2b g1 g2 n16 n17 n18 n19 n20 n21 n22 n23 n24 n25 n26 n27 n28 n29
end Go.Pv
end
section
/-nat.byWords:division by two words and more. -/
set_option maxRecDepth 100000
namespace Go.Pv
open Go.Proofs
theorem V2v (w:List UInt64) (n:Nat) (h:w.length≤n):over (encW (List.replicate n 0)) 0 (encW w)=encW (w++List.replicate (n-w.length) 0):=by
 unfold over encW
 simp
theorem U2g (w:List UInt64) (k:Nat):valW (w++List.replicate k 0)=valW w:=by
 rw [K0t,w0d,Nat.mul_zero,Nat.add_zero]
theorem Z2l {q Q:Nat} (h:q=Q+1) (hq:q<18446744073709551616):IntKind.u64.wrap ((q:Int)-1)=(Q:Int):=by
 subst h;rw [U0o];omega
def winU (U:List UInt64) (j m:Nat) (o:List UInt64):List UInt64:=U.take j++(o++U.drop (j+m))
theorem j1y {U:List UInt64} {j m:Nat} {o:List UInt64} (h:j+m≤U.length) (ho:o.length=m):(winU U j m o).length=U.length:=by
 unfold winU;simp;omega
theorem Z2q {U:List UInt64} {j m:Nat} :winU U j m ((U.drop j).take m)=U:=by
 unfold winU
 rw [←List.drop_drop,List.take_append_drop,List.take_append_drop]
theorem U2e {U:List UInt64} {j m:Nat} {o:List UInt64} (h:j+m≤U.length) (ho:o.length=m):((winU U j m o).drop j).take m=o:=by
 unfold winU
 rw [List.drop_append_of_le_length (by simp;omega),List.drop_eq_nil_of_le (by simp;omega),List.nil_append,List.take_append_of_le_length (by omega),List.take_of_length_le (by omega)]
theorem U2d {U:List UInt64} {j m:Nat} {o o2:List UInt64} (h:j+m≤U.length) (ho:o.length=m):winU (winU U j m o) j m o2=winU U j m o2:=by
 have e1:(winU U j m o).take j=U.take j:=by
  unfold winU
  rw [List.take_append_of_le_length (by simp;omega),List.take_of_length_le (by simp;omega)]
 have e2:(winU U j m o).drop (j+m)=U.drop (j+m):=by
  unfold winU
  rw [←List.append_assoc,List.drop_append_of_le_length (by simp;omega),List.drop_eq_nil_of_le (by simp;omega),List.nil_append]
 show(winU U j m o).take j++(o2++(winU U j m o).drop (j+m))=_
 rw [e1,e2];rfl
theorem j1x {U:List UInt64} {j m:Nat} {o:List UInt64} (h:j+m≤U.length) (ho:o.length=m) (h0:valW (U.drop (j+m))=0):valW (winU U j m o)=valW (U.take j)+18446744073709551616^j*valW o:=by
 unfold winU
 rw [K0t,K0t,h0,Nat.mul_zero,Nat.add_zero,List.length_take,Nat.min_eq_left (by omega)]
theorem Z2p (st:Q0f) (U:List UInt64) (j m:Nat) (o:List UInt64):(st++ [encW U]).set st.length (encW (U.take j)++(encW o++encW (U.drop (j+m))))=st++ [encW (winU U j m o)]:=by
 rw [List.set_append_right _ _ (Nat.le_refl _),Nat.sub_self,List.set_cons_zero]
 unfold winU encW
 simp
theorem z1f (st:Q0f) (U:List UInt64) (j m:Nat):(st++ [encW U]).getD st.length []=encW (U.take j)++(encW ((U.drop j).take m)++encW (U.drop (j+m))):=by
 have e:encW (U.take j)++(encW ((U.drop j).take m)++encW (U.drop (j+m)))=encW (winU U j m ((U.drop j).take m)):=by unfold winU encW;simp
 rw [e,Z2q]
 simp [List.getD_eq_getElem?_getD]
theorem j1d {U:List UInt64} {j:Nat} (h:j≤U.length):(encW (U.take j)).length=j:=by rw [Z0m,List.length_take];omega
theorem z2d (v U:List UInt64) (n j:Nat) (st:Q0f) (hv:v.length=n+2) (hU:j+(n+3)≤U.length) (hn:n≤1000000000000) (h0:0<(v.getD (n+1) 0).toNat) (hlt:valW ((U.drop j).take (n+3))<valW v*18446744073709551616):
 PCalls Tryz.prog 278 [.ms true st.length j (n+3),.sl .no (encW v)] (st++ [encW U])
 (fun r st'=> ∃q,q<18446744073709551616∧(q=valW ((U.drop j).take (n+3))/valW v∨q=valW ((U.drop j).take (n+3))/valW v+1)∧r= .sc (.int .u64 (q:Nat))∧st'=st++ [encW U]):=by
 have ho:((U.drop j).take (n+3)).length=n+3:=by simp;omega
 have h:=Q3k Y3q v ((U.drop j).take (n+3)) n (encW (U.take j)) (encW (U.drop (j+(n+3)))) st.length (st++ [encW U]) (by simp) (z1f st U j (n+3)) hv ho hn h0 (K3i (B:=18446744073709551616) rfl hv ho hlt)
 rw [j1d (by omega)] at h
 refine h.mono ?_
 rintro r st' ⟨rfl,rfl⟩
 have hg:=x1t (B:=18446744073709551616) rfl v ((U.drop j).take (n+3)) n hv ho h0 hlt
 refine⟨_,?_,hg,rfl,rfl⟩
 exact Nat.lt_of_le_of_lt (X1t _ _ _ _ _ _) (Q2u (by decide) (UInt64.toNat_lt _))
theorem y2x (v U:List UInt64) (n j q:Nat) (st:Q0f) (hv:v.length=n+2) (hU:j+(n+3)≤U.length) (hn:n≤100000000000) (hq:q<18446744073709551616):
 PCalls Tryz.prog 279 [.ms true st.length j (n+3),.sl .no (encW v),.sc (.int .u64 q)] (st++ [encW U])
 (fun r st'=> ∃o b,o.length=n+3∧valW o+q*valW v=valW ((U.drop j).take (n+3))+18446744073709551616^(n+3)*b∧r= .sc (.bool (decide (b≠0)))∧st'=st++ [encW (winU U j (n+3) o)]):=by
 have ho:((U.drop j).take (n+3)).length=n+3:=by simp;omega
 have h:=y2y v ((U.drop j).take (n+3)) q (encW (U.take j)) (encW (U.drop (j+(n+3)))) st.length (st++ [encW U]) (by simp) (z1f st U j (n+3)) (by rw [ho,hv]) (by omega) hq
 rw [j1d (by omega),hv] at h
 refine h.mono ?_
 rintro r st' ⟨o,b,h1,h2,rfl,rfl⟩
 exact⟨o,b,by omega,h2,rfl,Z2p _ _ _ _ _⟩
theorem y2p (v U:List UInt64) (n j:Nat) (st:Q0f) (hv:v.length=n+2) (hU:j+(n+3)≤U.length) (hn:n≤100000000000):
 PCalls Tryz.prog 280 [.ms true st.length j (n+3),.sl .no (encW v)] (st++ [encW U])
 (fun r st'=> ∃o c,o.length=n+3∧valW o+18446744073709551616^(n+3)*c=valW ((U.drop j).take (n+3))+valW v∧r= .tup []∧st'=st++ [encW (winU U j (n+3) o)]):=by
 have ho:((U.drop j).take (n+3)).length=n+3:=by simp;omega
 have h:=V3t v ((U.drop j).take (n+3)) (encW (U.take j)) (encW (U.drop (j+(n+3)))) st.length (st++ [encW U]) (by simp) (z1f st U j (n+3)) (by rw [ho,hv]) (by omega)
 rw [j1d (by omega),hv] at h
 refine h.mono ?_
 rintro r st' ⟨o,b,h1,h2,rfl,rfl⟩
 exact⟨o,b,by omega,h2,rfl,Z2p _ _ _ _ _⟩
set_option maxHeartbeats 4000000 in
theorem W2u (a b:List UInt64) (n:Nat) (st:Q0f) (ha:a.length≤100000000000) (hb:b.length=n+2) (hla:n+2≤a.length) (ht:0<(b.getD (n+1) 0).toNat):
 PCalls Tryz.prog 269 [.sl .no (encW a),.sl .no (encW b)] st
 (fun r st'=>r= .tup [.sl .no (encW (Q0n (valW a/valW b))),.sl .no (encW (Q0n (valW a % valW b)))]∧st'=st):=by
 refine x1d (Q:=fun r _=>r= .tup [.sl .no (encW (Q0n (valW a/valW b))),.sl .no (encW (Q0n (valW a % valW b)))]) ?_
 have x1:IntKind.i64.wrap ((b.length:Int)-1)=((n+1:Nat):Int):=by rw [hb,show(((n+2:Nat):Int)-1)=((n+1:Nat):Int) by omega,Q0m _ (by omega)]
 have g1:=Z0e b (n+1) (by omega)
 have htl:=(b.getD (n+1) 0).toNat_lt
 obtain⟨s,hs⟩: ∃s,s=64-Q0h (b.getD (n+1) 0).toNat:=⟨_,rfl⟩
 obtain⟨k1,k2,k3,k4,k5⟩:=Q2a (B:=18446744073709551616) rfl hb ht hs
 obtain⟨la,hlu⟩: ∃la,la=a.length+1:=⟨_,rfl⟩
 have x2:IntKind.i64.wrap ((a.length:Int)+1)=((la:Nat):Int):=by rw [show((a.length:Int)+1)=((la:Nat):Int) by omega,Q0m _ (by omega)]
 have x3:IntKind.i64.wrap ((a.length:Int)-(b.length:Int))=((a.length-(n+2):Nat):Int):=by rw [hb,Q0r _ (by omega) (by omega)];omega
 obtain⟨lo,hlo⟩: ∃lo,lo=a.length-(n+2)+1:=⟨_,rfl⟩
 have x4:IntKind.i64.wrap (((a.length-(n+2):Nat):Int)+1)=((lo:Nat):Int):=by rw [show(((a.length-(n+2):Nat):Int)+1)=((lo:Nat):Int) by omega,Q0m _ (by omega)]
 refine Q0b none Tryz.func269 rfl fun E=>Q0l (Q0a ?_)
 simp -dsimp only [go_sem]
 refine Q0l (Q0a ?_)
 simp -dsimp only [go_sem]
 refine Q0l (Q0a ?_)
 simp -dsimp only [go_sem,x1,g1]
 refine⟨by omega,?_⟩
 refine(k2f _ htl _).mono ?_
 rintro r st ⟨rfl,rfl⟩
 rw [←hs]
 simp -dsimp only [go_sem]
 refine Q0l (Q0a ?_)
 simp -dsimp only [go_sem]
 refine(up_c b s _ (by omega) (by omega)).mono ?_
 rintro r st ⟨rfl,rfl⟩
 simp -dsimp only [go_sem]
 obtain⟨v,hv⟩: ∃v,v=Q0n (valW b*2^s):=⟨_,rfl⟩
 have hvv:valW v=valW b*2^s:=by rw [hv,Q0z]
 rw [←hv] at k4 k5⊢
 rw [←hvv] at k2 k3
 refine Q0l (Q0a ?_)
 simp -dsimp only [go_sem,x2]
 refine⟨⟨by omega,by omega,by omega⟩,?_⟩
 obtain⟨w,hw⟩: ∃w,w=Q0n (valW a*2^s):=⟨_,rfl⟩
 have hwv:valW w=valW a*2^s:=by rw [hw,Q0z]
 have hal:=X0b a
 have hP:2^s≤2^63:=Nat.pow_le_pow_right (by decide) k1
 have hwl:w.length≤la:=by
  rw [hw,hlu]
  refine Z0r ?_
  have h1:valW a*2^s≤valW a*9223372036854775808:=Nat.mul_le_mul_left _ hP
  rw [Nat.pow_succ]
  omega
 have hcopy:=V2v w la hwl
 have htk:(encW w).take la=encW w:=List.take_of_length_le (by rw [Z0m];exact hwl)
 refine Q0l (Q0a ?_)
 simp -dsimp only [go_sem]
 refine(up_c a s _ (by omega) (by omega)).mono ?_
 rintro r st ⟨rfl,rfl⟩
 rw [←hw]
 obtain⟨u,hu⟩: ∃u,u=w++List.replicate (la-w.length) 0:=⟨_,rfl⟩
 have hul:u.length=la:=by rw [hu];simp;omega
 have huv:valW u=valW a*2^s:=by rw [hu,U2g,hwv]
 rw [←hu] at hcopy
 simp -dsimp only [go_sem,H1u,htk,hcopy]
 refine⟨by simp only [List.length_replicate];omega,?_⟩
 refine Q0l (Q0a ?_)
 simp -dsimp only [go_sem,x3,x4]
 refine⟨⟨by omega,by omega,by omega⟩,?_⟩
 refine Q0l (Q0a ?_)
 simp -dsimp only [go_sem,x3]
 have hune:encW u≠ []:=fun e=>by
  have:(encW u).length=0:=by rw [e];rfl
  rw [Z0m] at this
  omega
 refine U0x 0 ?_ ?_ ?_
 · simp -dsimp only [go_sem]
 · simp -dsimp only [go_sem]
   exact hune
 have egv:List.map (PV.giv 0 st.length) (encW (List.replicate lo 0))=encW (List.replicate lo 0):=by
  unfold encW
  rw [List.map_map]
  rfl
 simp -dsimp only [go_sem,egv]
 have first:=V2i (B:=18446744073709551616) rfl hal k1 hla k3
 refine Q0e [false,false,false,false,false,false,true,true,true,true,true,true] 2 0
  (fun m q=> ∃(O U:List UInt64),m≤lo∧O.length=lo∧U.length=la∧valW a*2^s=valW (O.drop m)*18446744073709551616^m*valW v+valW U∧valW U<valW v*18446744073709551616^m∧
   q=⟨[.junk,.junk,.junk,.junk,.junk,.junk,.sc (.int .i64 b.length),.sc (.int .i64 s),.sl .no (encW v),.ms true st.length 0 la,.ms false 1 0 lo,.sc (.int .i64 ((m:Int)-1))]++List.replicate 76 .junk,[[],encW O],[],st++ [encW U]⟩) lo ?_ ?_
 · simp -dsimp only [go_sem]
   refine⟨List.replicate lo 0,u,by simp,hul,?_,?_,?_⟩
   · rw [List.drop_of_length_le (by simp),V0c,huv];omega
   · rw [huv,hlo];exact first
   · have:(lo:Int)-1=((a.length-(n+2):Nat):Int):=by omega
     rw [this]
 rintro m q ⟨O,U,hm,hO,hU,hA,hUV,rfl⟩
 simp -dsimp only [go_sem]
 refine ck (fun h=> ?_) (fun h=> ?_)
 · have h0:0<m:=by have:=of_decide_eq_true h;omega
   obtain⟨j,rfl⟩: ∃j,m=j+1:=⟨m-1,by omega⟩
   have y1:((j+1:Nat):Int)-1=(j:Int):=by omega
   have y2:IntKind.i64.wrap ((j:Int)+(b.length:Int))=((j+(n+2):Nat):Int):=by rw [hb,show((j:Int)+((n+2:Nat):Int))=((j+(n+2):Nat):Int) from rfl,Q0m _ (by omega)]
   have y3:IntKind.i64.wrap (((j+(n+2):Nat):Int)+1)=((j+(n+3):Nat):Int):=by rw [show(((j+(n+2):Nat):Int)+1)=((j+(n+3):Nat):Int) from rfl,Q0m _ (by omega)]
   have x5:j+(n+3)-j=n+3:=by omega
   have hUl:j+(n+3)≤U.length:=by omega
   obtain⟨w1,w2,w3⟩:=j2i (B:=18446744073709551616) (V:=valW v) (n:=n+2) (j:=j) rfl U (by omega) (Nat.le_of_lt k2) hUV
   rw [show n+2+1=n+3 from rfl] at w1 w2 w3
   have hV0:0<valW v:=by
    refine Nat.pos_of_ne_zero fun e=> ?_
    rw [e,Nat.zero_mul] at w1
    omega
   have hlow:valW (U.take j)<18446744073709551616^j:=by
    have:=X0b (U.take j)
    rw [List.length_take,Nat.min_eq_left (by omega)] at this
    exact this
   have hWE:valW ((U.drop j).take (n+3))<18446744073709551616^(n+3):=by
    have:=X0b ((U.drop j).take (n+3))
    rw [show((U.drop j).take (n+3)).length=n+3 by simp;omega] at this
    exact this
   have hA2:=hA
   rw [w2] at hA2
   obtain⟨d1,d2⟩:=W2c (B:=18446744073709551616) hV0 hA2 hlow
   have hQ:valW ((U.drop j).take (n+3))/valW v<18446744073709551616:=Nat.div_lt_of_lt_mul w1
   have g3:IntKind.i64.wrap ((j:Int)-1)=(j:Int)-1:=Q0r _ (by omega) (by omega)
   --the round's end
   have fin: ∀o:List UInt64,o.length=n+3→valW o=valW ((U.drop j).take (n+3)) % valW v→ ∃O' U',O'.length=lo∧U'.length=la∧valW a*2^s=valW (O'.drop j)*18446744073709551616^j*valW v+valW U'∧valW U'<valW v*18446744073709551616^j∧
    O'=O.set j (UInt64.ofNat (valW ((U.drop j).take (n+3))/valW v))∧U'=winU U j (n+3) o:=by
    intro o ho hov
    refine⟨_,_,by rw [List.length_set];exact hO,by rw [j1y hUl ho];exact hU,?_,?_,rfl,rfl⟩
    · rw [j1x hUl ho w3,hov]
      have hd1:=G0r (O.set j (UInt64.ofNat (valW ((U.drop j).take (n+3))/valW v))) j
      rw [hd1,J0k,if_pos (by omega),Z0o _ hQ,List.drop_set_of_lt (by omega)]
      exact d1
    · rw [j1x hUl ho w3,hov];exact d2
   simp -dsimp only [go_sem,y1,y2,y3]
   refine⟨⟨⟨by omega,by omega⟩,by omega⟩,?_⟩
   rw [x5]
   refine(z2d v U n j st k4 hUl (by omega) k5 w1).mono ?_
   rintro r st' ⟨q,hq,hqq,rfl,rfl⟩
   simp -dsimp only [go_sem,y1,y2,y3]
   refine⟨⟨⟨by omega,by omega⟩,by omega⟩,?_⟩
   rw [x5]
   refine(y2x v U n j q st k4 hUl (by omega) hq).mono ?_
   rintro r st' ⟨o,bb,ho,hob,rfl,rfl⟩
   have hoE:valW o<18446744073709551616^(n+3):=by have:=X0b o;rw [ho] at this;exact this
   obtain⟨s1,s2⟩:=x2b hV0 hqq hWE hoE hob
   simp -dsimp only [go_sem]
   refine ck (fun h1=> ?_) (fun h1=> ?_)
   · obtain⟨s3,s4⟩:=s2 (of_decide_eq_true h1)
     have x8:IntKind.u64.wrap ((q:Int)-1)=((valW ((U.drop j).take (n+3))/valW v:Nat):Int):=by
      exact Z2l s3 hq
     simp -dsimp only [go_sem,x8,y1,y2,y3]
     refine⟨⟨⟨by omega,by omega⟩,by omega⟩,?_⟩
     rw [x5]
     refine(y2p v (winU U j (n+3) o) n j st k4 (by rw [j1y hUl ho];exact hUl) (by omega)).mono ?_
     rintro r st' ⟨o2,c2,ho2,hoc,rfl,rfl⟩
     rw [U2e hUl ho] at hoc
     rw [U2d hUl ho]
     have hoE2:valW o2<18446744073709551616^(n+3):=by have:=X0b o2;rw [ho2] at this;exact this
     obtain⟨O',U',i1,i2,i3,i4,i5,i6⟩:=fin o2 ho2 (s4 _ _ hoE2 hoc)
     have e3:PV.sc (.int .u64 ((valW ((U.drop j).take (n+3))/valW v:Nat):Int))=PV.sc (.int .u64 (((UInt64.ofNat (valW ((U.drop j).take (n+3))/valW v)).toNat:Nat):Int)):=by rw [Z0o _ hQ]
     have o1:=K0z O j (UInt64.ofNat (valW ((U.drop j).take (n+3))/valW v)) (by omega)
     simp -dsimp only [go_sem,e3,o1,g3]
     exact⟨⟨by omega,by omega⟩,⟨by omega,by omega⟩,j,by omega,O',U',by omega,i1,i2,i3,i4,by rw [i5,i6]⟩
   · have hb0:bb=0:=by
      have:=of_decide_eq_false h1
      omega
     obtain⟨s3,s4⟩:=s1 hb0
     obtain⟨O',U',i1,i2,i3,i4,i5,i6⟩:=fin o ho s4
     have e3:PV.sc (.int .u64 (q:Int))=PV.sc (.int .u64 (((UInt64.ofNat (valW ((U.drop j).take (n+3))/valW v)).toNat:Nat):Int)):=by rw [Z0o _ hQ,s3]
     have o1:=K0z O j (UInt64.ofNat (valW ((U.drop j).take (n+3))/valW v)) (by omega)
     simp -dsimp only [go_sem,e3,o1,g3]
     exact⟨⟨by omega,by omega⟩,⟨by omega,by omega⟩,j,by omega,O',U',by omega,i1,i2,i3,i4,by rw [i5,i6]⟩
 · have h0:m=0:=by have:=of_decide_eq_false h;omega
   subst h0
   simp -dsimp only [go_sem]
   rw [List.drop_zero,Nat.pow_zero,Nat.mul_one] at hA
   rw [Nat.pow_zero,Nat.mul_one] at hUV
   have hV0:0<valW v:=by omega
   have hb0:0<valW b:=by
    refine Nat.pos_of_ne_zero fun e=> ?_
    rw [hvv,e,Nat.zero_mul] at hV0
    omega
   obtain⟨e1,e2⟩:=Z3m (a:=valW a) (b:=valW b) (s:=s) (O:=valW O) (r:=valW U) hb0 (by rw [←hvv];exact hA) (by rw [←hvv];exact hUV)
   have gU:(st++ [encW U]).getD st.length []=encW U:=by simp [List.getD_eq_getElem?_getD]
   have sU:(st++ [encW U]).set st.length []=st++ [[]]:=by rw [List.set_append_right _ _ (Nat.le_refl _),Nat.sub_self,List.set_cons_zero]
   have tU:(encW U).take la=encW U:=List.take_of_length_le (by rw [Z0m];omega)
   have lU:la≤U.length:=by omega
   have ht:O.take lo=O:=List.take_of_length_le (by omega)
   have hle:lo≤O.length:=by omega
   refine Z0u 1 ?_ ?_
   · simp -dsimp only [go_sem]
   simp -dsimp only [go_sem,ht,hle]
   refine j0b st.length 9 (by simp) ?_ ?_ ?_
   · show∀p∈(st++ [encW U]).getD st.length [],p.cells= [p]
     rw [gU]
     intro p hp
     simp only [encW,List.mem_map] at hp
     obtain⟨c,_,rfl⟩:=hp
     rfl
   · show(st++ [encW U]).getD st.length []≠ []
     rw [gU]
     intro e
     have:(encW U).length=0:=by rw [e];rfl
     rw [Z0m] at this
     omega
   simp -dsimp only [go_sem,gU,sU,tU,lU]
   refine Q0a ?_
   simp -dsimp only [go_sem]
   refine Q0k Z0f 88 (.step 0 [] (.step 2 [] (.step 3 [] (.step 4 [] (.step 5 [] (.step 1 [] (.step 6 [] (.step 7 [] (.step 8 [] (.done)))))))))) (by decide+kernel) (by simp) ?_
   simp -dsimp only [go_sem]
   refine⟨⟨⟨by omega,by omega⟩,by omega⟩,?_⟩
   refine(W0e O _ (by omega)).mono ?_
   rintro r st' ⟨rfl,rfl⟩
   simp -dsimp only [go_sem]
   have vU:valW (U.take b.length)=valW U:=by
    have h1:=V0k U b.length (by omega)
    have h2:valW (U.drop b.length)=0:=by
     refine Classical.byContradiction fun hn=> ?_
     have:18446744073709551616^b.length≤18446744073709551616^b.length*valW (U.drop b.length):=Nat.le_mul_of_pos_right _ (by omega)
     rw [hb] at this h1
     omega
    rw [h2,Nat.mul_zero,Nat.add_zero] at h1
    exact h1.symm
   refine(X1g (U.take b.length) s _ (by simp;omega) (by omega)).mono ?_
   rintro r st' ⟨rfl,rfl⟩
   simp -dsimp only [go_sem]
   rw [vU,e2,←Q0v O,e1]
   refine⟨⟨_,rfl⟩,y2u fun c hc=> ?_,rfl⟩
   simp only [List.mem_cons,List.not_mem_nil,or_false] at hc
   rcases hc with rfl | rfl
   · exact((Z2w _ _).low _).1
   · exact((Z2w _ _).low _).1
end Go.Pv
end
section
/-nat.byWord,nat.Div by any divisor. -/
set_option maxRecDepth 100000
namespace Go.Pv
open Go.Proofs
theorem W2w (a:List UInt64) (d:Nat) (st:Q0f) (ha:a.length≤1000000000000) (hd:0<d) (hd2:d<18446744073709551616):PCalls Tryz.prog 268 [.sl .no (encW a),.sc (.int .u64 d)] st
 (fun r st'=>r= .tup [.sl .no (encW (Q0n (valW a/d))),.sc (.int .u64 ((valW a % d:Nat):Int))]∧st'=st):=by
 refine Q0b none Tryz.func268 rfl fun E=>Q0a ?_
 have e1:IntKind.i64.wrap ((a.length:Int)-1)=(a.length:Int)-1:=Q0r _ (by omega) (by omega)
 simp -dsimp only [go_sem,e1]
 refine⟨by omega,?_⟩
 refine Q0e [true,true,false,false,false,false,true,true,true] 1 0
  (fun m s'=> ∃(k:Nat) (o:List UInt64) (r:Nat),k=m∧k≤a.length∧o.length=a.length∧valW (o.drop k)=valW (a.drop k)/d∧r=valW (a.drop k) % d∧
   s'=⟨[.sl .no (encW a),.sc (.int .u64 d),.junk,.junk,.junk,.junk,.ms false 0 0 a.length,.sc (.int .u64 (r:Nat)),.sc (.int .i64 ((k:Int)-1))]++List.replicate 26 .junk,[encW o],[],st⟩) a.length ?_ ?_
 · simp -dsimp only [go_sem]
   refine⟨a.length,List.replicate a.length 0,0,rfl,Nat.le_refl _,by simp,?_,?_,rfl⟩
   · rw [List.drop_of_length_le (by simp),List.drop_of_length_le (Nat.le_refl _)];simp [V0c]
   · rw [List.drop_of_length_le (Nat.le_refl _)];simp [V0c]
 · rintro m s' ⟨k,o,r,rfl,hk,ho,hv,hr,rfl⟩
   simp -dsimp only [go_sem]
   refine ck (fun h=> ?_) (fun h=> ?_)
   · have h0:0<k:=by have:=of_decide_eq_true h;omega
     have e2:(k:Int)-1=((k-1:Nat):Int):=by omega
     have g1:=Z0e a (k-1) (by omega)
     have hrd:r<d:=by rw [hr];exact Nat.mod_lt _ hd
     have hx:(a.getD (k-1) 0).toNat<18446744073709551616:=UInt64.toNat_lt _
     have hq:=W2v hrd hx
     obtain⟨s1,s2⟩:=j1p a d k hd h0
     rw [←hr] at s1 s2
     simp -dsimp only [go_sem,e2,g1]
     refine⟨⟨by omega,by omega⟩,?_⟩
     refine(Y3q r (a.getD (k-1) 0).toNat d st hd hd2 hrd hx).mono ?_
     rintro rr st ⟨rfl,rfl⟩
     have e3:((((r*18446744073709551616+(a.getD (k-1) 0).toNat)/d:Nat):Int))=(((UInt64.ofNat ((r*18446744073709551616+(a.getD (k-1) 0).toNat)/d)).toNat:Nat):Int):=by rw [Z0o _ hq]
     have o1:=K0z o (k-1) (UInt64.ofNat ((r*18446744073709551616+(a.getD (k-1) 0).toNat)/d)) (by omega)
     have e4:IntKind.i64.wrap (((k-1:Nat):Int)-1)=((k-1:Nat):Int)-1:=Q0r _ (by omega) (by omega)
     simp -dsimp only [go_sem,e3,o1,e4]
     refine⟨⟨by omega,by omega⟩,by omega,k-1,by omega,k-1,_,_,rfl,by omega,by rw [List.length_set];exact ho,?_,s2.symm,rfl⟩
     have hd1:=G0r (o.set (k-1) (UInt64.ofNat ((r*18446744073709551616+(a.getD (k-1) 0).toNat)/d))) (k-1)
     rw [hd1,J0k,if_pos (by omega),Z0o _ hq,show k-1+1=k by omega,List.drop_set_of_lt (by omega),hv,s1]
   · have hge:k=0:=by have:=of_decide_eq_false h;omega
     subst hge
     have ht:o.take a.length=o:=List.take_of_length_le (by omega)
     have hle:a.length≤o.length:=by omega
     rw [List.drop_zero,List.drop_zero] at hv
     rw [List.drop_zero] at hr
     simp -dsimp only [go_sem]
     refine Z0u 0 ?_ ?_
     · simp -dsimp only [go_sem]
     refine Q0a ?_
     simp -dsimp only [go_sem,ht,hle]
     refine(W0e o st (by omega)).mono ?_
     rintro rr st ⟨rfl,rfl⟩
     simp -dsimp only [go_sem]
     rw [←Q0v o,hv,hr]
theorem K2c (a b:List UInt64) (st:Q0f) (ha:a.length≤1000000000000) (hb:b.length≤1000000000000) (hd:0<valW b) (hd2:valW b<18446744073709551616):PCalls Tryz.prog 252 [.sl .no (encW a),.sl .no (encW b)] st
 (fun r st'=>r= .tup [.sl .no (encW (Q0n (valW a/valW b))),.sl .no (encW (Q0n (valW a % valW b))),.sc (.bool true)]∧st'=st):=by
 refine Q0b none Tryz.func252 rfl fun E=>Q0a ?_
 simp -dsimp only [go_sem]
 refine(W0e a st (by omega)).mono ?_
 rintro r st ⟨rfl,rfl⟩
 simp -dsimp only [go_sem]
 refine(W0e b st (by omega)).mono ?_
 rintro r st ⟨rfl,rfl⟩
 have la:=K0n a
 have hcb:cutW b= [UInt64.ofNat (valW b)]:=by rw [←Q0v,z1e hd (by omega)]
 have hvb:=J0g b
 rw [←J0g a]
 generalize cutW a=a at*
 rw [hcb] at hvb⊢
 have f1:(((1:Nat):Int)==0)=false:=rfl
 have f1':((1:Int)==0)=false:=rfl
 have f2:(((1:Nat):Int)==1)=true:=rfl
 have hl1:(encW [UInt64.ofNat (valW b)]).length=1:=rfl
 simp -dsimp only [go_sem,f1,f1',hl1]
 refine(v0d a [UInt64.ofNat (valW b)] st (by omega) (by simp)).mono ?_
 rintro r st ⟨rfl,rfl⟩
 rw [hvb]
 by_cases hlt:valW a<valW b
 · have h2:decide (cmpW (valW a) (valW b)<0)=true:=decide_eq_true (by unfold cmpW cmpI;split<;>(try split)<;>omega)
   simp -dsimp only [go_sem,h2]
   refine((Q1x a st (by omega)).plain).mono ?_
   rintro r st ⟨rfl,rfl⟩
   simp -dsimp only [go_sem]
   rw [Nat.div_eq_of_lt hlt,Nat.mod_eq_of_lt hlt,X0i,←Q0v a]
   rfl
 · have h2:decide (cmpW (valW a) (valW b)<0)=false:=decide_eq_false (by unfold cmpW cmpI;split<;>(try split)<;>omega)
   have g0:(encW [UInt64.ofNat (valW b)]).getD 0 .junk= .sc (.int .u64 ((valW b:Nat):Int)):=by
    show PV.sc (.int .u64 (((UInt64.ofNat (valW b)).toNat:Nat):Int))=_
    rw [Z0o _ (by omega)]
   simp -dsimp only [go_sem,h2,f2,hl1,g0]
   refine(W2w a (valW b) st (by omega) hd hd2).mono ?_
   rintro r st ⟨rfl,rfl⟩
   have hm:=Nat.mod_lt (valW a) hd
   have g2:PV.sc (.int .u64 ((valW a % valW b:Nat):Int))=PV.sc (.int .u64 (((UInt64.ofNat (valW a % valW b)).toNat:Nat):Int)):=by rw [Z0o _ (by omega)]
   rw [g2]
   simp -dsimp only [go_sem]
   refine(W0e [UInt64.ofNat (valW a % valW b)] st (by simp)).mono ?_
   rintro r st ⟨rfl,rfl⟩
   simp -dsimp only [go_sem]
   have hw:valW [UInt64.ofNat (valW a % valW b)]=valW a % valW b:=by
    show(UInt64.ofNat (valW a % valW b)).toNat+18446744073709551616*0=_
    rw [Z0o _ (by omega),Nat.mul_zero,Nat.add_zero]
   rw [←Q0v [UInt64.ofNat (valW a % valW b)],hw]
theorem Z2o {v n:Nat} (h:(Q0n v).length=n+2):18446744073709551616^(n+1)≤v:=by
 refine Classical.byContradiction fun hn=> ?_
 have:=Z0r (n:=v) (k:=n+1) (by omega)
 omega
theorem K2b (a b:List UInt64) (n:Nat) (st:Q0f) (ha:a.length≤100000000000) (hb:b.length≤100000000000) (hn:(Q0n (valW b)).length=n+2):PCalls Tryz.prog 252 [.sl .no (encW a),.sl .no (encW b)] st
 (fun r st'=>r= .tup [.sl .no (encW (Q0n (valW a/valW b))),.sl .no (encW (Q0n (valW a % valW b))),.sc (.bool true)]∧st'=st):=by
 refine Q0b none Tryz.func252 rfl fun E=>Q0a ?_
 simp -dsimp only [go_sem]
 refine(W0e a st (by omega)).mono ?_
 rintro r st ⟨rfl,rfl⟩
 simp -dsimp only [go_sem]
 refine(W0e b st (by omega)).mono ?_
 rintro r st ⟨rfl,rfl⟩
 have la:=K0n a
 have lb:=K0n b
 have hbig:=Z2o hn
 rw [Q0v] at hn
 rw [←J0g b] at hbig
 rw [←J0g a,←J0g b]
 have hca:=Q0v a
 rw [←J0g a] at hca
 generalize cutW a=a at*
 generalize cutW b=b at*
 have f1:((b.length:Int)==0)=false:=beq_eq_false_iff_ne.2 (by omega)
 have f2:((b.length:Int)==1)=false:=beq_eq_false_iff_ne.2 (by omega)
 simp -dsimp only [go_sem,f1]
 refine(v0d a b st (by omega) (by omega)).mono ?_
 rintro r st ⟨rfl,rfl⟩
 by_cases hlt:valW a<valW b
 · have h2:decide (cmpW (valW a) (valW b)<0)=true:=decide_eq_true (by unfold cmpW cmpI;split<;>(try split)<;>omega)
   simp -dsimp only [go_sem,h2]
   refine((Q1x a st (by omega)).plain).mono ?_
   rintro r st ⟨rfl,rfl⟩
   simp -dsimp only [go_sem]
   rw [Nat.div_eq_of_lt hlt,Nat.mod_eq_of_lt hlt,X0i,←Q0v a]
   rfl
 · have h2:decide (cmpW (valW a) (valW b)<0)=false:=decide_eq_false (by unfold cmpW cmpI;split<;>(try split)<;>omega)
   simp -dsimp only [go_sem,h2,f1,f2]
   have ht:=(j2p (B:=18446744073709551616) rfl (by omega) hbig).2
   have hal:n+2≤a.length:=by
    refine Classical.byContradiction fun hc=> ?_
    have h3:=X0b a
    have:18446744073709551616^a.length≤18446744073709551616^(n+1):=Nat.pow_le_pow_right (by decide) (by omega)
    omega
   refine(W2u a b n _ (by omega) hn hal ht).mono ?_
   rintro r st ⟨rfl,rfl⟩
   simp -dsimp only [go_sem]
theorem K2a (a b:List UInt64) (st:Q0f) (ha:a.length≤100000000000) (hb:b.length≤100000000000) (hd:0<valW b):PCalls Tryz.prog 252 [.sl .no (encW a),.sl .no (encW b)] st
 (fun r st'=>r= .tup [.sl .no (encW (Q0n (valW a/valW b))),.sl .no (encW (Q0n (valW a % valW b))),.sc (.bool true)]∧st'=st):=by
 by_cases h:valW b<18446744073709551616
 · exact K2c a b st (by omega) (by omega) hd h
 · have h1:2≤(Q0n (valW b)).length:=by
    refine Classical.byContradiction fun hc=> ?_
    have h2:=X0b (Q0n (valW b))
    rw [Q0z] at h2
    have:18446744073709551616^(Q0n (valW b)).length≤18446744073709551616^1:=Nat.pow_le_pow_right (by decide) (by omega)
    omega
   exact K2b a b ((Q0n (valW b)).length-2) st ha hb (by omega)
end Go.Pv
end
section
/-round.quotient,round.Div by any divisor. -/
set_option maxRecDepth 100000
namespace Go.Pv
open Go.Proofs
theorem G1z (a b p:Nat):J0y a b p≤p+2+Q0h b:=by unfold J0y;omega
theorem z1u (a b:Nm) (p:Nat) (st:Q0f) (ha:Q0j a=true) (hb:Q0j b=true) (hp:p≤256) (h0:0<valW b.w):
 PCalls Tryz.prog 205 [.agg (encN a),.agg (encN b),.sc (.int .i64 p)] st (fun r st'=>r= .agg (encN (J2g a b p))∧st'=st):=by
 have ba:=Z0z ha
 have bb:=Z0z hb
 have la:=ba.1
 have lb:=bb.1
 have hba:=V0o a.w
 have hbb:=V0o b.w
 have hB:X0l b.w=Q0h (valW b.w):=rfl
 have hA:X0l a.w=Q0h (valW a.w):=rfl
 have ml:J0y (valW a.w) (valW b.w) p=p+2+X0l b.w-X0l a.w:=rfl
 have ml2:=G1z (valW a.w) (valW b.w) p
 have e1:IntKind.i64.wrap ((p:Int)+2)=((p+2:Nat):Int):=by rw [Q0r _ (by omega) (by omega)];omega
 have e2:IntKind.i64.wrap (((p+2:Nat):Int)+(X0l b.w:Int))=((p+2+X0l b.w:Nat):Int):=by rw [Q0r _ (by omega) (by omega)];omega
 have e3:IntKind.i64.wrap (((p+2+X0l b.w:Nat):Int)-(X0l a.w:Int))=((p+2+X0l b.w:Nat):Int)-(X0l a.w:Int):=Q0r _ (by omega) (by omega)
 have mx:(if 0>((p+2+X0l b.w:Nat):Int)-(X0l a.w:Int) then 0 else((p+2+X0l b.w:Nat):Int)-(X0l a.w:Int))=((J0y (valW a.w) (valW b.w) p:Nat):Int):=by
  rw [ml];split<;>omega
 generalize hs:J0y (valW a.w) (valW b.w) p=s at*
 refine Q0b none Tryz.func205 rfl fun E=>Q0a ?_
 simp -dsimp only [go_sem]
 refine Q0k Z0f 56 (.step 0 [] (.step 1 [] (.step 2 [] (.step 3 [] (.step 6 [] (.step 7 [] (.step 4 [7] (.step 5 [] (.step 8 [] (.step 9 [] (.step 10 [] (.step 11 [] (.done))))))))))))) (by decide+kernel) (by simp) ?_
 simp -dsimp only [go_sem]
 refine(U0e b.w _ (by omega)).mono ?_
 rintro r st ⟨rfl,rfl⟩
 simp -dsimp only [go_sem]
 refine(U0e a.w _ (by omega)).mono ?_
 rintro r st ⟨rfl,rfl⟩
 simp -dsimp only [go_sem,e1,e2,e3,mx]
 refine Q0k Z0f 56 (.step 0 [] (.step 1 [] (.step 2 [] (.step 4 [] (.step 5 [] (.step 3 [5] (.step 6 [] (.step 7 [] (.step 8 [] (.step 9 [] (.step 10 [] (.step 11 [] (.step 12 [] (.step 13 [] (.done))))))))))))))) (by decide+kernel) (by simp) ?_
 simp -dsimp only [go_sem]
 refine(up_c a.w s _ (by omega) (by omega)).mono ?_
 rintro r st ⟨rfl,rfl⟩
 simp -dsimp only [go_sem]
 have hw1:=H0i (valW a.w*2^s)
 have hw2:Q0h (valW a.w*2^s)≤8192+300:=by have:=Y0j (valW a.w) s;omega
 have hw:(Q0n (valW a.w*2^s)).length≤200:=by omega
 have hq:(Q0n (valW a.w*2^s/valW b.w)).length≤200:=Nat.le_trans (V0t (Nat.div_le_self _ _)) hw
 refine(K2a (Q0n (valW a.w*2^s)) b.w _ (by omega) (by omega) h0).mono ?_
 rintro r st ⟨rfl,rfl⟩
 rw [Q0z]
 simp -dsimp only [go_sem]
 refine(up_c (Q0n (valW a.w*2^s/valW b.w)) 1 _ (by omega) (by omega)).mono ?_
 rintro r st ⟨rfl,rfl⟩
 rw [Q0z,Nat.pow_one]
 have e4:IntKind.i64.wrap (a.exp-b.exp)=a.exp-b.exp:=Q0r _ (by have:=ba.2;have:=bb.2;omega) (by have:=ba.2;have:=bb.2;omega)
 have e5:IntKind.i64.wrap (a.exp-b.exp-(s:Int))=a.exp-b.exp-(s:Int):=Q0r _ (by have:=ba.2;have:=bb.2;omega) (by have:=ba.2;have:=bb.2;omega)
 have e6:IntKind.i64.wrap (a.exp-b.exp-(s:Int)-1)=a.exp-b.exp-(s:Int)-1:=Q0r _ (by have:=ba.2;have:=bb.2;omega) (by have:=ba.2;have:=bb.2;omega)
 have hlen:(Q0n (valW a.w*2^s % valW b.w)).length=0↔valW a.w*2^s % valW b.w=0:=by
  constructor
  · intro h
    have h2:=Q0z (valW a.w*2^s % valW b.w)
    rw [List.eq_nil_of_length_eq_zero h] at h2
    exact h2.symm
  · intro h;rw [h,X0i];rfl
 have hq2:valW a.w*2^s/valW b.w*2=2*(valW a.w*2^s/valW b.w):=Nat.mul_comm _ _
 have hl2:(Q0n (valW a.w*2^s/valW b.w*2)).length≤300:=by
  have:=H0i (valW a.w*2^s/valW b.w*2)
  have h2:=Y0j (valW a.w*2^s/valW b.w) 1
  rw [Nat.pow_one] at h2
  have h3:=X0o (Nat.div_le_self (valW a.w*2^s) (valW b.w))
  omega
 have hqm:q0v (valW a.w) (valW b.w) p=2*(valW a.w*2^s/valW b.w)+if valW a.w*2^s % valW b.w=0 then 0 else 1:=by unfold q0v;rw [hs]
 unfold J2g
 rw [hs,hqm]
 generalize valW a.w*2^s/valW b.w=q at*
 generalize valW a.w*2^s % valW b.w=rr at*
 by_cases hz:rr=0
 · have f1:decide (((Q0n rr).length:Int)>0)=false:=decide_eq_false (by have:=hlen.2 hz;omega)
   simp -dsimp only [go_sem,f1,e4,e5,e6]
   rw [if_pos hz,Nat.add_zero,hq2]
   rfl
 · have f1:decide (((Q0n rr).length:Int)>0)=true:=decide_eq_true (by have:=fun h=>hz (hlen.1 h);omega)
   simp -dsimp only [go_sem,f1]
   refine(Y1b (Q0n (q*2)) [1] _ (by omega) (by simp)).mono ?_
   rintro r st ⟨rfl,rfl⟩
   have h1:valW [1]=1:=rfl
   rw [Q0z,h1,hq2]
   simp -dsimp only [go_sem,e4,e5,e6]
   rw [if_neg hz]
   rfl
theorem J2f {a b:Nm} {p:Nat} (ha:Q0j a=true) (hb:Q0j b=true) (hp:p≤256):bd 1000000 1000000 (J2g a b p):=by
 have ba:=Z0z ha
 have bb:=Z0z hb
 have la:=ba.1
 have hba:=V0o a.w
 have hbb:=V0o b.w
 have lb:=bb.1
 have hB:X0l b.w=Q0h (valW b.w):=rfl
 have hA:X0l a.w=Q0h (valW a.w):=rfl
 have ml2:=G1z (valW a.w) (valW b.w) p
 refine⟨?_,?_,?_⟩
 · show(Q0n (q0v (valW a.w) (valW b.w) p)).length≤1000000
   have h1:=H0i (q0v (valW a.w) (valW b.w) p)
   have h2:q0v (valW a.w) (valW b.w) p≤valW a.w*2^J0y (valW a.w) (valW b.w) p*2^2:=by
    unfold q0v
    have:=Nat.div_le_self (valW a.w*2^J0y (valW a.w) (valW b.w) p) (valW b.w)
    have:=Nat.mod_le (valW a.w*2^J0y (valW a.w) (valW b.w) p) (valW b.w)
    split
    · omega
    · rename_i hne
      have:valW a.w*2^J0y (valW a.w) (valW b.w) p≠0:=fun e=>by rw [e,Nat.zero_mod] at hne;exact hne rfl
      omega
   have h3:=X0o h2
   have h4:=Y0j (valW a.w*2^J0y (valW a.w) (valW b.w) p) 2
   have h5:=Y0j (valW a.w) (J0y (valW a.w) (valW b.w) p)
   omega
 · show -((1000000:Nat):Int)≤a.exp-b.exp-(J0y (valW a.w) (valW b.w) p:Int)-1
   have:=ba.2
   have:=bb.2
   omega
 · show a.exp-b.exp-(J0y (valW a.w) (valW b.w) p:Int)-1≤((1000000:Nat):Int)
   have:=ba.2
   have:=bb.2
   omega
theorem Z1j (a b:Nm) (p:Int) (up:Bool) (st:Q0f) (ha:Q0j a=true) (hb:Q0j b=true) (hp:Z0p p=true) (h0:0<valW b.w):
 PCalls Tryz.prog 137 [.agg (encN a),.agg (encN b),.sc (.int .i64 p),.sc (.bool up)] st (fun r st'=>r= .tup [.agg (encN (divN a b p up).1),.sc (.int .i64 (divN a b p up).2)]∧st'=st):=by
 have wa:=Q0u ha
 have wb:=Q0u hb
 unfold wN at wa wb
 obtain⟨q,rfl,hq8,hq256,hqq⟩:=K0e hp
 refine Q0b none Tryz.func137 rfl fun E=>Q0a ?_
 simp -dsimp only [go_sem]
 refine(X0m a _ (by omega)).mono ?_
 rintro r st ⟨rfl,rfl⟩
 rw [ha]
 simp -dsimp only [go_sem]
 refine(X0m b _ (by omega)).mono ?_
 rintro r st ⟨rfl,rfl⟩
 rw [hb]
 simp -dsimp only [go_sem]
 refine(Y0p _ _).mono ?_
 rintro r st ⟨rfl,rfl⟩
 rw [hp]
 have hbl:((b.w.length:Int)==0)=false:=beq_eq_false_iff_ne.2 (fun e=>by
  have:b.w= []:=List.eq_nil_of_length_eq_zero (by omega)
  rw [this,V0c] at h0;omega)
 simp -dsimp only [go_sem,hbl]
 by_cases hz:a.w= []
 · have hal:((a.w.length:Int)==0)=true:=by rw [hz];rfl
   simp -dsimp only [go_sem,hal]
   unfold divN ratV
   rw [if_pos (show(ofN a).m=0 by show valW a.w=0;rw [hz,V0c])]
   unfold Z0h
   rw [if_pos (by show Q0h 0≤_;rw [X0g];omega)]
   rfl
 · have hal:((a.w.length:Int)==0)=false:=beq_eq_false_iff_ne.2 (fun e=>hz (List.eq_nil_of_length_eq_zero (by omega)))
   have hv:valW a.w≠0:=fun e=>hz ((X0q ha).1 e)
   simp -dsimp only [go_sem,hal]
   refine(z1u a b q _ ha hb hq256 h0).mono ?_
   rintro r st ⟨rfl,rfl⟩
   simp -dsimp only [go_sem]
   refine(x0a (J2g a b q) q up _ (J2f ha hb hq256) (by omega) (by omega)).mono ?_
   rintro r st ⟨rfl,rfl⟩
   rw [J2e hv]
   simp -dsimp only [go_sem]
   unfold divN
   rw [hqq]
end Go.Pv
end
