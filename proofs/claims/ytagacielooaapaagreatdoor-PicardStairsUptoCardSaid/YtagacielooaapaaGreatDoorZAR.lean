/- Parts of the walk: N34, N35, N36, N37, N38, N39, N40, N41, N42, N43, M39, M40, M41, N44. -/
import Derived.Test.YtagacielooaapaaGreatDoorZAQ
import Derived.Test.YtagacielooaapaaGreatDoorZM
import Derived.Test.YtagacielooaapaaGreatDoorZAF
import Derived.Test.YtagacielooaapaaGreatDoorZAM
import Derived.Test.YtagacielooaapaaGreatDoorZAL
import Derived.Test.YtagacielooaapaaGreatDoorZAW
set_option linter.unusedVariables false
set_option linter.unusedSimpArgs false
section
/-The program's matrices:Norm,Id;Mag on both sides. -/
set_option maxRecDepth 100000
namespace Go.Pv
open Go.Proofs
theorem v2i (n:Nat) (st:Q0e) (hn:n<9223372036854775808):PCalls Tryz.prog 92 [.sc (.int .i64 n)] st (fun r st'=>r= .agg (encN (mkX false [UInt64.ofNat n] 0).1)∧st'=st):=by
 have g1:decide ((n:Int)<0)=false:=decide_eq_false (by omega)
 have g2:IntKind.u64.wrap (n:Int)=n:=W0z n (by omega)
 have g3: [PV.sc (.int .u64 n)]=encW [UInt64.ofNat n]:=by
  simp only [encW,List.map_cons,List.map_nil]
  rw [UInt64.toNat_ofNat_of_lt' (show n<UInt64.size by unfold UInt64.size;omega)]
 refine Q0b none Tryz.func92 rfl fun E=>Q0a ?_
 simp -dsimp only [go_sem,g1,g2]
 rw [g3]
 refine(J1w false _ 0 _ (by simp) (by omega) (by omega)).mono ?_
 rintro r st ⟨rfl,rfl⟩
 simp -dsimp only [go_sem]
theorem v2e :(mkX false [1] 0).1=oneN:=by decide+kernel
theorem G2e (st:Q0e):PCalls Tryz.prog 92 [.sc (.int .i64 1)] st (fun r st'=>r= .agg (encN oneN)∧st'=st):=by
 have:=v2i 1 st (by omega)
 rw [show UInt64.ofNat 1=1 from rfl,v2e] at this;exact this
end Go.Pv
end
section
/-The document's matrices:RightMat,SameMat,InMat,PointMat;rows held against one another. -/
set_option maxRecDepth 100000
namespace Go.Pv
open Go.Proofs
theorem w1d (a b:List UInt64) (st:Q0e) (ha:a.length≤100000000000) (hb:b.length≤100000000000):PCalls Tryz.prog 59 [.sl .no (encW a),.sl .no (encW b)] st (fun r st'=>r= .sc (.bool (decide (a=b)))∧st'=st):=by
 refine Q0b none Tryz.func59 rfl fun E=>Q0a ?_
 simp -dsimp only [go_sem]
 refine ck (fun h0=> ?_) (fun h0=> ?_)
 · have hne:=Z1i h0
   simp -dsimp only [go_sem]
   rw [decide_eq_false (fun e=>hne (by rw [e]))]
 · have hl:=j0v h0
   simp -dsimp only [go_sem]
   refine Q0f [true,true,false,false,false,true] 0 0 (fun n s=> ∃i,n=a.length-i∧i≤a.length∧(∀j,j<i→a.getD j 0=b.getD j 0)∧s=⟨[.sl .no (encW a),.sl .no (encW b),.junk,.junk,.junk,.sc (.int .i64 (i:Nat))]++List.replicate 20 .junk,[],[],st⟩) a.length ?_ ?_
   · simp -dsimp only [go_sem]
     exact⟨0,by omega,by omega,fun j hj=>by omega,rfl⟩
   · rintro n s ⟨i,rfl,hi,hr,rfl⟩
     simp -dsimp only [go_sem]
     refine ck (fun h'=> ?_) (fun h'=> ?_)
     · have hlt:i<a.length:=by have:=of_decide_eq_true h';omega
       have e1:=Z0n a i hlt
       have e2:=Z0n b i (by omega)
       have e3:=j0m i (by omega)
       simp -dsimp only [go_sem]
       refine Q0l Z0x 26 (.step 0 [] (.step 1 [] (.step 2 [] (.step 3 [] (.step 4 [] (.step 5 [] (.step 6 [] (.step 7 [] (.step 8 [] (.done)))))))))) (by decide+kernel) (by simp) ?_
       simp -dsimp only [go_sem,e1,e2]
       refine⟨by omega,by omega,?_⟩
       refine ck (fun h2=> ?_) (fun h2=> ?_)
       · have hf:a.getD i 0≠b.getD i 0:=by intro e;rw [e] at h2;simp at h2
         simp -dsimp only [go_sem]
         rw [decide_eq_false (fun e=>hf (by rw [e]))]
       · have ht:a.getD i 0=b.getD i 0:=by
          have:=j0v h2
          exact UInt64.toNat_inj.1 this
         simp -dsimp only [go_sem,e3]
         refine⟨a.length-(i+1),by omega,i+1,rfl,by omega,fun j hj=> ?_,rfl⟩
         by_cases e:j=i
         · subst e;exact ht
         · exact hr j (by omega)
     · have hge:i=a.length:=by have:=of_decide_eq_false h';omega
       simp -dsimp only [go_sem]
       refine Q0a ?_
       simp -dsimp only [go_sem]
       rw [decide_eq_true (Q1r 0 hl fun j hj=>hr j (by omega))]
end Go.Pv
end
section
/-The document's matrices:OpMat,TimesMat,MidMat,column,Dot,Vec. -/
set_option maxRecDepth 100000
namespace Go.Pv
open Go.Proofs
def colM (m:Mx) (j:Nat):List Ivl:=(List.range m.length).map fun i=>atM m i j
end Go.Pv
end
section
/-The document's matrices:One,MulMat. -/
set_option maxRecDepth 100000
namespace Go.Pv
open Go.Proofs
theorem v2b (f:PV→PV) (l:List PV) (o:Nat) (r:List PV):(over l o r).map f=over (l.map f) o (r.map f):=by
 simp [over,List.map_take,List.map_drop]
theorem j2w (f:PV→PV) (n:Nat) (z:List PV):(repC n z).map f=repC n (z.map f):=by
 unfold repC;rw [List.map_flatten,List.map_replicate]
theorem Y3o {l r:List PV} {o:Nat} (h1:fzOK l=true) (h2:fzOK r=true):fzOK (over l o r)=true:=by
 unfold fzOK at*
 rw [List.all_eq_true] at*
 intro p hp
 simp only [over,List.mem_append] at hp
 rcases hp with (hp | hp) | hp
 · exact h1 p (List.mem_of_mem_take hp)
 · exact h2 p hp
 · exact h1 p (List.mem_of_mem_drop hp)
theorem Y3n {n:Nat} {z:List PV} (h:fzOK z=true):fzOK (repC n z)=true:=by
 unfold fzOK at*
 rw [List.all_eq_true] at*
 intro p hp
 simp only [repC,List.mem_flatten,List.mem_replicate] at hp
 obtain⟨l,⟨_,rfl⟩,hp⟩:=hp
 exact h p hp
def rowQ (n i:Nat):List Nm:=(List.replicate n default).set i oneN
def oneL (k:Nat):List (List Nm):=(List.range k).map (rowQ k)
def oneQ (n:Int):List (List Nm):=if 1≤n∧n≤4 then oneL n.toNat else []
end Go.Pv
end
section
/-The deck's matrices,and numbers of them. -/
set_option maxRecDepth 100000
namespace Go.Pv
open Go.Proofs
def smM (m:Mx):Prop:=1≤m.length∧m.length≤4∧ ∀i,i<m.length→(m.getD i []).length=m.length∧ ∀j,j<m.length→smI (atM m i j)
theorem smM.right {m:Mx} (h:smM m):V0x m=true:=rightM_iff.2 ⟨fun i hi=>⟨(h.2.2 i hi).1,W0a (fun j hj=>by
 have:=(h.2.2 i hi).2 j (by rw [←(h.2.2 i hi).1];exact hj)
 exact this.1) (by rw [(h.2.2 i hi).1];exact h.1) (by rw [(h.2.2 i hi).1];exact h.2.1)⟩,h.1,h.2.1⟩
def inQ (m:Mx) (q:List (List Nm)):Prop:=q.length=m.length∧ ∀i,i<m.length→(q.getD i []).length=m.length∧ ∀j,j<m.length→ ∃n,n≤8∧(q.getD i []).getD j default=inN (atM m i j) n
end Go.Pv
end
section
/-Layer 7:light,known. -/
set_option maxRecDepth 100000
namespace Go.Pv
open Go.Proofs
def q4v (l:List Mx):List PV:=l.map fun c=> .sl .no (encM c)
def kL :List (List Nm):= [[k1,k2],[default,k1]]
def kK :Mx:= [[⟨k1,k1⟩,⟨k2,k2⟩],[default,⟨k1,k1⟩]]
def kP :Mx:=(mulM kK kK 16).1
def kN :Nm:=(W4b kK 16).1
def kV :List Ivl:=(vecM kK [⟨k1,k1⟩,⟨k2,k2⟩] 16).1
def kS :Mx:=(opM 0 kK (idM 2) 16).1
def kU :Mx:=(z3m ⟨k2,k2⟩ kK 16).1
def kX7 :List (List Nm):=(midM kK 16).1
end Go.Pv
end
section
/-How far down and how far up a value goes:sums,products,rounding,and what fits. No program in it. -/
namespace Go.Pv
def luQ (L U:Nat) (x:Rat):Prop:= ∃z:Int,x=qM z (-(L:Int))∧z.natAbs≤2^(L+U)
theorem G0t (L U:Nat):luQ L U 0:=⟨0,(X0x _).symm,Nat.zero_le _⟩
theorem luQ.up {L U U':Nat} {x:Rat} (h:luQ L U x) (hu:U≤U'):luQ L U' x:=by
 obtain⟨z,h1,h2⟩:=h
 exact⟨z,h1,Nat.le_trans h2 (Nat.pow_le_pow_right (by omega) (by omega))⟩
theorem luQ.down {L L' U:Nat} {x:Rat} (h:luQ L U x) (hl:L≤L'):luQ L' U x:=by
 obtain⟨z,h1,h2⟩:=h
 refine⟨z*2^(L'-L),?_,?_⟩
 · rw [W0c,h1];congr 1;omega
 · have e:(z*2^(L'-L)).natAbs=z.natAbs*2^(L'-L):=by rw [Int.natAbs_mul,Int.natAbs_pow];rfl
   rw [e,show L'+U=(L+U)+(L'-L) from by omega,Nat.pow_add]
   exact Nat.mul_le_mul_right _ h2
theorem luQ.mono {L U L' U':Nat} {x:Rat} (h:luQ L U x) (hl:L≤L') (hu:U≤U'):luQ L' U' x:=(h.down hl).up hu
theorem W3s {L U:Nat} {x:Rat} (h:luQ L U x):luQ L U (-x):=by
 obtain⟨z,h1,h2⟩:=h
 exact⟨-z,by rw [z0p,h1],by rw [Int.natAbs_neg];exact h2⟩
theorem x0a {L U:Nat} {x y:Rat} (hx:luQ L U x) (hy:luQ L U y):luQ L (U+1) (x+y):=by
 obtain⟨z,h1,h2⟩:=hx
 obtain⟨w,h3,h4⟩:=hy
 refine⟨z+w,by rw [W1q,h1,h3],?_⟩
 have:=Int.natAbs_add_le z w
 rw [show L+(U+1)=(L+U)+1 from by omega,Nat.pow_succ];omega
theorem G1r {L U:Nat} {x y:Rat} (hx:luQ L U x) (hy:luQ L U y):luQ L (U+1) (x-y):=by
 have:=x0a hx (W3s hy)
 rwa [←Rat.sub_eq_add_neg] at this
theorem W0r {L U L' U':Nat} {x y:Rat} (hx:luQ L U x) (hy:luQ L' U' y):luQ (L+L') (U+U') (x*y):=by
 obtain⟨z,h1,h2⟩:=hx
 obtain⟨w,h3,h4⟩:=hy
 refine⟨z*w,?_,?_⟩
 · rw [show(-((L+L':Nat):Int))= -(L:Int)+ -(L':Int) from by omega,Q2g,h1,h3]
 · rw [Int.natAbs_mul,show L+L'+(U+U')=(L+U)+(L'+U') from by omega,Nat.pow_add]
   exact Nat.mul_le_mul h2 h4
theorem q0r (v:Vl):(Z0u v).natAbs=v.m:=by unfold Z0u;split<;>simp
theorem x1d {n k:Nat} {v:Vl} (h:bdV n k v):luQ k (n+k) (qV v):=by
 obtain⟨h1,h2,h3⟩:=h
 have hm:=bitlen_le_iff.1 h1
 refine⟨Z0u v*2^(v.e+k).toNat,?_,?_⟩
 · rw [W0c]
   unfold qV
   congr 1;omega
 · have e:(Z0u v*2^(v.e+k).toNat).natAbs=v.m*2^(v.e+k).toNat:=by rw [Int.natAbs_mul,Int.natAbs_pow,q0r];rfl
   rw [e,show k+(n+k)=n+2*k from by omega,Nat.pow_add]
   exact Nat.mul_le_mul (Nat.le_of_lt hm) (Nat.pow_le_pow_right (by omega) (by omega))
theorem G2s {z:Int} {n:Nat} (h:z.natAbs≤2^n) (L:Nat):luQ L n (qM z 0):=by
 have:luQ 0 n (qM z 0):=⟨z,rfl,by rw [Nat.zero_add];exact h⟩
 exact this.down (Nat.zero_le _)
theorem Z2k {L U:Nat} {v:Vl} (hc:canV v) (h:luQ L U (qV v)):v.m=0∨(-(L:Int)≤v.e∧v.e+(Q0i v.m:Int)≤(U:Int)+1):=by
 rcases hc with hm | rfl
 rotate_left
 · exact .inl rfl
 refine .inr ?_
 obtain⟨z,h1,h2⟩:=h
 have hz:Z0u v≠0:=fun e=>by have:=q0r v;rw [e] at this;simp at this;omega
 have hge: -(L:Int)≤v.e:=by
  apply Int.not_lt.1
  intro hlt
  obtain⟨d,hd⟩: ∃d:Nat, -(L:Int)=v.e+((d+1:Nat):Int):=⟨(-(L:Int)-v.e-1).toNat,by omega⟩
  have e1:qM z (-(L:Int))=qM (z*2^(d+1)) v.e:=by rw [W0c,hd]
  have e2:Z0u v=z*2^(d+1):=qM_eq.1 (h1.trans e1)
  have e3:v.m=z.natAbs*2^d*2:=by
   have:=q0r v
   rw [e2,Int.natAbs_mul,Int.natAbs_pow,Nat.pow_succ] at this
   rw [←this,Nat.mul_assoc];rfl
  omega
 refine⟨hge,?_⟩
 have e1:Z0u v*2^(v.e+L).toNat=z:=by
  have:qM (Z0u v*2^(v.e+L).toNat) (-(L:Int))=qM z (-(L:Int)):=by
   rw [W0c,←h1];unfold qV;congr 1;omega
  exact qM_eq.1 this
 have e2:v.m*2^(v.e+L).toNat≤2^(L+U):=by
  have:(Z0u v*2^(v.e+L).toNat).natAbs=v.m*2^(v.e+L).toNat:=by rw [Int.natAbs_mul,Int.natAbs_pow,q0r];rfl
  rw [←this,e1];exact h2
 have e3:Q0i (v.m*2^(v.e+L).toNat)≤L+U+1:=bitlen_le_iff.2 (Nat.lt_of_le_of_lt e2 (Nat.pow_lt_pow_right (by omega) (by omega)))
 rw [V0h _ _ (by omega)] at e3
 omega
theorem Z2l {L U:Nat} {v:Vl} (hc:canV v) (h:luQ L U (qV v)):bdV (L+U+1) (L+U+1) v:=by
 rcases Z2k hc h with h0 | ⟨h1,h2⟩
 · rcases hc with hm | rfl
   · omega
   · refine⟨?_,?_,?_⟩
     · show Q0i 0≤_;rw [J0b];omega
     · show -((L+U+1:Nat):Int)≤0;omega
     · show(0:Int)≤((L+U+1:Nat):Int);omega
 · exact⟨by omega,by omega,by omega⟩
theorem q0s {L U:Nat} {v:Vl} (hc:canV v) (h:luQ L U (qV v)) (hb:L+U+1≤4096):(numV v).2=0:=z1y (Z2l hc h) hb (by omega)
theorem w0c {m:Nat} (h:m≠0):2^(Q0i m-1)≤m:=by
 apply Nat.le_of_not_lt
 intro hlt
 have:=bitlen_le_iff.2 hlt
 have:=j0h h
 omega
theorem W0d {L U:Nat} {v:Vl} (hc:canV v) (h:luQ L U (qV v)) (p:Nat) (hp:1≤p) (up:Bool):luQ L (U+1) (qV (Q0y v p up)):=by
 unfold Q0y
 split
 · exact h.up (by omega)
 · rename_i hlt
   have h0:v.m≠0:=fun e=>by rw [e,J0b] at hlt;omega
   rcases Z2k hc h with h1 | ⟨h1,h2⟩
   · exact absurd h1 h0
   obtain⟨z,hz1,hz2⟩:=h
   have e1:Z0u v*2^(v.e+L).toNat=z:=by
    have:qM (Z0u v*2^(v.e+L).toNat) (-(L:Int))=qM z (-(L:Int)):=by
     rw [W0c,←hz1];unfold qV;congr 1;omega
    exact qM_eq.1 this
   have e2:v.m*2^(v.e+L).toNat≤2^(L+U):=by
    have:(Z0u v*2^(v.e+L).toNat).natAbs=v.m*2^(v.e+L).toNat:=by rw [Int.natAbs_mul,Int.natAbs_pow,q0r];rfl
    rw [←this,e1];exact hz2
   rw [Z1g,x0y]
   generalize hd:Q0i v.m-p=d at*
   generalize hc':(if v.m % 2^d≠0∧up≠v.neg then 1 else 0)=c
   have hcl:c≤1:=by rw [←hc'];split<;>omega
   have hb1:(v.m/2^d+c)*2^d≤2*v.m:=by
    have a1:=Nat.div_mul_le_self v.m (2^d)
    have a2:2^d≤v.m:=Nat.le_trans (Nat.pow_le_pow_right (by omega) (by omega)) (w0c h0)
    have a3:c*2^d≤2^d:=by
     have:=Nat.mul_le_mul_right (2^d) hcl
     omega
    rw [Nat.add_mul];omega
   refine⟨(if v.neg then -(((v.m/2^d+c)*2^d:Nat):Int) else(((v.m/2^d+c)*2^d:Nat):Int))*2^(v.e+L).toNat,?_,?_⟩
   · rw [W0c];congr 1;omega
   · have e3:((if v.neg then -(((v.m/2^d+c)*2^d:Nat):Int) else(((v.m/2^d+c)*2^d:Nat):Int))*2^(v.e+L).toNat).natAbs=(v.m/2^d+c)*2^d*2^(v.e+L).toNat:=by
      rw [Int.natAbs_mul,Int.natAbs_pow]
      generalize (v.m/2^d+c)*2^d=M
      split
      · rw [Int.natAbs_neg];rfl
      · rfl
     rw [e3,show L+(U+1)=(L+U)+1 from by omega,Nat.pow_succ]
     have:=Nat.mul_le_mul_right (2^(v.e+L).toNat) hb1
     rw [Nat.mul_assoc 2] at this
     omega
def luI (L U:Nat) (a:Ivl):Prop:=Q0h a=true∧luQ L U (qN a.lo)∧luQ L U (qN a.hi)
theorem luI.mono {L U L' U':Nat} {a:Ivl} (h:luI L U a) (hl:L≤L') (hu:U≤U'):luI L' U' a:=⟨h.1,h.2.1.mono hl hu,h.2.2.mono hl hu⟩
theorem w2c (L U:Nat):luI L U default:=by
 have e:qN (default:Ivl).lo=0:=X0x 0
 have e2:qN (default:Ivl).hi=0:=X0x 0
 exact⟨by decide,by rw [e];exact G0t _ _,by rw [e2];exact G0t _ _⟩
theorem X0z {p:Int} (h:Z0l p=true):1≤p.toNat:=by
 unfold Z0l at h
 simp only [Bool.and_eq_true,decide_eq_true_eq] at h
 omega
theorem H1e {L U:Nat} {lo hi:Vl} (h1:canV lo) (h2:canV hi) (q1:luQ L U (qV lo)) (q2:luQ L U (qV hi)) (hb:L+U+1≤4096) (hle:qV lo≤qV hi):(H0g lo hi).2=0∧luI L U (H0g lo hi).1:=by
 have f1:=q0s h1 q1 hb
 have f2:=q0s h2 q2 hb
 have hr:=k0x h1 h2 hle
 unfold H0g at hr⊢
 rw [if_pos ⟨f1,f2⟩] at hr⊢
 refine⟨rfl,hr,?_,?_⟩
 · rw [(J0u h1 f1).2];exact q1
 · rw [(J0u h2 f2).2];exact q2
theorem w2a {L U L' U':Nat} {x y u v:Vl} (hx:luQ L U (qV x)) (hy:luQ L U (qV y)) (hu:luQ L' U' (qV u)) (hv:luQ L' U' (qV v)):luQ (L+L') (U+U') (qV (V0q x y u v)):=by
 rcases U0f x y u v with h | h | h | h
 all_goals rw [h,Y0t];exact W0r (by assumption) (by assumption)
theorem w2b {L U L' U':Nat} {x y u v:Vl} (hx:luQ L U (qV x)) (hy:luQ L U (qV y)) (hu:luQ L' U' (qV u)) (hv:luQ L' U' (qV v)):luQ (L+L') (U+U') (qV (H0y x y u v)):=by
 rcases j0d x y u v with h | h | h | h
 all_goals rw [h];exact W0r (by assumption) (by assumption)
theorem X3l {k L U:Nat} {a b:Ivl} {p:Int} (hk:k<2) (ha:luI L U a) (hb:luI L U b) (hp:Z0l p=true) (hbd:L+U+3≤4096):(opI k a b p).2=0∧luI L (U+2) (opI k a b p).1:=by
 have ca:=canI ha.1
 have cb:=canI hb.1
 have pp:=X0z hp
 have hlo:luQ L (U+1) (qV (loV k (ofN a.lo) (ofN a.hi) (ofN b.lo) (ofN b.hi))):=by
  unfold loV
  split
  · rw [J0n];exact x0a ha.2.1 hb.2.1
  · rw [if_pos (by omega),W0o];exact G1r ha.2.1 hb.2.2
 have hhi:luQ L (U+1) (qV (hiV k (ofN a.lo) (ofN a.hi) (ofN b.lo) (ofN b.hi))):=by
  unfold hiV
  split
  · rw [J0n];exact x0a ha.2.2 hb.2.2
  · rw [if_pos (by omega),W0o];exact G1r ha.2.2 hb.2.1
 have c1:=H0j k ca.1 ca.2 cb.1 cb.2
 have c2:=H0k k ca.1 ca.2 cb.1 cb.2
 unfold opI
 rw [if_pos ⟨ha.1,hb.1,hp⟩]
 exact H1e (Z0i c1 _ _) (Z0i c2 _ _) (W0d c1 hlo _ pp _) (W0d c2 hhi _ pp _) (by omega) (W3w k ha.1 hb.1 _)
theorem U2v {L U L' U':Nat} {a b:Ivl} {p:Int} (ha:luI L U a) (hb:luI L' U' b) (hp:Z0l p=true) (hbd:L+L'+U+U'+2≤4096):(opI 2 a b p).2=0∧luI (L+L') (U+U'+1) (opI 2 a b p).1:=by
 have ca:=canI ha.1
 have cb:=canI hb.1
 have pp:=X0z hp
 have hlo:luQ (L+L') (U+U') (qV (loV 2 (ofN a.lo) (ofN a.hi) (ofN b.lo) (ofN b.hi))):=w2a ha.2.1 ha.2.2 hb.2.1 hb.2.2
 have hhi:luQ (L+L') (U+U') (qV (hiV 2 (ofN a.lo) (ofN a.hi) (ofN b.lo) (ofN b.hi))):=w2b ha.2.1 ha.2.2 hb.2.1 hb.2.2
 have c1:=H0j 2 ca.1 ca.2 cb.1 cb.2
 have c2:=H0k 2 ca.1 ca.2 cb.1 cb.2
 unfold opI
 rw [if_pos ⟨ha.1,hb.1,hp⟩]
 exact H1e (Z0i c1 _ _) (Z0i c2 _ _) (W0d c1 hlo _ pp _) (W0d c2 hhi _ pp _) (by omega) (W3w 2 ha.1 hb.1 _)
end Go.Pv
end
section
/-Sums of products of small intervals:none fails,and what is in them. No program in it. -/
namespace Go.Pv
def dotQ (X Y:Nat→Rat):Nat→Rat
 | 0=>0
 | n+1=>dotQ X Y n+X n*Y n
def dotV (x y:Nat→Nm):Nat→Vl
 | 0=>⟨false,0,0⟩
 | n+1=>K0o (dotV x y n) (byV (ofN (x n)) (ofN (y n)))
theorem X3a (x y:Nat→Nm): ∀n,qV (dotV x y n)=dotQ (fun k=>qN (x k)) (fun k=>qN (y k)) n
 | 0=>z0h rfl
 | n+1=>by rw [dotV,J0n,Y0t,X3a x y n];rfl
theorem X2g {x y:Nat→Nm} : ∀n,(∀k,k<n→Q0g (x k)=true∧Q0g (y k)=true)→canV (dotV x y n)
 | 0,_=> .inr rfl
 | n+1,h=>Y0l (X2g n fun k hk=>h k (by omega)) (v0c (X0g (h n (by omega)).1) (X0g (h n (by omega)).2))
theorem G2r {L U L' U':Nat} {X Y:Nat→Rat} : ∀n,(∀k,k<n→luQ L U (X k)∧luQ L' U' (Y k))→luQ (L+L') (U+U'+n) (dotQ X Y n)
 | 0,_=>G0t _ _
 | n+1,h=>by
  have h1:=G2r n fun k hk=>h k (by omega)
  have h2:=W0r (h n (by omega)).1 (h n (by omega)).2
  exact x0a h1 (h2.up (show U+U'≤U+U'+n by omega))
def K4x (v w:Vl) (a:Ivl):Bool:=decide (V0d (byV (ofN a.lo) w) v≤0)&&decide (V0d v (byV (ofN a.hi) w)≤0)
def oneV :Vl:=oddV false 1 0
theorem x3l :qV oneV=1:=by
 unfold oneV
 rw [X1b];rfl
end Go.Pv
end
section
/-By the matrix of ones;what the norm bounds. No program in it. -/
namespace Go.Pv
theorem X3b :qN oneN=1:=by
 have:qN oneN=qM 1 0:=rfl
 rw [this];unfold qM;rw [p2_zero,Rat.intCast_one,Rat.mul_one]
theorem U0q :qN (default:Nm)=0:=X0x 0
def H4o (i k:Nat):Rat:=if i=k then 1 else 0
theorem j3i {a:Ivl} (h:Q0h a=true):memI (qN a.hi) a:=⟨by have:=K0m h;rwa [Q0p,Q0p] at this,Rat.le_refl⟩
def inQ1 (A x:Rat):Prop:= -A≤x∧x≤A
def sumQ (A:Nat→Rat):Nat→Rat
 | 0=>0
 | n+1=>sumQ A n+A n
def j3g (z:Nat→Nm):Nat→Vl
 | 0=>⟨false,0,0⟩
 | i+1=>if V0d (ofN (absN (z i))) (j3g z i)>0 then ofN (absN (z i)) else j3g z i
theorem w0j (a b:Vl):V0d a b>0↔qV b<qV a:=by
 have:=w0i a b
 rw [←Rat.not_le,←this];omega
def absV (v:Vl):Vl:=if K0l v<0 then V0s v else v
end Go.Pv
end
section
/-Within;the law MatHolds. -/
set_option maxRecDepth 100000
namespace Go.Pv
open Go.Proofs
theorem V4v {a:Ivl} {n:Nat} (ha:smI a) (hn:n≤8):Q0g (inN a n)=true∧memI (qN (inN a n)) a∧luQ 62 105 (qN (inN a n)):=by
 obtain⟨h1,h2,h3⟩:=V4u ha hn
 exact⟨h1,h2,x1d h3⟩
structure Dots (x y:Nat→Nm) (n:Nat):Prop where
 le:n≤4
 rx: ∀k,k<n→Q0g (x k)=true∧Q0g (y k)=true
 lu: ∀k,k<n→luQ 62 105 (qN (x k))∧luQ 62 105 (qN (y k))
theorem Dots.bd {x y:Nat→Nm} {n:Nat} (h:Dots x y n) {k:Nat} (hk:k≤n):bdV 100000 100000 (dotV x y k):=by
 have h4:=h.le
 have hc:=X2g (x:=x) (y:=y) k fun j hj=>h.rx j (by omega)
 have hl:=G2r (X:=fun k=>qN (x k)) (Y:=fun k=>qN (y k)) k fun j hj=>h.lu j (by omega)
 rw [←X3a] at hl
 exact(Z2l hc hl).mono (by omega) (by omega)
theorem Dots.sm {x y:Nat→Nm} {n:Nat} (h:Dots x y n) {k:Nat} (hk:k≤n):smV (dotV x y k):=X1z (h.bd hk) (by omega) (by omega)
end Go.Pv
end
