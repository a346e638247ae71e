/- Parts of the walk: N34, N35, N36, N37, N38, N39, N40, N41, N42, N43, M39, M40, M41, N44. -/
import Derived.Test.YthichlfphjbadaaGreatZAQ
import Derived.Test.YthichlfphjbadaaGreatZM
import Derived.Test.YthichlfphjbadaaGreatZAF
import Derived.Test.YthichlfphjbadaaGreatZAM
import Derived.Test.YthichlfphjbadaaGreatZY
import Derived.Test.YthichlfphjbadaaGreatZAE
set_option linter.unusedVariables false
set_option linter.unusedSimpArgs false
section
/-The document's matrices:OpMat,TimesMat,MidMat,column,Dot,Vec. -/
set_option maxRecDepth 100000
namespace Go.Pv
open Go.Proofs
def colM (m:Mx) (j:Nat):List Ivl:=(List.range m.length).map fun i=>atM m i j
theorem Z1j {α:Type} (f:Nat→α) (n i:Nat) (h:i<n):((List.range n).map f).take (i+1)=((List.range n).map f).take i++ [f i]:=by
 rw [←List.map_take,←List.map_take,List.take_range,List.take_range,Nat.min_eq_left (by omega),Nat.min_eq_left (by omega),List.range_succ,List.map_append];rfl
end Go.Pv
end
section
/-The document's matrices:One,MulMat. -/
set_option maxRecDepth 100000
namespace Go.Pv
open Go.Proofs
theorem z2r (f:PV→PV) (l:List PV) (o:Nat) (r:List PV):(over l o r).map f=over (l.map f) o (r.map f):=by
 simp [over,List.map_take,List.map_drop]
theorem q2m (f:PV→PV) (n:Nat) (z:List PV):(repC n z).map f=repC n (z.map f):=by
 unfold repC;rw [List.map_flatten,List.map_replicate]
theorem X3z {l r:List PV} {o:Nat} (h1:fzOK l=true) (h2:fzOK r=true):fzOK (over l o r)=true:=by
 unfold fzOK at*
 rw [List.all_eq_true] at*
 intro p hp
 simp only [over,List.mem_append] at hp
 rcases hp with (hp | hp) | hp
 · exact h1 p (List.mem_of_mem_take hp)
 · exact h2 p hp
 · exact h1 p (List.mem_of_mem_drop hp)
theorem X3y {n:Nat} {z:List PV} (h:fzOK z=true):fzOK (repC n z)=true:=by
 unfold fzOK at*
 rw [List.all_eq_true] at*
 intro p hp
 simp only [repC,List.mem_flatten,List.mem_replicate] at hp
 obtain⟨l,⟨_,rfl⟩,hp⟩:=hp
 exact h p hp
theorem U3f (n:Nat):repC n (encN default)=flat (Q0w (List.replicate n default)):=by
 simp [repC,flat,Q0w,PV.cells]
def rowQ (n i:Nat):List Nm:=(List.replicate n default).set i oneN
def oneL (k:Nat):List (List Nm):=(List.range k).map (rowQ k)
theorem X1r (k:Nat):(oneL k).length=k:=by simp [oneL]
def oneQ (n:Int):List (List Nm):=if 1≤n∧n≤4 then oneL n.toNat else []
theorem Z1o (n i:Nat):(rowQ n i).length=n:=by simp [rowQ]
set_option maxHeartbeats 1000000 in
theorem y3t (n:Int) (st:Q0g):PCalls Tryz.prog 143 [.sc (.int .i64 n)] st (fun r st'=>r= .sl .no (encQ (oneQ n))∧st'=st):=by
 refine Q0b none Tryz.func143 rfl fun E=>Q0a ?_
 by_cases h1:n<1
 · have f1:decide (n<1)=true:=decide_eq_true h1
   simp -dsimp only [go_sem,f1]
   rw [oneQ,if_neg (by omega)];rfl
 · have f1:decide (n<1)=false:=decide_eq_false h1
   by_cases h4:n>4
   · have f2:decide (n>4)=true:=decide_eq_true h4
     simp -dsimp only [go_sem,f1,f2]
     rw [oneQ,if_neg (by omega)];rfl
   · have f2:decide (n>4)=false:=decide_eq_false h4
     obtain⟨k,rfl⟩:=Int.eq_ofNat_of_zero_le (show 0≤n by omega)
     have hq:oneQ (k:Int)=oneL k:=by rw [oneQ,if_pos (by omega)];rfl
     rw [hq]
     simp -dsimp only [go_sem,f1,f2]
     refine X0k 3 1 ?_
     simp -dsimp only [go_sem]
     refine G0p [true,false,false,true,true] 0 1
      (fun m s=> ∃i,m=k-i∧i≤k∧s=⟨[.sc (.int .i64 k),.junk,.junk,.sl (.own 0) (encQ ((oneL k).take i)),.sc (.int .i64 (i:Nat))]++List.replicate 24 .junk,[],[(((oneL k).take i).length,1)],st⟩) k ?_ ?_
     · simp -dsimp only [go_sem]
       exact⟨0,by omega,by omega,rfl⟩
     · rintro m s ⟨i,rfl,hi,rfl⟩
       refine Q0h (Q0a ?_)
       simp -dsimp only [go_sem]
       refine ck (fun h'=> ?_) (fun h'=> ?_)
       · have hlt:i<k:=by have:=of_decide_eq_true h';omega
         have e3:=Y0r i (by omega)
         have ll:((oneL k).take i).length=i:=by rw [List.length_take,X1r];omega
         have e5:(oneL k).take (i+1)=(oneL k).take i++ [rowQ k i]:=Z1j _ _ _ hlt
         have e6:flat (Q0w (rowQ k i))=over (flat (Q0w (List.replicate k default))) (i*3) (encN oneN):=(U2f _ i oneN (by simpa using hlt)).symm
         simp -dsimp only [go_sem]
         refine Q0h (v0e (Q0h (Q0a ?_)))
         simp -dsimp only [go_sem]
         refine⟨⟨by omega,by omega⟩,?_⟩
         refine Q0h (Q0a ?_)
         simp -dsimp only [go_sem,j0l]
         refine⟨⟨by omega,hlt⟩,⟨by omega,by omega⟩,?_⟩
         have r0:repC k [.sc (.bool false),.sc (.int .i64 0),.sl .no []]=flat (Q0w (List.replicate k default)):=U3f k
         have r1:over (flat (Q0w (List.replicate k default))) (i*3) [.sc (.bool false),.sc (.int .i64 0),.sl .no [.sc (.int .u64 1)]]=flat (Q0w (rowQ k i)):=e6.symm
         have r2:=k2i (rowQ k i) k (Z1o k i).symm
         have r3:=Z1o k i
         refine j0p 0 3 ?_ ?_
         · simp -dsimp only [go_sem]
           exact X3z (X3y rfl) rfl
         simp -dsimp only [go_sem,z2r,q2m,r0,r1,r2,r3]
         refine Q0a ?_
         simp -dsimp only [go_sem]
         refine⟨⟨by omega,by omega⟩,Q0a ?_⟩
         simp -dsimp only [go_sem,e3]
         refine⟨k-(i+1),by omega,i+1,rfl,by omega,?_⟩
         rw [e5]
         simp
       · have hge:i=k:=by have:=of_decide_eq_false h';omega
         have ht:(oneL k).take i=oneL k:=List.take_of_length_le (by rw [X1r];omega)
         rw [ht]
         simp -dsimp only [go_sem]
         refine V0b [false,false,false,true] (Q0a ?_)
         simp -dsimp only [go_sem]
end Go.Pv
end
section
/-The deck's matrices,and numbers of them. -/
set_option maxRecDepth 100000
namespace Go.Pv
open Go.Proofs
def smM (m:Mx):Prop:=1≤m.length∧m.length≤4∧ ∀i,i<m.length→(m.getD i []).length=m.length∧ ∀j,j<m.length→smI (atM m i j)
theorem smM.right {m:Mx} (h:smM m):V0w m=true:=rightM_iff.2 ⟨fun i hi=>⟨(h.2.2 i hi).1,K0a (fun j hj=>by
 have:=(h.2.2 i hi).2 j (by rw [←(h.2.2 i hi).1];exact hj)
 exact this.1) (by rw [(h.2.2 i hi).1];exact h.1) (by rw [(h.2.2 i hi).1];exact h.2.1)⟩,h.1,h.2.1⟩
def inQ (m:Mx) (q:List (List Nm)):Prop:=q.length=m.length∧ ∀i,i<m.length→(q.getD i []).length=m.length∧ ∀j,j<m.length→ ∃n,n≤8∧(q.getD i []).getD j default=inN (atM m i j) n
end Go.Pv
end
section
/-Layer 7:light,known. -/
set_option maxRecDepth 100000
namespace Go.Pv
open Go.Proofs
def W4b (l:List Mx):List PV:=l.map fun c=> .sl .no (encM c)
def kL7 :List (List Nm):= [[k1,k2],[default,k1]]
def kK :Mx:= [[⟨k1,k1⟩,⟨k2,k2⟩],[default,⟨k1,k1⟩]]
def kP :Mx:=(mulM kK kK 16).1
def kN :Nm:=(y3u kK 16).1
def kV :List Ivl:=(vecM kK [⟨k1,k1⟩,⟨k2,k2⟩] 16).1
def kS7 :Mx:=(opM 0 kK (idM 2) 16).1
def kU :Mx:=(Y3k ⟨k2,k2⟩ kK 16).1
def kX7 :List (List Nm):=(midM kK 16).1
end Go.Pv
end
section
/-How far down and how far up a value goes:sums,products,rounding,and what fits. No program in it. -/
namespace Go.Pv
def luQ (L U:Nat) (x:Rat):Prop:= ∃z:Int,x=qM z (-(L:Int))∧z.natAbs≤2^(L+U)
theorem H0u (L U:Nat):luQ L U 0:=⟨0,(J0m _).symm,Nat.zero_le _⟩
theorem luQ.up {L U U':Nat} {x:Rat} (h:luQ L U x) (hu:U≤U'):luQ L U' x:=by
 obtain⟨z,h1,h2⟩:=h
 exact⟨z,h1,Nat.le_trans h2 (Nat.pow_le_pow_right (by omega) (by omega))⟩
theorem luQ.down {L L' U:Nat} {x:Rat} (h:luQ L U x) (hl:L≤L'):luQ L' U x:=by
 obtain⟨z,h1,h2⟩:=h
 refine⟨z*2^(L'-L),?_,?_⟩
 · rw [W0m,h1];congr 1;omega
 · have e:(z*2^(L'-L)).natAbs=z.natAbs*2^(L'-L):=by rw [Int.natAbs_mul,Int.natAbs_pow];rfl
   rw [e,show L'+U=(L+U)+(L'-L) from by omega,Nat.pow_add]
   exact Nat.mul_le_mul_right _ h2
theorem luQ.mono {L U L' U':Nat} {x:Rat} (h:luQ L U x) (hl:L≤L') (hu:U≤U'):luQ L' U' x:=(h.down hl).up hu
theorem X3d {L U:Nat} {x:Rat} (h:luQ L U x):luQ L U (-x):=by
 obtain⟨z,h1,h2⟩:=h
 exact⟨-z,by rw [X1h,h1],by rw [Int.natAbs_neg];exact h2⟩
theorem H0v {L U:Nat} {x y:Rat} (hx:luQ L U x) (hy:luQ L U y):luQ L (U+1) (x+y):=by
 obtain⟨z,h1,h2⟩:=hx
 obtain⟨w,h3,h4⟩:=hy
 refine⟨z+w,by rw [v2v,h1,h3],?_⟩
 have:=Int.natAbs_add_le z w
 rw [show L+(U+1)=(L+U)+1 from by omega,Nat.pow_succ];omega
theorem U1q {L U:Nat} {x y:Rat} (hx:luQ L U x) (hy:luQ L U y):luQ L (U+1) (x-y):=by
 have:=H0v hx (X3d hy)
 rwa [←Rat.sub_eq_add_neg] at this
theorem U1r {L U L' U':Nat} {x y:Rat} (hx:luQ L U x) (hy:luQ L' U' y):luQ (L+L') (U+U') (x*y):=by
 obtain⟨z,h1,h2⟩:=hx
 obtain⟨w,h3,h4⟩:=hy
 refine⟨z*w,?_,?_⟩
 · rw [show(-((L+L':Nat):Int))= -(L:Int)+ -(L':Int) from by omega,v2u,h1,h3]
 · rw [Int.natAbs_mul,show L+L'+(U+U')=(L+U)+(L'+U') from by omega,Nat.pow_add]
   exact Nat.mul_le_mul h2 h4
theorem x0j (v:Vl):(Z0x v).natAbs=v.m:=by unfold Z0x;split<;>simp
theorem G3e {n k:Nat} {v:Vl} (h:bdV n k v):luQ k (n+k) (qV v):=by
 obtain⟨h1,h2,h3⟩:=h
 have hm:=bitlen_le_iff.1 h1
 refine⟨Z0x v*2^(v.e+k).toNat,?_,?_⟩
 · rw [W0m]
   unfold qV
   congr 1;omega
 · have e:(Z0x v*2^(v.e+k).toNat).natAbs=v.m*2^(v.e+k).toNat:=by rw [Int.natAbs_mul,Int.natAbs_pow,x0j];rfl
   rw [e,show k+(n+k)=n+2*k from by omega,Nat.pow_add]
   exact Nat.mul_le_mul (Nat.le_of_lt hm) (Nat.pow_le_pow_right (by omega) (by omega))
theorem X3e {z:Int} {n:Nat} (h:z.natAbs≤2^n) (L:Nat):luQ L n (qM z 0):=by
 have:luQ 0 n (qM z 0):=⟨z,rfl,by rw [Nat.zero_add];exact h⟩
 exact this.down (Nat.zero_le _)
theorem y1e {L U:Nat} {v:Vl} (hc:canV v) (h:luQ L U (qV v)):v.m=0∨(-(L:Int)≤v.e∧v.e+(Q0j v.m:Int)≤(U:Int)+1):=by
 rcases hc with hm | rfl
 rotate_left
 · exact .inl rfl
 refine .inr ?_
 obtain⟨z,h1,h2⟩:=h
 have hz:Z0x v≠0:=fun e=>by have:=x0j v;rw [e] at this;simp at this;omega
 have hge: -(L:Int)≤v.e:=by
  apply Int.not_lt.1
  intro hlt
  obtain⟨d,hd⟩: ∃d:Nat, -(L:Int)=v.e+((d+1:Nat):Int):=⟨(-(L:Int)-v.e-1).toNat,by omega⟩
  have e1:qM z (-(L:Int))=qM (z*2^(d+1)) v.e:=by rw [W0m,hd]
  have e2:Z0x v=z*2^(d+1):=qM_eq.1 (h1.trans e1)
  have e3:v.m=z.natAbs*2^d*2:=by
   have:=x0j v
   rw [e2,Int.natAbs_mul,Int.natAbs_pow,Nat.pow_succ] at this
   rw [←this,Nat.mul_assoc];rfl
  omega
 refine⟨hge,?_⟩
 have e1:Z0x v*2^(v.e+L).toNat=z:=by
  have:qM (Z0x v*2^(v.e+L).toNat) (-(L:Int))=qM z (-(L:Int)):=by
   rw [W0m,←h1];unfold qV;congr 1;omega
  exact qM_eq.1 this
 have e2:v.m*2^(v.e+L).toNat≤2^(L+U):=by
  have:(Z0x v*2^(v.e+L).toNat).natAbs=v.m*2^(v.e+L).toNat:=by rw [Int.natAbs_mul,Int.natAbs_pow,x0j];rfl
  rw [←this,e1];exact h2
 have e3:Q0j (v.m*2^(v.e+L).toNat)≤L+U+1:=bitlen_le_iff.2 (Nat.lt_of_le_of_lt e2 (Nat.pow_lt_pow_right (by omega) (by omega)))
 rw [Y0c _ _ (by omega)] at e3
 omega
theorem Y2b {L U:Nat} {v:Vl} (hc:canV v) (h:luQ L U (qV v)):bdV (L+U+1) (L+U+1) v:=by
 rcases y1e hc h with h0 | ⟨h1,h2⟩
 · rcases hc with hm | rfl
   · omega
   · refine⟨?_,?_,?_⟩
     · show Q0j 0≤_;rw [K0t];omega
     · show -((L+U+1:Nat):Int)≤0;omega
     · show(0:Int)≤((L+U+1:Nat):Int);omega
 · exact⟨by omega,by omega,by omega⟩
theorem U0f {L U:Nat} {v:Vl} (hc:canV v) (h:luQ L U (qV v)) (hb:L+U+1≤4096):(numV v).2=0:=v0h (Y2b hc h) hb (by omega)
theorem v0f {m:Nat} (h:m≠0):2^(Q0j m-1)≤m:=by
 apply Nat.le_of_not_lt
 intro hlt
 have:=bitlen_le_iff.2 hlt
 have:=y0i h
 omega
theorem W0a {L U:Nat} {v:Vl} (hc:canV v) (h:luQ L U (qV v)) (p:Nat) (hp:1≤p) (up:Bool):luQ L (U+1) (qV (Z0h v p up)):=by
 unfold Z0h
 split
 · exact h.up (by omega)
 · rename_i hlt
   have h0:v.m≠0:=fun e=>by rw [e,K0t] at hlt;omega
   rcases y1e hc h with h1 | ⟨h1,h2⟩
   · exact absurd h1 h0
   obtain⟨z,hz1,hz2⟩:=h
   have e1:Z0x v*2^(v.e+L).toNat=z:=by
    have:qM (Z0x v*2^(v.e+L).toNat) (-(L:Int))=qM z (-(L:Int)):=by
     rw [W0m,←hz1];unfold qV;congr 1;omega
    exact qM_eq.1 this
   have e2:v.m*2^(v.e+L).toNat≤2^(L+U):=by
    have:(Z0x v*2^(v.e+L).toNat).natAbs=v.m*2^(v.e+L).toNat:=by rw [Int.natAbs_mul,Int.natAbs_pow,x0j];rfl
    rw [←this,e1];exact hz2
   rw [v0d,x0d]
   generalize hd:Q0j v.m-p=d at*
   generalize hc':(if v.m % 2^d≠0∧up≠v.neg then 1 else 0)=c
   have hcl:c≤1:=by rw [←hc'];split<;>omega
   have hb1:(v.m/2^d+c)*2^d≤2*v.m:=by
    have a1:=Nat.div_mul_le_self v.m (2^d)
    have a2:2^d≤v.m:=Nat.le_trans (Nat.pow_le_pow_right (by omega) (by omega)) (v0f h0)
    have a3:c*2^d≤2^d:=by
     have:=Nat.mul_le_mul_right (2^d) hcl
     omega
    rw [Nat.add_mul];omega
   refine⟨(if v.neg then -(((v.m/2^d+c)*2^d:Nat):Int) else(((v.m/2^d+c)*2^d:Nat):Int))*2^(v.e+L).toNat,?_,?_⟩
   · rw [W0m];congr 1;omega
   · have e3:((if v.neg then -(((v.m/2^d+c)*2^d:Nat):Int) else(((v.m/2^d+c)*2^d:Nat):Int))*2^(v.e+L).toNat).natAbs=(v.m/2^d+c)*2^d*2^(v.e+L).toNat:=by
      rw [Int.natAbs_mul,Int.natAbs_pow]
      generalize (v.m/2^d+c)*2^d=M
      split
      · rw [Int.natAbs_neg];rfl
      · rfl
     rw [e3,show L+(U+1)=(L+U)+1 from by omega,Nat.pow_succ]
     have:=Nat.mul_le_mul_right (2^(v.e+L).toNat) hb1
     rw [Nat.mul_assoc 2] at this
     omega
def luI (L U:Nat) (a:Ivl):Prop:=Q0l a=true∧luQ L U (qN a.lo)∧luQ L U (qN a.hi)
theorem luI.mono {L U L' U':Nat} {a:Ivl} (h:luI L U a) (hl:L≤L') (hu:U≤U'):luI L' U' a:=⟨h.1,h.2.1.mono hl hu,h.2.2.mono hl hu⟩
theorem x2p (L U:Nat):luI L U default:=by
 have e:qN (default:Ivl).lo=0:=J0m 0
 have e2:qN (default:Ivl).hi=0:=J0m 0
 exact⟨by decide,by rw [e];exact H0u _ _,by rw [e2];exact H0u _ _⟩
theorem V0c {p:Int} (h:Z0q p=true):1≤p.toNat:=by
 unfold Z0q at h
 simp only [Bool.and_eq_true,decide_eq_true_eq] at h
 omega
theorem G1b {L U:Nat} {lo hi:Vl} (h1:canV lo) (h2:canV hi) (q1:luQ L U (qV lo)) (q2:luQ L U (qV hi)) (hb:L+U+1≤4096) (hle:qV lo≤qV hi):(x0x lo hi).2=0∧luI L U (x0x lo hi).1:=by
 have f1:=U0f h1 q1 hb
 have f2:=U0f h2 q2 hb
 have hr:=j0x h1 h2 hle
 unfold x0x at hr⊢
 rw [if_pos ⟨f1,f2⟩] at hr⊢
 refine⟨rfl,hr,?_,?_⟩
 · rw [(J0f h1 f1).2];exact q1
 · rw [(J0f h2 f2).2];exact q2
theorem x2n {L U L' U':Nat} {x y u v:Vl} (hx:luQ L U (qV x)) (hy:luQ L U (qV y)) (hu:luQ L' U' (qV u)) (hv:luQ L' U' (qV v)):luQ (L+L') (U+U') (qV (z0c x y u v)):=by
 rcases x0k x y u v with h | h | h | h
 all_goals rw [h,x0v];exact U1r (by assumption) (by assumption)
theorem x2o {L U L' U':Nat} {x y u v:Vl} (hx:luQ L U (qV x)) (hy:luQ L U (qV y)) (hu:luQ L' U' (qV u)) (hv:luQ L' U' (qV v)):luQ (L+L') (U+U') (qV (j0a x y u v)):=by
 rcases W1m x y u v with h | h | h | h
 all_goals rw [h];exact U1r (by assumption) (by assumption)
theorem W2m {k L U:Nat} {a b:Ivl} {p:Int} (hk:k<2) (ha:luI L U a) (hb:luI L U b) (hp:Z0q p=true) (hbd:L+U+3≤4096):(opI k a b p).2=0∧luI L (U+2) (opI k a b p).1:=by
 have ca:=canI ha.1
 have cb:=canI hb.1
 have pp:=V0c hp
 have hlo:luQ L (U+1) (qV (loV k (ofN a.lo) (ofN a.hi) (ofN b.lo) (ofN b.hi))):=by
  unfold loV
  split
  · rw [K0z];exact H0v ha.2.1 hb.2.1
  · rw [if_pos (by omega),Y0t];exact U1q ha.2.1 hb.2.2
 have hhi:luQ L (U+1) (qV (hiV k (ofN a.lo) (ofN a.hi) (ofN b.lo) (ofN b.hi))):=by
  unfold hiV
  split
  · rw [K0z];exact H0v ha.2.2 hb.2.2
  · rw [if_pos (by omega),Y0t];exact U1q ha.2.2 hb.2.1
 have c1:=J1u k ca.1 ca.2 cb.1 cb.2
 have c2:=J1v k ca.1 ca.2 cb.1 cb.2
 unfold opI
 rw [if_pos ⟨ha.1,hb.1,hp⟩]
 exact G1b (Z0a c1 _ _) (Z0a c2 _ _) (W0a c1 hlo _ pp _) (W0a c2 hhi _ pp _) (by omega) (X3h k ha.1 hb.1 _)
theorem W2l {L U L' U':Nat} {a b:Ivl} {p:Int} (ha:luI L U a) (hb:luI L' U' b) (hp:Z0q p=true) (hbd:L+L'+U+U'+2≤4096):(opI 2 a b p).2=0∧luI (L+L') (U+U'+1) (opI 2 a b p).1:=by
 have ca:=canI ha.1
 have cb:=canI hb.1
 have pp:=V0c hp
 have hlo:luQ (L+L') (U+U') (qV (loV 2 (ofN a.lo) (ofN a.hi) (ofN b.lo) (ofN b.hi))):=x2n ha.2.1 ha.2.2 hb.2.1 hb.2.2
 have hhi:luQ (L+L') (U+U') (qV (hiV 2 (ofN a.lo) (ofN a.hi) (ofN b.lo) (ofN b.hi))):=x2o ha.2.1 ha.2.2 hb.2.1 hb.2.2
 have c1:=J1u 2 ca.1 ca.2 cb.1 cb.2
 have c2:=J1v 2 ca.1 ca.2 cb.1 cb.2
 unfold opI
 rw [if_pos ⟨ha.1,hb.1,hp⟩]
 exact G1b (Z0a c1 _ _) (Z0a c2 _ _) (W0a c1 hlo _ pp _) (W0a c2 hhi _ pp _) (by omega) (X3h 2 ha.1 hb.1 _)
end Go.Pv
end
section
/-Sums of products of small intervals:none fails,and what is in them. No program in it. -/
namespace Go.Pv
def dotQ (X Y:Nat→Rat):Nat→Rat
 | 0=>0
 | n+1=>dotQ X Y n+X n*Y n
def dotV (x y:Nat→Nm):Nat→Vl
 | 0=>⟨false,0,0⟩
 | n+1=>J0p (dotV x y n) (byV (ofN (x n)) (ofN (y n)))
theorem v2s (x y:Nat→Nm): ∀n,qV (dotV x y n)=dotQ (fun k=>qN (x k)) (fun k=>qN (y k)) n
 | 0=>w0s rfl
 | n+1=>by rw [dotV,K0z,x0v,v2s x y n];rfl
theorem y1v {x y:Nat→Nm} : ∀n,(∀k,k<n→Q0f (x k)=true∧Q0f (y k)=true)→canV (dotV x y n)
 | 0,_=> .inr rfl
 | n+1,h=>K0r (y1v n fun k hk=>h k (by omega)) (G1j (X0u (h n (by omega)).1) (X0u (h n (by omega)).2))
theorem Y2a {L U L' U':Nat} {X Y:Nat→Rat} : ∀n,(∀k,k<n→luQ L U (X k)∧luQ L' U' (Y k))→luQ (L+L') (U+U'+n) (dotQ X Y n)
 | 0,_=>H0u _ _
 | n+1,h=>by
  have h1:=Y2a n fun k hk=>h k (by omega)
  have h2:=U1r (h n (by omega)).1 (h n (by omega)).2
  exact H0v h1 (h2.up (show U+U'≤U+U'+n by omega))
def w3s (v w:Vl) (a:Ivl):Bool:=decide (V0p (byV (ofN a.lo) w) v≤0)&&decide (V0p v (byV (ofN a.hi) w)≤0)
def oneV :Vl:=oddV false 1 0
theorem U3m :qV oneV=1:=by
 unfold oneV
 rw [q2y];rfl
end Go.Pv
end
section
/-By the matrix of ones;what the norm bounds. No program in it. -/
namespace Go.Pv
theorem U3n :qN oneN=1:=by
 have:qN oneN=qM 1 0:=rfl
 rw [this];unfold qM;rw [j1t,Rat.intCast_one,Rat.mul_one]
theorem G0o :qN (default:Nm)=0:=J0m 0
def K4q (i k:Nat):Rat:=if i=k then 1 else 0
def inQ1 (A x:Rat):Prop:= -A≤x∧x≤A
def sumQ (A:Nat→Rat):Nat→Rat
 | 0=>0
 | n+1=>sumQ A n+A n
def G3a (z:Nat→Nm):Nat→Vl
 | 0=>⟨false,0,0⟩
 | i+1=>if V0p (ofN (absN (z i))) (G3a z i)>0 then ofN (absN (z i)) else G3a z i
theorem q1u (a b:Vl):V0p a b>0↔qV b<qV a:=by
 have:=q1t a b
 rw [←Rat.not_le,←this];omega
def absV (v:Vl):Vl:=if W0j v<0 then V0f v else v
end Go.Pv
end
section
/-Within;the law MatHolds. -/
set_option maxRecDepth 100000
namespace Go.Pv
open Go.Proofs
structure Dots (x y:Nat→Nm) (n:Nat):Prop where
 le:n≤4
 rx: ∀k,k<n→Q0f (x k)=true∧Q0f (y k)=true
 lu: ∀k,k<n→luQ 62 105 (qN (x k))∧luQ 62 105 (qN (y k))
theorem Dots.bd {x y:Nat→Nm} {n:Nat} (h:Dots x y n) {k:Nat} (hk:k≤n):bdV 100000 100000 (dotV x y k):=by
 have h4:=h.le
 have hc:=y1v (x:=x) (y:=y) k fun j hj=>h.rx j (by omega)
 have hl:=Y2a (X:=fun k=>qN (x k)) (Y:=fun k=>qN (y k)) k fun j hj=>h.lu j (by omega)
 rw [←v2s] at hl
 exact(Y2b hc hl).mono (by omega) (by omega)
theorem Dots.sm {x y:Nat→Nm} {n:Nat} (h:Dots x y n) {k:Nat} (hk:k≤n):smV (dotV x y k):=q0d (h.bd hk) (by omega) (by omega)
end Go.Pv
end
