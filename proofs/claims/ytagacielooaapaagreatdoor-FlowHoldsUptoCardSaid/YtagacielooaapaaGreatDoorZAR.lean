/- Parts of the walk: N34, N35, N36, N37, N38, N39, N40, N41, N42, N43, M39, M40, M41, N44. -/
import Derived.Test.YtagacielooaapaaGreatDoorZAQ
import Derived.Test.YtagacielooaapaaGreatDoorZM
import Derived.Test.YtagacielooaapaaGreatDoorZAF
import Derived.Test.YtagacielooaapaaGreatDoorZAM
import Derived.Test.YtagacielooaapaaGreatDoorZAL
import Derived.Test.YtagacielooaapaaGreatDoorZAW
set_option linter.unusedVariables false
set_option linter.unusedSimpArgs false
section
/-The program's matrices:Norm,Id;Mag on both sides. -/
set_option maxRecDepth 100000
namespace Go.Pv
open Go.Proofs
theorem j2g (n:Nat) (st:Q0f) (hn:n<9223372036854775808):PCalls Tryz.prog 92 [.sc (.int .i64 n)] st (fun r st'=>r= .agg (encN (mkX false [UInt64.ofNat n] 0).1)∧st'=st):=by
 have g1:decide ((n:Int)<0)=false:=decide_eq_false (by omega)
 have g2:IntKind.u64.wrap (n:Int)=n:=W0s n (by omega)
 have g3: [PV.sc (.int .u64 n)]=encW [UInt64.ofNat n]:=by
  simp only [encW,List.map_cons,List.map_nil]
  rw [UInt64.toNat_ofNat_of_lt' (show n<UInt64.size by unfold UInt64.size;omega)]
 refine Q0b none Tryz.func92 rfl fun E=>Q0a ?_
 simp -dsimp only [go_sem,g1,g2]
 rw [g3]
 refine(H1j false _ 0 _ (by simp) (by omega) (by omega)).mono ?_
 rintro r st ⟨rfl,rfl⟩
 simp -dsimp only [go_sem]
end Go.Pv
end
section
/-The document's matrices:RightMat,SameMat,InMat,PointMat;rows held against one another. -/
set_option maxRecDepth 100000
namespace Go.Pv
open Go.Proofs
theorem j1v (a b:List UInt64) (st:Q0f) (ha:a.length≤100000000000) (hb:b.length≤100000000000):PCalls Tryz.prog 59 [.sl .no (encW a),.sl .no (encW b)] st (fun r st'=>r= .sc (.bool (decide (a=b)))∧st'=st):=by
 refine Q0b none Tryz.func59 rfl fun E=>Q0a ?_
 simp -dsimp only [go_sem]
 refine ck (fun h0=> ?_) (fun h0=> ?_)
 · have hne:=y1a h0
   simp -dsimp only [go_sem]
   rw [decide_eq_false (fun e=>hne (by rw [e]))]
 · have hl:=V1n h0
   simp -dsimp only [go_sem]
   refine Q0e [true,true,false,false,false,true] 0 0 (fun n s=> ∃i,n=a.length-i∧i≤a.length∧(∀j,j<i→a.getD j 0=b.getD j 0)∧s=⟨[.sl .no (encW a),.sl .no (encW b),.junk,.junk,.junk,.sc (.int .i64 (i:Nat))]++List.replicate 20 .junk,[],[],st⟩) a.length ?_ ?_
   · simp -dsimp only [go_sem]
     exact⟨0,by omega,by omega,fun j hj=>by omega,rfl⟩
   · rintro n s ⟨i,rfl,hi,hr,rfl⟩
     simp -dsimp only [go_sem]
     refine ck (fun h'=> ?_) (fun h'=> ?_)
     · have hlt:i<a.length:=by have:=of_decide_eq_true h';omega
       have e1:=Z0i a i hlt
       have e2:=Z0i b i (by omega)
       have e3:=Q1f i (by omega)
       simp -dsimp only [go_sem]
       refine Q0m Z0u 26 (.step 0 [] (.step 1 [] (.step 2 [] (.step 3 [] (.step 4 [] (.step 5 [] (.step 6 [] (.step 7 [] (.step 8 [] (.done)))))))))) (by decide+kernel) (by simp) ?_
       simp -dsimp only [go_sem,e1,e2]
       refine⟨by omega,by omega,?_⟩
       refine ck (fun h2=> ?_) (fun h2=> ?_)
       · have hf:a.getD i 0≠b.getD i 0:=by intro e;rw [e] at h2;simp at h2
         simp -dsimp only [go_sem]
         rw [decide_eq_false (fun e=>hf (by rw [e]))]
       · have ht:a.getD i 0=b.getD i 0:=by
          have:=V1n h2
          exact UInt64.toNat_inj.1 this
         simp -dsimp only [go_sem,e3]
         refine⟨a.length-(i+1),by omega,i+1,rfl,by omega,fun j hj=> ?_,rfl⟩
         by_cases e:j=i
         · subst e;exact ht
         · exact hr j (by omega)
     · have hge:i=a.length:=by have:=of_decide_eq_false h';omega
       simp -dsimp only [go_sem]
       refine Q0a ?_
       simp -dsimp only [go_sem]
       rw [decide_eq_true (y0c 0 hl fun j hj=>hr j (by omega))]
end Go.Pv
end
section
/-The document's matrices:OpMat,TimesMat,MidMat,column,Dot,Vec. -/
set_option maxRecDepth 100000
namespace Go.Pv
open Go.Proofs
def colM (m:Mx) (j:Nat):List Ivl:=(List.range m.length).map fun i=>atM m i j
end Go.Pv
end
section
/-The document's matrices:One,MulMat. -/
set_option maxRecDepth 100000
namespace Go.Pv
open Go.Proofs
theorem w1m (f:PV→PV) (l:List PV) (o:Nat) (r:List PV):(over l o r).map f=over (l.map f) o (r.map f):=by
 simp [over,List.map_take,List.map_drop]
theorem v1w (f:PV→PV) (n:Nat) (z:List PV):(repC n z).map f=repC n (z.map f):=by
 unfold repC;rw [List.map_flatten,List.map_replicate]
theorem G2d {l r:List PV} {o:Nat} (h1:fzOK l=true) (h2:fzOK r=true):fzOK (over l o r)=true:=by
 unfold fzOK at*
 rw [List.all_eq_true] at*
 intro p hp
 simp only [over,List.mem_append] at hp
 rcases hp with (hp | hp) | hp
 · exact h1 p (List.mem_of_mem_take hp)
 · exact h2 p hp
 · exact h1 p (List.mem_of_mem_drop hp)
theorem G2c {n:Nat} {z:List PV} (h:fzOK z=true):fzOK (repC n z)=true:=by
 unfold fzOK at*
 rw [List.all_eq_true] at*
 intro p hp
 simp only [repC,List.mem_flatten,List.mem_replicate] at hp
 obtain⟨l,⟨_,rfl⟩,hp⟩:=hp
 exact h p hp
def rowQ (n i:Nat):List Nm:=(List.replicate n default).set i oneN
def oneL (k:Nat):List (List Nm):=(List.range k).map (rowQ k)
def oneQ (n:Int):List (List Nm):=if 1≤n∧n≤4 then oneL n.toNat else []
end Go.Pv
end
section
/-The deck's matrices,and numbers of them. -/
set_option maxRecDepth 100000
namespace Go.Pv
open Go.Proofs
def smM (m:Mx):Prop:=1≤m.length∧m.length≤4∧ ∀i,i<m.length→(m.getD i []).length=m.length∧ ∀j,j<m.length→smI (atM m i j)
theorem smM.right {m:Mx} (h:smM m):V0x m=true:=rightM_iff.2 ⟨fun i hi=>⟨(h.2.2 i hi).1,K0w (fun j hj=>by
 have:=(h.2.2 i hi).2 j (by rw [←(h.2.2 i hi).1];exact hj)
 exact this.1) (by rw [(h.2.2 i hi).1];exact h.1) (by rw [(h.2.2 i hi).1];exact h.2.1)⟩,h.1,h.2.1⟩
def inQ (m:Mx) (q:List (List Nm)):Prop:=q.length=m.length∧ ∀i,i<m.length→(q.getD i []).length=m.length∧ ∀j,j<m.length→ ∃n,n≤8∧(q.getD i []).getD j default=inN (atM m i j) n
end Go.Pv
end
section
/-Layer 7:light,known. -/
set_option maxRecDepth 100000
namespace Go.Pv
open Go.Proofs
def U4t (l:List Mx):List PV:=l.map fun c=> .sl .no (encM c)
def kL :List (List Nm):= [[k1,k2],[default,k1]]
def kK :Mx:= [[⟨k1,k1⟩,⟨k2,k2⟩],[default,⟨k1,k1⟩]]
def kP :Mx:=(mulM kK kK 16).1
def kN :Nm:=(J4a kK 16).1
def kV :List Ivl:=(vecM kK [⟨k1,k1⟩,⟨k2,k2⟩] 16).1
def kS :Mx:=(opM 0 kK (idM 2) 16).1
def kU :Mx:=(G3t ⟨k2,k2⟩ kK 16).1
def kX7 :List (List Nm):=(midM kK 16).1
end Go.Pv
end
section
/-How far down and how far up a value goes:sums,products,rounding,and what fits. No program in it. -/
namespace Go.Pv
def luQ (L U:Nat) (x:Rat):Prop:= ∃z:Int,x=qM z (-(L:Int))∧z.natAbs≤2^(L+U)
theorem W0p (L U:Nat):luQ L U 0:=⟨0,(J0r _).symm,Nat.zero_le _⟩
theorem luQ.up {L U U':Nat} {x:Rat} (h:luQ L U x) (hu:U≤U'):luQ L U' x:=by
 obtain⟨z,h1,h2⟩:=h
 exact⟨z,h1,Nat.le_trans h2 (Nat.pow_le_pow_right (by omega) (by omega))⟩
theorem luQ.down {L L' U:Nat} {x:Rat} (h:luQ L U x) (hl:L≤L'):luQ L' U x:=by
 obtain⟨z,h1,h2⟩:=h
 refine⟨z*2^(L'-L),?_,?_⟩
 · rw [V0o,h1];congr 1;omega
 · have e:(z*2^(L'-L)).natAbs=z.natAbs*2^(L'-L):=by rw [Int.natAbs_mul,Int.natAbs_pow];rfl
   rw [e,show L'+U=(L+U)+(L'-L) from by omega,Nat.pow_add]
   exact Nat.mul_le_mul_right _ h2
theorem luQ.mono {L U L' U':Nat} {x:Rat} (h:luQ L U x) (hl:L≤L') (hu:U≤U'):luQ L' U' x:=(h.down hl).up hu
theorem K3e {L U:Nat} {x:Rat} (h:luQ L U x):luQ L U (-x):=by
 obtain⟨z,h1,h2⟩:=h
 exact⟨-z,by rw [k0v,h1],by rw [Int.natAbs_neg];exact h2⟩
theorem q0d {L U:Nat} {x y:Rat} (hx:luQ L U x) (hy:luQ L U y):luQ L (U+1) (x+y):=by
 obtain⟨z,h1,h2⟩:=hx
 obtain⟨w,h3,h4⟩:=hy
 refine⟨z+w,by rw [G1r,h1,h3],?_⟩
 have:=Int.natAbs_add_le z w
 rw [show L+(U+1)=(L+U)+1 from by omega,Nat.pow_succ];omega
theorem X1v {L U:Nat} {x y:Rat} (hx:luQ L U x) (hy:luQ L U y):luQ L (U+1) (x-y):=by
 have:=q0d hx (K3e hy)
 rwa [←Rat.sub_eq_add_neg] at this
theorem q0c {L U L' U':Nat} {x y:Rat} (hx:luQ L U x) (hy:luQ L' U' y):luQ (L+L') (U+U') (x*y):=by
 obtain⟨z,h1,h2⟩:=hx
 obtain⟨w,h3,h4⟩:=hy
 refine⟨z*w,?_,?_⟩
 · rw [show(-((L+L':Nat):Int))= -(L:Int)+ -(L':Int) from by omega,w1a,h1,h3]
 · rw [Int.natAbs_mul,show L+L'+(U+U')=(L+U)+(L'+U') from by omega,Nat.pow_add]
   exact Nat.mul_le_mul h2 h4
theorem x0i (v:Vl):(Z0v v).natAbs=v.m:=by unfold Z0v;split<;>simp
theorem z0g {n k:Nat} {v:Vl} (h:bdV n k v):luQ k (n+k) (qV v):=by
 obtain⟨h1,h2,h3⟩:=h
 have hm:=bitlen_le_iff.1 h1
 refine⟨Z0v v*2^(v.e+k).toNat,?_,?_⟩
 · rw [V0o]
   unfold qV
   congr 1;omega
 · have e:(Z0v v*2^(v.e+k).toNat).natAbs=v.m*2^(v.e+k).toNat:=by rw [Int.natAbs_mul,Int.natAbs_pow,x0i];rfl
   rw [e,show k+(n+k)=n+2*k from by omega,Nat.pow_add]
   exact Nat.mul_le_mul (Nat.le_of_lt hm) (Nat.pow_le_pow_right (by omega) (by omega))
theorem Y2s {z:Int} {n:Nat} (h:z.natAbs≤2^n) (L:Nat):luQ L n (qM z 0):=by
 have:luQ 0 n (qM z 0):=⟨z,rfl,by rw [Nat.zero_add];exact h⟩
 exact this.down (Nat.zero_le _)
theorem Y1m {L U:Nat} {v:Vl} (hc:canV v) (h:luQ L U (qV v)):v.m=0∨(-(L:Int)≤v.e∧v.e+(Q0g v.m:Int)≤(U:Int)+1):=by
 rcases hc with hm | rfl
 rotate_left
 · exact .inl rfl
 refine .inr ?_
 obtain⟨z,h1,h2⟩:=h
 have hz:Z0v v≠0:=fun e=>by have:=x0i v;rw [e] at this;simp at this;omega
 have hge: -(L:Int)≤v.e:=by
  apply Int.not_lt.1
  intro hlt
  obtain⟨d,hd⟩: ∃d:Nat, -(L:Int)=v.e+((d+1:Nat):Int):=⟨(-(L:Int)-v.e-1).toNat,by omega⟩
  have e1:qM z (-(L:Int))=qM (z*2^(d+1)) v.e:=by rw [V0o,hd]
  have e2:Z0v v=z*2^(d+1):=qM_eq.1 (h1.trans e1)
  have e3:v.m=z.natAbs*2^d*2:=by
   have:=x0i v
   rw [e2,Int.natAbs_mul,Int.natAbs_pow,Nat.pow_succ] at this
   rw [←this,Nat.mul_assoc];rfl
  omega
 refine⟨hge,?_⟩
 have e1:Z0v v*2^(v.e+L).toNat=z:=by
  have:qM (Z0v v*2^(v.e+L).toNat) (-(L:Int))=qM z (-(L:Int)):=by
   rw [V0o,←h1];unfold qV;congr 1;omega
  exact qM_eq.1 this
 have e2:v.m*2^(v.e+L).toNat≤2^(L+U):=by
  have:(Z0v v*2^(v.e+L).toNat).natAbs=v.m*2^(v.e+L).toNat:=by rw [Int.natAbs_mul,Int.natAbs_pow,x0i];rfl
  rw [←this,e1];exact h2
 have e3:Q0g (v.m*2^(v.e+L).toNat)≤L+U+1:=bitlen_le_iff.2 (Nat.lt_of_le_of_lt e2 (Nat.pow_lt_pow_right (by omega) (by omega)))
 rw [V0c _ _ (by omega)] at e3
 omega
theorem y1h {L U:Nat} {v:Vl} (hc:canV v) (h:luQ L U (qV v)):bdV (L+U+1) (L+U+1) v:=by
 rcases Y1m hc h with h0 | ⟨h1,h2⟩
 · rcases hc with hm | rfl
   · omega
   · refine⟨?_,?_,?_⟩
     · show Q0g 0≤_;rw [X0g];omega
     · show -((L+U+1:Nat):Int)≤0;omega
     · show(0:Int)≤((L+U+1:Nat):Int);omega
 · exact⟨by omega,by omega,by omega⟩
theorem Y0q {L U:Nat} {v:Vl} (hc:canV v) (h:luQ L U (qV v)) (hb:L+U+1≤4096):(numV v).2=0:=H1i (y1h hc h) hb (by omega)
theorem H0u {m:Nat} (h:m≠0):2^(Q0g m-1)≤m:=by
 apply Nat.le_of_not_lt
 intro hlt
 have:=bitlen_le_iff.2 hlt
 have:=H0l h
 omega
theorem V0a {L U:Nat} {v:Vl} (hc:canV v) (h:luQ L U (qV v)) (p:Nat) (hp:1≤p) (up:Bool):luQ L (U+1) (qV (Q0v v p up)):=by
 unfold Q0v
 split
 · exact h.up (by omega)
 · rename_i hlt
   have h0:v.m≠0:=fun e=>by rw [e,X0g] at hlt;omega
   rcases Y1m hc h with h1 | ⟨h1,h2⟩
   · exact absurd h1 h0
   obtain⟨z,hz1,hz2⟩:=h
   have e1:Z0v v*2^(v.e+L).toNat=z:=by
    have:qM (Z0v v*2^(v.e+L).toNat) (-(L:Int))=qM z (-(L:Int)):=by
     rw [V0o,←hz1];unfold qV;congr 1;omega
    exact qM_eq.1 this
   have e2:v.m*2^(v.e+L).toNat≤2^(L+U):=by
    have:(Z0v v*2^(v.e+L).toNat).natAbs=v.m*2^(v.e+L).toNat:=by rw [Int.natAbs_mul,Int.natAbs_pow,x0i];rfl
    rw [←this,e1];exact hz2
   rw [q0z,x0e]
   generalize hd:Q0g v.m-p=d at*
   generalize hc':(if v.m % 2^d≠0∧up≠v.neg then 1 else 0)=c
   have hcl:c≤1:=by rw [←hc'];split<;>omega
   have hb1:(v.m/2^d+c)*2^d≤2*v.m:=by
    have a1:=Nat.div_mul_le_self v.m (2^d)
    have a2:2^d≤v.m:=Nat.le_trans (Nat.pow_le_pow_right (by omega) (by omega)) (H0u h0)
    have a3:c*2^d≤2^d:=by
     have:=Nat.mul_le_mul_right (2^d) hcl
     omega
    rw [Nat.add_mul];omega
   refine⟨(if v.neg then -(((v.m/2^d+c)*2^d:Nat):Int) else(((v.m/2^d+c)*2^d:Nat):Int))*2^(v.e+L).toNat,?_,?_⟩
   · rw [V0o];congr 1;omega
   · have e3:((if v.neg then -(((v.m/2^d+c)*2^d:Nat):Int) else(((v.m/2^d+c)*2^d:Nat):Int))*2^(v.e+L).toNat).natAbs=(v.m/2^d+c)*2^d*2^(v.e+L).toNat:=by
      rw [Int.natAbs_mul,Int.natAbs_pow]
      generalize (v.m/2^d+c)*2^d=M
      split
      · rw [Int.natAbs_neg];rfl
      · rfl
     rw [e3,show L+(U+1)=(L+U)+1 from by omega,Nat.pow_succ]
     have:=Nat.mul_le_mul_right (2^(v.e+L).toNat) hb1
     rw [Nat.mul_assoc 2] at this
     omega
def luI (L U:Nat) (a:Ivl):Prop:=Q0j a=true∧luQ L U (qN a.lo)∧luQ L U (qN a.hi)
theorem luI.mono {L U L' U':Nat} {a:Ivl} (h:luI L U a) (hl:L≤L') (hu:U≤U'):luI L' U' a:=⟨h.1,h.2.1.mono hl hu,h.2.2.mono hl hu⟩
theorem Q1y (L U:Nat):luI L U default:=by
 have e:qN (default:Ivl).lo=0:=J0r 0
 have e2:qN (default:Ivl).hi=0:=J0r 0
 exact⟨by decide,by rw [e];exact W0p _ _,by rw [e2];exact W0p _ _⟩
theorem H3h {a:Ivl} (h:smI a):luI 12 18 a:=⟨h.1,z0g h.2.1,z0g h.2.2⟩
theorem K0y {p:Int} (h:Z0j p=true):1≤p.toNat:=by
 unfold Z0j at h
 simp only [Bool.and_eq_true,decide_eq_true_eq] at h
 omega
theorem Z1a {L U:Nat} {lo hi:Vl} (h1:canV lo) (h2:canV hi) (q1:luQ L U (qV lo)) (q2:luQ L U (qV hi)) (hb:L+U+1≤4096) (hle:qV lo≤qV hi):(H0h lo hi).2=0∧luI L U (H0h lo hi).1:=by
 have f1:=Y0q h1 q1 hb
 have f2:=Y0q h2 q2 hb
 have hr:=j0u h1 h2 hle
 unfold H0h at hr⊢
 rw [if_pos ⟨f1,f2⟩] at hr⊢
 refine⟨rfl,hr,?_,?_⟩
 · rw [(J0g h1 f1).2];exact q1
 · rw [(J0g h2 f2).2];exact q2
theorem j2x {L U L' U':Nat} {x y u v:Vl} (hx:luQ L U (qV x)) (hy:luQ L U (qV y)) (hu:luQ L' U' (qV u)) (hv:luQ L' U' (qV v)):luQ (L+L') (U+U') (qV (W0a x y u v)):=by
 rcases H0d x y u v with h | h | h | h
 all_goals rw [h,G0y];exact q0c (by assumption) (by assumption)
theorem j2y {L U L' U':Nat} {x y u v:Vl} (hx:luQ L U (qV x)) (hy:luQ L U (qV y)) (hu:luQ L' U' (qV u)) (hv:luQ L' U' (qV v)):luQ (L+L') (U+U') (qV (q0p x y u v)):=by
 rcases w0y x y u v with h | h | h | h
 all_goals rw [h];exact q0c (by assumption) (by assumption)
theorem w1t {k L U:Nat} {a b:Ivl} {p:Int} (hk:k<2) (ha:luI L U a) (hb:luI L U b) (hp:Z0j p=true) (hbd:L+U+3≤4096):(opI k a b p).2=0∧luI L (U+2) (opI k a b p).1:=by
 have ca:=canI ha.1
 have cb:=canI hb.1
 have pp:=K0y hp
 have hlo:luQ L (U+1) (qV (loV k (ofN a.lo) (ofN a.hi) (ofN b.lo) (ofN b.hi))):=by
  unfold loV
  split
  · rw [K0u];exact q0d ha.2.1 hb.2.1
  · rw [if_pos (by omega),Y0d];exact X1v ha.2.1 hb.2.2
 have hhi:luQ L (U+1) (qV (hiV k (ofN a.lo) (ofN a.hi) (ofN b.lo) (ofN b.hi))):=by
  unfold hiV
  split
  · rw [K0u];exact q0d ha.2.2 hb.2.2
  · rw [if_pos (by omega),Y0d];exact X1v ha.2.2 hb.2.1
 have c1:=y0k k ca.1 ca.2 cb.1 cb.2
 have c2:=y0m k ca.1 ca.2 cb.1 cb.2
 unfold opI
 rw [if_pos ⟨ha.1,hb.1,hp⟩]
 exact Z1a (Q0x c1 _ _) (Q0x c2 _ _) (V0a c1 hlo _ pp _) (V0a c2 hhi _ pp _) (by omega) (K3h k ha.1 hb.1 _)
theorem j1e {L U L' U':Nat} {a b:Ivl} {p:Int} (ha:luI L U a) (hb:luI L' U' b) (hp:Z0j p=true) (hbd:L+L'+U+U'+2≤4096):(opI 2 a b p).2=0∧luI (L+L') (U+U'+1) (opI 2 a b p).1:=by
 have ca:=canI ha.1
 have cb:=canI hb.1
 have pp:=K0y hp
 have hlo:luQ (L+L') (U+U') (qV (loV 2 (ofN a.lo) (ofN a.hi) (ofN b.lo) (ofN b.hi))):=j2x ha.2.1 ha.2.2 hb.2.1 hb.2.2
 have hhi:luQ (L+L') (U+U') (qV (hiV 2 (ofN a.lo) (ofN a.hi) (ofN b.lo) (ofN b.hi))):=j2y ha.2.1 ha.2.2 hb.2.1 hb.2.2
 have c1:=y0k 2 ca.1 ca.2 cb.1 cb.2
 have c2:=y0m 2 ca.1 ca.2 cb.1 cb.2
 unfold opI
 rw [if_pos ⟨ha.1,hb.1,hp⟩]
 exact Z1a (Q0x c1 _ _) (Q0x c2 _ _) (V0a c1 hlo _ pp _) (V0a c2 hhi _ pp _) (by omega) (K3h 2 ha.1 hb.1 _)
end Go.Pv
end
section
/-Sums of products of small intervals:none fails,and what is in them. No program in it. -/
namespace Go.Pv
def dotQ (X Y:Nat→Rat):Nat→Rat
 | 0=>0
 | n+1=>dotQ X Y n+X n*Y n
def dotV (x y:Nat→Nm):Nat→Vl
 | 0=>⟨false,0,0⟩
 | n+1=>K0m (dotV x y n) (byV (ofN (x n)) (ofN (y n)))
theorem y2v (x y:Nat→Nm): ∀n,qV (dotV x y n)=dotQ (fun k=>qN (x k)) (fun k=>qN (y k)) n
 | 0=>k0u rfl
 | n+1=>by rw [dotV,K0u,G0y,y2v x y n];rfl
theorem Q2c {x y:Nat→Nm} : ∀n,(∀k,k<n→Q0i (x k)=true∧Q0i (y k)=true)→canV (dotV x y n)
 | 0,_=> .inr rfl
 | n+1,h=>Y0b (Q2c n fun k hk=>h k (by omega)) (j0x (X0k (h n (by omega)).1) (X0k (h n (by omega)).2))
theorem Y2r {L U L' U':Nat} {X Y:Nat→Rat} : ∀n,(∀k,k<n→luQ L U (X k)∧luQ L' U' (Y k))→luQ (L+L') (U+U'+n) (dotQ X Y n)
 | 0,_=>W0p _ _
 | n+1,h=>by
  have h1:=Y2r n fun k hk=>h k (by omega)
  have h2:=q0c (h n (by omega)).1 (h n (by omega)).2
  exact q0d h1 (h2.up (show U+U'≤U+U'+n by omega))
def Z4z (v w:Vl) (a:Ivl):Bool:=decide (V0z (byV (ofN a.lo) w) v≤0)&&decide (V0z v (byV (ofN a.hi) w)≤0)
def oneV :Vl:=oddV false 1 0
theorem H3q :qV oneV=1:=by
 unfold oneV
 rw [Q1p];rfl
end Go.Pv
end
section
/-By the matrix of ones;what the norm bounds. No program in it. -/
namespace Go.Pv
theorem H3s :qN oneN=1:=by
 have:qN oneN=qM 1 0:=rfl
 rw [this];unfold qM;rw [Y1f,Rat.intCast_one,Rat.mul_one]
theorem Y1a :qN (default:Nm)=0:=J0r 0
def Y4p (i k:Nat):Rat:=if i=k then 1 else 0
def inQ1 (A x:Rat):Prop:= -A≤x∧x≤A
def sumQ (A:Nat→Rat):Nat→Rat
 | 0=>0
 | n+1=>sumQ A n+A n
def q3k (z:Nat→Nm):Nat→Vl
 | 0=>⟨false,0,0⟩
 | i+1=>if V0z (ofN (absN (z i))) (q3k z i)>0 then ofN (absN (z i)) else q3k z i
theorem H1f (a b:Vl):V0z a b>0↔qV b<qV a:=by
 have:=k0y a b
 rw [←Rat.not_le,←this];omega
def absV (v:Vl):Vl:=if V0t v<0 then K0i v else v
end Go.Pv
end
section
/-Within;the law MatHolds. -/
set_option maxRecDepth 100000
namespace Go.Pv
open Go.Proofs
theorem X4u {a:Ivl} {n:Nat} (ha:smI a) (hn:n≤8):Q0i (inN a n)=true∧memI (qN (inN a n)) a∧luQ 62 105 (qN (inN a n)):=by
 obtain⟨h1,h2,h3⟩:=X4t ha hn
 exact⟨h1,h2,z0g h3⟩
structure Dots (x y:Nat→Nm) (n:Nat):Prop where
 le:n≤4
 rx: ∀k,k<n→Q0i (x k)=true∧Q0i (y k)=true
 lu: ∀k,k<n→luQ 62 105 (qN (x k))∧luQ 62 105 (qN (y k))
theorem Dots.bd {x y:Nat→Nm} {n:Nat} (h:Dots x y n) {k:Nat} (hk:k≤n):bdV 100000 100000 (dotV x y k):=by
 have h4:=h.le
 have hc:=Q2c (x:=x) (y:=y) k fun j hj=>h.rx j (by omega)
 have hl:=Y2r (X:=fun k=>qN (x k)) (Y:=fun k=>qN (y k)) k fun j hj=>h.lu j (by omega)
 rw [←y2v] at hl
 exact(y1h hc hl).mono (by omega) (by omega)
theorem Dots.sm {x y:Nat→Nm} {n:Nat} (h:Dots x y n) {k:Nat} (hk:k≤n):smV (dotV x y k):=Z1r (h.bd hk) (by omega) (by omega)
end Go.Pv
end
