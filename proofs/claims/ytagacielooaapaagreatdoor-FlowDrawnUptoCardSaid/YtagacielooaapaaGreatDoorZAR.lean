/- Parts of the walk: N34, N35, N36, N37, N38, N39, N40, N41, N42, N43, M39, M40, M41, N44. -/
import Derived.Test.YtagacielooaapaaGreatDoorZAQ
import Derived.Test.YtagacielooaapaaGreatDoorZM
import Derived.Test.YtagacielooaapaaGreatDoorZAF
import Derived.Test.YtagacielooaapaaGreatDoorZAM
import Derived.Test.YtagacielooaapaaGreatDoorZAL
import Derived.Test.YtagacielooaapaaGreatDoorZAW
set_option linter.unusedVariables false
set_option linter.unusedSimpArgs false
section
/-The program's matrices:Norm,Id;Mag on both sides. -/
set_option maxRecDepth 100000
namespace Go.Pv
open Go.Proofs
theorem v2p (n:Nat) (st:Q0g) (hn:n<9223372036854775808):PCalls Tryz.prog 92 [.sc (.int .i64 n)] st (fun r st'=>r= .agg (encN (mkX false [UInt64.ofNat n] 0).1)∧st'=st):=by
 have g1:decide ((n:Int)<0)=false:=decide_eq_false (by omega)
 have g2:IntKind.u64.wrap (n:Int)=n:=Y0l n (by omega)
 have g3: [PV.sc (.int .u64 n)]=encW [UInt64.ofNat n]:=by
  simp only [encW,List.map_cons,List.map_nil]
  rw [UInt64.toNat_ofNat_of_lt' (show n<UInt64.size by unfold UInt64.size;omega)]
 refine Q0b none Tryz.func92 rfl fun E=>Q0a ?_
 simp -dsimp only [go_sem,g1,g2]
 rw [g3]
 refine(x1r false _ 0 _ (by simp) (by omega) (by omega)).mono ?_
 rintro r st ⟨rfl,rfl⟩
 simp -dsimp only [go_sem]
end Go.Pv
end
section
/-The document's matrices:RightMat,SameMat,InMat,PointMat;rows held against one another. -/
set_option maxRecDepth 100000
namespace Go.Pv
open Go.Proofs
theorem U2j (a b:Mx) (st:Q0g) (ha:wM a) (hb:wM b):PCalls Tryz.prog 51 [.sl .no (encM a),.sl .no (encM b)] st (fun r st'=>r= .sc (.bool (decide (a=b)))∧st'=st):=by
 have hla:=ha.1
 have hlb:=hb.1
 refine Q0b none Tryz.func51 rfl fun E=>Q0a ?_
 simp -dsimp only [go_sem]
 refine ck (fun h0=> ?_) (fun h0=> ?_)
 · have hne:=U1h h0
   simp -dsimp only [go_sem]
   rw [decide_eq_false (fun e=>hne (by rw [e]))]
 · have hl:=Z1s h0
   simp -dsimp only [go_sem]
   refine Q0e [true,true,false,false,false,true] 0 0 (fun n s=> ∃i,n=a.length-i∧i≤a.length∧(∀j,j<i→a.getD j []=b.getD j [])∧s=⟨[.sl .no (encM a),.sl .no (encM b),.junk,.junk,.junk,.sc (.int .i64 (i:Nat))]++List.replicate 21 .junk,[],[],st⟩) a.length ?_ ?_
   · simp -dsimp only [go_sem]
     exact⟨0,by omega,by omega,fun j hj=>by omega,rfl⟩
   · rintro n s ⟨i,rfl,hi,hr,rfl⟩
     simp -dsimp only [go_sem]
     refine ck (fun h'=> ?_) (fun h'=> ?_)
     · have hlt:i<a.length:=by have:=of_decide_eq_true h';omega
       have e1:=V0t a i hlt
       have e2:=V0t b i (by omega)
       have e3:=k0n i (by omega)
       simp -dsimp only [go_sem]
       refine Q0l Z0k 27 (.step 0 [] (.step 1 [] (.step 2 [] (.step 3 [] (.step 4 [] (.step 5 [] (.step 6 [] (.step 7 [] (.step 8 [] (.step 9 [] (.done))))))))))) (by decide+kernel) (by simp) ?_
       simp -dsimp only [go_sem,e1,e2]
       refine⟨by omega,by omega,?_⟩
       refine(z1g _ _ st (ha.2 i hlt) (hb.2 i (by omega))).mono ?_
       rintro r st ⟨rfl,rfl⟩
       simp -dsimp only [go_sem]
       refine ck (fun h2=> ?_) (fun h2=> ?_)
       · have hf:a.getD i []≠b.getD i []:=by
          intro e;rw [e] at h2;simp at h2
         simp -dsimp only [go_sem]
         rw [decide_eq_false (fun e=>hf (by rw [e]))]
       · have ht:a.getD i []=b.getD i []:=by
          apply Decidable.byContradiction;intro e;rw [decide_eq_false e] at h2;cases h2
         simp -dsimp only [go_sem,e3]
         refine⟨a.length-(i+1),by omega,i+1,rfl,by omega,fun j hj=> ?_,rfl⟩
         by_cases e:j=i
         · subst e;exact ht
         · exact hr j (by omega)
     · have hge:i=a.length:=by have:=of_decide_eq_false h';omega
       simp -dsimp only [go_sem]
       refine Q0a ?_
       simp -dsimp only [go_sem]
       rw [decide_eq_true (q0m [] hl fun j hj=>hr j (by omega))]
theorem y1f (a b:List UInt64) (st:Q0g) (ha:a.length≤100000000000) (hb:b.length≤100000000000):PCalls Tryz.prog 59 [.sl .no (encW a),.sl .no (encW b)] st (fun r st'=>r= .sc (.bool (decide (a=b)))∧st'=st):=by
 refine Q0b none Tryz.func59 rfl fun E=>Q0a ?_
 simp -dsimp only [go_sem]
 refine ck (fun h0=> ?_) (fun h0=> ?_)
 · have hne:=U1h h0
   simp -dsimp only [go_sem]
   rw [decide_eq_false (fun e=>hne (by rw [e]))]
 · have hl:=Z1s h0
   simp -dsimp only [go_sem]
   refine Q0e [true,true,false,false,false,true] 0 0 (fun n s=> ∃i,n=a.length-i∧i≤a.length∧(∀j,j<i→a.getD j 0=b.getD j 0)∧s=⟨[.sl .no (encW a),.sl .no (encW b),.junk,.junk,.junk,.sc (.int .i64 (i:Nat))]++List.replicate 20 .junk,[],[],st⟩) a.length ?_ ?_
   · simp -dsimp only [go_sem]
     exact⟨0,by omega,by omega,fun j hj=>by omega,rfl⟩
   · rintro n s ⟨i,rfl,hi,hr,rfl⟩
     simp -dsimp only [go_sem]
     refine ck (fun h'=> ?_) (fun h'=> ?_)
     · have hlt:i<a.length:=by have:=of_decide_eq_true h';omega
       have e1:=Z0i a i hlt
       have e2:=Z0i b i (by omega)
       have e3:=k0n i (by omega)
       simp -dsimp only [go_sem]
       refine Q0l Z0k 26 (.step 0 [] (.step 1 [] (.step 2 [] (.step 3 [] (.step 4 [] (.step 5 [] (.step 6 [] (.step 7 [] (.step 8 [] (.done)))))))))) (by decide+kernel) (by simp) ?_
       simp -dsimp only [go_sem,e1,e2]
       refine⟨by omega,by omega,?_⟩
       refine ck (fun h2=> ?_) (fun h2=> ?_)
       · have hf:a.getD i 0≠b.getD i 0:=by intro e;rw [e] at h2;simp at h2
         simp -dsimp only [go_sem]
         rw [decide_eq_false (fun e=>hf (by rw [e]))]
       · have ht:a.getD i 0=b.getD i 0:=by
          have:=Z1s h2
          exact UInt64.toNat_inj.1 this
         simp -dsimp only [go_sem,e3]
         refine⟨a.length-(i+1),by omega,i+1,rfl,by omega,fun j hj=> ?_,rfl⟩
         by_cases e:j=i
         · subst e;exact ht
         · exact hr j (by omega)
     · have hge:i=a.length:=by have:=of_decide_eq_false h';omega
       simp -dsimp only [go_sem]
       refine Q0a ?_
       simp -dsimp only [go_sem]
       rw [decide_eq_true (q0m 0 hl fun j hj=>hr j (by omega))]
end Go.Pv
end
section
/-The document's matrices:OpMat,TimesMat,MidMat,column,Dot,Vec. -/
set_option maxRecDepth 100000
namespace Go.Pv
open Go.Proofs
def colM (m:Mx) (j:Nat):List Ivl:=(List.range m.length).map fun i=>atM m i j
end Go.Pv
end
section
/-The document's matrices:One,MulMat. -/
set_option maxRecDepth 100000
namespace Go.Pv
open Go.Proofs
theorem Z2o (f:PV→PV) (l:List PV) (o:Nat) (r:List PV):(over l o r).map f=over (l.map f) o (r.map f):=by
 simp [over,List.map_take,List.map_drop]
theorem Q2y (f:PV→PV) (n:Nat) (z:List PV):(repC n z).map f=repC n (z.map f):=by
 unfold repC;rw [List.map_flatten,List.map_replicate]
theorem q2s {l r:List PV} {o:Nat} (h1:fzOK l=true) (h2:fzOK r=true):fzOK (over l o r)=true:=by
 unfold fzOK at*
 rw [List.all_eq_true] at*
 intro p hp
 simp only [over,List.mem_append] at hp
 rcases hp with (hp | hp) | hp
 · exact h1 p (List.mem_of_mem_take hp)
 · exact h2 p hp
 · exact h1 p (List.mem_of_mem_drop hp)
theorem q2r {n:Nat} {z:List PV} (h:fzOK z=true):fzOK (repC n z)=true:=by
 unfold fzOK at*
 rw [List.all_eq_true] at*
 intro p hp
 simp only [repC,List.mem_flatten,List.mem_replicate] at hp
 obtain⟨l,⟨_,rfl⟩,hp⟩:=hp
 exact h p hp
def rowQ (n i:Nat):List Nm:=(List.replicate n default).set i oneN
def oneL (k:Nat):List (List Nm):=(List.range k).map (rowQ k)
def oneQ (n:Int):List (List Nm):=if 1≤n∧n≤4 then oneL n.toNat else []
end Go.Pv
end
section
/-The deck's matrices,and numbers of them. -/
set_option maxRecDepth 100000
namespace Go.Pv
open Go.Proofs
def smM (m:Mx):Prop:=1≤m.length∧m.length≤4∧ ∀i,i<m.length→(m.getD i []).length=m.length∧ ∀j,j<m.length→smI (atM m i j)
theorem smM.right {m:Mx} (h:smM m):W0o m=true:=rightM_iff.2 ⟨fun i hi=>⟨(h.2.2 i hi).1,V0k (fun j hj=>by
 have:=(h.2.2 i hi).2 j (by rw [←(h.2.2 i hi).1];exact hj)
 exact this.1) (by rw [(h.2.2 i hi).1];exact h.1) (by rw [(h.2.2 i hi).1];exact h.2.1)⟩,h.1,h.2.1⟩
def inQ (m:Mx) (q:List (List Nm)):Prop:=q.length=m.length∧ ∀i,i<m.length→(q.getD i []).length=m.length∧ ∀j,j<m.length→ ∃n,n≤8∧(q.getD i []).getD j default=inN (atM m i j) n
end Go.Pv
end
section
/-Layer 7:light,known. -/
set_option maxRecDepth 100000
namespace Go.Pv
open Go.Proofs
def G4l (l:List Mx):List PV:=l.map fun c=> .sl .no (encM c)
def kL :List (List Nm):= [[k1,k2],[default,k1]]
def kK :Mx:= [[⟨k1,k1⟩,⟨k2,k2⟩],[default,⟨k1,k1⟩]]
def kP :Mx:=(mulM kK kK 16).1
def kN :Nm:=(J4w kK 16).1
def kV :List Ivl:=(vecM kK [⟨k1,k1⟩,⟨k2,k2⟩] 16).1
def kS :Mx:=(opM 0 kK (idM 2) 16).1
def kU :Mx:=(q3g ⟨k2,k2⟩ kK 16).1
def kX7 :List (List Nm):=(midM kK 16).1
end Go.Pv
end
section
/-How far down and how far up a value goes:sums,products,rounding,and what fits. No program in it. -/
namespace Go.Pv
def luQ (L U:Nat) (x:Rat):Prop:= ∃z:Int,x=qM z (-(L:Int))∧z.natAbs≤2^(L+U)
theorem z0h (L U:Nat):luQ L U 0:=⟨0,(K0b _).symm,Nat.zero_le _⟩
theorem luQ.up {L U U':Nat} {x:Rat} (h:luQ L U x) (hu:U≤U'):luQ L U' x:=by
 obtain⟨z,h1,h2⟩:=h
 exact⟨z,h1,Nat.le_trans h2 (Nat.pow_le_pow_right (by omega) (by omega))⟩
theorem luQ.down {L L' U:Nat} {x:Rat} (h:luQ L U x) (hl:L≤L'):luQ L' U x:=by
 obtain⟨z,h1,h2⟩:=h
 refine⟨z*2^(L'-L),?_,?_⟩
 · rw [W0h,h1];congr 1;omega
 · have e:(z*2^(L'-L)).natAbs=z.natAbs*2^(L'-L):=by rw [Int.natAbs_mul,Int.natAbs_pow];rfl
   rw [e,show L'+U=(L+U)+(L'-L) from by omega,Nat.pow_add]
   exact Nat.mul_le_mul_right _ h2
theorem luQ.mono {L U L' U':Nat} {x:Rat} (h:luQ L U x) (hl:L≤L') (hu:U≤U'):luQ L' U' x:=(h.down hl).up hu
theorem V3w {L U:Nat} {x:Rat} (h:luQ L U x):luQ L U (-x):=by
 obtain⟨z,h1,h2⟩:=h
 exact⟨-z,by rw [w0n,h1],by rw [Int.natAbs_neg];exact h2⟩
theorem k0v {L U:Nat} {x y:Rat} (hx:luQ L U x) (hy:luQ L U y):luQ L (U+1) (x+y):=by
 obtain⟨z,h1,h2⟩:=hx
 obtain⟨w,h3,h4⟩:=hy
 refine⟨z+w,by rw [z1y,h1,h3],?_⟩
 have:=Int.natAbs_add_le z w
 rw [show L+(U+1)=(L+U)+1 from by omega,Nat.pow_succ];omega
theorem K1w {L U:Nat} {x y:Rat} (hx:luQ L U x) (hy:luQ L U y):luQ L (U+1) (x-y):=by
 have:=k0v hx (V3w hy)
 rwa [←Rat.sub_eq_add_neg] at this
theorem H1i {L U L' U':Nat} {x y:Rat} (hx:luQ L U x) (hy:luQ L' U' y):luQ (L+L') (U+U') (x*y):=by
 obtain⟨z,h1,h2⟩:=hx
 obtain⟨w,h3,h4⟩:=hy
 refine⟨z*w,?_,?_⟩
 · rw [show(-((L+L':Nat):Int))= -(L:Int)+ -(L':Int) from by omega,Z2e,h1,h3]
 · rw [Int.natAbs_mul,show L+L'+(U+U')=(L+U)+(L'+U') from by omega,Nat.pow_add]
   exact Nat.mul_le_mul h2 h4
theorem j0o (v:Vl):(X0b v).natAbs=v.m:=by unfold X0b;split<;>simp
theorem k0g {n k:Nat} {v:Vl} (h:bdV n k v):luQ k (n+k) (qV v):=by
 obtain⟨h1,h2,h3⟩:=h
 have hm:=bitlen_le_iff.1 h1
 refine⟨X0b v*2^(v.e+k).toNat,?_,?_⟩
 · rw [W0h]
   unfold qV
   congr 1;omega
 · have e:(X0b v*2^(v.e+k).toNat).natAbs=v.m*2^(v.e+k).toNat:=by rw [Int.natAbs_mul,Int.natAbs_pow,j0o];rfl
   rw [e,show k+(n+k)=n+2*k from by omega,Nat.pow_add]
   exact Nat.mul_le_mul (Nat.le_of_lt hm) (Nat.pow_le_pow_right (by omega) (by omega))
theorem V3x {z:Int} {n:Nat} (h:z.natAbs≤2^n) (L:Nat):luQ L n (qM z 0):=by
 have:luQ 0 n (qM z 0):=⟨z,rfl,by rw [Nat.zero_add];exact h⟩
 exact this.down (Nat.zero_le _)
theorem H1h {L U:Nat} {v:Vl} (hc:canV v) (h:luQ L U (qV v)):v.m=0∨(-(L:Int)≤v.e∧v.e+(Q0f v.m:Int)≤(U:Int)+1):=by
 rcases hc with hm | rfl
 rotate_left
 · exact .inl rfl
 refine .inr ?_
 obtain⟨z,h1,h2⟩:=h
 have hz:X0b v≠0:=fun e=>by have:=j0o v;rw [e] at this;simp at this;omega
 have hge: -(L:Int)≤v.e:=by
  apply Int.not_lt.1
  intro hlt
  obtain⟨d,hd⟩: ∃d:Nat, -(L:Int)=v.e+((d+1:Nat):Int):=⟨(-(L:Int)-v.e-1).toNat,by omega⟩
  have e1:qM z (-(L:Int))=qM (z*2^(d+1)) v.e:=by rw [W0h,hd]
  have e2:X0b v=z*2^(d+1):=qM_eq.1 (h1.trans e1)
  have e3:v.m=z.natAbs*2^d*2:=by
   have:=j0o v
   rw [e2,Int.natAbs_mul,Int.natAbs_pow,Nat.pow_succ] at this
   rw [←this,Nat.mul_assoc];rfl
  omega
 refine⟨hge,?_⟩
 have e1:X0b v*2^(v.e+L).toNat=z:=by
  have:qM (X0b v*2^(v.e+L).toNat) (-(L:Int))=qM z (-(L:Int)):=by
   rw [W0h,←h1];unfold qV;congr 1;omega
  exact qM_eq.1 this
 have e2:v.m*2^(v.e+L).toNat≤2^(L+U):=by
  have:(X0b v*2^(v.e+L).toNat).natAbs=v.m*2^(v.e+L).toNat:=by rw [Int.natAbs_mul,Int.natAbs_pow,j0o];rfl
  rw [←this,e1];exact h2
 have e3:Q0f (v.m*2^(v.e+L).toNat)≤L+U+1:=bitlen_le_iff.2 (Nat.lt_of_le_of_lt e2 (Nat.pow_lt_pow_right (by omega) (by omega)))
 rw [V0r _ _ (by omega)] at e3
 omega
theorem H2n {L U:Nat} {v:Vl} (hc:canV v) (h:luQ L U (qV v)):bdV (L+U+1) (L+U+1) v:=by
 rcases H1h hc h with h0 | ⟨h1,h2⟩
 · rcases hc with hm | rfl
   · omega
   · refine⟨?_,?_,?_⟩
     · show Q0f 0≤_;rw [Z0y];omega
     · show -((L+U+1:Nat):Int)≤0;omega
     · show(0:Int)≤((L+U+1:Nat):Int);omega
 · exact⟨by omega,by omega,by omega⟩
theorem U0o {L U:Nat} {v:Vl} (hc:canV v) (h:luQ L U (qV v)) (hb:L+U+1≤4096):(numV v).2=0:=x1q (H2n hc h) hb (by omega)
theorem z0a {m:Nat} (h:m≠0):2^(Q0f m-1)≤m:=by
 apply Nat.le_of_not_lt
 intro hlt
 have:=bitlen_le_iff.2 hlt
 have:=q0r h
 omega
theorem V0o {L U:Nat} {v:Vl} (hc:canV v) (h:luQ L U (qV v)) (p:Nat) (hp:1≤p) (up:Bool):luQ L (U+1) (qV (Q0r v p up)):=by
 unfold Q0r
 split
 · exact h.up (by omega)
 · rename_i hlt
   have h0:v.m≠0:=fun e=>by rw [e,Z0y] at hlt;omega
   rcases H1h hc h with h1 | ⟨h1,h2⟩
   · exact absurd h1 h0
   obtain⟨z,hz1,hz2⟩:=h
   have e1:X0b v*2^(v.e+L).toNat=z:=by
    have:qM (X0b v*2^(v.e+L).toNat) (-(L:Int))=qM z (-(L:Int)):=by
     rw [W0h,←hz1];unfold qV;congr 1;omega
    exact qM_eq.1 this
   have e2:v.m*2^(v.e+L).toNat≤2^(L+U):=by
    have:(X0b v*2^(v.e+L).toNat).natAbs=v.m*2^(v.e+L).toNat:=by rw [Int.natAbs_mul,Int.natAbs_pow,j0o];rfl
    rw [←this,e1];exact hz2
   rw [x0b,j0j]
   generalize hd:Q0f v.m-p=d at*
   generalize hc':(if v.m % 2^d≠0∧up≠v.neg then 1 else 0)=c
   have hcl:c≤1:=by rw [←hc'];split<;>omega
   have hb1:(v.m/2^d+c)*2^d≤2*v.m:=by
    have a1:=Nat.div_mul_le_self v.m (2^d)
    have a2:2^d≤v.m:=Nat.le_trans (Nat.pow_le_pow_right (by omega) (by omega)) (z0a h0)
    have a3:c*2^d≤2^d:=by
     have:=Nat.mul_le_mul_right (2^d) hcl
     omega
    rw [Nat.add_mul];omega
   refine⟨(if v.neg then -(((v.m/2^d+c)*2^d:Nat):Int) else(((v.m/2^d+c)*2^d:Nat):Int))*2^(v.e+L).toNat,?_,?_⟩
   · rw [W0h];congr 1;omega
   · have e3:((if v.neg then -(((v.m/2^d+c)*2^d:Nat):Int) else(((v.m/2^d+c)*2^d:Nat):Int))*2^(v.e+L).toNat).natAbs=(v.m/2^d+c)*2^d*2^(v.e+L).toNat:=by
      rw [Int.natAbs_mul,Int.natAbs_pow]
      generalize (v.m/2^d+c)*2^d=M
      split
      · rw [Int.natAbs_neg];rfl
      · rfl
     rw [e3,show L+(U+1)=(L+U)+1 from by omega,Nat.pow_succ]
     have:=Nat.mul_le_mul_right (2^(v.e+L).toNat) hb1
     rw [Nat.mul_assoc 2] at this
     omega
def luI (L U:Nat) (a:Ivl):Prop:=Q0i a=true∧luQ L U (qN a.lo)∧luQ L U (qN a.hi)
theorem luI.mono {L U L' U':Nat} {a:Ivl} (h:luI L U a) (hl:L≤L') (hu:U≤U'):luI L' U' a:=⟨h.1,h.2.1.mono hl hu,h.2.2.mono hl hu⟩
theorem X1z (L U:Nat):luI L U default:=by
 have e:qN (default:Ivl).lo=0:=K0b 0
 have e2:qN (default:Ivl).hi=0:=K0b 0
 exact⟨by decide,by rw [e];exact z0h _ _,by rw [e2];exact z0h _ _⟩
theorem q3r {a:Ivl} (h:smI a):luI 12 18 a:=⟨h.1,k0g h.2.1,k0g h.2.2⟩
theorem K0i {p:Int} (h:Z0b p=true):1≤p.toNat:=by
 unfold Z0b at h
 simp only [Bool.and_eq_true,decide_eq_true_eq] at h
 omega
theorem J1d {L U:Nat} {lo hi:Vl} (h1:canV lo) (h2:canV hi) (q1:luQ L U (qV lo)) (q2:luQ L U (qV hi)) (hb:L+U+1≤4096) (hle:qV lo≤qV hi):(Y0f lo hi).2=0∧luI L U (Y0f lo hi).1:=by
 have f1:=U0o h1 q1 hb
 have f2:=U0o h2 q2 hb
 have hr:=v0i h1 h2 hle
 unfold Y0f at hr⊢
 rw [if_pos ⟨f1,f2⟩] at hr⊢
 refine⟨rfl,hr,?_,?_⟩
 · rw [(K0c h1 f1).2];exact q1
 · rw [(K0c h2 f2).2];exact q2
theorem w2e {L U L' U':Nat} {x y u v:Vl} (hx:luQ L U (qV x)) (hy:luQ L U (qV y)) (hu:luQ L' U' (qV u)) (hv:luQ L' U' (qV v)):luQ (L+L') (U+U') (qV (K0t x y u v)):=by
 rcases U0x x y u v with h | h | h | h
 all_goals rw [h,q0x];exact H1i (by assumption) (by assumption)
theorem w2f {L U L' U':Nat} {x y u v:Vl} (hx:luQ L U (qV x)) (hy:luQ L U (qV y)) (hu:luQ L' U' (qV u)) (hv:luQ L' U' (qV v)):luQ (L+L') (U+U') (qV (U0d x y u v)):=by
 rcases Q1s x y u v with h | h | h | h
 all_goals rw [h];exact H1i (by assumption) (by assumption)
theorem Z2u {k L U:Nat} {a b:Ivl} {p:Int} (hk:k<2) (ha:luI L U a) (hb:luI L U b) (hp:Z0b p=true) (hbd:L+U+3≤4096):(opI k a b p).2=0∧luI L (U+2) (opI k a b p).1:=by
 have ca:=canI ha.1
 have cb:=canI hb.1
 have pp:=K0i hp
 have hlo:luQ L (U+1) (qV (loV k (ofN a.lo) (ofN a.hi) (ofN b.lo) (ofN b.hi))):=by
  unfold loV
  split
  · rw [V0w];exact k0v ha.2.1 hb.2.1
  · rw [if_pos (by omega),Y0w];exact K1w ha.2.1 hb.2.2
 have hhi:luQ L (U+1) (qV (hiV k (ofN a.lo) (ofN a.hi) (ofN b.lo) (ofN b.hi))):=by
  unfold hiV
  split
  · rw [V0w];exact k0v ha.2.2 hb.2.2
  · rw [if_pos (by omega),Y0w];exact K1w ha.2.2 hb.2.1
 have c1:=W1g k ca.1 ca.2 cb.1 cb.2
 have c2:=W1h k ca.1 ca.2 cb.1 cb.2
 unfold opI
 rw [if_pos ⟨ha.1,hb.1,hp⟩]
 exact J1d (Z0j c1 _ _) (Z0j c2 _ _) (V0o c1 hlo _ pp _) (V0o c2 hhi _ pp _) (by omega) (W3a k ha.1 hb.1 _)
theorem w1p {L U L' U':Nat} {a b:Ivl} {p:Int} (ha:luI L U a) (hb:luI L' U' b) (hp:Z0b p=true) (hbd:L+L'+U+U'+2≤4096):(opI 2 a b p).2=0∧luI (L+L') (U+U'+1) (opI 2 a b p).1:=by
 have ca:=canI ha.1
 have cb:=canI hb.1
 have pp:=K0i hp
 have hlo:luQ (L+L') (U+U') (qV (loV 2 (ofN a.lo) (ofN a.hi) (ofN b.lo) (ofN b.hi))):=w2e ha.2.1 ha.2.2 hb.2.1 hb.2.2
 have hhi:luQ (L+L') (U+U') (qV (hiV 2 (ofN a.lo) (ofN a.hi) (ofN b.lo) (ofN b.hi))):=w2f ha.2.1 ha.2.2 hb.2.1 hb.2.2
 have c1:=W1g 2 ca.1 ca.2 cb.1 cb.2
 have c2:=W1h 2 ca.1 ca.2 cb.1 cb.2
 unfold opI
 rw [if_pos ⟨ha.1,hb.1,hp⟩]
 exact J1d (Z0j c1 _ _) (Z0j c2 _ _) (V0o c1 hlo _ pp _) (V0o c2 hhi _ pp _) (by omega) (W3a 2 ha.1 hb.1 _)
end Go.Pv
end
section
/-Sums of products of small intervals:none fails,and what is in them. No program in it. -/
namespace Go.Pv
def dotQ (X Y:Nat→Rat):Nat→Rat
 | 0=>0
 | n+1=>dotQ X Y n+X n*Y n
def dotV (x y:Nat→Nm):Nat→Vl
 | 0=>⟨false,0,0⟩
 | n+1=>V0d (dotV x y n) (byV (ofN (x n)) (ofN (y n)))
theorem Z3r (x y:Nat→Nm): ∀n,qV (dotV x y n)=dotQ (fun k=>qN (x k)) (fun k=>qN (y k)) n
 | 0=>w0m rfl
 | n+1=>by rw [dotV,V0w,q0x,Z3r x y n];rfl
theorem J2f {x y:Nat→Nm} : ∀n,(∀k,k<n→Q0j (x k)=true∧Q0j (y k)=true)→canV (dotV x y n)
 | 0,_=> .inr rfl
 | n+1,h=>G0w (J2f n fun k hk=>h k (by omega)) (Z1h (J0g (h n (by omega)).1) (J0g (h n (by omega)).2))
theorem H2m {L U L' U':Nat} {X Y:Nat→Rat} : ∀n,(∀k,k<n→luQ L U (X k)∧luQ L' U' (Y k))→luQ (L+L') (U+U'+n) (dotQ X Y n)
 | 0,_=>z0h _ _
 | n+1,h=>by
  have h1:=H2m n fun k hk=>h k (by omega)
  have h2:=H1i (h n (by omega)).1 (h n (by omega)).2
  exact k0v h1 (h2.up (show U+U'≤U+U'+n by omega))
def X4t (v w:Vl) (a:Ivl):Bool:=decide (V0m (byV (ofN a.lo) w) v≤0)&&decide (V0m v (byV (ofN a.hi) w)≤0)
def oneV :Vl:=oddV false 1 0
theorem q3x :qV oneV=1:=by
 unfold oneV
 rw [H1a];rfl
end Go.Pv
end
section
/-By the matrix of ones;what the norm bounds. No program in it. -/
namespace Go.Pv
theorem q3z :qN oneN=1:=by
 have:qN oneN=qM 1 0:=rfl
 rw [this];unfold qM;rw [w1l,Rat.intCast_one,Rat.mul_one]
theorem K1d :qN (default:Nm)=0:=K0b 0
def U4h (i k:Nat):Rat:=if i=k then 1 else 0
def inQ1 (A x:Rat):Prop:= -A≤x∧x≤A
def sumQ (A:Nat→Rat):Nat→Rat
 | 0=>0
 | n+1=>sumQ A n+A n
def z3t (z:Nat→Nm):Nat→Vl
 | 0=>⟨false,0,0⟩
 | i+1=>if V0m (ofN (absN (z i))) (z3t z i)>0 then ofN (absN (z i)) else z3t z i
theorem x1n (a b:Vl):V0m a b>0↔qV b<qV a:=by
 have:=x1m a b
 rw [←Rat.not_le,←this];omega
def absV (v:Vl):Vl:=if X0n v<0 then J0x v else v
end Go.Pv
end
section
/-Within;the law MatHolds. -/
set_option maxRecDepth 100000
namespace Go.Pv
open Go.Proofs
theorem z3f {a:Ivl} {n:Nat} (ha:smI a) (hn:n≤8):Q0j (inN a n)=true∧memI (qN (inN a n)) a∧luQ 62 105 (qN (inN a n)):=by
 obtain⟨h1,h2,h3⟩:=J4s ha hn
 exact⟨h1,h2,k0g h3⟩
structure Dots (x y:Nat→Nm) (n:Nat):Prop where
 le:n≤4
 rx: ∀k,k<n→Q0j (x k)=true∧Q0j (y k)=true
 lu: ∀k,k<n→luQ 62 105 (qN (x k))∧luQ 62 105 (qN (y k))
theorem Dots.bd {x y:Nat→Nm} {n:Nat} (h:Dots x y n) {k:Nat} (hk:k≤n):bdV 100000 100000 (dotV x y k):=by
 have h4:=h.le
 have hc:=J2f (x:=x) (y:=y) k fun j hj=>h.rx j (by omega)
 have hl:=H2m (X:=fun k=>qN (x k)) (Y:=fun k=>qN (y k)) k fun j hj=>h.lu j (by omega)
 rw [←Z3r] at hl
 exact(H2n hc hl).mono (by omega) (by omega)
theorem Dots.sm {x y:Nat→Nm} {n:Nat} (h:Dots x y n) {k:Nat} (hk:k≤n):smV (dotV x y k):=K0f (h.bd hk) (by omega) (by omega)
end Go.Pv
end
