/- Parts of the walk: M77. -/
import Derived.Test.YthlnpmkcmbohaaaGreatDoorZEA
import Derived.Test.YthlnpmkcmbohaaaGreatDoorZAR
set_option linter.unusedVariables false
set_option linter.unusedSimpArgs false
section
namespace Go.Pv
theorem q1y {L U:Nat}{x y:Rat}(h:luQ L U x)(e:y*2=x):luQ (L+1) U y:=by obtain⟨z,hz,hb⟩:=h;refine⟨z,G0d ?_,by rw[show L+1+U=L+U+1 from oG,B5];omega⟩;rw[e,hz,<-yL z (-(L:Int))];congr 2;omega
theorem Wy {L U:Nat}{a:Ivl}{p:Int}(ha:luI L U a)(hp:Q4 p=true)(hb:L+U+6<=4096):(Ki a p).2=0/\luQ (L+1) (U+2) (qN (Ki a p).1):=by
 have c:=Hx ha.1;have cc:=QW (WQ (XB c.1 c.2)) p.toNat false;have hl:luQ (L+1) (U+2) (qV (vC a p.toNat)):=by unfold vC;refine X7 (WQ (XB c.1 c.2)) (q1y (x:=qV (Jc (ofN a.lo) (ofN a.hi))) ?_ (yJ _)) p.toNat (X3 hp) false;rw[Jb];exact Jz ha.2.1 ha.2.2
 have hf:=Ie cc hl oG;unfold Ki;rw[BC ⟨ha.1,hp⟩];split;exact⟨rfl,ha.2.1.mono oG oG⟩;have h2:=(ZA cc hf).2;refine⟨hf,?_⟩;show luQ _ _ (qN (Kg (QX _ _ _)).1);rw[h2];exact hl
def W0s (n:Nat):List (List Nm):=(List.range n).map fun i=>(List.replicate n default).set i oneN
def KN (b:List Ivl)(p:Int):Fm×Int:=
 if (Xc b p).2≠0 then(default,(Xc b p).2)
 else if (opB 1 b (ofB (Xc b p).1) p).2≠0 then(default,(opB 1 b (ofB (Xc b p).1) p).2)
 else(⟨(Xc b p).1,W0s b.length,(opB 1 b (ofB (Xc b p).1) p).1⟩,0)
theorem yZ :Qg oneN=true:=by decide
theorem Ht :Qg default=true:=by decide
theorem yY (n:Nat):(W0s n).all (fun x=>QN x n)=true:=by rw[q_d];intro x hx;obtain⟨i,hi,rfl⟩:=CF.1 hx;unfold QN;rw[q_i,q_d];refine⟨fun y hy=> ?_,by simp⟩;rcases EQ hy with h | h;rw[(List.mem_replicate.1 h).2];exact Ht;rw[h];exact yZ
theorem Gt {α:Type}[Inhabited α]{l:List α}{x:α}(h:x∈l): ∃i,i<l.length/\l.getD i default=x:=by obtain⟨i,hi,rfl⟩:=CM.1 h;exact⟨i,hi,by simp[q_a,hi]⟩
theorem jh :qN default=0:=by show qM 0 0=0;exact Zs _
theorem x0z {L U:Nat}{b:List Ivl}{p:Int}(h1:1<=b.length)(h4:b.length<=4)(hb: ∀i,i<b.length->luI L U (b.getD i default))(hp:Q4 p=true)(hLU:L+U+20<=4096):
 (KN b p).2=0/\Zb (KN b p).1=true/\(KN b p).1.m.length=b.length:=by
 have hr:rightB b=true:=Xj (fun i hi=>(hb i hi).1) h1 h4;have hm:Xc b p=((List.range b.length).map (fun j=>(Ki (b.getD j default) p).1),0):=by unfold Xc;rw[BC ⟨hr,hp⟩,Ys _ b 0 [] (fun j hj=>(Wy (hb j hj) hp oG).1)];simp
 have hg: ∀j,j<b.length->(ofB (Xc b p).1).getD j default=⟨(Ki (b.getD j default) p).1,(Ki (b.getD j default) p).1⟩:=fun j hj=>by rw[hm];simp[ofB,q_a,hj]
 have hlen:(ofB (Xc b p).1).length=b.length:=by rw[hm];simp[ofB]
 have hpt: ∀j,j<b.length->luI (L+1) (U+2) ⟨(Ki (b.getD j default) p).1,(Ki (b.getD j default) p).1⟩:=fun j hj=>by have m:=Wy (hb j hj) hp oG;exact⟨Xg (Jm _ _),m.2,m.2⟩
 have hrp:rightB (ofB (Xc b p).1)=true:=Xj (fun i hi=>by rw[hg i oG];exact(hpt i oG).1) oG oG;have ho: ∀j,j<b.length->(opI 1 (b.getD j default) ((ofB (Xc b p).1).getD j default) p).2=0:=fun j hj=>by rw[hg j hj];exact(v1r oG ((hb j hj).mono oG oG) (hpt j hj) hp oG).1
 have hop:opB 1 b (ofB (Xc b p).1) p=((List.range b.length).map (fun j=>(opI 1 (b.getD j default) ((ofB (Xc b p).1).getD j default) p).1),0):=by unfold opB;rw[BC ⟨hr,hrp,oG,hp⟩,Ys _ b 0 [] (fun j hj=>by rw[CU];exact ho j hj)];simp
 have hml:(Xc b p).1.length=b.length:=by rw[hm];simp
 unfold KN;rw[BA (by rw[hm];simp),BA (by rw[hop];simp)];refine⟨rfl,?_,hml⟩;unfold Zb;simp only[q_i,BN];refine⟨⟨⟨⟨⟨⟨oG,oG⟩,?_⟩,by rw[hml];simp[W0s]⟩,by rw[hml,hop];simp⟩,by rw[hml];exact yY _⟩,?_⟩;unfold QN;rw[q_i,q_d];refine⟨fun x hx=> ?_,by simp⟩;rw[hm] at hx;obtain⟨j,_,rfl⟩:=CF.1 hx;exact Jm _ _;rw[q_d];intro x hx;rw[hop] at hx;obtain⟨j,hj,rfl⟩:=CF.1 hx;have hj':j<b.length:=E0.1 hj;have mb:=YX (Wy (hb j hj') hp oG).1;refine jE (JT _ _ _ _) Ht ?_;have:=IT 1 (ho j hj') (X:=qN (Ki (b.getD j default) p).1) (U:=qN (Ki (b.getD j default) p).1) ⟨mb.2.2.1,mb.2.2.2⟩ (by rw[hg j hj'];exact⟨CB,CB⟩);rw[jh];have e:exQ 1 (qN (Ki (b.getD j default) p).1) (qN (Ki (b.getD j default) p).1)=0:=(by unfold exQ;simp;grind);rwa [e] at this
end Go.Pv
end
