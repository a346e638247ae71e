/- Walk. -/
import Derived.Test.YtpfladficeildaaGreatDoorZQ
import Derived.Test.YtpfladficeildaaGreatDoorZAQ
set_option linter.all false
set_option maxHeartbeats 160000000
section
namespace Go.Pv
theorem H1s {L U:Nat}{x y:Rat}(h:luQ L U x)(e:y*2=x):luQ (L+1) U y:=by obtain⟨z,hz,hb⟩:=h;refine⟨z,Cw ?_,by rw[show L+1+U=L+U+1 from oG,B5];omega⟩;rw[e,hz,<-kq z (-(L:Int))];congr 2;omega
theorem vt {L U:Nat}{a:Ivl}{p:Int}(ha:luI L U a)(hp:Qv p=true)(hb:L+U+6<=4096):(Zk a p).2=0/\luQ (L+1) (U+2) (qN (Zk a p).1):=by
 have c:=XG ha.1;have cc:=JY (qi (Wl c.1 c.2)) p.toNat false;have hl:luQ (L+1) (U+2) (qV (Jm a p.toNat)):=by unfold Jm;refine vC (qi (Wl c.1 c.2)) (H1s (x:=qV (Zz (ofN a.lo) (ofN a.hi))) ?_ (ki _)) p.toNat (kx hp) false;rw[KF];exact UH ha.2.1 ha.2.2
 have hf:=YB cc hl oG;unfold Zk;rw[BC ⟨ha.1,hp⟩];split;exact⟨rfl,ha.2.1.mono oG oG⟩;have h2:=(JQ cc hf).2;refine⟨hf,?_⟩;show luQ _ _ (qN (QI (QR _ _ _)).1);rw[h2];exact hl
def zR (n:Nat):List (List Nm):=(List.range n).map fun i=>(List.replicate n default).set i oneN
def X6 (b:List Ivl)(p:Int):Fm×Int:=
 if (QJ b p).2≠0 then(default,(QJ b p).2)
 else if (opB 1 b (ofB (QJ b p).1) p).2≠0 then(default,(opB 1 b (ofB (QJ b p).1) p).2)
 else(⟨(QJ b p).1,zR b.length,(opB 1 b (ofB (QJ b p).1) p).1⟩,0)
theorem J1z :Qg oneN=true:=by decide
theorem W0h :Qg default=true:=by decide
theorem J1v (n:Nat):(zR n).all (fun x=>Zy x n)=true:=by rw[q_d];intro x hx;obtain⟨i,hi,rfl⟩:=CF.1 hx;unfold Zy;rw[q_i,q_d];refine⟨fun y hy=> ?_,by simp⟩;rcases List.mem_or_eq_of_mem_set hy with h | h;rw[(List.mem_replicate.1 h).2];exact W0h;rw[h];exact J1z
theorem vU {α:Type}[Inhabited α]{l:List α}{x:α}(h:x∈l): ∃i,i<l.length/\l.getD i default=x:=by obtain⟨i,hi,rfl⟩:=CM.1 h;exact⟨i,hi,by simp[q_a,hi]⟩
theorem Q1p :qN default=0:=by show qM 0 0=0;exact XD _
theorem K0g {L U:Nat}{b:Li}{p:Int}(h1:1<=b.length)(h4:b.length<=4)(hb: ∀i,i<b.length->luI L U (b.getD i default))(hp:Qv p=true)(hLU:L+U+20<=4096):
 (X6 b p).2=0/\Z4 (X6 b p).1=true/\(X6 b p).1.m.length=b.length:=by
 have hr:rightB b=true:=GN (fun i hi=>(hb i hi).1) h1 h4;have hm:QJ b p=((List.range b.length).map (fun j=>(Zk (b.getD j default) p).1),0):=by unfold QJ;rw[BC ⟨hr,hp⟩,xD _ b 0 [] (fun j hj=>(vt (hb j hj) hp oG).1)];simp
 have hg: ∀j,j<b.length->(ofB (QJ b p).1).getD j default=⟨(Zk (b.getD j default) p).1,(Zk (b.getD j default) p).1⟩:=fun j hj=>by rw[hm];simp[ofB,q_a,hj]
 have hlen:(ofB (QJ b p).1).length=b.length:=by rw[hm];simp[ofB]
 have hpt: ∀j,j<b.length->luI (L+1) (U+2) ⟨(Zk (b.getD j default) p).1,(Zk (b.getD j default) p).1⟩:=fun j hj=>by have m:=vt (hb j hj) hp oG;exact⟨Sq (Hf _ _),m.2,m.2⟩
 have hrp:rightB (ofB (QJ b p).1)=true:=GN (fun i hi=>by rw[hg i oG];exact(hpt i oG).1) oG oG;have ho: ∀j,j<b.length->(opI 1 (b.getD j default) ((ofB (QJ b p).1).getD j default) p).2=0:=fun j hj=>by rw[hg j hj];exact(J1t oG ((hb j hj).mono oG oG) (hpt j hj) hp oG).1
 have hop:opB 1 b (ofB (QJ b p).1) p=((List.range b.length).map (fun j=>(opI 1 (b.getD j default) ((ofB (QJ b p).1).getD j default) p).1),0):=by unfold opB;rw[BC ⟨hr,hrp,oG,hp⟩,xD _ b 0 [] (fun j hj=>by rw[CU];exact ho j hj)];simp
 have hml:(QJ b p).1.length=b.length:=by rw[hm];simp
 unfold X6;rw[BA (by rw[hm];simp),BA (by rw[hop];simp)];refine⟨rfl,?_,hml⟩;unfold Z4;simp only[q_i,BN];refine⟨⟨⟨⟨⟨⟨oG,oG⟩,?_⟩,by rw[hml];simp[zR]⟩,by rw[hml,hop];simp⟩,by rw[hml];exact J1v _⟩,?_⟩;unfold Zy;rw[q_i,q_d];refine⟨fun x hx=> ?_,by simp⟩;rw[hm] at hx;obtain⟨j,_,rfl⟩:=CF.1 hx;exact Hf _ _;rw[q_d];intro x hx;rw[hop] at hx;obtain⟨j,hj,rfl⟩:=CF.1 hx;have hj':j<b.length:=EX.1 hj;have mb:=W1q (vt (hb j hj') hp oG).1;refine H1r (KK _ _ _ _) W0h ?_;have:=zO 1 (ho j hj') (X:=qN (Zk (b.getD j default) p).1) (U:=qN (Zk (b.getD j default) p).1) ⟨mb.2.2.1,mb.2.2.2⟩ (by rw[hg j hj'];exact⟨CB,CB⟩);rw[Q1p];have e:exQ 1 (qN (Zk (b.getD j default) p).1) (qN (Zk (b.getD j default) p).1)=0:=(by unfold exQ;simp;grind);rwa [e] at this
end Go.Pv
end
