/- Walk. -/
import Derived.Test.YtpfladficeildaaGreatDoorZEC
import Derived.Test.YtpfladficeildaaGreatDoorZCC
set_option linter.all false
set_option maxHeartbeats 160000000
section
namespace Go.Pv
section
variable {n:Nat} {A R E:Nat->Nat->Rat} {e:Rat}
end
theorem II {G:Nat->Nat->Ivl×Int}{n:Nat}(h:(X7 G n).2=0):(X7 G n).1.length=n/\ ∀i,i<n->((X7 G n).1.getD i []).length=n/\ ∀j,j<n->(G i j).2=0/\atM (X7 G n).1 i j=(G i j).1:=by obtain⟨g1,g2,g3⟩:=WS h;refine⟨g1,fun i hi=> ?_⟩;have e:(X7 G n).1.getD i []=(Q7 (fun j=>G i j) 0 n []).1:=g3 i hi;obtain⟨r1,r2,r3⟩:=WS (g2 i hi);refine⟨by rw[e];exact r1,fun j hj=>⟨r2 j hj,?_⟩⟩;unfold atM;rw[e];exact r3 j hj
theorem z1q {G:Nat->Nat->Ivl×Int}{n:Nat}(h: ∀i j,i<n->j<n->(G i j).2=0):(X7 G n).2=0:=
 j6 _ _ _ fun i _ hi=>j6 _ _ _ fun j _ hj=>h i j oG oG
theorem kR {q:Ly}{i:Nat}(hi:i<q.length):(ofM q).getD i []=(q.getD i []).map fun x=>⟨x,x⟩:=by unfold ofM ofB;rw[q_a,B8,BB hi,q_a,BB hi];rfl
theorem Q0p {q:Ly}{i j:Nat}(hi:i<q.length)(hj:j<(q.getD i []).length):atM (ofM q) i j=⟨ZB q i j,ZB q i j⟩:=by unfold atM ZB;rw[kR hi];generalize q.getD i []=r at hj⊢;rw[q_a,B8,BB hj,q_a,BB hj];rfl
theorem Dy {r:Nat->Ivl}{p:Int} : ∀j,(ZR r p j).2=0->G7 (fun k=>qN (XZ (r k))) (j+1)<=qN (ZR r p j).1
 | 0,_=>by show 0+qN (XZ (r 0))<=qN (XZ (r 0));rw[Rat.zero_add];exact CB
 | j+1,h=>by
  have h0:(ZR r p j).2=0:=by refine BE fun hne=> ?_;rw[ZR,BC hne] at h;exact hne h
  have ih:=Dy j h0;rw[Dz h0] at h⊢;have hv:=Il h;have hg:=Uw (exV 0 (ofN (ZR r p j).1) (ofN (XZ (r (j+1))))) p.toNat;rw[U4,IK,Zv,Zv] at hg;show G7 (fun k=>qN (XZ (r k))) (j+1)+qN (XZ (r (j+1)))<=_;rw[hv];grind
theorem Z0a {m:Mx}{p:Int}(hl:1<=m.length): ∀i,(Xb m p i).2=0->0<=qN (Xb m p i).1/\ ∀k,k<i->G7 (fun j=>qN (XZ (atM m k j))) m.length<=qN (Xb m p i).1
 | 0,_=>⟨by show 0<=qN (default:Nm);rw[Kw];exact CB,fun k hk=>oG⟩
 | i+1,h=>by
  have h0:(Xb m p i).2=0:=by refine BE fun hne=> ?_;rw[Xb,BC hne] at h;exact hne h
  have hs:(ZR (atM m i) p (m.length-1)).2=0:=by refine BE fun hne=> ?_;rw[Xb,BA (fun e=>e h0),BC hne] at h;exact hne h
  obtain⟨h2,h4⟩:=Z0a hl i h0;have s3:=Dy _ hs;rw[show m.length-1+1=m.length from oG] at s3;have hsr:=zf (atM m i) p (m.length-1);have hnr:=zY m p i;rw[Z0b h0 hs,yi hsr hnr];split;rename_i hc;have hc:=cmpN_gt.1 hc;refine⟨by show 0<=qN (ZR (atM m i) p (m.length-1)).1;grind,fun k hk=> ?_⟩;show _<=qN (ZR (atM m i) p (m.length-1)).1;by_cases e:k=i;subst e;exact s3;have:=h4 k oG;grind;rename_i hc;have hc:=cmpN_le.1 (F8.1 hc);refine⟨h2,fun k hk=> ?_⟩;show _<=qN (Xb m p i).1;by_cases e:k=i;subst e;grind;exact h4 k oG
theorem kX {m:Mx}{p:Int}(h:(Zm m p).2=0):Za m=true/\Qv p=true/\0<=qN (Zm m p).1/\Qg (Zm m p).1=true/\ ∀k,k<m.length->G7 (fun j=>qN (XZ (atM m k j))) m.length<=qN (Zm m p).1:=by
 have hg:Za m=true/\Qv p=true:=by refine BE fun hne=> ?_;rw[Zm,BA hne] at h;exact absurd h (by decide)
 rw[Zm,BC hg] at h⊢;obtain⟨a,b⟩:=Z0a (Jj hg.1).1 _ h;exact⟨hg.1,hg.2,a,zY m p _,b⟩
def Z9 (x a:List (List Nm))(p:Int):Nm×Int:=
 if (Zb (ofM x) (ofM a) p).2≠0 then(default,(Zb (ofM x) (ofM a) p).2) else
 if (opM 1 (idM (x.length:Int)) (Zb (ofM x) (ofM a) p).1 p).2≠0 then(default,(opM 1 (idM (x.length:Int)) (Zb (ofM x) (ofM a) p).1 p).2) else
 Zm (opM 1 (idM (x.length:Int)) (Zb (ofM x) (ofM a) p).1 p).1 p
def JC (x:List (List Nm))(e:Nm)(p:Int):Nm×Int:=
 if (Qw 1 oneN e p false).2≠0 then(default,(Qw 1 oneN e p false).2) else
 if (Zm (ofM x) p).2≠0 then(default,(Zm (ofM x) p).2) else
 if (Qw 2 (Zm (ofM x) p).1 e p true).2≠0 then(default,(Qw 2 (Zm (ofM x) p).1 e p true).2) else
 Kd (Qw 2 (Zm (ofM x) p).1 e p true).1 (Qw 1 oneN e p false).1 p true
def ZP (y q:Nm)(p:Int):Ivl×Int:=if (Qw 1 y q p false).2≠0\/(Qw 0 y q p true).2≠0 then(default,2) else(⟨(Qw 1 y q p false).1,(Qw 0 y q p true).1⟩,0)
def Xn (a:List (List Nm))(p:Int):Mx×Int:=
 if (QW a p).2≠0 then([],(QW a p).2) else
 if (Z9 (QW a p).1 a p).2≠0 then([],(Z9 (QW a p).1 a p).2) else
 if Q6 (Z9 (QW a p).1 a p).1 oneN>=0 then([],3) else
 if (JC (QW a p).1 (Z9 (QW a p).1 a p).1 p).2≠0 then([],(JC (QW a p).1 (Z9 (QW a p).1 a p).1 p).2) else
 X7 (fun i j=>ZP (ZB (QW a p).1 i j) (JC (QW a p).1 (Z9 (QW a p).1 a p).1 p).1 p) a.length
theorem J1r {k:Nat}{a b:Mx}{p:Int}(h:(opM k a b p).2=0):(Za a=true/\Za b=true/\a.length=b.length/\Qv p=true)/\(opM k a b p).1.length=a.length/\ ∀i,i<a.length->((opM k a b p).1.getD i []).length=a.length/\ ∀j,j<a.length->(opI k (atM a i j) (atM b i j) p).2=0/\atM (opM k a b p).1 i j=(opI k (atM a i j) (atM b i j) p).1:=by
 have hg:Za a=true/\Za b=true/\a.length=b.length/\Qv p=true:=by refine BE fun hne=> ?_;rw[opM,BA hne] at h;exact absurd h (by decide)
 rw[opM,BC hg] at h⊢;exact⟨hg,II h⟩
theorem Z0m {a b:Mx}{p:Int}(h:(Zb a b p).2=0):(Za a=true/\Za b=true/\a.length=b.length/\Qv p=true)/\(Zb a b p).1.length=a.length/\ ∀i,i<a.length->((Zb a b p).1.getD i []).length=a.length/\ ∀j,j<a.length->(Zs (atM a i) (fun k=>atM b k j) p a.length).2=0/\atM (Zb a b p).1 i j=(Zs (atM a i) (fun k=>atM b k j) p a.length).1:=by
 have hg:Za a=true/\Za b=true/\a.length=b.length/\Qv p=true:=by refine BE fun hne=> ?_;rw[Zb,BA hne] at h;exact absurd h (by decide)
 rw[Zb,BC hg] at h⊢;exact⟨hg,II h⟩
theorem kN :Qg oneN=true:=by decide
theorem w0z {n:Nat}{x a:Ly}{p:Int}(hx:sqR n x)(ha:sqR n a)(h1:1<=n)(h4:n<=4)(h:(Z9 x a p).2=0):
 0<=qN (Z9 x a p).1/\Qg (Z9 x a p).1=true/\ ∃B:Nat->Nat->Rat,(∀i j,i<n->j<n->I6 (B i j) (yb i j-xH (fun k=>qN (ZB x i k)) (fun k=>qN (ZB a k j)) n))/\ ∀i,i<n->G7 (B i) n<=qN (Z9 x a p).1:=by
 have c1:(Zb (ofM x) (ofM a) p).2=0:=by refine BE fun hne=> ?_;rw[Z9,BC hne] at h;exact hne h
 have c2:(opM 1 (idM (x.length:Int)) (Zb (ofM x) (ofM a) p).1 p).2=0:=by refine BE fun hne=> ?_;rw[Z9,BA (fun e=>e c1),BC hne] at h;exact hne h
 rw[Z9,BA (fun e=>e c1),BA (fun e=>e c2)] at h⊢;obtain⟨-,m1,m2⟩:=Z0m c1;obtain⟨-,o1,o2⟩:=J1r c2;obtain⟨n1,n2,n3,n4,n5⟩:=kX h;have hxl:(ofM x).length=n:=(by unfold ofM;rw[BR];exact hx.1);have hid:=(I7 h1 h4 (show 0<n by omega) (show 0<n by omega)).1;rw[hxl] at m1 m2;rw[hx.1,hid] at o1 o2;rw[hx.1] at n1 n3 n4 n5⊢;generalize hM:(opM 1 (idM (n:Int)) (Zb (ofM x) (ofM a) p).1 p).1=M at*
 refine⟨n3,n4,fun i j=>qN (XZ (atM M i j)),fun i j hi hj=> ?_,fun i hi=> ?_⟩;obtain⟨q1,q2⟩:=(o2 i hi).2 j hj;obtain⟨d1,d2⟩:=(m2 i hi).2 j hj;have hd:KO (xH (fun k=>qN (ZB x i k)) (fun k=>qN (ZB a k j)) n) (atM (Zb (ofM x) (ofM a) p).1 i j):=by rw[d2];refine W0a n d1 fun k hk=>⟨?_,?_⟩;rw[Q0p (by rw[hx.1];exact hi) (by rw[(hx.row hi).1];exact hk)];exact⟨CB,CB⟩;rw[Q0p (by rw[ha.1];exact hk) (by rw[(ha.row hk).1];exact hj)];exact⟨CB,CB⟩
 have ho:=zO 1 q1 (W1z h1 h4 hi hj) hd;rw[Ht] at ho;rw[<-q2] at ho;have hr:Qr (atM M i j)=true:=w0v n1 oG oG;show I6 (qN (XZ (atM M i j))) _;exact(Y1r hr ho).1;have:=n5 i oG;rw[o1] at this;exact this
theorem Q1h {a b:Nm}{p:Int}(ha:Qg a=true)(hb:Qg b=true)(hp:1<=p.toNat)(hn:b.neg=false)(h:(Kd a b p true).2=0):qN a<=qN (Kd a b p true).1*qN b:=by unfold Kd at h⊢;split at h;exact absurd h (by decide);rename_i hw;rw[BA hw];unfold Jc at h⊢;have hv:=JQ (JY (yw (ofN a) (ofN b) p.toNat) p.toNat true) h;have h0:0<(ofN b).m:=Nat.pos_of_ne_zero fun e=>hw ((Wp hb).1 e);rw[hv.2];have hf:=z1l (Jk (ofN a) (ofN b) p.toNat) p.toNat;have:=(y0u (a:=ofN a) (b:=ofN b) (p:=p.toNat) hn h0 hf).1 (Uw _ _);rw[Zv,Zv] at this;exact this
theorem x0k {y q:Nm}{p:Int}(h:(ZP y q p).2=0){X:Rat}(hX:I6 (qN q) (X-qN y)):KO X (ZP y q p).1/\((ZP y q p).1.lo=(Qw 1 y q p false).1/\(ZP y q p).1.hi=(Qw 0 y q p true).1/\(Qw 1 y q p false).2=0/\(Qw 0 y q p true).2=0):=by unfold ZP at h⊢;split at h;exact absurd h (by decide);rename_i hn;rw[BA hn];have e1:(Qw 1 y q p false).2=0:=BE fun h=>hn (.inl h);have e2:(Qw 0 y q p true).2=0:=BE fun h=>hn (.inr h);have v1:=Il e1;have v2:=Il e2;have g1:=zq (exV 1 (ofN y) (ofN q)) p.toNat;have g2:=Uw (exV 0 (ofN y) (ofN q)) p.toNat;rw[U4,Ht,Zv,Zv,<-v1] at g1;rw[U4,IK,Zv,Zv,<-v2] at g2;unfold I6 at hX;have:=hX.1;have:=hX.2;exact⟨⟨by show qN (Qw 1 y q p false).1<=X;grind,by show X<=qN (Qw 0 y q p true).1;grind⟩,rfl,rfl,e1,e2⟩
def sqG (n:Nat)(x:GJ):Prop:=sqR n x.a/\sqR n x.r
theorem U0k (x m y:Nm)(p:Int):Qg (qv x m y p).1=true:=by unfold qv;split<;>exact KX _ _ _ _ _
theorem j1y (a b:Nm)(p:Int)(up:Bool):Qg (Jc a b p up).1=true:=Kt (Wm (JY (yw _ _ _) _ _))
theorem X0t {n:Nat}(m:Nm)(p:Int)(row other:Lx)(h:row.length=n):(I4 m p row other).length=n/\ ∀c∈I4 m p row other,Qg c=true:=by unfold I4;refine⟨by simp[h],fun c hc=> ?_⟩;simp only[CF] at hc;obtain⟨j,_,rfl⟩:=hc;exact U0k _ _ _ _
theorem W0f {n:Nat}(d:Nm)(p:Int)(row:Lx)(h:row.length=n):(IS d p row).length=n/\ ∀c∈IS d p row,Qg c=true:=by unfold IS;refine⟨by simp[h],fun c hc=> ?_⟩;simp only[CF] at hc;obtain⟨j,_,rfl⟩:=hc;exact j1y _ _ _ _
theorem q1a {n:Nat}{p:Int}{k i:Nat}{x:GJ}(h:sqG n x)(hk:k<n)(hi:i<n):sqG n (vR p k i x):=by unfold vR;split;exact h;split;exact⟨h.1.set (X0t _ _ _ _ (h.1.row hi).1),h.2.set (X0t _ _ _ _ (h.2.row hi).1)⟩;exact h
theorem J0u {n:Nat}{p:Int}{k:Nat}{x:GJ}(h:sqG n x)(hk:k<n): ∀i,i<=n->sqG n (Hm p k x i)
 | 0,_=>h
 | i+1,hi=>by have:=J0u (p:=p) h hk i oG;unfold Hm;split;exact q1a this hk oG;exact this
theorem J0v {n k:Nat}{x:GJ}(h:sqG n x)(hk:k<n):sqG n (xn n k x):=by have:=Sv x.a k (n-(k+1));exact⟨h.1.swap hk oG,h.2.swap hk oG⟩
theorem J0w {n:Nat}{p:Int}{k:Nat}{x:GJ}(h:sqG n x)(hk:k<n):sqG n (IA p k x):=by unfold IA;split;exact⟨h.1.set (W0f _ _ _ (h.1.row hk).1),h.2.set (W0f _ _ _ (h.2.row hk).1)⟩;exact h
theorem q1b {n:Nat}{p:Int}{k:Nat}{x:GJ}(h:sqG n x)(hk:k<n):sqG n (vS p n k x):=by unfold vS;split;exact h;split;exact J0u (J0w (J0v h hk) hk) hk n (BD _);exact J0w (J0v h hk) hk
theorem J0x {n:Nat}{p:Int}{x:GJ}(h:sqG n x): ∀k,k<=n->sqG n (WA p n x k)
 | 0,_=>h
 | k+1,hk=>by have:=J0x h k oG (p:=p);unfold WA;split;exact q1b this oG;exact this
theorem j0v (n:Nat):sqR n (Y7 n):=by unfold Y7;refine⟨by simp,fun r hr=> ?_⟩;simp only[CF] at hr;obtain⟨i,_,rfl⟩:=hr;refine⟨by simp,fun c hc=> ?_⟩;simp only[CF] at hc;obtain⟨j,_,rfl⟩:=hc;split<;>decide
theorem w0n {a:Ly}(h:Xj a=true):sqR a.length a/\1<=a.length/\a.length<=4:=by obtain⟨h1,h2,h3⟩:=rightQ_iff.1 h;refine⟨⟨rfl,fun r hr=> ?_⟩,h2,h3⟩;obtain⟨i,hi,rfl⟩:=CM.1 hr;have:=h1 i hi;rw[q_a,BB hi] at this;have h5:Zy a[i] a.length=true:=this;unfold Zy at h5;rw[q_i,q_d] at h5;exact⟨q_b h5.2,fun c hc=>h5.1 c hc⟩
theorem Q2w {a:Ly}{p:Int}(h:(QW a p).2=0):Xj a=true/\Qv p=true/\sqR a.length (QW a p).1/\sqR a.length a/\1<=a.length/\a.length<=4/\(WA p a.length ⟨a,Y7 a.length,0⟩ a.length).e=0/\(QW a p).1=(WA p a.length ⟨a,Y7 a.length,0⟩ a.length).r:=by unfold QW at h⊢;split at h;rename_i hg;rw[BC hg];obtain⟨s1,s2,s3⟩:=w0n hg.1;split at h;rename_i he;rw[BC he];exact⟨hg.1,hg.2,(J0x (p:=p) (x:=⟨a,Y7 a.length,0⟩) ⟨s1,j0v _⟩ a.length (BD _)).2,s1,s2,s3,he,rfl⟩;rename_i he;exact absurd h he;exact absurd h (by decide)
theorem y0z {x:Ly}{e:Nm}{p:Int}(h:(JC x e p).2=0):(Qw 1 oneN e p false).2=0/\(Zm (ofM x) p).2=0/\(Qw 2 (Zm (ofM x) p).1 e p true).2=0/\JC x e p=Kd (Qw 2 (Zm (ofM x) p).1 e p true).1 (Qw 1 oneN e p false).1 p true:=by unfold JC at h⊢;split at h;rename_i hc;exact absurd h hc;rename_i c1;split at h;rename_i hc;exact absurd h hc;rename_i c2;split at h;rename_i hc;exact absurd h hc;rename_i c3;refine⟨BE fun h=>c1 h,BE fun h=>c2 h,BE fun h=>c3 h,?_⟩;rw[BA c1,BA c2,BA c3]
theorem w0m {lo hi:Nm}(h1:Qg lo=true)(h2:Qg hi=true)(h:qN lo<=qN hi):Qr ⟨lo,hi⟩=true:=zu h1 h2 (cmpN_le.2 h)
theorem z1k (p:Nat):Yg p 0:=⟨0,0,(XD 0).symm,CX _⟩
theorem w0h {v:Vl}{p:Nat}{up:Bool}(hp:1<=p)(h:0<=qV v):0<=qV (QR v p up):=by
 cases up with
 | true=>exact E5 h (Uw v p)
 | false=>exact w0f hp (z1k p) h
theorem V1o {x:Nm}(hx:Qg x=true)(h:0<=qN x):x.neg=false:=by by_cases hw:x.w= [];exact((w0r hx).2.2.2 hw).1;cases hn:x.neg;rfl;exfalso;have hm:(ofN x).m≠0:=fun e=>hw ((Wp hx).1 e);rw[<-Zv] at h;have: ¬qV (ofN x)<0:=(by grind);apply this;rw[<-jC];show Xi (ofN x)<0;unfold Xi;rw[BA hm,show(ofN x).neg=true from hn];decide
theorem Do {β:Type}{G:Nat->β×Int} : ∀(k i:Nat) (acc:List β),(Q7 G i k acc).2≠0->(Q7 G i k acc).1= []
 | 0,i,acc,h=>absurd rfl h
 | k+1,i,acc,h=>by unfold Q7 at h⊢;split at h;rename_i hc;rw[BC hc];rename_i hc;rw[BA hc];exact Do k _ _ h
theorem V1y {a b:Mx}{p:Int}(h:(Zb a b p).2=0):Za (Zb a b p).1=true/\(Zb a b p).1.length=a.length:=by obtain⟨⟨r1,r2,r3,r4⟩,m1,m2⟩:=Z0m h;have:=Jj r1;refine⟨rightM_iff.2 ⟨fun i hi=> ?_,oG,oG⟩,m1⟩;rw[m1] at hi⊢;refine⟨(m2 i hi).1,GN (fun j hj=> ?_) (by rw[(m2 i hi).1];omega) (by rw[(m2 i hi).1];omega)⟩;rw[(m2 i hi).1] at hj;have:=((m2 i hi).2 j hj).2;unfold atM at this;rw[this];exact IR _ _ _ _
theorem Q1a {X:Ly}{e:Nm}{p:Int}(hp:Qv p=true)(r1:0<=qN e)(he1:qN e<1)(h:(JC X e p).2=0):0<=qN (JC X e p).1/\Qg (JC X e p).1=true:=by
 obtain⟨d1,d2,d3,d4⟩:=y0z h;have hpp:=kx hp;obtain⟨n1,n2,n3,n4,n5⟩:=kX d2;have v1:=Il d1;have v3:=Il d3;have g3:=Uw (exV 2 (ofN (Zm (ofM X) p).1) (ofN e)) p.toNat;rw[U4,V0j,Zv,Zv,<-v3] at g3;have rd:=KX 1 oneN e p false;have rq:=KX 2 (Zm (ofM X) p).1 e p true;have g0:0<=qN (Qw 1 oneN e p false).1:=by have:=w0h (v:=exV 1 (ofN oneN) (ofN e)) (p:=p.toNat) (up:=false) hpp (by rw[U4,Ht,Zv,Zv,Ip];grind);rw[v1];exact this
 have hdn:=V1o rd g0;rw[d4] at h⊢;refine⟨?_,Q1i _ _ _ _⟩;have hqu:=Q1h rq rd hpp hdn h;have hpos:0<qN (Qw 1 oneN e p false).1:=by refine BE fun hne=> ?_;have hz:qN (Qw 1 oneN e p false).1=0:=(by grind);have hdef:(Qw 1 oneN e p false).1=default:=w0u rd Uy (by rw[hz,Kw]);rw[hdef] at h;unfold Kd at h;rw[BC (show(default:Nm).w= [] from rfl)] at h;exact absurd h (by decide)
 have hn0:0<=qN (Zm (ofM X) p).1*qN e:=Rat.mul_nonneg n3 r1;refine BE fun hne=> ?_;have hlt:0< -qN (Kd (Qw 2 (Zm (ofM X) p).1 e p true).1 (Qw 1 oneN e p false).1 p true).1:=(by grind);have:=Rat.mul_pos hlt hpos;grind
theorem x0d {y q:Nm}{p:Int}(hq:0<=qN q)(h1:(Qw 1 y q p false).2=0)(h2:(Qw 0 y q p true).2=0):Qr ⟨(Qw 1 y q p false).1,(Qw 0 y q p true).1⟩=true:=by
 have hs:(ZP y q p).2=0:=by unfold ZP;rw[BA (by rw[h1,h2];simp)]
 have hm:=(x0k (X:=qN y) hs ⟨by grind,by grind⟩).1;have he:(ZP y q p).1=⟨(Qw 1 y q p false).1,(Qw 0 y q p true).1⟩:=(by unfold ZP;rw[BA (by rw[h1,h2];simp)]);rw[he] at hm;exact w0m (KX _ _ _ _ _) (KX _ _ _ _ _) (E5 hm.1 hm.2)
def JU (G:Nat->Nat->Ivl×Int)(n:Nat):Mx:=(List.range n).map fun i=>(List.range n).map fun j=>(G i j).1
theorem z1r {G:Nat->Nat->Ivl×Int}{n:Nat}(h: ∀i j,i<n->j<n->(G i j).2=0):X7 G n=(JU G n,0):=by have h0:=z1q h;obtain⟨f1,f2⟩:=II h0;refine Prod.ext ?_ h0;show(X7 G n).1=JU G n;refine C9 (by rw[f1];simp[JU]) fun i h1 h2=> ?_;have hi:i<n:=(by rw[f1] at h1;exact h1);have e1:(X7 G n).1[i]=(X7 G n).1.getD i []:=(by rw[q_a,BB h1];rfl);have e2:(JU G n)[i]=(List.range n).map fun j=>(G i j).1:=(by simp[JU]);rw[e1,e2];refine C9 (by rw[(f2 i hi).1];simp) fun j h3 h4=> ?_;have hj:j<n:=(by rw[(f2 i hi).1] at h3;exact h3);have e3:=((f2 i hi).2 j hj).2;unfold atM at e3;rw[q_a,BB h3,D9] at e3;rw[e3,List.getElem_map,List.getElem_range]
theorem z1s {G:Nat->Nat->Ivl×Int}{n i j:Nat}{e:Int}(he:e≠0)(hG: ∀i j,(G i j).2=0\/(G i j).2=e)(hi:i<n)(hj:j<n)(h:(G i j).2=e):X7 G n=([],e):=by
 have hne:(X7 G n).2≠0:=fun h0=>by have:=((II h0).2 i hi).2 j hj;rw[this.1] at h;exact he h.symm
 have key: ∀ {β:Type} (F:Nat->β×Int) (k i:Nat) (acc:List β),(∀j,(F j).2=0\/(F j).2=e)->(Q7 F i k acc).2=0\/Q7 F i k acc=([],e):=by
  intro β F k
  induction k with
  | zero=>intro i acc _;exact .inl rfl
  | succ k ih=>
   intro i acc hF;unfold Q7;split;rename_i hc;exact .inr (by rw[(hF i).resolve_left hc]);exact ih _ _ hF
 refine(key _ _ _ _ fun j=> ?_).resolve_left hne;rcases key (fun j'=>G j j') n 0 [] (hG j) with h | h;exact .inl h;exact .inr (by rw[h])
set_option maxRecDepth 100000
open Go.Proofs
theorem Mi {st:Qc}{e:Ln}{p q s:PV}(h:Seen st e p q)(hs:Tame s):Seen st e (.tup [p,s]) (.tup [q,s]):=by
 refine .tup rfl fun j hj=> ?_
 match j,hj with
 | 0,_=>exact h
 | 1,_=>exact .same hs
def bdR (n S:Nat)(l:List Nm):Prop:= ∀j,j<n->luQ S S (qN (l.getD j default))
def bdQ (n S:Nat)(a:List (List Nm)):Prop:= ∀i,i<n->bdR n S (a.getD i [])
theorem bdR.mono {n S T:Nat}{l:Lx}(h:bdR n S l)(hl:S<=T):bdR n T l:=fun j hj=>(h j hj).mono hl hl
theorem bdQ.mono {n S T:Nat}{a:Ly}(h:bdQ n S a)(hl:S<=T):bdQ n T a:=fun i hi=>(h i hi).mono hl
section
variable {base n:Nat} {st:Qc} {A B:Nat} {ia ib:List Nat} {a r:List (List Nm)}
end
def wV (u v:List Nm)(p:Int)(i:Nat)(acc:Nm):Nm×Int:=
 if (Qw 2 (u.getD i default) (v.getD i default) p false).2=0/\0<i then Qw 0 acc (Qw 2 (u.getD i default) (v.getD i default) p false).1 p false else Qw 2 (u.getD i default) (v.getD i default) p false
def V0z (u v:List Nm)(p:Int):Nat->Nat->Nm->Nm×Int
 | _,0,acc=>(acc,0)
 | i,k+1,acc=>if (wV u v p i acc).2≠0 then(default,(wV u v p i acc).2) else V0z u v p (i+1) k (wV u v p i acc).1
def WD (u v:List Nm)(p:Int):Nm×Int:=V0z u v p 0 u.length default
def rowR (n:Nat)(v:List Nm):Prop:=v.length=n/\ ∀c∈v,Qg c=true
theorem rowR.at {n:Nat}{v:Lx}(h:rowR n v)(i:Nat):Qg (v.getD i default)=true:=by by_cases hi:i<v.length;exact h.2 _ (QE _ _ _ hi);rw[q_a,C2 oG];rfl
def Hi (v u:List Nm)(p:Int):List Nm×Int:=
 if (WD u v p).2≠0 then([],(WD u v p).2) else if (WD u u p).2≠0 then([],(WD u u p).2)
 else if (Kd (WD u v p).1 (WD u u p).1 p false).2≠0 then([],(Kd (WD u v p).1 (WD u u p).1 p false).2)
 else Q7 (fun i=>qv (v.getD i default) (Kd (WD u v p).1 (WD u u p).1 p false).1 (u.getD i default) p) 0 v.length []
theorem Dl {G:Nat->Nm×Int}{n:Nat}(hg: ∀i,Qg (G i).1=true)(h:(Q7 G 0 n []).2=0):rowR n (Q7 G 0 n []).1:=
 ⟨(WS h).1,WR (fun x=>Qg x=true) n 0 [] (fun j _ _=>hg j) (fun x hx=>by cases hx)⟩
theorem U1f {v u:Lx}{n:Nat}{p:Int}(hv:rowR n v)(h:(Hi v u p).2=0):rowR n (Hi v u p).1:=by unfold Hi at h⊢;split at h;rename_i c;exact absurd h c;rename_i c;rw[BA c];split at h;rename_i c;exact absurd h c;rename_i c;rw[BA c];split at h;rename_i c;exact absurd h c;rename_i c;rw[BA c];have:=Dl (fun i=>U0k _ _ _ _) h;rwa [hv.1] at this⊢
def KU (v:List Nm):Nat->Nm
 | 0=>default
 | i+1=>if Q6 (Zx (v.getD i default)) (KU v i)>0 then Zx (v.getD i default) else KU v i
theorem jz (v:Lx): ∀i,Qg (KU v i)=true
 | 0=>rfl
 | i+1=>by unfold KU;split;exact HA _;exact jz v i
def j3 (v:List Nm):Nm:=KU v v.length
def Ut (t:Nm):Int:= -t.exp-(Zc t.w:Nat)
def Yx (v:List Nm):List Nm×Int:=if (j3 v).w= [] then([],3) else Q7 (fun i=>QQ (v.getD i default) (Ut (j3 v))) 0 v.length []
theorem v0c {v:Lx}{n:Nat}(hv:rowR n v)(h:(Yx v).2=0):rowR n (Yx v).1:=by unfold Yx at h⊢;split at h;exact absurd h (by decide);rename_i c;rw[BA c];have:=Dl (fun i=>WU _ _) h;rwa [hv.1] at this⊢
def Uf (made:List (List Nm))(p:Int):Nat->Nat->List Nm->List Nm×Int
 | _,0,v=>(v,0)
 | i,k+1,v=>if (Hi v (made.getD i []) p).2≠0 then([],(Hi v (made.getD i []) p).2) else Uf made p (i+1) k (Hi v (made.getD i []) p).1
theorem Ch {made:Ly}{n:Nat}{p:Int} : ∀(k i:Nat) (v:Lx),rowR n v->(Uf made p i k v).2=0->rowR n (Uf made p i k v).1
 | 0,_,_,h,_=>h
 | k+1,i,v,hv,h=>by unfold Uf at h⊢;split at h;rename_i c;exact absurd h c;rename_i c;rw[BA c];exact Ch k _ _ (U1f hv (C8.1 c)) h
def Ug (v:List Nm)(made:List (List Nm))(p:Int):List Nm×Int:=
 if (Uf made p 0 made.length v).2≠0 then([],(Uf made p 0 made.length v).2) else Yx (Uf made p 0 made.length v).1
theorem q0d {v:Lx}{made:Ly}{n:Nat}{p:Int}(hv:rowR n v)(h:(Ug v made p).2=0):rowR n (Ug v made p).1:=by unfold Ug at h⊢;split at h;rename_i c;exact absurd h c;rename_i c;rw[BA c];exact v0c (Ch _ _ _ hv (C8.1 c)) h
def Gb (a:List (List Nm))(j:Nat):List Nm:=(List.range a.length).map fun i=>ZB a i j
theorem v1b {a:Ly}(h:Xj a=true){j:Nat}(hj:j<a.length):rowR a.length (Gb a j):=by refine⟨by simp[Gb],fun c hc=> ?_⟩;simp only[Gb,CF] at hc;obtain⟨i,hi,rfl⟩:=hc;rw[EX] at hi;have:=(rightQ_iff.1 h).1 i hi;unfold Zy at this;rw[q_i] at this;refine(Vr _ Qg).1 this.1 j ?_;have:=q_b this.2;omega
def WE (a:List (List Nm))(p:Int):Nat->Nat->List (List Nm)->List (List Nm)×Int
 | _,0,made=>(made,0)
 | j,k+1,made=>if (Ug (Gb a j) made p).2≠0 then([],(Ug (Gb a j) made p).2) else WE a p (j+1) k (made++ [(Ug (Gb a j) made p).1])
def zo (n:Nat)(cols:List (List Nm)):List (List Nm):=(List.range n).map fun i=>cols.map fun c=>c.getD i default
def Jq (a:List (List Nm))(p:Int):List (List Nm)×Int:=
 if Xj a=true/\Qv p=true then(if (WE a p 0 a.length []).2≠0 then([],(WE a p 0 a.length []).2) else(zo a.length (WE a p 0 a.length []).1,0)) else([],1)
theorem W0u {a:Ly}{p:Int}(ha:Xj a=true): ∀(k j:Nat) (made:Ly),j+k<=a.length->made.length=j->(∀c∈made,rowR a.length c)->(WE a p j k made).2=0->(WE a p j k made).1.length=j+k/\ ∀c∈(WE a p j k made).1,rowR a.length c
 | 0,j,made,_,hl,hm,_=>⟨hl,hm⟩
 | k+1,j,made,hj,hl,hm,h=>by unfold WE at h⊢;split at h;rename_i c;exact absurd h c;rename_i c;rw[BA c];have h0:=C8.1 c;have:=W0u ha k (j+1) (made++ [(Ug (Gb a j) made p).1]) oG (by simp;omega) (fun x hx=>by rcases DN.1 hx with hx | hx;exact hm x hx;rw[C0.1 hx];exact q0d (v1b ha oG) h0) h;exact⟨by rw[this.1];omega,this.2⟩
theorem W0s {a:Ly}{p:Int}(h:(Jq a p).2=0):Xj a=true/\Qv p=true/\(WE a p 0 a.length []).2=0/\(Jq a p).1=zo a.length (WE a p 0 a.length []).1:=by unfold Jq at h⊢;split at h;rename_i c;rw[BC c];split at h;rename_i c2;exact absurd h c2;rename_i c2;rw[BA c2];exact⟨c.1,c.2,C8.1 c2,rfl⟩;exact absurd h (by decide)
theorem v1a {a:Ly}{p:Int}(h:(Jq a p).2=0):sqR a.length (Jq a p).1:=by obtain⟨h1,h2,h3,h4⟩:=W0s h;rw[h4];obtain⟨q1,q2⟩:=W0u h1 a.length 0 [] oG rfl (fun c hc=>by cases hc) h3;refine⟨by simp[zo],fun r hr=> ?_⟩;simp only[zo,CF] at hr;obtain⟨i,_,rfl⟩:=hr;refine⟨by simp[q1],fun c hc=> ?_⟩;simp only[CF] at hc;obtain⟨l,hl,rfl⟩:=hc;exact(q2 l hl).at i
def luR (L U:Nat)(v:List Nm):Prop:= ∀i,luQ L U (qN (v.getD i default))
theorem luR.mono {L U L' U':Nat}{v:Lx}(h:luR L U v)(hl:L<=L')(hu:U<=U'):luR L' U' v:=fun i=>(h i).mono hl hu
def K1 (f:Fm)(p:Int):List Ivl×Int:=
 if Z4 f=true/\Qv p=true then(if (Xy (ofM f.a) f.r p).2≠0 then([],(Xy (ofM f.a) f.r p).2) else opB 0 (ofB f.m) (Xy (ofM f.a) f.r p).1 p) else([],1)
def KJ (c:Mx)(p:Int):(List (List Nm)×Mx)×Int:=
 if (XT c p).2≠0 then(([],[]),(XT c p).2)
 else if (Jq (XT c p).1 p).2≠0 then(([],[]),(Jq (XT c p).1 p).2)
 else(((Jq (XT c p).1 p).1,(Xn (Jq (XT c p).1 p).1 p).1),(Xn (Jq (XT c p).1 p).1 p).2)
def XV (c:Mx)(p:Int):(List (List Nm)×Mx)×Int:=if (KJ c p).2=3 then((KM c.length,idM c.length),0) else KJ c p
def Yz (v c:Mx)(r z:List Ivl)(p:Int):List Ivl×Int:=
 if (Zb v c p).2≠0 then([],(Zb v c p).2)
 else if (Xy (Zb v c p).1 r p).2≠0 then([],(Xy (Zb v c p).1 r p).2)
 else if (Xy v z p).2≠0 then([],(Xy v z p).2)
 else opB 0 (Xy (Zb v c p).1 r p).1 (Xy v z p).1 p
def xa (f:Fm)(m:List Nm)(c:Mx)(t:List (List Nm)×Mx)(d:List Ivl)(p:Int):Fm×Int:=
 if (Yz t.2 c f.r d p).2≠0 then(default,(Yz t.2 c f.r d p).2) else(⟨m,t.1,(Yz t.2 c f.r d p).1⟩,0)
def vf (f:Fm)(z:List Ivl)(m:List Nm)(c:Mx)(t:List (List Nm)×Mx)(p:Int):Fm×Int:=
 if (opB 1 z (ofB m) p).2≠0 then(default,(opB 1 z (ofB m) p).2) else xa f m c t (opB 1 z (ofB m) p).1 p
def vd (f:Fm)(z:List Ivl)(m:List Nm)(c:Mx)(p:Int):Fm×Int:=
 if (XV c p).2≠0 then(default,(XV c p).2) else vf f z m c (XV c p).1 p
def vg (f:Fm)(z:List Ivl)(s:Mx)(m:List Nm)(p:Int):Fm×Int:=
 if (Zb s (ofM f.a) p).2≠0 then(default,(Zb s (ofM f.a) p).2) else vd f z m (Zb s (ofM f.a) p).1 p
def xc (f:Fm)(z:List Ivl)(s:Mx)(p:Int):Fm×Int:=
 if (QJ z p).2≠0 then(default,(QJ z p).2) else vg f z s (QJ z p).1 p
def xb (f:Fm)(z:List Ivl)(s:Mx)(p:Int):Bool:=Z4 f&&rightB z&&Za s&&decide (z.length=f.m.length)&&decide (s.length=f.m.length)&&Qv p
def KN (f:Fm)(z:List Ivl)(s:Mx)(p:Int):Fm×Int:=if xb f z s p=true then xc f z s p else(default,1)
theorem V1j {f:Fm}{z:Li}{s:Mx}{p:Int}(h:xb f z s p=true):Z4 f=true/\rightB z=true/\Za s=true/\z.length=f.m.length/\s.length=f.m.length/\Qv p=true:=by unfold xb at h;simp only[q_i,BN] at h;exact⟨h.1.1.1.1.1,h.1.1.1.1.2,h.1.1.1.2,h.1.1.2,h.1.2,h.2⟩
theorem J1k (a:Ly)(st:Qc)(hw:wQs a):PR 279 [.sl .no (Qu a)] st (.sc (.bool (Xj a))):=by
 obtain⟨hl,hw⟩:=hw;refine Ql Tryz.func279 fun E=> ?_;refine Q1 [true,false,false,false,false,false,false,true,true,true] 0 0 (fun n s=> ∃i,n=a.length-i/\i<=a.length/\(∀j,j<i->Zy (a.getD j []) a.length=true)/\s=⟨[.sl .no (Qu a),.junk,.junk,.junk,.junk,.junk,.junk,.sl .no (Qu a),.sc (.int .i64 a.length),.sc (.int .i64 (i:Nat))]++jk 27,[],[],st⟩) a.length ?_ ?_;refine Qq ?_;exact⟨0,oG,oG,fun j hj=>oG,rfl⟩;rintro n s ⟨i,rfl,hi,hr,rfl⟩;refine QS ?_ ?_<;>intro h;have hlt:i<a.length:=(oT h);have e1:=V8 a i hlt;have e3:=Zd i oG;have wi:=hw i hlt;have wil:=wi.1;simp-dsimp only[go_sem,e1];refine⟨oG,?_⟩;refine ck ?_ ?_<;>intro h2;have hn:=Ve h2;refine Qq ?_;have:Xj a=false:=CS.2 fun e=>hn (by have:=(rightQ_iff.1 e).1 i hlt;unfold Zy at this;simp at this;exact this.2);rw[this];have hn:=Kg h2;refine Qq ?_;refine Q1 ([true,false,false,false,false,false,false,true,true,true]++rF 8++ [true,true,true]) 0 0 (fun n s=> ∃k,n=(a.getD i []).length-k/\k<=(a.getD i []).length/\(∀j,j<k->Qg ((a.getD i []).getD j default)=true)/\s=⟨[.sl .no (Qu a),.junk,.junk,.junk,.junk,.junk,.junk,.sl .no (Qu a),.sc (.int .i64 a.length),.sc (.int .i64 (i:Nat))]++jk 8++ [.sl .no (Q5 (a.getD i [])),.sc (.int .i64 (a.getD i []).length),.sc (.int .i64 (k:Nat))]++jk 16,[],[],st⟩) (a.getD i []).length ?_ ?_;refine Qq ?_;exact⟨0,oG,oG,fun j hj=>oG,rfl⟩;rintro n s ⟨k,rfl,hk,hrk,rfl⟩;refine QS ?_ ?_<;>intro h5;have hklt:k<(a.getD i []).length:=(oT h5);have e2:=JV (a.getD i []) k hklt;have e4:=Zd k oG;have wk:=wi.2 k hklt;unfold wN at wk;simp-dsimp only[go_sem,e2];refine⟨oG,?_⟩;refine(XY _ st oG).Q ?_;refine ck ?_ ?_<;>intro h6;have hf:Qg ((a.getD i []).getD k default)=false:=(by simpa using h6);refine Qq ?_;have:Xj a=false:=CS.2 fun e=>by have:=(rightQ_iff.1 e).1 i hlt;unfold Zy at this;rw[q_i] at this;rw[(Vr _ Qg).1 this.1 k hklt] at hf;cases hf
 rw[this];have ht:Qg ((a.getD i []).getD k default)=true:=(by simpa using h6);simp-dsimp only[go_sem,e4];refine⟨(a.getD i []).length-(k+1),oG,k+1,rfl,oG,fun j hj=> ?_,rfl⟩;by_cases e:j=k;subst e;exact ht;exact hrk j oG;have hge:k=(a.getD i []).length:=(oF h5);refine Qq ?_;refine Qb ?_;simp-dsimp only[go_sem,e3];refine⟨a.length-(i+1),oG,i+1,rfl,oG,fun j hj=> ?_,rfl⟩;by_cases e:j=i;subst e;unfold Zy;rw[q_i];exact⟨(Vr _ Qg).2 fun b hb=>hrk b oG,q_h hn⟩;exact hr j oG
 . have hge:i=a.length:=oF h
   subst hge;refine Qq ?_;refine Qp ?_;have fin:Xj a=(decide ((a.length:Int)>=1)&&decide ((a.length:Int)<=4)):=by rw[E3,rightQ_iff,q_i,D0,D0];exact⟨fun h=>⟨oG,oG⟩,fun h=>⟨hr,oG,oG⟩⟩
   rw[fin];refine gkT ?_ ?_<;>intro h1
   . simp-dsimp only[go_sem,h1]
     try rfl
   . simp-dsimp only[go_sem,h1]
     try rfl
theorem jc {n:Nat}{v:Lx}(h:rowR n v): ∀i,wN (v.getD i default):=fun i=>Q9 (h.at i)
theorem Np {x:Nm}(h:Qg x=true): -65536<=x.exp/\x.exp<=65536/\Zc x.w<=4096:=by have:=Yn h;exact⟨this.2.1,this.2.2,this.1⟩
theorem k0o {t:Nm}(h:Qg t=true):IntKind.i64.wrap (IntKind.i64.wrap (0-t.exp)-(Zc t.w:Nat))=Ut t:=by obtain⟨h1,h2,h3⟩:=Np h;rw[Q2 (0-t.exp) oG oG,Q2 _ oG oG];unfold Ut;omega
theorem J1l (v:Lx)(n:Nat)(st:Qc)(hv:rowR n v)(hn:n<=4):PR 318 [.sl .no (Q5 v)] st (.tup [.sl .no (Q5 (Yx v).1),.sc (.int .i64 (Yx v).2)]):=by
 have hlv:=hv.1;refine Qh none Tryz.func318 rfl fun E=>Qe (Qb ?_);unfold Yx j3;rw[hlv];refine Qq ?_;refine Qa ?_;refine Va 0 ?_;refine Qq ?_;refine Qb ?_;simp-dsimp only[go_sem,hlv];refine Q1 ([true,false,false,false,true]++rF 7++ [true,true,true]) 1 0
  (fun m s=> ∃i:Nat,m=n-i/\i<=n/\
   s=⟨[.sl .no (Q5 v),.junk,.junk,.junk,.lp 0 0]++jk 7++ [.sl .no (Q5 v),.sc (.int .i64 n),.sc (.int .i64 (i:Nat))]++jk 41,[Qf (KU v i)],[],st⟩) n ?_ ?_
 refine Qq ?_;exact⟨0,oG,oG,rfl⟩;rintro m s ⟨i,rfl,hi,rfl⟩;refine QS ?_ ?_<;>intro h;have hlt:i<n:=(oT h);have g1:=JV v i oG;have e3:=Zd i oG;have ht:KU v (i+1)=if Q6 (Zx (v.getD i default)) (KU v i)>0 then Zx (v.getD i default) else KU v i:=rfl;have hb:=(Yn (HA (v.getD i default))).1;simp-dsimp only[go_sem,hlv,g1];refine⟨oG,?_⟩;refine Q8 56 (.step 0 [] (.step 2 [] (.step 1 [2] (.step 3 [] (.step 4 [] (.done)))))) ?_;refine Qq ?_;refine(Q0x (v.getD i default) _ (jc hv i)).Q ?_;have wa:=Q9 (HA (v.getD i default));have wt:=Q9 (jz v i);unfold wN at wa wt;refine(VW (Zx (v.getD i default)) (KU v i) _ oG oG).Q ?_;refine ck ?_ ?_<;>intro h2;have hc:Q6 (Zx (v.getD i default)) (KU v i)>0:=q_b h2;rw[BC hc] at ht;refine Qq ?_;refine(Q0x (v.getD i default) _ (jc hv i)).q ?_;simp-dsimp only[go_sem,e3];exact⟨n-(i+1),oG,i+1,rfl,oG,by rw[ht]⟩;have hc: ¬Q6 (Zx (v.getD i default)) (KU v i)>0:=q_c h2;rw[BA hc] at ht;simp-dsimp only[go_sem,e3];exact⟨n-(i+1),oG,i+1,rfl,oG,by rw[ht]⟩;have hge:i=n:=(oF h);subst hge;have tr:=jz v i;have tw:=Q9 tr;have hsh:=k0o tr;obtain⟨tx1,tx2,tx3⟩:=Np tr;generalize KU v i=t at*
 unfold wN at tw;refine Qq ?_;refine Qp ?_;refine(zV t _ oG).w ?_;rintro st' rfl;by_cases h0:t.w= []
 . have z1:(QT (XR t)==0)=true:=by unfold QT XR;rw[BC tr,h0];rfl
   rw[BC h0];simp-dsimp only[go_sem,z1]
   try rfl
 have z1:(QT (XR t)==0)=false:=by have hm:Qd t.w≠0:=fun e=>h0 ((Wp tr).1 e);unfold QT XR;rw[BC tr,BA hm];split<;>rfl
 rw[BA h0];generalize hT:Q7 (fun k=>QQ (v.getD k default) (Ut t)) 0 i []=T;simp-dsimp only[go_sem,z1];refine ZE 7 3 ?_;refine Qq ?_;refine Q1 ([false,false,false,false,true,false,false,true]++rF 21++ [true,true,true]) 1 1
  (fun c s=> ∃(k:Nat) (o:Lx),c=i-k/\k<=i/\o.length=k/\T=Q7 (fun k=>QQ (v.getD k default) (Ut t)) k (i-k) o/\
   s=⟨[.junk,.junk,.junk,.junk,.lp 0 0,.junk,.junk,.sl (.own 0) (Q5 o)]++jk 21++ [.sl .no (Q5 v),.sc (.int .i64 i),.sc (.int .i64 (k:Nat))]++jk 24,[Qf t],[(o.length,3)],st'⟩) i ?_ ?_
 simp-dsimp only[go_sem,hlv];exact⟨0,[],oG,oG,rfl,hT.symm,rfl⟩;rintro c s ⟨k,o,rfl,hk,ho,hr,rfl⟩;refine QS ?_ ?_<;>intro h2;rotate_left;have hge:k=i:=(oF h2);subst hge;rw[Wt] at hr;rw[hr];refine Qq ?_;refine KG (rF 7++ [true]) (Qb ?_);exact QA;have hlt:k<i:=(oT h2);have g1:=JV v k oG;have e3:=Zd k oG;rw[VM _ hlt o] at hr;simp-dsimp only[go_sem,hlv,g1];refine⟨oG,?_⟩;refine Q8 56 (Qk [0,1,2,3,4,5] (.alt (.step 6 [0,2] (.step 7 [] (.alt (Qk [8,9,10,11] (.step 12 [0,2,5] (.step 13 [] (.step 14 [] (.done))))) (.step 12 [0,2,5] (Qk [8,9,10,11,13,14] .done))))) (.step 12 [0,2,5] (.step 6 [0,2] (Qk [7,8,9,10,11,13,14] .done))))) ?_;refine Qq ?_;refine And.intro ?_ ?_
 all_goals
  refine(Y8 t.w _ oG).q ?_;simp-dsimp only[go_sem,hsh]
  try refine And.intro ?_ ?_
 all_goals
  refine(UA (v.getD k default) (Ut t) _ (jc hv k)).q ?_;generalize QQ (v.getD k default) (Ut t)=W at*
  by_cases hz:W.2=0;have z5:(W.2 !=0)=false:=(by rw[hz];rfl);rw[BA (fun e=>e hz)] at hr;simp-dsimp only[go_sem,z5,e3];exact⟨oG,i-(k+1),oG,k+1,o++ [W.1],rfl,oG,by simp;omega,hr,by simp[Q5,Qf]⟩
  . have z5:(W.2 !=0)=true:=BV.2 hz;rw[BC hz] at hr;rw[hr];simp-dsimp only[go_sem,z5]
    try rfl
set_option maxRecDepth 20000
def bdK (n:Nat)(B:Nat->Nat)(D U:Nat)(l:List Nm):Prop:= ∀j,j<n->luQ (B j+D) U (qN (l.getD j default))
theorem bdK.mono {n D U D' U':Nat}{B:Nat->Nat}{l:Lx}(h:bdK n B D U l)(hd:D<=D')(hu:U<=U'):bdK n B D' U' l:=fun j hj=>(h j hj).mono oG hu
theorem Q0q {q:Lx}{i:Nat}(hi:i<q.length):(ofB q).getD i default=⟨q.getD i default,q.getD i default⟩:=by simp[ofB,q_a,hi]
def Wy (r a:Mx)(p:Int):Nm×Int:=
 if (Zb r a p).2≠0 then(default,(Zb r a p).2) else
 if (opM 1 (idM (r.length:Int)) (Zb r a p).1 p).2≠0 then(default,(opM 1 (idM (r.length:Int)) (Zb r a p).1 p).2) else
 Zm (opM 1 (idM (r.length:Int)) (Zb r a p).1 p).1 p
def KY (r:Mx)(e:Nm)(p:Int):Nm×Int:=
 if (Qw 1 oneN e p false).2≠0 then(default,(Qw 1 oneN e p false).2) else
 if (Zm r p).2≠0 then(default,(Zm r p).2) else
 if (Qw 2 (Zm r p).1 e p true).2≠0 then(default,(Qw 2 (Zm r p).1 e p true).2) else
 Kd (Qw 2 (Zm r p).1 e p true).1 (Qw 1 oneN e p false).1 p true
theorem y0a {x a:Ly}{p:Int} :Wy (ofM x) (ofM a) p=Z9 x a p:=by unfold Wy Z9;have:(ofM x).length=x.length:=(by unfold ofM;rw[BR]);rw[this]
theorem Q1b {x:Ly}{e:Nm}{p:Int} :KY (ofM x) e p=JC x e p:=rfl
theorem G1n (r a:Mx)(p:Int)(st:Qc)(hr:wM r)(ha:wM a):PCalls Tryz.prog 282 [.sl .no (Qt r),.sl .no (Qt a),.sc (.int .i64 p)] st (fun res st'=>res= .tup [.agg (Qf (Wy r a p).1),.sc (.int .i64 (Wy r a p).2)]/\st'=st):=by
 refine Ql Tryz.func282 fun E=> ?_;refine(v6 r a p _ hr ha).q ?_;by_cases h1:(Zb r a p).2=0
 . have g1:((Zb r a p).2 !=0)=false:=(by simpa using h1);simp-dsimp only[go_sem,g1];refine(v7 _ _).Q ?_;refine(Y1d (idM (r.length:Int)) (Zb r a p).1 p _ ?_ ?_).mono ?_;rw[<-J1y];exact kQ (Q0f _);exact vl _ _ _;rintro res st' ⟨rfl,rfl⟩;by_cases h2:(opM 1 (idM (r.length:Int)) (Zb r a p).1 p).2=0
   . have g2:((opM 1 (idM (r.length:Int)) (Zb r a p).1 p).2 !=0)=false:=(by simpa using h2);simp-dsimp only[go_sem,g2];refine(Z0v (opM 1 (idM (r.length:Int)) (Zb r a p).1 p).1 p _ ?_).mono ?_;exact Tx _ _ _ _;rintro res st' ⟨rfl,rfl⟩;have hR:Wy r a p=Zm (opM 1 (idM (r.length:Int)) (Zb r a p).1 p).1 p:=(by unfold Wy;rw[BA (fun h=>h h1),BA (fun h=>h h2)]);rw[hR];simp-dsimp only[go_sem]
     try rfl
   . have g2:((opM 1 (idM (r.length:Int)) (Zb r a p).1 p).2 !=0)=true:=(by simpa using h2);have hR:Wy r a p=(default,(opM 1 (idM (r.length:Int)) (Zb r a p).1 p).2):=(by unfold Wy;rw[BA (fun h=>h h1),BC h2]);rw[hR];simp-dsimp only[go_sem,g2]
     try rfl
 . have g1:((Zb r a p).2 !=0)=true:=(by simpa using h1);have hR:Wy r a p=(default,(Zb r a p).2):=(by unfold Wy;rw[BC h1]);rw[hR];simp-dsimp only[go_sem,g1]
   try rfl
theorem G1o (r:Mx)(e:Nm)(p:Int)(st:Qc)(hr:Za r=true)(he:Qg e=true)(hp:Qv p=true)
 (hQ:PCalls Tryz.prog 271 [.agg (Qf (Qw 2 (Zm r p).1 e p true).1),.agg (Qf (Qw 1 oneN e p false).1),.sc (.int .i64 p),.sc (.bool true)] st (fun res st'=>res= .tup [.agg (Qf (Kd (Qw 2 (Zm r p).1 e p true).1 (Qw 1 oneN e p false).1 p true).1),.sc (.int .i64 (Kd (Qw 2 (Zm r p).1 e p true).1 (Qw 1 oneN e p false).1 p true).2)]/\st'=st)):PCalls Tryz.prog 283 [.sl .no (Qt r),.agg (Qf e),.sc (.int .i64 p)] st (fun res st'=>res= .tup [.agg (Qf (KY r e p).1),.sc (.int .i64 (KY r e p).2)]/\st'=st):=by
 have wr:=Uz hr;have we:=Q9 he;have w1:wN oneN:=Q9 kN;have wd:=Q9 (KX 1 oneN e p false);refine Qh none Tryz.func283 rfl fun E=>Qe (Qb ?_);refine Qq ?_;refine Ky [true,false,true,false,true,false,true,false,true,true] 3 0
  (fun s=>s=⟨[.sl .no (Qt r),.junk,.sc (.int .i64 p),.junk,.lp 0 0,.junk,.lp 1 0,.junk,.lp 2 0,.sc (.int .i64 (Qw 1 oneN e p false).2)]++jk 39,[Qf e,[.sc (.bool false),.sc (.int .i64 0),.sl .full []],Qf (Qw 1 oneN e p false).1],[],st⟩) ?_ ?_
 . refine Qq ?_;refine Q8 49 (.step 1 [] (.step 2 [] (.alt (.step 0 [1] (.alt (.step 3 [] (.step 4 [] (.step 5 [] (.step 6 [] (.step 7 [1] (.step 8 [] (.step 9 [] (.done)))))))) (.step 7 [1] (.step 3 [] (.step 4 [] (.step 5 [] (.step 6 [] (.step 8 [] (.step 9 [] (.done)))))))))) (.step 7 [1] (.step 0 [1] (.step 3 [] (.step 4 [] (.step 5 [] (.step 6 [] (.step 8 [] (.step 9 [] (.done)))))))))))) ?_;refine Qq ?_;refine And.intro ?_ ?_
   . refine(UB _).Q ?_;refine And.intro ?_ ?_
     all_goals
      refine(zt _ _ p false _ w1 we).q ?_;simp-dsimp only[go_sem]
      try rfl
   . refine(UB _).Q ?_;refine(zt _ _ p false _ w1 we).q ?_;simp-dsimp only[go_sem]
     try rfl
 rintro s rfl;refine Qb ?_;by_cases h1:(Qw 1 oneN e p false).2=0
 . have g1:((Qw 1 oneN e p false).2 !=0)=false:=(by simpa using h1);simp-dsimp only[go_sem,g1];refine(Z0v r p _ wr).q ?_;by_cases h2:(Zm r p).2=0
   . have g2:((Zm r p).2 !=0)=false:=(by simpa using h2);have rn:=(kX h2).2.2.2.1;have wn:=Q9 rn;simp-dsimp only[go_sem,g2];refine(w0l (Zm r p).1 e p true _ wn we).q ?_;by_cases h3:(Qw 2 (Zm r p).1 e p true).2=0
     . have g3:((Qw 2 (Zm r p).1 e p true).2 !=0)=false:=(by simpa using h3);simp-dsimp only[go_sem,g3];refine hQ.q ?_;have hR:KY r e p=Kd (Qw 2 (Zm r p).1 e p true).1 (Qw 1 oneN e p false).1 p true:=(by unfold KY;rw[BA (fun h=>h h1),BA (fun h=>h h2),BA (fun h=>h h3)]);rw[hR];simp-dsimp only[go_sem]
       try rfl
     . have g3:((Qw 2 (Zm r p).1 e p true).2 !=0)=true:=(by simpa using h3);have hR:KY r e p=(default,(Qw 2 (Zm r p).1 e p true).2):=(by unfold KY;rw[BA (fun h=>h h1),BA (fun h=>h h2),BC h3]);rw[hR];simp-dsimp only[go_sem,g3]
       try rfl
   . have g2:((Zm r p).2 !=0)=true:=(by simpa using h2);have hR:KY r e p=(default,(Zm r p).2):=(by unfold KY;rw[BA (fun h=>h h1),BC h2]);rw[hR];simp-dsimp only[go_sem,g2]
     try rfl
 . have g1:((Qw 1 oneN e p false).2 !=0)=true:=(by simpa using h1);have hR:KY r e p=(default,(Qw 1 oneN e p false).2):=(by unfold KY;rw[BC h1]);rw[hR];simp-dsimp only[go_sem,g1]
   try rfl
def JB (x:List Ivl):List PV:=flat (Qj x)
theorem j1l (x:Li): ∀i,i<(Qj x).length->((Qj x).getD i .junk).cells.length=6:=fun i hi=>by rw[K4] at hi;rw[Zr x i hi];rfl
theorem Ng (x:Li):(JB x).length=x.length*6:=by unfold JB;rw[Kj (j1l x),K4]
def X2x (st X:Qc)(i:Nat)(x:List Ivl)(out:PV):Prop:=
 (i=0/\out= .sl .full []/\X= [])\/(0<i/\ ∃k cap R,out= .gr k i cap/\st.length<=k/\k<(st++X).length/\(st++X).getD k []=JB x++R/\R.length=(cap-i)*6/\i<=cap)
theorem v0z (x:Li)(a:Ivl):JB (x++ [a])=JB x++Qm a:=by unfold JB;rw[show Qj (x++ [a])=Qj x++ [.agg (Qm a)] by simp[Qj],xx];congr 1
theorem y1e (x:Lx)(st:Qc)(h0:0<x.length)(h4:x.length<=4)(hw:wNs x):
 PCalls Tryz.prog 72 [.sl .no (Q5 x)] st (fun r st'=> ∃k cap X,r= .gr k x.length cap/\st'=st++X/\st.length<=k/\RowAt (st++X) k (JB (ofB x))):=by
 obtain⟨hl,hw⟩:=hw;refine Qh none Tryz.func72 rfl fun E=>Qe (Qb ?_);refine Qq ?_;refine Qa ?_;refine Qa ?_;refine X0 [false,false,false,true,false,false,true,true,true] 0 0
  (fun m s=> ∃i out X,m=x.length-i/\i<=x.length/\X2x st X i (ofB (x.take i)) out/\s=⟨[.junk,.junk,.junk,out,.junk,.junk,.sl .no (Q5 x),.sc (.int .i64 x.length),.sc (.int .i64 (i:Nat))]++jk 10,[],[],st++X⟩) x.length ?_ ?_
 refine Qq ?_;exact⟨0,.sl .full [],[],oG,oG,.inl ⟨rfl,rfl,rfl⟩,by simp⟩;rintro m s ⟨i,out,X,rfl,hi,hL,rfl⟩;refine Qa ?_;refine Qa ?_;refine ck ?_ ?_<;>intro h;have hlt:i<x.length:=(oT h);have e1:=JV x i hlt;have e3:=Zd i oG;have hwi:=hw i hlt;refine Qq ?_;refine Qe (Xp ?_);refine Qe (Qb ?_);simp-dsimp only[go_sem,e1];refine⟨oG,?_⟩;refine Y0 [false,false,false,false,true] ?_;have hst:=kS x i hlt;rcases hL with ⟨rfl,rfl,rfl⟩ | ⟨hi0,k,cap,R,rfl,hk1,hk2,hk3,hk4,hk5⟩;refine Qq ?_;refine(Ki _ _ hwi).w ?_;rintro st' rfl;refine Qq ?_;refine⟨GrowOK.mk_one rfl (by decide) rfl oG oG rfl rfl,fun cap' R hc hR=> ?_⟩;refine Qb ?_;simp-dsimp only[go_sem,e3];refine⟨x.length-(0+1),oG,0+1,_,_,rfl,oG,.inr ⟨oG,st'.length,cap',R,rfl,BD _,by simp,?_,hR,hc⟩,rfl⟩;rw[Zi _ _ _ _ (BD _),DD,hst];rfl;refine Qq ?_;refine(Ki _ _ hwi).w ?_;rintro st' rfl;refine Qq ?_;have hlen:(ofB (x.take i)).length=i:=(by unfold ofB;rw[BR,BX];omega);have hrl:=Ng (ofB (x.take i));have hgl:((st++X).getD k []).length=cap*6:=(by rw[hk3,BH,hrl,hlen,hk4,<-BQ];congr 1;omega);refine⟨GrowOK.mk_one rfl (by decide) hgl oG oG rfl rfl,fun k' cap' st' hG=> ?_⟩;obtain⟨R',f1,f2,f3,f4,f5,f6,f7⟩:=GrowTo.facts (es:=Qj (ofB (x.take i))) hG hk2 hk3 (by show(JB _).length=_;rw[hrl,hlen]) rfl hk4 hk5;obtain⟨X',rfl⟩:=GrowTo.app hG hk1;refine Qb ?_;simp-dsimp only[go_sem,e3];refine⟨x.length-(i+1),oG,i+1,_,X',rfl,oG,.inr ⟨oG,k',cap',R',rfl,?_,f4,?_,f2,f3⟩,rfl⟩;rcases f5 with rfl | rfl;exact hk1;rw[BH];omega;rw[f1,hst,v0z];rw[BP];rfl;have hge:i=x.length:=(oF h);subst hge;refine Qq ?_;refine Qb ?_;rcases hL with ⟨hz,rfl,rfl⟩ | ⟨hi0,k,cap,R,rfl,h1,h2,h3,_⟩;omega;refine Qq ?_;rw[B0] at h3;exact⟨k,cap,X,rfl,rfl,h1,h2,R,h3⟩
theorem X1v {P:Pg}{f:FuncId}{args:Lp}{st:Qc}{n:Nat}{rows:List (List PV)}(h0:0<n)
 (h:PCalls P f args st fun r st'=> ∃ids cs X,st'=st++X/\Built st' st.length n n r ids cs rows):
 PCalls P f args st (fun r st'=> ∃A ids X,r= .ms true A 0 n/\st'=st++X/\MatO st' A ids n rows/\st.length<=A/\ ∀i∈ids,st.length<=i):=by
 refine PCalls.unGr h ?_;rintro r st' ⟨ids,cs,X,rfl,hB⟩;obtain⟨A,cap,R,rfl,hA,hAl,hAc,hM,hU⟩:=hB.done h0;refine⟨.ms true A 0 n,_,by rw[BL],rfl,rfl,.gr _ _ _,hU,A,ids,X.set (A-st.length) ((ids.map fun i=>PV.ms true i 0 n)++R),rfl,?_,hM,hA,hB.ge⟩;rw[CJ _ _ hA]
def XQ (m:Mx):List (List PV):=m.map JB
theorem v0w (q:Ly){i:Nat}(h:i<q.length):XQ (ofM (q.take (i+1)))=XQ (ofM (q.take i))++ [JB (ofB (q.getD i []))]:=by unfold XQ ofM;rw[Di [] q h,E2,E2];rfl
theorem Y1f (q:Ly)(st:Qc)(h0:0<q.length)(h4:q.length<=4)(hr: ∀r∈q,r.length=q.length)(hw:wQ q):
 PCalls Tryz.prog 70 [.sl .no (Qu q)] st (fun r st'=> ∃A ids X,r= .ms true A 0 q.length/\st'=st++X/\MatO st' A ids q.length (XQ (ofM q))/\st.length<=A/\ ∀i∈ids,st.length<=i):=by
 refine X1v h0 ?_;refine Qh none Tryz.func70 rfl fun E=>Qe (Qb ?_);refine Qq ?_;refine Qa ?_;refine Qa ?_;refine X0 [false,false,false,true,false,false,true,true,true] 0 0
  (fun m s=> ∃i out ids cs X,m=q.length-i/\i<=q.length/\Built (st++X) st.length q.length i out ids cs (XQ (ofM (q.take i)))/\
   s=⟨[.junk,.junk,.junk,out,.junk,.junk,.sl .no (Qu q),.sc (.int .i64 q.length),.sc (.int .i64 (i:Nat))]++jk 10,[],[],st++X⟩) q.length ?_ ?_
 refine Qq ?_;refine⟨0,.sl .full [],[],[],[],oG,oG,?_,by simp⟩;rw[B9];exact Built.zero st _;rintro m s ⟨i,out,ids,cs,X,rfl,hi,hB,rfl⟩;refine Qa ?_;refine Qa ?_;refine ck ?_ ?_<;>intro h;have hlt:i<q.length:=(oT h);have e1:=V8 q i hlt;have e3:=Zd i oG;have hri:=hr _ (QE q i [] hlt);have hst:=v0w q hlt;refine Qq ?_;refine Qe (Xp ?_);refine Qe (Qb ?_);simp-dsimp only[go_sem,e1];refine⟨oG,?_⟩;refine Y0 [false,false,false,false,true] ?_;have hc:=y1e (q.getD i []) (st++X) oG oG (hw.2 i hlt);rcases hB.out with ⟨rfl,rfl⟩ | ⟨hi0,A,cap,R,rfl,_⟩;refine Qq ?_;refine hc.mono ?_;rintro res st1 ⟨k,cap',X1,rfl,rfl,hk,hrow⟩;refine Qq ?_;refine⟨GrowOK.mk_one rfl (by decide) rfl oG oG rfl rfl,fun cap2 R2 hc2 hR2=> ?_⟩;refine Qb ?_;simp-dsimp only[go_sem,e3];have hB2:=Built.first hB (Y:=st++X++X1) (c:= .gr k (q.getD 0 []).length cap') (by simp) (by rw[hri];exact .gr _ _ _) hrow hk hc2 (by rw[hR2];omega);obtain⟨X2,hX2⟩: ∃X2,st++X++X1++ [flat [PV.gr k (q.getD 0 []).length cap']++R2]=st++X2:=⟨_,by rw[BP,BP]⟩;rw[hX2] at hB2⊢;rw[<-hst] at hB2;refine⟨q.length-(0+1),oG,0+1,_,_,_,X2,rfl,oG,hB2,?_⟩;rw[show(st++X++X1).length=st.length+X.length+X1.length by simp;omega];refine Qq ?_;refine hc.mono ?_;rintro res st1 ⟨k,cap',X1,rfl,rfl,hk,hrow⟩;refine Qq ?_;obtain⟨b1,b2,b3⟩:=hB.at hi0;have gA:(st++X++X1).getD A []=(st++X).getD A []:=QV _ _ _ _ b2;refine⟨GrowOK.mk_one rfl (by decide) (by rw[gA,b3];omega) oG oG rfl rfl,fun A' cap2 st' hG=> ?_⟩;refine Qb ?_;simp-dsimp only[go_sem,e3];have hB2:=Built.grow hB hi0 (Y:=st++X++X1) (c:= .gr k (q.getD i []).length cap') (by simp) (fun x hx=>QV _ _ _ _ hx) (by rw[hri];exact .gr _ _ _) hrow hk hG;obtain⟨X2,rfl⟩: ∃X2,st'=st++X2:=by rw[BP] at hG;exact hG.app b1
 rw[<-hst] at hB2;exact⟨q.length-(i+1),oG,i+1,_,_,_,X2,rfl,oG,hB2,rfl⟩;have hge:i=q.length:=(oF h);subst hge;refine Qq ?_;refine Qb ?_;rcases hB.out with ⟨hz,rfl⟩ | ⟨hi0,A,cap,R,rfl,_⟩;omega;refine Qq ?_;rw[B0] at hB;exact⟨ids,cs,X,rfl,hB⟩
theorem jL (a:Ivl)(x:Li):JB (a::x)=Qm a++JB x:=rfl
theorem Nd : ∀(x:Li) (j:Nat) (R:Lp) (y:Ivl),j<x.length->Q4 (JB x++R) (j*6) (Qm y)=JB (x.set j y)++R
 | [],j,R,y,h=>by simp at h
 | a::x,0,R,y,h=>rfl
 | a::x,j+1,R,y,h=>by have ih:=Nd x j R y (by simpa using h);rw[jL,LD,jL,BP,BP,<-ih];unfold Q4;have e:(j+1)*6=(Qm a).length+j*6:=(by show _=6+_;omega);rw[e,List.take_length_add_append,DK,List.drop_length_add_append];simp
theorem K1x {x:Li}{o:Nat}(h:o<x.length*6){R:Lp} :((JB x++R).getD o .junk).notW=true:=by
 induction x generalizing o with
 | nil=>simp at h
 | cons a x ih=>
  rw[jL,BP];by_cases h3:o<6;have:o=0\/o=1\/o=2\/o=3\/o=4\/o=5:=oG;rcases this with rfl | rfl | rfl | rfl | rfl | rfl<;>rfl;rw[Zi _ _ _ _ (by show 6<=o;omega)];exact ih (by show o-6<_;simp at h;omega)
theorem V0o (r:Mx): ∀x∈r.map Qj,∀c∈x,c.cells.length=6/\ ∀d∈c.cells,Tame d:=by intro x hx c hc;simp only[CF] at hx;obtain⟨y,_,rfl⟩:=hx;simp only[Qj,CF] at hc;obtain⟨z,_,rfl⟩:=hc;exact⟨rfl,fun d hd=>j4 z d hd⟩
section
variable {st:Qc} {A n:Nat} {ids:List Nat} {m:Mx}
theorem MatO.idlt {rows:List (List PV)}(h:MatO st A ids n rows): ∀x∈ids,x<st.length:=fun x hx=>by obtain⟨j,hj,he⟩:=CM.1 hx;have h1:=(h.row j (by rw[<-h.lid];exact hj)).1;rw[q_a,BB hj] at h1;rw[<-he];exact h1
theorem MatO.len (h:MatO st A ids n (XQ m)):m.length=n:=by have:=h.lrow;unfold XQ at this;rwa [BR] at this
theorem MatO.rowI_at (h:MatO st A ids n (XQ m)){i:Nat}(hi:i<n):RowAt st (ids.getD i 0) (JB (m.getD i [])):=by
 have h1:=h.row i hi;have hl:=h.len;have e:(XQ m).getD i []=JB (m.getD i []):=by unfold XQ;rw[q_a,B8,q_a,BB (show i<m.length by omega)];rfl
 rwa [e] at h1
theorem MatO.tI (h:MatO st A ids n (XQ m)){i:Nat}(hi:i<n):(st.getD A []).getD i .junk= .ms true (ids.getD i 0) 0 n/\i+1<=(st.getD A []).length:=by obtain⟨R,hR⟩:=h.top.2;have hii:i<ids.length:=(by rw[h.lid];exact hi);rw[hR];refine⟨?_,by rw[BH,BR];omega⟩;rw[QV _ _ _ _ (by rw[BR];exact hii),q_a,B8,q_a,BB hii];rfl
theorem MatO.seenI (h:MatO st A ids n (XQ m))(hr: ∀r∈m,r.length=n):Seen st (Yk st A ids n 6) (.ms true A 0 n) (.sl .no (Qt m))/\(∀k,k<st.length->(Yk st A ids n 6).getD k 0<=(st.getD k []).length):=by
 have hfl:XQ m=(m.map Qj).map flat:=by unfold XQ;rw[DZ];rfl
 rw[hfl] at h;have hl: ∀x∈m.map Qj,x.length=n:=fun x hx=>by simp only[CF] at hx;obtain⟨y,hy,rfl⟩:=hx;rw[K4,hr y hy]
 refine⟨?_,h.eLe hl (V0o m)⟩;have:=h.seen (e:=Yk st A ids n 6) hl (V0o m) (by rw[IQ _ _ _ _ _ _ h.top.1,BC rfl];exact BD _) fun i hi=>by rw[IQ _ _ _ _ _ _ (h.idlt i hi),BA (fun e=>h.na (by rw[<-e];exact hi)),BC hi];exact BD _
 rw[DZ] at this;exact this
theorem MatO.noW (h:MatO st A ids n (XQ m))(hr: ∀r∈m,r.length=n): ∀k o,k<st.length->o<(Yk st A ids n 6).getD k 0->((st.getD k []).getD o .junk).notW=true:=by intro k o hk ho;rw[IQ _ _ _ _ _ _ hk] at ho;split at ho;rename_i e;subst e;rw[(h.tI ho).1];rfl;split at ho;rename_i hm;obtain⟨i,hi,he⟩:=CM.1 hm;have hin:i<n:=(by rw[<-h.lid];exact hi);have e1:ids.getD i 0=k:=(by rw[q_a,BB hi];exact he);have hrow:=h.rowI_at hin;rw[e1] at hrow;obtain⟨R,hR⟩:=hrow.2;rw[hR];exact K1x (by rw[hr _ (QE _ _ _ (by rw[h.len];exact hin))];exact ho);exact absurd ho (CD _)
theorem MatO.zero {base:Nat}(h:MatO st A ids n (XQ m))(gA:base<=A)(gi: ∀i∈ids,base<=i): ∀k,k<base->k<st.length->(Yk st A ids n 6).getD k 0=0:=fun k hk hks=>by rw[IQ _ _ _ _ _ _ hks,BA oG,BA fun hm=>by have:=gi _ hm;omega]
theorem MatO.stepI {m2:Mx}{D:Li}{i j:Nat}(h:MatO st A ids n (XQ (m2.set i D)))(hi:i<n)(hD:D.length=n)(hj:j<n)(x:Ivl):
 MatO (st.set (ids.getD i 0) (Q4 (st.getD (ids.getD i 0) []) (j*6) (Qm x))) A ids n (XQ (m2.set i (D.set j x))):=by
 have hl:m2.length=n:=by have:=h.len;rwa [BL] at this
 have hr:=h.rowI_at hi;have e:(m2.set i D).getD i []=D:=Z0 _ _ _ _ oG;rw[e] at hr;obtain⟨R,hR⟩:=hr.2;rw[hR,Nd D j R x oG];have:=h.setRow hi (JB (D.set j x)) R;unfold XQ at this⊢;rw[<-E6,List.set_set] at this;exact this
end
theorem X0u {P:Pg}{f:FuncId}{ps:Lp}{st:Qc}{R:PV}{A n:Nat}{ids:Ln}{m:Mx}(hM:MatO st A ids n (XQ m))(hr: ∀r∈m,r.length=n)(h:PCalls P f (.sl .no (Qt m)::ps) [] (fun r st'=>r=R/\st'= []))(hw:Wordy R)(ht: ∀p∈ps,Tame p):
 PCalls P f (.ms true A 0 n::ps) st (fun r st'=>r=R/\st'=st):=by
 obtain⟨s1,s2⟩:=hM.seenI hr;refine PCalls.lendS (Yk st A ids n 6) h hw rfl (fun j hj=> ?_) s2 (hM.noW hr);cases j with
 | zero=>exact s1
 | succ j=>exact .same (ht _ (QE _ _ _ (by simpa using hj)))
theorem sqR.wQ {n:Nat}{a:Ly}(h:sqR n a)(h4:n<=4):wQ a:=by refine⟨by rw[h.1];omega,fun i hi=>⟨?_,fun j hj=> ?_⟩⟩;rw[(h.row (by rw[<-h.1];exact hi)).1];omega;exact Q9 ((h.row (by rw[<-h.1];exact hi)).2 _ (QE _ _ _ hj))
theorem x0j {a:Ly}{p:Int}(h:(QW a p).2≠0):Xn a p=([],(QW a p).2):=by unfold Xn;rw[BC h]
theorem x0i {a:Ly}{p:Int}(h:(QW a p).2=0)(h2:(Z9 (QW a p).1 a p).2≠0):Xn a p=([],(Z9 (QW a p).1 a p).2):=by unfold Xn;rw[BA (fun e=>e h),BC h2]
theorem x0h {a:Ly}{p:Int}(h:(QW a p).2=0)(h2:(Z9 (QW a p).1 a p).2=0)(h3:Q6 (Z9 (QW a p).1 a p).1 oneN>=0):Xn a p=([],3):=by unfold Xn;rw[BA (fun e=>e h),BA (fun e=>e h2),BC h3]
theorem x0g {a:Ly}{p:Int}(h:(QW a p).2=0)(h2:(Z9 (QW a p).1 a p).2=0)(h3: ¬Q6 (Z9 (QW a p).1 a p).1 oneN>=0)(h4:(JC (QW a p).1 (Z9 (QW a p).1 a p).1 p).2≠0):Xn a p=([],(JC (QW a p).1 (Z9 (QW a p).1 a p).1 p).2):=by unfold Xn;rw[BA (fun e=>e h),BA (fun e=>e h2),BA h3,BC h4]
theorem x0f {a:Ly}{p:Int}(h:(QW a p).2=0)(h2:(Z9 (QW a p).1 a p).2=0)(h3: ¬Q6 (Z9 (QW a p).1 a p).1 oneN>=0)(h4:(JC (QW a p).1 (Z9 (QW a p).1 a p).1 p).2=0):Xn a p=X7 (fun i j=>ZP (ZB (QW a p).1 i j) (JC (QW a p).1 (Z9 (QW a p).1 a p).1 p).1 p) a.length:=by unfold Xn;rw[BA (fun e=>e h),BA (fun e=>e h2),BA h3,BA (fun e=>e h4)]
theorem x0m (y q:Nm)(p:Int):(ZP y q p).2=0\/(ZP y q p).2=2:=by unfold ZP;split;exact .inr rfl;exact .inl rfl
theorem x0n {y q:Nm}{p:Int}(h:(Qw 1 y q p false).2≠0\/(Qw 0 y q p true).2≠0):(ZP y q p).2=2:=by unfold ZP;rw[BC h]
theorem x0l {y q:Nm}{p:Int}(h1:(Qw 1 y q p false).2=0)(h2:(Qw 0 y q p true).2=0):ZP y q p=(⟨(Qw 1 y q p false).1,(Qw 0 y q p true).1⟩,0):=by unfold ZP;rw[BA (by rw[h1,h2];simp)]
theorem K0z {G:Nat->Nat->Ivl×Int}{n i:Nat}(hi:i<n):(JU G n).getD i []=(List.range n).map fun j=>(G i j).1:=by unfold JU;rw[q_a,B8,EB hi];rfl
theorem z1o (G:Nat->Nat->Ivl×Int)(n:Nat):(JU G n).length=n:=by simp[JU]
theorem z1p {G:Nat->Nat->Ivl×Int}{n i j:Nat}(hi:i<n)(hj:j<n):((JU G n).getD i []).getD j default=(G i j).1:=by rw[K0z hi];exact q1c _ _ _ hj
theorem V0a {G:Nat->Nat->Ivl×Int}{n i:Nat}(hi:i<n):((JU G n).getD i []).length=n:=by rw[K0z hi];simp
theorem G1m (a:Ly)(p:Int)(st:Qc)(hw:wQs a)
 (hA:PR 281 [.sl .no (Qu a),.sc (.int .i64 p)] st (.tup [.sl .no (Qu (QW a p).1),.sc (.int .i64 (QW a p).2)]))
 (hR:(QW a p).2=0->(Z9 (QW a p).1 a p).2=0->PCalls Tryz.prog 283 [.sl .no (Qt (ofM (QW a p).1)),.agg (Qf (Z9 (QW a p).1 a p).1),.sc (.int .i64 p)] [] (fun res st'=>res= .tup [.agg (Qf (KY (ofM (QW a p).1) (Z9 (QW a p).1 a p).1 p).1),.sc (.int .i64 (KY (ofM (QW a p).1) (Z9 (QW a p).1 a p).1 p).2)]/\st'= [])):PR 216 [.sl .no (Qu a),.sc (.int .i64 p)] st (.tup [.sl .no (Qt (Xn a p).1),.sc (.int .i64 (Xn a p).2)]):=by
 refine zK (Q:=fun q=>q= .tup [.sl .no (Qt (Xn a p).1),.sc (.int .i64 (Xn a p).2)]) ?_;have hbad: ∀(Z:Qc) (e:Int),Xn a p=([],e)-> ∃X q e',st++Z=st++X/\Seen (st++Z) e' (.tup [.sl .no [],.sc (.int .i64 e)]) q/\(∀k,k<st.length+Z.length->e'.getD k 0<=((st++Z).getD k []).length)/\(∀k,k<st.length->e'.getD k 0=0)/\(PV.tup [.sl .no [],.sc (.int .i64 e)]).stale=true/\q.stale=true/\q= .tup [.sl .no (Qt (Xn a p).1),.sc (.int .i64 (Xn a p).2)]:=fun Z e he=>
  ⟨Z,.tup [.sl .no [],.sc (.int .i64 e)],[],rfl,Mi (.same (.sl fun c hc=>by simp at hc)) (.sc _),fun k _=>CX _,fun k _=>rfl,rfl,rfl,by rw[he];rfl⟩
 have hbad0:=hbad [];simp only[B9,D6,B1] at hbad0;refine Ql Tryz.func216 fun E=> ?_;refine hA.w ?_;rintro st' rfl;by_cases h1:(QW a p).2=0;rotate_left;have g1:((QW a p).2 !=0)=true:=(by simpa using h1);simp-dsimp only[go_sem,g1];exact hbad0 _ (x0j h1);have g1:((QW a p).2 !=0)=false:=(by simpa using h1);obtain⟨a1,hp,a3,a4,a5,a6, -, -⟩:=Q2w h1;have hb2:=x0i (p:=p) h1;have hb3:=x0h (p:=p) h1;have hb4:=x0g (p:=p) h1;have hgo:=x0f (p:=p) h1;simp-dsimp only[go_sem,g1];generalize (QW a p).1=X at*
 have hXl:=a3.1;have wX:=a3.wQ a6;have wa:=a4.wQ a6;have hrX: ∀r∈ofM X,r.length=a.length:=fun r hr=>by unfold ofM ofB at hr;simp only[CF] at hr;obtain⟨x,hx,rfl⟩:=hr;rw[BR];exact(a3.2 x hx).1
 have cOf:=Y1f X st' oG oG (fun r hr=>by rw[hXl];exact(a3.2 r hr).1) wX;rw[hXl] at cOf;refine cOf.mono ?_;rintro res st1 ⟨A,ids,Z,rfl,rfl,hM,gA,gi⟩;refine Qq ?_;refine(v5 a _ wa).plain.Q ?_;have cR:=G1n (ofM X) (ofM a) p [] (kQ wX) (kQ wa);rw[y0a] at cR;refine(X0u hM hrX cR (.tup _ fun c hc=> ?_) fun q hq=> ?_).mono ?_;rcases D8.1 hc with rfl | hc;exact .agg _ (qD _);rw[C0.1 hc];exact .sc _;rcases D8.1 hq with rfl | hq;exact Dg _ _;rw[C0.1 hq];exact .sc _;rintro res st1 ⟨rfl,rfl⟩;by_cases h2:(Z9 X a p).2=0;rotate_left;have g2:((Z9 X a p).2 !=0)=true:=(by simpa using h2);simp-dsimp only[go_sem,g2];exact hbad Z _ (hb2 h2);have g2:((Z9 X a p).2 !=0)=false:=(by simpa using h2);have hb3:=hb3 h2;have hb4:=hb4 h2;have hgo:=hgo h2;have hro:=w0z a3 a4 a5 a6 h2;have hre:=hro.2.1;have he0:=hro.1;simp-dsimp only[go_sem,g2];clear hb2 cR cOf hro;generalize (Z9 X a p).1=e at*
 have wre:=Q9 hre;have w1:wN oneN:=Q9 kN;unfold wN at wre w1;refine Q8 106 (.step 0 [] (.step 1 [0] (.step 2 [] (.step 3 [] (.done))))) ?_;refine Qq ?_;refine(UB _).Q ?_;refine(VW e oneN _ oG oG).Q ?_;refine ck ?_ ?_<;>intro h3;have h3:=q_b h3;refine Qq ?_;exact hbad Z _ (hb3 h3);have h3:=q_c h3;have he1:qN e<1:=by rw[yi hre kN] at h3;have:=cmpN_lt.1 (Int.not_le.1 h3);rwa [Ip] at this
 have hb4:=hb4 h3;have hgo:=hgo h3;have cD:=hR h1 h2;rw[Q1b] at cD;refine Qq ?_;refine(X0u hM hrX cD (.tup _ fun c hc=> ?_) fun q hq=> ?_).mono ?_;rcases D8.1 hc with rfl | hc;exact .agg _ (qD _);rw[C0.1 hc];exact .sc _;rcases D8.1 hq with rfl | hq;exact .agg fun c hc=>HT e c hc;rw[C0.1 hq];exact .sc _;rintro res st1 ⟨rfl,rfl⟩;by_cases h4:(JC X e p).2=0;rotate_left;have g4:((JC X e p).2 !=0)=true:=(by simpa using h4);simp-dsimp only[go_sem,g4];exact hbad Z _ (hb4 h4);have g4:((JC X e p).2 !=0)=false:=(by simpa using h4);have hgo:=hgo h4;obtain⟨hq0,hqr⟩:=Q1a hp he0 he1 h4;simp-dsimp only[go_sem,g4];clear hb3 hb4 cD;generalize (JC X e p).1=q at*
 have wq:=Q9 hqr;have hGe:=fun i j=>x0m (ZB X i j) q p;have lR:(ofM X).length=a.length:=(by unfold ofM;rw[BR];exact hXl);have lS:=z1o (fun i j=>ZP (ZB X i j) q p) a.length;have hbad2: ∀(V:Qc) i j,i<a.length->j<a.length->(ZP (ZB X i j) q p).2=2->_:=fun V i j hi hj h=>hbad V 2 (by rw[hgo];exact z1s (by decide) hGe hi hj h);refine Q1 ([false,true,false,false,false,false,false,false,true,false,true]++rF 43++ [true,true,true]) 2 0
  (fun m s=> ∃(i:Nat) (V:Qc) (cur:Mx),cur=(JU (fun i j=>ZP (ZB X i j) q p) a.length).take i++(ofM X).drop i/\m=a.length-i/\i<=a.length/\MatO (st'++V) A ids a.length (XQ cur)/\(∀i',i'<i-> ∀j,j<a.length->(ZP (ZB X i' j) q p).2=0)/\
   s=⟨[.junk,.sc (.int .i64 p),.junk,.junk,.junk,.junk,.junk,.junk,.ms true A 0 a.length,.junk,.lp 1 0]++jk 43++ [.sl .no (Qu X),.sc (.int .i64 a.length),.sc (.int .i64 (i:Nat))]++jk 49,[Qf e,Qf q],[],st'++V⟩) a.length ?_ ?_
 simp-dsimp only[go_sem,hXl];exact⟨0,Z,oG,oG,by simpa using hM,fun i' hi=>oG,rfl⟩;clear hM;rintro m s ⟨i,V,cur,hcur,rfl,hi,hM,hok,rfl⟩;refine QS ?_ ?_<;>intro h5;rotate_left;have hge:i=a.length:=(oF h5);subst hge;have hcS:cur=JU (fun i j=>ZP (ZB X i j) q p) a.length:=(by rw[hcur,BF oG,C6 oG,B9]);have hfin:=z1r (G:=fun i j=>ZP (ZB X i j) q p) fun i j hi hj=>hok i hi j hj;rw[<-hgo,<-hcS] at hfin;refine Qp ?_;obtain⟨w1,w2⟩:=hM.seenI fun r hr=>by obtain⟨i,hi,rfl⟩:=CM.1 hr;have hl:=hM.len;have:cur.getD i []=cur[i]:=(by rw[q_a,BB hi];rfl);rw[<-this,hcS];exact V0a oG
 exact⟨V,_,_,rfl,Mi w1 (.sc _),fun k hk=>w2 k (by rw[BH];exact hk),fun k hk=>hM.zero gA gi k hk (by rw[BH];omega),rfl,rfl,by rw[hfin]⟩;have hlt:i<a.length:=(oT h5);have x2:=Zd i oG;have eQ:=V8 X i oG;have hrl:=(a3.row hlt).1;have pI:=Tg ([]:Li) (JU (fun i j=>ZP (ZB X i j) q p) a.length) (ofM X) oG (show i<(ofM X).length by omega);rw[<-hcur] at pI;have hRi:(ofM X).getD i []=ofB (X.getD i []):=kR oG;have lRi:((ofM X).getD i []).length=a.length:=(by rw[hRi];unfold ofB;rw[BR];exact hrl);have lSi:=V0a (G:=fun i j=>ZP (ZB X i j) q p) hlt;have hcl:=hM.len;simp-dsimp only[go_sem,eQ];refine⟨oG,?_⟩;refine Q1 ([false,true,false,false,false,false,false,false,true,false,true,true]++rF 42++ [true,true,true,false,false,false,false,true,true,true]) 2 0
  (fun m s=> ∃(j:Nat) (V:Qc) (D:Li),D=((JU (fun i j=>ZP (ZB X i j) q p) a.length).getD i []).take j++((ofM X).getD i []).drop j/\m=a.length-j/\j<=a.length/\MatO (st'++V) A ids a.length (XQ (cur.set i D))/\(∀j',j'<j->(ZP (ZB X i j') q p).2=0)/\
   s=⟨[.junk,.sc (.int .i64 p),.junk,.junk,.junk,.junk,.junk,.junk,.ms true A 0 a.length,.junk,.lp 1 0,.sc (.int .i64 (i:Nat))]++jk 42++ [.sl .no (Qu X),.sc (.int .i64 a.length),.sc (.int .i64 (i:Nat)),.junk,.junk,.junk,.junk,.sl .no (Q5 (X.getD i [])),.sc (.int .i64 a.length),.sc (.int .i64 (j:Nat))]++jk 42,[Qf e,Qf q],[],st'++V⟩) a.length ?_ ?_
 simp-dsimp only[go_sem,hrl];refine⟨0,V,oG,oG,?_,fun j' hj=>oG,rfl⟩;rw[List.take_zero,CQ,EM,<-pI.2.1];have:cur.set i (cur.getD i [])=cur:=by rw[q_a,BB (show i<cur.length by omega)];exact List.set_getElem_self _
 rw[this];exact hM;clear hM;rintro m s ⟨j,V,D,hD,rfl,hj,hM,hokj,rfl⟩;refine QS ?_ ?_<;>intro h6;have hjn:j<a.length:=(oT h6);have x3:=Zd j oG;have eN:=JV (X.getD i []) j oG;have pJ:=Tg (default:Ivl) ((JU (fun i j=>ZP (ZB X i j) q p) a.length).getD i []) ((ofM X).getD i []) oG (show j<((ofM X).getD i []).length by omega);rw[<-hD,z1p hlt hjn] at pJ;have hyr:=(a3.row hlt).2 _ (QE (X.getD i []) j default oG);have wy:=Q9 hyr;have hbj:=hbad2 V i j hlt hjn;have hok1:(X.getD i []).getD j default=ZB X i j:=rfl;have sb:=x0n (y:=(X.getD i []).getD j default) (q:=q) (p:=p);have sg:=x0l (y:=(X.getD i []).getD j default) (q:=q) (p:=p);have e1:=z8 (k:=1) (up:=false) hyr hqr hp;have e0:=z8 (k:=0) (up:=true) hyr hqr hp;have wlo:=Q9 (KX 1 ((X.getD i []).getD j default) q p false);have whi:=Q9 (KX 0 ((X.getD i []).getD j default) q p true);simp-dsimp only[go_sem,eN];refine⟨oG,?_⟩;refine(zt _ q p false _ wy wq).q ?_;by_cases f1:(Qw 1 ((X.getD i []).getD j default) q p false).2=0;have k1:((Qw 1 ((X.getD i []).getD j default) q p false).2 !=0)=false:=(by simpa using f1);simp-dsimp only[go_sem,k1];refine(jP _ q p true _ wy wq).q ?_;by_cases f0:(Qw 0 ((X.getD i []).getD j default) q p true).2=0;have k0:((Qw 0 ((X.getD i []).getD j default) q p true).2 !=0)=false:=(by simpa using f0);have hmk:VX (Qw 1 ((X.getD i []).getD j default) q p false).1 (Qw 0 ((X.getD i []).getD j default) q p true).1=(⟨(Qw 1 ((X.getD i []).getD j default) q p false).1,(Qw 0 ((X.getD i []).getD j default) q p true).1⟩,0):=by unfold VX;rw[BC (x0d hq0 f1 f0)]
 have cM:=xk (Qw 1 ((X.getD i []).getD j default) q p false).1 (Qw 0 ((X.getD i []).getD j default) q p true).1 (st'++V) wlo whi;rw[hmk] at cM;simp-dsimp only[go_sem,k0];have t:=hM.tI hlt;have t1:=t.1;have t2:=t.2;refine Q8 106 (Qk [0,1,2,3,4,5,6] (.step 7 [3] (Qk [8,9,10,11,12,13] .done))) ?_;simp-dsimp only[go_sem,t1];refine⟨⟨oG,hlt⟩,t2,?_⟩;refine cM.q ?_;simp-dsimp only[go_sem,x3];have lD:D.length=a.length:=(by rw[pJ.1];exact lRi);have hrow:=hM.rowI_at hlt;have eD:(cur.set i D).getD i []=D:=Z0 _ _ _ _ (by rw[pI.1];omega);rw[eD] at hrow;have hlen:j*6+6<=((st'++V).getD (ids.getD i 0) []).length:=by obtain⟨R,hR⟩:=hrow.2;rw[hR,BH,Ng,lD];omega
 have hsg:=sg f1 f0;rw[hok1] at hsg;have hstp:=hM.stepI hlt lD hjn (ZP (ZB X i j) q p).1;rw[pJ.2.2,hsg] at hstp;have gid:st'.length<=ids.getD i 0:=gi _ (Y9 (by rw[hM.lid];exact hlt));rw[CJ _ _ gid] at hstp;refine⟨⟨t2,t1.symm⟩,⟨oG,hjn⟩,⟨hlen,oG⟩,a.length-(j+1),oG,j+1,_,rfl,oG,hstp,fun j' hj'=> ?_,by rw[<-CJ _ _ gid];rfl⟩;by_cases ej:j'=j;subst ej;rw[hsg];exact hokj j' oG;have k0:((Qw 0 ((X.getD i []).getD j default) q p true).2 !=0)=true:=(by simpa using f0);have hE:(Qw 0 ((X.getD i []).getD j default) q p true).2=2:=e0.resolve_left f0;simp-dsimp only[go_sem,k0];rw[hE];exact hbj (sb (.inr f0));have k1:((Qw 1 ((X.getD i []).getD j default) q p false).2 !=0)=true:=(by simpa using f1);have hE:(Qw 1 ((X.getD i []).getD j default) q p false).2=2:=e1.resolve_left f1;simp-dsimp only[go_sem,k1];rw[hE];exact hbj (sb (.inl f1));have hge:j=a.length:=(oF h6);subst hge;refine Qq ?_;have hDS:D=(JU (fun i j=>ZP (ZB X i j) q p) a.length).getD i []:=(by rw[hD,BF oG,C6 oG,B9]);refine Qb ?_;simp-dsimp only[go_sem,x2];refine⟨a.length-(i+1),oG,i+1,V,?_⟩;rw[<-pI.2.2,<-hDS];refine⟨rfl,oG,hM,fun i' hi'=> ?_,rfl⟩;by_cases ei:i'=i;subst ei;exact hokj;exact hok i' oG
structure Sz where
 h:Nm
 a:List Ivl
 first:Bool
instance : Inhabited Sz:=⟨⟨default,[],false⟩⟩
def Xo (p:Pb)(s:Sx):Bool:=Ji p&&decide (0<=s.idx)&&decide (s.idx<=p.budget)&&(Qg s.t&& !s.t.neg&&decide (Q6 s.t p.until'<=0))&&(Qg s.h&&decide (Q6 p.least s.h<=0)&&decide (Q6 s.h p.most<=0))&&Z4 s.f&&decide (s.f.m.length=p.box.length)
def JX (p:Pb)(s:Sx):Bool:=Xo p s&&decide (Q6 s.t p.until'=0)
def Ur (p:Pb)(x:List Ivl):Nat->Nm->Bool->Sz×Int
 | 0,_,_=>(default,7)
 | n+1,h,b=>if (VE p.fld x h p.prec).2=true then(⟨h,(VE p.fld x h p.prec).1,b⟩,0) else
  if (QQ h (-1)).2≠0 then(default,(QQ h (-1)).2) else if Q6 (QQ h (-1)).1 p.least<0 then(default,7) else Ur p x n (QQ h (-1)).1 false
def YE (p:Pb)(s:Sx):Nm:=if Q6 s.h (XC 1 p.until' s.t).1<0 then s.h else(XC 1 p.until' s.t).1
def Kb (K:Nat)(p:Pb)(s:Sx)(x:List Ivl):Sz×Int:=if (XC 1 p.until' s.t).2≠0 then(default,(XC 1 p.until' s.t).2) else Ur p x K (YE p s) true
def Wv (l far:List (List Ivl))(k:Nat):List (List Ivl):=(List.range l.length).map fun i=>l.getD i []++ [(far.getD i []).getD k default]
def qc (p:Pb)(t:Sz)(l far:List (List Ivl)×Int):List Ivl×Int:=
 if l.2≠0 then([],l.2) else if far.2≠0 then([],far.2) else Yw (Wv l.1 far.1 p.order.toNat) ⟨t.h,t.h⟩ p.prec
def Wj (p:Pb)(m:List Nm)(t:Sz):List Ivl×Int:=qc p t (Xr p.fld (ofB m) (p.order-1) p.prec) (Xr p.fld t.a p.order p.prec)
def El (p:Pb)(t:Sz)(l:List Mx×Int):Mx×Int:=if l.2≠0 then([],l.2) else Ul l.1 ⟨t.h,t.h⟩ p.prec
def VN (p:Pb)(x:List Ivl)(t:Sz):Mx×Int:=El p t (Gv p.fld x (p.order-1) p.prec)
def Wr (p:Pb)(h:Nm):Nm:=if Q6 h p.least<0 then p.least else if 0<Q6 h p.most then p.most else h
def Yr (p:Pb)(t:Sz):Nm×Int:=if t.first=true then(if (QQ t.h 1).2≠0 then(default,(QQ t.h 1).2) else(Wr p (QQ t.h 1).1,0)) else(Wr p t.h,0)
def y9 (s:Sx)(f:Fm)(to:Nm)(h:Nm×Int):Sx×Int:=if h.2≠0 then(default,h.2) else(⟨s.idx+1,to,h.1,f⟩,0)
def yB (p:Pb)(s:Sx)(t:Sz)(f:Fm)(to:Nm×Int):Sx×Int:=if to.2≠0 then(default,to.2) else y9 s f to.1 (Yr p t)
def yC (p:Pb)(s:Sx)(t:Sz)(f:Fm×Int):Sx×Int:=if f.2≠0 then(default,f.2) else yB p s t f.1 (XC 0 s.t t.h)
def yA (p:Pb)(s:Sx)(t:Sz)(z:List Ivl)(v:Mx×Int):Sx×Int:=if v.2≠0 then(default,v.2) else yC p s t (KN s.f z v.1 p.prec)
def y8 (p:Pb)(s:Sx)(x:List Ivl)(t:Sz)(z:List Ivl×Int):Sx×Int:=if z.2≠0 then(default,z.2) else yA p s t z.1 (VN p x t)
def Ym (p:Pb)(s:Sx)(x:List Ivl)(t:Sz):Sx×Int:=y8 p s x t (Wj p s.f.m t)
def Uo (e:Int):Sg×Sx×Int:=(default,default,e)
def Z0i (s:Sx)(t:Sz)(n:Sx×Int):Sg×Sx×Int:=if n.2≠0 then Uo n.2 else(⟨n.1.idx,n.1.idx,s.t,n.1.t,t.a⟩,n.1,0)
def Z0f (p:Pb)(s:Sx)(x:List Ivl)(t:Sz×Int):Sg×Sx×Int:=if t.2≠0 then Uo t.2 else Z0i s t.1 (Ym p s x t.1)
def Z0g (K:Nat)(p:Pb)(s:Sx)(x:List Ivl×Int):Sg×Sx×Int:=if x.2≠0 then Uo x.2 else Z0f p s x.1 (Kb K p s x.1)
def UF (K:Nat)(p:Pb)(s:Sx):Sg×Sx×Int:=
 if Xo p s=false then Uo 1 else if JX p s=true then Uo 9 else if s.idx=p.budget then Uo 8 else Z0g K p s (K1 s.f p.prec)
theorem rightPb_parts {p:Pb} :Ji p=true<->ZY p.fld=true/\rightB p.box=true/\p.box.length=p.fld.length/\Qg p.until'=true/\Qg p.most=true/\Qg p.least=true/\0<Q6 p.until' default/\0<Q6 p.least default/\0<=Q6 p.most p.least/\Qv p.prec=true/\2<=p.order/\p.order<=10/\1<=p.budget/\p.budget<=4096:=by unfold Ji;simp only[q_i,BN,and_assoc]
theorem rightSt_parts {p:Pb}{s:Sx} :Xo p s=true<->Ji p=true/\0<=s.idx/\s.idx<=p.budget/\(Qg s.t=true/\s.t.neg=false/\Q6 s.t p.until'<=0)/\(Qg s.h=true/\Q6 p.least s.h<=0/\Q6 s.h p.most<=0)/\Z4 s.f=true/\s.f.m.length=p.box.length:=by unfold Xo;simp only[q_i,BN,EK,and_assoc]
theorem HW (k:Nat)(a b:Nm):Qg (XC k a b).1=true:=by unfold XC;split;rename_i h;exact Kt (Wm (qj k (Jd h.1) (Jd h.2)));exact KW
theorem XW :Qg (default:Nm)=true:=by decide
theorem J0r {h:Nm}(e:(QQ h (-1)).2=0):qN (QQ h (-1)).1*2=qN h:=by have:=(zn (x:=h) (k:=1) e).2;rwa [show p2 ((1:Nat):Int)=2 from zM] at this
theorem IW {x y:Nm}(hx:Qg x=true)(hy:Qg y=true):Q6 x y<0<->qN x<qN y:=by rw[Gc hx hy];exact cmpN_lt
theorem Gd {x y:Nm}(hx:Qg x=true)(hy:Qg y=true):Q6 x y<=0<->qN x<=qN y:=by rw[Gc hx hy];exact cmpN_le
theorem xJ {x y:Nm}(hx:Qg x=true)(hy:Qg y=true):Q6 y x= -Q6 x y:=by rw[Gc hx hy,Gc hy hx];exact H5 x y
theorem yj {x y:Nm}(hx:Qg x=true)(hy:Qg y=true):0<Q6 x y<->qN y<qN x:=by have:=IW hy hx;have:=xJ hx hy;constructor;intro h;exact(IW hy hx).1 oG;intro h;have:=(IW hy hx).2 h;omega
def wD (p:Pb)(K:Nat):Prop:=qN p.most<qN p.least*p2 (K:Int)
theorem Y0g {x:Nm}(hx:Qg x=true)(hw:x.w≠ [])(k:Int):QF (⟨x.neg,Qd x.w,x.exp+k⟩:Vl):=by rcases Jd hx with h1 | h1;exact .inl h1;exact absurd ((Wp hx).1 (show Qd x.w=0 from B4 Vl.m h1)) hw
theorem Rh (x:Nm)(k:Int):qV ⟨x.neg,Qd x.w,x.exp+k⟩=qN x*p2 k:=by unfold qV qN qM;show((QK ⟨x.neg,Qd x.w,x.exp+k⟩:Int):Rat)*p2 (x.exp+k)=((Z6 x:Int):Rat)*p2 x.exp*p2 k;rw[Rat.mul_assoc,<-Y3];congr 2
theorem V1e {x:Nm}(hw:x.w= []):qN x=0:=kn (by rw[hw];rfl)
theorem Cx {x:Nm}(hx:Qg x=true)(e:(QQ x 1).2=0):qN (QQ x 1).1=qN x*2:=by unfold QQ at e⊢;rw[BC hx] at e⊢;split at e;rename_i hw;rw[BC hw];show qN x=_;rw[V1e hw,Rat.zero_mul];rename_i hw;rw[BA hw];rw[BA oG] at e⊢;rw[(JQ (Y0g hx hw 1) e).2,Rh,zM]
theorem Mj {x:Nm}{k:Int}(hx:Qg x=true)(e:(QQ x k).2≠0):(QQ x k).1=default:=by unfold QQ at e⊢;rw[BC hx] at e⊢;split at e;exact absurd rfl e;rename_i hw;rw[BA hw];split at e;rename_i h2;rw[BC h2];rename_i h2;rw[BA h2];unfold QI at e⊢;split at e;exact absurd rfl e;rename_i h3;rw[BA h3];split at e;rename_i h4;rw[BC h4];exact absurd rfl e
theorem q0x {q:Nat}(h0:0<q)(h:q<=64):(QQ (tq q) 1).2=0:=by have hx:=Ux q;obtain⟨⟨z,hz,hz2⟩,hl2⟩:=HS h0 h;unfold QQ;rw[BC hx];split;rfl;rename_i hw;rw[BA oG];refine YB (L:=3) (U:=7) (Y0g hx hw 1) ?_ oG;rw[Rh,zM,hz];refine⟨z*2,by unfold qM;grind,?_⟩;rw[Int.natAbs_mul,show Int.natAbs 2=2 from rfl];omega
def badSt (p:Pb)(t:Sx)(b:Prop):Prop:=wPb p/\wSx t/\(Xo p t=false\/JX p t=true\/t.idx=p.budget)/\(b->Xo p t=false)
theorem badSt.mk' {p:Pb}{t:Sx}{b:Prop}(wp:wPb p)(wt:wSx t)(h:Xo p t=true->False):badSt p t b:=by
 have e:Xo p t=false:=by cases e:Xo p t;rfl;exact(h e).elim
 exact⟨wp,wt,.inl e,fun _=>e⟩
section
variable {p:Pb} {t:Sx} {b:Prop} {n:Nat} (hp:okPb n p) (wp:wPb p) (wt:wSx t)
include wp wt
theorem qq :badSt p ⟨-1,t.t,t.h,t.f⟩ b:= .mk' wp wt fun e=>by have h:(0:Int)<= -1:=(rightSt_parts.1 e).2.1;omega
theorem Q2n :badSt p ⟨p.budget+1,t.t,t.h,t.f⟩ b:= .mk' wp wt fun e=>by have h:p.budget+1<=p.budget:=(rightSt_parts.1 e).2.2.1;omega
theorem Q2i :badSt p ⟨t.idx,⟨true,0,[1]⟩,t.h,t.f⟩ b:= .mk' wp ⟨by show([1]:Lu).length<=_;simp,wt.2⟩ fun e=>by have h:true=false:=(rightSt_parts.1 e).2.2.2.1.2.1;cases h
include hp in
theorem Q2h :badSt p ⟨t.idx,(QQ p.until' 1).1,t.h,t.f⟩ b:= .mk' wp ⟨Q9 (WU _ _),wt.2⟩ fun e=>by obtain⟨_,_,_,⟨q,q1,q2,h4⟩,_⟩:=hp;have h:=(rightSt_parts.1 e).2.2.2.1;have hr:Qg p.until'=true:=(by rw[h4];exact Ux q);have h2:=(Gd h.1 hr).1 h.2.2;have h3:(QQ p.until' 1).2=0:=(by rw[h4];exact q0x q1 q2);have h5:=Cx hr h3;have h6:=(HS q1 q2).2;rw[<-h4] at h6;have h2:qN (QQ p.until' 1).1<=qN p.until':=h2;grind
include hp in
theorem Q2g :badSt p ⟨t.idx,t.t,(QQ p.least (-1)).1,t.f⟩ b:= .mk' wp ⟨wt.1,Q9 (WU _ _),wt.2.2⟩ fun e=>by obtain⟨_,_,_,_,h5,h6,h7,h8,_⟩:=hp;have h:=(rightSt_parts.1 e).2.2.2.2.1;have h2:qN p.least<=qN (QQ p.least (-1)).1:=(Gd h6 h.1).1 h.2.1;by_cases h3:(QQ p.least (-1)).2=0;have:=J0r h3;grind;rw[Mj h6 h3,Kw] at h2;grind
include hp in
theorem Q2f :badSt p ⟨t.idx,t.t,(QQ p.most 1).1,t.f⟩ b:= .mk' wp ⟨wt.1,Q9 (WU _ _),wt.2.2⟩ fun e=>by obtain⟨_,_,_,_,h5,h6,h7,h8,_⟩:=hp;have h:=(rightSt_parts.1 e).2.2.2.2.1;have h2:qN (QQ p.most 1).1<=qN p.most:=(Gd h.1 h5).1 h.2.2;have h9:qN p.least<=qN (QQ p.most 1).1:=(Gd h6 h.1).1 h.2.1;by_cases h3:(QQ p.most 1).2=0;have:=Cx h5 h3;grind;rw[Mj h5 h3,Kw] at h9;grind
theorem Q2e :badSt p ⟨t.idx,t.t,⟨false,0,[2]⟩,t.f⟩ b:= .mk' wp ⟨wt.1,by show([2]:Lu).length<=_;simp,wt.2.2⟩ fun e=>by have h:Qg ⟨false,0,[2]⟩=true:=(rightSt_parts.1 e).2.2.2.2.1.1;revert h;decide
variable (hf:Z4 t.f=true) (hn:t.f.m.length=n)
include hp hf hn
theorem Q2d :badSt p ⟨t.idx,t.t,t.h,⟨t.f.m++ [default],t.f.a,t.f.r⟩⟩ b:= .mk' wp ⟨wt.1,wt.2.1,⟨by
 have:=Kv hf;rw[BH];show t.f.m.length+1<=_;omega,fun i hi=>by
 by_cases h:i<t.f.m.length;show wN ((t.f.m++ [default]).getD i default);rw[QV _ _ _ _ h];exact wt.2.2.1.2 i h;have e:(t.f.m++ [default]).getD i default=default:=by rw[Zi _ _ _ _ oG];have:i-t.f.m.length=0:=(by have hi:i<(t.f.m++ [default]).length:=hi;rw[BH] at hi;have:i<t.f.m.length+1:=hi;omega);rw[this];rfl
 show wN ((t.f.m++ [default]).getD i default);rw[e];exact Q9 XW⟩,wt.2.2.2⟩ fun e=>by
 have h:(t.f.m++ [default]).length=p.box.length:=(rightSt_parts.1 e).2.2.2.2.2.2;rw[BH,hp.2.1] at h;have:t.f.m.length+1=n:=h;omega
theorem Q2c :badSt p ⟨t.idx,t.t,t.h,⟨t.f.m,t.f.a,t.f.r.set 0 ⟨⟨false,0,[1]⟩,⟨false,0,[1]⟩⟩⟩⟩ b:= .mk' wp ⟨wt.1,wt.2.1,wt.2.2.1,wt.2.2.2.1,⟨by rw[BL];exact wt.2.2.2.2.1,fun i hi=>by
 rw[BL] at hi;show wI ((t.f.r.set 0 ⟨⟨false,0,[1]⟩,⟨false,0,[1]⟩⟩).getD i default);rw[vT _ _ _ _ _ hi];split;exact⟨Q9 (by decide),Q9 (by decide)⟩;exact wt.2.2.2.2.2 i hi⟩⟩ fun e=>by
 have h:=(rightSt_parts.1 e).2.2.2.2.2.1;have hl:=Kv hf;unfold Z4 at h;simp only[q_i] at h;have h:=List.all_eq_true.1 h.2 ⟨⟨false,0,[1]⟩,⟨false,0,[1]⟩⟩ (by refine List.mem_of_getElem? (i:=0) ?_;rw[FW oG]);revert h;decide
theorem Q2b :badSt p ⟨t.idx,t.t,t.h,⟨t.f.m,t.f.a.set 0 [],t.f.r⟩⟩ b:= .mk' wp ⟨wt.1,wt.2.1,wt.2.2.1,⟨by rw[BL];exact wt.2.2.2.1.1,fun i hi=>by
 rw[BL] at hi;show WM ((t.f.a.set 0 []).getD i []);rw[vT _ _ _ _ _ hi];split;exact⟨by simp,fun i hi=>absurd hi (CD i)⟩;exact wt.2.2.2.1.2 i hi⟩,wt.2.2.2.2⟩ fun e=>by
 have h:=(rightSt_parts.1 e).2.2.2.2.2.1;have hl:=Kv hf;have h:=(Kv h).2.2.2.2.2.1;have h:=List.all_eq_true.1 h [] (by refine List.mem_of_getElem? (i:=0) ?_;show(t.f.a.set 0 [])[0]?=_;rw[FW oG]);unfold Zy at h;simp only[q_i,BN] at h;have h:0=t.f.m.length:=h.2;omega
omit hf hn in
theorem Q2m {f:Fm}(wf:wFm f)(hl:f.m.length=1+n):badSt p ⟨t.idx,t.t,t.h,f⟩ b:= .mk' wp ⟨wt.1,wt.2.1,wf⟩ fun e=>by have h:f.m.length=p.box.length:=(rightSt_parts.1 e).2.2.2.2.2.2;rw[hp.2.1] at h;omega
omit hp hf hn in
theorem Q2l :badSt ⟨p.fld,p.box,p.until',p.most,p.least,p.prec,0,p.budget⟩ t b:= .mk' wp wt fun e=>by have h:(2:Int)<=0:=(rightPb_parts.1 (rightSt_parts.1 e).1).2.2.2.2.2.2.2.2.2.2.1;omega
omit hf hn in
theorem Q2k (hb: ¬b):badSt p ⟨t.idx,p.until',t.h,t.f⟩ b:=⟨wp,⟨wp.2.2.1,wt.2⟩,by obtain⟨_,_,_,⟨q,q1,q2,h4⟩,_⟩:=hp;have hr:Qg p.until'=true:=(by rw[h4];exact Ux q);cases e:Xo p ⟨t.idx,p.until',t.h,t.f⟩;exact .inl rfl;refine .inr (.inl ?_);unfold JX;rw[e];show(true&&decide (Q6 p.until' p.until'=0))=true;rw[show Q6 p.until' p.until'=0 by have:=xJ hr hr;omega];rfl,fun h=>(hb h).elim⟩
omit hp hf hn in
theorem Q2j (hb: ¬b):badSt p ⟨p.budget,t.t,t.h,t.f⟩ b:=⟨wp,wt,.inr (.inr rfl),fun h=>(hb h).elim⟩
end
end Go.Pv
end
