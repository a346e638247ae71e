/- Walk. -/
import Derived.Test.YtfoiagbimnghjaaGreatDoorZAE
set_option linter.all false
section
namespace Go.Pv
def Xp (v:Vl):Nat->Vl
 | 0=>Zf false 1 0
 | k+1=>byV (Xp v k) v
def Kb (q:Rat):Nat->Rat
 | 0=>1
 | k+1=>Kb q k*q
theorem Yp (v:Vl): ∀k,qV (Xp v k)=Kb (qV v) k
 | 0=>y0k
 | k+1=>by rw[Xp,Wh,Yp v k];rfl
theorem Wz {v:Vl}(h:QI v): ∀k,QI (Xp v k)
 | 0=>IZ _ _ _
 | k+1=>yr (Wz h k) h
theorem kz (q:Rat): ∀k,0<=Kb q (2*k)
 | 0=>by show(0:Rat)<=1;decide
 | k+1=>by
  have e:Kb q (2*(k+1))=Kb q (2*k)*(q*q):=by show Kb q (2*k)*q*q=_;rw[Rat.mul_assoc]
  rw[e];have h:0<=q*q:=by by_cases c:0<=q;exact JI c c;have:=JI (a:= -q) (b:= -q) (by grind) (by grind);grind
  exact JI (kz q k) h
theorem Q1s : ∀k,0<k->Kb 0 k=0
 | k+1,_=>by rw[Kb,Rat.mul_zero]
def Ha (a:Ivl)(k:Nat):Vl:=
 if 0<k/\k % 2=0/\Kf a default=true then⟨false,0,0⟩ else if Kc (Xp (ofN a.lo) k) (Xp (ofN a.hi) k)>0 then Xp (ofN a.hi) k else Xp (ofN a.lo) k
def Hb (a:Ivl)(k:Nat):Vl:=if Kc (Xp (ofN a.lo) k) (Xp (ofN a.hi) k)>0 then Xp (ofN a.lo) k else Xp (ofN a.hi) k
def J4 (a:Ivl)(k p:Int):Ivl×Int:=
 if Qp a=true/\0<=k/\k<=8/\Qt p=true then XN (QX (Ha a k.toNat) p.toNat false) (QX (Hb a k.toNat) p.toNat true) else(default,1)
theorem w1u {a:Ivl}(h:Qp a=true)(k:Nat):QI (Ha a k):=by obtain⟨c1,c2⟩:=Jt h;unfold Ha;split;exact .inr rfl;split;exact Wz c2 k;exact Wz c1 k
theorem w1v {a:Ivl}(h:Qp a=true)(k:Nat):QI (Hb a k):=by obtain⟨c1,c2⟩:=Jt h;unfold Hb;split;exact Wz c1 k;exact Wz c2 k
theorem Ow {a:Ivl}{k:Nat}{x y:Nm}(h:Qp a=true)(hx:qN x=Kb (qN a.lo) k)(hy:qN y=Kb (qN a.hi) k):ofX (Z9 x y)=(if Kc (Xp (ofN a.lo) k) (Xp (ofN a.hi) k)>0 then Xp (ofN a.hi) k else Xp (ofN a.lo) k)/\ofX (Zv x y)=Hb a k:=by obtain⟨c1,c2⟩:=Jt h;have e1:ofX x=Xp (ofN a.lo) k:=Vp (Wz c1 k) (by rw[Yp,Zb,hx]);have e2:ofX y=Xp (ofN a.hi) k:=Vp (Wz c2 k) (by rw[Yp,Zb,hy]);have hq1:qV (Xp (ofN a.lo) k)=qN x:=(by rw[Yp,Zb,hx]);have hq2:qV (Xp (ofN a.hi) k)=qN y:=(by rw[Yp,Zb,hy]);have hg:=Sj (Xp (ofN a.lo) k) (Xp (ofN a.hi) k);rw[hq1,hq2] at hg;unfold Hb Z9 Zv;refine⟨?_,?_⟩;by_cases c:qN y<qN x;rw[BC (cmpN_lt.2 c),BC (hg.2 c),e2];rw[BA (fun e=>c (cmpN_lt.1 e)),BA (fun e=>c (hg.1 e)),e1];by_cases c:qN y<qN x;rw[BA (fun e=>by have:=cmpN_gt.1 e;grind),BC (hg.2 c),e1];rw[BA (fun e=>c (hg.1 e))];split;exact e2;rename_i d;have:qN x=qN y:=(by have:=fun e=>d (cmpN_gt.2 e);grind);rw[e1];exact H8 (Wz c1 k) (Wz c2 k) (by rw[hq1,hq2,this])
theorem G1k {a:Ivl}(h:Qp a=true):Kf a default=true<->qN a.lo<=0/\0<=qN a.hi:=by unfold Kf;have hd:Qh (default:Nm)=true:=(by decide);rw[h,hd];simp only[FF,q_i,BN];rw[cmpN_le,cmpN_le,YJ]
theorem qO (x:Nm):QJ x<0<->qN x<0:=by rw[U1,jK,<-J0 x.exp];exact qM_lt.symm
theorem GN (x:Nm):0<QJ x<->0<qN x:=by
 have h1:QJ x<=0<->qN x<=0:=by rw[U1,jL,<-J0 x.exp];exact qM_le.symm
 rw[<-Rat.not_le,<-h1];omega
theorem J1c :ofX default=⟨false,0,0⟩:=Vp (.inr rfl) (by rw[YJ];exact(Vj (v:=⟨false,0,0⟩) rfl).symm)
theorem Q1q {a:Ivl}{k:Nat}{x y:Nm}(h:Qp a=true)(hx:qN x=Kb (qN a.lo) k)(hy:qN y=Kb (qN a.hi) k):
 ofX (if 0<k/\k % 2=0/\QJ a.lo<0/\0<QJ a.hi then default else Z9 x y)=Ha a k:=by
 obtain⟨p1,p2⟩:=Ow h hx hy;have hz:=G1k h;have hle:=V1w h;unfold Ha;generalize hW:(if Kc (Xp (ofN a.lo) k) (Xp (ofN a.hi) k)>0 then Xp (ofN a.hi) k else Xp (ofN a.lo) k)=W at p1⊢;by_cases c:0<k/\k % 2=0;by_cases d:QJ a.lo<0/\0<QJ a.hi;rw[BC ⟨c.1,c.2,d.1,d.2⟩,J1c];have d1:=(qO _).1 d.1;have d2:=(GN _).1 d.2;rw[BC ⟨c.1,c.2,hz.2 ⟨by grind,by grind⟩⟩];rw[BA (fun e=>d ⟨e.2.2.1,e.2.2.2⟩),p1];by_cases f:Kf a default=true;rw[BC ⟨c.1,c.2,f⟩];obtain⟨f1,f2⟩:=hz.1 f;have d': ¬(qN a.lo<0/\0<qN a.hi):=fun e=>d ⟨(qO _).2 e.1,(GN _).2 e.2⟩;obtain⟨m,hm⟩: ∃m,k=2*m:=⟨k/2,oG⟩;have e1:=kz (qN a.lo) m;have e2:=kz (qN a.hi) m;rw[<-hm] at e1 e2;obtain⟨c1,c2⟩:=Jt h;have hg:=Sj (Xp (ofN a.lo) k) (Xp (ofN a.hi) k);rw[Yp,Yp,Zb,Zb] at hg;have hzero:Kb 0 k=0:=Q1s k c.1;rw[<-hW];split;rename_i g;have g:=hg.1 g;refine H8 (Wz c2 k) (.inr rfl) ?_;rw[Yp,Zb,show qV ⟨false,0,0⟩=0 from Vj rfl];by_cases w:qN a.lo=0;rw[w,hzero] at g;grind;have:qN a.hi=0:=(by grind);rw[this,hzero];rename_i g;have g:=fun e=>g (hg.2 e);refine H8 (Wz c1 k) (.inr rfl) ?_;rw[Yp,Zb,show qV ⟨false,0,0⟩=0 from Vj rfl];by_cases w:qN a.lo=0;rw[w,hzero];have:qN a.hi=0:=(by grind);rw[this,hzero] at g;grind;rw[BA (fun e=>f e.2.2)];rw[BA (fun e=>c ⟨e.1,e.2.1⟩),BA (fun e=>c ⟨e.1,e.2.1⟩),p1]
def Xj (m:Mn)(b:List Ivl)(p:Int):Nat->Ivl×Int
 | 0=>(⟨m.c,m.c⟩,0)
 | i+1=>if (Xj m b p i).2≠0 then(default,(Xj m b p i).2) else if m.ks.getD i 0=0 then Xj m b p i
  else if (J4 (b.getD i default) (m.ks.getD i 0) p).2≠0 then(default,(J4 (b.getD i default) (m.ks.getD i 0) p).2)
  else opI 2 (Xj m b p i).1 (J4 (b.getD i default) (m.ks.getD i 0) p).1 p
def X5 (q:List Mn)(b:List Ivl)(p:Int):Nat->Ivl×Int
 | 0=>(default,0)
 | i+1=>if (X5 q b p i).2≠0 then(default,(X5 q b p i).2) else if (Xj (q.getD i default) b p b.length).2≠0 then(default,(Xj (q.getD i default) b p b.length).2)
  else opI 0 (X5 q b p i).1 (Xj (q.getD i default) b p b.length).1 p
def Ka (q:List Mn)(b:List Ivl)(p:Int):Ivl×Int:=if ZY q b.length=true/\b.all Qp=true/\Qt p=true then X5 q b p q.length else(default,1)
theorem UH (k:Nat)(a b:Ivl)(p:Int)(h:(opI k a b p).2≠0):(opI k a b p).1=default:=by unfold opI at h⊢;split;rename_i c;rw[BC c] at h;unfold XN at h⊢;split;rename_i d;rw[BC d] at h;exact absurd rfl h;rfl;rfl
theorem z1r {lo hi:Vl}(h1:QI lo)(h2:QI hi):wI (XN lo hi).1:=by unfold XN;split;exact⟨ZF (QT (JZ (K5 h1))),ZF (QT (JZ (K5 h2)))⟩;exact⟨ZF (QT (show Qh default=true by decide)),ZF (QT (show Qh default=true by decide))⟩
theorem Q1t (a:Ivl)(k p:Int):wI (J4 a k p).1:=by unfold J4;split;rename_i h;exact z1r (Kl (w1u h.1 _) _ _) (Kl (w1v h.1 _) _ _);exact⟨ZF (QT (show Qh default=true by decide)),ZF (QT (show Qh default=true by decide))⟩
theorem Sp (k:Nat)(a b:Ivl)(p:Int):wI (opI k a b p).1:=Jg (XT k a b p)
theorem G1 :wI default:=⟨ZF (QT (show Qh default=true by decide)),ZF (QT (show Qh default=true by decide))⟩
theorem kH {m:Mn}(hm:Qh m.c=true)(b:Li)(p:Int): ∀i,wI (Xj m b p i).1
 | 0=>⟨ZF (QT hm),ZF (QT hm)⟩
 | i+1=>by rw[Xj];split;exact G1;split;exact kH hm b p i;split;exact G1;exact Sp _ _ _ _
theorem Ni (q:Lm)(b:Li)(p:Int): ∀i,wI (X5 q b p i).1
 | 0=>G1
 | i+1=>by rw[X5];split;exact G1;split;exact G1;exact Sp _ _ _ _
theorem Sb {m:Mn}{b:Li}{p:Int} : ∀i,(Xj m b p i).2≠0->(Xj m b p i).1=default
 | 0,h=>absurd rfl h
 | i+1,h=>by rw[Xj] at h⊢;split;rfl;rename_i c1;rw[BA c1] at h;split;rename_i c2;rw[BC c2] at h;exact Sb i h;rename_i c2;rw[BA c2] at h;split;rfl;rename_i c3;rw[BA c3] at h;exact UH _ _ _ _ h
theorem w0v {q:Lm}{b:Li}{p:Int} : ∀i,(X5 q b p i).2≠0->(X5 q b p i).1=default
 | 0,h=>absurd rfl h
 | i+1,h=>by rw[X5] at h⊢;split;rfl;rename_i c1;rw[BA c1] at h;split;rfl;rename_i c2;rw[BA c2] at h;exact UH _ _ _ _ h
theorem kI {m:Mn}{b:Li}{p:Int}{i:Nat}(h:(Xj m b p i).2≠0): ∀d,Xj m b p (i+d)=(default,(Xj m b p i).2)
 | 0=>Prod.ext (Sb i h) rfl
 | d+1=>by have e:=kI h d;rw[show i+(d+1)=(i+d)+1 from rfl,Xj,e];rw[BC h]
theorem kn {q:Lm}{b:Li}{p:Int}{i:Nat}(h:(X5 q b p i).2≠0): ∀d,X5 q b p (i+d)=(default,(X5 q b p i).2)
 | 0=>Prod.ext (w0v i h) rfl
 | d+1=>by have e:=kn h d;rw[show i+(d+1)=(i+d)+1 from rfl,X5,e];rw[BC h]
theorem K1b (l:Pq)(t:Tag):NoG (.sl t (QU l)):=by refine .sl _ _ fun i j hi hj=> ?_;rw[Y0] at hi;rw[Wr l i hi] at hj⊢;have:j=0:=(by simp[PV.cells] at hj;omega);subst this;exact .sc _
theorem J1n (off:Nat)(T:Pq)(k:Nat)(h:k<T.length):(List.replicate off PV.junk++QU T).getD (off+k) .junk= .sc (.int .i64 (T.getD k 0)):=by rw[q_a,CA (by simp),ER,DY,<-q_a];exact Wr T k h
theorem J1m (off:Nat)(T:Pq)(k:Nat)(c:Int)(h:k<T.length):Qu (List.replicate off PV.junk++QU T) (off+k) [.sc (.int .i64 c)]=List.replicate off PV.junk++QU (T.set k c):=by unfold Qu;have e:QU (T.set k c)=(QU T).set k (.sc (.int .i64 c)):=(by unfold QU;rw[FA]);rw[e,show List.replicate off PV.junk++(QU T).set k (.sc (.int .i64 c))=(List.replicate off PV.junk++QU T).set (off+k) (.sc (.int .i64 c)) from by rw[CJ _ _ (by simp),ER,DY]];rw[DS,BC (by simp[QU];omega)];simp
theorem J1o (off:Nat)(T:Pq):((List.replicate off PV.junk++QU T).drop off).take T.length=QU T:=by rw[EW (by simp),E7 (by simp),CQ,BF (by rw[Y0];exact BD _)]
def Jn (n:Nat):Nm:=(mkX false [UInt64.ofNat n] 0).1
def Z1 (ks:List Int)(i:Nat):List Int:=ks.set i (ks.getD i 0-1)
def Jr (i:Nat):List Mn->List Mn->List Mn×Int
 | [],acc=>(acc,0)
 | m::r,acc=>if m.ks.getD i 0=0 then Jr i r acc else if (Za 2 m.c (Jn (m.ks.getD i 0).toNat)).2≠0 then([],(Za 2 m.c (Jn (m.ks.getD i 0).toNat)).2)
  else Jr i r (acc++ [⟨(Za 2 m.c (Jn (m.ks.getD i 0).toNat)).1,Z1 m.ks i⟩])
def V1 (p:List Mn)(i n:Int):List Mn×Int:=if ZY p n=true/\0<=i/\i<n then Jr i.toNat p [] else([],1)
theorem x1v (a:Lm)(i:Nat)(h:i<a.length):a.drop i=a.getD i default::a.drop (i+1):=by rw[FC h];simp[q_a,h]
theorem k1b {p:Lm}{i j:Nat}(h:j<p.length)(acc:Lm):Jr i (p.drop j) acc=if (p.getD j default).ks.getD i 0=0 then Jr i (p.drop (j+1)) acc else if (Za 2 (p.getD j default).c (Jn ((p.getD j default).ks.getD i 0).toNat)).2≠0 then([],(Za 2 (p.getD j default).c (Jn ((p.getD j default).ks.getD i 0).toNat)).2)
 else Jr i (p.drop (j+1)) (acc++ [⟨(Za 2 (p.getD j default).c (Jn ((p.getD j default).ks.getD i 0).toNat)).1,Z1 (p.getD j default).ks i⟩]):=by
 rw[x1v p j h,Jr]
theorem k1a {p:Lm}{i:Nat}(acc:Lm):Jr i (p.drop p.length) acc=(acc,0):=by rw[FK,Jr]
theorem Sl : ∀(a b c:Pq),a.length=b.length->b.length=c.length->XS a b=1->XS b c=1->XS a c=1
 | [],_,_,_,_,h,_=>by simp[XS] at h
 | x::a,[],_,h1,_,_,_=>by simp at h1
 | x::a,y::b,[],_,h2,_,_=>by simp at h2
 | x::a,y::b,z::c,h1,h2,h3,h4=>by rw[XS] at h3 h4⊢;have ih:=Sl a b c (by simpa using h1) (by simpa using h2);by_cases c1:x>y;by_cases c2:y>z;rw[BC oG];rw[BA c2] at h4;by_cases c3:y<z;rw[BC c3] at h4;omega;rw[BC oG];rw[BA c1] at h3;by_cases c2:x<y;rw[BC c2] at h3;omega;rw[BA c2] at h3;by_cases c3:y>z;rw[BC oG];rw[BA c3] at h4;by_cases c4:y<z;rw[BC c4] at h4;omega;rw[BA c4] at h4;rw[BA oG,BA oG];exact ih h3 h4
theorem V0p (x:Int)(a:Pq):Z1 (x::a) 0=(x-1)::a:=rfl
theorem V0o (x:Int)(a:Pq)(i:Nat):Z1 (x::a) (i+1)=x::Z1 a i:=rfl
theorem Sm : ∀(a b:Pq) (i:Nat),XS (Z1 a i) (Z1 b i)=XS a b
 | [],b,i=>by cases b<;>rfl
 | x::a,[],i=>by cases i<;>rfl
 | x::a,y::b,0=>by rw[V0p,V0p,XS,XS];by_cases c1:x>y;rw[BC oG,BC c1];rw[BA oG,BA c1];by_cases c2:x<y;rw[BC oG,BC c2];rw[BA oG,BA c2]
 | x::a,y::b,i+1=>by rw[V0o,V0o,XS,XS,Sm a b i]
theorem xu (ks:Pq)(i:Nat):(Z1 ks i).length=ks.length:=by unfold Z1;rw[BL]
def vW :List (List Int)->Prop:=List.Pairwise fun a b=>XS a b=1
theorem v0y {p:Lm}{n:Int}(h:ZY p n=true):vW (p.map Mn.ks):=by
 have hl: ∀i,i<p.length->(((p.getD i default).ks.length:Int)=n):=fun i hi=>(GT h hi).1;have hs: ∀d i,i+d+1<p.length->XS (p.getD i default).ks (p.getD (i+d+1) default).ks=1:=by
  intro d
  induction d with
  | zero=>
   intro i hi;have:=((WI _ _ _).1 (((VD p n).1 h).2 (i+1) hi)).2.2;rcases this with e | e;omega;exact e
  | succ d ih=>
   intro i hi;have h1:=ih i oG;have h2:=((WI _ _ _).1 (((VD p n).1 h).2 (i+(d+1)+1) hi)).2.2;have a1:=hl i oG;have a2:=hl (i+d+1) oG;have a3:=hl (i+(d+1)+1) hi;rcases h2 with e | e;omega;rw[show i+(d+1)+1-1=i+d+1 from oG] at e;exact Sl _ _ _ oG oG h1 e
 refine List.pairwise_iff_getElem.2 fun i j hi hj hij=> ?_;simp only[BR] at hi hj;have:=hs (j-i-1) i oG;rw[show i+(j-i-1)+1=j from oG] at this;simpa[q_a,hi,hj] using this
theorem U1q {k:Nat}(hk:k<=8):Qh (Jn k)=true/\ofN (Jn k)=Zf false k 0:=by have hr:Qh (Jn k)=true:=JZ (K5 (IY ⟨false,0,[UInt64.ofNat k]⟩));refine⟨hr,?_⟩;have key: ∀k:Fin 9,ofN (Jn k.val)=Zf false k.val 0:=(by decide+kernel);exact key ⟨k,oG⟩
theorem y0n {x:Nm}(h:Qh x=true)(hw:x.w.length≠0):qN x≠0:=fun e=>by
 have h1:=qO x;have h2:=GN x;rw[e] at h1 h2;have:QJ x=0:=by have a1: ¬QJ x<0:=fun c=>absurd (h1.1 c) (by decide);have a2: ¬0<QJ x:=fun c=>absurd (h2.1 c) (by decide);omega
 have h3:=(k0e h).1 (by rw[XD,BC h];exact this);exact hw h3
def okT (n L U:Nat)(D:Int)(t:Tm):Prop:=t.ks.length=n/\Kr t.ks=true/\t.ks.sum<=D/\QI t.v/\luQ L U (qV t.v)
theorem okT.up {n L U U':Nat}{D:Int}{t:Tm}(h:okT n L U D t)(hu:U<=U'):okT n L U' D t:=⟨h.1,h.2.1,h.2.2.1,h.2.2.2.1,h.2.2.2.2.up hu⟩
def zz (n L U:Nat)(D:Int)(m:Mn):Prop:=m.ks.length=n/\Kr m.ks=true/\m.ks.sum<=D/\Qh m.c=true/\m.c.w.length≠0/\luQ L U (qN m.c)
theorem Nz {x:Nm}(h:x.w.length=0):qN x=0:=by have e:x.w= []:=BY h;rw[<-Zb];refine Vj ?_;show Qc x.w=0;rw[e];rfl
def Yy (p:Nat)(x:Rat):Prop:= ∃m e:Int,x=qM m e/\m.natAbs<=2^p
theorem Ex (v:Vl)(p:Nat)(h: ¬Qo v.m<=p): ∃k:Int,qV (QX v p false)=qM (k*2^(Qo v.m-p)) v.e/\k*2^(Qo v.m-p)<=Z0 v/\(∀j:Int,j*2^(Qo v.m-p)<=Z0 v->j<=k)/\k.natAbs<=2^p:=by
 unfold QX;rw[BA h,WE,jR];have hb:=KY v.m;have hbp:2^Qo v.m=2^p*2^(Qo v.m-p):=(by rw[<-B2];congr 1;omega);generalize Qo v.m-p=d at*
 have hD:=CT d;have h1:=D5 v.m (2^d);have h2:=CG v.m hD;have hq:v.m/2^d<2^p:=by rw[DV hD,<-hbp];exact hb
 have hcast:((2^d:Nat):Int)=(2:Int)^d:=(by simp);have hD':(0:Int)<(2:Int)^d:=(by rw[<-hcast];exact_mod_cast hD);unfold Z0;cases hn:v.neg;refine⟨((v.m/2^d:Nat):Int),?_,?_,fun j hj=> ?_,by rw[LN];exact F9 hq⟩;rw[BA (by simp),BA (by simp),B1,CN,hcast];rw[BA (by simp),<-hcast,<-CN];have:=LH v.m (2^d);omega;rw[BA (by simp)] at hj;by_cases hj0:j<0;have:(0:Int)<=((v.m/2^d:Nat):Int):=Int.natCast_nonneg _;omega;obtain⟨n,rfl⟩:=EE (by omega:0<=j);rw[<-hcast,<-CN] at hj;have hj':n*2^d<=v.m:=(by exact_mod_cast hj);have:=(EQ hD).2 hj'
 exact_mod_cast this
 generalize hc':(if v.m % 2^d≠0/\false≠true then 1 else 0)=c;have hc:(v.m % 2^d≠0/\c=1)\/(v.m % 2^d=0/\c=0):=by by_cases h3:v.m % 2^d=0;rw[BA (by simp[h3])] at hc';exact .inr ⟨h3,hc'.symm⟩;rw[BC ⟨h3,by simp⟩] at hc';exact .inl ⟨h3,hc'.symm⟩
 refine⟨-((v.m/2^d+c:Nat):Int),?_,?_,fun j hj=> ?_,by rw[Int.natAbs_neg];simp only[LN];omega⟩;rw[BC rfl];congr 1;rw[DU,<-hcast,<-CN];rw[BC rfl,DU,<-hcast,<-CN];have:v.m<=(v.m/2^d+c)*2^d:=by rw[BM] at h1;rw[BQ];rcases hc with ⟨a,rfl⟩ | ⟨a,rfl⟩<;>omega
 omega;rw[BC rfl] at hj;by_cases hj0:0<j;have:0<j*(2:Int)^d:=Int.mul_pos hj0 hD';omega;obtain⟨n,hn'⟩:=EE (by omega:0<= -j);obtain rfl:j= -(n:Int):=oG;rw[DU,<-hcast,<-CN] at hj;have hj':v.m<=n*2^d:=oG;have:v.m/2^d+c<=n:=by
  rcases hc with ⟨a,rfl⟩ | ⟨a,rfl⟩;have:v.m/2^d<n:=by refine EV fun hle=> ?_;have:=BG (2^d) hle;rw[BM] at h1;omega
  omega;have:=Nat.div_le_div_right (c:=2^d) hj';rw[LL _ hD] at this;omega
 omega
theorem J0o (v:Vl)(p:Nat):Yy p (qV (QX v p false)):=by by_cases h:Qo v.m<=p;unfold QX;rw[BC h];refine⟨Z0 v,v.e,rfl,?_⟩;rw[W1m];exact F9 (q_e (KY v.m) (BS (by decide) h));obtain⟨k,h1,h2,h3,h4⟩:=Ex v p h;exact⟨k,v.e+((Qo v.m-p:Nat):Int),by rw[h1,Vk],h4⟩
theorem v0t {v:Vl}{p:Nat}(hp:1<=p){x:Rat}(hx:Yy p x)(hle:x<=qV v):x<=qV (QX v p false):=by
 by_cases h:Qo v.m<=p;unfold QX;rw[BC h];exact hle;obtain⟨k,h1,h2,h3,h4⟩:=Ex v p h;rw[h1];obtain⟨m,e,rfl,hm⟩:=hx;have h0:v.m≠0:=fun e=>(by rw[e,Uf] at h;omega);have hlow:=Ox h0;obtain⟨d,hd⟩: ∃d,Qo v.m-p=d:=⟨_,rfl⟩;rw[hd] at h1 h2 h3⊢;have hd1:1<=d:=oG;have hlow':2^(p-1)*2^d<=v.m:=(by rw[<-B2];exact B7 (BS (by decide) oG) hlow);have hcast:((2^(p-1):Nat):Int)=(2:Int)^(p-1):=(by simp);have hcd:((2^d:Nat):Int)=(2:Int)^d:=(by simp);unfold qV at hle;by_cases he:v.e+d<=e;have e1:qM m e=qM (m*2^(e-(v.e+d)).toNat*2^d) v.e:=by rw[Vk,Vk];congr 1;omega
 rw[e1,qM_le] at hle⊢;have:=h3 _ hle;exact ET this (LK (by rw[<-hcd];exact_mod_cast CT d))
 -- |x| is at most 2^(p-1) units
 have hb: ∀s:Int,s.natAbs<=2^p->qM s e<=qM ((2:Int)^(p-1)*2^d) v.e:=fun s hs=>by
  have e2:(2:Int)^(p-1)*2^d=2^p*2^(d-1):=by rw[<-Int.pow_add,<-Int.pow_add];congr 1;omega
  rw[e2,Vk];have e3:qM ((2:Int)^p) (v.e+((d-1:Nat):Int))=qM ((2:Int)^p*2^(v.e+((d-1:Nat):Int)-e).toNat) e:=by rw[Vk];congr 1;omega
  rw[e3,qM_le];have hc2:((2^p:Nat):Int)=(2:Int)^p:=(by simp);have hpos:(1:Int)<=2^(v.e+((d-1:Nat):Int)-e).toNat:=by
   have:0<2^(v.e+((d-1:Nat):Int)-e).toNat:=CT _
   exact_mod_cast this
  have hs':s<=2^p:=by rw[<-hc2];omega
  have hp0:(0:Int)<=2^p:=by rw[<-hc2];exact Int.natCast_nonneg _
  calc s<=2^p:=hs'
   _=2^p*1:=(Int.mul_one _).symm
   _<=_:=Int.mul_le_mul_of_nonneg_left hpos hp0
 unfold Z0 at h2 h3 hle;cases hn:v.neg;rw[hn,BA (by simp)] at h3;refine E9 (hb m hm) ?_;rw[qM_le];have:=h3 ((2:Int)^(p-1)) (by rw[<-hcast,<-hcd,<-CN];exact_mod_cast hlow');exact ET this (LK (by rw[<-hcd];exact_mod_cast CT d));rw[hn,BC rfl] at h3 hle;have hx2:=hb (-m) (by rw[Int.natAbs_neg];exact hm);rw[YL] at hx2;have hx3:qM (-((2:Int)^(p-1)*2^d)) v.e<=qM (-(v.m:Int)) v.e:=(by rw[YL ((2:Int)^(p-1)*2^d)];grind);have:=h3 (-((2:Int)^(p-1))) (by rw[DU];exact qM_le.1 hx3);refine E9 hle ?_;rw[qM_le];have h5: -(v.m:Int)<= -((2:Int)^(p-1))*2^d:=by rw[DU,<-hcast,<-hcd,<-CN];have:((2^(p-1)*2^d:Nat):Int)<=(v.m:Int):=(by exact_mod_cast hlow');omega
 exact Int.le_trans h5 (ET this (LK (by rw[<-hcd];exact_mod_cast CT d)))
theorem v0s (v:Vl)(p:Nat):qV (QX v p true)= -qV (QX (Xf v) p false):=by
 by_cases h0:v.m=0;have e:Xf v=v:=(by unfold Xf;rw[BC h0]);have hb:Qo v.m<=p:=(by rw[h0,Uf];omega);rw[e];unfold QX;rw[BC hb,BC hb,Vj h0];rfl;have e1:(Xf v).m=v.m:=qC v;have e2:(Xf v).e=v.e:=qD v;have e3:(Xf v).neg= !v.neg:=(by unfold Xf;rw[BA h0]);unfold QX;rw[e1,e2,e3];split;rw[WD];grind;rw[WE,WE];have ec:(if v.m % 2^(Qo v.m-p)≠0/\false≠ !v.neg then 1 else 0)=(if v.m % 2^(Qo v.m-p)≠0/\true≠v.neg then 1 else 0):=by cases v.neg<;>simp
 rw[ec];generalize v.m/2^(Qo v.m-p)+(if v.m % 2^(Qo v.m-p)≠0/\true≠v.neg then 1 else 0)=M;rw[<-YL];congr 1;cases v.neg<;>simp
theorem z1t {lo hi:Vl}(h1:QI lo)(h2:QI hi)(h:(XN lo hi).2=0):qN (XN lo hi).1.lo=qV lo/\qN (XN lo hi).1.hi=qV hi:=by unfold XN at h⊢;split;rename_i hh;exact⟨(WJ h1 hh.1).2,(WJ h2 hh.2).2⟩;rename_i hh;rw[BA hh] at h;cases h
theorem k1g (ks:Pq)(j i:Nat)(hj:j<ks.length):(Z1 ks j).getD i 0=if j=i then ks.getD i 0-1 else ks.getD i 0:=by unfold Z1;by_cases h:j=i;subst h;rw[BC rfl,Zw _ _ _ _ hj];rw[BA h,Zg _ _ _ _ _ h]
theorem x0a {ks:Pq}{k:Nat}(hk:k<ks.length):(Z1 ks k).sum=ks.sum-1:=by
 unfold Z1
 induction ks generalizing k with
 | nil=>simp at hk
 | cons x r ih=>
  cases k with
  | zero=>simp;omega
  | succ k=>
   have:=ih (k:=k) (by simpa using hk);simp only[LM,List.sum_cons,List.getD_cons_succ,this];omega
theorem w0d {ks:Pq}{k:Nat}(h:Kr ks=true)(hk:k<ks.length)(hne:ks.getD k 0≠0):Kr (Z1 ks k)=true:=by obtain⟨h1,h2⟩:=(GU ks).1 h;refine(GU _).2 ⟨fun j hj=> ?_,by rw[x0a hk];omega⟩;rw[xu] at hj;rw[k1g _ _ _ hk];have:=h1 j hj;split;rename_i e;subst e;have:=h1 k hk;omega;exact this
def ZH (a b:Nat)(p:Nat):Nat:=p+2+Qo b-Qo a
def Ks (a b:Nat)(p:Nat):Nat:=2*(a*2^ZH a b p/b)+if a*2^ZH a b p % b=0 then 0 else 1
def XB (a b:Vl)(p:Nat):Vl:=if a.m=0 then⟨false,0,0⟩ else Zf (a.neg !=b.neg) (Ks a.m b.m p) (a.e-b.e-(ZH a.m b.m p:Int)-1)
theorem Gj (a b:Vl)(p:Nat):QI (XB a b p):=by unfold XB;split;exact .inr rfl;exact IZ _ _ _
def Xz (a:Ivl)(c:Nm)(p:Int):Ivl×Int:=
 if Qp a=true/\Qt p=true then XN (QX (XB (ofN a.lo) (ofN c) p.toNat) p.toNat false) (QX (XB (ofN a.hi) (ofN c) p.toNat) p.toNat true) else(default,1)
def ZT (a b:Nm)(p:Int)(up:Bool):Nm×Int:=Zi (QX (XB (ofN a) (ofN b) p.toNat) p.toNat up)
theorem Q0j {a b p:Nat}(hb:Qo b<=32)(hp:p<=256):ZH a b p<=300:=by unfold ZH;omega
set_option maxRecDepth 100000
open Go.Proofs
theorem vr (v:Nat)(hv:v<18446744073709551616)(st:Qd):PR 390 [.sc (.int .u64 v)] st (.sc (.int .i64 ((64-Qo v:Nat):Int))):=by refine Qj Tryz.func390 fun E=> ?_;refine(Z0l v hv st).q ?_;have hb:Qo v<=64:=bitlen_le_iff.2 oG;have e:IntKind.i64.wrap (64-(Qo v:Int))=((64-Qo v:Nat):Int):=(by rw[Q4 _ oG oG];omega);simp-dsimp only[go_sem,e]
theorem j1s (hi lo d s s' y y1 a b u32 u10 u1 u0 q1 p1 r1 A B p2 u21 q0 p3 r0 C D E1 F G Q R:Nat)(st:Qd)(hd:d<18446744073709551616)(hhi:0<hi)
 (f1:((d:Int)==0)=false) (f2:decide ((d:Int)<=(hi:Int))=false) (f3:((hi:Int)==0)=false)
 (n1:IntKind.u64.wrap ((64-Qo d:Nat):Int)=(s:Int)) (n2:XH .u64 (d:Int) (s:Int)=(y:Int)) (n3:Zq .u64 (y:Int) 32=(y1:Int)) (n4:Xm .u64 (y:Int) 4294967295=0)
 (n5:XH .u64 (hi:Int) (s:Int)=(a:Int)) (n6:IntKind.u64.wrap (64-(s:Int))=(s':Int)) (n7:Zq .u64 (lo:Int) (s':Int)=(b:Int)) (n8:bOr .u64 (a:Int) (b:Int)=(u32:Int))
 (n9:XH .u64 (lo:Int) (s:Int)=(u10:Int)) (n10:Zq .u64 (u10:Int) 32=(u1:Int)) (n11:Xm .u64 (u10:Int) 4294967295=(u0:Int)) (n12:((y1:Int) !=0)=true)
 (n13:IntKind.u64.wrap ((u32:Int).tdiv (y1:Int))=(q1:Int)) (n14:IntKind.u64.wrap ((q1:Int)*(y1:Int))=(p1:Int)) (n15:IntKind.u64.wrap ((u32:Int)-(p1:Int))=(r1:Int))
 (c1:decide ((q1:Int)>=4294967296)=false) (c2:decide (IntKind.u64.wrap ((q1:Int)*0)>IntKind.u64.wrap (IntKind.u64.wrap (4294967296*(r1:Int))+(u1:Int)))=false)
 (n16:IntKind.u64.wrap ((u32:Int)*4294967296)=(A:Int)) (n17:IntKind.u64.wrap ((A:Int)+(u1:Int))=(B:Int)) (n18:IntKind.u64.wrap ((q1:Int)*(y:Int))=(p2:Int)) (n19:IntKind.u64.wrap ((B:Int)-(p2:Int))=(u21:Int))
 (n20:IntKind.u64.wrap ((u21:Int).tdiv (y1:Int))=(q0:Int)) (n21:IntKind.u64.wrap ((q0:Int)*(y1:Int))=(p3:Int)) (n22:IntKind.u64.wrap ((u21:Int)-(p3:Int))=(r0:Int))
 (c3:decide ((q0:Int)>=4294967296)=false) (c4:decide (IntKind.u64.wrap ((q0:Int)*0)>IntKind.u64.wrap (IntKind.u64.wrap (4294967296*(r0:Int))+(u0:Int)))=false)
 (n23:IntKind.u64.wrap ((q1:Int)*4294967296)=(C:Int)) (n24:IntKind.u64.wrap ((C:Int)+(q0:Int))=(Q:Int)) (n25:IntKind.u64.wrap ((u21:Int)*4294967296)=(D:Int)) (n26:IntKind.u64.wrap ((D:Int)+(u0:Int))=(E1:Int))
 (n27:IntKind.u64.wrap ((q0:Int)*(y:Int))=(F:Int)) (n28:IntKind.u64.wrap ((E1:Int)-(F:Int))=(G:Int)) (n29:Zq .u64 (G:Int) (s:Int)=(R:Int)):PR 389 [.sc (.int .u64 hi),.sc (.int .u64 lo),.sc (.int .u64 d)] st (.tup [.sc (.int .u64 Q),.sc (.int .u64 R)]):=by
 refine Ql none Tryz.func389 rfl fun E=>Qb ?_;simp-dsimp only[go_sem,f1,f2,f3];refine(vr d hd st).q ?_;simp-dsimp only[go_sem,n1,n2,n3,n4,n5,n6,n7,n8,n9,n10,n11,n12,n13,n14,n15];refine⟨oG,oG,oG,oG,?_⟩;refine Q3 [false,false,true,false,false,false,false,false,true,true,true,true,false,true,true,true,true] 0 0 (fun m s'=>s'=⟨[.junk,.junk,.sc (.int .u64 y),.junk,.junk,.junk,.junk,.junk,.sc (.int .u64 s),.sc (.int .u64 y1),.sc (.int .u64 0),.sc (.int .u64 u32),.junk,.sc (.int .u64 u1),.sc (.int .u64 u0),.sc (.int .u64 q1),.sc (.int .u64 r1)]++jk 118,[],[],st⟩) 0 ?_ ?_;exact QA;rintro m s' rfl;simp-dsimp only[go_sem,c1,c2];refine Qb ?_;simp-dsimp only[go_sem,n16,n17,n18,n19,n20,n21,n22,n12];refine Q3 [false,false,true,false,false,false,false,false,true,true,true,false,false,false,true,true,true,true,true] 0 0 (fun m s'=>s'=⟨[.junk,.junk,.sc (.int .u64 y),.junk,.junk,.junk,.junk,.junk,.sc (.int .u64 s),.sc (.int .u64 y1),.sc (.int .u64 0),.junk,.junk,.junk,.sc (.int .u64 u0),.sc (.int .u64 q1),.sc (.int .u64 r0),.sc (.int .u64 u21),.sc (.int .u64 q0)]++jk 116,[],[],st⟩) 0 ?_ ?_;exact QA;rintro m s' rfl;simp-dsimp only[go_sem,c3,c4];refine Qb ?_;simp-dsimp only[go_sem,n23,n24,n25,n26,n27,n28,n29];omega
theorem Zu (x:Int):IntKind.u64.wrap x=x % 18446744073709551616:=by simp[IntKind.wrap,IntKind.bits,IntKind.signed]
theorem j1t (hi lo d k P y y1 b u32 u10 u1 u0 q1 r1 u21 q0 r0:Nat)(hd:0<d)(hh:hi<d)(hy:y=d*P)(hP:P=4294967296*k)(h1:y1=d*k)(hk:0<k)(hyl:y<18446744073709551616)
 (hb:lo*P=u10+18446744073709551616*b) (hbl:b<P) (h3:u32=hi*P+b) (h4:u10=u0+4294967296*u1) (h5:u0<4294967296) (h6:u1<4294967296) (h7:u32=y1*q1+r1) (h8:r1<y1) (h9:u21=r1*4294967296+u1) (h10:u21=y1*q0+r0) (h11:r0<y1):
 y=4294967296*y1/\u32<y/\q1<4294967296/\u21<y/\q0<4294967296/\r0*4294967296+u0<y/\q1*4294967296+q0=(hi*18446744073709551616+lo)/d/\r0*4294967296+u0=(hi*18446744073709551616+lo) % d*P:=by
 have e1:y=4294967296*y1:=by rw[hy,hP,h1];grind
 have e2:hi*P+P<=y:=by have:(hi+1)*P<=d*P:=BG _ hh;rw[BQ,CY] at this;omega
 have e3:u32<y:=oG;have lt_of: ∀q r u:Nat,u=y1*q+r->u<4294967296*y1->q<4294967296:=fun q r u hu hlt=>by apply EV;intro hle;have:=DP y1 hle;omega
 have e4:q1<4294967296:=lt_of q1 r1 u32 h7 oG;have e5:u21<y:=oG;have e6:q0<4294967296:=lt_of q0 r0 u21 h10 oG;have e7:r0*4294967296+u0<y:=oG;have e8:(hi*18446744073709551616+lo)*P=y*(q1*4294967296+q0)+(r0*4294967296+u0):=by
  have a1:(hi*18446744073709551616+lo)*P=18446744073709551616*(hi*P)+lo*P:=(by grind);have a2:y*(q1*4294967296+q0)=18446744073709551616*(y1*q1)+4294967296*(y1*q0):=(by rw[e1];grind);rw[a1,a2,hb];generalize y1*q1=A at*
  generalize y1*q0=B at*
  generalize hi*P=C at*
  omega
 have hPp:0<P:=oG;have hdP:0<d*P:=Nat.mul_pos hd hPp;refine⟨e1,e3,e4,e5,e6,e7,?_,?_⟩;have:=Nat.mul_div_mul_right (hi*18446744073709551616+lo) d hPp;rw[<-this,e8,<-hy];rw[E4 oG,CP e7,B1];have:=Nat.mul_mod_mul_right P (hi*18446744073709551616+lo) d;rw[<-this,e8,<-hy,E3,BJ e7]
set_option maxHeartbeats 16000000 in
theorem j1u (hi lo d:Nat)(st:Qd)(hd:0<d)(hd2:d<4294967296)(hh:hi<d)(hlo:lo<18446744073709551616):PR 389 [.sc (.int .u64 hi),.sc (.int .u64 lo),.sc (.int .u64 d)] st (.tup [.sc (.int .u64 (((hi*18446744073709551616+lo)/d:Nat):Int)),.sc (.int .u64 (((hi*18446744073709551616+lo) % d:Nat):Int))]):=by
 have f1:((d:Int)==0)=false:=CL.2 oG;have f2:decide ((d:Int)<=(hi:Int))=false:=q_g oG;by_cases h0:hi=0;subst h0;have f3:(((0:Nat):Int)==0)=true:=rfl;have f4:((d:Int) !=0)=true:=(by simp;omega);refine Ql none Tryz.func389 rfl fun E=>Qb ?_;simp-dsimp only[go_sem,f1,f2,f3];refine Q5 135 (Qi [0,1,2,3,4,5,6,7] .done) ?_;have hq:lo/d<18446744073709551616:=D1 (DB _ _) hlo;simp-dsimp only[go_sem,f4];rw[Ye,G8,ZW,BJ hq];have f3:((hi:Int)==0)=false:=CL.2 oG;have hb32:Qo d<=32:=bitlen_le_iff.2 oG;have hb0:0<Qo d:=Gs oG;obtain⟨j,hj⟩: ∃j,64-Qo d=32+j:=⟨32-Qo d,oG⟩;have hj32:j<32:=oG;have hyl:d*2^(32+j)<18446744073709551616:=by have h1:=KY d;have h2:2^Qo d*2^(32+j)=18446744073709551616:=(by rw[<-B2,show Qo d+(32+j)=64 by omega]);rw[<-h2];exact C5 h1 (CT _)
 have hPk:2^(32+j)=4294967296*2^j:=(by rw[B2]);have hk:=CT j;have hsp:=jJ lo (32+j) hlo oG;have hbl:=jI lo (32+j) hlo oG;have hu10:=CG (lo*2^(32+j)) (show 0<18446744073709551616 by decide);generalize hu:lo*2^(32+j) % 18446744073709551616=u10 at*
 generalize hbb:lo/2^(64-(32+j))=b at*
 have hy1:0<d*2^j:=Nat.mul_pos hd hk;obtain⟨m1,m2,m3,m4,m5,m6,m7,m8⟩:=j1t hi lo d (2^j) (2^(32+j)) (d*2^(32+j)) (d*2^j) b (hi*2^(32+j)+b) u10 (u10/4294967296) (u10 % 4294967296)
  ((hi*2^(32+j)+b)/(d*2^j)) ((hi*2^(32+j)+b) % (d*2^j)) ((hi*2^(32+j)+b) % (d*2^j)*4294967296+u10/4294967296)
  (((hi*2^(32+j)+b) % (d*2^j)*4294967296+u10/4294967296)/(d*2^j)) (((hi*2^(32+j)+b) % (d*2^j)*4294967296+u10/4294967296) % (d*2^j))
  hd hh rfl hPk rfl hk hyl hsp hbl rfl oG oG oG (D5 _ _).symm (CG _ hy1) rfl (D5 _ _).symm (CG _ hy1)
 obtain⟨NN,hNN⟩: ∃NN,NN=hi*18446744073709551616+lo:=⟨_,rfl⟩;rw[<-hNN] at m7 m8⊢;clear hNN;have hiP:hi*2^(32+j)<18446744073709551616:=oG;have hhmod:hi*2^(32+j) % 2^(32+j)=0:=Nat.mul_mod_left _ _;have dm1:=D5 (hi*2^(32+j)+b) (d*2^j);have ml1:=CG (hi*2^(32+j)+b) hy1;generalize hy':d*2^(32+j)=y at*
 generalize hy1':d*2^j=y1 at*
 have hor:hi*2^(32+j)|||b=hi*2^(32+j)+b:=by rw[Nat.or_comm,Hf _ _ _ hbl hhmod,EZ]
 have sh1:XH .u64 (hi:Int) ((32+j:Nat):Int)=((hi*2^(32+j):Nat):Int):=(by rw[WW _ _ oG,BJ hiP]);have sh2:XH .u64 (lo:Int) ((32+j:Nat):Int)=(u10:Int):=(by rw[WW _ _ oG,hu]);have sh3:XH .u64 (d:Int) ((32+j:Nat):Int)=(y:Int):=(by rw[WW _ _ oG,hy',BJ hyl]);have sh4:Zq .u64 (lo:Int) ((64-(32+j):Nat):Int)=(b:Int):=(by rw[V4 _ _ oG,hbb]);generalize hi*2^(32+j)=a at*
 generalize hq1:(a+b)/y1=q1 at*
 generalize hr1:(a+b) % y1=r1 at*
 have dm2:=D5 (r1*4294967296+u10/4294967296) y1;have ml2:=CG (r1*4294967296+u10/4294967296) hy1;generalize hq0:(r1*4294967296+u10/4294967296)/y1=q0 at*
 generalize hr0:(r1*4294967296+u10/4294967296) % y1=r0 at*
 have hPG:Zq .u64 ((r0*4294967296+u10 % 4294967296:Nat):Int) ((32+j:Nat):Int)=((NN % d:Nat):Int):=(by rw[V4 _ _ oG,m8,LL _ (CT _)]);rw[<-m7];have c11:y1*q1=q1*y1:=BM _ _;have c12:y1*q0=q0*y1:=BM _ _;have c13:q1*y=4294967296*(q1*y1):=(by rw[m1];grind);have c14:q0*y=4294967296*(q0*y1):=(by rw[m1];grind);rw[c11] at dm1;rw[c12] at dm2;generalize hqy1:q1*y1=w1 at*
 generalize hqy0:q0*y1=w0 at*
 generalize hu1:u10/4294967296=u1 at*
 generalize hu0:u10 % 4294967296=u0 at*
 have hu0l:u0<4294967296:=oG;have hu1l:u1<4294967296:=oG;have g1:IntKind.u64.wrap ((64-Qo d:Nat):Int)=((32+j:Nat):Int):=(by rw[hj,ZW,BJ oG]);have g3:Zq .u64 (y:Int) 32=(y1:Int):=by rw[Yg];congr 1;omega
 have g4:Xm .u64 (y:Int) 4294967295=0:=by rw[Gt y hyl];have:y % 4294967296=0:=oG
                                          rw[this];rfl
 have g6:IntKind.u64.wrap (64-((32+j:Nat):Int))=((64-(32+j):Nat):Int):=by rw[Zu];omega
 have g8:bOr .u64 (a:Int) (b:Int)=((a+b:Nat):Int):=(by rw[HA _ _ oG oG,hor]);have g10:Zq .u64 (u10:Int) 32=(u1:Int):=(by rw[Yg,hu1]);have g11:Xm .u64 (u10:Int) 4294967295=(u0:Int):=(by rw[Gt _ oG,hu0]);have g12:((y1:Int) !=0)=true:=(by simp;omega);have g13:IntKind.u64.wrap (((a+b:Nat):Int).tdiv (y1:Int))=(q1:Int):=(by rw[Ye,hq1,ZW,BJ oG]);have g14:IntKind.u64.wrap ((q1:Int)*(y1:Int))=(w1:Int):=(by rw[<-CN,hqy1,ZW,BJ oG]);have g15:IntKind.u64.wrap (((a+b:Nat):Int)-(w1:Int))=(r1:Int):=(by rw[Zu];omega);have k1:decide ((q1:Int)>=4294967296)=false:=q_g oG;have k2:decide (IntKind.u64.wrap ((q1:Int)*0)>IntKind.u64.wrap (IntKind.u64.wrap (4294967296*(r1:Int))+(u1:Int)))=false:=q_g (by rw[Int.mul_zero,Zu,Zu,Zu];omega);obtain⟨A,hA⟩: ∃A,A=(a+b)*4294967296 % 18446744073709551616:=⟨_,rfl⟩;obtain⟨B,hB⟩: ∃B,B=((a+b)*4294967296+u1) % 18446744073709551616:=⟨_,rfl⟩;obtain⟨p2,hp2⟩: ∃p2,p2=q1*y % 18446744073709551616:=⟨_,rfl⟩;obtain⟨u21,hu21⟩: ∃u21,u21=r1*4294967296+u1:=⟨_,rfl⟩;obtain⟨D,hD⟩: ∃D,D=u21*4294967296 % 18446744073709551616:=⟨_,rfl⟩;obtain⟨E1,hE1⟩: ∃E1,E1=(u21*4294967296+u0) % 18446744073709551616:=⟨_,rfl⟩;obtain⟨F,hF⟩: ∃F,F=q0*y % 18446744073709551616:=⟨_,rfl⟩;obtain⟨G,hG⟩: ∃G,G=r0*4294967296+u0:=⟨_,rfl⟩;rw[<-hu21] at dm2 hq0 hr0 m4;rw[<-hG] at hPG m6;have g16:IntKind.u64.wrap (((a+b:Nat):Int)*4294967296)=(A:Int):=(by rw[Zu];omega);have g17:IntKind.u64.wrap ((A:Int)+(u1:Int))=(B:Int):=(by rw[Zu];omega);have g18:IntKind.u64.wrap ((q1:Int)*(y:Int))=(p2:Int):=(by rw[<-CN,ZW,hp2]);have g19:IntKind.u64.wrap ((B:Int)-(p2:Int))=(u21:Int):=(by rw[Zu];omega);have g20:IntKind.u64.wrap ((u21:Int).tdiv (y1:Int))=(q0:Int):=(by rw[Ye,hq0,ZW,BJ oG]);have g21:IntKind.u64.wrap ((q0:Int)*(y1:Int))=(w0:Int):=(by rw[<-CN,hqy0,ZW,BJ oG]);have g22:IntKind.u64.wrap ((u21:Int)-(w0:Int))=(r0:Int):=(by rw[Zu];omega);have k3:decide ((q0:Int)>=4294967296)=false:=q_g oG;have k4:decide (IntKind.u64.wrap ((q0:Int)*0)>IntKind.u64.wrap (IntKind.u64.wrap (4294967296*(r0:Int))+(u0:Int)))=false:=q_g (by rw[Int.mul_zero,Zu,Zu,Zu];omega);obtain⟨C,hC⟩: ∃C,C=q1*4294967296:=⟨_,rfl⟩;have g23:IntKind.u64.wrap ((q1:Int)*4294967296)=(C:Int):=(by rw[Zu];omega);have g24:IntKind.u64.wrap ((C:Int)+(q0:Int))=((q1*4294967296+q0:Nat):Int):=(by rw[Zu];omega);have g25:IntKind.u64.wrap ((u21:Int)*4294967296)=(D:Int):=(by rw[Zu];omega);have g26:IntKind.u64.wrap ((D:Int)+(u0:Int))=(E1:Int):=(by rw[Zu];omega);have g27:IntKind.u64.wrap ((q0:Int)*(y:Int))=(F:Int):=(by rw[<-CN,ZW,hF]);have g28:IntKind.u64.wrap ((E1:Int)-(F:Int))=(G:Int):=(by rw[Zu];omega);exact j1s hi lo d (32+j) (64-(32+j)) y y1 a b (a+b) u10 u1 u0 q1 w1 r1 A B p2 u21 q0 w0 r0 C D E1 F G (q1*4294967296+q0) (NN % d) st oG oG f1 f2 f3 g1 sh3 g3 g4 sh1 g6 sh4 g8 sh2 g10 g11 g12 g13 g14 g15 k1 k2 g16 g17 g18 g19 g20 g21 g22 k3 k4 g23 g24 g25 g26 g27 g28 hPG
theorem W0q (a:Lu)(d k:Nat)(hd:0<d)(h0:0<k):
 Qc (a.drop (k-1))/d=(Qc (a.drop k) % d*18446744073709551616+(a.getD (k-1) 0).toNat)/d+18446744073709551616*(Qc (a.drop k)/d)/\
 Qc (a.drop (k-1)) % d=(Qc (a.drop k) % d*18446744073709551616+(a.getD (k-1) 0).toNat) % d:=by
 have h:=G3 a (k-1);rw[show k-1+1=k by omega] at h;have e:Qc (a.drop (k-1))=d*(18446744073709551616*(Qc (a.drop k)/d))+(Qc (a.drop k) % d*18446744073709551616+(a.getD (k-1) 0).toNat):=by
  rw[h];have:=D5 (Qc (a.drop k)) d;generalize Qc (a.drop k)/d=q at*
  generalize Qc (a.drop k) % d=r at*
  rw[<-this];grind
 rw[e];refine⟨?_,?_⟩;rw[E4 hd,EZ];rw[E3]
theorem W0r {r d x:Nat}(hr:r<d)(hx:x<18446744073709551616):(r*18446744073709551616+x)/d<18446744073709551616:=by rw[DV oG];have:(r+1)*18446744073709551616<=d*18446744073709551616:=BG _ hr;rw[BM 18446744073709551616 d];omega
theorem y1c (a:Lu)(d:Nat)(st:Qd)(ha:a.length<=1000000000000)(hd:0<d)(hd2:d<4294967296):PR 385 [.sl .no (Qf a),.sc (.int .u64 d)] st (.tup [.sl .no (Qf (Qz (Qc a/d))),.sc (.int .u64 ((Qc a % d:Nat):Int))]):=by
 refine Ql none Tryz.func385 rfl fun E=>Qb ?_;have e1:IntKind.i64.wrap ((a.length:Int)-1)=(a.length:Int)-1:=Q4 _ oG oG;simp-dsimp only[go_sem,e1];refine⟨oG,?_⟩;refine Q3 [true,true,false,false,false,false,true,true,true] 1 0
  (fun m s'=> ∃(k:Nat) (o:Lu) (r:Nat),k=m/\k<=a.length/\o.length=a.length/\Qc (o.drop k)=Qc (a.drop k)/d/\r=Qc (a.drop k) % d/\
   s'=⟨[.sl .no (Qf a),.sc (.int .u64 d),.junk,.junk,.junk,.junk,.ms false 0 0 a.length,.sc (.int .u64 (r:Nat)),.sc (.int .i64 ((k:Int)-1))]++jk 26,[Qf o],[],st⟩) a.length ?_ ?_
 refine Qr ?_;refine⟨a.length,List.replicate a.length 0,0,rfl,BD _,by simp,?_,?_,rfl⟩;rw[C6 (by simp),C6 (BD _)];simp[JU];rw[C6 (BD _)];simp[JU];rintro m s' ⟨k,o,r,rfl,hk,ho,hv,hr,rfl⟩;refine QM ?_ ?_<;>intro h;have h0:0<k:=(oT h);have e2:(k:Int)-1=((k-1:Nat):Int):=oG;have g1:=Zs a (k-1) oG;have hrd:r<d:=(by rw[hr];exact CG _ hd);have hx:(a.getD (k-1) 0).toNat<18446744073709551616:=BT _;have hq:=W0r hrd hx;obtain⟨s1,s2⟩:=W0q a d k hd h0;rw[<-hr] at s1 s2;simp-dsimp only[go_sem,e2,g1];refine⟨⟨oG,oG⟩,?_⟩;refine(j1u r (a.getD (k-1) 0).toNat d st hd hd2 hrd hx).q ?_;have e3:((((r*18446744073709551616+(a.getD (k-1) 0).toNat)/d:Nat):Int))=(((UInt64.ofNat ((r*18446744073709551616+(a.getD (k-1) 0).toNat)/d)).toNat:Nat):Int):=(by rw[Xn _ hq]);have o1:=VS o (k-1) (UInt64.ofNat ((r*18446744073709551616+(a.getD (k-1) 0).toNat)/d)) oG;have e4:IntKind.i64.wrap (((k-1:Nat):Int)-1)=((k-1:Nat):Int)-1:=Q4 _ oG oG;simp-dsimp only[go_sem,e3,o1,e4];refine⟨⟨oG,oG⟩,oG,k-1,oG,k-1,_,_,rfl,oG,by rw[BL];exact ho,?_,s2.symm,rfl⟩;have hd1:=G3 (o.set (k-1) (UInt64.ofNat ((r*18446744073709551616+(a.getD (k-1) 0).toNat)/d))) (k-1);rw[hd1,Wp,BC oG,Xn _ hq,show k-1+1=k by omega,List.drop_set_of_lt oG,hv,s1];have hge:k=0:=(oF h);subst hge;have ht:o.take a.length=o:=BF oG;have hle:a.length<=o.length:=oG;rw[EN,EN] at hv;rw[EN] at hr;refine Qr ?_;refine Zz 0 ?_ ?_;exact QA;refine Qb ?_;simp-dsimp only[go_sem,ht,hle];refine(ZO o st oG).Q ?_;rw[<-ZE o,hv,hr]
theorem yK {d:Nat}(h0:0<d)(h:d<18446744073709551616):Qz d= [UInt64.ofNat d]:=by unfold Qz;rw[J7,dif_neg oG,BJ h,CP h,Wx];rfl
theorem K1v (a b:Lu)(st:Qd)(ha:a.length<=1000000000000)(hb:b.length<=1000000000000)(hd:0<Qc b)(hd2:Qc b<4294967296):PR 373 [.sl .no (Qf a),.sl .no (Qf b)] st (.tup [.sl .no (Qf (Qz (Qc a/Qc b))),.sl .no (Qf (Qz (Qc a % Qc b))),.sc (.bool true)]):=by
 refine Qj Tryz.func373 fun E=> ?_;refine(ZO a st oG).Q ?_;refine(ZO b st oG).q ?_;have la:=J8 a;have hcb:QE b= [UInt64.ofNat (Qc b)]:=(by rw[<-ZE,yK hd oG]);have hvb:=Jw b;rw[<-Jw a];generalize QE a=a at*
 rw[hcb] at hvb⊢;have f1:(((1:Nat):Int)==0)=false:=rfl;have f1':((1:Int)==0)=false:=rfl;have f2:(((1:Nat):Int)==1)=true:=rfl;have hl1:(Qf [UInt64.ofNat (Qc b)]).length=1:=rfl;simp-dsimp only[go_sem,f1,f1',hl1];refine(Hi a [UInt64.ofNat (Qc b)] st oG (by simp)).q ?_;rw[hvb];by_cases hlt:Qc a<Qc b;have h2:decide (X0 (Qc a) (Qc b)<0)=true:=q_h (by unfold X0 Zm;split<;>(try split)<;>omega);simp-dsimp only[go_sem,h2];refine((G7 a st oG).plain).Q ?_;rw[CP hlt,BJ hlt,Vc,<-ZE a];rfl;have h2:decide (X0 (Qc a) (Qc b)<0)=false:=q_g (by unfold X0 Zm;split<;>(try split)<;>omega);have g0:(Qf [UInt64.ofNat (Qc b)]).getD 0 .junk= .sc (.int .u64 ((Qc b:Nat):Int)):=by show PV.sc (.int .u64 (((UInt64.ofNat (Qc b)).toNat:Nat):Int))=_;rw[Xn _ oG]
 simp-dsimp only[go_sem,h2,f2,hl1,g0];refine(y1c a (Qc b) st oG hd hd2).q ?_;have hm:=CG (Qc a) hd;have g2:PV.sc (.int .u64 ((Qc a % Qc b:Nat):Int))=PV.sc (.int .u64 (((UInt64.ofNat (Qc a % Qc b)).toNat:Nat):Int)):=(by rw[Xn _ oG]);rw[g2];refine Qr ?_;refine(ZO [UInt64.ofNat (Qc a % Qc b)] st (by simp)).Q ?_;have hw:Qc [UInt64.ofNat (Qc a % Qc b)]=Qc a % Qc b:=by show(UInt64.ofNat (Qc a % Qc b)).toNat+18446744073709551616*0=_;rw[Xn _ oG,DQ,B1]
 rw[<-ZE [UInt64.ofNat (Qc a % Qc b)],hw]
theorem Ug (m s:Nat):Qo (m*2^s)<=Qo m+s:=bitlen_le_iff.2 (by rw[B2];exact C5 (KY m) (CT _))
def Yo (a b:Nm)(p:Nat):Nm:=⟨a.neg !=b.neg,a.exp-b.exp-(ZH (Qc a.w) (Qc b.w) p:Int)-1,Qz (Ks (Qc a.w) (Qc b.w) p)⟩
theorem w0y (a b:Nm)(p:Nat)(st:Qd)(ha:Qh a=true)(hb:Qh b=true)(hp:p<=256)(h0:0<Qc b.w)(h1:Qc b.w<4294967296):
 PR 347 [.agg (Qg a),.agg (Qg b),.sc (.int .i64 p)] st (.agg (Qg (Yo a b p))):=by
 have ba:=Xo ha;have bb:=Xo hb;have la:=ba.1;have lb:=bb.1;have hba:=Vb a.w;have hbb:=Vb b.w;have mb:Qo (Qc b.w)<=32:=bitlen_le_iff.2 oG;have hB:QF b.w=Qo (Qc b.w):=rfl;have hA:QF a.w=Qo (Qc a.w):=rfl;have ml:ZH (Qc a.w) (Qc b.w) p=p+2+QF b.w-QF a.w:=rfl;have ml2:=Q0j (a:=Qc a.w) (b:=Qc b.w) mb hp;have e1:IntKind.i64.wrap ((p:Int)+2)=((p+2:Nat):Int):=(by rw[Q4 _ oG oG];omega);have e2:IntKind.i64.wrap (((p+2:Nat):Int)+(QF b.w:Int))=((p+2+QF b.w:Nat):Int):=(by rw[Q4 _ oG oG];omega);have e3:IntKind.i64.wrap (((p+2+QF b.w:Nat):Int)-(QF a.w:Int))=((p+2+QF b.w:Nat):Int)-(QF a.w:Int):=Q4 _ oG oG;have mx:(if 0>((p+2+QF b.w:Nat):Int)-(QF a.w:Int) then 0 else((p+2+QF b.w:Nat):Int)-(QF a.w:Int))=((ZH (Qc a.w) (Qc b.w) p:Nat):Int):=by rw[ml];split<;>omega
 generalize hs:ZH (Qc a.w) (Qc b.w) p=s at*
 refine Qj Tryz.func347 fun E=> ?_;refine Q5 56 (Qi [0,1,2,3,6,7] (.step 4 [7] (Qi [5,8,9,10,11] .done))) ?_;refine Qr ?_;refine(WM b.w _ oG).Q ?_;refine(WM a.w _ oG).q ?_;simp-dsimp only[go_sem,e1,e2,e3,mx];refine Q5 56 (Qi [0,1,2,4,5] (.step 3 [5] (Qi [6,7,8,9,10,11,12,13] .done))) ?_;refine Qr ?_;refine(Yd a.w s _ oG oG).Q ?_;have hw1:=Gz (Qc a.w*2^s);have hw2:Qo (Qc a.w*2^s)<=4096+300:=(by have:=Ug (Qc a.w) s;omega);have hw:(Qz (Qc a.w*2^s)).length<=100:=oG;have hq:(Qz (Qc a.w*2^s/Qc b.w)).length<=100:=B7 (Uq (DB _ _)) hw;refine(K1v (Qz (Qc a.w*2^s)) b.w _ oG oG h0 h1).q ?_;rw[Xu];refine Qr ?_;refine(Yd (Qz (Qc a.w*2^s/Qc b.w)) 1 _ oG oG).q ?_;rw[Xu,Nat.pow_one];have e4:IntKind.i64.wrap (a.exp-b.exp)=a.exp-b.exp:=Q4 _ (by have:=ba.2;have:=bb.2;omega) (by have:=ba.2;have:=bb.2;omega);have e5:IntKind.i64.wrap (a.exp-b.exp-(s:Int))=a.exp-b.exp-(s:Int):=Q4 _ (by have:=ba.2;have:=bb.2;omega) (by have:=ba.2;have:=bb.2;omega);have e6:IntKind.i64.wrap (a.exp-b.exp-(s:Int)-1)=a.exp-b.exp-(s:Int)-1:=Q4 _ (by have:=ba.2;have:=bb.2;omega) (by have:=ba.2;have:=bb.2;omega);have hlen:(Qz (Qc a.w*2^s % Qc b.w)).length=0<->Qc a.w*2^s % Qc b.w=0:=by constructor;intro h;have h2:=Xu (Qc a.w*2^s % Qc b.w);rw[BY h] at h2;exact h2.symm;intro h;rw[h,Vc];rfl
 have hq2:Qc a.w*2^s/Qc b.w*2=2*(Qc a.w*2^s/Qc b.w):=BM _ _;have hl2:(Qz (Qc a.w*2^s/Qc b.w*2)).length<=200:=by have:=Gz (Qc a.w*2^s/Qc b.w*2);have h2:=Ug (Qc a.w*2^s/Qc b.w) 1;rw[Nat.pow_one] at h2;have h3:=qe (DB (Qc a.w*2^s) (Qc b.w));omega
 have hqm:Ks (Qc a.w) (Qc b.w) p=2*(Qc a.w*2^s/Qc b.w)+if Qc a.w*2^s % Qc b.w=0 then 0 else 1:=by unfold Ks;rw[hs]
 unfold Yo;rw[hs,hqm];generalize Qc a.w*2^s/Qc b.w=q at*
 generalize Qc a.w*2^s % Qc b.w=rr at*
 by_cases hz:rr=0;have f1:decide (((Qz rr).length:Int)>0)=false:=q_g (by have:=hlen.2 hz;omega);simp-dsimp only[go_sem,f1,e4,e5,e6];rw[BC hz,B1,hq2];rfl;have f1:decide (((Qz rr).length:Int)>0)=true:=q_h (by have:=fun h=>hz (hlen.1 h);omega);simp-dsimp only[go_sem,f1];refine(zM (Qz (q*2)) [1] _ oG (by simp)).q ?_;have h1:Qc [1]=1:=rfl;rw[Xu,h1,hq2];simp-dsimp only[go_sem,e4,e5,e6];rw[BA hz];rfl
theorem Nl {a b:Nm}{p:Nat}(h:Qc a.w≠0):ofX (Yo a b p)=XB (ofN a) (ofN b) p:=by unfold XB;rw[BA (show¬(ofN a).m=0 from h)];show Zf (a.neg !=b.neg) (Qc (Qz (Ks (Qc a.w) (Qc b.w) p))) _=_;rw[Xu];rfl
theorem y0d {a b:Nm}{p:Nat}(ha:Qh a=true)(hb:Qh b=true)(hp:p<=256)(h1:Qc b.w<4294967296):bd 1000000 1000000 (Yo a b p):=by
 have ba:=Xo ha;have bb:=Xo hb;have la:=ba.1;have hba:=Vb a.w;have hA:QF a.w=Qo (Qc a.w):=rfl;have mb:Qo (Qc b.w)<=32:=bitlen_le_iff.2 oG;have ml2:=Q0j (a:=Qc a.w) (b:=Qc b.w) mb hp;refine⟨?_,?_,?_⟩;show(Qz (Ks (Qc a.w) (Qc b.w) p)).length<=1000000;have h1:=Gz (Ks (Qc a.w) (Qc b.w) p);have h2:Ks (Qc a.w) (Qc b.w) p<=Qc a.w*2^ZH (Qc a.w) (Qc b.w) p*2^2:=by unfold Ks;have:=DB (Qc a.w*2^ZH (Qc a.w) (Qc b.w) p) (Qc b.w);have:=Nat.mod_le (Qc a.w*2^ZH (Qc a.w) (Qc b.w) p) (Qc b.w);split;omega;rename_i hne;have:Qc a.w*2^ZH (Qc a.w) (Qc b.w) p≠0:=fun e=>(by rw[e,Nat.zero_mod] at hne;exact hne rfl);omega
 have h3:=qe h2;have h4:=Ug (Qc a.w*2^ZH (Qc a.w) (Qc b.w) p) 2;have h5:=Ug (Qc a.w) (ZH (Qc a.w) (Qc b.w) p);omega;show -((1000000:Nat):Int)<=a.exp-b.exp-(ZH (Qc a.w) (Qc b.w) p:Int)-1;have:=ba.2;have:=bb.2;omega;show a.exp-b.exp-(ZH (Qc a.w) (Qc b.w) p:Int)-1<=((1000000:Nat):Int);have:=ba.2;have:=bb.2;omega
theorem Mh (a b:Nm)(p:Int)(up:Bool)(st:Qd)(ha:Qh a=true)(hb:Qh b=true)(hp:Qt p=true)(h0:0<Qc b.w)(h1:Qc b.w<4294967296):
 PR 310 [.agg (Qg a),.agg (Qg b),.sc (.int .i64 p),.sc (.bool up)] st (.tup [.agg (Qg (ZT a b p up).1),.sc (.int .i64 (ZT a b p up).2)]):=by
 have wa:=QC ha;have wb:=QC hb;unfold wN at wa wb;obtain⟨q,rfl,hq8,hq256,hqq⟩:=Ys hp;refine Qj Tryz.func310 fun E=> ?_;refine(XE a _ oG).q ?_;rw[ha];refine Qr ?_;refine(XE b _ oG).q ?_;rw[hb];refine Qr ?_;refine(JY _ _).q ?_;rw[hp];have hbl:((b.w.length:Int)==0)=false:=CL.2 (fun e=>by have:b.w= []:=BY oG;rw[this,JU] at h0;omega);simp-dsimp only[go_sem,hbl];by_cases hz:a.w= [];have hal:((a.w.length:Int)==0)=true:=(by rw[hz];rfl);simp-dsimp only[go_sem,hal];unfold ZT XB;rw[BC (show(ofN a).m=0 by show Qc a.w=0;rw[hz,JU])];unfold QX;rw[BC (by show Qo 0<=_;rw[Uf];omega)];rfl;have hal:((a.w.length:Int)==0)=false:=CL.2 (fun e=>hz (BY oG));have hv:Qc a.w≠0:=fun e=>hz ((KO ha).1 e);simp-dsimp only[go_sem,hal];refine(w0y a b q _ ha hb hq256 h0 h1).Q ?_;refine(GR (Yo a b q) q up _ (y0d ha hb hq256 h1) oG oG).q ?_;rw[Nl hv];refine Qr ?_;unfold ZT;rw[hqq]
set_option maxHeartbeats 16000000 in
theorem Z0r (a:Ivl)(c:Nm)(p:Int)(st:Qd)(ha:wI a)(hc:Qh c=true)(hpos:0<qN c)(h0:0<Qc c.w)(h1:Qc c.w<4294967296):
 PR 257 [.agg (Qn a),.agg (Qn ⟨c,c⟩),.sc (.int .i64 p)] st (.tup [.agg (Qn (Xz a c p).1),.sc (.int .i64 (Xz a c p).2)]):=by
 have wc:=QC hc;have hcl:c.w.length<=10000000000000:=(by unfold wN at wc;omega);have hcc:=k6 hc;have hs:0<QJ c:=(GN c).2 hpos;have z1:decide (QJ c<=0)=false:=q_g oG;have z2:decide (QJ c<0)=false:=q_g oG;refine Qj Tryz.func257 fun E=> ?_;refine(I1 a ⟨c,c⟩ p _ ha ⟨wc,wc⟩).q ?_;rw[hcc,Bool.and_true];refine QM ?_ ?_<;>intro h;refine Qr ?_;rw[Xz,BA (fun hh=>by simp[hh.1,hh.2] at h)];rfl
 . have hv:Qp a=true/\Qt p=true:=(by simpa using h);obtain⟨r1,r3⟩:=hv;obtain⟨a1,a2,_⟩:=Xg r1;refine Qr ?_;refine(Vz c _ hcl).q ?_;simp-dsimp only[go_sem,z1];refine(Vz c _ hcl).q ?_;simp-dsimp only[go_sem,z2];refine Q5 84 (Qi [0,1,2,3] (.alt (.step 4 [1,3] (.step 5 [1,3] (.step 6 [3] (.step 7 [] (.done))))) (.step 5 [1,3] (.step 4 [1,3] (.step 6 [3] (.step 7 [] (.done))))))) ?_;refine Qr ?_;have sa1:=QT a1;have sa2:=QT a2;have wa1:=QC a1;have wa2:=QC a2;unfold wN at wa1 wa2;have hall:Xz a c p=if (ZT a.lo c p false).2=0/\(ZT a.hi c p true).2=0 then(⟨(ZT a.lo c p false).1,(ZT a.hi c p true).1⟩,0) else(default,2):=by unfold Xz;rw[BC ⟨r1,r3⟩];rfl
   have u1:(ZT a.lo c p false).2=0\/(ZT a.lo c p false).2=2:=zC _;have u2:(ZT a.hi c p true).2=0\/(ZT a.hi c p true).2=2:=zC _;have d1:=fun st=>Mh a.lo c p false st a1 hc r3 h0 h1;have d2:=fun st=>Mh a.hi c p true st a2 hc r3 h0 h1;generalize ZT a.lo c p false=x at*
   generalize ZT a.hi c p true=y at*
   obtain⟨x,ex⟩:=x;obtain⟨y,ey⟩:=y;simp only at u1 u2 hall d1 d2;refine And.intro ?_ ?_
   all_goals
    refine(Vz a.lo _ oG).q ?_;rcases u1 with rfl | rfl
    . have g1:((0:Int) !=0)=false:=rfl;rcases u2 with rfl | rfl
      . rw[hall,BC ⟨rfl,rfl⟩];cases q1:decide (QJ a.lo<0)
        all_goals
         simp-dsimp only[go_sem,q1];refine(Vz a.hi _ oG).q ?_;cases q2:decide (QJ a.hi<0)
         all_goals
          simp-dsimp only[go_sem,q2];refine(d1 _).q ?_;simp-dsimp only[go_sem,g1];refine(d2 _).q ?_;simp-dsimp only[go_sem,g1]
      . have g2:((2:Int) !=0)=true:=rfl;rw[hall,BA (fun h=>absurd h.2 (by decide))];cases q1:decide (QJ a.lo<0)
        all_goals
         simp-dsimp only[go_sem,q1];refine(Vz a.hi _ oG).q ?_;cases q2:decide (QJ a.hi<0)
         all_goals
          simp-dsimp only[go_sem,q2];refine(d1 _).q ?_;simp-dsimp only[go_sem,g1];refine(d2 _).q ?_;simp-dsimp only[go_sem,g2];rfl
    . have g2:((2:Int) !=0)=true:=rfl;rw[hall,BA (fun h=>absurd h.1 (by decide))];cases q1:decide (QJ a.lo<0)
      all_goals
       simp-dsimp only[go_sem,q1];refine(Vz a.hi _ oG).q ?_;cases q2:decide (QJ a.hi<0)
       all_goals
        simp-dsimp only[go_sem,q2];refine(d1 _).q ?_;simp-dsimp only[go_sem,g2];rfl
theorem Z0o (x:Nm)(k:Nat)(st:Qd)(hx:Qh x=true)(hk:k<=8):PCalls Tryz.prog 369 [.agg (Qg x),.sc (.int .i64 k)] st (fun r st'=> ∃y,bd 1000 1000000 y/\qN y=Kb (qN x) k/\r= .agg (Qg y)/\st'=st):=by
 have hb:=Xo hx;refine Qj Tryz.func369 fun E=> ?_;refine(UL _).Q ?_;refine Q3 [false,false,true,false,true,true,false,true,true] 3 0
  (fun n s=> ∃i y,n=k-i/\i<=k/\bd (1+64*i) (65536*i) y/\qN y=Kb (qN x) i/\s=⟨[.junk,.junk,.lp 0 0,.junk,.lp 1 0,.lp 2 0,.junk,.sc (.int .i64 k),.sc (.int .i64 (i:Nat))]++jk 6,[Qg x,[.sc (.bool false),.sc (.int .i64 0),.sl .full []],Qg y],[],st⟩) k ?_ ?_
 refine Qr ?_;exact⟨0,oneN,oG,oG,⟨by decide,by decide,by decide⟩,YI,rfl⟩;rintro n s ⟨i,y,rfl,hi,hy,hq,rfl⟩;refine QM ?_ ?_<;>intro h';have hlt:i<k:=(by have:=q_b h';omega);have e3:=QN i oG;refine Qr ?_;refine(Hs y x _ _ _ _ _ hy hb oG oG oG oG).mono ?_;rintro r st ⟨z,hz,hzq,rfl,rfl⟩;simp-dsimp only[go_sem,e3];exact⟨k-(i+1),oG,i+1,z,rfl,oG,hz.mono oG oG,by rw[hzq,hq];rfl,rfl⟩;have hge:i=k:=(by have:=q_c h';omega);subst hge;refine Qr ?_;refine Qq ?_;exact⟨y,hy.mono oG oG,hq,rfl⟩
theorem z1m {n:Nat}(h:((n:Int).tmod 2==0)=true):n % 2=0:=by have h1:=Gw h;have e:(n:Int).tmod 2=((n % 2:Nat):Int):=rfl;omega
theorem z1n {n:Nat}(h:((n:Int).tmod 2==0)=false):n % 2≠0:=by have h1:=ql h;have e:(n:Int).tmod 2=((n % 2:Nat):Int):=rfl;omega
set_option maxHeartbeats 8000000 in
theorem U1d (a:Ivl)(k p:Int)(st:Qd)(ha:wI a):PR 341 [.agg (Qn a),.sc (.int .i64 k),.sc (.int .i64 p)] st (.tup [.agg (Qn (J4 a k p).1),.sc (.int .i64 (J4 a k p).2)]):=by
 refine Ql none Tryz.func341 rfl fun E=>Qe (Qb ?_);refine Qr ?_;refine Qa ?_;refine(I1 a a p _ ha ha).q ?_;cases hv:(Qp a&&Qp a&&Qt p) with
 | false=>
  have hp:J4 a k p=(default,1):=by rw[J4,BA];rintro⟨h1,_,_,h4⟩;rw[h1,h4] at hv;cases hv
  simp-dsimp only[go_sem,hv];rw[hp];rfl
 | true=>
  simp only[q_i] at hv;obtain⟨⟨r1,_⟩,r3⟩:=hv;refine Qr ?_;refine gkF ?_ ?_<;>intro g1
  . have g1':=q_c g1;simp-dsimp only[go_sem,g1];refine ck ?_ ?_<;>intro g2;have g2':=q_b g2;have hp:J4 a k p=(default,1):=by rw[J4,BA];rintro⟨_,h2,h3,_⟩;omega
    refine Qr ?_;rw[hp];rfl
    . have g2':=q_c g2;obtain⟨q,rfl,q1,q2,q3⟩:=Ys r3;obtain⟨n,rfl⟩: ∃n:Nat,k=n:=⟨k.toNat,oG⟩;have hn:n<=8:=oG;obtain⟨a1,a2,_⟩:=Xg r1;have hp:J4 a n q=XN (QX (Ha a n) q false) (QX (Hb a n) q true):=(by rw[J4,BC ⟨r1,oG,oG,r3⟩,q3,FV]);rw[hp];clear hp;refine Qr ?_;refine VE [false,true,true,true,false,false,true,true,true,true] 4 0 (fun s=> ∃y z,bd 1000 1000000 y/\qN y=Kb (qN a.lo) n/\bd 1000 1000000 z/\qN z=Kb (qN a.hi) n/\
       (s=⟨[.junk,.sc (.int .i64 (n:Nat)),.sc (.int .i64 (q:Nat)),.lp 0 0,.junk,.junk,.lp 1 0,.sc (.int .i64 0),.lp 2 0,.lp 3 0]++jk 56,[Qn a,[.sc (.bool false),.sc (.int .i64 0),.sl .full [],.sc (.bool false),.sc (.int .i64 0),.sl .full []],Qg y,Qg z],[],st⟩\/s=⟨[.junk,.sc (.int .i64 (n:Nat)),.sc (.int .i64 (q:Nat)),.lp 0 0,.junk,.junk,.lp 1 0,.sc (.int .i64 0),.lp 3 0,.lp 2 0]++jk 56,[Qn a,[.sc (.bool false),.sc (.int .i64 0),.sl .full [],.sc (.bool false),.sc (.int .i64 0),.sl .full []],Qg z,Qg y],[],st⟩)) ?_ ?_
      . refine Q5 66 (Qi [0,1,2,4,5,6] (.alt (.step 3 [5] (.alt (.step 7 [] (.alt (.step 8 [1,5] (.step 9 [1,5] (.step 10 [] (.step 11 [] (.done))))) (.step 9 [1,5] (.step 8 [1,5] (.step 10 [] (.step 11 [] (.done))))))) (.alt (.step 8 [1,5] (.alt (.step 7 [] (.step 9 [1,5] (.step 10 [] (.step 11 [] (.done))))) (.step 9 [1,5] (Qi [7,10,11] .done)))) (.step 9 [1,5] (.alt (.step 7 [] (.step 8 [1,5] (.step 10 [] (.step 11 [] (.done))))) (.step 8 [1,5] (Qi [7,10,11] .done))))))) (.alt (.step 8 [1,5] (.alt (.step 3 [5] (.alt (.step 7 [] (.step 9 [1,5] (.step 10 [] (.step 11 [] (.done))))) (.step 9 [1,5] (Qi [7,10,11] .done)))) (.step 9 [1,5] (.step 3 [5] (Qi [7,10,11] .done))))) (.step 9 [1,5] (.alt (.step 3 [5] (.alt (.step 7 [] (.step 8 [1,5] (.step 10 [] (.step 11 [] (.done))))) (.step 8 [1,5] (Qi [7,10,11] .done)))) (.step 8 [1,5] (.step 3 [5] (Qi [7,10,11] .done)))))))) ?_;refine Qr ?_
        repeat' first
         | exact⟨y,z,hy,hyq,hz,hzq,.inl rfl⟩
         | exact⟨y,z,hy,hyq,hz,hzq,.inr rfl⟩
         | refine And.intro ?_ ?_
         | (refine(Z0o a.lo n _ a1 hn).mono ?_;rintro r st ⟨y,hy,hyq,rfl,rfl⟩;simp-dsimp only[go_sem])
         | (refine(Z0o a.hi n _ a2 hn).mono ?_;rintro r st ⟨z,hz,hzq,rfl,rfl⟩;simp-dsimp only[go_sem])
      rintro s ⟨y,z,hy,hyq,hz,hzq,hs⟩;have sy:=W8 hy oG oG;have sz:=W8 hz oG oG;have hlow:=Q1q r1 hyq hzq;have hhigh:=(Ow r1 hyq hzq).2;have bl:=zU hy hz;have bg:=zZ hy hz;have c1:=fun st=>vw y z st sy sz;have c2:=fun st=>I4 y z st sy sz;generalize Z9 y z=lo at*
      generalize Zv y z=hi at*
      refine VE [false,true,true,true,false,false,true,true,false,false,true,true] 6 0 (fun s=> ∃X Y,s=⟨[.junk,.sc (.int .i64 (n:Nat)),.sc (.int .i64 (q:Nat)),.lp 0 0,.junk,.junk,.lp 1 0,.sc (.int .i64 0),.junk,.junk,.lp 4 0,.lp 5 0]++jk 54,[Qn a,[.sc (.bool false),.sc (.int .i64 0),.sl .full [],.sc (.bool false),.sc (.int .i64 0),.sl .full []],X,Y,Qg lo,Qg hi],[],st⟩\/s=⟨[.junk,.sc (.int .i64 (n:Nat)),.sc (.int .i64 (q:Nat)),.lp 0 0,.junk,.junk,.lp 1 0,.sc (.int .i64 0),.junk,.junk,.lp 5 0,.lp 4 0]++jk 54,[Qn a,[.sc (.bool false),.sc (.int .i64 0),.sl .full [],.sc (.bool false),.sc (.int .i64 0),.sl .full []],X,Y,Qg hi,Qg lo],[],st⟩) ?_ ?_
      . rcases hs with rfl | rfl
        all_goals
         refine Q5 66 (Qi [0,1,3,4] (.alt (.step 2 [3,4] (.alt (.step 5 [] (.alt (.step 6 [0,1,3,4] (.step 7 [0,1,3,4] (.step 8 [] (.step 9 [] (.done))))) (.step 7 [0,1,3,4] (.step 6 [0,1,3,4] (.step 8 [] (.step 9 [] (.done))))))) (.alt (.step 6 [0,1,3,4] (.alt (.step 5 [] (.step 7 [0,1,3,4] (.step 8 [] (.step 9 [] (.done))))) (.step 7 [0,1,3,4] (Qi [5,8,9] .done)))) (.step 7 [0,1,3,4] (.alt (.step 5 [] (.step 6 [0,1,3,4] (.step 8 [] (.step 9 [] (.done))))) (.step 6 [0,1,3,4] (Qi [5,8,9] .done))))))) (.alt (.step 6 [0,1,3,4] (.alt (.step 2 [3,4] (.alt (.step 5 [] (.step 7 [0,1,3,4] (.step 8 [] (.step 9 [] (.done))))) (.step 7 [0,1,3,4] (Qi [5,8,9] .done)))) (.step 7 [0,1,3,4] (.step 2 [3,4] (Qi [5,8,9] .done))))) (.step 7 [0,1,3,4] (.alt (.step 2 [3,4] (.alt (.step 5 [] (.step 6 [0,1,3,4] (.step 8 [] (.step 9 [] (.done))))) (.step 6 [0,1,3,4] (Qi [5,8,9] .done)))) (.step 6 [0,1,3,4] (.step 2 [3,4] (Qi [5,8,9] .done)))))))) ?_;refine Qr ?_
         repeat' first
          | exact⟨_,_,.inl rfl⟩
          | exact⟨_,_,.inr rfl⟩
          | refine And.intro ?_ ?_
          | (refine(c1 _).mono ?_;rintro r st ⟨rfl,rfl⟩;simp-dsimp only[go_sem])
          | (refine(c2 _).mono ?_;rintro r st ⟨rfl,rfl⟩;simp-dsimp only[go_sem])
      rintro s ⟨X,Y,rfl | rfl⟩
      all_goals
       clear c1 c2;refine Qq ?_;refine gkT ?_ ?_<;>intro g3;have g3':0<n:=(oT g3);simp-dsimp only[go_sem,g3];refine gkT ?_ ?_<;>intro g4;have g4':=z1m g4;simp-dsimp only[go_sem,g3,g4];refine(Vz a.lo _ (by have:=(QT a1).1;omega)).q ?_;simp-dsimp only[go_sem,g3,g4];refine gkT ?_ ?_<;>intro g5;have g5':=q_b g5;simp-dsimp only[go_sem,g3,g4,g5];refine(Vz a.hi _ (by have:=(QT a2).1;omega)).q ?_;simp-dsimp only[go_sem,g3,g4,g5];refine ck ?_ ?_<;>intro g6;have g6':=q_b g6;rw[BC ⟨g3',g4',g5',g6'⟩] at hlow;refine Qr ?_;refine(YP default hi q _ (Xo (show Qh default=true by decide)|>.mono oG oG) (bg.mono oG oG) oG oG).q ?_;rw[hlow,hhigh];exact QA;have g6':=q_c g6;rw[BA (fun e=>g6' e.2.2.2)] at hlow;refine Qr ?_;refine(YP lo hi q _ (bl.mono oG oG) (bg.mono oG oG) oG oG).q ?_;rw[hlow,hhigh];exact QA;have g5':=q_c g5;rw[BA (fun e=>g5' e.2.2.1)] at hlow;simp-dsimp only[go_sem,g3,g4,g5];refine(YP lo hi q _ (bl.mono oG oG) (bg.mono oG oG) oG oG).q ?_;rw[hlow,hhigh];exact QA;have g4':=z1n g4;rw[BA (fun e=>g4' e.2.1)] at hlow;simp-dsimp only[go_sem,g3,g4];refine(YP lo hi q _ (bl.mono oG oG) (bg.mono oG oG) oG oG).q ?_;rw[hlow,hhigh];exact QA;have g3': ¬0<n:=(oF g3);rw[BA (fun e=>g3' e.1)] at hlow;simp-dsimp only[go_sem,g3];refine(YP lo hi q _ (bl.mono oG oG) (bg.mono oG oG) oG oG).q ?_;rw[hlow,hhigh];exact QA
  have g1':=q_b g1;have hp:J4 a k p=(default,1):=by rw[J4,BA];rintro⟨_,h2,h3,_⟩;omega
  simp-dsimp only[go_sem,g1];rw[hp];rfl
theorem Y4 {α:Type}[Inhabited α](l:List α)(f:α->Bool):l.all f=true<-> ∀i,i<l.length->f (l.getD i default)=true:=by rw[q_d];constructor;intro h i hi;have:l.getD i default=l[i]:=(by simp[q_a,hi]);rw[this];exact h _ (EA hi);intro h x hx;obtain⟨i,hi,e⟩:=CM.1 hx;have:=h i hi;rw[show l.getD i default=l[i] by simp[q_a,hi],e] at this;exact this
theorem J1x (y:Ivl)(st:Qd)(hwi:wI y):PR 302 [.agg (Qn y)] st (.sc (.bool (!Qp y))):=by refine Qj Tryz.func302 fun E=> ?_;refine(JL y _ hwi).Q0
theorem k1w (l:Li)(st:Qd)(hl:l.length<=100000000000)(hw: ∀i,i<l.length->wI (l.getD i default)):PR 301 [.sl .no (Qk l),.fn (.func 302) [] []] st (.sc (.bool (!l.all Qp))):=by
 refine Qj Tryz.func301 fun E=> ?_
 suffices h:PCalls Tryz.prog 340 [.sl .no (Qk l),.fn (.func 302) [] []] st (fun r st'=>(∃k:Int,r= .sc (.int .i64 k)/\decide (k>=0)= !l.all Qp)/\st'=st) by refine h.mono ?_;rintro r st ⟨⟨k,rfl,hk⟩,rfl⟩;simp-dsimp only[go_sem,hk]
 refine Qj Tryz.func340 fun E=> ?_;refine Q3 [true,true,false,false,false,false,false,true,true] 0 0
  (fun n s=> ∃i,n=l.length-i/\i<=l.length/\(∀j,j<i->Qp (l.getD j default)=true)/\s=⟨[.sl .no (Qk l),.fn (.func 302) [] [],.junk,.junk,.junk,.junk,.junk,.sc (.int .i64 l.length),.sc (.int .i64 (i:Nat))]++jk 10,[],[],st⟩) l.length ?_ ?_
 refine Qr ?_;exact⟨0,oG,oG,fun j hj=>oG,rfl⟩;rintro n s ⟨i,rfl,hi,hr,rfl⟩;refine QM ?_ ?_<;>intro h';have hlt:i<l.length:=(by have:=q_b h';omega);have e1:=Zt l i hlt;have e3:=QN i oG;have hc:Qm Tryz.prog 302=true:=rfl;simp-dsimp only[go_sem,e1,hc];refine⟨oG,?_⟩;refine(J1x (l.getD i default) _ (hw i hlt)).Q ?_;refine ck ?_ ?_<;>intro h2;have hf:Qp (l.getD i default)=false:=(by simpa using h2);have hv:l.all Qp=false:=CS.2 fun e=>by have:=(Y4 l Qp).1 e i hlt;rw[hf] at this;cases this
 refine Qr ?_;exact⟨_,rfl,by rw[hv,q_h oG];rfl⟩;have ht:Qp (l.getD i default)=true:=(by simpa using h2);simp-dsimp only[go_sem,e3];refine⟨l.length-(i+1),oG,i+1,rfl,oG,fun j hj=> ?_,rfl⟩;by_cases e:j=i;subst e;exact ht;exact hr j oG;have hge:i=l.length:=(by have:=q_c h';omega);have hv:l.all Qp=true:=(Y4 l Qp).2 fun j hj=>hr j oG;refine Qr ?_;refine Qq ?_;exact⟨_,rfl,by rw[hv];rfl⟩
theorem Q1z (m:Mn)(b:Li)(p:Int)(st:Qd)(hl:m.ks.length=b.length)(h4:b.length<=4)(hk:Kr m.ks=true)(hm:Qh m.c=true)(hb: ∀i,i<b.length->wI (b.getD i default)):PR 303 [.agg (Ki m),.sl .no (Qk b),.sc (.int .i64 p)] st (.tup [.agg (Qn (Xj m b p b.length).1),.sc (.int .i64 (Xj m b p b.length).2)]):=by
 refine Qj Tryz.func303 fun E=> ?_;refine(KI m.c _ (ZF (QT hm))).Q ?_;refine Q3 ([false,true,true,false,false,false,true,false,true]++rF 8++ [true,true,true]) 3 0
  (fun n s=> ∃i,n=b.length-i/\i<=b.length/\(Xj m b p i).2=0/\s=⟨[.junk,.sl .no (Qk b),.sc (.int .i64 p),.junk,.junk,.junk,.lp 1 0,.junk,.lp 2 0]++jk 8++ [.sl .no (QU m.ks),.sc (.int .i64 m.ks.length),.sc (.int .i64 (i:Nat))]++jk 33,[Ki m,[.sc (.bool false),.sc (.int .i64 0),.sl .full [],.sc (.bool false),.sc (.int .i64 0),.sl .full []],Qn (Xj m b p i).1],[],st⟩) b.length ?_ ?_
 refine Qr ?_;exact⟨0,oG,oG,rfl,rfl⟩;rintro n s ⟨i,rfl,hi,h0,rfl⟩;have wo:=kH hm b p i;refine QM ?_ ?_<;>intro h';have hlt:i<b.length:=(by have:=q_b h';omega);have e1:=Wr m.ks i oG;have e2:=Zt b i hlt;have e3:=QN i oG;have hnext:Xj m b p (i+1)=if m.ks.getD i 0=0 then Xj m b p i
  else if (J4 (b.getD i default) (m.ks.getD i 0) p).2≠0 then(default,(J4 (b.getD i default) (m.ks.getD i 0) p).2)
  else opI 2 (Xj m b p i).1 (J4 (b.getD i default) (m.ks.getD i 0) p).1 p:=by rw[Xj,BA (by rw[h0];decide)]
 simp-dsimp only[go_sem,e1];refine⟨oG,?_⟩;refine ck ?_ ?_<;>intro h2;rw[BC (Gw h2)] at hnext;simp-dsimp only[go_sem,e3];exact⟨b.length-(i+1),oG,i+1,rfl,oG,by rw[hnext];exact h0,by rw[hnext]⟩;rw[BA (ql h2)] at hnext;have wp:=Q1t (b.getD i default) (m.ks.getD i 0) p;simp-dsimp only[go_sem,e2];refine⟨oG,?_⟩;refine(U1d (b.getD i default) (m.ks.getD i 0) p _ (hb i hlt)).Q ?_;refine ck ?_ ?_<;>intro h3;rw[BC (XI h3)] at hnext;have hs:=kI (m:=m) (b:=b) (p:=p) (i:=i+1) (by rw[hnext];exact XI h3) (b.length-(i+1));rw[show i+1+(b.length-(i+1))=b.length from oG,hnext] at hs;refine Qr ?_;rw[hs];rfl;rw[BA (by rw[Jf h3];decide)] at hnext;refine Qr ?_;refine(UR (Xj m b p i).1 (J4 (b.getD i default) (m.ks.getD i 0) p).1 p _ wo wp).q ?_;rw[<-hnext];refine QM ?_ ?_<;>intro h4;have hs:=kI (m:=m) (b:=b) (p:=p) (i:=i+1) (XI h4) (b.length-(i+1));rw[show i+1+(b.length-(i+1))=b.length from oG] at hs;refine Qr ?_;rw[hs];rfl;simp-dsimp only[go_sem,e3];exact⟨b.length-(i+1),oG,i+1,rfl,oG,Jf h4,rfl⟩;have hge:i=b.length:=(by have:=q_c h';omega);subst hge;refine Qr ?_;refine Qq ?_;rw[h0]
theorem Q1y (q:Lm)(b:Li)(p:Int)(st:Qd)(hq:wP q)(hb:wB b):PR 245 [.sl .no (ZA q),.sl .no (Qk b),.sc (.int .i64 p)] st (.tup [.agg (Qn (Ka q b p).1),.sc (.int .i64 (Ka q b p).2)]):=by
 refine Ql none Tryz.func245 rfl fun E=>Qb ?_;have bad: ¬(ZY q b.length=true/\b.all Qp=true/\Qt p=true)->Ka q b p=(default,1):=fun h=>BA h;refine Qr ?_;refine(zo q _ _ hq).q ?_;cases r1:ZY q (b.length:Int) with
 | false=>
  have hv:=bad (by rintro⟨h,_⟩;rw[r1] at h;cases h);refine Qr ?_;rw[hv];rfl
 | true=>
  refine Qr ?_;refine gkF ?_ ?_<;>intro g1;have g1':=q_c g1;simp-dsimp only[go_sem,g1];refine gkF ?_ ?_<;>intro g2;have g2':=q_c g2;have hc:Qm Tryz.prog 302=true:=rfl;have hp:Qt p=true:=(by unfold Qt;rw[q_h oG,q_h oG];rfl);simp-dsimp only[go_sem,g1,g2,hc];refine(k1w b _ hb.1 hb.2).q ?_;cases r2:b.all Qp with
  | false=>
   have hv:=bad (by rintro⟨_,h,_⟩;rw[r2] at h;cases h);simp-dsimp only[go_sem,g1,g2];rw[hv];rfl
  | true=>
   have hrp:Ka q b p=X5 q b p q.length:=BC ⟨r1,r2,hp⟩;rw[hrp];clear hrp bad;have h4:=((VD _ _).1 r1).1;simp-dsimp only[go_sem,g1,g2];refine Vm 1 ?_;refine Qr ?_;refine Q3 ([false,true,true,false,false,false,true,false,true]++rF 22++ [true,true,true]) 2 0
    (fun n s=> ∃i,n=q.length-i/\i<=q.length/\(X5 q b p i).2=0/\s=⟨[.junk,.sl .no (Qk b),.sc (.int .i64 p),.junk,.junk,.junk,.lp 0 0,.junk,.lp 1 0]++jk 22++ [.sl .no (ZA q),.sc (.int .i64 q.length),.sc (.int .i64 (i:Nat))]++jk 27,[[.sc (.bool false),.sc (.int .i64 0),.sl .full [],.sc (.bool false),.sc (.int .i64 0),.sl .full []],Qn (X5 q b p i).1],[],st⟩) q.length ?_ ?_
   refine Qr ?_;exact⟨0,oG,oG,rfl,rfl⟩;rintro n s ⟨i,rfl,hi,h0,rfl⟩;have wr:=Ni q b p i;refine QM ?_ ?_<;>intro h';have hlt:i<q.length:=(by have:=q_b h';omega);have e1:=Ga q i hlt;have e3:=QN i oG;obtain⟨k1,k2,k3⟩:=GT r1 hlt;have wo:=kH k3 b p b.length;have hnext:X5 q b p (i+1)=if (Xj (q.getD i default) b p b.length).2≠0 then(default,(Xj (q.getD i default) b p b.length).2)
    else opI 0 (X5 q b p i).1 (Xj (q.getD i default) b p b.length).1 p:=by rw[X5,BA (by rw[h0];decide)]
   simp-dsimp only[go_sem,e1];refine⟨oG,?_⟩;refine(Q1z (q.getD i default) b p _ oG oG k2 k3 hb.2).Q ?_;refine ck ?_ ?_<;>intro h3;rw[BC (XI h3)] at hnext;have hs:=kn (q:=q) (b:=b) (p:=p) (i:=i+1) (by rw[hnext];exact XI h3) (q.length-(i+1));rw[show i+1+(q.length-(i+1))=q.length from oG,hnext] at hs;refine Qr ?_;rw[hs];rfl;rw[BA (by rw[Jf h3];decide)] at hnext;refine Qr ?_;refine(YU (X5 q b p i).1 (Xj (q.getD i default) b p b.length).1 p _ wr wo).q ?_;rw[<-hnext];refine QM ?_ ?_<;>intro h4;have hs:=kn (q:=q) (b:=b) (p:=p) (i:=i+1) (XI h4) (q.length-(i+1));rw[show i+1+(q.length-(i+1))=q.length from oG] at hs;refine Qr ?_;rw[hs];rfl;simp-dsimp only[go_sem,e3];exact⟨q.length-(i+1),oG,i+1,rfl,oG,Jf h4,rfl⟩;have hge:i=q.length:=(by have:=q_c h';omega);subst hge;refine Qr ?_;refine Qq ?_;rw[h0]
  have hv:=bad (by rintro⟨_,_,h⟩;unfold Qt at h;simp only[q_i,BN] at h;have:=q_b g2;omega);simp-dsimp only[go_sem,g1,g2];rw[hv];rfl;have hv:=bad (by rintro⟨_,_,h⟩;unfold Qt at h;simp only[q_i,BN] at h;have:=q_b g1;omega);simp-dsimp only[go_sem,g1];rw[hv];rfl
def Xa (f:List (List Mn))(b:List Ivl)(p:Int):List Ivl×Int:=if Xh f=true/\b.length=f.length then Qv (fun i=>Ka (f.getD i []) b p) 0 f.length [] else([],1)
theorem kj {f:Lk}{b:Li}{p:Int}(h: ¬(Xh f=true/\b.length=f.length/\rightB b=true)):Xa f b p=([],1):=by unfold Xa;split;rename_i c;have h4:=((YG f).1 c.1).1;have hb: ¬b.all Qp=true:=fun e=>h ⟨c.1,c.2,by unfold rightB;rw[e,q_h oG,q_h oG];rfl⟩;exact z0l _ h4.1 1 (by decide) fun i=>(by unfold Ka;rw[BA (fun e=>hb e.2.1)]);rfl
theorem q1t (f:Lk)(b:Li)(p:Int)(st:Qd)(hf:wF f)(hb:wB b):PR 181 [.sl .no (QV f),.sl .no (Qk b),.sc (.int .i64 p)] st (.tup [.sl .no (Qk (Xa f b p).1),.sc (.int .i64 (Xa f b p).2)]):=by
 have hfl:=hf.1;refine Qj Tryz.func181 fun E=> ?_;refine(ID f _ hf).q ?_;cases r1:Xh f with
 | false=>
  have hv:=kj (f:=f) (b:=b) (p:=p) (by rintro⟨h,_⟩;rw[r1] at h;cases h);refine Qr ?_;rw[hv];rfl
 | true=>
  have h4:=((YG f).1 r1).1;refine Qr ?_;refine(K7 b _ hb).q ?_;cases r2:rightB b with
  | false=>
   have hv:=kj (f:=f) (b:=b) (p:=p) (by rintro⟨_,_,h⟩;rw[r2] at h;cases h);refine Qr ?_;rw[hv];rfl
  | true=>
   refine QM ?_ ?_<;>intro h;have hne:=WK h;have hv:=kj (f:=f) (b:=b) (p:=p) (by rintro⟨_,h,_⟩;exact hne h);refine Qr ?_;rw[hv];rfl;have heq:=Vs h;have hv:Xa f b p=Qv (fun i=>Ka (f.getD i []) b p) 0 f.length []:=BC ⟨r1,heq⟩;rw[hv];refine Qr ?_;refine X7 8 6 ?_;refine Qr ?_;refine Q3 ([false,true,true,false,false,false,false,false,true]++rF 19++ [true,true,true]) 0 1
    (fun n s=> ∃(i:Nat) (o:Li),n=f.length-i/\i<=f.length/\o.length=i/\Qv (fun i=>Ka (f.getD i []) b p) 0 f.length []=Qv (fun i=>Ka (f.getD i []) b p) i (f.length-i) o/\
     s=⟨[.junk,.sl .no (Qk b),.sc (.int .i64 p),.junk,.junk,.junk,.junk,.junk,.sl (.own 0) (Qk o)]++jk 19++ [.sl .no (QV f),.sc (.int .i64 f.length),.sc (.int .i64 (i:Nat))]++jk 19,[],[(o.length,6)],st⟩) f.length ?_ ?_
   refine Qr ?_;exact⟨0,[],oG,oG,rfl,rfl,rfl⟩;rintro n s ⟨i,o,rfl,hi,ho,hr,rfl⟩;refine QM ?_ ?_<;>intro h';have hlt:i<f.length:=(by have:=q_b h';omega);have e1:=II f i hlt;have e3:=QN i oG;have e4:=KR (fun i=>Ka (f.getD i []) b p) hlt o;simp-dsimp only[go_sem,e1];refine⟨oG,?_⟩;refine(Q1y (f.getD i []) b p _ (hf.2 i hlt) hb).Q ?_;refine ck ?_ ?_<;>intro h2;have hne:=XI h2;refine Qr ?_;rw[hr,e4,BC hne];rfl;have he:=Jf h2;simp-dsimp only[go_sem,e3];refine⟨⟨oG,oG⟩,f.length-(i+1),oG,i+1,o++ [(Ka (f.getD i []) b p).1],rfl,oG,by simp[ho],?_,?_⟩;rw[hr,e4,BA (fun hh=>hh he)];simp[Qk,Qn];have hge:i=f.length:=(by have:=q_c h';omega);subst hge;refine Qr ?_;refine WF (rF 8++ [true]) (Qb ?_);refine Qr ?_;rw[hr,Vg]
theorem v1z (l:Pq)(st:Qd)(hl:l.length<=100000000000):PR 348 [.sl .no (QU l)] st (.sl (.fresh 1) (QU l)):=by refine Ql (some 1) Tryz.func348 rfl fun E=>Qb ?_;refine Qr ?_;intro b hb;cases b;refine Qr ?_;omega;have:l= []:=(by have:=hb rfl;simpa[QU] using this);subst this;exact QA
theorem v1y (l:Pq)(st:Qd)(hl:l.length<=100000000000)(h0:0<l.length):PCalls Tryz.prog 348 [.sl .no (QU l)] st (fun r st'=> ∃off,r= .ms true st.length off l.length/\st'=st++ [List.replicate off PV.junk++QU l]):=by have:=PCalls.owned (P:=Tryz.prog) (f:=348) (args:= [.sl .no (QU l)]) (es:=QU l) (by rw[Y0];exact h0) (fun j hj=>⟨_,Wr l j (by rw[Y0] at hj;exact hj)⟩) (fun p hp=>by simp at hp;subst hp;exact K1b l _) (v1z l [] hl) st;rw[Y0] at this;exact this
set_option maxHeartbeats 8000000 in
theorem Z1b (p:Lm)(i n:Int)(st:Qd)(hp:wP p):PCalls Tryz.prog 312 [.sl .no (ZA p),.sc (.int .i64 i),.sc (.int .i64 n)] st (fun r st'=>r= .tup [.sl .no (ZA (V1 p i n).1),.sc (.int .i64 (V1 p i n).2)]/\ ∃e,st'=st++List.replicate e []):=by
 refine Ql none Tryz.func312 rfl fun E=>Qb ?_;have bad: ¬(ZY p n=true/\0<=i/\i<n)->V1 p i n=([],1):=fun h=>BA h;refine Qr ?_;refine(zo p n _ hp).q ?_;cases r1:ZY p n with
 | false=>
  have hv:=bad (by rintro⟨h,_⟩;rw[r1] at h;cases h);refine Qr ?_;rw[hv];exact⟨rfl,0,by simp⟩
 | true=>
  refine Qr ?_;refine gkF ?_ ?_<;>intro g1
  . have g1':=q_c g1;simp-dsimp only[go_sem,g1];refine ck ?_ ?_<;>intro g2;have hv:=bad (by rintro⟨_,_,h⟩;have:=q_b g2;omega);refine Qr ?_;rw[hv];exact⟨rfl,0,by simp⟩
    . have g2':=q_c g2;obtain⟨k,rfl⟩: ∃k:Nat,i=k:=⟨i.toNat,oG⟩;have hv:V1 p k n=Jr k p []:=(by rw[V1,BC ⟨r1,oG,oG⟩,FV]);rw[hv];clear hv bad;have h4:=((VD _ _).1 r1).1;refine Qr ?_;refine X7 8 4 ?_;refine Qr ?_;refine XK ([false,true,false,false,false,false,false,false,true]++rF 18++ [true,true,true]) 0 1
       (fun c s=> ∃(j:Nat) (o:Lm) (e:Nat),c=p.length-j/\j<=p.length/\o.length<=j/\Jr k p []=Jr k (p.drop j) o/\
        s=⟨[.junk,.sc (.int .i64 k),.junk,.junk,.junk,.junk,.junk,.junk,.sl (.own 0) (ZA o)]++jk 18++ [.sl .no (ZA p),.sc (.int .i64 p.length),.sc (.int .i64 (j:Nat))]++jk 42,[],[(o.length,4)],st++List.replicate e []⟩) p.length ?_ ?_
      refine Qr ?_;exact⟨0,[],0,oG,oG,by simp,by rw[EN],by simp[x1a]⟩
      . rintro c s ⟨j,o,e,rfl,hj,ho,hr,rfl⟩;generalize hS:st++List.replicate e []=S;refine Qa ?_;refine Qa ?_;refine ck ?_ ?_<;>intro h'
        . have hlt:j<p.length:=by have:=q_b h';omega
          have e1:=Ga p j hlt;have e3:=QN j oG;obtain⟨k1,k2,k3⟩:=GT r1 hlt;rw[k1b hlt] at hr;generalize hm:p.getD j default=m at*
          have hkl:k<m.ks.length:=oG;have f1:=Wr m.ks k hkl;have hk:=za k2 k hkl;refine Qr ?_;refine Qe (Xx (Qe (Qb ?_)));simp-dsimp only[go_sem,e1];refine⟨oG,?_⟩;refine Qe (Qb ?_);simp-dsimp only[go_sem,f1];refine⟨oG,?_⟩;refine ck ?_ ?_<;>intro h2;have h2':=Gw h2;rw[BC h2'] at hr;refine Qr ?_;refine Qb ?_;simp-dsimp only[go_sem,e3];exact⟨p.length-(j+1),oG,j+1,o,e,rfl,oG,oG,hr,by rw[<-hS]⟩
          . have h2':=ql h2;rw[BA h2'] at hr;obtain⟨x,hx⟩: ∃x:Nat,m.ks.getD k 0=x:=⟨(m.ks.getD k 0).toNat,oG⟩;rw[hx] at f1;rw[hx,FV] at hr;have wi:wN (Jn x):=ZF (QT (JZ (K5 (IY ⟨false,0,[UInt64.ofNat x]⟩))));have wc:wN m.c:=ZF (QT k3);refine Qr ?_;refine VE ([false,true,false,false,false,false,false,false,true,false,true,true,true]++rF 14++ [true,true,true]) 2 1
             (fun s=>s=⟨[.junk,.sc (.int .i64 k),.junk,.junk,.junk,.junk,.junk,.junk,.sl (.own 0) (ZA o),.junk,.lp 0 0,.lp 1 0,.sc (.int .i64 (Za 2 m.c (Jn x)).2)]++jk 14++ [.sl .no (ZA p),.sc (.int .i64 p.length),.sc (.int .i64 (j:Nat))]++jk 42,[Ki m,Qg (Za 2 m.c (Jn x)).1],[(o.length,4)],S⟩) ?_ ?_
            . refine Qr ?_;refine Q5 72 (Qi [0,1,2,3,4,5,6] (.alt (.step 7 [1] (.alt (.step 8 [3] (Qi [9,10,11] (.step 12 [1,3,6] (.step 13 [] (.step 14 [] (.done)))))) (.step 12 [1,3,6] (.step 8 [3] (Qi [9,10,11,13,14] .done))))) (.step 12 [1,3,6] (.step 7 [1] (.step 8 [3] (Qi [9,10,11,13,14] .done)))))) ?_;simp-dsimp only[go_sem,f1];refine⟨oG,And.intro ?_ ?_⟩
              . refine(Iv x _ oG).Q ?_;refine And.intro ?_ ?_
                all_goals
                 refine(kP m.c (Jn x) _ wc wi).q ?_;simp-dsimp only[go_sem]
              refine(Iv x _ oG).Q ?_;refine(kP m.c (Jn x) _ wc wi).Q0
            . rintro s rfl;refine Qa ?_;refine ck ?_ ?_<;>intro h3;have hne:=XI h3;rw[BC hne] at hr;rw[hr];refine Qr ?_;exact⟨e,hS.symm⟩
              . have he:=Jf h3;rw[BA (fun hh=>hh he)] at hr;refine Qr ?_;generalize (Za 2 m.c (Jn x)).1=y at*
                have hml:m.ks.length<=100000000000:=oG;refine VE ([false,true,false,false,false,false,false,false,true,false,false,false,false,true]++rF 13++ [true,true,true]) 3 1
                 (fun s=> ∃off,s=⟨[.junk,.sc (.int .i64 k),.junk,.junk,.junk,.junk,.junk,.junk,.sl (.own 0) (ZA o),.junk,.junk,.junk,.junk,.lp 2 0]++jk 13++ [.sl .no (ZA p),.sc (.int .i64 p.length),.sc (.int .i64 (j:Nat))]++jk 42,[Ki m,Qg y,[.sc (.bool y.neg),.sc (.int .i64 y.exp),.sl .no (Qf y.w),.ms true S.length off m.ks.length]],[(o.length,4)],S++ [List.replicate off PV.junk++QU m.ks]⟩) ?_ ?_
                . refine Qr ?_;refine Q5 72 (Qi [0,1,2] (.alt (.step 3 [0] (.step 4 [] (.step 5 [0,2] (.step 6 [] (.done))))) (.step 5 [0,2] (.step 3 [0] (.step 4 [] (.step 6 [] (.done))))))) ?_;refine Qr ?_;refine And.intro ?_ ?_
                  all_goals
                   refine(v1y m.ks _ hml oG).mono ?_;rintro r st' ⟨off,rfl,rfl⟩;refine Qr ?_;exact⟨off,rfl⟩
                rintro s ⟨off,rfl⟩;have gst:(S++ [List.replicate off PV.junk++QU m.ks]).getD S.length []=List.replicate off PV.junk++QU m.ks:=(by simp[q_a]);have g2:=J1n off m.ks k hkl;rw[hx] at g2;have x6:IntKind.i64.wrap ((x:Int)-1)=(x:Int)-1:=Q4 _ oG oG;have o1:=J1m off m.ks k ((x:Int)-1) hkl;have sst:(S++ [List.replicate off PV.junk++QU m.ks]).set S.length (List.replicate off PV.junk++QU (m.ks.set k ((x:Int)-1)))=S++ [List.replicate off PV.junk++QU (Z1 m.ks k)]:=by rw[CJ _ _ (BD _),Z1,hx];simp
                have r0:(List.replicate off PV.junk).length=off:=ER;refine Qe (Qb ?_);simp-dsimp only[go_sem,gst,g2,x6,o1,sst];rw[r0];refine⟨oG,oG,oG,oG,?_⟩;have hdl:(Z1 m.ks k).length=m.ks.length:=(by unfold Z1;rw[BL]);have gst2:(S++ [List.replicate off PV.junk++QU (Z1 m.ks k)]).getD S.length []=List.replicate off PV.junk++QU (Z1 m.ks k):=(by simp[q_a]);have sst2:(S++ [List.replicate off PV.junk++QU (Z1 m.ks k)]).set S.length []=S++ [[]]:=by rw[CJ _ _ (BD _)];simp
                have hcut:=J1o off (Z1 m.ks k);rw[hdl] at hcut;have hms:PV.frzG S.length (List.replicate off PV.junk++QU (Z1 m.ks k)) (.ms true S.length off m.ks.length)= .sl .no (QU (Z1 m.ks k)):=(by rw[H1o (by rw[BH,Y0,hdl,r0];exact BD _),hcut]);refine y0z S.length (by simp) ?_ ?_ ?_;intro q hq;have hq':q∈List.replicate off PV.junk++QU (Z1 m.ks k):=(by rw[<-gst2];exact hq);rcases DN.1 hq' with hq' | hq';rw[List.eq_of_mem_replicate hq'];rfl;simp[QU] at hq';obtain⟨c,_,rfl⟩:=hq';rfl;intro e0;have h2:(List.replicate off PV.junk++QU (Z1 m.ks k)).length=0:=by have e':(S++ [List.replicate off PV.junk++QU (Z1 m.ks k)]).getD S.length []= []:=e0;rw[gst2] at e';rw[e'];rfl
                rw[BH,Y0,hdl] at h2;omega;simp-dsimp only[go_sem,gst2,sst2,hms];refine Qq ?_;refine⟨⟨oG,oG⟩,Qb ?_⟩;simp-dsimp only[go_sem,e3];refine⟨p.length-(j+1),oG,j+1,o++ [⟨y,Z1 m.ks k⟩],e+1,rfl,oG,by simp;omega,hr,?_⟩;have hS2:S++ [[]]=st++List.replicate (e+1) []:=(by rw[<-hS,BP,<-List.replicate_succ']);rw[hS2];simp[ZA,Ki]
        have hge:j=p.length:=by have:=q_c h';omega
        subst hge;rw[k1a] at hr;rw[hr];refine Qr ?_;refine WF (rF 8++ [true]) (Qb ?_);refine Qr ?_;exact⟨e,hS.symm⟩
  have hv:=bad (by rintro⟨_,h,_⟩;have:=q_b g1;omega);simp-dsimp only[go_sem,g1];rw[hv];exact⟨rfl,0,by simp⟩
theorem K1d (n:Nat)(m:Mn): ∀j,j<(Ki m).length->Bnd n ((Ki m).getD j .junk):=fun j hj=>by
 have hj':j<4:=hj;have hw:Bnd n (.sl .no (Qf m.c.w)):= .sl _ _ 1 (fun i hi=>by rw[Jp] at hi;rw[Zs _ i hi];rfl) fun i j hi hj=>by rw[Jp] at hi;rw[Zs _ i hi];have:j=0:=oG;subst this;exact .sc _
 have hz:Bnd n (.sl .no (QU m.ks)):= .sl _ _ 1 (fun i hi=>by rw[Y0] at hi;rw[Wr _ i hi];rfl) fun i j hi hj=>by rw[Y0] at hi;rw[Wr _ i hi];have:j=0:=oG;subst this;exact .sc _
 match j,hj' with
 | 0,_=>exact .sc _
 | 1,_=>exact .sc _
 | 2,_=>exact hw
 | 3,_=>exact hz
theorem Q2c (n:Nat)(p:Lm)(t:Tag):Bnd n (.sl t (ZA p)):= .sl _ _ 4 (x1b p) fun i j hi hj=>by rw[K0d] at hi;rw[Ga p i hi];exact K1d n _ j hj
theorem Q2b {n:Nat}{a b:PV}(ha:Bnd n a)(hb:Bnd n b):Bnd n (.tup [a,b]):= .tup _ fun j hj=>by
 have hj':j<2:=hj
 match j,hj' with
 | 0,_=>exact ha
 | 1,_=>exact hb
theorem Z1c (p:Lm)(i n:Int)(st:Qd)(hp:wP p):PR 312 [.sl .no (ZA p),.sc (.int .i64 i),.sc (.int .i64 n)] st (.tup [.sl .no (ZA (V1 p i n).1),.sc (.int .i64 (V1 p i n).2)]):=by refine PCalls.drop ((Z1b p i n st hp).mono ?_);rintro r st' ⟨rfl,e,rfl⟩;exact⟨Q2b (Q2c _ _ _) (.sc _),_,rfl,rfl,rfl⟩
def Jb (f:List (List Mn))(i j:Nat):List Mn×Int:=V1 (f.getD i []) (j:Nat) f.length
def Xy (f:List (List Mn)):List (List (List Mn))×Int:=if Xh f=true then Qv (fun i=>Qv (fun j=>Jb f i j) 0 f.length []) 0 f.length [] else([],1)
set_option maxHeartbeats 8000000 in
theorem q1v (f:Lk)(st:Qd)(hf:wF f):PR 259 [.sl .no (QV f)] st (.tup [.sl .no (J6 (Xy f).1),.sc (.int .i64 (Xy f).2)]):=by
 have hfl:=hf.1;refine Qj Tryz.func259 fun E=> ?_;refine(ID f _ hf).q ?_;cases r1:Xh f with
 | false=>
  have hv:Xy f=([],1):=(by rw[Xy,BA (by rw[r1];decide)]);refine Qr ?_;rw[hv];rfl
 | true=>
  have h4:=((YG f).1 r1).1;have hv:Xy f=Qv (fun i=>Qv (fun j=>Jb f i j) 0 f.length []) 0 f.length []:=(by rw[Xy,BC r1]);rw[hv];clear hv;generalize hT:Qv (fun i=>Qv (fun j=>Jb f i j) 0 f.length []) 0 f.length []=T;refine Qr ?_;refine X7 5 1 ?_;refine Qr ?_;refine Q3 ([true,false,false,false,true,true]++rF 9++ [true,true]) 0 1
   (fun k s=> ∃(i:Nat) (o:Ll),k=f.length-i/\i<=f.length/\o.length=i/\T=Qv (fun i=>Qv (fun j=>Jb f i j) 0 f.length []) i (f.length-i) o/\
    s=⟨[.sl .no (QV f),.junk,.junk,.junk,.sc (.int .i64 0),.sl (.own 0) (J6 o)]++jk 9++ [.sc (.int .i64 f.length),.sc (.int .i64 (i:Nat))]++jk 35,[],[(o.length,1)],st⟩) f.length ?_ ?_
  refine Qr ?_;exact⟨0,[],oG,oG,rfl,hT.symm,rfl⟩;rintro k s ⟨i,o,rfl,hi,ho,hr,rfl⟩;refine QM ?_ ?_<;>intro h';have hlt:i<f.length:=(by have:=q_b h';omega);have e1:=II f i hlt;have e3:=QN i oG;have e4:=KR (fun i=>Qv (fun j=>Jb f i j) 0 f.length []) hlt o;refine Qr ?_;refine X7 7 1 ?_;refine Qr ?_;refine Q3 ([true,false,false,false,true,true,true,true]++rF 7++ [true,true,false,false,false,true,true]) 0 2
   (fun k s=> ∃(j:Nat) (r:Lk),k=f.length-j/\j<=f.length/\r.length=j/\Qv (fun j=>Jb f i j) 0 f.length []=Qv (fun j=>Jb f i j) j (f.length-j) r/\
    s=⟨[.sl .no (QV f),.junk,.junk,.junk,.sc (.int .i64 0),.sl (.own 0) (J6 o),.sc (.int .i64 (i:Nat)),.sl (.own 1) (QV r)]++jk 7++ [.sc (.int .i64 f.length),.sc (.int .i64 (i:Nat)),.junk,.junk,.junk,.sc (.int .i64 f.length),.sc (.int .i64 (j:Nat))]++jk 30,[],[(o.length,1),(r.length,1)],st⟩) f.length ?_ ?_
  refine Qr ?_;exact⟨0,[],oG,oG,rfl,rfl,rfl⟩;rintro k s ⟨j,r,rfl,hj,hrl,hrr,rfl⟩;refine QM (fun h''=> ?_) (fun h''=> ?_);have hlt2:j<f.length:=(by have:=q_b h'';omega);have f3:=QN j oG;have f4:=KR (fun j=>Jb f i j) hlt2 r;simp-dsimp only[go_sem,e1];refine⟨oG,?_⟩;refine(Z1c (f.getD i []) j f.length _ (hf.2 i hlt)).Q ?_;refine ck ?_ ?_<;>intro h5
  . have hne:(Jb f i j).2≠0:=XI h5;have q1:Qv (fun j=>Jb f i j) 0 f.length []=([],(Jb f i j).2):=(by rw[hrr,f4,BC hne]);have hTT:T=([],(Jb f i j).2):=(by rw[hr,e4,BC (by rw[q1];exact hne),q1]);subst hTT;refine Qr ?_;refine Qb ?_;simp-dsimp only[go_sem,h5]
    try rfl
  have he:(Jb f i j).2=0:=Jf h5;simp-dsimp only[go_sem,f3];refine⟨⟨oG,oG⟩,f.length-(j+1),oG,j+1,r++ [(Jb f i j).1],rfl,oG,by simp[hrl],?_,?_⟩;rw[hrr,f4,BA (fun hh=>hh he)];simp[QV,Jb];have hge:j=f.length:=(by have:=q_c h'';omega);have q1:Qv (fun j=>Jb f i j) 0 f.length []=(r,0):=(by rw[hrr,hge];exact Vg _ f.length r);refine Qr ?_;refine Qq ?_;refine⟨⟨oG,oG⟩,Qb ?_⟩;simp-dsimp only[go_sem,e3];refine⟨f.length-(i+1),oG,i+1,o++ [r],rfl,oG,by simp[ho],?_,?_⟩;rw[hr,e4,q1,BA (by simp)];simp;have hge:i=f.length:=(by have:=q_c h';omega);have z0:((0:Int) !=0)=false:=rfl;refine Qr ?_;refine Qb ?_;simp-dsimp only[go_sem,z0];rw[hr,hge,Vg]
theorem G0t {p:Lm} :wP p<->p.length<=100000000000/\ ∀m∈p,wMn m:=by unfold wP;constructor;rintro⟨h1,h2⟩;refine⟨h1,fun m hm=> ?_⟩;obtain⟨i,hi,e⟩:=CM.1 hm;have:=h2 i hi;rwa [show p.getD i default=m by simp[q_a,hi,e]] at this;rintro⟨h1,h2⟩;refine⟨h1,fun i hi=> ?_⟩;rw[show p.getD i default=p[i] by simp[q_a,hi]];exact h2 _ (EA hi)
theorem G0z {f:Lk} :wF f<->f.length<=100000000000/\ ∀p∈f,wP p:=by unfold wF;constructor;rintro⟨h1,h2⟩;refine⟨h1,fun m hm=> ?_⟩;obtain⟨i,hi,e⟩:=CM.1 hm;have:=h2 i hi;rwa [show f.getD i []=m by simp[q_a,hi,e]] at this;rintro⟨h1,h2⟩;refine⟨h1,fun i hi=> ?_⟩;rw[show f.getD i []=f[i] by simp[q_a,hi]];exact h2 _ (EA hi)
theorem x0g (k:Nat)(a b:Nm):wN (Za k a b).1:=by unfold Za;split;rename_i h;exact ZF (QT (JZ (K5 (Gk k (Js h.1) (Js h.2)))));exact ZF (QT (show Qh default=true by decide))
theorem k1f {ks:Pq}{i:Nat}(hr:Kr ks=true)(hl:ks.length<=100000000000)(hi:i<ks.length):wK (Z1 ks i):=by refine⟨by rw[xu];omega,fun z hz=> ?_⟩;rw[xu] at hz;have h1:=za hr z hz;unfold Z1;by_cases c:z=i;subst c;rw[show(ks.set z (ks.getD z 0-1)).getD z 0=ks.getD z 0-1 by simp[q_a,hz]];omega;rw[show(ks.set i (ks.getD i 0-1)).getD z 0=ks.getD z 0 by simp[q_a,DR (Ne.symm c)]];omega
theorem wU {i:Nat} : ∀(p acc:Lm),(∀m∈p,wK (Z1 m.ks i))->(∀m∈acc,wMn m)->(Jr i p acc).1.length<=acc.length+p.length/\ ∀m∈(Jr i p acc).1,wMn m
 | [],acc,_,h=>⟨by simp[Jr],h⟩
 | m::r,acc,hp,h=>by rw[Jr];split;obtain⟨a1,a2⟩:=wU (i:=i) r acc (fun m hm=>hp m (by simp[hm])) h;exact⟨by simp only[C1];omega,a2⟩;split;exact⟨by simp,fun m hm=>by cases hm⟩;obtain⟨a1,a2⟩:=wU (i:=i) r (acc++ [⟨(Za 2 m.c (Jn (m.ks.getD i 0).toNat)).1,Z1 m.ks i⟩]) (fun m hm=>hp m (by simp[hm])) (fun q hq=>by rcases DN.1 hq with hq | hq;exact h q hq;simp at hq;subst hq;exact⟨x0g _ _ _,hp m (by simp)⟩);exact⟨by simp only[BH,C1,D6] at a1;simp only[C1];omega,a2⟩
theorem j1y (p:Lm)(i n:Int):wP (V1 p i n).1:=by rw[G0t];unfold V1;split;rename_i h;obtain⟨h1,h2,h3⟩:=h;have h4:=((VD _ _).1 h1).1;obtain⟨a1,a2⟩:=wU (i:=i.toNat) p [] (fun m hm=>by obtain⟨q,hq,e⟩:=CM.1 hm;obtain⟨k1,k2,k3⟩:=GT h1 hq;rw[show p.getD q default=m by simp[q_a,hq,e]] at k1 k2;exact k1f k2 oG oG) (fun m hm=>by cases hm);exact⟨by have:=a1;rw[D6] at this;omega,a2⟩;exact⟨by simp,fun m hm=>by cases hm⟩
theorem U1a (f:Lk)(hf:f.length<=100000000000):(Xy f).1.length<=100000000000/\ ∀g∈(Xy f).1,wF g:=by unfold Xy;split;refine⟨?_,?_⟩;have:=W5 (G:=fun i=>Qv (fun j=>Jb f i j) 0 f.length []) f.length 0 [];simp only[D6] at this;omega;refine KS wF f.length 0 [] (fun i _ _=> ?_) (fun x hx=>by cases hx);rw[G0z];refine⟨?_,KS wP f.length 0 [] (fun j _ _=>j1y _ _ _) (fun x hx=>by cases hx)⟩;have:=W5 (G:=fun j=>Jb f i j) f.length 0 [];simp only[D6] at this;omega;exact⟨by simp,fun g hg=>by cases hg⟩
theorem w0s (q:Lm)(b:Li)(p:Int):wI (Ka q b p).1:=by unfold Ka;split;exact Ni _ _ _ _;exact G1
theorem w0t (f:Lk)(b:Li)(p:Int)(hf:f.length<=100000000000):wB (Xa f b p).1:=by
 have key:(Xa f b p).1.length<=100000000000/\ ∀y∈(Xa f b p).1,wI y:=by unfold Xa;split;refine⟨?_,KS wI f.length 0 [] (fun i _ _=>w0s _ _ _) (fun x hx=>by cases hx)⟩;have:=W5 (G:=fun i=>Ka (f.getD i []) b p) f.length 0 [];rw[D6] at this;omega;exact⟨by simp,fun y hy=>by cases hy⟩
 refine⟨key.1,fun i hi=> ?_⟩;rw[show(Xa f b p).1.getD i default=(Xa f b p).1[i] by simp[q_a,hi]];exact key.2 _ (EA hi)
theorem X0q {α:Type}[Inhabited α]{l:List α}{P:α->Prop}(h: ∀x∈l,P x){i:Nat}(hi:i<l.length):P (l.getD i default):=by rw[show l.getD i default=l[i] by simp[q_a,hi]];exact h _ (EA hi)
def okPoly (n M:Nat)(D:Int)(p:List Mn):Prop:=ZY p n=true/\p.length<=M/\ ∀m∈p,zz n 12 (18+M) D m
def okField (n M:Nat)(D:Int)(f:List (List Mn)):Prop:=f.length=n/\ ∀p∈f,okPoly n M D p
theorem okPoly.at {n M:Nat}{D:Int}{p:Lm}(h:okPoly n M D p){j:Nat}(hj:j<p.length):zz n 12 (18+M) D (p.getD j default):=X0q h.2.2 hj
theorem okField.at {n M:Nat}{D:Int}{f:Lk}(h:okField n M D f){i:Nat}(hi:i<f.length):okPoly n M D (f.getD i []):=by rw[show f.getD i []=f[i] by simp[q_a,hi]];exact h.2 _ (EA hi)
end Go.Pv
end
