/- Walk. -/
import Derived.Test.YtpfladficeildaaGreatDoorZBD
import Derived.Test.YtpfladficeildaaGreatDoorZAQ
set_option linter.all false
set_option maxHeartbeats 160000000
section
namespace Go.Pv
def Xk (v:Vl):Nat->Vl
 | 0=>QN false 1 0
 | k+1=>byV (Xk v k) v
def JP (q:Rat):Nat->Rat
 | 0=>1
 | k+1=>JP q k*q
theorem WZ (v:Vl): ∀k,qV (Xk v k)=JP (qV v) k
 | 0=>Q1o
 | k+1=>by rw[Xk,VS,WZ v k];rfl
theorem Wk {v:Vl}(h:QF v): ∀k,QF (Xk v k)
 | 0=>YJ _ _ _
 | k+1=>yz (Wk h k) h
theorem k6 (q:Rat): ∀k,0<=JP q (2*k)
 | 0=>by show(0:Rat)<=1;decide
 | k+1=>by
  have e:JP q (2*(k+1))=JP q (2*k)*(q*q):=by show JP q (2*k)*q*q=_;rw[Rat.mul_assoc]
  rw[e];have h:0<=q*q:=by by_cases c:0<=q;exact Kh c c;have:=Kh (a:= -q) (b:= -q) (by grind) (by grind);grind
  exact Kh (k6 q k) h
theorem Z1u : ∀k,0<k->JP 0 k=0
 | k+1,_=>by rw[JP,Rat.mul_zero]
def GU (a:Ivl)(k:Nat):Vl:=
 if 0<k/\k % 2=0/\Ja a default=true then⟨false,0,0⟩ else if XX (Xk (ofN a.lo) k) (Xk (ofN a.hi) k)>0 then Xk (ofN a.hi) k else Xk (ofN a.lo) k
def GV (a:Ivl)(k:Nat):Vl:=if XX (Xk (ofN a.lo) k) (Xk (ofN a.hi) k)>0 then Xk (ofN a.lo) k else Xk (ofN a.hi) k
def J3 (a:Ivl)(k p:Int):Ivl×Int:=
 if Qr a=true/\0<=k/\k<=8/\Qv p=true then XK (QR (GU a k.toNat) p.toNat false) (QR (GV a k.toNat) p.toNat true) else(default,1)
theorem w1h {a:Ivl}(h:Qr a=true)(k:Nat):QF (GU a k):=by obtain⟨c1,c2⟩:=XG h;unfold GU;split;exact .inr rfl;split;exact Wk c2 k;exact Wk c1 k
theorem w1i {a:Ivl}(h:Qr a=true)(k:Nat):QF (GV a k):=by obtain⟨c1,c2⟩:=XG h;unfold GV;split;exact Wk c1 k;exact Wk c2 k
theorem Sm {a:Ivl}{k:Nat}{x y:Nm}(h:Qr a=true)(hx:qN x=JP (qN a.lo) k)(hy:qN y=JP (qN a.hi) k):ofX (ZG x y)=(if XX (Xk (ofN a.lo) k) (Xk (ofN a.hi) k)>0 then Xk (ofN a.hi) k else Xk (ofN a.lo) k)/\ofX (Z2 x y)=GV a k:=by obtain⟨c1,c2⟩:=XG h;have e1:ofX x=Xk (ofN a.lo) k:=Vd (Wk c1 k) (by rw[WZ,Zv,hx]);have e2:ofX y=Xk (ofN a.hi) k:=Vd (Wk c2 k) (by rw[WZ,Zv,hy]);have hq1:qV (Xk (ofN a.lo) k)=qN x:=(by rw[WZ,Zv,hx]);have hq2:qV (Xk (ofN a.hi) k)=qN y:=(by rw[WZ,Zv,hy]);have hg:=Tu (Xk (ofN a.lo) k) (Xk (ofN a.hi) k);rw[hq1,hq2] at hg;unfold GV ZG Z2;refine⟨?_,?_⟩;by_cases c:qN y<qN x;rw[BC (cmpN_lt.2 c),BC (hg.2 c),e2];rw[BA (fun e=>c (cmpN_lt.1 e)),BA (fun e=>c (hg.1 e)),e1];by_cases c:qN y<qN x;rw[BA (fun e=>by have:=cmpN_gt.1 e;grind),BC (hg.2 c),e1];rw[BA (fun e=>c (hg.1 e))];split;exact e2;rename_i d;have:qN x=qN y:=(by have:=fun e=>d (cmpN_gt.2 e);grind);rw[e1];exact H7 (Wk c1 k) (Wk c2 k) (by rw[hq1,hq2,this])
theorem J0q {a:Ivl}(h:Qr a=true):Ja a default=true<->qN a.lo<=0/\0<=qN a.hi:=by unfold Ja;have hd:Qg (default:Nm)=true:=(by decide);rw[h,hd];simp only[FB,q_i,BN];rw[cmpN_le,cmpN_le,Kw]
theorem jG (x:Nm):QT x<0<->qN x<0:=by rw[Uu,jE,<-XD x.exp];exact qM_lt.symm
theorem GF (x:Nm):0<QT x<->0<qN x:=by
 have h1:QT x<=0<->qN x<=0:=by rw[Uu,jF,<-XD x.exp];exact qM_le.symm
 rw[<-Rat.not_le,<-h1];omega
theorem K1j :ofX default=⟨false,0,0⟩:=Vd (.inr rfl) (by rw[Kw];exact(KZ (v:=⟨false,0,0⟩) rfl).symm)
theorem Z1s {a:Ivl}{k:Nat}{x y:Nm}(h:Qr a=true)(hx:qN x=JP (qN a.lo) k)(hy:qN y=JP (qN a.hi) k):
 ofX (if 0<k/\k % 2=0/\QT a.lo<0/\0<QT a.hi then default else ZG x y)=GU a k:=by
 obtain⟨p1,p2⟩:=Sm h hx hy;have hz:=J0q h;have hle:=W1x h;unfold GU;generalize hW:(if XX (Xk (ofN a.lo) k) (Xk (ofN a.hi) k)>0 then Xk (ofN a.hi) k else Xk (ofN a.lo) k)=W at p1⊢;by_cases c:0<k/\k % 2=0;by_cases d:QT a.lo<0/\0<QT a.hi;rw[BC ⟨c.1,c.2,d.1,d.2⟩,K1j];have d1:=(jG _).1 d.1;have d2:=(GF _).1 d.2;rw[BC ⟨c.1,c.2,hz.2 ⟨by grind,by grind⟩⟩];rw[BA (fun e=>d ⟨e.2.2.1,e.2.2.2⟩),p1];by_cases f:Ja a default=true;rw[BC ⟨c.1,c.2,f⟩];obtain⟨f1,f2⟩:=hz.1 f;have d': ¬(qN a.lo<0/\0<qN a.hi):=fun e=>d ⟨(jG _).2 e.1,(GF _).2 e.2⟩;obtain⟨m,hm⟩: ∃m,k=2*m:=⟨k/2,oG⟩;have e1:=k6 (qN a.lo) m;have e2:=k6 (qN a.hi) m;rw[<-hm] at e1 e2;obtain⟨c1,c2⟩:=XG h;have hg:=Tu (Xk (ofN a.lo) k) (Xk (ofN a.hi) k);rw[WZ,WZ,Zv,Zv] at hg;have hzero:JP 0 k=0:=Z1u k c.1;rw[<-hW];split;rename_i g;have g:=hg.1 g;refine H7 (Wk c2 k) (.inr rfl) ?_;rw[WZ,Zv,show qV ⟨false,0,0⟩=0 from KZ rfl];by_cases w:qN a.lo=0;rw[w,hzero] at g;grind;have:qN a.hi=0:=(by grind);rw[this,hzero];rename_i g;have g:=fun e=>g (hg.2 e);refine H7 (Wk c1 k) (.inr rfl) ?_;rw[WZ,Zv,show qV ⟨false,0,0⟩=0 from KZ rfl];by_cases w:qN a.lo=0;rw[w,hzero];have:qN a.hi=0:=(by grind);rw[this,hzero] at g;grind;rw[BA (fun e=>f e.2.2)];rw[BA (fun e=>c ⟨e.1,e.2.1⟩),BA (fun e=>c ⟨e.1,e.2.1⟩),p1]
def Xd (m:Mn)(b:List Ivl)(p:Int):Nat->Ivl×Int
 | 0=>(⟨m.c,m.c⟩,0)
 | i+1=>if (Xd m b p i).2≠0 then(default,(Xd m b p i).2) else if m.ks.getD i 0=0 then Xd m b p i
  else if (J3 (b.getD i default) (m.ks.getD i 0) p).2≠0 then(default,(J3 (b.getD i default) (m.ks.getD i 0) p).2)
  else opI 2 (Xd m b p i).1 (J3 (b.getD i default) (m.ks.getD i 0) p).1 p
def Xu (q:List Mn)(b:List Ivl)(p:Int):Nat->Ivl×Int
 | 0=>(default,0)
 | i+1=>if (Xu q b p i).2≠0 then(default,(Xu q b p i).2) else if (Xd (q.getD i default) b p b.length).2≠0 then(default,(Xd (q.getD i default) b p b.length).2)
  else opI 0 (Xu q b p i).1 (Xd (q.getD i default) b p b.length).1 p
def JO (q:List Mn)(b:List Ivl)(p:Int):Ivl×Int:=if ZL q b.length=true/\b.all Qr=true/\Qv p=true then Xu q b p q.length else(default,1)
theorem zP (k:Nat)(a b:Ivl)(p:Int)(h:(opI k a b p).2≠0):(opI k a b p).1=default:=by unfold opI at h⊢;split;rename_i c;rw[BC c] at h;unfold XK at h⊢;split;rename_i d;rw[BC d] at h;exact absurd rfl h;rfl;rfl
theorem x1s {lo hi:Vl}(h1:QF lo)(h2:QF hi):wI (XK lo hi).1:=by unfold XK;split;exact⟨Xc (QZ (Kt (Wm h1))),Xc (QZ (Kt (Wm h2)))⟩;exact⟨Xc (QZ (show Qg default=true by decide)),Xc (QZ (show Qg default=true by decide))⟩
theorem Z1v (a:Ivl)(k p:Int):wI (J3 a k p).1:=by unfold J3;split;rename_i h;exact x1s (JY (w1h h.1 _) _ _) (JY (w1i h.1 _) _ _);exact⟨Xc (QZ (show Qg default=true by decide)),Xc (QZ (show Qg default=true by decide))⟩
theorem Tz (k:Nat)(a b:Ivl)(p:Int):wI (opI k a b p).1:=Kq (KK k a b p)
theorem Gt :wI default:=⟨Xc (QZ (show Qg default=true by decide)),Xc (QZ (show Qg default=true by decide))⟩
theorem kK {m:Mn}(hm:Qg m.c=true)(b:Li)(p:Int): ∀i,wI (Xd m b p i).1
 | 0=>⟨Xc (QZ hm),Xc (QZ hm)⟩
 | i+1=>by rw[Xd];split;exact Gt;split;exact kK hm b p i;split;exact Gt;exact Tz _ _ _ _
theorem Oz (q:Lm)(b:Li)(p:Int): ∀i,wI (Xu q b p i).1
 | 0=>Gt
 | i+1=>by rw[Xu];split;exact Gt;split;exact Gt;exact Tz _ _ _ _
theorem To {m:Mn}{b:Li}{p:Int} : ∀i,(Xd m b p i).2≠0->(Xd m b p i).1=default
 | 0,h=>absurd rfl h
 | i+1,h=>by rw[Xd] at h⊢;split;rfl;rename_i c1;rw[BA c1] at h;split;rename_i c2;rw[BC c2] at h;exact To i h;rename_i c2;rw[BA c2] at h;split;rfl;rename_i c3;rw[BA c3] at h;exact zP _ _ _ _ h
theorem y0y {q:Lm}{b:Li}{p:Int} : ∀i,(Xu q b p i).2≠0->(Xu q b p i).1=default
 | 0,h=>absurd rfl h
 | i+1,h=>by rw[Xu] at h⊢;split;rfl;rename_i c1;rw[BA c1] at h;split;rfl;rename_i c2;rw[BA c2] at h;exact zP _ _ _ _ h
theorem kL {m:Mn}{b:Li}{p:Int}{i:Nat}(h:(Xd m b p i).2≠0): ∀d,Xd m b p (i+d)=(default,(Xd m b p i).2)
 | 0=>Prod.ext (To i h) rfl
 | d+1=>by have e:=kL h d;rw[show i+(d+1)=(i+d)+1 from rfl,Xd,e];rw[BC h]
theorem kd {q:Lm}{b:Li}{p:Int}{i:Nat}(h:(Xu q b p i).2≠0): ∀d,Xu q b p (i+d)=(default,(Xu q b p i).2)
 | 0=>Prod.ext (y0y i h) rfl
 | d+1=>by have e:=kd h d;rw[show i+(d+1)=(i+d)+1 from rfl,Xu,e];rw[BC h]
theorem K1s (off:Nat)(T:Pq)(k:Nat)(c:Int)(h:k<T.length):Q4 (List.replicate off PV.junk++QX T) (off+k) [.sc (.int .i64 c)]=List.replicate off PV.junk++QX (T.set k c):=by unfold Q4;have e:QX (T.set k c)=(QX T).set k (.sc (.int .i64 c)):=(by unfold QX;rw[E6]);rw[e,show List.replicate off PV.junk++(QX T).set k (.sc (.int .i64 c))=(List.replicate off PV.junk++QX T).set (off+k) (.sc (.int .i64 c)) from by rw[CJ _ _ (by simp),EP,DY]];rw[DS,BC (by simp[QX];omega)];simp
def vN (n:Nat):Nm:=(mkX false [UInt64.ofNat n] 0).1
def k1l (ks:List Int)(i:Nat):List Int:=ks.set i (ks.getD i 0-1)
def ya (i:Nat):List Mn->List Mn->List Mn×Int
 | [],acc=>(acc,0)
 | m::r,acc=>if m.ks.getD i 0=0 then ya i r acc else if (XC 2 m.c (vN (m.ks.getD i 0).toNat)).2≠0 then([],(XC 2 m.c (vN (m.ks.getD i 0).toNat)).2)
  else ya i r (acc++ [⟨(XC 2 m.c (vN (m.ks.getD i 0).toNat)).1,k1l m.ks i⟩])
def k1d (p:List Mn)(i n:Int):List Mn×Int:=if ZL p n=true/\0<=i/\i<n then ya i.toNat p [] else([],1)
theorem Tv : ∀(a b c:Pq),a.length=b.length->b.length=c.length->Zn a b=1->Zn b c=1->Zn a c=1
 | [],_,_,_,_,h,_=>by simp[Zn] at h
 | x::a,[],_,h1,_,_,_=>by simp at h1
 | x::a,y::b,[],_,h2,_,_=>by simp at h2
 | x::a,y::b,z::c,h1,h2,h3,h4=>by rw[Zn] at h3 h4⊢;have ih:=Tv a b c (by simpa using h1) (by simpa using h2);by_cases c1:x>y;by_cases c2:y>z;rw[BC oG];rw[BA c2] at h4;by_cases c3:y<z;rw[BC c3] at h4;omega;rw[BC oG];rw[BA c1] at h3;by_cases c2:x<y;rw[BC c2] at h3;omega;rw[BA c2] at h3;by_cases c3:y>z;rw[BC oG];rw[BA c3] at h4;by_cases c4:y<z;rw[BC c4] at h4;omega;rw[BA c4] at h4;rw[BA oG,BA oG];exact ih h3 h4
def UT :List (List Int)->Prop:=List.Pairwise fun a b=>Zn a b=1
def J6 :List Tm->List Mn->List Mn×Int
 | [],acc=>(acc,0)
 | t::r,acc=>if Xi t.v=0 then J6 r acc else if (QI t.v).2≠0 then([],2) else J6 r (acc++ [⟨(QI t.v).1,t.ks⟩])
def ZT (t:Tm):List Tm->List Tm
 | []=> [t]
 | o::r=>if Zn o.ks t.ks>0 then o::ZT t r else if Zn o.ks t.ks=0 then⟨Zz o.v t.v,o.ks⟩::r else t::o::r
def ZN :List Tm->List Tm->List Tm
 | [],acc=>acc
 | t::r,acc=>ZN r (ZT t acc)
theorem xl (t:Tm): ∀(k:Nat) (O:List Tm),k<=O.length->(∀q,q<k->Zn (O.getD q default).ks t.ks>0)->ZT t O=O.take k++ZT t (O.drop k)
 | 0,O,_,_=>by simp
 | k+1,[],h,_=>by simp at h
 | k+1,o::r,h,h1=>by have h0:Zn o.ks t.ks>0:=h1 0 oG;rw[ZT,BC h0,xl t k r (by simpa using h) (fun q hq=>h1 (q+1) oG)];simp
theorem H1c {t:Tm}{O:List Tm}(h: ∀q,q<O.length->Zn (O.getD q default).ks t.ks>0):ZT t O=O++ [t]:=by rw[xl t O.length O (BD _) h,B0,FF,ZT]
theorem G1y {t:Tm}{O:List Tm}{k:Nat}(hk:k<O.length)(h: ∀q,q<k->Zn (O.getD q default).ks t.ks>0)(h0:Zn (O.getD k default).ks t.ks=0):
 ZT t O=O.set k ⟨Zz (O.getD k default).v t.v,(O.getD k default).ks⟩:=by
 rw[xl t k O oG h,show O.drop k=O.getD k default::O.drop (k+1) from by rw[E8 hk];simp[q_a,hk],ZT,BA oG,BC h0,DS,BC hk]
theorem H1a {t:Tm}{O:List Tm}{k:Nat}(hk:k<O.length)(h: ∀q,q<k->Zn (O.getD q default).ks t.ks>0)(h0: ¬Zn (O.getD k default).ks t.ks>0)(h1:Zn (O.getD k default).ks t.ks≠0):
 ZT t O=O.take k++t::O.drop k:=by
 rw[xl t k O oG h,show O.drop k=O.getD k default::O.drop (k+1) from by rw[E8 hk];simp[q_a,hk],ZT,BA h0,BA h1]
theorem vO {t x:Tm} : ∀ {O:List Tm},x∈ZT t O->x=t\/x∈O\/ ∃o∈O,x=⟨Zz o.v t.v,o.ks⟩
 | [],h=>by rw[ZT] at h;exact .inl (C0.1 h)
 | o::r,h=>by rw[ZT] at h;split at h;rcases D8.1 h with rfl | h;exact .inr (.inl (by simp));rcases vO h with h | h | ⟨o',h1,h2⟩;exact .inl h;exact .inr (.inl (by simp[h]));exact .inr (.inr ⟨o',by simp[h1],h2⟩);split at h;rcases D8.1 h with h | h;exact .inr (.inr ⟨o,by simp,h⟩);exact .inr (.inl (by simp[h]));rcases D8.1 h with h | h;exact .inl h;exact .inr (.inl h)
theorem H1b {t x:Tm}{O:List Tm}(h:x∈ZT t O):x.ks=t.ks\/ ∃o∈O,x.ks=o.ks:=by rcases vO h with h | h | ⟨o',h1,h2⟩;exact .inl (by rw[h]);exact .inr ⟨x,h,rfl⟩;exact .inr ⟨o',h1,by rw[h2]⟩
theorem Tw : ∀(a b:Pq),a.length=b.length->Zn a b= -Zn b a
 | [],[],_=>rfl
 | x::a,y::b,h=>by rw[Zn,Zn,Tw a b (by simpa using h)];by_cases h1:x>y;rw[BC h1,BA oG,BC oG];rfl;rw[BA h1];by_cases h2:x<y;rw[BC h2,BC oG];rw[BA h2,BA oG,BA oG]
theorem J0j {t:Tm}{n:Nat}(ht:t.ks.length=n): ∀ {O:List Tm},(∀o∈O,o.ks.length=n)->UT (O.map Tm.ks)->UT ((ZT t O).map Tm.ks)
 | [],_,_=>List.pairwise_singleton _ _
 | o::r,hl,h=>by
  obtain⟨h1,h2⟩:=List.pairwise_cons.1 h;have lo:o.ks.length=n:=hl o (by simp);have ih:=J0j ht (O:=r) (fun x hx=>hl x (by simp[hx])) h2;rw[ZT];split;rename_i hg;have hg1:Zn o.ks t.ks=1:=by rcases zN o.ks t.ks with e | e | e<;>omega
  refine List.pairwise_cons.2 ⟨fun k hk=> ?_,ih⟩;obtain⟨x,hx,rfl⟩:=CF.1 hk;rcases H1b hx with e | ⟨o',e1,e2⟩;rw[e];exact hg1;rw[e2];exact h1 _ (CF.2 ⟨o',e1,rfl⟩);split;exact List.pairwise_cons.2 ⟨h1,h2⟩;rename_i hg h0;have hg1:Zn t.ks o.ks=1:=by rw[Tw _ _ (by rw[ht,lo])];rcases zN o.ks t.ks with e | e | e<;>omega
  refine List.pairwise_cons.2 ⟨fun k hk=> ?_,h⟩;rcases D8.1 hk with rfl | hk;exact hg1;obtain⟨x,hx,rfl⟩:=CF.1 hk;exact Tv _ _ _ (by rw[ht,lo]) (by rw[lo,hl x (by simp[hx])]) hg1 (h1 _ (CF.2 ⟨x,hx,rfl⟩))
theorem vP (t:Tm): ∀(O:List Tm),(ZT t O).length<=O.length+1
 | []=>by simp[ZT]
 | o::r=>by have:=vP t r;rw[ZT];split;simpa using this;split<;>simp
def okT (n L U:Nat)(D:Int)(t:Tm):Prop:=t.ks.length=n/\JN t.ks=true/\t.ks.sum<=D/\QF t.v/\luQ L U (qV t.v)
theorem okT.up {n L U U':Nat}{D:Int}{t:Tm}(h:okT n L U D t)(hu:U<=U'):okT n L U' D t:=⟨h.1,h.2.1,h.2.2.1,h.2.2.2.1,h.2.2.2.2.up hu⟩
theorem G1z {n L U:Nat}{D:Int}{t:Tm}{O:List Tm}(ht:okT n L U D t)(hO: ∀o∈O,okT n L U D o): ∀x∈ZT t O,okT n L (U+1) D x:=fun x hx=>by rcases vO hx with rfl | h | ⟨o,h1,rfl⟩;exact ht.up oG;exact(hO x h).up oG;obtain⟨a1,a2,a3,a4,a5⟩:=hO o h1;exact⟨a1,a2,a3,Wl a4 ht.2.2.2.1,by show luQ L (U+1) (qV (Zz o.v t.v));rw[KF];exact UH a5 ht.2.2.2.2⟩
theorem vW {n L:Nat}{D:Int} : ∀(ts acc:List Tm) (U:Nat),(∀t∈ts,okT n L U D t)->(∀t∈acc,okT n L U D t)->UT (acc.map Tm.ks)->
 (∀t∈ZN ts acc,okT n L (U+ts.length) D t)/\UT ((ZN ts acc).map Tm.ks)/\(ZN ts acc).length<=acc.length+ts.length
 | [],acc,U,_,h2,h3=>⟨h2,h3,BD _⟩
 | t::r,acc,U,h1,h2,h3=>by have h4:=G1z (h1 t (by simp)) h2;have h5:=J0j (h1 t (by simp)).1 (fun o ho=>(h2 o ho).1) h3;obtain⟨a1,a2,a3⟩:=vW r (ZT t acc) (U+1) (fun x hx=>(h1 x (by simp[hx])).up oG) h4 h5;have h6:=vP t acc;rw[ZN];refine⟨fun x hx=> ?_,a2,by simp only[C1];omega⟩;have:=a1 x hx;rw[C1,show U+(r.length+1)=U+1+r.length from oG];exact this
theorem K0b (t:Tm): ∀(ts acc:List Tm),ZN (ts++ [t]) acc=ZT t (ZN ts acc)
 | [],acc=>rfl
 | x::r,acc=>by show ZN (r++ [t]) (ZT x acc)=ZT t (ZN r (ZT x acc));exact K0b t r _
def vo (t:Tm):Mn:=⟨(QI t.v).1,t.ks⟩
theorem K0a {n L U:Nat}{D:Int}(hb:L+U+1<=4096): ∀(ts:List Tm) (acc:Lm),(∀t∈ts,okT n L U D t)->J6 ts acc=(acc++(ts.filter (fun t=>decide (Xi t.v≠0))).map vo,0)
 | [],acc,_=>by simp[J6]
 | t::r,acc,h=>by obtain⟨a1,a2,a3,a4,a5⟩:=h t (by simp);have ih:=fun acc=>K0a hb r acc fun t ht=>h t (by simp[ht]);rw[J6];by_cases c:Xi t.v=0;rw[BC c,ih,List.filter_cons_of_neg (by simp[c])];rw[BA c,BA (by rw[YB a4 a5 hb];decide),ih,List.filter_cons_of_pos (by simp[c]),DX,BP];rfl
def Yc (n L U:Nat)(D:Int)(m:Mn):Prop:=m.ks.length=n/\JN m.ks=true/\m.ks.sum<=D/\Qg m.c=true/\m.c.w.length≠0/\luQ L U (qN m.c)
theorem kn {x:Nm}(h:x.w.length=0):qN x=0:=by have e:x.w= []:=BY h;rw[<-Zv];refine KZ ?_;show Qd x.w=0;rw[e];rfl
theorem W1e {n L U:Nat}{D:Int}{t:Tm}(hb:L+U+1<=4096)(h:okT n L U D t)(hs:Xi t.v≠0):Yc n L U D (vo t):=by obtain⟨a1,a2,a3,a4,a5⟩:=h;have h0:=YB a4 a5 hb;obtain⟨v1,v2⟩:=JQ a4 h0;refine⟨a1,a2,a3,Kt (Wm a4),fun e=>hs ?_,?_⟩;have e1:=kn e;have e2:qV t.v=0:=(by rw[<-v2];exact e1);have p1:=jC t.v;have p2:=Ew t.v;have p3:=Ex t.v;rw[e2] at p1 p2 p3;have:=p2.2 CB;have:=p3.2 CB;omega;show luQ L U (qN (QI t.v).1);rw[v2];exact a5
theorem w0p {p:Lm}{n:Nat}{L U:Nat}{D:Int}(hn:1<=n)(hn4:n<=4)(hl:p.length<=24)(hp: ∀m∈p,Yc n L U D m)(hf:UT (p.map Mn.ks)):ZL p n=true:=by
 refine(WW p n).2 ⟨⟨oG,oG,hl⟩,fun i hi=>(VU p n i).2 ?_⟩;have hg: ∀j,j<p.length->Yc n L U D (p.getD j default):=fun j hj=>by rw[show p.getD j default=p[j] by simp[q_a,hj]];exact hp _ (EA hj)
 obtain⟨a1,a2,a3,a4,a5,a6⟩:=hg i hi;refine⟨(I0 _ _).2 ⟨oG,a2,a4⟩,a5,?_⟩;by_cases h0:i=0;exact .inl h0;refine .inr ?_;have:=List.pairwise_iff_getElem.1 hf (i-1) i (by simp;omega) (by simpa using hi) oG;simpa[q_a,hi,(by omega:i-1<p.length)] using this
theorem q1h {n L U:Nat}{D:Int}{ts:List Tm}(hb:L+U+ts.length+1<=4096)(hn:1<=n)(hn4:n<=4)(hl:ts.length<=24)(h: ∀t∈ts,okT n L U D t):
 (J6 (ZN ts []) []).2=0/\ZL (J6 (ZN ts []) []).1 n=true/\(∀m∈(J6 (ZN ts []) []).1,Yc n L (U+ts.length) D m)/\(J6 (ZN ts []) []).1.length<=ts.length:=by
 obtain⟨g1,g2,g3⟩:=vW ts [] U h (fun t ht=>by cases ht) List.Pairwise.nil;rw[K0a (n:=n) (L:=L) (U:=U+ts.length) (D:=D) oG _ _ g1];have hfl:((ZN ts []).filter (fun t=>decide (Xi t.v≠0))).length<=ts.length:=by have:=List.length_filter_le (fun t:Tm=>decide (Xi t.v≠0)) (ZN ts []);simp only[D6] at g3;omega
 have hm: ∀m∈((ZN ts []).filter (fun t=>decide (Xi t.v≠0))).map vo,Yc n L (U+ts.length) D m:=fun m hm=>by obtain⟨t,ht,rfl⟩:=CF.1 hm;obtain⟨t1,t2⟩:=List.mem_filter.1 ht;exact W1e oG (g1 t t1) (q_b t2)
 refine⟨rfl,?_,by simpa using hm,by simpa using hfl⟩;rw[CQ];refine w0p hn hn4 (by simp only[BR];omega) hm ?_;rw[DZ];have:UT (((ZN ts []).filter (fun t=>decide (Xi t.v≠0))).map Tm.ks):=by unfold UT at g2⊢;rw[List.pairwise_map] at g2⊢;exact g2.filter _
 exact this
def Yg (p:Nat)(x:Rat):Prop:= ∃m e:Int,x=qM m e/\m.natAbs<=2^p
theorem Nh (v:Vl)(p:Nat)(h: ¬Qn v.m<=p): ∃k:Int,qV (QR v p false)=qM (k*2^(Qn v.m-p)) v.e/\k*2^(Qn v.m-p)<=QK v/\(∀j:Int,j*2^(Qn v.m-p)<=QK v->j<=k)/\k.natAbs<=2^p:=by
 unfold QR;rw[BA h,Vy,zp];have hb:=KP v.m;have hbp:2^Qn v.m=2^p*2^(Qn v.m-p):=(by rw[<-B2];congr 1;omega);generalize Qn v.m-p=d at*
 have hD:=CT d;have h1:=D5 v.m (2^d);have h2:=CG v.m hD;have hq:v.m/2^d<2^p:=by rw[DV hD,<-hbp];exact hb
 have hcast:((2^d:Nat):Int)=(2:Int)^d:=(by simp);have hD':(0:Int)<(2:Int)^d:=(by rw[<-hcast];exact_mod_cast hD);unfold QK;cases hn:v.neg;refine⟨((v.m/2^d:Nat):Int),?_,?_,fun j hj=> ?_,by rw[LF];exact F0 hq⟩;rw[BA (by simp),BA (by simp),B1,CN,hcast];rw[BA (by simp),<-hcast,<-CN];have:=Nat.div_mul_le_self v.m (2^d);omega;rw[BA (by simp)] at hj;by_cases hj0:j<0;have:(0:Int)<=((v.m/2^d:Nat):Int):=Int.natCast_nonneg _;omega;obtain⟨n,rfl⟩:=EE (by omega:0<=j);rw[<-hcast,<-CN] at hj;have hj':n*2^d<=v.m:=(by exact_mod_cast hj);have:=(EN hD).2 hj'
 exact_mod_cast this
 generalize hc':(if v.m % 2^d≠0/\false≠true then 1 else 0)=c;have hc:(v.m % 2^d≠0/\c=1)\/(v.m % 2^d=0/\c=0):=by by_cases h3:v.m % 2^d=0;rw[BA (by simp[h3])] at hc';exact .inr ⟨h3,hc'.symm⟩;rw[BC ⟨h3,by simp⟩] at hc';exact .inl ⟨h3,hc'.symm⟩
 refine⟨-((v.m/2^d+c:Nat):Int),?_,?_,fun j hj=> ?_,by rw[Int.natAbs_neg];simp only[LF];omega⟩;rw[BC rfl];congr 1;rw[DU,<-hcast,<-CN];rw[BC rfl,DU,<-hcast,<-CN];have:v.m<=(v.m/2^d+c)*2^d:=by rw[BM] at h1;rw[BQ];rcases hc with ⟨a,rfl⟩ | ⟨a,rfl⟩<;>omega
 omega;rw[BC rfl] at hj;by_cases hj0:0<j;have:0<j*(2:Int)^d:=Int.mul_pos hj0 hD';omega;obtain⟨n,hn'⟩:=EE (by omega:0<= -j);obtain rfl:j= -(n:Int):=oG;rw[DU,<-hcast,<-CN] at hj;have hj':v.m<=n*2^d:=oG;have:v.m/2^d+c<=n:=by
  rcases hc with ⟨a,rfl⟩ | ⟨a,rfl⟩;have:v.m/2^d<n:=by refine ES fun hle=> ?_;have:=BG (2^d) hle;rw[BM] at h1;omega
  omega;have:=Nat.div_le_div_right (c:=2^d) hj';rw[Nat.mul_div_cancel _ hD] at this;omega
 omega
theorem z1m (v:Vl)(p:Nat):Yg p (qV (QR v p false)):=by by_cases h:Qn v.m<=p;unfold QR;rw[BC h];refine⟨QK v,v.e,rfl,?_⟩;rw[Hh];exact F0 (q_e (KP v.m) (BS (by decide) h));obtain⟨k,h1,h2,h3,h4⟩:=Nh v p h;exact⟨k,v.e+((Qn v.m-p:Nat):Int),by rw[h1,Jz],h4⟩
theorem w0f {v:Vl}{p:Nat}(hp:1<=p){x:Rat}(hx:Yg p x)(hle:x<=qV v):x<=qV (QR v p false):=by
 by_cases h:Qn v.m<=p;unfold QR;rw[BC h];exact hle;obtain⟨k,h1,h2,h3,h4⟩:=Nh v p h;rw[h1];obtain⟨m,e,rfl,hm⟩:=hx;have h0:v.m≠0:=fun e=>(by rw[e,VH] at h;omega);have hlow:=kz h0;obtain⟨d,hd⟩: ∃d,Qn v.m-p=d:=⟨_,rfl⟩;rw[hd] at h1 h2 h3⊢;have hd1:1<=d:=oG;have hlow':2^(p-1)*2^d<=v.m:=(by rw[<-B2];exact B7 (BS (by decide) oG) hlow);have hcast:((2^(p-1):Nat):Int)=(2:Int)^(p-1):=(by simp);have hcd:((2^d:Nat):Int)=(2:Int)^d:=(by simp);unfold qV at hle;by_cases he:v.e+d<=e;have e1:qM m e=qM (m*2^(e-(v.e+d)).toNat*2^d) v.e:=by rw[Jz,Jz];congr 1;omega
 rw[e1,qM_le] at hle⊢;have:=h3 _ hle;exact ER this (LC (by rw[<-hcd];exact_mod_cast CT d))
 -- |x| is at most 2^(p-1) units
 have hb: ∀s:Int,s.natAbs<=2^p->qM s e<=qM ((2:Int)^(p-1)*2^d) v.e:=fun s hs=>by
  have e2:(2:Int)^(p-1)*2^d=2^p*2^(d-1):=by rw[<-Int.pow_add,<-Int.pow_add];congr 1;omega
  rw[e2,Jz];have e3:qM ((2:Int)^p) (v.e+((d-1:Nat):Int))=qM ((2:Int)^p*2^(v.e+((d-1:Nat):Int)-e).toNat) e:=by rw[Jz];congr 1;omega
  rw[e3,qM_le];have hc2:((2^p:Nat):Int)=(2:Int)^p:=(by simp);have hpos:(1:Int)<=2^(v.e+((d-1:Nat):Int)-e).toNat:=by
   have:0<2^(v.e+((d-1:Nat):Int)-e).toNat:=CT _
   exact_mod_cast this
  have hs':s<=2^p:=by rw[<-hc2];omega
  have hp0:(0:Int)<=2^p:=by rw[<-hc2];exact Int.natCast_nonneg _
  calc s<=2^p:=hs'
   _=2^p*1:=(Int.mul_one _).symm
   _<=_:=Int.mul_le_mul_of_nonneg_left hpos hp0
 unfold QK at h2 h3 hle;cases hn:v.neg;rw[hn,BA (by simp)] at h3;refine E5 (hb m hm) ?_;rw[qM_le];have:=h3 ((2:Int)^(p-1)) (by rw[<-hcast,<-hcd,<-CN];exact_mod_cast hlow');exact ER this (LC (by rw[<-hcd];exact_mod_cast CT d));rw[hn,BC rfl] at h3 hle;have hx2:=hb (-m) (by rw[Int.natAbs_neg];exact hm);rw[Ya] at hx2;have hx3:qM (-((2:Int)^(p-1)*2^d)) v.e<=qM (-(v.m:Int)) v.e:=(by rw[Ya ((2:Int)^(p-1)*2^d)];grind);have:=h3 (-((2:Int)^(p-1))) (by rw[DU];exact qM_le.1 hx3);refine E5 hle ?_;rw[qM_le];have h5: -(v.m:Int)<= -((2:Int)^(p-1))*2^d:=by rw[DU,<-hcast,<-hcd,<-CN];have:((2^(p-1)*2^d:Nat):Int)<=(v.m:Int):=(by exact_mod_cast hlow');omega
 exact Int.le_trans h5 (ER this (LC (by rw[<-hcd];exact_mod_cast CT d)))
theorem w0e (v:Vl)(p:Nat):qV (QR v p true)= -qV (QR (ZI v) p false):=by
 by_cases h0:v.m=0;have e:ZI v=v:=(by unfold ZI;rw[BC h0]);have hb:Qn v.m<=p:=(by rw[h0,VH];omega);rw[e];unfold QR;rw[BC hb,BC hb,KZ h0];rfl;have e1:(ZI v).m=v.m:=G3 v;have e2:(ZI v).e=v.e:=G4 v;have e3:(ZI v).neg= !v.neg:=(by unfold ZI;rw[BA h0]);unfold QR;rw[e1,e2,e3];split;rw[W3];grind;rw[Vy,Vy];have ec:(if v.m % 2^(Qn v.m-p)≠0/\false≠ !v.neg then 1 else 0)=(if v.m % 2^(Qn v.m-p)≠0/\true≠v.neg then 1 else 0):=by cases v.neg<;>simp
 rw[ec];generalize v.m/2^(Qn v.m-p)+(if v.m % 2^(Qn v.m-p)≠0/\true≠v.neg then 1 else 0)=M;rw[<-Ya];congr 1;cases v.neg<;>simp
set_option maxRecDepth 100000
open Go.Proofs
theorem X0z (x:Nm)(k:Nat)(st:Qc)(hx:Qg x=true)(hk:k<=8):PCalls Tryz.prog 363 [.agg (Qf x),.sc (.int .i64 k)] st (fun r st'=> ∃y,bd 1000 1000000 y/\qN y=JP (qN x) k/\r= .agg (Qf y)/\st'=st):=by
 have hb:=Xt hx;refine Ql Tryz.func363 fun E=> ?_;refine(UB _).Q ?_;refine Q1 [false,false,true,false,true,true,false,true,true] 3 0
  (fun n s=> ∃i y,n=k-i/\i<=k/\bd (1+64*i) (65536*i) y/\qN y=JP (qN x) i/\s=⟨[.junk,.junk,.lp 0 0,.junk,.lp 1 0,.lp 2 0,.junk,.sc (.int .i64 k),.sc (.int .i64 (i:Nat))]++jk 6,[Qf x,[.sc (.bool false),.sc (.int .i64 0),.sl .full []],Qf y],[],st⟩) k ?_ ?_
 refine Qq ?_;exact⟨0,oneN,oG,oG,⟨by decide,by decide,by decide⟩,Ip,rfl⟩;rintro n s ⟨i,y,rfl,hi,hy,hq,rfl⟩;refine QS ?_ ?_<;>intro h';have hlt:i<k:=(by have:=q_b h';omega);have e3:=Zd i oG;refine Qq ?_;refine(Hu y x _ _ _ _ _ hy hb oG oG oG oG).mono ?_;rintro r st ⟨z,hz,hzq,rfl,rfl⟩;simp-dsimp only[go_sem,e3];exact⟨k-(i+1),oG,i+1,z,rfl,oG,hz.mono oG oG,by rw[hzq,hq];rfl,rfl⟩;have hge:i=k:=(by have:=q_c h';omega);subst hge;refine Qq ?_;refine Qp ?_;exact⟨y,hy.mono oG oG,hq,rfl⟩
theorem x1o {n:Nat}(h:((n:Int).tmod 2==0)=true):n % 2=0:=by have h1:=Ua h;have e:(n:Int).tmod 2=((n % 2:Nat):Int):=rfl;omega
theorem x1p {n:Nat}(h:((n:Int).tmod 2==0)=false):n % 2≠0:=by have h1:=HE h;have e:(n:Int).tmod 2=((n % 2:Nat):Int):=rfl;omega
theorem G1g (a:Ivl)(k p:Int)(st:Qc)(ha:wI a):PR 358 [.agg (Qm a),.sc (.int .i64 k),.sc (.int .i64 p)] st (.tup [.agg (Qm (J3 a k p).1),.sc (.int .i64 (J3 a k p).2)]):=by
 refine Qh none Tryz.func358 rfl fun E=>Qe (Qb ?_);refine Qq ?_;refine Qa ?_;refine(I5 a a p _ ha ha).q ?_;cases hv:(Qr a&&Qr a&&Qv p) with
 | false=>
  have hp:J3 a k p=(default,1):=by rw[J3,BA];rintro⟨h1,_,_,h4⟩;rw[h1,h4] at hv;cases hv
  simp-dsimp only[go_sem,hv];rw[hp];rfl
 | true=>
  simp only[q_i] at hv;obtain⟨⟨r1,_⟩,r3⟩:=hv;refine Qq ?_;refine gkF ?_ ?_<;>intro g1
  . have g1':=q_c g1;simp-dsimp only[go_sem,g1];refine ck ?_ ?_<;>intro g2;have g2':=q_b g2;have hp:J3 a k p=(default,1):=by rw[J3,BA];rintro⟨_,h2,h3,_⟩;omega
    refine Qq ?_;rw[hp];rfl
    . have g2':=q_c g2;obtain⟨q,rfl,q1,q2,q3⟩:=W6 r3;obtain⟨n,rfl⟩: ∃n:Nat,k=n:=⟨k.toNat,oG⟩;have hn:n<=8:=oG;obtain⟨a1,a2,_⟩:=ZJ r1;have hp:J3 a n q=XK (QR (GU a n) q false) (QR (GV a n) q true):=(by rw[J3,BC ⟨r1,oG,oG,r3⟩,q3,FN]);rw[hp];clear hp;refine Qq ?_;refine Ky [false,true,true,true,false,false,true,true,true,true] 4 0 (fun s=> ∃y z,bd 1000 1000000 y/\qN y=JP (qN a.lo) n/\bd 1000 1000000 z/\qN z=JP (qN a.hi) n/\
       (s=⟨[.junk,.sc (.int .i64 (n:Nat)),.sc (.int .i64 (q:Nat)),.lp 0 0,.junk,.junk,.lp 1 0,.sc (.int .i64 0),.lp 2 0,.lp 3 0]++jk 56,[Qm a,[.sc (.bool false),.sc (.int .i64 0),.sl .full [],.sc (.bool false),.sc (.int .i64 0),.sl .full []],Qf y,Qf z],[],st⟩\/s=⟨[.junk,.sc (.int .i64 (n:Nat)),.sc (.int .i64 (q:Nat)),.lp 0 0,.junk,.junk,.lp 1 0,.sc (.int .i64 0),.lp 3 0,.lp 2 0]++jk 56,[Qm a,[.sc (.bool false),.sc (.int .i64 0),.sl .full [],.sc (.bool false),.sc (.int .i64 0),.sl .full []],Qf z,Qf y],[],st⟩)) ?_ ?_
      . refine Q8 66 (Qk [0,1,2,4,5,6] (.alt (.step 3 [5] (.alt (.step 7 [] (.alt (.step 8 [1,5] (.step 9 [1,5] (.step 10 [] (.step 11 [] (.done))))) (.step 9 [1,5] (.step 8 [1,5] (.step 10 [] (.step 11 [] (.done))))))) (.alt (.step 8 [1,5] (.alt (.step 7 [] (.step 9 [1,5] (.step 10 [] (.step 11 [] (.done))))) (.step 9 [1,5] (Qk [7,10,11] .done)))) (.step 9 [1,5] (.alt (.step 7 [] (.step 8 [1,5] (.step 10 [] (.step 11 [] (.done))))) (.step 8 [1,5] (Qk [7,10,11] .done))))))) (.alt (.step 8 [1,5] (.alt (.step 3 [5] (.alt (.step 7 [] (.step 9 [1,5] (.step 10 [] (.step 11 [] (.done))))) (.step 9 [1,5] (Qk [7,10,11] .done)))) (.step 9 [1,5] (.step 3 [5] (Qk [7,10,11] .done))))) (.step 9 [1,5] (.alt (.step 3 [5] (.alt (.step 7 [] (.step 8 [1,5] (.step 10 [] (.step 11 [] (.done))))) (.step 8 [1,5] (Qk [7,10,11] .done)))) (.step 8 [1,5] (.step 3 [5] (Qk [7,10,11] .done)))))))) ?_;refine Qq ?_
        repeat' first
         | exact⟨y,z,hy,hyq,hz,hzq,.inl rfl⟩
         | exact⟨y,z,hy,hyq,hz,hzq,.inr rfl⟩
         | refine And.intro ?_ ?_
         | (refine(X0z a.lo n _ a1 hn).mono ?_;rintro r st ⟨y,hy,hyq,rfl,rfl⟩;simp-dsimp only[go_sem])
         | (refine(X0z a.hi n _ a2 hn).mono ?_;rintro r st ⟨z,hz,hzq,rfl,rfl⟩;simp-dsimp only[go_sem])
      rintro s ⟨y,z,hy,hyq,hz,hzq,hs⟩;have sy:=Wu hy oG oG;have sz:=Wu hz oG oG;have hlow:=Z1s r1 hyq hzq;have hhigh:=(Sm r1 hyq hzq).2;have bl:=xj hy hz;have bg:=xm hy hz;have c1:=fun st=>vH y z st sy sz;have c2:=fun st=>I8 y z st sy sz;generalize ZG y z=lo at*
      generalize Z2 y z=hi at*
      refine Ky [false,true,true,true,false,false,true,true,false,false,true,true] 6 0 (fun s=> ∃X Y,s=⟨[.junk,.sc (.int .i64 (n:Nat)),.sc (.int .i64 (q:Nat)),.lp 0 0,.junk,.junk,.lp 1 0,.sc (.int .i64 0),.junk,.junk,.lp 4 0,.lp 5 0]++jk 54,[Qm a,[.sc (.bool false),.sc (.int .i64 0),.sl .full [],.sc (.bool false),.sc (.int .i64 0),.sl .full []],X,Y,Qf lo,Qf hi],[],st⟩\/s=⟨[.junk,.sc (.int .i64 (n:Nat)),.sc (.int .i64 (q:Nat)),.lp 0 0,.junk,.junk,.lp 1 0,.sc (.int .i64 0),.junk,.junk,.lp 5 0,.lp 4 0]++jk 54,[Qm a,[.sc (.bool false),.sc (.int .i64 0),.sl .full [],.sc (.bool false),.sc (.int .i64 0),.sl .full []],X,Y,Qf hi,Qf lo],[],st⟩) ?_ ?_
      . rcases hs with rfl | rfl
        all_goals
         refine Q8 66 (Qk [0,1,3,4] (.alt (.step 2 [3,4] (.alt (.step 5 [] (.alt (.step 6 [0,1,3,4] (.step 7 [0,1,3,4] (.step 8 [] (.step 9 [] (.done))))) (.step 7 [0,1,3,4] (.step 6 [0,1,3,4] (.step 8 [] (.step 9 [] (.done))))))) (.alt (.step 6 [0,1,3,4] (.alt (.step 5 [] (.step 7 [0,1,3,4] (.step 8 [] (.step 9 [] (.done))))) (.step 7 [0,1,3,4] (Qk [5,8,9] .done)))) (.step 7 [0,1,3,4] (.alt (.step 5 [] (.step 6 [0,1,3,4] (.step 8 [] (.step 9 [] (.done))))) (.step 6 [0,1,3,4] (Qk [5,8,9] .done))))))) (.alt (.step 6 [0,1,3,4] (.alt (.step 2 [3,4] (.alt (.step 5 [] (.step 7 [0,1,3,4] (.step 8 [] (.step 9 [] (.done))))) (.step 7 [0,1,3,4] (Qk [5,8,9] .done)))) (.step 7 [0,1,3,4] (.step 2 [3,4] (Qk [5,8,9] .done))))) (.step 7 [0,1,3,4] (.alt (.step 2 [3,4] (.alt (.step 5 [] (.step 6 [0,1,3,4] (.step 8 [] (.step 9 [] (.done))))) (.step 6 [0,1,3,4] (Qk [5,8,9] .done)))) (.step 6 [0,1,3,4] (.step 2 [3,4] (Qk [5,8,9] .done)))))))) ?_;refine Qq ?_
         repeat' first
          | exact⟨_,_,.inl rfl⟩
          | exact⟨_,_,.inr rfl⟩
          | refine And.intro ?_ ?_
          | (refine(c1 _).mono ?_;rintro r st ⟨rfl,rfl⟩;simp-dsimp only[go_sem])
          | (refine(c2 _).mono ?_;rintro r st ⟨rfl,rfl⟩;simp-dsimp only[go_sem])
      rintro s ⟨X,Y,rfl | rfl⟩
      all_goals
       clear c1 c2;refine Qp ?_;refine gkT ?_ ?_<;>intro g3;have g3':0<n:=(oT g3);simp-dsimp only[go_sem,g3];refine gkT ?_ ?_<;>intro g4;have g4':=x1o g4;simp-dsimp only[go_sem,g3,g4];refine(Vm a.lo _ (by have:=(QZ a1).1;omega)).q ?_;simp-dsimp only[go_sem,g3,g4];refine gkT ?_ ?_<;>intro g5;have g5':=q_b g5;simp-dsimp only[go_sem,g3,g4,g5];refine(Vm a.hi _ (by have:=(QZ a2).1;omega)).q ?_;simp-dsimp only[go_sem,g3,g4,g5];refine ck ?_ ?_<;>intro g6;have g6':=q_b g6;rw[BC ⟨g3',g4',g5',g6'⟩] at hlow;refine Qq ?_;refine(Y6 default hi q _ (Xt (show Qg default=true by decide)|>.mono oG oG) (bg.mono oG oG) oG oG).q ?_;rw[hlow,hhigh];exact QA;have g6':=q_c g6;rw[BA (fun e=>g6' e.2.2.2)] at hlow;refine Qq ?_;refine(Y6 lo hi q _ (bl.mono oG oG) (bg.mono oG oG) oG oG).q ?_;rw[hlow,hhigh];exact QA;have g5':=q_c g5;rw[BA (fun e=>g5' e.2.2.1)] at hlow;simp-dsimp only[go_sem,g3,g4,g5];refine(Y6 lo hi q _ (bl.mono oG oG) (bg.mono oG oG) oG oG).q ?_;rw[hlow,hhigh];exact QA;have g4':=x1p g4;rw[BA (fun e=>g4' e.2.1)] at hlow;simp-dsimp only[go_sem,g3,g4];refine(Y6 lo hi q _ (bl.mono oG oG) (bg.mono oG oG) oG oG).q ?_;rw[hlow,hhigh];exact QA;have g3': ¬0<n:=(oF g3);rw[BA (fun e=>g3' e.1)] at hlow;simp-dsimp only[go_sem,g3];refine(Y6 lo hi q _ (bl.mono oG oG) (bg.mono oG oG) oG oG).q ?_;rw[hlow,hhigh];exact QA
  have g1':=q_b g1;have hp:J3 a k p=(default,1):=by rw[J3,BA];rintro⟨_,h2,h3,_⟩;omega
  simp-dsimp only[go_sem,g1];rw[hp];rfl
theorem Vr {α:Type}[Inhabited α](l:List α)(f:α->Bool):l.all f=true<-> ∀i,i<l.length->f (l.getD i default)=true:=by rw[q_d];constructor;intro h i hi;have:l.getD i default=l[i]:=(by simp[q_a,hi]);rw[this];exact h _ (EA hi);intro h x hx;obtain⟨i,hi,e⟩:=CM.1 hx;have:=h i hi;rw[show l.getD i default=l[i] by simp[q_a,hi],e] at this;exact this
theorem V1a (y:Ivl)(st:Qc)(hwi:wI y):PR 343 [.agg (Qm y)] st (.sc (.bool (!Qr y))):=by refine Ql Tryz.func343 fun E=> ?_;refine(JF y _ hwi).Q0
theorem k1z (l:Li)(st:Qc)(hl:l.length<=100000000000)(hw: ∀i,i<l.length->wI (l.getD i default)):PR 342 [.sl .no (Qj l),.fn (.func 343) [] []] st (.sc (.bool (!l.all Qr))):=by
 refine Ql Tryz.func342 fun E=> ?_
 suffices h:PCalls Tryz.prog 357 [.sl .no (Qj l),.fn (.func 343) [] []] st (fun r st'=>(∃k:Int,r= .sc (.int .i64 k)/\decide (k>=0)= !l.all Qr)/\st'=st) by refine h.mono ?_;rintro r st ⟨⟨k,rfl,hk⟩,rfl⟩;simp-dsimp only[go_sem,hk]
 refine Ql Tryz.func357 fun E=> ?_;refine Q1 [true,true,false,false,false,false,false,true,true] 0 0
  (fun n s=> ∃i,n=l.length-i/\i<=l.length/\(∀j,j<i->Qr (l.getD j default)=true)/\s=⟨[.sl .no (Qj l),.fn (.func 343) [] [],.junk,.junk,.junk,.junk,.junk,.sc (.int .i64 l.length),.sc (.int .i64 (i:Nat))]++jk 10,[],[],st⟩) l.length ?_ ?_
 refine Qq ?_;exact⟨0,oG,oG,fun j hj=>oG,rfl⟩;rintro n s ⟨i,rfl,hi,hr,rfl⟩;refine QS ?_ ?_<;>intro h';have hlt:i<l.length:=(by have:=q_b h';omega);have e1:=Zr l i hlt;have e3:=Zd i oG;have hc:QH Tryz.prog 343=true:=rfl;simp-dsimp only[go_sem,e1,hc];refine⟨oG,?_⟩;refine(V1a (l.getD i default) _ (hw i hlt)).Q ?_;refine ck ?_ ?_<;>intro h2;have hf:Qr (l.getD i default)=false:=(by simpa using h2);have hv:l.all Qr=false:=CS.2 fun e=>by have:=(Vr l Qr).1 e i hlt;rw[hf] at this;cases this
 refine Qq ?_;exact⟨_,rfl,by rw[hv,q_h oG];rfl⟩;have ht:Qr (l.getD i default)=true:=(by simpa using h2);simp-dsimp only[go_sem,e3];refine⟨l.length-(i+1),oG,i+1,rfl,oG,fun j hj=> ?_,rfl⟩;by_cases e:j=i;subst e;exact ht;exact hr j oG;have hge:i=l.length:=(by have:=q_c h';omega);have hv:l.all Qr=true:=(Vr l Qr).2 fun j hj=>hr j oG;refine Qq ?_;refine Qp ?_;exact⟨_,rfl,by rw[hv];rfl⟩
theorem X1d (m:Mn)(b:Li)(p:Int)(st:Qc)(hl:m.ks.length=b.length)(h4:b.length<=4)(hk:JN m.ks=true)(hm:Qg m.c=true)(hb: ∀i,i<b.length->wI (b.getD i default)):PR 344 [.agg (Kk m),.sl .no (Qj b),.sc (.int .i64 p)] st (.tup [.agg (Qm (Xd m b p b.length).1),.sc (.int .i64 (Xd m b p b.length).2)]):=by
 refine Ql Tryz.func344 fun E=> ?_;refine(Ki m.c _ (Xc (QZ hm))).Q ?_;refine Q1 ([false,true,true,false,false,false,true,false,true]++rF 8++ [true,true,true]) 3 0
  (fun n s=> ∃i,n=b.length-i/\i<=b.length/\(Xd m b p i).2=0/\s=⟨[.junk,.sl .no (Qj b),.sc (.int .i64 p),.junk,.junk,.junk,.lp 1 0,.junk,.lp 2 0]++jk 8++ [.sl .no (QX m.ks),.sc (.int .i64 m.ks.length),.sc (.int .i64 (i:Nat))]++jk 33,[Kk m,[.sc (.bool false),.sc (.int .i64 0),.sl .full [],.sc (.bool false),.sc (.int .i64 0),.sl .full []],Qm (Xd m b p i).1],[],st⟩) b.length ?_ ?_
 refine Qq ?_;exact⟨0,oG,oG,rfl,rfl⟩;rintro n s ⟨i,rfl,hi,h0,rfl⟩;have wo:=kK hm b p i;refine QS ?_ ?_<;>intro h';have hlt:i<b.length:=(by have:=q_b h';omega);have e1:=Yh m.ks i oG;have e2:=Zr b i hlt;have e3:=Zd i oG;have hnext:Xd m b p (i+1)=if m.ks.getD i 0=0 then Xd m b p i
  else if (J3 (b.getD i default) (m.ks.getD i 0) p).2≠0 then(default,(J3 (b.getD i default) (m.ks.getD i 0) p).2)
  else opI 2 (Xd m b p i).1 (J3 (b.getD i default) (m.ks.getD i 0) p).1 p:=by rw[Xd,BA (by rw[h0];decide)]
 simp-dsimp only[go_sem,e1];refine⟨oG,?_⟩;refine ck ?_ ?_<;>intro h2;rw[BC (Ua h2)] at hnext;simp-dsimp only[go_sem,e3];exact⟨b.length-(i+1),oG,i+1,rfl,oG,by rw[hnext];exact h0,by rw[hnext]⟩;rw[BA (HE h2)] at hnext;have wp:=Z1v (b.getD i default) (m.ks.getD i 0) p;simp-dsimp only[go_sem,e2];refine⟨oG,?_⟩;refine(G1g (b.getD i default) (m.ks.getD i 0) p _ (hb i hlt)).Q ?_;refine ck ?_ ?_<;>intro h3;rw[BC (Xm h3)] at hnext;have hs:=kL (m:=m) (b:=b) (p:=p) (i:=i+1) (by rw[hnext];exact Xm h3) (b.length-(i+1));rw[show i+1+(b.length-(i+1))=b.length from oG,hnext] at hs;refine Qq ?_;rw[hs];rfl;rw[BA (by rw[XA h3];decide)] at hnext;refine Qq ?_;refine(UK (Xd m b p i).1 (J3 (b.getD i default) (m.ks.getD i 0) p).1 p _ wo wp).q ?_;rw[<-hnext];refine QS ?_ ?_<;>intro h4;have hs:=kL (m:=m) (b:=b) (p:=p) (i:=i+1) (Xm h4) (b.length-(i+1));rw[show i+1+(b.length-(i+1))=b.length from oG] at hs;refine Qq ?_;rw[hs];rfl;simp-dsimp only[go_sem,e3];exact⟨b.length-(i+1),oG,i+1,rfl,oG,XA h4,rfl⟩;have hge:i=b.length:=(by have:=q_c h';omega);subst hge;refine Qq ?_;refine Qp ?_;rw[h0]
theorem X1c (q:Lm)(b:Li)(p:Int)(st:Qc)(hq:wP q)(hb:wB b):PR 310 [.sl .no (Zp q),.sl .no (Qj b),.sc (.int .i64 p)] st (.tup [.agg (Qm (JO q b p).1),.sc (.int .i64 (JO q b p).2)]):=by
 refine Qh none Tryz.func310 rfl fun E=>Qb ?_;have bad: ¬(ZL q b.length=true/\b.all Qr=true/\Qv p=true)->JO q b p=(default,1):=fun h=>BA h;refine Qq ?_;refine(zH q _ _ hq).q ?_;cases r1:ZL q (b.length:Int) with
 | false=>
  have hv:=bad (by rintro⟨h,_⟩;rw[r1] at h;cases h);refine Qq ?_;rw[hv];rfl
 | true=>
  refine Qq ?_;refine gkF ?_ ?_<;>intro g1;have g1':=q_c g1;simp-dsimp only[go_sem,g1];refine gkF ?_ ?_<;>intro g2;have g2':=q_c g2;have hc:QH Tryz.prog 343=true:=rfl;have hp:Qv p=true:=(by unfold Qv;rw[q_h oG,q_h oG];rfl);simp-dsimp only[go_sem,g1,g2,hc];refine(k1z b _ hb.1 hb.2).q ?_;cases r2:b.all Qr with
  | false=>
   have hv:=bad (by rintro⟨_,h,_⟩;rw[r2] at h;cases h);simp-dsimp only[go_sem,g1,g2];rw[hv];rfl
  | true=>
   have hrp:JO q b p=Xu q b p q.length:=BC ⟨r1,r2,hp⟩;rw[hrp];clear hrp bad;have h4:=((WW _ _).1 r1).1;simp-dsimp only[go_sem,g1,g2];refine Va 1 ?_;refine Qq ?_;refine Q1 ([false,true,true,false,false,false,true,false,true]++rF 22++ [true,true,true]) 2 0
    (fun n s=> ∃i,n=q.length-i/\i<=q.length/\(Xu q b p i).2=0/\s=⟨[.junk,.sl .no (Qj b),.sc (.int .i64 p),.junk,.junk,.junk,.lp 0 0,.junk,.lp 1 0]++jk 22++ [.sl .no (Zp q),.sc (.int .i64 q.length),.sc (.int .i64 (i:Nat))]++jk 27,[[.sc (.bool false),.sc (.int .i64 0),.sl .full [],.sc (.bool false),.sc (.int .i64 0),.sl .full []],Qm (Xu q b p i).1],[],st⟩) q.length ?_ ?_
   refine Qq ?_;exact⟨0,oG,oG,rfl,rfl⟩;rintro n s ⟨i,rfl,hi,h0,rfl⟩;have wr:=Oz q b p i;refine QS ?_ ?_<;>intro h';have hlt:i<q.length:=(by have:=q_b h';omega);have e1:=UW q i hlt;have e3:=Zd i oG;obtain⟨k1,k2,k3⟩:=Nv r1 hlt;have wo:=kK k3 b p b.length;have hnext:Xu q b p (i+1)=if (Xd (q.getD i default) b p b.length).2≠0 then(default,(Xd (q.getD i default) b p b.length).2)
    else opI 0 (Xu q b p i).1 (Xd (q.getD i default) b p b.length).1 p:=by rw[Xu,BA (by rw[h0];decide)]
   simp-dsimp only[go_sem,e1];refine⟨oG,?_⟩;refine(X1d (q.getD i default) b p _ oG oG k2 k3 hb.2).Q ?_;refine ck ?_ ?_<;>intro h3;rw[BC (Xm h3)] at hnext;have hs:=kd (q:=q) (b:=b) (p:=p) (i:=i+1) (by rw[hnext];exact Xm h3) (q.length-(i+1));rw[show i+1+(q.length-(i+1))=q.length from oG,hnext] at hs;refine Qq ?_;rw[hs];rfl;rw[BA (by rw[XA h3];decide)] at hnext;refine Qq ?_;refine(UL (Xu q b p i).1 (Xd (q.getD i default) b p b.length).1 p _ wr wo).q ?_;rw[<-hnext];refine QS ?_ ?_<;>intro h4;have hs:=kd (q:=q) (b:=b) (p:=p) (i:=i+1) (Xm h4) (q.length-(i+1));rw[show i+1+(q.length-(i+1))=q.length from oG] at hs;refine Qq ?_;rw[hs];rfl;simp-dsimp only[go_sem,e3];exact⟨q.length-(i+1),oG,i+1,rfl,oG,XA h4,rfl⟩;have hge:i=q.length:=(by have:=q_c h';omega);subst hge;refine Qq ?_;refine Qp ?_;rw[h0]
  have hv:=bad (by rintro⟨_,_,h⟩;unfold Qv at h;simp only[q_i,BN] at h;have:=q_b g2;omega);simp-dsimp only[go_sem,g1,g2];rw[hv];rfl;have hv:=bad (by rintro⟨_,_,h⟩;unfold Qv at h;simp only[q_i,BN] at h;have:=q_b g1;omega);simp-dsimp only[go_sem,g1];rw[hv];rfl
theorem Z1o (p:Int)(st:Qc):PR 100 [.sc (.int .i64 p)] st (.sc (.bool (Qv p))):=by
 refine Qh none Tryz.func100 rfl fun E=>Qb ?_;unfold Qv;refine Qq ?_;refine gkT ?_ ?_<;>intro h;have e:decide (8<=p)=true:=h;simp-dsimp only[go_sem,h,e];try rfl
 have e:decide (8<=p)=false:=h;simp-dsimp only[go_sem,h,e];try rfl
def ZZ (f:List (List Mn))(b:List Ivl)(p:Int):List Ivl×Int:=if ZY f=true/\b.length=f.length then Q7 (fun i=>JO (f.getD i []) b p) 0 f.length [] else([],1)
theorem jZ {f:Lk}{b:Li}{p:Int}(h: ¬(ZY f=true/\b.length=f.length/\rightB b=true)):ZZ f b p=([],1):=by unfold ZZ;split;rename_i c;have h4:=((VR f).1 c.1).1;have hb: ¬b.all Qr=true:=fun e=>h ⟨c.1,c.2,by unfold rightB;rw[e,q_h oG,q_h oG];rfl⟩;exact z0y _ h4.1 1 (by decide) fun i=>(by unfold JO;rw[BA (fun e=>hb e.2.1)]);rfl
theorem z1t (f:Lk)(b:Li)(p:Int)(st:Qc)(hf:wF f)(hb:wB b):PR 265 [.sl .no (QL f),.sl .no (Qj b),.sc (.int .i64 p)] st (.tup [.sl .no (Qj (ZZ f b p).1),.sc (.int .i64 (ZZ f b p).2)]):=by
 have hfl:=hf.1;refine Ql Tryz.func265 fun E=> ?_;refine(IJ f _ hf).q ?_;cases r1:ZY f with
 | false=>
  have hv:=jZ (f:=f) (b:=b) (p:=p) (by rintro⟨h,_⟩;rw[r1] at h;cases h);refine Qq ?_;rw[hv];rfl
 | true=>
  have h4:=((VR f).1 r1).1;refine Qq ?_;refine(Ko b _ hb).q ?_;cases r2:rightB b with
  | false=>
   have hv:=jZ (f:=f) (b:=b) (p:=p) (by rintro⟨_,_,h⟩;rw[r2] at h;cases h);refine Qq ?_;rw[hv];rfl
  | true=>
   refine QS ?_ ?_<;>intro h;have hne:=Ve h;have hv:=jZ (f:=f) (b:=b) (p:=p) (by rintro⟨_,h,_⟩;exact hne h);refine Qq ?_;rw[hv];rfl;have heq:=Kg h;have hv:ZZ f b p=Q7 (fun i=>JO (f.getD i []) b p) 0 f.length []:=BC ⟨r1,heq⟩;rw[hv];refine Qq ?_;refine ZE 8 6 ?_;refine Qq ?_;refine Q1 ([false,true,true,false,false,false,false,false,true]++rF 19++ [true,true,true]) 0 1
    (fun n s=> ∃(i:Nat) (o:Li),n=f.length-i/\i<=f.length/\o.length=i/\Q7 (fun i=>JO (f.getD i []) b p) 0 f.length []=Q7 (fun i=>JO (f.getD i []) b p) i (f.length-i) o/\
     s=⟨[.junk,.sl .no (Qj b),.sc (.int .i64 p),.junk,.junk,.junk,.junk,.junk,.sl (.own 0) (Qj o)]++jk 19++ [.sl .no (QL f),.sc (.int .i64 f.length),.sc (.int .i64 (i:Nat))]++jk 19,[],[(o.length,6)],st⟩) f.length ?_ ?_
   refine Qq ?_;exact⟨0,[],oG,oG,rfl,rfl,rfl⟩;rintro n s ⟨i,o,rfl,hi,ho,hr,rfl⟩;refine QS ?_ ?_<;>intro h';have hlt:i<f.length:=(by have:=q_b h';omega);have e1:=IN f i hlt;have e3:=Zd i oG;have e4:=VM (fun i=>JO (f.getD i []) b p) hlt o;simp-dsimp only[go_sem,e1];refine⟨oG,?_⟩;refine(X1c (f.getD i []) b p _ (hf.2 i hlt) hb).Q ?_;refine ck ?_ ?_<;>intro h2;have hne:=Xm h2;refine Qq ?_;rw[hr,e4,BC hne];rfl;have he:=XA h2;simp-dsimp only[go_sem,e3];refine⟨⟨oG,oG⟩,f.length-(i+1),oG,i+1,o++ [(JO (f.getD i []) b p).1],rfl,oG,by simp[ho],?_,?_⟩;rw[hr,e4,BA (fun hh=>hh he)];simp[Qj,Qm];have hge:i=f.length:=(by have:=q_c h';omega);subst hge;refine Qq ?_;refine KG (rF 8++ [true]) (Qb ?_);refine Qq ?_;rw[hr,Wt]
def J5 (f:List (List Mn))(i j:Nat):List Mn×Int:=k1d (f.getD i []) (j:Nat) f.length
def W8 (f:List (List Mn)):List (List (List Mn))×Int:=if ZY f=true then Q7 (fun i=>Q7 (fun j=>J5 f i j) 0 f.length []) 0 f.length [] else([],1)
theorem z1v (f:Lk)(st:Qc)(hf:wF f)
 (hD: ∀(i j:Nat) (st:Qc),i<f.length->j<f.length->PR 273 [.sl .no (Zp (f.getD i [])),.sc (.int .i64 j),.sc (.int .i64 f.length)] st (.tup [.sl .no (Zp (J5 f i j).1),.sc (.int .i64 (J5 f i j).2)])):PR 205 [.sl .no (QL f)] st (.tup [.sl .no (Xw (W8 f).1),.sc (.int .i64 (W8 f).2)]):=by
 have hfl:=hf.1;refine Ql Tryz.func205 fun E=> ?_;refine(IJ f _ hf).w ?_;rintro st rfl;cases r1:ZY f with
 | false=>
  have hv:W8 f=([],1):=(by rw[W8,BA (by rw[r1];decide)]);refine Qq ?_;rw[hv];rfl
 | true=>
  have h4:=((VR f).1 r1).1;have hv:W8 f=Q7 (fun i=>Q7 (fun j=>J5 f i j) 0 f.length []) 0 f.length []:=(by rw[W8,BC r1]);rw[hv];clear hv;generalize hT:Q7 (fun i=>Q7 (fun j=>J5 f i j) 0 f.length []) 0 f.length []=T;refine Qq ?_;refine ZE 5 1 ?_;refine Qq ?_;refine Q1 ([true,false,false,false,true,true]++rF 9++ [true,true]) 0 1
   (fun k s=> ∃(i:Nat) (o:Ll),k=f.length-i/\i<=f.length/\o.length=i/\T=Q7 (fun i=>Q7 (fun j=>J5 f i j) 0 f.length []) i (f.length-i) o/\
    s=⟨[.sl .no (QL f),.junk,.junk,.junk,.sc (.int .i64 0),.sl (.own 0) (Xw o)]++jk 9++ [.sc (.int .i64 f.length),.sc (.int .i64 (i:Nat))]++jk 35,[],[(o.length,1)],st⟩) f.length ?_ ?_
  refine Qq ?_;exact⟨0,[],oG,oG,rfl,hT.symm,rfl⟩;rintro k s ⟨i,o,rfl,hi,ho,hr,rfl⟩;refine QS ?_ ?_<;>intro h';have hlt:i<f.length:=(by have:=q_b h';omega);have e1:=IN f i hlt;have e3:=Zd i oG;have e4:=VM (fun i=>Q7 (fun j=>J5 f i j) 0 f.length []) hlt o;refine Qq ?_;refine ZE 7 1 ?_;refine Qq ?_;refine Q1 ([true,false,false,false,true,true,true,true]++rF 7++ [true,true,false,false,false,true,true]) 0 2
   (fun k s=> ∃(j:Nat) (r:Lk),k=f.length-j/\j<=f.length/\r.length=j/\Q7 (fun j=>J5 f i j) 0 f.length []=Q7 (fun j=>J5 f i j) j (f.length-j) r/\
    s=⟨[.sl .no (QL f),.junk,.junk,.junk,.sc (.int .i64 0),.sl (.own 0) (Xw o),.sc (.int .i64 (i:Nat)),.sl (.own 1) (QL r)]++jk 7++ [.sc (.int .i64 f.length),.sc (.int .i64 (i:Nat)),.junk,.junk,.junk,.sc (.int .i64 f.length),.sc (.int .i64 (j:Nat))]++jk 30,[],[(o.length,1),(r.length,1)],st⟩) f.length ?_ ?_
  refine Qq ?_;exact⟨0,[],oG,oG,rfl,rfl,rfl⟩;rintro k s ⟨j,r,rfl,hj,hrl,hrr,rfl⟩;refine QS (fun h''=> ?_) (fun h''=> ?_);have hlt2:j<f.length:=(by have:=q_b h'';omega);have f3:=Zd j oG;have f4:=VM (fun j=>J5 f i j) hlt2 r;simp-dsimp only[go_sem,e1];refine⟨oG,?_⟩;refine(hD i j _ hlt hlt2).Q ?_;refine ck ?_ ?_<;>intro h5
  . have hne:(J5 f i j).2≠0:=Xm h5;have q1:Q7 (fun j=>J5 f i j) 0 f.length []=([],(J5 f i j).2):=(by rw[hrr,f4,BC hne]);have hTT:T=([],(J5 f i j).2):=(by rw[hr,e4,BC (by rw[q1];exact hne),q1]);subst hTT;refine Qq ?_;refine Qb ?_;simp-dsimp only[go_sem,h5]
    try rfl
  have he:(J5 f i j).2=0:=XA h5;simp-dsimp only[go_sem,f3];refine⟨⟨oG,oG⟩,f.length-(j+1),oG,j+1,r++ [(J5 f i j).1],rfl,oG,by simp[hrl],?_,?_⟩;rw[hrr,f4,BA (fun hh=>hh he)];simp[QL,J5];have hge:j=f.length:=(by have:=q_c h'';omega);have q1:Q7 (fun j=>J5 f i j) 0 f.length []=(r,0):=(by rw[hrr,hge];exact Wt _ f.length r);refine Qq ?_;refine Qp ?_;refine⟨⟨oG,oG⟩,Qb ?_⟩;simp-dsimp only[go_sem,e3];refine⟨f.length-(i+1),oG,i+1,o++ [r],rfl,oG,by simp[ho],?_,?_⟩;rw[hr,e4,q1,BA (by simp)];simp;have hge:i=f.length:=(by have:=q_c h';omega);have z0:((0:Int) !=0)=false:=rfl;refine Qq ?_;refine Qb ?_;simp-dsimp only[go_sem,z0];rw[hr,hge,Wt]
theorem V0v (a:List Tm)(i:Nat)(h:i<a.length):a.drop i=a.getD i default::a.drop (i+1):=by rw[E8 h];simp[q_a,h]
theorem z0u (a:List Tm)(i:Nat)(h:i<a.length):a.take (i+1)=a.take i++ [a.getD i default]:=by rw[List.take_add_one,BB h];simp[q_a,h]
theorem y0v (q:Lm)(b:Li)(p:Int):wI (JO q b p).1:=by unfold JO;split;exact Oz _ _ _ _;exact Gt
theorem y0w (f:Lk)(b:Li)(p:Int)(hf:f.length<=100000000000):wB (ZZ f b p).1:=by
 have key:(ZZ f b p).1.length<=100000000000/\ ∀y∈(ZZ f b p).1,wI y:=by unfold ZZ;split;refine⟨?_,WR wI f.length 0 [] (fun i _ _=>y0v _ _ _) (fun x hx=>by cases hx)⟩;have:=Uk (G:=fun i=>JO (f.getD i []) b p) f.length 0 [];rw[D6] at this;omega;exact⟨by simp,fun y hy=>by cases hy⟩
 refine⟨key.1,fun i hi=> ?_⟩;rw[show(ZZ f b p).1.getD i default=(ZZ f b p).1[i] by simp[q_a,hi]];exact key.2 _ (EA hi)
theorem wA (O:List Tm): ∀i,i<(QC O).length->((QC O).getD i .junk).cells.length=4:=fun i hi=>by rw[UU] at hi;rw[xA O i hi];rfl
theorem UR (O:List Tm):(flat (QC O)).length=O.length*4:=by rw[Kj (wA O),UU]
theorem K0u (O:List Tm)(R:Lp)(k m:Nat)(hk:k<O.length)(hm:m<4):(flat (QC O)++R).getD (k*4+m) .junk=(K3 (O.getD k default)).getD m .junk:=by have h:=UR O;rw[QV _ _ _ _ oG,Vk (wA O) _ (by rw[UU];omega),show(k*4+m)/4=k from oG,show(k*4+m) % 4=m from oG,xA O k hk];rfl
theorem z1h (O:List Tm)(k:Nat):(flat (QC O)).drop (k*4)=flat (QC (O.drop k)):=by
 induction k generalizing O with
 | zero=>simp
 | succ k ih=>
  cases O with
  | nil=>simp[QC,flat]
  | cons o r=>
   have e:flat (QC (o::r))=K3 o++flat (QC r):=rfl;rw[e,show(k+1)*4=4+k*4 from oG,<-List.drop_drop,ET (by simp[K3]),show(K3 o).drop 4= [] from rfl,CQ,ih r,List.drop_succ_cons]
theorem z1e (O:List Tm)(R:Lp)(k:Nat)(hk:k<O.length):((flat (QC O)++R).drop (k*4)).take 3=Xl (O.getD k default).v:=by have h:=UR O;rw[ET oG,z1h,show O.drop k=O.getD k default::O.drop (k+1) from V0v O k hk];rfl
theorem z1f (O:List Tm)(R:Lp)(k:Nat)(v:Vl)(hk:k<O.length):Q4 (flat (QC O)++R) (k*4) (Xl v)=flat (QC (O.set k ⟨v,(O.getD k default).ks⟩))++R:=by
 have h:=UR O
 induction k generalizing O with
 | zero=>
  cases O with
  | nil=>simp at hk
  | cons o r=>rfl
 | succ k ih=>
  cases O with
  | nil=>simp at hk
  | cons o r=>
   have e:flat (QC (o::r))=K3 o++flat (QC r):=rfl;have ih':=ih r (by simpa using hk) (UR r);have hl:(K3 o).length=4:=rfl;have hget:(o::r).getD (k+1) default=r.getD k default:=rfl;rw[hget,LD,show flat (QC (o::r.set k ⟨v,(r.getD k default).ks⟩))=K3 o++flat (QC (r.set k ⟨v,(r.getD k default).ks⟩)) from rfl,e,BP,BP,<-ih'];unfold Q4;rw[show(k+1)*4=4+k*4 from oG,List.take_append,List.drop_append,hl,BF (by rw[hl];omega),C6 (by rw[hl];omega)];simp only[show 4+k*4-4=k*4 from oG,show 4+k*4+(Xl v).length-4=k*4+(Xl v).length from oG,CQ,BP]
theorem IF (O:List Tm):(flat (QC O)).all PV.quiet=true:=by
 induction O with
 | nil=>rfl
 | cons o r ih=>
  have e:flat (QC (o::r))=K3 o++flat (QC r):=rfl;rw[e,List.all_append,ih];rfl
theorem K0r (O:List Tm)(R:Lp)(n:Nat)(hn:n=O.length):(flat (QC O)++R).take (n*4)=flat (QC O):=z0v (wA O) (by rw[UU];exact hn)
theorem K0s (O X:List Tm)(R:Lp):flat (QC O)++(flat (QC X)++R)=flat (QC (O++X))++R:=by rw[<-BP,<-xx,j1e]
theorem z1g (O:List Tm):(flat (QC O)).map PV.forget2=flat (QC O):=by
 induction O with
 | nil=>rfl
 | cons o r ih=>
  have e:flat (QC (o::r))=K3 o++flat (QC r):=rfl;rw[e,E2,ih];rfl
theorem z1i (O:List Tm)(R:Lp):JI 4 O.length (flat (QC O)++R)=QC O:=by have:=xL (sz:=4) (ys:=QC O) R (fun y hy=>by unfold QC at hy;obtain⟨t,_,rfl⟩:=CF.1 hy;exact⟨rfl,rfl⟩);rw[UU] at this;exact this
theorem K0t (O:List Tm)(R:Lp):(flat (QC O)++R).map PV.forget2=flat (QC O)++R.map PV.forget2/\(O.length*4<=(flat (QC O)).length+(R.map PV.forget2).length)=True/\JI 4 O.length (flat (QC O)++R.map PV.forget2)=QC O:=
 ⟨by rw[E2,z1g],eq_true (by have:=UR O;omega),z1i O _⟩
theorem jN {O X:List Tm}{R:Lp}{cap n:Nat}{id:Lt}(hn:n=O.length)(hc:n<=cap)(hR:R.length=(cap-n)*4)(hq:R.all PV.quiet=true)(hl:n+X.length<=1000):
 HB (flat (QC O)++R) n cap (QC X) ⟨id,4,64,true,true,false⟩:=by
 have h1:=UR O;refine⟨rfl,by show 0<4;decide,by show _=cap*4;rw[BH,h1,hR];omega,by rw[UU];omega,by show(n+(QC X).length)*64<=_;rw[UU];omega,j1d X,by rw[List.all_append,IF,hq];rfl,IF X⟩
def w0i (O:List Tm)(cap:Nat)(R:List PV):Prop:=R.length=(cap-O.length)*4/\O.length<=cap/\R.all PV.quiet=true
theorem q1g (ts:List Tm)(st:Qc)(hl:ts.length<=24)(hw: ∀i,i<ts.length->wK (ts.getD i default).ks/\smV (ts.getD i default).v)
 (hwT: ∀i,i<=ts.length-> ∀t∈ZN (ts.take i) [],wK t.ks/\smV t.v/\(Qs t.v.m).length<=1000000000000):
 PR 183 [.sl .no (QC ts)] st (.tup [.sl .no (Zp (J6 (ZN ts []) []).1),.sc (.int .i64 (J6 (ZN ts []) []).2)]):=by
 refine Ql Tryz.func183 fun E=> ?_;refine kr ?_;refine ku 4 0 (by simp) (by rfl) ?_;refine Qq ?_;refine X0 [true,false,false,false,true,true] 1 0
  (fun c s=> ∃(i cap:Nat) (O:List Tm) (R:Lp),c=ts.length-i/\i<=ts.length/\O=ZN (ts.take i) []/\w0i O cap R/\s=⟨[.sl .no (QC ts),.junk,.junk,.junk,.mr 0 O.length cap,.sc (.int .i64 (i:Nat))]++jk 122,[flat (QC O)++R],[],st⟩) ts.length ?_ ?_
 refine Qq ?_;exact⟨0,0,[],[],oG,oG,by simp[ZN],⟨rfl,BD _,rfl⟩,rfl⟩
 . rintro c s ⟨i,cap,O,R,rfl,hi,hO,hR,rfl⟩;have hOl:O.length<=i:=by
    rw[hO];have: ∀(ts acc:List Tm),(ZN ts acc).length<=acc.length+ts.length:=by
     intro ts
     induction ts with
     | nil=>intro acc;exact BD _
     | cons t r ih=>
      intro acc;have h1:=ih (ZT t acc);have h2:=vP t acc;rw[ZN];simp only[C1];omega
    have h3:=this (ts.take i) [];rw[BX] at h3;simp at h3;omega
   obtain⟨hR1,hR2,hR3⟩:=hR;have hall:(flat (QC O)++R).all PV.quiet=true:=(by rw[List.all_append,IF,hR3];rfl);have hlims:=W2 (a:=1) (b:=0) hall;have hfl:=UR O;have hOw: ∀j,j<O.length->wK (O.getD j default).ks/\smV (O.getD j default).v/\(Qs (O.getD j default).v.m).length<=1000000000000:=fun j hj=>by rw[show O.getD j default=O[j] by simp[q_a,hj]];exact hwT i hi _ (by rw[<-hO];exact EA hj)
   have hnx:i<ts.length->ZN (ts.take (i+1)) []=ZT (ts.getD i default) O:=fun h=>(by rw[z0u ts i h,K0b,<-hO]);have hfin:i=ts.length->O=ZN ts []:=fun e=>(by rw[hO,e,B0]);refine Qa ?_;refine ck ?_ ?_<;>intro h'
   . have hlt:i<ts.length:=by have:=q_b h';omega
     have e1:=xA ts i hlt;have e3:=Zd i oG;refine Qq ?_;refine Qe (Xp (Qe (Qb ?_)));refine Qq ?_;refine Ky [true,false,false,false,true,true,true] 1 0
      (fun s=> ∃k,k<=O.length/\(∀q,q<k->Zn (O.getD q default).ks (ts.getD i default).ks>0)/\(k<O.length-> ¬Zn (O.getD k default).ks (ts.getD i default).ks>0)/\s=⟨[.sl .no (QC ts),.junk,.junk,.junk,.mr 0 O.length cap,.sc (.int .i64 (i:Nat)),.sc (.int .i64 (k:Nat))]++jk 121,[flat (QC O)++R],[],st⟩) ?_ ?_
     refine Qq ?_;refine Q1 [true,false,false,false,true,true,true] 1 0
      (fun c s=> ∃j,c=O.length-j/\j<=O.length/\(∀q,q<j->Zn (O.getD q default).ks (ts.getD i default).ks>0)/\s=⟨[.sl .no (QC ts),.junk,.junk,.junk,.mr 0 O.length cap,.sc (.int .i64 (i:Nat)),.sc (.int .i64 (j:Nat))]++jk 121,[flat (QC O)++R],[],st⟩) O.length ?_ ?_
     refine Qq ?_;exact⟨hlims,0,oG,oG,fun q hq=>absurd hq oG,rfl⟩;rintro c s ⟨j,rfl,hj,hq,rfl⟩;have f3:=Zd j oG;refine Qq ?_;refine Q8 128 (Qk [0,1,2,3,4,5,6,7,8,9,10,11,12,13,14,15,16,17] .done) ?_;refine Qq ?_;refine gkT ?_ ?_<;>intro h1;have hlt2:j<O.length:=(oT h1);have e2:=K0u O R j 3 hlt2 oG;simp-dsimp only[go_sem,h1,e1,e2];refine⟨⟨oG,hlt2⟩,oG,⟨oG,oG⟩,?_⟩;refine(jY (O.getD j default).ks (ts.getD i default).ks _ (hOw j hlt2).1 (hw i hlt).1).q ?_;simp-dsimp only[go_sem,h1];refine ck ?_ ?_<;>intro h2;simp-dsimp only[go_sem,f3];exact⟨hlims,O.length-(j+1),oG,j+1,rfl,oG,fun q hq'=>by by_cases e:q=j;rw[e];exact q_b h2;exact hq q oG,rfl⟩;refine Qq ?_;exact⟨hlims,j,oG,hq,fun _=>q_c h2,rfl⟩;have hge:j=O.length:=(oF h1);subst hge;simp-dsimp only[go_sem,h1];exact⟨hlims,O.length,oG,hq,fun h=>absurd h (Nat.lt_irrefl _),rfl⟩
     . rintro s ⟨k,hk,hq,hnq,rfl⟩;refine Ky [true,false,false,false,true,true,true] 1 0
        (fun s=>ZT (ts.getD i default) O=O.take k++ts.getD i default::O.drop k/\s=⟨[.sl .no (QC ts),.junk,.junk,.junk,.mr 0 O.length cap,.sc (.int .i64 (i:Nat)),.sc (.int .i64 (k:Nat))]++jk 121,[flat (QC O)++R],[],st⟩) ?_ ?_
       rotate_left;rintro s ⟨hs,rfl⟩;clear hq hnq;obtain⟨f1,f2,f3⟩:=K0t O R;refine GQ 0 4 (by simp only[Hr];exact Io hall) ?_;generalize R.map PV.forget2=R' at f1 f2 f3;simp-dsimp only[go_sem,f1,f2,f3];refine Qa ?_;refine ku 7 0 (by simp) (by rfl) ?_;refine Qq ?_;refine Qe ?_;refine zE [false,false,false,false,true,false] ?_;have hA:(O.take k).length=k:=(by rw[BX];omega);have hB:(O.drop k).length=O.length-k:=DM;refine Qq ?_;have hOO:O.take O.length=O:=B0;generalize O.take k=A at*
       generalize hBe:O.drop k=B at*
       refine⟨⟨⟨oG,oG⟩,oG⟩,jN (O:= []) rfl oG rfl rfl oG,?_⟩;intro c1 R1 g1 g2 g3;have t1:=K0r A R1 A.length rfl;refine Qe ?_;refine zE [false,false,false,false,false,false,true,false] ?_;have hone: [PV.agg [.sc (.bool (ts.getD i default).v.neg),.sl .no (QD (Qs (ts.getD i default).v.m)),.sc (.int .i64 (ts.getD i default).v.e),.sl .no (QX (ts.getD i default).ks)]]=QC [ts.getD i default]:=rfl;simp-dsimp only[go_sem,e1,hone,t1,K0s];refine⟨⟨oG,oG⟩,jN rfl g1 g2 g3 (by show A.length+1<=1000;omega),?_⟩;intro c2 R2 k1 k2 k3;have hA2:(A++ [ts.getD i default]).length=A.length+1:=(by simp);generalize hA3:A++ [ts.getD i default]=A2 at*
       have t2:=K0r A2 R2 (A.length+1) hA2.symm;refine zE [false,false,false,false,true,false] ?_;simp-dsimp only[go_sem,hOO,hBe,t2,K0s];refine⟨⟨⟨oG,oG⟩,oG⟩,jN hA2.symm k1 k2 k3 oG,?_⟩;intro c3 R3 l1 l2 l3;have hall2:(flat (QC (A2++B))++R3).all PV.quiet=true:=(by rw[List.all_append,IF,l3];rfl);have hl2:(A2++B).length=A.length+1+B.length:=(by rw[BH,hA2]);refine Qb ?_;simp-dsimp only[go_sem,e3];exact⟨W2 hall2,ts.length-(i+1),oG,i+1,c3,A2++B,R3,rfl,oG,by rw[hnx hlt,hs,<-hA3];simp,⟨by rw[hl2];exact l2,by rw[hl2];exact l1,l3⟩,by rw[hl2]⟩;refine Qq ?_;refine Q8 128 (Qk [0,1,2,3,4,5,6,7,8,9,10,11,12,13,14,15,16,17] .done) ?_;refine Qq ?_;refine gkT ?_ ?_<;>intro h1;have hlt2:k<O.length:=(oT h1);have e2:=K0u O R k 3 hlt2 oG;simp-dsimp only[go_sem,h1,e1,e2];refine⟨⟨oG,hlt2⟩,oG,⟨oG,oG⟩,?_⟩;refine(jY (O.getD k default).ks (ts.getD i default).ks _ (hOw k hlt2).1 (hw i hlt).1).q ?_;simp-dsimp only[go_sem,h1];refine ck ?_ ?_<;>intro h2;have hz:Zn (O.getD k default).ks (ts.getD i default).ks=0:=Ua h2;have e4:=z1e O R k hlt2;refine Qq ?_;refine Q8 128 (Qk [0,1,2,3,4,5,6,7,8,9,10,11,12,13,14,15] .done) ?_;simp-dsimp only[go_sem,e1,e4];refine⟨⟨oG,hlt2⟩,oG,⟨oG,oG⟩,?_⟩;refine(zI (O.getD k default).v (ts.getD i default).v _ (hOw k hlt2).2.1 (hw i hlt).2).q ?_;have e5:=z1f O R k (Zz (O.getD k default).v (ts.getD i default).v) hlt2;unfold Xl at e5;simp-dsimp only[go_sem,e5];have hs:ZT (ts.getD i default) O=O.set k ⟨Zz (O.getD k default).v (ts.getD i default).v,(O.getD k default).ks⟩:=G1y hlt2 hq hz;have hall2:(flat (QC (O.set k ⟨Zz (O.getD k default).v (ts.getD i default).v,(O.getD k default).ks⟩))++R).all PV.quiet=true:=(by rw[List.all_append,IF,hR3];rfl);refine⟨⟨oG,hlt2⟩,⟨oG,oG⟩,Qb ?_⟩;simp-dsimp only[go_sem,e3];exact⟨W2 hall2,ts.length-(i+1),oG,i+1,cap,_,R,rfl,oG,by rw[hnx hlt,hs],⟨by rw[BL];exact hR1,by rw[BL];exact hR2,hR3⟩,by rw[BL]⟩;have hne:=HE h2;have hs:ZT (ts.getD i default) O=O.take k++ts.getD i default::O.drop k:=H1a hlt2 hq (hnq hlt2) hne;refine Qq ?_;exact⟨hlims,hs⟩;have hge:k=O.length:=(oF h1);have hs:ZT (ts.getD i default) O=O.take k++ts.getD i default::O.drop k:=(by rw[H1c (by rw[<-hge];exact hq),hge,B0,FF]);simp-dsimp only[go_sem,h1];exact⟨hlims,hs⟩
   have hge:i=ts.length:=by have:=q_c h';omega
   have hO2:=hfin hge;subst hO2;have hO24:(ZN ts []).length<=24:=oG;clear hlims hnx hfin hge h' hi;obtain⟨f1,f2,f3⟩:=K0t (ZN ts []) R;generalize ZN ts []=O at*
   refine Qq ?_;refine GQ 0 4 (by simp only[Hr];exact Io hall) ?_;generalize R.map PV.forget2=R' at f1 f2 f3;simp-dsimp only[go_sem,f1,f2,f3];refine Qp ?_;refine ZE 8 4 ?_;refine Qq ?_;refine Q1 [false,false,false,false,true,false,false,false,true,true] 0 1
    (fun c s=> ∃(j:Nat) (o:Lm),c=O.length-j/\j<=O.length/\o.length<=j/\J6 O []=J6 (O.drop j) o/\
     s=⟨[.junk,.junk,.junk,.junk,.sl .no (QC O),.junk,.junk,.junk,.sl (.own 0) (Zp o),.sc (.int .i64 (j:Nat))]++jk 118,[],[(o.length,4)],st⟩) O.length ?_ ?_
   refine Qq ?_;exact⟨0,[],oG,oG,by simp,rfl,rfl⟩;rintro c s ⟨j,o,rfl,hj,ho,hr,rfl⟩;refine QS ?_ ?_<;>intro h1;have hlt:j<O.length:=(oT h1);have e1:=xA O j hlt;have e3:=Zd j oG;obtain⟨w1,_,w2⟩:=hOw j hlt;have w3:=w1.1;rw[V0v O j hlt,J6] at hr;simp-dsimp only[go_sem,e1];refine⟨oG,?_⟩;refine(Ey (O.getD j default).v _).Q ?_;refine ck ?_ ?_<;>intro h2;rw[BC (Ua h2)] at hr;simp-dsimp only[go_sem,e3];exact⟨O.length-(j+1),oG,j+1,o,rfl,oG,oG,hr,rfl⟩;rw[BA (HE h2)] at hr;simp-dsimp only[go_sem,e1];refine⟨oG,?_⟩;refine(Ud (O.getD j default).v _ w2).Q ?_;refine ck ?_ ?_<;>intro h3;rw[BC (Xm h3)] at hr;refine Qq ?_;rw[hr];rfl;rw[BA (by rw[XA h3];decide)] at hr;refine Qq ?_;refine Q8 128 (Qk [0,1,2,3,4,5,6,7] (.step 8 [1] (Qk [9,10,11,12] .done))) ?_;simp-dsimp only[go_sem,e1,e3];refine⟨oG,⟨oG,oG⟩,⟨oG,oG⟩,O.length-(j+1),oG,j+1,o++ [⟨(QI (O.getD j default).v).1,(O.getD j default).ks⟩],rfl,oG,by simp;omega,hr,?_⟩;simp[Zp,Kk];have hge:j=O.length:=(oF h1);subst hge;rw[FF,J6] at hr;have z1:decide ((o.length:Int)>24)=false:=q_g oG;refine Qq ?_;refine KG (rF 8++ [true]) (Qb ?_);simp-dsimp only[go_sem,z1];rw[hr]
theorem x0o (ks:Pq)(j:Nat)(x:Int)(hj:j<ks.length):(ks.set j x).sum=ks.sum-ks.getD j 0+x:=by
 induction ks generalizing j with
 | nil=>simp at hj
 | cons k r ih=>
  cases j with
  | zero=>simp;omega
  | succ j=>
   have:=ih j (by simpa using hj);simp only[LD,List.sum_cons,List.getD_cons_succ,this];omega
def okKs (n:Nat)(D:Int)(ks:List Int):Prop:=ks.length=n/\(∀j,j<n->0<=ks.getD j 0)/\ks.sum<=D
theorem okKs.right {n:Nat}{D:Int}{ks:Pq}(h:okKs n D ks)(hD:D<=8):JN ks=true:=(Ww ks).2 ⟨fun j hj=>h.2.1 j (by rw[<-h.1];exact hj),by have:=h.2.2;omega⟩
theorem okKs.wK {n:Nat}{D:Int}{ks:Pq}(h:okKs n D ks)(hD:D<=8)(hn:n<=1000):wK ks:=⟨by rw[h.1];omega,fun i hi=>by have:=GM (h.right hD) i hi;omega⟩
theorem Oi (n:Nat):List.replicate n (PV.sc (.int .i64 0))=QX (List.replicate n 0):=by simp[QX]
theorem x1w (T:Pq)(q:Nat)(c:Int)(h:q<T.length):Q4 (QX T) q [.sc (.int .i64 c)]=QX (T.set q c):=by have:=K1s 0 T q c h;simpa using this
theorem x0p (n:Nat):(List.replicate n (0:Int)).sum=0:=by
 induction n with
 | zero=>rfl
 | succ n ih=>rw[List.replicate_succ,List.sum_cons,ih];rfl
theorem Z1r (l:Lu)(i k n D:Nat)(st:Qc)(h:atD st k l i)(hi:i<=900000000000)(hn:1<=n)(hn2:n<=1000)(hD:D<=8):PCalls Tryz.prog 184 [.gp k 0,.sc (.int .i64 n),.sc (.int .i64 D)] st
 (fun r st'=> ∃ks j,okKs n D ks/\i<=j/\j<=i+1+D/\r= .sl .no (QX ks)/\st'=st.set k (dk l j)):=by
 refine Qh none Tryz.func184 rfl fun E=>Qb ?_;have x1:=J2v D oG;simp-dsimp only[go_sem,x1];refine⟨⟨oG,oG,oG⟩,?_⟩;refine(Vn l i k (D+1) st h oG oG oG).q ?_;have hnx:=V1 l i (n:=D+1) oG;refine Qq ?_;refine Q1 [true,true,false,false,false,false,false,true,true] 1 0 (fun m s=> ∃(ks:Pq) (c j:Nat),m=c/\c<=D/\okKs n (D-c) ks/\i<=j/\j+c<=i+1+D/\
  s=⟨[.gp k 0,.sc (.int .i64 n),.junk,.junk,.junk,.junk,.junk,.ms false 0 0 n,.sc (.int .i64 (c:Nat))]++jk 19,[QX ks],[],st.set k (dk l j)⟩) (nx l i (D+1)) ?_ ?_
 refine Qq ?_;refine⟨(by rw[Oi];exact x1x _ _ _),List.replicate n 0,nx l i (D+1),i+1,rfl,oG,⟨by simp,fun j hj=>by simp[q_a,hj],by rw[x0p];omega⟩,oG,oG,?_⟩;rw[Oi];rintro m s ⟨ks,c,j,hm,hc,hks,hj1,hj2,rfl⟩;subst hm;obtain⟨k1,k2,k3⟩:=hks;refine QS ?_ ?_<;>intro h1;have hpos:0<m:=(oT h1);have x2:IntKind.i64.wrap ((m:Int)-1)=((m-1:Nat):Int):=(by rw[Q2 _ oG oG];omega);refine Qq ?_;refine(Vn l j k n _ (h.set j) oG oG oG).q ?_;have hq:=V1 l j (n:=n) oG;generalize nx l j n=q at hq⊢;have hg:=Yh ks q oG;have hv:=k2 q hq;have hup:ks.getD q 0<=8:=by have:=GM ((Ww ks).2 ⟨fun j hj=>k2 j oG,oG⟩) q oG;exact this.2
 have x3:IntKind.i64.wrap (ks.getD q 0+1)=ks.getD q 0+1:=Q2 _ oG oG;have hs:=x1w ks q (ks.getD q 0+1) oG;simp-dsimp only[go_sem,hg,x3,hs,x2,Xs];refine⟨⟨oG,hq⟩,oG,⟨oG,hq⟩,⟨oG,oG⟩,m-1,oG,ks.set q (ks.getD q 0+1),m-1,j+1,rfl,oG,⟨by rw[BL,k1],fun a ha=> ?_,?_⟩,oG,oG,rfl⟩;by_cases e:q=a;subst e;rw[Z0 _ _ _ _ oG];omega;rw[Z3 _ _ _ _ _ e];exact k2 a ha;rw[x0o _ _ _ oG];omega;have hz:m=0:=(oF h1);subst hz;have ht:ks.take n=ks:=BF oG;have hle:(n<=ks.length)=True:=eq_true oG;refine Qq ?_;refine Z5 0 (by simp only[Hr];exact x1y _) (Qb ?_);simp-dsimp only[go_sem,ht,hle];exact⟨ks,j,⟨k1,k2,oG⟩,oG,oG,rfl,rfl⟩
def Ix (n:Nat)(D:Int)(m:Mn):Prop:=okKs n D m.ks/\smN m.c
theorem W1d (l:Lu)(i k n M D:Nat)(st:Qc)(h:atD st k l i)(hi:i<=800000000000)(hn:1<=n)(hn2:n<=1000)(hM:M<=20)(hD:D<=8):PCalls Tryz.prog 111 [.gp k 0,.sc (.int .i64 n),.sc (.int .i64 M),.sc (.int .i64 D)] st
 (fun r st'=> ∃p j,p.length<=M/\(∀m∈p,Ix n D m)/\i<=j/\j<=i+1+10*M/\r= .sl .no (Zp p)/\st'=st.set k (dk l j)):=by
 refine Qh none Tryz.func111 rfl fun E=>Qb ?_;have x1:=J2v M oG;simp-dsimp only[go_sem,x1];refine(Vn l i k (M+1) st h oG oG oG).w ?_;rintro st' rfl;have hnx:=V1 l i (n:=M+1) oG;refine Qq ?_;refine ZE 9 4 ?_;refine Qq ?_;refine Q1 [true,true,false,true,false,false,false,false,false,true,true] 0 1 (fun m s=> ∃(p:Lm) (c j:Nat),m=c/\p.length+c<=M/\(∀m∈p,Ix n D m)/\i<=j/\j+10*c<=i+1+10*M/\
  s=⟨[.gp k 0,.sc (.int .i64 n),.junk,.sc (.int .i64 D),.junk,.junk,.junk,.junk,.junk,.sl (.own 0) (Zp p),.sc (.int .i64 (c:Nat))]++jk 19,[],[(p.length,4)],st.set k (dk l j)⟩) (nx l i (M+1)) ?_ ?_
 refine Qq ?_;exact⟨[],nx l i (M+1),i+1,rfl,by simp;omega,(fun m hm=>by cases hm),oG,oG,rfl⟩;rintro m s ⟨p,c,j,hm,hc,hp,hj1,hj2,rfl⟩;subst hm;refine QS ?_ ?_<;>intro h1;have hpos:0<m:=(oT h1);have x2:IntKind.i64.wrap ((m:Int)-1)=((m-1:Nat):Int):=(by rw[Q2 _ oG oG];omega);refine Qq ?_;refine(j0z l j k _ (h.set j) oG).mono ?_;rintro r st' ⟨x,hx,rfl,rfl⟩;simp-dsimp only[go_sem,Xs];refine(Z1r l (j+1) k n D _ (h.set (j+1)) oG hn hn2 hD).mono ?_;rintro r st' ⟨ks,j',hks,hj3,hj4,rfl,rfl⟩;have hsn:Zp p++ [PV.agg [.sc (.bool x.neg),.sc (.int .i64 x.exp),.sl .no (Qo x.w),.sl .no (QX ks)]]=Zp (p++ [⟨x,ks⟩]):=j1i p ⟨x,ks⟩;simp-dsimp only[go_sem,Xs,x2,hsn];refine⟨⟨oG,oG⟩,m-1,oG,p++ [⟨x,ks⟩],m-1,j',rfl,by simp;omega,fun y hy=> ?_,oG,oG,by simp⟩;rcases DN.1 hy with hy | hy;exact hp y hy;rw[C0.1 hy];exact⟨hks,hx⟩;have hz:m=0:=(oF h1);subst hz;refine Qq ?_;refine KG (rF 9++ [true]) (Qb ?_);refine Qq ?_;exact⟨p,j,oG,hp,oG,oG,rfl,rfl⟩
def Jh (m:Mn):Tm:=⟨ofN m.c,m.ks⟩
theorem Q0g {n:Nat}{D:Int}{m:Mn}(h:Ix n D m)(hD:D<=8):okT n 12 18 D (Jh m):=
 ⟨h.1.1,h.1.right hD,h.1.2.2,Jd h.2.1,Y1u h.2.2⟩
theorem K1e {n:Nat}{D:Int}{m:Mn}(h:Ix n D m)(hD:D<=8):Xe m n=true:=(I0 _ _).2 ⟨by have:=h.1.1;omega,h.1.right hD,h.2.1⟩
theorem K1b {n L U:Nat}{D:Int}{t:Tm}(h:okT n L U D t)(hn:n<=4):wK t.ks:=⟨by rw[h.1];omega,fun i hi=>by have:=GM h.2.1 i hi;omega⟩
theorem K1c {n L U:Nat}{D:Int}{t:Tm}(h:okT n L U D t)(hb:L+U<=4000):smV t.v/\(Qs t.v.m).length<=1000000000000:=by have:=X0e h.2.2.2.1 h.2.2.2.2;refine⟨⟨by have:=this.1;omega,by have:=this.2.1;omega,by have:=this.2.2;omega⟩,qp this oG⟩
theorem ID {α:Type}[Inhabited α]{l:List α}{P:α->Prop}(h: ∀x∈l,P x){i:Nat}(hi:i<l.length):P (l.getD i default):=by rw[show l.getD i default=l[i] by simp[q_a,hi]];exact h _ (EA hi)
theorem y0l (p:Lm)(n:Nat)(D:Int)(st:Qc)(hn:1<=n)(hn4:n<=4)(hl:p.length<=24)(hD:D<=8)(hp: ∀m∈p,Ix n D m):PR 110 [.sl .no (Zp p),.sc (.int .i64 n)] st (.tup [.sl .no (Zp (J6 (ZN (p.map Jh) []) []).1),.sc (.int .i64 (J6 (ZN (p.map Jh) []) []).2)]):=by
 have hok: ∀t∈p.map Jh,okT n 12 18 D t:=fun t ht=>by obtain⟨m,hm,rfl⟩:=CF.1 ht;exact Q0g (hp m hm) hD
 refine Ql Tryz.func110 fun E=> ?_;have d1:decide ((n:Int)<1)=false:=q_g oG;have d2:decide ((n:Int)>4)=false:=q_g oG;simp-dsimp only[go_sem,d1,d2];refine ZE 6 4 ?_;refine Qq ?_;refine Q1 [true,true,false,false,false,false,true,true] 0 1 (fun c s=> ∃i,c=p.length-i/\i<=p.length/\
  s=⟨[.sl .no (Zp p),.sc (.int .i64 n),.junk,.junk,.junk,.junk,.sl (.own 0) (QC ((p.take i).map Jh)),.sc (.int .i64 (i:Nat))]++jk 38,[],[(i,4)],st⟩) p.length ?_ ?_
 refine Qq ?_;exact⟨0,oG,oG,rfl⟩;rintro c s ⟨i,rfl,hi,rfl⟩;have htl:((p.take i).map Jh).length=i:=(by rw[BR,BX];omega);refine QS ?_ ?_<;>intro h1;have hlt:i<p.length:=(oT h1);have e1:=UW p i hlt;have e3:=Zd i oG;have hm:=ID hp hlt;have hsn2:(p.take (i+1)).map Jh=(p.take i).map Jh++ [Jh (p.getD i default)]:=by rw[List.take_add_one,E2,BB hlt];simp[q_a,hlt]
 have hwm:wMn (p.getD i default):=⟨Q9 hm.2.1,hm.1.wK hD oG⟩;simp-dsimp only[go_sem,e1];refine⟨oG,?_⟩;refine(Oo (p.getD i default) n _ hwm oG).q ?_;rw[K1e hm hD];simp-dsimp only[go_sem,FM];refine Q8 46 (Qk [0,1,2,3,4,5,7,8,9,10,11] (.step 6 [11] (Qk [12,13,14,15] .done))) ?_;generalize hT:(p.take i).map Jh=T at*
 simp-dsimp only[go_sem,e1];refine⟨⟨oG,oG⟩,⟨oG,oG⟩,?_⟩;refine(V0 (p.getD i default).c _ (by have:=Q9 hm.2.1;unfold wN at this;omega)).q ?_;have hsn:QC T++ [PV.agg [.sc (.bool (ofN (p.getD i default).c).neg),.sl .no (QD (Qs (ofN (p.getD i default).c).m)),.sc (.int .i64 (ofN (p.getD i default).c).e),.sl .no (QX (p.getD i default).ks)]]=QC (T++ [Jh (p.getD i default)]):=j1c T (Jh (p.getD i default));simp-dsimp only[go_sem,e1,e3,hsn,htl];exact⟨⟨oG,oG⟩,p.length-(i+1),oG,i+1,rfl,oG,by rw[hsn2]⟩;have hge:i=p.length:=(oF h1);subst hge;have hfull:p.take p.length=p:=B0;rw[hfull] at htl;simp-dsimp only[go_sem,hfull];refine KG [false,false,false,false,false,false,true] (Qb ?_);refine Qq ?_;have hw: ∀(T:List Tm) (i:Nat),(∀t∈T,okT n 12 (18+i) D t)->i<=100-> ∀t∈T,wK t.ks/\smV t.v/\(Qs t.v.m).length<=1000000000000:=fun T i hT hi t ht=>by have:=K1c (hT t ht) oG;exact⟨K1b (hT t ht) hn4,this.1,this.2⟩
 refine(q1g (p.map Jh) _ (by rw[htl];exact hl) (fun i hi=> ?_) (fun i hi t ht=> ?_)).mono ?_;have:=hw (p.map Jh) 0 hok oG;exact⟨(ID (P:=fun t=>wK t.ks) (fun t ht=>(this t ht).1) hi),(ID (P:=fun t=>smV t.v) (fun t ht=>(this t ht).2.1) hi)⟩;have:=(vW (n:=n) (L:=12) (D:=D) ((p.map Jh).take i) [] 18 (fun t ht=>hok t (List.mem_of_mem_take ht)) (fun t ht=>by cases ht) List.Pairwise.nil).1;exact hw _ ((p.map Jh).take i).length this (by rw[BX,htl];omega) t ht;rintro r st ⟨rfl,rfl⟩;exact QA
def okPoly (n M:Nat)(D:Int)(p:List Mn):Prop:=ZL p n=true/\p.length<=M/\ ∀m∈p,Yc n 12 (18+M) D m
theorem X1b (l:Lu)(i k n M D:Nat)(st:Qc)(h:atD st k l i)(hi:i<=800000000000)(hn:1<=n)(hn4:n<=4)(hM:M<=20)(hD:D<=8):PCalls Tryz.prog 60 [.gp k 0,.sc (.int .i64 n),.sc (.int .i64 M),.sc (.int .i64 D)] st
 (fun r st'=> ∃p j,okPoly n M D p/\i<=j/\j<=i+1+10*M/\r= .sl .no (Zp p)/\st'=st.set k (dk l j)):=by
 refine Ql Tryz.func60 fun E=> ?_;refine(W1d l i k n M D st h hi hn oG hM hD).mono ?_;rintro r st' ⟨p,j,hpl,hp,hj1,hj2,rfl,rfl⟩;refine Qq ?_;refine(y0l p n D _ hn hn4 oG oG hp).q ?_;have hok: ∀t∈p.map Jh,okT n 12 18 D t:=fun t ht=>by obtain⟨m,hm,rfl⟩:=CF.1 ht;exact Q0g (hp m hm) oG
 obtain⟨g1,g2,g3,g4⟩:=q1h (n:=n) (L:=12) (U:=18) (D:=D) (ts:=p.map Jh) (by rw[BR];omega) hn hn4 (by rw[BR];omega) hok;rw[BR] at g3 g4;generalize (J6 (ZN (p.map Jh) []) []).1=P at*
 generalize (J6 (ZN (p.map Jh) []) []).2=e at*
 refine Qq ?_;exact⟨P,j,⟨g2,oG,fun m hm=>by obtain⟨a1,a2,a3,a4,a5,a6⟩:=g3 m hm;exact⟨a1,a2,a3,a4,a5,a6.up oG⟩⟩,hj1,hj2,rfl,rfl⟩
def okField (n M:Nat)(D:Int)(f:List (List Mn)):Prop:=f.length=n/\ ∀p∈f,okPoly n M D p
theorem okField.right {n M:Nat}{D:Int}{f:Lk}(h:okField n M D f)(hn:1<=n)(hn4:n<=4):ZY f=true:=(VR f).2 ⟨by rw[h.1];exact⟨hn,hn4⟩,fun i hi=>by rw[show f.getD i []=f[i] by simp[q_a,hi],h.1];exact(h.2 _ (EA hi)).1⟩
theorem k1j (l:Lu)(i k n M D:Nat)(st:Qc)(h:atD st k l i)(hi:i<=700000000000)(hn:1<=n)(hn4:n<=4)(hM:M<=20)(hD:D<=8):PCalls Tryz.prog 25 [.gp k 0,.sc (.int .i64 n),.sc (.int .i64 M),.sc (.int .i64 D)] st
 (fun r st'=> ∃f j,okField n M D f/\i<=j/\j<=i+1000/\r= .sl .no (QL f)/\st'=st.set k (dk l j)):=by
 refine Ql Tryz.func25 fun E=> ?_;refine ZE 9 1 ?_;refine Qq ?_;refine Q1 [true,true,true,true,false,false,false,false,false,true,true] 0 1 (fun m s=> ∃(f:Lk) (j:Nat),m=n-f.length/\f.length<=n/\(∀p∈f,okPoly n M D p)/\i<=j/\j<=i+250*f.length/\
  s=⟨[.gp k 0,.sc (.int .i64 n),.sc (.int .i64 M),.sc (.int .i64 D),.junk,.junk,.junk,.junk,.junk,.sl (.own 0) (QL f),.sc (.int .i64 (f.length:Nat))]++jk 14,[],[(f.length,1)],st.set k (dk l j)⟩) n ?_ ?_
 refine Qq ?_;refine⟨[],i,by simp,by simp,(fun m hm=>by cases hm),oG,oG,?_⟩;rw[h.same];rfl;rintro m s ⟨f,j,rfl,hf,hp,hj1,hj2,rfl⟩;refine QS ?_ ?_<;>intro h1;have hlt:f.length<n:=(oT h1);have x2:=Zd f.length oG;refine Qq ?_;refine(X1b l j k n M D _ (h.set j) oG hn hn4 hM hD).mono ?_;rintro r st' ⟨p,j',hpo,hj3,hj4,rfl,rfl⟩;simp-dsimp only[go_sem,Xs,x2];refine⟨⟨oG,oG⟩,n-(f.length+1),oG,f++ [p],j',by simp,by simp;omega,fun y hy=> ?_,oG,by simp;omega,by simp⟩;rcases DN.1 hy with hy | hy;exact hp y hy;rw[C0.1 hy];exact hpo;have hge:f.length=n:=(oF h1);refine Qq ?_;refine KG (rF 9++ [true]) (Qb ?_);refine Qq ?_;exact⟨f,j,⟨hge,hp⟩,oG,oG,rfl,rfl⟩
theorem okPoly.at {n M:Nat}{D:Int}{p:Lm}(h:okPoly n M D p){j:Nat}(hj:j<p.length):Yc n 12 (18+M) D (p.getD j default):=ID h.2.2 hj
theorem okField.at {n M:Nat}{D:Int}{f:Lk}(h:okField n M D f){i:Nat}(hi:i<f.length):okPoly n M D (f.getD i []):=by rw[show f.getD i []=f[i] by simp[q_a,hi]];exact h.2 _ (EA hi)
theorem okField.wF {n M:Nat}{D:Int}{f:Lk}(h:okField n M D f)(hn4:n<=4)(hM:M<=20):wF f:=⟨by have:=h.1;omega,fun i hi=>⟨by have:=(h.at hi).2.1;omega,fun j hj=>by obtain⟨a1,a2,a3,a4,a5,a6⟩:=(h.at hi).at hj;exact⟨Q9 a4,by rw[a1];omega,fun k hk=>by have:=GM a2 k hk;omega⟩⟩⟩
def Jl (a b:Nat)(p:Nat):Nat:=p+2+Qn b-Qn a
def W0 (a b:Nat)(p:Nat):Nat:=2*(a*2^Jl a b p/b)+if a*2^Jl a b p % b=0 then 0 else 1
def Jk (a b:Vl)(p:Nat):Vl:=if a.m=0 then⟨false,0,0⟩ else QN (a.neg !=b.neg) (W0 a.m b.m p) (a.e-b.e-(Jl a.m b.m p:Int)-1)
theorem yw (a b:Vl)(p:Nat):QF (Jk a b p):=by unfold Jk;split;exact .inr rfl;exact YJ _ _ _
def V9 (a:Ivl)(c:Nm)(p:Int):Ivl×Int:=
 if Qr a=true/\Qv p=true then XK (QR (Jk (ofN a.lo) (ofN c) p.toNat) p.toNat false) (QR (Jk (ofN a.hi) (ofN c) p.toNat) p.toNat true) else(default,1)
def Jc (a b:Nm)(p:Int)(up:Bool):Nm×Int:=QI (QR (Jk (ofN a) (ofN b) p.toNat) p.toNat up)
theorem Z0n {a b p:Nat}(hb:Qn b<=32)(hp:p<=256):Jl a b p<=300:=by unfold Jl;omega
theorem Y1s (v:Nat)(hv:v<18446744073709551616)(st:Qc):PR 366 [.sc (.int .u64 v)] st (.sc (.int .i64 ((64-Qn v:Nat):Int))):=by refine Ql Tryz.func366 fun E=> ?_;refine(X0w v hv st).q ?_;have hb:Qn v<=64:=bitlen_le_iff.2 oG;have e:IntKind.i64.wrap (64-(Qn v:Int))=((64-Qn v:Nat):Int):=(by rw[Q2 _ oG oG];omega);simp-dsimp only[go_sem,e]
theorem j1z (hi lo d s s' y y1 a b u32 u10 u1 u0 q1 p1 r1 A B p2 u21 q0 p3 r0 C D E1 F G Q R:Nat)(st:Qc)(hd:d<18446744073709551616)(hhi:0<hi)
 (f1:((d:Int)==0)=false) (f2:decide ((d:Int)<=(hi:Int))=false) (f3:((hi:Int)==0)=false)
 (n1:IntKind.u64.wrap ((64-Qn d:Nat):Int)=(s:Int)) (n2:Jr .u64 (d:Int) (s:Int)=(y:Int)) (n3:Z7 .u64 (y:Int) 32=(y1:Int)) (n4:ZV .u64 (y:Int) 4294967295=0)
 (n5:Jr .u64 (hi:Int) (s:Int)=(a:Int)) (n6:IntKind.u64.wrap (64-(s:Int))=(s':Int)) (n7:Z7 .u64 (lo:Int) (s':Int)=(b:Int)) (n8:bOr .u64 (a:Int) (b:Int)=(u32:Int))
 (n9:Jr .u64 (lo:Int) (s:Int)=(u10:Int)) (n10:Z7 .u64 (u10:Int) 32=(u1:Int)) (n11:ZV .u64 (u10:Int) 4294967295=(u0:Int)) (n12:((y1:Int) !=0)=true)
 (n13:IntKind.u64.wrap ((u32:Int).tdiv (y1:Int))=(q1:Int)) (n14:IntKind.u64.wrap ((q1:Int)*(y1:Int))=(p1:Int)) (n15:IntKind.u64.wrap ((u32:Int)-(p1:Int))=(r1:Int))
 (c1:decide ((q1:Int)>=4294967296)=false) (c2:decide (IntKind.u64.wrap ((q1:Int)*0)>IntKind.u64.wrap (IntKind.u64.wrap (4294967296*(r1:Int))+(u1:Int)))=false)
 (n16:IntKind.u64.wrap ((u32:Int)*4294967296)=(A:Int)) (n17:IntKind.u64.wrap ((A:Int)+(u1:Int))=(B:Int)) (n18:IntKind.u64.wrap ((q1:Int)*(y:Int))=(p2:Int)) (n19:IntKind.u64.wrap ((B:Int)-(p2:Int))=(u21:Int))
 (n20:IntKind.u64.wrap ((u21:Int).tdiv (y1:Int))=(q0:Int)) (n21:IntKind.u64.wrap ((q0:Int)*(y1:Int))=(p3:Int)) (n22:IntKind.u64.wrap ((u21:Int)-(p3:Int))=(r0:Int))
 (c3:decide ((q0:Int)>=4294967296)=false) (c4:decide (IntKind.u64.wrap ((q0:Int)*0)>IntKind.u64.wrap (IntKind.u64.wrap (4294967296*(r0:Int))+(u0:Int)))=false)
 (n23:IntKind.u64.wrap ((q1:Int)*4294967296)=(C:Int)) (n24:IntKind.u64.wrap ((C:Int)+(q0:Int))=(Q:Int)) (n25:IntKind.u64.wrap ((u21:Int)*4294967296)=(D:Int)) (n26:IntKind.u64.wrap ((D:Int)+(u0:Int))=(E1:Int))
 (n27:IntKind.u64.wrap ((q0:Int)*(y:Int))=(F:Int)) (n28:IntKind.u64.wrap ((E1:Int)-(F:Int))=(G:Int)) (n29:Z7 .u64 (G:Int) (s:Int)=(R:Int)):PR 365 [.sc (.int .u64 hi),.sc (.int .u64 lo),.sc (.int .u64 d)] st (.tup [.sc (.int .u64 Q),.sc (.int .u64 R)]):=by
 refine Qh none Tryz.func365 rfl fun E=>Qb ?_;simp-dsimp only[go_sem,f1,f2,f3];refine(Y1s d hd st).q ?_;simp-dsimp only[go_sem,n1,n2,n3,n4,n5,n6,n7,n8,n9,n10,n11,n12,n13,n14,n15];refine⟨oG,oG,oG,oG,?_⟩;refine Q1 [false,false,true,false,false,false,false,false,true,true,true,true,false,true,true,true,true] 0 0 (fun m s'=>s'=⟨[.junk,.junk,.sc (.int .u64 y),.junk,.junk,.junk,.junk,.junk,.sc (.int .u64 s),.sc (.int .u64 y1),.sc (.int .u64 0),.sc (.int .u64 u32),.junk,.sc (.int .u64 u1),.sc (.int .u64 u0),.sc (.int .u64 q1),.sc (.int .u64 r1)]++jk 118,[],[],st⟩) 0 ?_ ?_;exact QA;rintro m s' rfl;simp-dsimp only[go_sem,c1,c2];refine Qb ?_;simp-dsimp only[go_sem,n16,n17,n18,n19,n20,n21,n22,n12];refine Q1 [false,false,true,false,false,false,false,false,true,true,true,false,false,false,true,true,true,true,true] 0 0 (fun m s'=>s'=⟨[.junk,.junk,.sc (.int .u64 y),.junk,.junk,.junk,.junk,.junk,.sc (.int .u64 s),.sc (.int .u64 y1),.sc (.int .u64 0),.junk,.junk,.junk,.sc (.int .u64 u0),.sc (.int .u64 q1),.sc (.int .u64 r0),.sc (.int .u64 u21),.sc (.int .u64 q0)]++jk 116,[],[],st⟩) 0 ?_ ?_;exact QA;rintro m s' rfl;simp-dsimp only[go_sem,c3,c4];refine Qb ?_;simp-dsimp only[go_sem,n23,n24,n25,n26,n27,n28,n29];omega
theorem JK (x:Int):IntKind.u64.wrap x=x % 18446744073709551616:=by simp[IntKind.wrap,IntKind.bits,IntKind.signed]
theorem k1a (hi lo d k P y y1 b u32 u10 u1 u0 q1 r1 u21 q0 r0:Nat)(hd:0<d)(hh:hi<d)(hy:y=d*P)(hP:P=4294967296*k)(h1:y1=d*k)(hk:0<k)(hyl:y<18446744073709551616)
 (hb:lo*P=u10+18446744073709551616*b) (hbl:b<P) (h3:u32=hi*P+b) (h4:u10=u0+4294967296*u1) (h5:u0<4294967296) (h6:u1<4294967296) (h7:u32=y1*q1+r1) (h8:r1<y1) (h9:u21=r1*4294967296+u1) (h10:u21=y1*q0+r0) (h11:r0<y1):
 y=4294967296*y1/\u32<y/\q1<4294967296/\u21<y/\q0<4294967296/\r0*4294967296+u0<y/\q1*4294967296+q0=(hi*18446744073709551616+lo)/d/\r0*4294967296+u0=(hi*18446744073709551616+lo) % d*P:=by
 have e1:y=4294967296*y1:=by rw[hy,hP,h1];grind
 have e2:hi*P+P<=y:=by have:(hi+1)*P<=d*P:=BG _ hh;rw[BQ,CY] at this;omega
 have e3:u32<y:=oG;have lt_of: ∀q r u:Nat,u=y1*q+r->u<4294967296*y1->q<4294967296:=fun q r u hu hlt=>by apply ES;intro hle;have:=DP y1 hle;omega
 have e4:q1<4294967296:=lt_of q1 r1 u32 h7 oG;have e5:u21<y:=oG;have e6:q0<4294967296:=lt_of q0 r0 u21 h10 oG;have e7:r0*4294967296+u0<y:=oG;have e8:(hi*18446744073709551616+lo)*P=y*(q1*4294967296+q0)+(r0*4294967296+u0):=by
  have a1:(hi*18446744073709551616+lo)*P=18446744073709551616*(hi*P)+lo*P:=(by grind);have a2:y*(q1*4294967296+q0)=18446744073709551616*(y1*q1)+4294967296*(y1*q0):=(by rw[e1];grind);rw[a1,a2,hb];generalize y1*q1=A at*
  generalize y1*q0=B at*
  generalize hi*P=C at*
  omega
 have hPp:0<P:=oG;have hdP:0<d*P:=Nat.mul_pos hd hPp;refine⟨e1,e3,e4,e5,e6,e7,?_,?_⟩;have:=Nat.mul_div_mul_right (hi*18446744073709551616+lo) d hPp;rw[<-this,e8,<-hy];rw[E0 oG,CP e7,B1];have:=Nat.mul_mod_mul_right P (hi*18446744073709551616+lo) d;rw[<-this,e8,<-hy,EZ,BJ e7]
theorem k1b (hi lo d:Nat)(st:Qc)(hd:0<d)(hd2:d<4294967296)(hh:hi<d)(hlo:lo<18446744073709551616):PR 365 [.sc (.int .u64 hi),.sc (.int .u64 lo),.sc (.int .u64 d)] st (.tup [.sc (.int .u64 (((hi*18446744073709551616+lo)/d:Nat):Int)),.sc (.int .u64 (((hi*18446744073709551616+lo) % d:Nat):Int))]):=by
 have f1:((d:Int)==0)=false:=CL.2 oG;have f2:decide ((d:Int)<=(hi:Int))=false:=q_g oG;by_cases h0:hi=0;subst h0;have f3:(((0:Nat):Int)==0)=true:=rfl;have f4:((d:Int) !=0)=true:=(by simp;omega);refine Qh none Tryz.func365 rfl fun E=>Qb ?_;simp-dsimp only[go_sem,f1,f2,f3];refine Q8 135 (Qk [0,1,2,3,4,5,6,7] .done) ?_;have hq:lo/d<18446744073709551616:=D1 (DB _ _) hlo;simp-dsimp only[go_sem,f4];rw[Uj,Yv,K8,BJ hq];have f3:((hi:Int)==0)=false:=CL.2 oG;have hb32:Qn d<=32:=bitlen_le_iff.2 oG;have hb0:0<Qn d:=ql oG;obtain⟨j,hj⟩: ∃j,64-Qn d=32+j:=⟨32-Qn d,oG⟩;have hj32:j<32:=oG;have hyl:d*2^(32+j)<18446744073709551616:=by have h1:=KP d;have h2:2^Qn d*2^(32+j)=18446744073709551616:=(by rw[<-B2,show Qn d+(32+j)=64 by omega]);rw[<-h2];exact C5 h1 (CT _)
 have hPk:2^(32+j)=4294967296*2^j:=(by rw[B2]);have hk:=CT j;have hsp:=Mb lo (32+j) hlo oG;have hbl:=Ez lo (32+j) hlo oG;have hu10:=CG (lo*2^(32+j)) (show 0<18446744073709551616 by decide);generalize hu:lo*2^(32+j) % 18446744073709551616=u10 at*
 generalize hbb:lo/2^(64-(32+j))=b at*
 have hy1:0<d*2^j:=Nat.mul_pos hd hk;obtain⟨m1,m2,m3,m4,m5,m6,m7,m8⟩:=k1a hi lo d (2^j) (2^(32+j)) (d*2^(32+j)) (d*2^j) b (hi*2^(32+j)+b) u10 (u10/4294967296) (u10 % 4294967296)
  ((hi*2^(32+j)+b)/(d*2^j)) ((hi*2^(32+j)+b) % (d*2^j)) ((hi*2^(32+j)+b) % (d*2^j)*4294967296+u10/4294967296)
  (((hi*2^(32+j)+b) % (d*2^j)*4294967296+u10/4294967296)/(d*2^j)) (((hi*2^(32+j)+b) % (d*2^j)*4294967296+u10/4294967296) % (d*2^j))
  hd hh rfl hPk rfl hk hyl hsp hbl rfl oG oG oG (D5 _ _).symm (CG _ hy1) rfl (D5 _ _).symm (CG _ hy1)
 obtain⟨NN,hNN⟩: ∃NN,NN=hi*18446744073709551616+lo:=⟨_,rfl⟩;rw[<-hNN] at m7 m8⊢;clear hNN;have hiP:hi*2^(32+j)<18446744073709551616:=oG;have hhmod:hi*2^(32+j) % 2^(32+j)=0:=Nat.mul_mod_left _ _;have dm1:=D5 (hi*2^(32+j)+b) (d*2^j);have ml1:=CG (hi*2^(32+j)+b) hy1;generalize hy':d*2^(32+j)=y at*
 generalize hy1':d*2^j=y1 at*
 have hor:hi*2^(32+j)|||b=hi*2^(32+j)+b:=by rw[Nat.or_comm,GZ _ _ _ hbl hhmod,EW]
 have sh1:Jr .u64 (hi:Int) ((32+j:Nat):Int)=((hi*2^(32+j):Nat):Int):=(by rw[YM _ _ oG,BJ hiP]);have sh2:Jr .u64 (lo:Int) ((32+j:Nat):Int)=(u10:Int):=(by rw[YM _ _ oG,hu]);have sh3:Jr .u64 (d:Int) ((32+j:Nat):Int)=(y:Int):=(by rw[YM _ _ oG,hy',BJ hyl]);have sh4:Z7 .u64 (lo:Int) ((64-(32+j):Nat):Int)=(b:Int):=(by rw[Vq _ _ oG,hbb]);generalize hi*2^(32+j)=a at*
 generalize hq1:(a+b)/y1=q1 at*
 generalize hr1:(a+b) % y1=r1 at*
 have dm2:=D5 (r1*4294967296+u10/4294967296) y1;have ml2:=CG (r1*4294967296+u10/4294967296) hy1;generalize hq0:(r1*4294967296+u10/4294967296)/y1=q0 at*
 generalize hr0:(r1*4294967296+u10/4294967296) % y1=r0 at*
 have hPG:Z7 .u64 ((r0*4294967296+u10 % 4294967296:Nat):Int) ((32+j:Nat):Int)=((NN % d:Nat):Int):=(by rw[Vq _ _ oG,m8,Nat.mul_div_cancel _ (CT _)]);rw[<-m7];have c11:y1*q1=q1*y1:=BM _ _;have c12:y1*q0=q0*y1:=BM _ _;have c13:q1*y=4294967296*(q1*y1):=(by rw[m1];grind);have c14:q0*y=4294967296*(q0*y1):=(by rw[m1];grind);rw[c11] at dm1;rw[c12] at dm2;generalize hqy1:q1*y1=w1 at*
 generalize hqy0:q0*y1=w0 at*
 generalize hu1:u10/4294967296=u1 at*
 generalize hu0:u10 % 4294967296=u0 at*
 have hu0l:u0<4294967296:=oG;have hu1l:u1<4294967296:=oG;have g1:IntKind.u64.wrap ((64-Qn d:Nat):Int)=((32+j:Nat):Int):=(by rw[hj,K8,BJ oG]);have g3:Z7 .u64 (y:Int) 32=(y1:Int):=by rw[Us];congr 1;omega
 have g4:ZV .u64 (y:Int) 4294967295=0:=by rw[qy y hyl];have:y % 4294967296=0:=oG
                                          rw[this];rfl
 have g6:IntKind.u64.wrap (64-((32+j:Nat):Int))=((64-(32+j):Nat):Int):=by rw[JK];omega
 have g8:bOr .u64 (a:Int) (b:Int)=((a+b:Nat):Int):=(by rw[qu _ _ oG oG,hor]);have g10:Z7 .u64 (u10:Int) 32=(u1:Int):=(by rw[Us,hu1]);have g11:ZV .u64 (u10:Int) 4294967295=(u0:Int):=(by rw[qy _ oG,hu0]);have g12:((y1:Int) !=0)=true:=(by simp;omega);have g13:IntKind.u64.wrap (((a+b:Nat):Int).tdiv (y1:Int))=(q1:Int):=(by rw[Uj,hq1,K8,BJ oG]);have g14:IntKind.u64.wrap ((q1:Int)*(y1:Int))=(w1:Int):=(by rw[<-CN,hqy1,K8,BJ oG]);have g15:IntKind.u64.wrap (((a+b:Nat):Int)-(w1:Int))=(r1:Int):=(by rw[JK];omega);have k1:decide ((q1:Int)>=4294967296)=false:=q_g oG;have k2:decide (IntKind.u64.wrap ((q1:Int)*0)>IntKind.u64.wrap (IntKind.u64.wrap (4294967296*(r1:Int))+(u1:Int)))=false:=q_g (by rw[Int.mul_zero,JK,JK,JK];omega);obtain⟨A,hA⟩: ∃A,A=(a+b)*4294967296 % 18446744073709551616:=⟨_,rfl⟩;obtain⟨B,hB⟩: ∃B,B=((a+b)*4294967296+u1) % 18446744073709551616:=⟨_,rfl⟩;obtain⟨p2,hp2⟩: ∃p2,p2=q1*y % 18446744073709551616:=⟨_,rfl⟩;obtain⟨u21,hu21⟩: ∃u21,u21=r1*4294967296+u1:=⟨_,rfl⟩;obtain⟨D,hD⟩: ∃D,D=u21*4294967296 % 18446744073709551616:=⟨_,rfl⟩;obtain⟨E1,hE1⟩: ∃E1,E1=(u21*4294967296+u0) % 18446744073709551616:=⟨_,rfl⟩;obtain⟨F,hF⟩: ∃F,F=q0*y % 18446744073709551616:=⟨_,rfl⟩;obtain⟨G,hG⟩: ∃G,G=r0*4294967296+u0:=⟨_,rfl⟩;rw[<-hu21] at dm2 hq0 hr0 m4;rw[<-hG] at hPG m6;have g16:IntKind.u64.wrap (((a+b:Nat):Int)*4294967296)=(A:Int):=(by rw[JK];omega);have g17:IntKind.u64.wrap ((A:Int)+(u1:Int))=(B:Int):=(by rw[JK];omega);have g18:IntKind.u64.wrap ((q1:Int)*(y:Int))=(p2:Int):=(by rw[<-CN,K8,hp2]);have g19:IntKind.u64.wrap ((B:Int)-(p2:Int))=(u21:Int):=(by rw[JK];omega);have g20:IntKind.u64.wrap ((u21:Int).tdiv (y1:Int))=(q0:Int):=(by rw[Uj,hq0,K8,BJ oG]);have g21:IntKind.u64.wrap ((q0:Int)*(y1:Int))=(w0:Int):=(by rw[<-CN,hqy0,K8,BJ oG]);have g22:IntKind.u64.wrap ((u21:Int)-(w0:Int))=(r0:Int):=(by rw[JK];omega);have k3:decide ((q0:Int)>=4294967296)=false:=q_g oG;have k4:decide (IntKind.u64.wrap ((q0:Int)*0)>IntKind.u64.wrap (IntKind.u64.wrap (4294967296*(r0:Int))+(u0:Int)))=false:=q_g (by rw[Int.mul_zero,JK,JK,JK];omega);obtain⟨C,hC⟩: ∃C,C=q1*4294967296:=⟨_,rfl⟩;have g23:IntKind.u64.wrap ((q1:Int)*4294967296)=(C:Int):=(by rw[JK];omega);have g24:IntKind.u64.wrap ((C:Int)+(q0:Int))=((q1*4294967296+q0:Nat):Int):=(by rw[JK];omega);have g25:IntKind.u64.wrap ((u21:Int)*4294967296)=(D:Int):=(by rw[JK];omega);have g26:IntKind.u64.wrap ((D:Int)+(u0:Int))=(E1:Int):=(by rw[JK];omega);have g27:IntKind.u64.wrap ((q0:Int)*(y:Int))=(F:Int):=(by rw[<-CN,K8,hF]);have g28:IntKind.u64.wrap ((E1:Int)-(F:Int))=(G:Int):=(by rw[JK];omega);exact j1z hi lo d (32+j) (64-(32+j)) y y1 a b (a+b) u10 u1 u0 q1 w1 r1 A B p2 u21 q0 w0 r0 C D E1 F G (q1*4294967296+q0) (NN % d) st oG oG f1 f2 f3 g1 sh3 g3 g4 sh1 g6 sh4 g8 sh2 g10 g11 g12 g13 g14 g15 k1 k2 g16 g17 g18 g19 g20 g21 g22 k3 k4 g23 g24 g25 g26 g27 g28 hPG
theorem w1m (a:Lu)(d k:Nat)(hd:0<d)(h0:0<k):
 Qd (a.drop (k-1))/d=(Qd (a.drop k) % d*18446744073709551616+(a.getD (k-1) 0).toNat)/d+18446744073709551616*(Qd (a.drop k)/d)/\
 Qd (a.drop (k-1)) % d=(Qd (a.drop k) % d*18446744073709551616+(a.getD (k-1) 0).toNat) % d:=by
 have h:=qK a (k-1);rw[show k-1+1=k by omega] at h;have e:Qd (a.drop (k-1))=d*(18446744073709551616*(Qd (a.drop k)/d))+(Qd (a.drop k) % d*18446744073709551616+(a.getD (k-1) 0).toNat):=by
  rw[h];have:=D5 (Qd (a.drop k)) d;generalize Qd (a.drop k)/d=q at*
  generalize Qd (a.drop k) % d=r at*
  rw[<-this];grind
 rw[e];refine⟨?_,?_⟩;rw[E0 hd,EW];rw[EZ]
theorem w1n {r d x:Nat}(hr:r<d)(hx:x<18446744073709551616):(r*18446744073709551616+x)/d<18446744073709551616:=by rw[DV oG];have:(r+1)*18446744073709551616<=d*18446744073709551616:=BG _ hr;rw[BM 18446744073709551616 d];omega
theorem w1o (a:Lu)(d:Nat)(st:Qc)(ha:a.length<=1000000000000)(hd:0<d)(hd2:d<4294967296):PR 360 [.sl .no (Qo a),.sc (.int .u64 d)] st (.tup [.sl .no (Qo (QB (Qd a/d))),.sc (.int .u64 ((Qd a % d:Nat):Int))]):=by
 refine Qh none Tryz.func360 rfl fun E=>Qb ?_;have e1:IntKind.i64.wrap ((a.length:Int)-1)=(a.length:Int)-1:=Q2 _ oG oG;simp-dsimp only[go_sem,e1];refine⟨oG,?_⟩;refine Q1 [true,true,false,false,false,false,true,true,true] 1 0
  (fun m s'=> ∃(k:Nat) (o:Lu) (r:Nat),k=m/\k<=a.length/\o.length=a.length/\Qd (o.drop k)=Qd (a.drop k)/d/\r=Qd (a.drop k) % d/\
   s'=⟨[.sl .no (Qo a),.sc (.int .u64 d),.junk,.junk,.junk,.junk,.ms false 0 0 a.length,.sc (.int .u64 (r:Nat)),.sc (.int .i64 ((k:Int)-1))]++jk 26,[Qo o],[],st⟩) a.length ?_ ?_
 refine Qq ?_;refine⟨a.length,List.replicate a.length 0,0,rfl,BD _,by simp,?_,?_,rfl⟩;rw[C6 (by simp),C6 (BD _)];simp[Vv];rw[C6 (BD _)];simp[Vv];rintro m s' ⟨k,o,r,rfl,hk,ho,hv,hr,rfl⟩;refine QS ?_ ?_<;>intro h;have h0:0<k:=(oT h);have e2:(k:Int)-1=((k-1:Nat):Int):=oG;have g1:=ZK a (k-1) oG;have hrd:r<d:=(by rw[hr];exact CG _ hd);have hx:(a.getD (k-1) 0).toNat<18446744073709551616:=BT _;have hq:=w1n hrd hx;obtain⟨s1,s2⟩:=w1m a d k hd h0;rw[<-hr] at s1 s2;simp-dsimp only[go_sem,e2,g1];refine⟨⟨oG,oG⟩,?_⟩;refine(k1b r (a.getD (k-1) 0).toNat d st hd hd2 hrd hx).q ?_;have e3:((((r*18446744073709551616+(a.getD (k-1) 0).toNat)/d:Nat):Int))=(((UInt64.ofNat ((r*18446744073709551616+(a.getD (k-1) 0).toNat)/d)).toNat:Nat):Int):=(by rw[Xz _ hq]);have o1:=Yi o (k-1) (UInt64.ofNat ((r*18446744073709551616+(a.getD (k-1) 0).toNat)/d)) oG;have e4:IntKind.i64.wrap (((k-1:Nat):Int)-1)=((k-1:Nat):Int)-1:=Q2 _ oG oG;simp-dsimp only[go_sem,e3,o1,e4];refine⟨⟨oG,oG⟩,oG,k-1,oG,k-1,_,_,rfl,oG,by rw[BL];exact ho,?_,s2.symm,rfl⟩;have hd1:=qK (o.set (k-1) (UInt64.ofNat ((r*18446744073709551616+(a.getD (k-1) 0).toNat)/d))) (k-1);rw[hd1,Vi,BC oG,Xz _ hq,show k-1+1=k by omega,List.drop_set_of_lt oG,hv,s1];have hge:k=0:=(oF h);subst hge;have ht:o.take a.length=o:=BF oG;have hle:a.length<=o.length:=oG;rw[EM,EM] at hv;rw[EM] at hr;refine Qq ?_;refine Z5 0 ?_ ?_;exact QA;refine Qb ?_;simp-dsimp only[go_sem,ht,hle];refine(X8 o st oG).Q ?_;rw[<-Xx o,hv,hr]
theorem G0u {d:Nat}(h0:0<d)(h:d<18446744073709551616):QB d= [UInt64.ofNat d]:=by unfold QB;rw[J7,dif_neg oG,BJ h,CP h,Wg];rfl
theorem V1r (a b:Lu)(st:Qc)(ha:a.length<=1000000000000)(hb:b.length<=1000000000000)(hd:0<Qd b)(hd2:Qd b<4294967296):PR 346 [.sl .no (Qo a),.sl .no (Qo b)] st (.tup [.sl .no (Qo (QB (Qd a/Qd b))),.sl .no (Qo (QB (Qd a % Qd b))),.sc (.bool true)]):=by
 refine Ql Tryz.func346 fun E=> ?_;refine(X8 a st oG).Q ?_;refine(X8 b st oG).q ?_;have la:=Km a;have hcb:QM b= [UInt64.ofNat (Qd b)]:=(by rw[<-Xx,G0u hd oG]);have hvb:=KS b;rw[<-KS a];generalize QM a=a at*
 rw[hcb] at hvb⊢;have f1:(((1:Nat):Int)==0)=false:=rfl;have f1':((1:Int)==0)=false:=rfl;have f2:(((1:Nat):Int)==1)=true:=rfl;have hl1:(Qo [UInt64.ofNat (Qd b)]).length=1:=rfl;simp-dsimp only[go_sem,f1,f1',hl1];refine(xd a [UInt64.ofNat (Qd b)] st oG (by simp)).q ?_;rw[hvb];by_cases hlt:Qd a<Qd b;have h2:decide (Xg (Qd a) (Qd b)<0)=true:=q_h (by unfold Xg Zu;split<;>(try split)<;>omega);simp-dsimp only[go_sem,h2];refine((za a st oG).plain).Q ?_;rw[CP hlt,BJ hlt,Wq,<-Xx a];rfl;have h2:decide (Xg (Qd a) (Qd b)<0)=false:=q_g (by unfold Xg Zu;split<;>(try split)<;>omega);have g0:(Qo [UInt64.ofNat (Qd b)]).getD 0 .junk= .sc (.int .u64 ((Qd b:Nat):Int)):=by show PV.sc (.int .u64 (((UInt64.ofNat (Qd b)).toNat:Nat):Int))=_;rw[Xz _ oG]
 simp-dsimp only[go_sem,h2,f2,hl1,g0];refine(w1o a (Qd b) st oG hd hd2).q ?_;have hm:=CG (Qd a) hd;have g2:PV.sc (.int .u64 ((Qd a % Qd b:Nat):Int))=PV.sc (.int .u64 (((UInt64.ofNat (Qd a % Qd b)).toNat:Nat):Int)):=(by rw[Xz _ oG]);rw[g2];refine Qq ?_;refine(X8 [UInt64.ofNat (Qd a % Qd b)] st (by simp)).Q ?_;have hw:Qd [UInt64.ofNat (Qd a % Qd b)]=Qd a % Qd b:=by show(UInt64.ofNat (Qd a % Qd b)).toNat+18446744073709551616*0=_;rw[Xz _ oG,DQ,B1]
 rw[<-Xx [UInt64.ofNat (Qd a % Qd b)],hw]
theorem xP (m s:Nat):Qn (m*2^s)<=Qn m+s:=bitlen_le_iff.2 (by rw[B2];exact C5 (KP m) (CT _))
def Im (a b:Nm)(p:Nat):Nm:=⟨a.neg !=b.neg,a.exp-b.exp-(Jl (Qd a.w) (Qd b.w) p:Int)-1,QB (W0 (Qd a.w) (Qd b.w) p)⟩
theorem Q1c (a b:Nm)(p:Nat)(st:Qc)(ha:Qg a=true)(hb:Qg b=true)(hp:p<=256)(h0:0<Qd b.w)(h1:Qd b.w<4294967296):
 PR 314 [.agg (Qf a),.agg (Qf b),.sc (.int .i64 p)] st (.agg (Qf (Im a b p))):=by
 have ba:=Xt ha;have bb:=Xt hb;have la:=ba.1;have lb:=bb.1;have hba:=Wn a.w;have hbb:=Wn b.w;have mb:Qn (Qd b.w)<=32:=bitlen_le_iff.2 oG;have hB:Zc b.w=Qn (Qd b.w):=rfl;have hA:Zc a.w=Qn (Qd a.w):=rfl;have ml:Jl (Qd a.w) (Qd b.w) p=p+2+Zc b.w-Zc a.w:=rfl;have ml2:=Z0n (a:=Qd a.w) (b:=Qd b.w) mb hp;have e1:IntKind.i64.wrap ((p:Int)+2)=((p+2:Nat):Int):=(by rw[Q2 _ oG oG];omega);have e2:IntKind.i64.wrap (((p+2:Nat):Int)+(Zc b.w:Int))=((p+2+Zc b.w:Nat):Int):=(by rw[Q2 _ oG oG];omega);have e3:IntKind.i64.wrap (((p+2+Zc b.w:Nat):Int)-(Zc a.w:Int))=((p+2+Zc b.w:Nat):Int)-(Zc a.w:Int):=Q2 _ oG oG;have mx:(if 0>((p+2+Zc b.w:Nat):Int)-(Zc a.w:Int) then 0 else((p+2+Zc b.w:Nat):Int)-(Zc a.w:Int))=((Jl (Qd a.w) (Qd b.w) p:Nat):Int):=by rw[ml];split<;>omega
 generalize hs:Jl (Qd a.w) (Qd b.w) p=s at*
 refine Ql Tryz.func314 fun E=> ?_;refine Q8 56 (Qk [0,1,2,3,6,7] (.step 4 [7] (Qk [5,8,9,10,11] .done))) ?_;refine Qq ?_;refine(Y8 b.w _ oG).Q ?_;refine(Y8 a.w _ oG).q ?_;simp-dsimp only[go_sem,e1,e2,e3,mx];refine Q8 56 (Qk [0,1,2,4,5] (.step 3 [5] (Qk [6,7,8,9,10,11,12,13] .done))) ?_;refine Qq ?_;refine(HL a.w s _ oG oG).Q ?_;have hw1:=HH (Qd a.w*2^s);have hw2:Qn (Qd a.w*2^s)<=4096+300:=(by have:=xP (Qd a.w) s;omega);have hw:(QB (Qd a.w*2^s)).length<=100:=oG;have hq:(QB (Qd a.w*2^s/Qd b.w)).length<=100:=B7 (Gq (DB _ _)) hw;refine(V1r (QB (Qd a.w*2^s)) b.w _ oG oG h0 h1).q ?_;rw[Jf];refine Qq ?_;refine(HL (QB (Qd a.w*2^s/Qd b.w)) 1 _ oG oG).q ?_;rw[Jf,Nat.pow_one];have e4:IntKind.i64.wrap (a.exp-b.exp)=a.exp-b.exp:=Q2 _ (by have:=ba.2;have:=bb.2;omega) (by have:=ba.2;have:=bb.2;omega);have e5:IntKind.i64.wrap (a.exp-b.exp-(s:Int))=a.exp-b.exp-(s:Int):=Q2 _ (by have:=ba.2;have:=bb.2;omega) (by have:=ba.2;have:=bb.2;omega);have e6:IntKind.i64.wrap (a.exp-b.exp-(s:Int)-1)=a.exp-b.exp-(s:Int)-1:=Q2 _ (by have:=ba.2;have:=bb.2;omega) (by have:=ba.2;have:=bb.2;omega);have hlen:(QB (Qd a.w*2^s % Qd b.w)).length=0<->Qd a.w*2^s % Qd b.w=0:=by constructor;intro h;have h2:=Jf (Qd a.w*2^s % Qd b.w);rw[BY h] at h2;exact h2.symm;intro h;rw[h,Wq];rfl
 have hq2:Qd a.w*2^s/Qd b.w*2=2*(Qd a.w*2^s/Qd b.w):=BM _ _;have hl2:(QB (Qd a.w*2^s/Qd b.w*2)).length<=200:=by have:=HH (Qd a.w*2^s/Qd b.w*2);have h2:=xP (Qd a.w*2^s/Qd b.w) 1;rw[Nat.pow_one] at h2;have h3:=Wo (DB (Qd a.w*2^s) (Qd b.w));omega
 have hqm:W0 (Qd a.w) (Qd b.w) p=2*(Qd a.w*2^s/Qd b.w)+if Qd a.w*2^s % Qd b.w=0 then 0 else 1:=by unfold W0;rw[hs]
 unfold Im;rw[hs,hqm];generalize Qd a.w*2^s/Qd b.w=q at*
 generalize Qd a.w*2^s % Qd b.w=rr at*
 by_cases hz:rr=0;have f1:decide (((QB rr).length:Int)>0)=false:=q_g (by have:=hlen.2 hz;omega);simp-dsimp only[go_sem,f1,e4,e5,e6];rw[BC hz,B1,hq2];rfl;have f1:decide (((QB rr).length:Int)>0)=true:=q_h (by have:=fun h=>hz (hlen.1 h);omega);simp-dsimp only[go_sem,f1];refine(vi (QB (q*2)) [1] _ oG (by simp)).q ?_;have h1:Qd [1]=1:=rfl;rw[Jf,h1,hq2];simp-dsimp only[go_sem,e4,e5,e6];rw[BA hz];rfl
theorem Q1f {a b:Nm}{p:Nat}(h:Qd a.w≠0):ofX (Im a b p)=Jk (ofN a) (ofN b) p:=by unfold Jk;rw[BA (show¬(ofN a).m=0 from h)];show QN (a.neg !=b.neg) (Qd (QB (W0 (Qd a.w) (Qd b.w) p))) _=_;rw[Jf];rfl
theorem Q1g {a b:Nm}{p:Nat}(ha:Qg a=true)(hb:Qg b=true)(hp:p<=256)(h1:Qd b.w<4294967296):bd 1000000 1000000 (Im a b p):=by
 have ba:=Xt ha;have bb:=Xt hb;have la:=ba.1;have hba:=Wn a.w;have hA:Zc a.w=Qn (Qd a.w):=rfl;have mb:Qn (Qd b.w)<=32:=bitlen_le_iff.2 oG;have ml2:=Z0n (a:=Qd a.w) (b:=Qd b.w) mb hp;refine⟨?_,?_,?_⟩;show(QB (W0 (Qd a.w) (Qd b.w) p)).length<=1000000;have h1:=HH (W0 (Qd a.w) (Qd b.w) p);have h2:W0 (Qd a.w) (Qd b.w) p<=Qd a.w*2^Jl (Qd a.w) (Qd b.w) p*2^2:=by unfold W0;have:=DB (Qd a.w*2^Jl (Qd a.w) (Qd b.w) p) (Qd b.w);have:=Nat.mod_le (Qd a.w*2^Jl (Qd a.w) (Qd b.w) p) (Qd b.w);split;omega;rename_i hne;have:Qd a.w*2^Jl (Qd a.w) (Qd b.w) p≠0:=fun e=>(by rw[e,Nat.zero_mod] at hne;exact hne rfl);omega
 have h3:=Wo h2;have h4:=xP (Qd a.w*2^Jl (Qd a.w) (Qd b.w) p) 2;have h5:=xP (Qd a.w) (Jl (Qd a.w) (Qd b.w) p);omega;show -((1000000:Nat):Int)<=a.exp-b.exp-(Jl (Qd a.w) (Qd b.w) p:Int)-1;have:=ba.2;have:=bb.2;omega;show a.exp-b.exp-(Jl (Qd a.w) (Qd b.w) p:Int)-1<=((1000000:Nat):Int);have:=ba.2;have:=bb.2;omega
theorem Ie (a b:Nm)(p:Int)(up:Bool)(st:Qc)(ha:Qg a=true)(hb:Qg b=true)(hp:Qv p=true)(h0:0<Qd b.w)(h1:Qd b.w<4294967296):
 PR 271 [.agg (Qf a),.agg (Qf b),.sc (.int .i64 p),.sc (.bool up)] st (.tup [.agg (Qf (Jc a b p up).1),.sc (.int .i64 (Jc a b p up).2)]):=by
 have wa:=Q9 ha;have wb:=Q9 hb;unfold wN at wa wb;obtain⟨q,rfl,hq8,hq256,hqq⟩:=W6 hp;refine Ql Tryz.func271 fun E=> ?_;refine(XY a _ oG).q ?_;rw[ha];refine Qq ?_;refine(XY b _ oG).q ?_;rw[hb];refine Qq ?_;refine(Ks _ _).q ?_;rw[hp];have hbl:((b.w.length:Int)==0)=false:=CL.2 (fun e=>by have:b.w= []:=BY oG;rw[this,Vv] at h0;omega);simp-dsimp only[go_sem,hbl];by_cases hz:a.w= [];have hal:((a.w.length:Int)==0)=true:=(by rw[hz];rfl);simp-dsimp only[go_sem,hal];unfold Jc Jk;rw[BC (show(ofN a).m=0 by show Qd a.w=0;rw[hz,Vv])];unfold QR;rw[BC (by show Qn 0<=_;rw[VH];omega)];rfl;have hal:((a.w.length:Int)==0)=false:=CL.2 (fun e=>hz (BY oG));have hv:Qd a.w≠0:=fun e=>hz ((Wp ha).1 e);simp-dsimp only[go_sem,hal];refine(Q1c a b q _ ha hb hq256 h0 h1).Q ?_;refine(Ic (Im a b q) q up _ (Q1g ha hb hq256 h1) oG oG).q ?_;rw[Q1f hv];refine Qq ?_;unfold Jc;rw[hqq]
theorem J0c (a:Ivl)(c:Nm)(p:Int)(st:Qc)(ha:wI a)(hc:Qg c=true)(hpos:0<qN c)(h0:0<Qd c.w)(h1:Qd c.w<4294967296):
 PR 203 [.agg (Qm a),.agg (Qm ⟨c,c⟩),.sc (.int .i64 p)] st (.tup [.agg (Qm (V9 a c p).1),.sc (.int .i64 (V9 a c p).2)]):=by
 have wc:=Q9 hc;have hcl:c.w.length<=10000000000000:=(by unfold wN at wc;omega);have hcc:=Sq hc;have hs:0<QT c:=(GF c).2 hpos;have z1:decide (QT c<=0)=false:=q_g oG;have z2:decide (QT c<0)=false:=q_g oG;refine Ql Tryz.func203 fun E=> ?_;refine(I5 a ⟨c,c⟩ p _ ha ⟨wc,wc⟩).q ?_;rw[hcc,Bool.and_true];refine QS ?_ ?_<;>intro h;refine Qq ?_;rw[V9,BA (fun hh=>by simp[hh.1,hh.2] at h)];rfl
 . have hv:Qr a=true/\Qv p=true:=(by simpa using h);obtain⟨r1,r3⟩:=hv;obtain⟨a1,a2,_⟩:=ZJ r1;refine Qq ?_;refine(Vm c _ hcl).q ?_;simp-dsimp only[go_sem,z1];refine(Vm c _ hcl).q ?_;simp-dsimp only[go_sem,z2];refine Q8 84 (Qk [0,1,2,3] (.alt (.step 4 [1,3] (.step 5 [1,3] (.step 6 [3] (.step 7 [] (.done))))) (.step 5 [1,3] (.step 4 [1,3] (.step 6 [3] (.step 7 [] (.done))))))) ?_;refine Qq ?_;have sa1:=QZ a1;have sa2:=QZ a2;have wa1:=Q9 a1;have wa2:=Q9 a2;unfold wN at wa1 wa2;have hall:V9 a c p=if (Jc a.lo c p false).2=0/\(Jc a.hi c p true).2=0 then(⟨(Jc a.lo c p false).1,(Jc a.hi c p true).1⟩,0) else(default,2):=by unfold V9;rw[BC ⟨r1,r3⟩];rfl
   have u1:(Jc a.lo c p false).2=0\/(Jc a.lo c p false).2=2:=kV _;have u2:(Jc a.hi c p true).2=0\/(Jc a.hi c p true).2=2:=kV _;have d1:=fun st=>Ie a.lo c p false st a1 hc r3 h0 h1;have d2:=fun st=>Ie a.hi c p true st a2 hc r3 h0 h1;generalize Jc a.lo c p false=x at*
   generalize Jc a.hi c p true=y at*
   obtain⟨x,ex⟩:=x;obtain⟨y,ey⟩:=y;simp only at u1 u2 hall d1 d2;refine And.intro ?_ ?_
   all_goals
    refine(Vm a.lo _ oG).q ?_;rcases u1 with rfl | rfl
    . have g1:((0:Int) !=0)=false:=rfl;rcases u2 with rfl | rfl
      . rw[hall,BC ⟨rfl,rfl⟩];cases q1:decide (QT a.lo<0)
        all_goals
         simp-dsimp only[go_sem,q1];refine(Vm a.hi _ oG).q ?_;cases q2:decide (QT a.hi<0)
         all_goals
          simp-dsimp only[go_sem,q2];refine(d1 _).q ?_;simp-dsimp only[go_sem,g1];refine(d2 _).q ?_;simp-dsimp only[go_sem,g1]
      . have g2:((2:Int) !=0)=true:=rfl;rw[hall,BA (fun h=>absurd h.2 (by decide))];cases q1:decide (QT a.lo<0)
        all_goals
         simp-dsimp only[go_sem,q1];refine(Vm a.hi _ oG).q ?_;cases q2:decide (QT a.hi<0)
         all_goals
          simp-dsimp only[go_sem,q2];refine(d1 _).q ?_;simp-dsimp only[go_sem,g1];refine(d2 _).q ?_;simp-dsimp only[go_sem,g2];rfl
    . have g2:((2:Int) !=0)=true:=rfl;rw[hall,BA (fun h=>absurd h.1 (by decide))];cases q1:decide (QT a.lo<0)
      all_goals
       simp-dsimp only[go_sem,q1];refine(Vm a.hi _ oG).q ?_;cases q2:decide (QT a.hi<0)
       all_goals
        simp-dsimp only[go_sem,q2];refine(d1 _).q ?_;simp-dsimp only[go_sem,g2];rfl
end Go.Pv
end
