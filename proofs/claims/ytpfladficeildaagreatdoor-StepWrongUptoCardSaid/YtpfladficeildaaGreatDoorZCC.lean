/- Walk. -/
import Derived.Test.YtpfladficeildaaGreatDoorZBR
set_option linter.all false
set_option maxHeartbeats 160000000
section
namespace Go.Pv
def WQ (a b:List Ivl)(k:Nat)(p:Int):List Ivl×Int:=Q7 (fun j=>JG a b j p) 0 (k+1) []
def XE (s x:List Ivl)(k:Nat)(p:Int):Nat->List Ivl×Int
 | 0=>(s,0)
 | n+1=>if (XE s x k p n).2≠0 then([],(XE s x k p n).2) else WQ (XE s x k p n).1 x k p
def VV (c:Nm)(k:Nat):List Ivl:=⟨c,c⟩::List.replicate k default
def ZF (m:Mn)(xs:List (List Ivl))(k:Nat)(p:Int):Nat->List Ivl×Int
 | 0=>(VV m.c k,0)
 | i+1=>if (ZF m xs k p i).2≠0 then([],(ZF m xs k p i).2) else XE (ZF m xs k p i).1 (xs.getD i []) k p (m.ks.getD i 0).toNat
def ofS (q:List Mn)(xs:List (List Ivl))(k:Nat)(p:Int):Nat->Ivl×Int
 | 0=>(default,0)
 | i+1=>if (ofS q xs k p i).2≠0 then(default,(ofS q xs k p i).2) else
  if (ZF (q.getD i default) xs k p xs.length).2≠0 then(default,(ZF (q.getD i default) xs k p xs.length).2) else
  opI 0 (ofS q xs k p i).1 ((ZF (q.getD i default) xs k p xs.length).1.getD k default) p
def ji (k p:Int):Bool:=decide (0<=k)&&decide (k<=10)&&Qv p
def KC (q:List Mn)(xs:List (List Ivl))(k:Int)(p:Int):Ivl×Int:=
 if ji k p=true/\ZL q xs.length=true/\(xs.all fun x=>XU x k.toNat)=true then ofS q xs k.toNat p q.length else(default,1)
def Z8 (a:List Ivl)(h:Ivl)(p:Int):Nat->Ivl×Int
 | 0=>(a.getD (a.length-1) default,0)
 | i+1=>if (Z8 a h p i).2≠0 then(default,(Z8 a h p i).2) else
  if (opI 2 (Z8 a h p i).1 h p).2≠0 then(default,(opI 2 (Z8 a h p i).1 h p).2) else opI 0 (opI 2 (Z8 a h p i).1 h p).1 (a.getD (a.length-2-i) default) p
def ZS (a:List Ivl)(h:Ivl)(p:Int):Ivl×Int:=
 if 1<=a.length/\a.length<=11/\XU a (a.length-1)=true/\Qr h=true/\Qv p=true then Z8 a h p (a.length-1) else(default,1)
theorem H1p {a:Li}{k:Nat}(h:XU a k=true):k<a.length:=by unfold XU at h;simp only[q_i,BN] at h;exact h.1
theorem H1q {a:Li}{k j:Nat}(h:XU a k=true)(hj:j<=k):Qr (a.getD j default)=true:=by have hl:=H1p h;unfold XU at h;simp only[q_i,BN,q_d] at h;refine h.2 _ ?_;rw[show a.getD j default=a[j]' oG by simp[q_a,(by omega:j<a.length)]];exact List.mem_take_iff_getElem.2 ⟨j,oG,rfl⟩
theorem z0l (a b:Li)(k:Nat)(p:Int): ∀x∈(WQ a b k p).1,wI x:=by
 unfold WQ;refine WR (fun x=>wI x) (k+1) 0 [] (fun j _ _=> ?_) (fun x hx=>by cases hx);show wI (JG a b j p).1;have key: ∀(l:List (Ivl×Ivl)) (sm:Bool) (s:Ivl),wI s->wI (Wi p l sm s).1:=by
  intro l
  induction l with
  | nil=>intro sm s hs;exact hs
  | cons x l ih=>
   intro sm s hs;rw[W0w];split;split;split;exact ih _ _ (Kq (KK _ _ _ _));exact JA;exact ih _ _ (Kq (KK _ _ _ _));exact JA
 unfold JG;split;exact key _ _ _ JA;exact JA
theorem z0m (a b:Li)(k:Nat)(p:Int):(WQ a b k p).1.length<=k+1:=by have:=Uk (G:=fun j=>JG a b j p) (k+1) 0 [];simpa[WQ] using this
theorem K1u {c:Nm}(hc:wN c)(k:Nat): ∀x∈VV c k,wI x:=fun x hx=>by unfold VV at hx;rcases D8.1 hx with rfl | hx;exact⟨hc,hc⟩;rw[(List.mem_replicate.1 hx).2];exact JA
theorem Tl {s x:Li}{k:Nat}{p:Int}(hs:s.length<=k+1/\ ∀y∈s,wI y): ∀n,(XE s x k p n).1.length<=k+1/\ ∀y∈(XE s x k p n).1,wI y
 | 0=>hs
 | n+1=>by rw[XE];split;exact⟨CX _,fun y hy=>by cases hy⟩;exact⟨z0m _ _ _ _,z0l _ _ _ _⟩
theorem kI {m:Mn}{xs:Lj}{k:Nat}{p:Int}(hm:wN m.c): ∀i,(ZF m xs k p i).1.length<=k+1/\ ∀y∈(ZF m xs k p i).1,wI y
 | 0=>⟨by simp[ZF,VV],K1u hm k⟩
 | i+1=>by rw[ZF];split;exact⟨CX _,fun y hy=>by cases hy⟩;exact Tl (kI hm i) _
theorem kJ {s x:Li}{k:Nat}{p:Int}{n:Nat}(h:(XE s x k p n).2≠0): ∀d,(XE s x k p (n+d)).2=(XE s x k p n).2
 | 0=>rfl
 | d+1=>by rw[<-DK,XE,BC (by rw[kJ h d];exact h),kJ h d]
theorem kH {m:Mn}{xs:Lj}{k:Nat}{p:Int}{i:Nat}(h:(ZF m xs k p i).2≠0): ∀d,(ZF m xs k p (i+d)).2=(ZF m xs k p i).2
 | 0=>rfl
 | d+1=>by rw[<-DK,ZF,BC (by rw[kH h d];exact h),kH h d]
theorem kP {q:Lm}{xs:Lj}{k:Nat}{p:Int}{i:Nat}(h:(ofS q xs k p i).2≠0): ∀d,ofS q xs k p (i+1+d)=(default,(ofS q xs k p i).2)
 | 0=>by rw[B1,ofS,BC h]
 | d+1=>by rw[<-DK,ofS,BC (by rw[kP h d];exact h),kP h d]
set_option maxRecDepth 100000
open Go.Proofs
theorem xC (l:Li)(x:Ivl):Qj l++ [PV.agg [.sc (.bool x.lo.neg),.sc (.int .i64 x.lo.exp),.sl .no (Qo x.lo.w),.sc (.bool x.hi.neg),.sc (.int .i64 x.hi.exp),.sl .no (Qo x.hi.w)]]=Qj (l++ [x]):=by simp[Qj,Qm,Qf]
theorem k0q (a b:Li)(k:Nat)(p:Int)(st:Qc)(hk:k<=10)(la:a.length<=1000000)(lb:b.length<=1000000)(wa: ∀x∈a,wI x)(wb: ∀x∈b,wI x):
 PR 312 [.sl .no (Qj a),.sl .no (Qj b),.sc (.int .i64 k),.sc (.int .i64 p)] st (.tup [.sl .no (Qj (WQ a b k p).1),.sc (.int .i64 (WQ a b k p).2)]):=by
 refine Qh none Tryz.func312 rfl fun E=>Qb ?_;have wk:=J2v k oG;simp-dsimp only[go_sem,wk];refine ZE 10 6 ?_;refine Qq ?_;refine Q1 [true,true,false,true,false,false,false,false,false,false,true,false,false,false,false,true,true] 0 1
  (fun m s=> ∃(j:Nat) (o:Li),m=k+1-j/\j<=k+1/\o.length=j/\Q7 (fun j=>JG a b j p) j (k+1-j) o=WQ a b k p/\
   s=⟨[.sl .no (Qj a),.sl .no (Qj b),.junk,.sc (.int .i64 p),.junk,.junk,.junk,.junk,.junk,.junk,.sl (.own 0) (Qj o),.junk,.junk,.junk,.junk,.sc (.int .i64 ((k+1:Nat):Int)),.sc (.int .i64 (j:Nat))]++jk 19,[],[(j,6)],st⟩) (k+1) ?_ ?_
 refine Qq ?_;exact⟨0,[],oG,oG,rfl,rfl,rfl⟩;rintro m s ⟨j,o,rfl,hj,ho,ht,rfl⟩;refine QS ?_ ?_<;>intro h;have hlt:j<k+1:=(oT h);have e3:=J2v j oG;rw[VM _ hlt] at ht;refine Qq ?_;refine(v1c a b j p _ oG la lb wa wb).q ?_;generalize JG a b j p=c at ht⊢;by_cases hc:c.2=0;have ec:(c.2 !=0)=false:=(by rw[hc];rfl);rw[BA (by rw[hc];decide)] at ht;have hsn:=xC o c.1;simp-dsimp only[go_sem,ec,e3,hsn,ho];exact⟨oG,k+1-(j+1),oG,j+1,o++ [c.1],rfl,oG,by simp[ho],ht,rfl⟩;have ec:(c.2 !=0)=true:=BV.2 hc;rw[BC hc] at ht;simp-dsimp only[go_sem,ec];rw[<-ht];rfl;have hge:j=k+1:=(oF h);subst hge;rw[Wt] at ht;refine Qq ?_;refine KG (rF 10++ [true]) (Qb ?_);refine Qq ?_;rw[<-ht]
theorem y0f (n:Nat):XI n (Qm default)=flat (Qj (List.replicate n default)):=by simp[XI,flat,Qj,PV.cells]
theorem K1v (c:Nm)(k:Nat):Q4 (flat (Qj (List.replicate (k+1) default))) 0 (Qm ⟨c,c⟩)=flat (Qj (VV c k)):=by have:=K0w (List.replicate (k+1) default) 0 ⟨c,c⟩ (by simp) 0 (Qm ⟨c,c⟩) (by simp[Qm,Qf]) rfl;rw[DC,CU] at this;rw[this];rfl
theorem k0u (m:Mn)(xs:Lj)(k:Nat)(p:Int)(st:Qc)(hk:k<=10)(hm:wMn m)(hr:JN m.ks=true)(hl:m.ks.length=xs.length)(lx:xs.length<=1000000)(wx: ∀i,i<xs.length->(xs.getD i []).length<=1000000/\ ∀y∈xs.getD i [],wI y):
 PR 269 [.agg (Kk m),.sl .no (Qt xs),.sc (.int .i64 k),.sc (.int .i64 p)] st (.tup [.sl .no (Qj (if (ZF m xs k p xs.length).2=0 then(ZF m xs k p xs.length).1 else [])),.sc (.int .i64 (ZF m xs k p xs.length).2)]):=by
 have fin: ∀i,i<=xs.length->(ZF m xs k p i).2≠0->(ZF m xs k p xs.length).2=(ZF m xs k p i).2:=fun i hi he=>by have:=kH he (xs.length-i);rw[show i+(xs.length-i)=xs.length by omega] at this;exact this
 generalize hR:ZF m xs k p xs.length=R at fin⊢;refine Qh none Tryz.func269 rfl fun E=>Qb ?_;have wk:=J2v k oG;simp-dsimp only[go_sem,wk];refine⟨⟨oG,oG,oG⟩,?_⟩;refine(Ki m.c _ hm.1).Q ?_;have r1:Q4 (XI (k+1) [.sc (.bool false),.sc (.int .i64 0),.sl .no [],.sc (.bool false),.sc (.int .i64 0),.sl .no []]) 0 [.sc (.bool m.c.neg),.sc (.int .i64 m.c.exp),.sl .no (Qo m.c.w),.sc (.bool m.c.neg),.sc (.int .i64 m.c.exp),.sl .no (Qo m.c.w)]=flat (Qj (VV m.c k)):=by have:=K1v m.c k;rw[<-y0f] at this;exact this
 refine⟨by simp[GP];omega,?_⟩;refine GQ 1 6 ?_ ?_;simp only[Hr];exact vY (vX rfl) rfl;have r2:=Y0b (VV m.c k) (k+1) (by simp[VV]);have r3:(flat (Qj (VV m.c k))).length=(k+1)*6:=(by rw[z1j];simp[VV]);simp-dsimp only[go_sem,kG,zz,r1,r2,r3];refine Qp ?_;have ok0:=fun i=>kI (m:=m) (xs:=xs) (k:=k) (p:=p) hm.1 i;refine Q1 ([false,true,true,true,false,false,false,false,false,false,true]++rF 13++ [true,true,true]) 0 0
  (fun c s'=> ∃i,c=xs.length-i/\i<=xs.length/\(ZF m xs k p i).2=0/\
   s'=⟨[.junk,.sl .no (Qt xs),.sc (.int .i64 (k:Nat)),.sc (.int .i64 p),.junk,.junk,.junk,.junk,.junk,.junk,.sl .no (Qj (ZF m xs k p i).1)]++jk 13++ [.sl .no (QX m.ks),.sc (.int .i64 (xs.length:Nat)),.sc (.int .i64 (i:Nat))]++jk 25,[],[],st⟩) xs.length ?_ ?_
 simp-dsimp only[go_sem,hl];exact⟨0,oG,oG,rfl,rfl⟩;rintro c s' ⟨i,rfl,hi,he,rfl⟩;refine QS ?_ ?_<;>intro h;have hlt:i<xs.length:=(oT h);have e3:=J2v i oG;have g1:=Yh m.ks i oG;have g2:=Kl xs i hlt;have hat:=GM hr i oG;have hk8:m.ks.getD i 0=((m.ks.getD i 0).toNat:Int):=oG;have hk9:(m.ks.getD i 0).toNat<=8:=oG;have hstep:ZF m xs k p (i+1)=XE (ZF m xs k p i).1 (xs.getD i []) k p (m.ks.getD i 0).toNat:=(by rw[ZF,BA (by rw[he];decide)]);have oks:=ok0 i;obtain⟨lx1,lx2⟩:=wx i hlt;have fin1:=fin (i+1) oG;rw[hstep] at fin1;rw[hk8] at g1;generalize (m.ks.getD i 0).toNat=n at*
 generalize (ZF m xs k p i).1=s0 at*
 simp-dsimp only[go_sem,g1];refine⟨oG,?_⟩;refine Q1 ([false,true,true,true,false,false,false,false,false,false,true,true]++rF 12++ [true,true,true,false,false,false,false,true,true]) 0 0
  (fun c s'=> ∃j,c=n-j/\j<=n/\(XE s0 (xs.getD i []) k p j).2=0/\
   s'=⟨[.junk,.sl .no (Qt xs),.sc (.int .i64 (k:Nat)),.sc (.int .i64 p),.junk,.junk,.junk,.junk,.junk,.junk,.sl .no (Qj (XE s0 (xs.getD i []) k p j).1),.sc (.int .i64 (i:Nat))]++jk 12++ [.sl .no (QX m.ks),.sc (.int .i64 (xs.length:Nat)),.sc (.int .i64 (i:Nat)),.junk,.junk,.junk,.junk,.sc (.int .i64 (n:Nat)),.sc (.int .i64 (j:Nat))]++jk 19,[],[],st⟩) n ?_ ?_
 refine Qq ?_;exact⟨0,oG,oG,rfl,rfl⟩;rintro c s' ⟨j,rfl,hj,hej,rfl⟩;refine QS ?_ ?_<;>intro h2;have hlt2:j<n:=(oT h2);have e4:=J2v j oG;have okn:=Tl (x:=xs.getD i []) (p:=p) oks j;have hstep2:XE s0 (xs.getD i []) k p (j+1)=WQ (XE s0 (xs.getD i []) k p j).1 (xs.getD i []) k p:=(by rw[XE,BA (by rw[hej];decide)]);simp-dsimp only[go_sem,g2];refine⟨oG,?_⟩;refine(k0q (XE s0 (xs.getD i []) k p j).1 (xs.getD i []) k p _ hk oG lx1 okn.2 lx2).q ?_;rw[<-hstep2];by_cases hz:(XE s0 (xs.getD i []) k p (j+1)).2=0;have ez:((XE s0 (xs.getD i []) k p (j+1)).2 !=0)=false:=(by rw[hz];rfl);simp-dsimp only[go_sem,ez,e4];exact⟨n-(j+1),oG,j+1,rfl,oG,hz,rfl⟩;have ez:((XE s0 (xs.getD i []) k p (j+1)).2 !=0)=true:=BV.2 hz;have hst:=kJ hz (n-(j+1));rw[show j+1+(n-(j+1))=n by omega] at hst;have hall:=fin1 (by rw[hst];exact hz);rw[hst] at hall;simp-dsimp only[go_sem,ez];rw[hall,BA hz];rfl;have hge:j=n:=(oF h2);subst hge;refine Qq ?_;refine Qb ?_;simp-dsimp only[go_sem,e3];refine⟨xs.length-(i+1),oG,i+1,rfl,oG,by rw[hstep];exact hej,by rw[hstep]⟩;have hge:i=xs.length:=(oF h);subst hge;refine Qq ?_;refine Qp ?_;rw[hR] at he⊢;rw[he,BC rfl]
def wXs (xs:List (List Ivl)):Prop:=xs.length<=1000000/\ ∀i,i<xs.length->(xs.getD i []).length<=1000000/\ ∀y∈xs.getD i [],wI y
theorem Q0n {q:Lm}{xs:Lj}{k:Nat}{p:Int} : ∀i,wI (ofS q xs k p i).1
 | 0=>JA
 | i+1=>by rw[ofS];split;exact JA;split;exact JA;exact Kq (KK _ _ _ _)
theorem xo {l:Li}(h: ∀y∈l,wI y)(k:Nat):wI (l.getD k default):=by by_cases hk:k<l.length;exact h _ (QE _ _ _ hk);rw[Wc _ _ _ oG];exact JA
theorem Z2k {xs:Lj}{k:Nat} :(xs.all fun x=>XU x k)=true<-> ∀i,i<xs.length->XU (xs.getD i []) k=true:=by rw[q_d];constructor;intro h i hi;exact h _ (QE _ _ _ hi);intro h x hx;obtain⟨i,hi,rfl⟩:=CM.1 hx;have:=h i hi;rwa [show xs.getD i []=xs[i] by simp[q_a,hi]] at this
theorem z0w {s x:Li}{k n:Nat}{p:Int}(hs:s.length=k+1)(h:(XE s x k p n).2=0):(XE s x k p n).1.length=k+1:=by
 cases n with
 | zero=>exact hs
 | succ n=>
  rw[XE] at h⊢;split at h;rename_i c;exact absurd h c;rename_i c;rw[BA c];have:=WS h;exact this.1
theorem Tk {m:Mn}{xs:Lj}{k:Nat}{p:Int} : ∀i,(ZF m xs k p i).2=0->(ZF m xs k p i).1.length=k+1
 | 0,_=>by simp[ZF,VV]
 | i+1,h=>by rw[ZF] at h⊢;split at h;rename_i c;exact absurd h c;rename_i c;rw[BA c];exact z0w (Tk i (C8.1 c)) h
theorem Mh (q:Lm)(xs:Lj)(k p:Int)(st:Qc)(wq:wP q)(wx:wXs xs):
 PR 202 [.sl .no (Zp q),.sl .no (Qt xs),.sc (.int .i64 k),.sc (.int .i64 p)] st (.tup [.agg (Qm (KC q xs k p).1),.sc (.int .i64 (KC q xs k p).2)]):=by
 have hdef:ji k p=true->ZL q xs.length=true->KC q xs k p=if (xs.all fun x=>XU x k.toNat)=true then ofS q xs k.toNat p q.length else(default,1):=fun h1 h2=>by unfold KC;by_cases h3:(xs.all fun x=>XU x k.toNat)=true;rw[BC ⟨h1,h2,h3⟩,BC h3];rw[BA (fun h=>h3 h.2.2),BA h3]
 refine Ql Tryz.func202 fun E=> ?_;refine(Mg k p st).q ?_;cases v:decide (0<=k)&&decide (k<=10)&&Qv p with
 | false=>
  refine Qq ?_;unfold KC;rw[BA (fun h=>by have h1:=h.1;unfold ji at h1;rw[v] at h1;cases h1)];rfl
 | true=>
  have v':=v;simp only[q_i,BN] at v';obtain⟨⟨k0,k10⟩,hp⟩:=v';obtain⟨n,rfl⟩:=EE k0;have hn:n<=10:=oG;rw[FN] at hdef;refine Qq ?_;refine(zH q xs.length _ wq).q ?_;cases hr:ZL q xs.length with
  | false=>
   refine Qq ?_;unfold KC;rw[BA (fun h=>by rw[hr] at h;exact absurd h.2.1 (by decide))];rfl
  | true=>
  rw[hdef v hr];generalize hU:(xs.all fun x=>XU x n)=U;have hall:=Z2k (xs:=xs) (k:=n);rw[hU] at hall;have rr:=hr;refine Qq ?_;refine Va 0 ?_;refine Qq ?_;refine Q1 ([true,true,true,true,false,false,false,false,true]++rF 20++ [true,true,true]) 1 0
   (fun c s'=> ∃i,c=xs.length-i/\i<=xs.length/\(∀j,j<i->XU (xs.getD j []) n=true)/\
    s'=⟨[.sl .no (Zp q),.sl .no (Qt xs),.sc (.int .i64 (n:Nat)),.sc (.int .i64 p),.junk,.junk,.junk,.junk,.lp 0 0]++jk 20++ [.sl .no (Qt xs),.sc (.int .i64 (xs.length:Nat)),.sc (.int .i64 (i:Nat))]++jk 43,[Qm default],[],st⟩) xs.length ?_ ?_
  refine Qq ?_;exact⟨0,oG,oG,fun j hj=>absurd hj oG,rfl⟩;rintro c s' ⟨i,rfl,hi,hup,rfl⟩;have wx1:=wx.1;refine QS ?_ ?_<;>intro h;have hlt:i<xs.length:=(oT h);have e3:=J2v i oG;have g2:=Kl xs i hlt;obtain⟨lx1,lx2⟩:=wx.2 i hlt;simp-dsimp only[go_sem,g2];refine⟨oG,?_⟩;refine(zl (xs.getD i []) n _ hn lx1 lx2).q ?_;cases hu:(decide (n<(xs.getD i []).length)&&((xs.getD i []).take (n+1)).all Qr) with
  | false=>
   have hno:U≠true:=fun e=>by have:=hall.1 e i hlt;unfold XU at this;rw[hu] at this;cases this
   refine Qq ?_;rw[BA hno];rfl
  | true=>
   simp-dsimp only[go_sem,e3];refine⟨xs.length-(i+1),oG,i+1,rfl,oG,fun j hj=> ?_,rfl⟩;by_cases e:j=i;rw[e];exact hu;exact hup j oG
  have hge:i=xs.length:=oF h
  subst hge;rw[BC (hall.2 hup)];clear hall hU;have fin: ∀i,i<q.length->(ofS q xs n p i).2≠0->ofS q xs n p q.length=(default,(ofS q xs n p i).2):=fun i hi he=>by have:=kP he (q.length-(i+1));rw[show i+1+(q.length-(i+1))=q.length by omega] at this;exact this
  have fin2: ∀i,i<q.length->(ofS q xs n p i).2=0->(ofS q xs n p (i+1)).2≠0->ofS q xs n p q.length=(default,(ofS q xs n p (i+1)).2):=fun i hi h0 he=>by
   by_cases hl:i+1<q.length;exact fin (i+1) hl he;have:i+1=q.length:=oG;rw[<-this];have hd:(ofS q xs n p (i+1)).1=default:=by rw[ofS,BA (by rw[h0];decide)] at he⊢;split;rfl;rename_i c;rw[BA c] at he;exact zP 0 _ _ _ he
   exact Prod.ext hd rfl
  generalize hR:ofS q xs n p q.length=R at fin fin2⊢;refine Qq ?_;refine Qp ?_;refine Va 1 ?_;refine Qq ?_;have hS: ∀i,wI (ofS q xs n p i).1:=fun i=>Q0n i;refine Q1 ([false,true,true,true,false,false,false,false,true,false,false,false,true]++rF 28++ [true,true,true]) 2 0
   (fun c s'=> ∃i,c=q.length-i/\i<=q.length/\(ofS q xs n p i).2=0/\
    s'=⟨[.junk,.sl .no (Qt xs),.sc (.int .i64 (n:Nat)),.sc (.int .i64 p),.junk,.junk,.junk,.junk,.lp 0 0,.junk,.junk,.junk,.lp 1 0]++jk 28++ [.sl .no (Zp q),.sc (.int .i64 (q.length:Nat)),.sc (.int .i64 (i:Nat))]++jk 31,[Qm default,Qm (ofS q xs n p i).1],[],st⟩) q.length ?_ ?_
  refine Qq ?_;exact⟨0,oG,oG,rfl,rfl⟩;rintro c s' ⟨i,rfl,hi,he,rfl⟩;have wq1:=wq.1;refine QS ?_ ?_<;>intro h2;have hlt:i<q.length:=(oT h2);have e3:=J2v i oG;have g3:=UW q i hlt;have hmono:=Nv rr hlt;have hwm:=wq.2 i hlt;have hstep:ofS q xs n p (i+1)=if (ZF (q.getD i default) xs n p xs.length).2≠0 then(default,(ZF (q.getD i default) xs n p xs.length).2) else opI 0 (ofS q xs n p i).1 ((ZF (q.getD i default) xs n p xs.length).1.getD n default) p:=(by rw[ofS,BA (by rw[he];decide)]);have f2:=fin2 i hlt he;rw[hstep] at f2;have hov:=kI (m:=q.getD i default) (xs:=xs) (k:=n) (p:=p) hwm.1 xs.length;have hovl:=Tk (m:=q.getD i default) (xs:=xs) (k:=n) (p:=p) xs.length;have hSi:=hS i;simp-dsimp only[go_sem,g3];refine⟨oG,?_⟩;refine(k0u (q.getD i default) xs n p _ hn hwm hmono.2.1 (by have:=hmono.1;omega) wx.1 wx.2).q ?_;generalize hO:ZF (q.getD i default) xs n p xs.length=O at hov hovl f2 hstep⊢;by_cases hz:O.2=0;have ez:(O.2 !=0)=false:=(by rw[hz];rfl);have hln:=hovl hz;have gI:=Zr O.1 n oG;rw[BA (by rw[hz];decide)] at hstep f2;simp-dsimp only[go_sem,hz,ez,gI];refine Q8 75 (Qk [0,1,2,3,4,5,6,7,8,9,10,11] .done) ?_;simp-dsimp only[go_sem,gI];refine⟨⟨oG,oG⟩,?_⟩;refine(UL (ofS q xs n p i).1 (O.1.getD n default) p _ hSi (xo hov.2 n)).q ?_;rw[<-hstep] at f2⊢;have hS1:=hS (i+1);by_cases hz2:(ofS q xs n p (i+1)).2=0;have ez2:((ofS q xs n p (i+1)).2 !=0)=false:=(by rw[hz2];rfl);simp-dsimp only[go_sem,hz2,ez2,e3];exact⟨q.length-(i+1),oG,i+1,rfl,oG,hz2,rfl⟩;have ez2:((ofS q xs n p (i+1)).2 !=0)=true:=BV.2 hz2;simp-dsimp only[go_sem,ez2];rw[f2 hz2];rfl;have ez:(O.2 !=0)=true:=BV.2 hz;rw[BC hz] at f2;simp-dsimp only[go_sem,ez];rw[f2 hz];rfl;have hge:i=q.length:=(oF h2);subst hge;refine Qq ?_;refine Qp ?_;rw[hR] at he⊢;rw[he]
def Yb (v x h:Ivl)(p:Int):Ivl×Int:=if (opI 2 v h p).2≠0 then(default,(opI 2 v h p).2) else opI 0 (opI 2 v h p).1 x p
theorem k0s (v x h:Ivl)(p:Int)(k4 k5:Nat)(st:Qc)(wv:wI v)(wx:wI x)(wh:wI h)(h4:st.getD k4 []=Qm h)(h5:st.getD k5 []= [.sc (.int .i64 p)])(l4:k4<st.length)(l5:k5<st.length):
 PR 272 [.agg (Qm v),.agg (Qm x),.gp k4 0,.gp k5 0] st (.tup [.agg (Qm (Yb v x h p).1),.sc (.int .i64 (Yb v x h p).2)]):=by
 refine Qh none Tryz.func272 rfl fun E=>Qb ?_;have h4':=h4;simp only[Qm,Qf,EG,CQ] at h4';simp-dsimp only[go_sem,h4',h5];refine(UK v h p _ wv wh).q ?_;have wm:=Kq (KK 2 v h p);unfold Yb;by_cases hz:(opI 2 v h p).2=0;have ez:((opI 2 v h p).2 !=0)=false:=(by rw[hz];rfl);rw[BA (by rw[hz];decide)];simp-dsimp only[go_sem,hz,ez,h4',h5];refine(UL (opI 2 v h p).1 x p _ wm wx).Q0;have ez:((opI 2 v h p).2 !=0)=true:=BV.2 hz;rw[BC hz];simp-dsimp only[go_sem,ez];rfl
theorem jA {a:Li}{h:Ivl}{p:Int}{i:Nat}(e:(Z8 a h p i).2≠0): ∀d,Z8 a h p (i+1+d)=(default,(Z8 a h p i).2)
 | 0=>by rw[B1,Z8,BC e]
 | d+1=>by rw[<-DK,Z8,BC (by rw[jA e d];exact e),jA e d]
theorem jB {a:Li}{h:Ivl}{p:Int}{i:Nat}(e:(Z8 a h p i).2=0):Z8 a h p (i+1)=Yb (Z8 a h p i).1 (a.getD (a.length-2-i) default) h p:=by rw[Z8,BA (by rw[e];decide),Yb]
theorem X1l {v x h:Ivl}{p:Int}(e:(Yb v x h p).2≠0):Yb v x h p=(default,(Yb v x h p).2):=by unfold Yb at e⊢;split;rfl;rename_i c;rw[BA c] at e;exact Prod.ext (zP 0 _ _ _ e) rfl
theorem x0u {a:Li}{h:Ivl}{p:Int}(wa: ∀x∈a,wI x)(i:Nat):wI (Z8 a h p i).1:=by
 cases i with
 | zero=>exact xo wa _
 | succ i=>
  rw[Z8];split;exact JA;split;exact JA;exact Kq (KK _ _ _ _)
theorem k0r (a:Li)(h:Ivl)(p:Int)(st:Qc)(la:a.length<=1000000)(wa: ∀x∈a,wI x)(wh:wI h):
 PR 204 [.sl .no (Qj a),.agg (Qm h),.sc (.int .i64 p)] st (.tup [.agg (Qm (ZS a h p).1),.sc (.int .i64 (ZS a h p).2)]):=by
 refine kB (Q:=fun r _=>r= .tup [.agg (Qm (ZS a h p).1),.sc (.int .i64 (ZS a h p).2)]) ?_;refine Qh none Tryz.func204 rfl fun E=>Qe (Qb ?_);have bad: ¬(1<=a.length/\a.length<=11/\XU a (a.length-1)=true/\Qr h=true/\Qv p=true)->ZS a h p=(default,1):=fun hn=>(by unfold ZS;rw[BA hn]);refine Qq ?_;refine Qa ?_;by_cases c1:1<=a.length/\a.length<=11
 . have d1:decide ((a.length:Int)<1)=false:=q_g oG;have d2:decide ((a.length:Int)>11)=false:=q_g oG;have e1:IntKind.i64.wrap ((a.length:Int)-1)=((a.length-1:Nat):Int):=(by rw[Q2 _ oG oG];omega);refine Qe (Qb ?_);simp-dsimp only[go_sem,d1,d2,e1];refine(zl a (a.length-1) st oG la wa).q ?_;rw[show(decide (a.length-1<a.length)&&(a.take (a.length-1+1)).all Qr)=XU a (a.length-1) from rfl];cases ha:XU a (a.length-1) with
   | false=>
    rw[bad (fun x=>by rw[ha] at x;exact absurd x.2.2.1 (by decide))];refine Qq ?_;exact⟨⟨[],by simp⟩,Vg _ default _,rfl⟩
   | true=>
   refine Qq ?_;refine(JF h st wh).q ?_;cases hh:Qr h with
   | false=>
    rw[bad (fun x=>by rw[hh] at x;exact absurd x.2.2.2.1 (by decide))];refine Qq ?_;exact⟨⟨[],by simp⟩,Vg _ default _,rfl⟩
   | true=>
   refine Qq ?_;refine(Ks p st).q ?_;cases hp:Qv p with
   | false=>
    rw[bad (fun x=>by rw[hp] at x;exact absurd x.2.2.2.2 (by decide))];refine Qq ?_;exact⟨⟨[],by simp⟩,Vg _ default _,rfl⟩
   | true=>
   have hs:ZS a h p=Z8 a h p (a.length-1):=by unfold ZS;rw[BC ⟨c1.1,c1.2,ha,hh,hp⟩]
   rw[hs];refine Qq ?_;refine Qa ?_;refine Qa ?_;refine Va 2 ?_;refine Qq ?_;refine Vb 0 (by simp[go_sem]) (by simp) ?_;refine Qq ?_;refine Vb 1 (by simp[go_sem]) (by simp) ?_;refine Qq ?_;have gI:=Zr a (a.length-1) oG;have rl:=H1q ha (BD _);have wl:=xo wa (a.length-1);have mk:VX (a.getD (a.length-1) default).lo (a.getD (a.length-1) default).hi=(a.getD (a.length-1) default,0):=(by unfold VX;rw[BC rl]);refine Q8 81 (Qk [0,1,2,3,4,5,6,7,8,9,10,11] (.alt (Qk [12,13,14,15] (.step 16 [5,11] (.step 17 [] (.step 18 [] (.done))))) (.step 16 [5,11] (Qk [12,13,14,15,17,18] .done)))) ?_;simp-dsimp only[go_sem,e1,gI];refine⟨⟨oG,oG⟩,⟨oG,oG⟩,?_⟩;have e2:IntKind.i64.wrap ((a.length:Int)-2)=(a.length:Int)-2-((0:Nat):Int):=(by rw[Q2 _ oG oG];omega);have w0:=wl;rw[show a.getD (a.length-1) default=(Z8 a h p 0).1 from rfl] at wl;have hw: ∀i,wI (Z8 a h p i).1:=fun i=>x0u wa i;have fin: ∀i,i<a.length-1->(Z8 a h p i).2=0->(Z8 a h p (i+1)).2≠0->Z8 a h p (a.length-1)=(default,(Z8 a h p (i+1)).2):=fun i hi h0 he=>by by_cases hl:i+1=a.length-1;rw[<-hl,jB h0];rw[jB h0] at he;exact X1l he;have:=jA he (a.length-1-(i+1+1));rw[show i+1+1+(a.length-1-(i+1+1))=a.length-1 by omega] at this;exact this
   refine And.intro ?_ ?_
   all_goals
    refine(xk _ _ _ w0.1 w0.2).q ?_;simp-dsimp only[go_sem,mk];refine Qb ?_;simp-dsimp only[go_sem,e2];refine Q1 [true,false,false,false,false,false,true,false,false,true,true,true,true] 4 0
     (fun c s'=> ∃i,c=a.length-1-i/\i<=a.length-1/\((Z8 a h p i).2≠0->Z8 a h p (a.length-1)=(default,(Z8 a h p i).2))/\
      s'=⟨[.sl .no (Qj a),.junk,.junk,.junk,.junk,.junk,.lp 2 0,.junk,.junk,.fn (.func 272) [] [.gp st.length 0,.gp (st.length+1) 0],.lp 3 0,.sc (.int .i64 (Z8 a h p i).2),.sc (.int .i64 ((a.length:Int)-2-(i:Nat)))]++jk 68,[[],[],Qm default,Qm (Z8 a h p i).1],[],st++ [Qm h,[.sc (.int .i64 p)]]⟩) (a.length-1) ?_ ?_
    simp-dsimp only[go_sem,BP,EG,CQ];exact⟨0,oG,oG,fun hh=>absurd rfl hh,rfl⟩;rintro c s' ⟨i,rfl,hi,he,rfl⟩;by_cases hlt:i<a.length-1;have d3:decide ((a.length:Int)-2-(i:Nat)>=0)=true:=q_h oG;by_cases hz:(Z8 a h p i).2=0;have e3:IntKind.i64.wrap ((a.length:Int)-2-(i:Nat)-1)=(a.length:Int)-2-((i+1:Nat):Int):=(by rw[Q2 _ oG oG];omega);have e4:(a.length:Int)-2-(i:Nat)=((a.length-2-i:Nat):Int):=oG;have gJ:=Zr a (a.length-2-i) oG;have fi:=fin i hlt hz;have hst:=jB (a:=a) (h:=h) (p:=p) hz;have wi:=hw i;have wj:=xo wa (a.length-2-i);rw[e4] at d3 e3;simp-dsimp only[go_sem,e4,d3,hz];refine Qp ?_;refine Q8 81 (Qk [0,1,2,3,4,5,6,7,8,9,10,11] .done) ?_;simp-dsimp only[go_sem,gJ];refine⟨⟨oG,oG⟩,?_⟩;refine(k0s (Z8 a h p i).1 (a.getD (a.length-2-i) default) h p st.length (st.length+1) _ wi wj wh (by rw[Kp];rfl) (by rw[J8];rfl) (by simp) (by simp)).q ?_;rw[<-hst];simp-dsimp only[go_sem,e3];refine⟨a.length-1-(i+1),oG,i+1,rfl,oG,fi,rfl⟩;have hn:=he hz;have ez:((Z8 a h p i).2==0)=false:=CL.2 hz;have ez2:((Z8 a h p i).2 !=0)=true:=BV.2 hz;simp-dsimp only[go_sem,d3,ez];refine Qb ?_;simp-dsimp only[go_sem,ez2];rw[hn];exact⟨⟨_,rfl⟩,Vg _ default _,rfl⟩;have d3:decide ((a.length:Int)-2-(i:Nat)>=0)=false:=q_g oG;have hie:i=a.length-1:=oG;simp-dsimp only[go_sem,d3];refine Qb ?_;by_cases hz:(Z8 a h p i).2=0;have ez2:((Z8 a h p i).2 !=0)=false:=(by rw[hz];rfl);simp-dsimp only[go_sem,ez2];rw[<-hie,hz];exact⟨⟨_,rfl⟩,Vg _ (Z8 a h p i).1 _,rfl⟩;have hn:=he hz;have ez2:((Z8 a h p i).2 !=0)=true:=BV.2 hz;simp-dsimp only[go_sem,ez2];rw[hn];exact⟨⟨_,rfl⟩,Vg _ default _,rfl⟩
 refine Qe (Qb ?_);have hb:=bad (fun x=>c1 ⟨x.1,x.2.1⟩);rw[hb];by_cases c2:1<=a.length;have d1:decide ((a.length:Int)<1)=false:=q_g oG;have d2:decide ((a.length:Int)>11)=true:=q_h oG;simp-dsimp only[go_sem,d1,d2];exact⟨⟨[],by simp⟩,Vg _ default _,rfl⟩;have d1:decide ((a.length:Int)<1)=true:=q_h oG;simp-dsimp only[go_sem,d1];exact⟨⟨[],by simp⟩,Vg _ default _,rfl⟩
def Yw (l:List (List Ivl))(h:Ivl)(p:Int):List Ivl×Int:=
 if 1<=l.length/\l.length<=4 then
  if (l.any fun a=>decide ((ZS a h p).2=1))=true then([],1) else Q7 (fun j=>ZS (l.getD j []) h p) 0 l.length []
 else([],1)
theorem Z2g {l:Lj}{h:Ivl}{p:Int} :(l.any fun a=>decide ((ZS a h p).2=1))=true<-> ∃j,j<l.length/\(ZS (l.getD j []) h p).2=1:=by rw[List.any_eq_true];constructor;rintro⟨x,hx,e⟩;obtain⟨i,hi,rfl⟩:=CM.1 hx;exact⟨i,hi,by rw[show l.getD i []=l[i] by simp[q_a,hi]];exact q_b e⟩;rintro⟨j,hj,e⟩;exact⟨_,QE _ _ _ hj,q_h e⟩
theorem z1a (l:Lj)(h:Ivl)(p:Int)(st:Qc)(wl:wXs l)(wh:wI h):
 PR 133 [.sl .no (Qt l),.agg (Qm h),.sc (.int .i64 p)] st (.tup [.sl .no (Qj (Yw l h p).1),.sc (.int .i64 (Yw l h p).2)]):=by
 refine Qh none Tryz.func133 rfl fun E=>Qb ?_;by_cases c1:1<=l.length/\l.length<=4;have d1:decide ((l.length:Int)<1)=false:=q_g oG;have d2:decide ((l.length:Int)>4)=false:=q_g oG;have hs:Yw l h p=if (l.any fun a=>decide ((ZS a h p).2=1))=true then([],1) else Q7 (fun j=>ZS (l.getD j []) h p) 0 l.length []:=(by unfold Yw;rw[BC c1]);rw[hs];generalize hA:(l.any fun a=>decide ((ZS a h p).2=1))=A;have hall:=Z2g (l:=l) (h:=h) (p:=p);rw[hA] at hall;simp-dsimp only[go_sem,d1,d2];refine ZE 8 6 ?_;refine Qq ?_;refine Q1 ([false,false,true,false,true,false,false,false,true,true]++rF 12++ [true,true,true]) 1 1
  (fun c s'=> ∃(i:Nat) (o:Li) (b:Int),c=l.length-i/\i<=l.length/\o.length=i/\(∀j,j<i->(ZS (l.getD j []) h p).2≠1)/\
   (b=0->Q7 (fun j=>ZS (l.getD j []) h p) i (l.length-i) o=Q7 (fun j=>ZS (l.getD j []) h p) 0 l.length [])/\
   (b≠0->Q7 (fun j=>ZS (l.getD j []) h p) 0 l.length []=([],b))/\
   s'=⟨[.junk,.junk,.sc (.int .i64 p),.junk,.lp 0 0,.junk,.junk,.junk,.sl (.own 0) (Qj o),.sc (.int .i64 b)]++jk 12++ [.sl .no (Qt l),.sc (.int .i64 (l.length:Nat)),.sc (.int .i64 (i:Nat))]++jk 27,[Qm h],[(i,6)],st⟩) l.length ?_ ?_
 refine Qq ?_;exact⟨0,[],0,oG,oG,rfl,fun j hj=>absurd hj oG,fun _=>rfl,fun hh=>absurd rfl hh,rfl⟩;rintro c s' ⟨i,o,b,rfl,hi,ho,h1,hb0,hb1,rfl⟩;have wl1:=wl.1;refine QS ?_ ?_<;>intro hk;have hlt:i<l.length:=(oT hk);have e3:=J2v i oG;have g2:=Kl l i hlt;obtain⟨lx1,lx2⟩:=wl.2 i hlt;simp-dsimp only[go_sem,g2];refine⟨oG,?_⟩;refine(k0r (l.getD i []) h p _ lx1 lx2 wh).q ?_;have hsn:=xC o (ZS (l.getD i []) h p).1;have hgo: ∀j,j<i+1->j≠i->(ZS (l.getD j []) h p).2≠1:=fun j hj hne=>h1 j oG;have hgo2:(ZS (l.getD i []) h p).2≠1-> ∀j,j<i+1->(ZS (l.getD j []) h p).2≠1:=fun hx j hj=>by by_cases e:j=i;rw[e];exact hx;exact hgo j hj e
 have hb0':b=0->(if (ZS (l.getD i []) h p).2≠0 then([],(ZS (l.getD i []) h p).2) else Q7 (fun j=>ZS (l.getD j []) h p) (i+1) (l.length-(i+1)) (o++ [(ZS (l.getD i []) h p).1]))=Q7 (fun j=>ZS (l.getD j []) h p) 0 l.length []:=
  fun e=>(VM (fun j=>ZS (l.getD j []) h p) hlt o).symm.trans (hb0 e)
 have hst:ZS (l.getD i []) h p=ZS (l.getD i []) h p:=rfl;generalize hS:ZS (l.getD i []) h p=S at hsn hgo2 hb0'⊢;by_cases s1:S.2=1;have q1:(S.2==1)=true:=(by rw[s1];rfl);rw[BC (hall.2 ⟨i,hlt,by rw[hS];exact s1⟩)];simp-dsimp only[go_sem,s1,q1];have q1:(S.2==1)=false:=CL.2 s1;have q2:(b==0)=decide (b=0):=(by by_cases e:b=0<;>simp[e]);by_cases eb:b=0;subst eb;simp-dsimp only[go_sem,q1,e3,hsn,ho];refine⟨oG,l.length-(i+1),oG,i+1,o++ [S.1],S.2,rfl,oG,by simp[ho],hgo2 s1,fun e=> ?_,fun e=> ?_,rfl⟩;have:=hb0' rfl;rwa [BA (by rw[e];decide)] at this;have:=hb0' rfl;rw[BC e] at this;exact this.symm;have q3:(b==0)=false:=CL.2 eb;simp-dsimp only[go_sem,q1,q3,e3,hsn,ho];exact⟨oG,l.length-(i+1),oG,i+1,o++ [S.1],b,rfl,oG,by simp[ho],hgo2 s1,fun e=>absurd e eb,hb1,rfl⟩;have hge:i=l.length:=(oF hk);subst hge;refine Qq ?_;refine KG (rF 8++ [true]) (Qb ?_);rw[BA (fun hx=>by obtain⟨j,hj,e⟩:=hall.1 hx;exact h1 j hj e)];by_cases eb:b=0;subst eb;refine Qq ?_;rw[<-hb0 rfl,DD];rfl;have q3:(b !=0)=true:=BV.2 eb;simp-dsimp only[go_sem,q3];rw[hb1 eb];rfl;have hs:Yw l h p=([],1):=(by unfold Yw;rw[BA c1]);rw[hs];by_cases c2:1<=l.length;have d1:decide ((l.length:Int)<1)=false:=q_g oG;have d2:decide ((l.length:Int)>4)=true:=q_h oG;simp-dsimp only[go_sem,d1,d2];have d1:decide ((l.length:Int)<1)=true:=q_h oG;simp-dsimp only[go_sem,d1]
def ptW (n:Nat):Nm:=(QI (QN false n 0)).1
theorem Sd : ∀n,n<12->0<n->Qg (ptW n)=true/\0<qN (ptW n)/\0<Qd (ptW n).w/\Qd (ptW n).w<4294967296:=by decide+kernel
def W7 (f:List (List Mn))(xs:List (List Ivl))(k:Nat)(p:Int)(i:Nat):Ivl×Int:=
 if (KC (f.getD i []) xs k p).2≠0 then(default,(KC (f.getD i []) xs k p).2) else V9 (KC (f.getD i []) xs k p).1 (ptW (k+1)) p
def GL (f:List (List Mn))(xs:List (List Ivl))(k:Nat)(p:Int):List Ivl×Int:=Q7 (W7 f xs k p) 0 f.length []
def XB (xs:List (List Ivl))(row:List Ivl):Nat->List (List Ivl)
 | 0=>xs
 | i+1=>(XB xs row i).set i (xs.getD i []++ [row.getD i default])
def Zl (f:List (List Mn))(x:List Ivl)(p:Int):Nat->List (List Ivl)×Int
 | 0=>(x.map fun a=> [a],0)
 | k+1=>if (Zl f x p k).2≠0 then([],(Zl f x p k).2) else
  if (GL f (Zl f x p k).1 k p).2≠0 then([],(GL f (Zl f x p k).1 k p).2) else(XB (Zl f x p k).1 (GL f (Zl f x p k).1 k p).1 f.length,0)
def Xr (f:List (List Mn))(x:List Ivl)(order p:Int):List (List Ivl)×Int:=
 if ZY f=true/\rightB x=true/\x.length=f.length/\0<=order/\order<=10/\Qv p=true then Zl f x p order.toNat else([],1)
theorem Bl (v:Vl):wN (QI v).1:=by unfold QI wN;split;decide;split;decide;rename_i h;have: ¬64<(QB v.m).length:=fun hh=>h (.inl hh);show(QB v.m).length<=_;omega
theorem H0r (lo hi:Vl):wI (XK lo hi).1:=by unfold XK;split;exact⟨Bl _,Bl _⟩;exact JA
theorem H0s (a:Ivl)(c:Nm)(p:Int):wI (V9 a c p).1:=by unfold V9;split;exact H0r _ _;exact JA
theorem V1m (f:Lk)(xs:Lj)(k:Nat)(p:Int)(i:Nat):wI (W7 f xs k p i).1:=by unfold W7;split;exact JA;exact H0s _ _ _
theorem jq (xs:Lj)(row:Li): ∀i,(XB xs row i).length=xs.length
 | 0=>rfl
 | i+1=>by rw[XB,BL,jq]
theorem G0 (xs:Lj)(row:Li)(j:Nat)(hj:j<xs.length): ∀i,(XB xs row i).getD j []=if j<i then xs.getD j []++ [row.getD j default] else xs.getD j []
 | 0=>by simp[XB]
 | i+1=>by rw[XB];by_cases e:i=j;subst e;rw[BC oG];simp[q_a,jq,hj];rw[show((XB xs row i).set i (xs.getD i []++ [row.getD i default])).getD j []=(XB xs row i).getD j [] by simp[q_a,DR e],G0 xs row j hj i];by_cases h:j<i;rw[BC h,BC oG];rw[BA h,BA oG]
theorem xt {f:Lk}{x:Li}{p:Int}(hl:x.length=f.length)(wx: ∀a∈x,wI a): ∀k,(Zl f x p k).2=0->(Zl f x p k).1.length=x.length/\ ∀i,i<x.length->((Zl f x p k).1.getD i []).length=k+1/\ ∀y∈(Zl f x p k).1.getD i [],wI y
 | 0,_=>by refine⟨by simp[Zl],fun i hi=> ?_⟩;have:(Zl f x p 0).1.getD i []= [x[i]]:=(by simp[Zl,q_a,hi]);rw[this];exact⟨rfl,fun y hy=>by rw[C0.1 hy];exact wx _ (EA hi)⟩
 | k+1,h=>by rw[Zl] at h⊢;by_cases h0:(Zl f x p k).2=0;obtain⟨a1,a2⟩:=xt hl wx k h0;rw[BA (by rw[h0];decide)] at h⊢;by_cases h1:(GL f (Zl f x p k).1 k p).2=0;rw[BA (by rw[h1];decide)] at h⊢;obtain⟨b1,b2,b3⟩:=WS h1;refine⟨by rw[jq,a1],fun i hi=> ?_⟩;show((XB _ _ _).getD i []).length=_/\ ∀y∈(XB _ _ _).getD i [],_;rw[G0 _ _ i oG,BC oG];obtain⟨c1,c2⟩:=a2 i hi;refine⟨by rw[BH,c1];rfl,fun y hy=> ?_⟩;rcases DN.1 hy with hy | hy;exact c2 y hy;rw[C0.1 hy];have:=b3 i oG;rw[show(GL f (Zl f x p k).1 k p).1=(Q7 (W7 f (Zl f x p k).1 k p) 0 f.length []).1 from rfl,this];exact V1m _ _ _ _ _;rw[BC h1] at h;exact absurd h h1;rw[BC h0] at h;exact absurd h h0
theorem w8 {f:Lk}{x:Li}{p:Int}{k:Nat}(h:(Zl f x p k).2≠0): ∀d,Zl f x p (k+1+d)=([],(Zl f x p k).2)
 | 0=>by rw[B1,Zl,BC h]
 | d+1=>by rw[<-DK,Zl,BC (by rw[w8 h d];exact h),w8 h d]
theorem z1b {f:Lk}{x:Li}{p:Int}(hl:x.length=f.length)(h4:x.length<=4)(wx: ∀a∈x,wI a){k:Nat}(hk:k<=10):wXs (Zl f x p k).1/\wM (Zl f x p k).1:=by
 by_cases h:(Zl f x p k).2=0;obtain⟨a1,a2⟩:=xt hl wx k h;refine⟨⟨oG,fun i hi=> ?_⟩,⟨oG,fun i hi=> ?_⟩⟩;obtain⟨b1,b2⟩:=a2 i oG;exact⟨oG,b2⟩;obtain⟨b1,b2⟩:=a2 i oG;exact⟨oG,fun j hj=>b2 _ (QE _ _ _ hj)⟩;have e:(Zl f x p k).1= []:=by
  cases k with
  | zero=>exact absurd rfl h
  | succ k=>
   rw[Zl] at h⊢;split;rfl;rename_i c;rw[BA c] at h;split;rfl;rename_i d;rw[BA d] at h;exact absurd rfl h
 rw[e];exact⟨⟨by simp,fun i hi=>by simp at hi⟩,⟨by simp,fun i hi=>by simp at hi⟩⟩
theorem K0p (f:Lk)(x:Li)(order p:Int)(wx:wB x):wXs (Xr f x order p).1/\wM (Xr f x order p).1:=by
 unfold Xr;split;rename_i c;obtain⟨c1,c2,c3,c4,c5,c6⟩:=c;have h4:x.length<=4:=by unfold rightB at c2;simp only[q_i,BN] at c2;omega
 refine z1b c3 h4 (fun a ha=> ?_) oG;obtain⟨i,hi,rfl⟩:=CM.1 ha;have:=wx.2 i hi;rwa [show x.getD i default=x[i] by simp[q_a,hi]] at this;exact⟨⟨by simp,fun i hi=>by simp at hi⟩,⟨by simp,fun i hi=>by simp at hi⟩⟩
theorem Sh (n:Nat)(hn:n<12):(mkX false [UInt64.ofNat n] 0).1=ptW n:=by
 unfold mkX ptW;have:Qd [UInt64.ofNat n]=n:=by
  have:(UInt64.ofNat n).toNat=n:=by simp;omega
  simp[Qd,nW,val,this]
 rw[this]
theorem k0v (f:Lk)(xs:Lj)(i k:Nat)(p:Int)(st:Qc)(hi:i<f.length)(hk:k<=10)(wf:wF f)(wx:wXs xs):
 PR 201 [.sc (.int .i64 i),.sc (.int .i64 k),.ep [.sl .no (QL f)] 0,.ep [.sl .no (Qt xs)] 0,.ep [.sc (.int .i64 p)] 0] st (.tup [.agg (Qm (W7 f xs k p i).1),.sc (.int .i64 (W7 f xs k p i).2)]):=by
 refine Qh none Tryz.func201 rfl fun E=>Qb ?_;have gF:=IN f i hi;have wk:=J2v k oG;refine Qq ?_;refine Q8 35 (Qk [0,1,2,3,4,5,6] (.alt (Qk [7,8,9,10] (.step 11 [0,3,4,6] (.step 12 [] (.step 13 [] (.done))))) (.step 11 [0,3,4,6] (Qk [7,8,9,10,12,13] .done)))) ?_;simp-dsimp only[go_sem,gF];refine⟨⟨oG,oG⟩,And.intro ?_ ?_⟩
 all_goals
  refine(Mh (f.getD i []) xs k p _ (wf.2 i hi) wx).q ?_;have hw:wI (KC (f.getD i []) xs k p).1:=by unfold KC;split;exact Q0n _;exact JA
  unfold W7;generalize KC (f.getD i []) xs k p=c at hw⊢;by_cases hc:c.2=0;have ec:(c.2 !=0)=false:=(by rw[hc];rfl);rw[BA (by rw[hc];decide)];simp-dsimp only[go_sem,ec];refine Q8 35 (Qk [0,1,2,5] (.step 3 [0,5] (.step 4 [0,5] (Qk [6,7,8,9,10] .done)))) ?_;simp-dsimp only[go_sem,wk];refine(kW (k+1) _ oG).q ?_;rw[Sh (k+1) oG];obtain⟨p1,p2,p3,p4⟩:=Sd (k+1) oG oG;refine Qq ?_;refine(Ki (ptW (k+1)) _ (Q9 p1)).Q ?_;refine(J0c c.1 (ptW (k+1)) p _ hw p1 p2 p3 p4).Q0;have ec:(c.2 !=0)=true:=BV.2 hc;rw[BC hc];simp-dsimp only[go_sem,ec];rfl
theorem Q1e {N B:Nat}(hB:0<B)(j:Int):2*j<=((2*(N/B)+(if N % B=0 then 0 else 1):Nat):Int)<->j*B<=(N:Int):=by
 have h3:j<=((N/B:Nat):Int)<->j*B<=(N:Int):=by rw[Int.natCast_ediv];exact Int.le_ediv_iff_mul_le oG
 rw[<-h3];generalize N/B=F;split<;>omega
theorem Q1d {N B:Nat}(hB:0<B)(j:Int):2*j<= -((2*(N/B)+(if N % B=0 then 0 else 1):Nat):Int)<->j*B<= -(N:Int):=by
 have h1:=D5 N B;have h2:=CG N hB;generalize N/B=F at*
 generalize N % B=r at*
 have hB':(0:Int)<B:=(by exact_mod_cast hB);have h1':(B:Int)*F+r=N:=(by exact_mod_cast h1);have h2':(r:Int)<B:=(by exact_mod_cast h2);clear h1 h2;have up: ∀i:Int,i<=j->i*B<=j*B:=fun i hi=>ER hi (LC hB');have dn: ∀i:Int,j<=i->j*B<=i*B:=fun i hi=>ER hi (LC hB');have e0: -(F:Int)*B= -((B:Int)*F):=(by rw[DU,Int.mul_comm]);have e1:(-(F:Int)-1)*B= -((B:Int)*F)-B:=(by rw[Int.sub_mul,e0,Int.one_mul]);have e2:(-(F:Int)+1)*B= -((B:Int)*F)+B:=(by rw[Int.add_mul,e0,Int.one_mul]);generalize (B:Int)*F=Z at*
 have u0:=up (-(F:Int));have u2:=up (-(F:Int)+1);have d0:=dn (-(F:Int));have d1:=dn (-(F:Int)-1);rw[e0] at u0 d0;rw[e1] at d1;rw[e2] at u2;generalize j*(B:Int)=W at*
 clear up dn e0 e1 e2;split;constructor;intro h;have:=d0 oG;omega;intro h;refine F8.1 fun hn=> ?_;have:=u2 oG;omega;constructor;intro h;have:=d1 oG;omega;intro h;refine F8.1 fun hn=> ?_;have:=u0 oG;omega
theorem z1n {p:Nat}{x:Rat}(h:Yg p x)(g:Int):(∃j:Int,x=qM j g)\/(qM (-((2^p:Nat):Int)) g<=x/\x<=qM ((2^p:Nat):Int) g):=by
 obtain⟨m,e,rfl,hm⟩:=h;by_cases he:g<=e;exact .inl ⟨_,U5 m e g he⟩;right;have hpos:(1:Int)<=2^(g-e).toNat:=by
  have:0<2^(g-e).toNat:=CT _
  exact_mod_cast this
 rw[U5 _ g e oG,U5 _ g e oG,qM_le,qM_le,DU];generalize 2^p=P at*
 have h1:(P:Int)<=P*2^(g-e).toNat:=by
  calc (P:Int)=P*1:=(Int.mul_one _).symm
   _<=_:=Int.mul_le_mul_of_nonneg_left hpos (Int.natCast_nonneg _)
 generalize (P:Int)*2^(g-e).toNat=Z at*
 omega
theorem W1c {A B p:Nat}(hA:A≠0):2^(p+1)*B<=A*2^Jl A B p:=by
 have h1:=kz hA;have h2:=F0 (KP B);have h0:1<=Qn A:=(by unfold Qn;rw[BA hA];omega);unfold Jl
 calc 2^(p+1)*B<=2^(p+1)*2^Qn B:=DP _ h2
  _=2^(p+1+Qn B):=by rw[<-B2]
  _<=2^((Qn A-1)+(p+2+Qn B-Qn A)):=BS (by decide) oG
  _=2^(Qn A-1)*2^(p+2+Qn B-Qn A):=B2 ..
  _<=A*2^(p+2+Qn B-Qn A):=BG _ h1
theorem y0t {a b:Vl}{p:Nat}(hb:b.neg=false)(hB:0<b.m){x:Rat}(hx:Yg p x):x<=qV (Jk a b p)<->x*qV b<=qV a:=by
 have hqb:qV b=qM (b.m:Int) b.e:=by unfold qV QK;rw[hb];rfl
 have hb0:0<qV b:=by rw[hqb,<-XD b.e,qM_lt];omega
 by_cases hA:a.m=0;have e1:qV (Jk a b p)=0:=(by unfold Jk;rw[BC hA];exact XD 0);rw[e1,KZ hA];constructor;intro h;have:=D3 h (Rat.le_of_lt hb0);rwa [Rat.zero_mul] at this;intro h;exact Rat.le_of_mul_le_mul_right (by rwa [Rat.zero_mul]) hb0;obtain⟨t,ht⟩: ∃t,Jl a.m b.m p=t:=⟨_,rfl⟩;have big:=W1c (B:=b.m) (p:=p) hA;rw[ht] at big;have hv:qV (Jk a b p)=qM (if a.neg=true then -((2*(a.m*2^t/b.m)+(if a.m*2^t % b.m=0 then 0 else 1):Nat):Int) else((2*(a.m*2^t/b.m)+(if a.m*2^t % b.m=0 then 0 else 1):Nat):Int)) (a.e-b.e-(t:Int)-1):=by unfold Jk W0;rw[BA hA,Vy,hb,ht,Bool.bne_false]
 have ha:qV a=qM (if a.neg=true then -((a.m*2^t:Nat):Int) else((a.m*2^t:Nat):Int)) (a.e-(t:Int)):=by
  have e1:(if a.neg=true then -((a.m*2^t:Nat):Int) else((a.m*2^t:Nat):Int))=QK a*2^t:=by unfold QK;cases a.neg<;>simp[DU]
  rw[e1,Jz];unfold qV;congr 1;omega
 rw[hqb] at hb0;rw[hv,ha,hqb];generalize a.m*2^t=N at*
 have hg: ∀j:Int,qM j (a.e-b.e-(t:Int))*qM (b.m:Int) b.e=qM (j*b.m) (a.e-(t:Int)):=fun j=>by rw[<-kp];congr 1;omega
 have hg2: ∀j:Int,qM j (a.e-b.e-(t:Int))=qM (2*j) (a.e-b.e-(t:Int)-1):=fun j=>by rw[Int.mul_comm,show(2:Int)=2^1 from rfl,Jz];congr 1;omega
 rcases z1n hx (a.e-b.e-(t:Int)) with ⟨j,rfl⟩ | ⟨l1,l2⟩;rw[hg,hg2,qM_le,qM_le];cases a.neg;exact Q1e hB j;exact Q1d hB j;have hF:2^(p+1)<=N/b.m:=(EN hB).2 big;have hP:=CT p;rw[B5] at hF big;generalize 2^p=P at*
 have big2:2*((P:Int)*b.m)<=N:=by
  have:P*2*b.m<=N:=big;have e:P*2*b.m=2*(P*b.m):=(by rw[BM P 2,BW]);rw[e] at this
  exact_mod_cast this
 have hPB:(0:Int)<(P:Int)*b.m:=by
  have:=Nat.mul_pos hP hB
  exact_mod_cast this
 cases hn:a.neg;rw[BA Bool.false_ne_true,BA Bool.false_ne_true];refine⟨fun _=> ?_,fun _=> ?_⟩;refine E5 (D3 l2 (Rat.le_of_lt hb0)) ?_;rw[hg,qM_le];omega;refine E5 l2 ?_;rw[hg2,qM_le];omega;rw[BC rfl,BC rfl];constructor;intro h;exfalso;have:=E5 l1 h;rw[hg2,qM_le] at this;omega;intro h;exfalso;have:=E5 (D3 l1 (Rat.le_of_lt hb0)) h;rw[hg,qM_le,DU] at this;omega
theorem z0b (a:Vl){b:Vl}(p:Nat)(hb:b.neg=false):qV (Jk (ZI a) b p)= -qV (Jk a b p):=by by_cases h0:a.m=0;have e:ZI a=a:=(by unfold ZI;rw[BC h0]);have e1:qV (Jk a b p)=0:=(by unfold Jk;rw[BC h0];exact XD 0);rw[e,e1];rfl;have e3:(ZI a).neg= !a.neg:=(by unfold ZI;rw[BA h0]);unfold Jk;rw[G3,G4,e3,BA h0,BA h0,Vy,Vy,<-Ya,hb];congr 1;cases a.neg<;>simp
theorem K0x {p:Nat}{x:Rat}(hx:Yg p x):Yg p (-x):=by obtain⟨m,e,rfl,h⟩:=hx;exact⟨-m,e,(Ya _ _).symm,by rw[Int.natAbs_neg];exact h⟩
theorem y0u {a b:Vl}{p:Nat}(hb:b.neg=false)(hB:0<b.m){x:Rat}(hx:Yg p x):qV (Jk a b p)<=x<->qV a<=x*qV b:=by have:=y0t (a:=ZI a) hb hB (K0x hx);rw[z0b a p hb,W3,Rat.neg_mul] at this;constructor;intro h;have:=this.1 (by grind);grind;intro h;have:=this.2 (by grind);grind
theorem z1l (v:Vl)(p:Nat):Yg p (qV (QR v p true)):=by rw[w0e];exact K0x (z1m _ _)
def Xf (l:List (List (List Ivl))):List PV:=l.map fun c=>(.sl .no (Qt c))
@[go_sem] theorem IP (l:List (List (List Ivl))):(Xf l).length=l.length:=by simp[Xf]
theorem Hy (l:List (List (List Ivl)))(n:Nat)(h:n<l.length):(Xf l).getD n .junk= .sl .no (Qt (l.getD n [])):=by simp[Xf,q_a,h]
theorem Dj {α:Type}(d:α)(l:List α){i:Nat}(h:i<l.length):l.take (i+1)=l.take i++ [l.getD i d]:=by rw[FV h];simp[q_a,h]
theorem j1m (l:List (List (List Ivl))): ∀i,i<(Xf l).length->((Xf l).getD i .junk).cells.length=1:=fun i hi=>by rw[IP] at hi;rw[Hy l i hi];rfl
theorem Dp {β:Type}{G:Nat->β×Int} : ∀(k i:Nat) (acc:List β),(Q7 G i k acc).2≠0->(Q7 G i k acc).1= []
 | 0,i,acc,h=>absurd rfl h
 | k+1,i,acc,h=>by simp only[Q7] at h⊢;split;rfl;rename_i c;rw[BA c] at h;exact Dp k _ _ h
def Ep (jac:List (List (List Mn)))(xs:List (List Ivl))(p:Int)(i l q:Nat):Ivl×Int:=KC ((jac.getD i []).getD l []) xs q p
def slB (jac:List (List (List Mn)))(xs:List (List Ivl))(p:Int)(n q:Nat):Bool:=(List.range n).all fun i=>(List.range n).all fun l=>decide ((Ep jac xs p i l q).2=0)
def jh (D:Nat->Nat->Ivl)(k t:Nat):Ivl:=D (t/(k+1)) (t % (k+1))
def jg (ms:List Mx)(j k t:Nat):Ivl:=atM (ms.getD (k-t % (k+1)) []) (t/(k+1)) j
def w0a (jac:List (List (List Mn)))(xs:List (List Ivl))(p:Int)(i:Nat)(l q:Nat):Ivl:=(Ep jac xs p i l q).1
def x1r (D:Nat->Nat->Ivl)(p:Int)(n:Nat)(ms:List Mx)(j k:Nat):Ivl×Int:=
 if (Zs (jh D k) (jg ms j k) p (n*(k+1))).2≠0 then(default,(Zs (jh D k) (jg ms j k) p (n*(k+1))).2) else V9 (Zs (jh D k) (jg ms j k) p (n*(k+1))).1 (ptW (k+1)) p
def vz (jac:List (List (List Mn)))(xs:List (List Ivl))(p:Int)(n:Nat)(ms:List Mx)(k:Nat):Mx×Int:=X7 (fun i j=>x1r (w0a jac xs p i) p n ms j k) n
def Ue (jac:List (List (List Mn)))(xs:List (List Ivl))(p:Int)(n:Nat):Nat->List Mx×Int
 | 0=>([idM n],0)
 | k+1=>if (Ue jac xs p n k).2≠0 then([],(Ue jac xs p n k).2) else if slB jac xs p n k=false then([],2) else
  if (vz jac xs p n (Ue jac xs p n k).1 k).2≠0 then([],(vz jac xs p n (Ue jac xs p n k).1 k).2) else((Ue jac xs p n k).1++ [(vz jac xs p n (Ue jac xs p n k).1 k).1],0)
def Gv (f:List (List Mn))(x:List Ivl)(order p:Int):List Mx×Int:=
 if (Xr f x order p).2≠0 then([],(Xr f x order p).2) else if (W8 f).2≠0 then([],(W8 f).2) else Ue (W8 f).1 (Xr f x order p).1 p f.length order.toNat
def okC (l:List Mx):Bool:=l.all fun m=>Za m&&decide (m.length=(l.getD 0 []).length)
def ZQ (l:List Mx)(h:Ivl)(p:Int):Nat->Mx×Int
 | 0=>(l.getD (l.length-1) [],0)
 | i+1=>if (ZQ l h p i).2≠0 then([],(ZQ l h p i).2) else
  if (K9 h (ZQ l h p i).1 p).2≠0 then([],(K9 h (ZQ l h p i).1 p).2) else opM 0 (K9 h (ZQ l h p i).1 p).1 (l.getD (l.length-2-i) []) p
def Ul (l:List Mx)(h:Ivl)(p:Int):Mx×Int:=
 if 1<=l.length/\l.length<=11/\Qr h=true/\Qv p=true/\okC l=true then ZQ l h p (l.length-1) else([],1)
theorem okC_iff {l:List Mx} :okC l=true<-> ∀i,i<l.length->Za (l.getD i [])=true/\(l.getD i []).length=(l.getD 0 []).length:=by unfold okC;simp only[q_d,q_i,BN];constructor;intro h i hi;exact h _ (by rw[show l.getD i []=l[i] by simp[q_a,hi]];exact EA hi);intro h m hm;obtain⟨i,hi,e⟩:=CM.1 hm;have:=h i hi;rw[show l.getD i []=m by simp[q_a,hi,e]] at this;exact this
theorem j9 {l:List Mx}{h:Ivl}{p:Int}{k:Nat}(he:(ZQ l h p k).2≠0): ∀d,ZQ l h p (k+1+d)=([],(ZQ l h p k).2)
 | 0=>by rw[B1,ZQ,BC he]
 | d+1=>by rw[<-DK,ZQ,BC (by rw[j9 he d];exact he),j9 he d]
def wCs (l:List Mx):Prop:=l.length<=100000000000/\ ∀i,i<l.length->wM (l.getD i [])
theorem x0s {l:List Mx}{h:Ivl}{p:Int}(hl:wCs l)(h1:1<=l.length): ∀i,wM (ZQ l h p i).1
 | 0=>hl.2 _ oG
 | i+1=>by rw[ZQ];split;exact HJ;split;exact HJ;exact Tx _ _ _ _
theorem G6 {l:List Mx}{h:Ivl}{p:Int}(hh: ¬(1<=l.length/\l.length<=11/\Qr h=true/\Qv p=true/\okC l=true)):Ul l h p=([],1):=by unfold Ul;rw[BA hh]
theorem Q0m {l:List Mx}{i:Nat}(hi:i<l.length)(h: ¬(Za (l.getD i [])=true/\(l.getD i []).length=(l.getD 0 []).length)):okC l=false:=CS.2 fun e=>h (okC_iff.1 e i hi)
theorem x0t {l:List Mx}{h:Ivl}{p:Int}{i:Nat}(hi:i<l.length-1)(h0:(ZQ l h p i).2=0)(he:(ZQ l h p (i+1)).2≠0)(hd:(ZQ l h p (i+1)).1= []):ZQ l h p (l.length-1)=([],(ZQ l h p (i+1)).2):=by by_cases e:i+1=l.length-1;rw[<-e];exact Prod.ext hd rfl;have:=j9 he (l.length-1-(i+2));rwa [show i+1+1+(l.length-1-(i+2))=l.length-1 by omega] at this
theorem J1s {k:Nat}{a b:Mx}{p:Int}(h:(opM k a b p).2≠0):(opM k a b p).1= []:=by unfold opM at h⊢;split;rename_i c;rw[BC c] at h;exact Dp _ _ _ h;rfl
theorem x0r (l:List Mx)(h:Ivl)(p:Int)(st:Qc)(wl:wCs l)(wh:wI h):
 PR 135 [.sl .no (Xf l),.agg (Qm h),.sc (.int .i64 p)] st (.tup [.sl .no (Qt (Ul l h p).1),.sc (.int .i64 (Ul l h p).2)]):=by
 refine Qh none Tryz.func135 rfl fun E=>Qb ?_;by_cases c1:1<=l.length;rotate_left;have d1:decide ((l.length:Int)<1)=true:=q_h oG;rw[G6 (fun hh=>c1 hh.1)];simp-dsimp only[go_sem,d1];have d1:decide ((l.length:Int)<1)=false:=q_g oG;by_cases c2:l.length<=11;rotate_left;have d2:decide ((l.length:Int)>11)=true:=q_h oG;rw[G6 (fun hh=>c2 hh.2.1)];simp-dsimp only[go_sem,d1,d2];have d2:decide ((l.length:Int)>11)=false:=q_g oG;simp-dsimp only[go_sem,d1,d2];refine(JF h _ wh).q ?_;cases hr:Qr h with
 | false=>
  rw[G6 (fun hh=>by rw[hr] at hh;exact absurd hh.2.2.1 (by decide))];exact QA
 | true=>
 refine Qq ?_;refine(Ks p _).q ?_;cases hp:Qv p with
 | false=>
  rw[G6 (fun hh=>by rw[hp] at hh;exact absurd hh.2.2.2.1 (by decide))];exact QA
 | true=>
 refine Qq ?_;refine Q1 ([true,false,true,false,true]++rF 34++ [true,true,true]) 1 0
  (fun c s'=> ∃i,c=l.length-i/\i<=l.length/\(∀j,j<i->Za (l.getD j [])=true/\(l.getD j []).length=(l.getD 0 []).length)/\
   s'=⟨[.sl .no (Xf l),.junk,.sc (.int .i64 p),.junk,.lp 0 0]++jk 34++ [.sl .no (Xf l),.sc (.int .i64 (l.length:Nat)),.sc (.int .i64 (i:Nat))]++jk 82,[Qm h],[],st⟩) l.length ?_ ?_
 refine Qq ?_;exact⟨0,oG,oG,fun j hj=>absurd hj oG,rfl⟩;rintro c s' ⟨i,rfl,hi,hok,rfl⟩;refine QS ?_ ?_<;>intro hk
 . have hlt:i<l.length:=oT hk
   have e3:=Zd i oG;have g2:=Hy l i hlt;have g0:=Hy l 0 oG;have w1:=wl.2 i hlt;simp-dsimp only[go_sem,g2];refine⟨oG,?_⟩;refine(xf (l.getD i []) _ w1).q ?_;cases hm:Za (l.getD i []) with
   | false=>
    rw[G6 (fun hh=>by rw[Q0m hlt (fun q=>by rw[hm] at q;exact absurd q.1 (by decide))] at hh;exact absurd hh.2.2.2.2 (by decide))];exact QA
   | true=>
   simp-dsimp only[go_sem,g0];refine⟨oG,?_⟩;by_cases hq:(l.getD i []).length=(l.getD 0 []).length;have q1:(((l.getD i []).length:Int) !=((l.getD 0 []).length:Int))=false:=(by rw[hq];simp);simp-dsimp only[go_sem,q1,e3];refine⟨l.length-(i+1),oG,i+1,rfl,oG,fun j hj=> ?_,rfl⟩;by_cases e:j=i;rw[e];exact⟨hm,hq⟩;exact hok j oG;have q1:(((l.getD i []).length:Int) !=((l.getD 0 []).length:Int))=true:=BV.2 fun e=>hq (by exact_mod_cast e);rw[G6 (fun hh=>by rw[Q0m hlt (fun q=>hq q.2)] at hh;exact absurd hh.2.2.2.2 (by decide))];simp-dsimp only[go_sem,q1]
 have hge:i=l.length:=oF hk
 subst hge;have hall:okC l=true:=okC_iff.2 hok;have hS:Ul l h p=ZQ l h p (l.length-1):=(by unfold Ul;rw[BC ⟨c1,c2,hr,hp,hall⟩]);rw[hS];have wi:=x0s (h:=h) (p:=p) wl c1;have wl1:=wl.1;have hfin:=fun i=>x0t (l:=l) (h:=h) (p:=p) (i:=i);have hM:=hok (l.length-1) oG;have hMl:=Jj hM.1;have hMr:=fun i (hi:i<(l.getD (l.length-1) []).length)=>Ku hM.1 hi;have gM:=Hy l (l.length-1) oG;have e1:IntKind.i64.wrap ((l.length:Int)-1)=((l.length-1:Nat):Int):=(by rw[Q2 _ oG oG];omega);have e2:IntKind.i64.wrap ((l.length:Int)-2)=(l.length:Int)-2:=(by rw[Q2 _ oG oG]);refine Qq ?_;refine Qb ?_;simp-dsimp only[go_sem,e1,gM];refine⟨oG,?_⟩;refine ZE 10 1 ?_;refine Qq ?_;have h0:ZQ l h p 0=(l.getD (l.length-1) [],0):=rfl;generalize hMM:l.getD (l.length-1) []=M at hM hMl hMr gM h0;refine Q1 ([true,false,true,false,true,false,false,false,false,false,true]++rF 52++ [true,true,true]) 1 1
  (fun c s'=> ∃i,c=M.length-i/\i<=M.length/\
   s'=⟨[.sl .no (Xf l),.junk,.sc (.int .i64 p),.junk,.lp 0 0,.junk,.junk,.junk,.junk,.junk,.sl (.own 0) (Qt (M.take i))]++jk 52++ [.sl .no (Qt M),.sc (.int .i64 (M.length:Nat)),.sc (.int .i64 (i:Nat))]++jk 58,[Qm h],[(i,1)],st⟩) M.length ?_ ?_
 refine Qq ?_;exact⟨0,oG,oG,rfl⟩;rintro c s' ⟨i,rfl,hi,rfl⟩;have hil:(M.take i).length=i:=(by rw[BX];omega);refine QS ?_ ?_<;>intro hk;have hlt:i<M.length:=(oT hk);have e3:=Zd i oG;have g2:=Kl M i hlt;have hrow:=hMr i hlt;have hsn:=Dj [] M hlt;simp-dsimp only[go_sem,g2];refine⟨oG,?_⟩;refine ZE 13 6 ?_;refine Qq ?_;refine Q1 ([true,false,true,false,true,false,false,false,false,false,true,false,false,true]++rF 49++ [true,true,true,false,false,false,true,true,true]) 1 2
  (fun c s'=> ∃j,c=M.length-j/\j<=M.length/\
   s'=⟨[.sl .no (Xf l),.junk,.sc (.int .i64 p),.junk,.lp 0 0,.junk,.junk,.junk,.junk,.junk,.sl (.own 0) (Qt (M.take i)),.junk,.junk,.sl (.own 1) (Qj ((M.getD i []).take j))]++jk 49++ [.sl .no (Qt M),.sc (.int .i64 (M.length:Nat)),.sc (.int .i64 (i:Nat)),.junk,.junk,.junk,.sl .no (Qj (M.getD i [])),.sc (.int .i64 (M.length:Nat)),.sc (.int .i64 (j:Nat))]++jk 52,[Qm h],[(i,1),(j,6)],st⟩) M.length ?_ ?_
 simp-dsimp only[go_sem,hrow.1];exact⟨0,oG,oG,rfl⟩;rintro c s' ⟨j,rfl,hj,rfl⟩;refine QS ?_ ?_<;>intro hk2;have hlt2:j<M.length:=(oT hk2);have e4:=Zd j oG;have gI:=Zr (M.getD i []) j oG;have hx:=Od hrow.2 (i:=j) oG;have hwx:=Kq hx;have hsn2:=Dj default (M.getD i []) (i:=j) oG;have hs2:=xC ((M.getD i []).take j) ((M.getD i []).getD j default);have hl2:((M.getD i []).take j).length=j:=(by rw[BX,hrow.1];omega);have mk:VX ((M.getD i []).getD j default).lo ((M.getD i []).getD j default).hi=((M.getD i []).getD j default,0):=(by unfold VX;rw[BC hx]);rw[<-hsn2] at hs2;simp-dsimp only[go_sem,gI];refine⟨oG,?_⟩;refine(xk _ _ _ hwx.1 hwx.2).q ?_;simp-dsimp only[go_sem,mk,hs2,hl2,e4];exact⟨oG,M.length-(j+1),oG,j+1,rfl,oG,rfl⟩;have hge:j=M.length:=(oF hk2);subst hge;have hf:(M.getD i []).take M.length=M.getD i []:=BF (by rw[hrow.1];exact BD _);have hs3:=j1j (M.take i) (M.getD i []);rw[<-hsn] at hs3;refine Qq ?_;refine Qb ?_;simp-dsimp only[go_sem,hf,hil];refine⟨oG,?_⟩;refine Qb ?_;simp-dsimp only[go_sem,e3];exact⟨M.length-(i+1),oG,i+1,rfl,oG,by rw[hsn]⟩;have hge:i=M.length:=(oF hk);subst hge;rw[B0];refine Qq ?_;refine KG (rF 10++ [true]) (Qb ?_);simp-dsimp only[go_sem,e2];rw[show M=(ZQ l h p 0).1 by rw[h0]];refine Q1 ([true,false,true,false,true,false,false,false,false,false,true]++rF 7++ [true]) 1 0
  (fun c s'=> ∃i,c=l.length-1-i/\i<=l.length-1/\(ZQ l h p i).2=0/\
   s'=⟨[.sl .no (Xf l),.junk,.sc (.int .i64 p),.junk,.lp 0 0,.junk,.junk,.junk,.junk,.junk,.sl .no (Qt (ZQ l h p i).1)]++jk 7++ [.sc (.int .i64 ((l.length:Int)-2-(i:Nat)))]++jk 105,[Qm h],[],st⟩) (l.length-1) ?_ ?_
 refine Qq ?_;exact⟨0,oG,oG,rfl,by simp⟩;rintro c s' ⟨i,rfl,hi,he,rfl⟩;by_cases hlt:i<l.length-1;have d3:decide ((l.length:Int)-2-(i:Nat)>=0)=true:=q_h oG;have e3:IntKind.i64.wrap ((l.length:Int)-2-(i:Nat)-1)=(l.length:Int)-2-((i+1:Nat):Int):=(by rw[Q2 _ oG oG];omega);have e4:(l.length:Int)-2-(i:Nat)=((l.length-2-i:Nat):Int):=oG;have gJ:=Hy l (l.length-2-i) oG;have wj:=wl.2 (l.length-2-i) oG;have fi:=hfin i hlt he;have hst:ZQ l h p (i+1)=if (K9 h (ZQ l h p i).1 p).2≠0 then([],(K9 h (ZQ l h p i).1 p).2) else opM 0 (K9 h (ZQ l h p i).1 p).1 (l.getD (l.length-2-i) []) p:=(by rw[ZQ,BA (by rw[he];decide)]);have b1:l.length-2-i<l.length:=oG;rw[e4] at d3 e3;have wv:=wi i;simp-dsimp only[go_sem,e4,d3];refine(Y1b h (ZQ l h p i).1 p _ wh wv).q ?_;have wz:=z0k h (ZQ l h p i).1 p;generalize hZ:ZQ l h p (i+1)=Z at hst fi;generalize K9 h (ZQ l h p i).1 p=z at hst wz⊢;by_cases hz:z.2=0;have b0:(z.2 !=0)=false:=(by simp[hz]);rw[BA (by rw[hz];decide)] at hst;simp-dsimp only[go_sem,b0,gJ];refine⟨⟨Int.natCast_nonneg _,by exact_mod_cast b1⟩,?_⟩;refine(Y1k z.1 (l.getD (l.length-2-i) []) p _ wz wj).q ?_;rw[<-hst];by_cases hu:Z.2=0;have c3:(Z.2 !=0)=false:=(by simp[hu]);simp-dsimp only[go_sem,c3,e3];exact⟨l.length-1-(i+1),oG,i+1,rfl,oG,by rw[hZ];exact hu,by rw[hZ]⟩;have c3:(Z.2 !=0)=true:=(by simp[hu]);simp-dsimp only[go_sem,c3];rw[fi hu (by rw[hst] at hu⊢;exact J1s hu)];rfl;have b0:(z.2 !=0)=true:=(by simp[hz]);rw[BC hz] at hst;simp-dsimp only[go_sem,b0];rw[fi (by rw[hst];exact hz) (by rw[hst]),hst];rfl;have d3:decide ((l.length:Int)-2-(i:Nat)>=0)=false:=q_g oG;have hie:i=l.length-1:=oG;simp-dsimp only[go_sem,d3];refine Qp ?_;rw[<-hie,he]
end Go.Pv
end
