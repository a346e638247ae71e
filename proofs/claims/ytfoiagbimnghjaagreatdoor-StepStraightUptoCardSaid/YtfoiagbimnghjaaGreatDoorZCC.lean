/- Walk. -/
import Derived.Test.YtfoiagbimnghjaaGreatDoorZBR
set_option linter.all false
section
namespace Go.Pv
def V8 (a b:List Ivl)(k:Nat)(p:Int):List Ivl×Int:=Qv (fun j=>XV a b j p) 0 (k+1) []
def Xi (s x:List Ivl)(k:Nat)(p:Int):Nat->List Ivl×Int
 | 0=>(s,0)
 | n+1=>if (Xi s x k p n).2≠0 then([],(Xi s x k p n).2) else V8 (Xi s x k p n).1 x k p
def KW (c:Nm)(k:Nat):List Ivl:=⟨c,c⟩::List.replicate k default
def Zr (m:Mn)(xs:List (List Ivl))(k:Nat)(p:Int):Nat->List Ivl×Int
 | 0=>(KW m.c k,0)
 | i+1=>if (Zr m xs k p i).2≠0 then([],(Zr m xs k p i).2) else Xi (Zr m xs k p i).1 (xs.getD i []) k p (m.ks.getD i 0).toNat
def ofS (q:List Mn)(xs:List (List Ivl))(k:Nat)(p:Int):Nat->Ivl×Int
 | 0=>(default,0)
 | i+1=>if (ofS q xs k p i).2≠0 then(default,(ofS q xs k p i).2) else
  if (Zr (q.getD i default) xs k p xs.length).2≠0 then(default,(Zr (q.getD i default) xs k p xs.length).2) else
  opI 0 (ofS q xs k p i).1 ((Zr (q.getD i default) xs k p xs.length).1.getD k default) p
def qq (k p:Int):Bool:=decide (0<=k)&&decide (k<=10)&&Qt p
def JW (q:List Mn)(xs:List (List Ivl))(k:Int)(p:Int):Ivl×Int:=
 if qq k p=true/\ZY q xs.length=true/\(xs.all fun x=>Zp x k.toNat)=true then ofS q xs k.toNat p q.length else(default,1)
def Zy (a:List Ivl)(h:Ivl)(p:Int):Nat->Ivl×Int
 | 0=>(a.getD (a.length-1) default,0)
 | i+1=>if (Zy a h p i).2≠0 then(default,(Zy a h p i).2) else
  if (opI 2 (Zy a h p i).1 h p).2≠0 then(default,(opI 2 (Zy a h p i).1 h p).2) else opI 0 (opI 2 (Zy a h p i).1 h p).1 (a.getD (a.length-2-i) default) p
def Z4 (a:List Ivl)(h:Ivl)(p:Int):Ivl×Int:=
 if 1<=a.length/\a.length<=11/\Zp a (a.length-1)=true/\Qp h=true/\Qt p=true then Zy a h p (a.length-1) else(default,1)
theorem Z0z {a:Li}{k:Nat}(h:Zp a k=true):k<a.length:=by unfold Zp at h;simp only[q_i,BN] at h;exact h.1
theorem Hm {a:Li}{k j:Nat}(h:Zp a k=true)(hj:j<=k):Qp (a.getD j default)=true:=by have hl:=Z0z h;unfold Zp at h;simp only[q_i,BN,q_d] at h;refine h.2 _ ?_;rw[show a.getD j default=a[j]' oG by simp[q_a,(by omega:j<a.length)]];exact List.mem_take_iff_getElem.2 ⟨j,oG,rfl⟩
theorem I3 {a:Li}{k:Nat}(hl:k<a.length)(h: ∀j,j<=k->Qp (a.getD j default)=true):Zp a k=true:=by unfold Zp;simp only[q_i,BN,q_d];refine⟨hl,fun x hx=> ?_⟩;obtain⟨j,hj,rfl⟩:=List.mem_take_iff_getElem.1 hx;have:=h j oG;rw[show a.getD j default=a[j]' oG by simp[q_a,(by omega:j<a.length)]] at this;exact this
theorem q0z (a b:Li)(k:Nat)(p:Int): ∀x∈(V8 a b k p).1,wI x:=by
 unfold V8;refine KS (fun x=>wI x) (k+1) 0 [] (fun j _ _=> ?_) (fun x hx=>by cases hx);show wI (XV a b j p).1;have key: ∀(l:List (Ivl×Ivl)) (sm:Bool) (s:Ivl),wI s->wI (V2 p l sm s).1:=by
  intro l
  induction l with
  | nil=>intro sm s hs;exact hs
  | cons x l ih=>
   intro sm s hs;rw[xw];split;split;split;exact ih _ _ (Jg (XT _ _ _ _));exact JD;exact ih _ _ (Jg (XT _ _ _ _));exact JD
 unfold XV;split;exact key _ _ _ JD;exact JD
theorem z0a (a b:Li)(k:Nat)(p:Int):(V8 a b k p).1.length<=k+1:=by have:=W5 (G:=fun j=>XV a b j p) (k+1) 0 [];simpa[V8] using this
theorem J1r {c:Nm}(hc:wN c)(k:Nat): ∀x∈KW c k,wI x:=fun x hx=>by unfold KW at hx;rcases D8.1 hx with rfl | hx;exact⟨hc,hc⟩;rw[(List.mem_replicate.1 hx).2];exact JD
theorem Ry {s x:Li}{k:Nat}{p:Int}(hs:s.length<=k+1/\ ∀y∈s,wI y): ∀n,(Xi s x k p n).1.length<=k+1/\ ∀y∈(Xi s x k p n).1,wI y
 | 0=>hs
 | n+1=>by rw[Xi];split;exact⟨CX _,fun y hy=>by cases hy⟩;exact⟨z0a _ _ _ _,q0z _ _ _ _⟩
theorem kF {m:Mn}{xs:Lj}{k:Nat}{p:Int}(hm:wN m.c): ∀i,(Zr m xs k p i).1.length<=k+1/\ ∀y∈(Zr m xs k p i).1,wI y
 | 0=>⟨by simp[Zr,KW],J1r hm k⟩
 | i+1=>by rw[Zr];split;exact⟨CX _,fun y hy=>by cases hy⟩;exact Ry (kF hm i) _
theorem kG {s x:Li}{k:Nat}{p:Int}{n:Nat}(h:(Xi s x k p n).2≠0): ∀d,(Xi s x k p (n+d)).2=(Xi s x k p n).2
 | 0=>rfl
 | d+1=>by rw[<-DK,Xi,BC (by rw[kG h d];exact h),kG h d]
theorem kE {m:Mn}{xs:Lj}{k:Nat}{p:Int}{i:Nat}(h:(Zr m xs k p i).2≠0): ∀d,(Zr m xs k p (i+d)).2=(Zr m xs k p i).2
 | 0=>rfl
 | d+1=>by rw[<-DK,Zr,BC (by rw[kE h d];exact h),kE h d]
theorem kL {q:Lm}{xs:Lj}{k:Nat}{p:Int}{i:Nat}(h:(ofS q xs k p i).2≠0): ∀d,ofS q xs k p (i+1+d)=(default,(ofS q xs k p i).2)
 | 0=>by rw[B1,ofS,BC h]
 | d+1=>by rw[<-DK,ofS,BC (by rw[kL h d];exact h),kL h d]
set_option maxRecDepth 100000
open Go.Proofs
theorem IH (l:Li)(x:Ivl):Qk l++ [PV.agg [.sc (.bool x.lo.neg),.sc (.int .i64 x.lo.exp),.sl .no (Qf x.lo.w),.sc (.bool x.hi.neg),.sc (.int .i64 x.hi.exp),.sl .no (Qf x.hi.w)]]=Qk (l++ [x]):=by simp[Qk,Qn,Qg]
theorem k0g (a b:Li)(k:Nat)(p:Int)(st:Qd)(hk:k<=10)(la:a.length<=1000000)(lb:b.length<=1000000)(wa: ∀x∈a,wI x)(wb: ∀x∈b,wI x):
 PR 345 [.sl .no (Qk a),.sl .no (Qk b),.sc (.int .i64 k),.sc (.int .i64 p)] st (.tup [.sl .no (Qk (V8 a b k p).1),.sc (.int .i64 (V8 a b k p).2)]):=by
 refine Ql none Tryz.func345 rfl fun E=>Qb ?_;have wk:=J2u k oG;simp-dsimp only[go_sem,wk];refine X7 10 6 ?_;refine Qr ?_;refine Q3 [true,true,false,true,false,false,false,false,false,false,true,false,false,false,false,true,true] 0 1
  (fun m s=> ∃(j:Nat) (o:Li),m=k+1-j/\j<=k+1/\o.length=j/\Qv (fun j=>XV a b j p) j (k+1-j) o=V8 a b k p/\
   s=⟨[.sl .no (Qk a),.sl .no (Qk b),.junk,.sc (.int .i64 p),.junk,.junk,.junk,.junk,.junk,.junk,.sl (.own 0) (Qk o),.junk,.junk,.junk,.junk,.sc (.int .i64 ((k+1:Nat):Int)),.sc (.int .i64 (j:Nat))]++jk 19,[],[(j,6)],st⟩) (k+1) ?_ ?_
 refine Qr ?_;exact⟨0,[],oG,oG,rfl,rfl,rfl⟩;rintro m s ⟨j,o,rfl,hj,ho,ht,rfl⟩;refine QM ?_ ?_<;>intro h;have hlt:j<k+1:=(oT h);have e3:=J2u j oG;rw[KR _ hlt] at ht;refine Qr ?_;refine(v1c a b j p _ oG la lb wa wb).q ?_;generalize XV a b j p=c at ht⊢;by_cases hc:c.2=0;have ec:(c.2 !=0)=false:=(by rw[hc];rfl);rw[BA (by rw[hc];decide)] at ht;have hsn:=IH o c.1;simp-dsimp only[go_sem,ec,e3,hsn,ho];exact⟨oG,k+1-(j+1),oG,j+1,o++ [c.1],rfl,oG,by simp[ho],ht,rfl⟩;have ec:(c.2 !=0)=true:=BV.2 hc;rw[BC hc] at ht;simp-dsimp only[go_sem,ec];rw[<-ht];rfl;have hge:j=k+1:=(oF h);subst hge;rw[Vg] at ht;refine Qr ?_;refine WF (rF 10++ [true]) (Qb ?_);refine Qr ?_;rw[<-ht]
theorem w0n (n:Nat):ZZ n (Qn default)=flat (Qk (List.replicate n default)):=by simp[ZZ,flat,Qk,PV.cells]
theorem J1t (c:Nm)(k:Nat):Qu (flat (Qk (List.replicate (k+1) default))) 0 (Qn ⟨c,c⟩)=flat (Qk (KW c k)):=by have:=q1f (List.replicate (k+1) default) 0 ⟨c,c⟩ (by simp) 0 (Qn ⟨c,c⟩) (by simp[Qn,Qg]) rfl;rw[DC,CU] at this;rw[this];rfl
set_option maxHeartbeats 16000000 in
theorem k0l (m:Mn)(xs:Lj)(k:Nat)(p:Int)(st:Qd)(hk:k<=10)(hm:wMn m)(hr:Kr m.ks=true)(hl:m.ks.length=xs.length)(lx:xs.length<=1000000)(wx: ∀i,i<xs.length->(xs.getD i []).length<=1000000/\ ∀y∈xs.getD i [],wI y):
 PR 308 [.agg (Ki m),.sl .no (Qw xs),.sc (.int .i64 k),.sc (.int .i64 p)] st (.tup [.sl .no (Qk (if (Zr m xs k p xs.length).2=0 then(Zr m xs k p xs.length).1 else [])),.sc (.int .i64 (Zr m xs k p xs.length).2)]):=by
 have fin: ∀i,i<=xs.length->(Zr m xs k p i).2≠0->(Zr m xs k p xs.length).2=(Zr m xs k p i).2:=fun i hi he=>by have:=kE he (xs.length-i);rw[show i+(xs.length-i)=xs.length by omega] at this;exact this
 generalize hR:Zr m xs k p xs.length=R at fin⊢;refine Ql none Tryz.func308 rfl fun E=>Qb ?_;have wk:=J2u k oG;simp-dsimp only[go_sem,wk];refine⟨⟨oG,oG,oG⟩,?_⟩;refine(KI m.c _ hm.1).Q ?_;have r1:Qu (ZZ (k+1) [.sc (.bool false),.sc (.int .i64 0),.sl .no [],.sc (.bool false),.sc (.int .i64 0),.sl .no []]) 0 [.sc (.bool m.c.neg),.sc (.int .i64 m.c.exp),.sl .no (Qf m.c.w),.sc (.bool m.c.neg),.sc (.int .i64 m.c.exp),.sl .no (Qf m.c.w)]=flat (Qk (KW m.c k)):=by have:=J1t m.c k;rw[<-w0n] at this;exact this
 refine⟨by simp[Ik];omega,?_⟩;refine kv 1 6 ?_ ?_;simp only[X0v];exact vK (vJ rfl) rfl;have r2:=w1b (KW m.c k) (k+1) (by simp[KW]);have r3:(flat (Qk (KW m.c k))).length=(k+1)*6:=(by rw[q1g];simp[KW]);simp-dsimp only[go_sem,kD,zg,r1,r2,r3];refine Qq ?_;have ok0:=fun i=>kF (m:=m) (xs:=xs) (k:=k) (p:=p) hm.1 i;refine Q3 ([false,true,true,true,false,false,false,false,false,false,true]++rF 13++ [true,true,true]) 0 0
  (fun c s'=> ∃i,c=xs.length-i/\i<=xs.length/\(Zr m xs k p i).2=0/\
   s'=⟨[.junk,.sl .no (Qw xs),.sc (.int .i64 (k:Nat)),.sc (.int .i64 p),.junk,.junk,.junk,.junk,.junk,.junk,.sl .no (Qk (Zr m xs k p i).1)]++jk 13++ [.sl .no (QU m.ks),.sc (.int .i64 (xs.length:Nat)),.sc (.int .i64 (i:Nat))]++jk 25,[],[],st⟩) xs.length ?_ ?_
 simp-dsimp only[go_sem,hl];exact⟨0,oG,oG,rfl,rfl⟩;rintro c s' ⟨i,rfl,hi,he,rfl⟩;refine QM ?_ ?_<;>intro h;have hlt:i<xs.length:=(oT h);have e3:=J2u i oG;have g1:=Wr m.ks i oG;have g2:=Kj xs i hlt;have hat:=za hr i oG;have hk8:m.ks.getD i 0=((m.ks.getD i 0).toNat:Int):=oG;have hk9:(m.ks.getD i 0).toNat<=8:=oG;have hstep:Zr m xs k p (i+1)=Xi (Zr m xs k p i).1 (xs.getD i []) k p (m.ks.getD i 0).toNat:=(by rw[Zr,BA (by rw[he];decide)]);have oks:=ok0 i;obtain⟨lx1,lx2⟩:=wx i hlt;have fin1:=fin (i+1) oG;rw[hstep] at fin1;rw[hk8] at g1;generalize (m.ks.getD i 0).toNat=n at*
 generalize (Zr m xs k p i).1=s0 at*
 simp-dsimp only[go_sem,g1];refine⟨oG,?_⟩;refine Q3 ([false,true,true,true,false,false,false,false,false,false,true,true]++rF 12++ [true,true,true,false,false,false,false,true,true]) 0 0
  (fun c s'=> ∃j,c=n-j/\j<=n/\(Xi s0 (xs.getD i []) k p j).2=0/\
   s'=⟨[.junk,.sl .no (Qw xs),.sc (.int .i64 (k:Nat)),.sc (.int .i64 p),.junk,.junk,.junk,.junk,.junk,.junk,.sl .no (Qk (Xi s0 (xs.getD i []) k p j).1),.sc (.int .i64 (i:Nat))]++jk 12++ [.sl .no (QU m.ks),.sc (.int .i64 (xs.length:Nat)),.sc (.int .i64 (i:Nat)),.junk,.junk,.junk,.junk,.sc (.int .i64 (n:Nat)),.sc (.int .i64 (j:Nat))]++jk 19,[],[],st⟩) n ?_ ?_
 refine Qr ?_;exact⟨0,oG,oG,rfl,rfl⟩;rintro c s' ⟨j,rfl,hj,hej,rfl⟩;refine QM ?_ ?_<;>intro h2;have hlt2:j<n:=(oT h2);have e4:=J2u j oG;have okn:=Ry (x:=xs.getD i []) (p:=p) oks j;have hstep2:Xi s0 (xs.getD i []) k p (j+1)=V8 (Xi s0 (xs.getD i []) k p j).1 (xs.getD i []) k p:=(by rw[Xi,BA (by rw[hej];decide)]);simp-dsimp only[go_sem,g2];refine⟨oG,?_⟩;refine(k0g (Xi s0 (xs.getD i []) k p j).1 (xs.getD i []) k p _ hk oG lx1 okn.2 lx2).q ?_;rw[<-hstep2];by_cases hz:(Xi s0 (xs.getD i []) k p (j+1)).2=0;have ez:((Xi s0 (xs.getD i []) k p (j+1)).2 !=0)=false:=(by rw[hz];rfl);simp-dsimp only[go_sem,ez,e4];exact⟨n-(j+1),oG,j+1,rfl,oG,hz,rfl⟩;have ez:((Xi s0 (xs.getD i []) k p (j+1)).2 !=0)=true:=BV.2 hz;have hst:=kG hz (n-(j+1));rw[show j+1+(n-(j+1))=n by omega] at hst;have hall:=fin1 (by rw[hst];exact hz);rw[hst] at hall;simp-dsimp only[go_sem,ez];rw[hall,BA hz];rfl;have hge:j=n:=(oF h2);subst hge;refine Qr ?_;refine Qb ?_;simp-dsimp only[go_sem,e3];refine⟨xs.length-(i+1),oG,i+1,rfl,oG,by rw[hstep];exact hej,by rw[hstep]⟩;have hge:i=xs.length:=(oF h);subst hge;refine Qr ?_;refine Qq ?_;rw[hR] at he⊢;rw[he,BC rfl]
def wXs (xs:List (List Ivl)):Prop:=xs.length<=1000000/\ ∀i,i<xs.length->(xs.getD i []).length<=1000000/\ ∀y∈xs.getD i [],wI y
theorem Td {q:Lm}{xs:Lj}{k:Nat}{p:Int} : ∀i,wI (ofS q xs k p i).1
 | 0=>JD
 | i+1=>by rw[ofS];split;exact JD;split;exact JD;exact Jg (XT _ _ _ _)
theorem xb {l:Li}(h: ∀y∈l,wI y)(k:Nat):wI (l.getD k default):=by by_cases hk:k<l.length;exact h _ (Q8 _ _ _ hk);rw[UY _ _ _ oG];exact JD
theorem all_hasUp {xs:Lj}{k:Nat} :(xs.all fun x=>Zp x k)=true<-> ∀i,i<xs.length->Zp (xs.getD i []) k=true:=by rw[q_d];constructor;intro h i hi;exact h _ (Q8 _ _ _ hi);intro h x hx;obtain⟨i,hi,rfl⟩:=CM.1 hx;have:=h i hi;rwa [show xs.getD i []=xs[i] by simp[q_a,hi]] at this
theorem z0j {s x:Li}{k n:Nat}{p:Int}(hs:s.length=k+1)(h:(Xi s x k p n).2=0):(Xi s x k p n).1.length=k+1:=by
 cases n with
 | zero=>exact hs
 | succ n=>
  rw[Xi] at h⊢;split at h;rename_i c;exact absurd h c;rename_i c;rw[BA c];have:=KA h;exact this.1
theorem Rw {m:Mn}{xs:Lj}{k:Nat}{p:Int} : ∀i,(Zr m xs k p i).2=0->(Zr m xs k p i).1.length=k+1
 | 0,_=>by simp[Zr,KW]
 | i+1,h=>by rw[Zr] at h⊢;split at h;rename_i c;exact absurd h c;rename_i c;rw[BA c];exact z0j (Rw i (C8.1 c)) h
set_option maxHeartbeats 16000000 in
theorem Dx (q:Lm)(xs:Lj)(k p:Int)(st:Qd)(wq:wP q)(wx:wXs xs):
 PR 256 [.sl .no (ZA q),.sl .no (Qw xs),.sc (.int .i64 k),.sc (.int .i64 p)] st (.tup [.agg (Qn (JW q xs k p).1),.sc (.int .i64 (JW q xs k p).2)]):=by
 have hdef:qq k p=true->ZY q xs.length=true->JW q xs k p=if (xs.all fun x=>Zp x k.toNat)=true then ofS q xs k.toNat p q.length else(default,1):=fun h1 h2=>by unfold JW;by_cases h3:(xs.all fun x=>Zp x k.toNat)=true;rw[BC ⟨h1,h2,h3⟩,BC h3];rw[BA (fun h=>h3 h.2.2),BA h3]
 refine Qj Tryz.func256 fun E=> ?_;refine(Dv k p st).q ?_;cases v:decide (0<=k)&&decide (k<=10)&&Qt p with
 | false=>
  refine Qr ?_;unfold JW;rw[BA (fun h=>by have h1:=h.1;unfold qq at h1;rw[v] at h1;cases h1)];rfl
 | true=>
  have v':=v;simp only[q_i,BN] at v';obtain⟨⟨k0,k10⟩,hp⟩:=v';obtain⟨n,rfl⟩:=EE k0;have hn:n<=10:=oG;rw[FV] at hdef;refine Qr ?_;refine(zo q xs.length _ wq).q ?_;cases hr:ZY q xs.length with
  | false=>
   refine Qr ?_;unfold JW;rw[BA (fun h=>by rw[hr] at h;exact absurd h.2.1 (by decide))];rfl
  | true=>
  rw[hdef v hr];generalize hU:(xs.all fun x=>Zp x n)=U;have hall:=all_hasUp (xs:=xs) (k:=n);rw[hU] at hall;have rr:=hr;refine Qr ?_;refine Vm 0 ?_;refine Qr ?_;refine Q3 ([true,true,true,true,false,false,false,false,true]++rF 20++ [true,true,true]) 1 0
   (fun c s'=> ∃i,c=xs.length-i/\i<=xs.length/\(∀j,j<i->Zp (xs.getD j []) n=true)/\
    s'=⟨[.sl .no (ZA q),.sl .no (Qw xs),.sc (.int .i64 (n:Nat)),.sc (.int .i64 p),.junk,.junk,.junk,.junk,.lp 0 0]++jk 20++ [.sl .no (Qw xs),.sc (.int .i64 (xs.length:Nat)),.sc (.int .i64 (i:Nat))]++jk 43,[Qn default],[],st⟩) xs.length ?_ ?_
  refine Qr ?_;exact⟨0,oG,oG,fun j hj=>absurd hj oG,rfl⟩;rintro c s' ⟨i,rfl,hi,hup,rfl⟩;have wx1:=wx.1;refine QM ?_ ?_<;>intro h;have hlt:i<xs.length:=(oT h);have e3:=J2u i oG;have g2:=Kj xs i hlt;obtain⟨lx1,lx2⟩:=wx.2 i hlt;simp-dsimp only[go_sem,g2];refine⟨oG,?_⟩;refine(qP (xs.getD i []) n _ hn lx1 lx2).q ?_;cases hu:(decide (n<(xs.getD i []).length)&&((xs.getD i []).take (n+1)).all Qp) with
  | false=>
   have hno:U≠true:=fun e=>by have:=hall.1 e i hlt;unfold Zp at this;rw[hu] at this;cases this
   refine Qr ?_;rw[BA hno];rfl
  | true=>
   simp-dsimp only[go_sem,e3];refine⟨xs.length-(i+1),oG,i+1,rfl,oG,fun j hj=> ?_,rfl⟩;by_cases e:j=i;rw[e];exact hu;exact hup j oG
  have hge:i=xs.length:=oF h
  subst hge;rw[BC (hall.2 hup)];clear hall hU;have fin: ∀i,i<q.length->(ofS q xs n p i).2≠0->ofS q xs n p q.length=(default,(ofS q xs n p i).2):=fun i hi he=>by have:=kL he (q.length-(i+1));rw[show i+1+(q.length-(i+1))=q.length by omega] at this;exact this
  have fin2: ∀i,i<q.length->(ofS q xs n p i).2=0->(ofS q xs n p (i+1)).2≠0->ofS q xs n p q.length=(default,(ofS q xs n p (i+1)).2):=fun i hi h0 he=>by
   by_cases hl:i+1<q.length;exact fin (i+1) hl he;have:i+1=q.length:=oG;rw[<-this];have hd:(ofS q xs n p (i+1)).1=default:=by rw[ofS,BA (by rw[h0];decide)] at he⊢;split;rfl;rename_i c;rw[BA c] at he;exact UH 0 _ _ _ he
   exact Prod.ext hd rfl
  generalize hR:ofS q xs n p q.length=R at fin fin2⊢;refine Qr ?_;refine Qq ?_;refine Vm 1 ?_;refine Qr ?_;have hS: ∀i,wI (ofS q xs n p i).1:=fun i=>Td i;refine Q3 ([false,true,true,true,false,false,false,false,true,false,false,false,true]++rF 28++ [true,true,true]) 2 0
   (fun c s'=> ∃i,c=q.length-i/\i<=q.length/\(ofS q xs n p i).2=0/\
    s'=⟨[.junk,.sl .no (Qw xs),.sc (.int .i64 (n:Nat)),.sc (.int .i64 p),.junk,.junk,.junk,.junk,.lp 0 0,.junk,.junk,.junk,.lp 1 0]++jk 28++ [.sl .no (ZA q),.sc (.int .i64 (q.length:Nat)),.sc (.int .i64 (i:Nat))]++jk 31,[Qn default,Qn (ofS q xs n p i).1],[],st⟩) q.length ?_ ?_
  refine Qr ?_;exact⟨0,oG,oG,rfl,rfl⟩;rintro c s' ⟨i,rfl,hi,he,rfl⟩;have wq1:=wq.1;refine QM ?_ ?_<;>intro h2;have hlt:i<q.length:=(oT h2);have e3:=J2u i oG;have g3:=Ga q i hlt;have hmono:=GT rr hlt;have hwm:=wq.2 i hlt;have hstep:ofS q xs n p (i+1)=if (Zr (q.getD i default) xs n p xs.length).2≠0 then(default,(Zr (q.getD i default) xs n p xs.length).2) else opI 0 (ofS q xs n p i).1 ((Zr (q.getD i default) xs n p xs.length).1.getD n default) p:=(by rw[ofS,BA (by rw[he];decide)]);have f2:=fin2 i hlt he;rw[hstep] at f2;have hov:=kF (m:=q.getD i default) (xs:=xs) (k:=n) (p:=p) hwm.1 xs.length;have hovl:=Rw (m:=q.getD i default) (xs:=xs) (k:=n) (p:=p) xs.length;have hSi:=hS i;simp-dsimp only[go_sem,g3];refine⟨oG,?_⟩;refine(k0l (q.getD i default) xs n p _ hn hwm hmono.2.1 (by have:=hmono.1;omega) wx.1 wx.2).q ?_;generalize hO:Zr (q.getD i default) xs n p xs.length=O at hov hovl f2 hstep⊢;by_cases hz:O.2=0;have ez:(O.2 !=0)=false:=(by rw[hz];rfl);have hln:=hovl hz;have gI:=Zt O.1 n oG;rw[BA (by rw[hz];decide)] at hstep f2;simp-dsimp only[go_sem,hz,ez,gI];refine Q5 75 (Qi [0,1,2,3,4,5,6,7,8,9,10,11] .done) ?_;simp-dsimp only[go_sem,gI];refine⟨⟨oG,oG⟩,?_⟩;refine(YU (ofS q xs n p i).1 (O.1.getD n default) p _ hSi (xb hov.2 n)).q ?_;rw[<-hstep] at f2⊢;have hS1:=hS (i+1);by_cases hz2:(ofS q xs n p (i+1)).2=0;have ez2:((ofS q xs n p (i+1)).2 !=0)=false:=(by rw[hz2];rfl);simp-dsimp only[go_sem,hz2,ez2,e3];exact⟨q.length-(i+1),oG,i+1,rfl,oG,hz2,rfl⟩;have ez2:((ofS q xs n p (i+1)).2 !=0)=true:=BV.2 hz2;simp-dsimp only[go_sem,ez2];rw[f2 hz2];rfl;have ez:(O.2 !=0)=true:=BV.2 hz;rw[BC hz] at f2;simp-dsimp only[go_sem,ez];rw[f2 hz];rfl;have hge:i=q.length:=(oF h2);subst hge;refine Qr ?_;refine Qq ?_;rw[hR] at he⊢;rw[he]
def Yt (v x h:Ivl)(p:Int):Ivl×Int:=if (opI 2 v h p).2≠0 then(default,(opI 2 v h p).2) else opI 0 (opI 2 v h p).1 x p
theorem k0j (v x h:Ivl)(p:Int)(k4 k5:Nat)(st:Qd)(wv:wI v)(wx:wI x)(wh:wI h)(h4:st.getD k4 []=Qn h)(h5:st.getD k5 []= [.sc (.int .i64 p)])(l4:k4<st.length)(l5:k5<st.length):
 PR 311 [.agg (Qn v),.agg (Qn x),.gp k4 0,.gp k5 0] st (.tup [.agg (Qn (Yt v x h p).1),.sc (.int .i64 (Yt v x h p).2)]):=by
 refine Ql none Tryz.func311 rfl fun E=>Qb ?_;have h4':=h4;simp only[Qn,Qg,EH,CQ] at h4';simp-dsimp only[go_sem,h4',h5];refine(UR v h p _ wv wh).q ?_;have wm:=Jg (XT 2 v h p);unfold Yt;by_cases hz:(opI 2 v h p).2=0;have ez:((opI 2 v h p).2 !=0)=false:=(by rw[hz];rfl);rw[BA (by rw[hz];decide)];simp-dsimp only[go_sem,hz,ez,h4',h5];refine(YU (opI 2 v h p).1 x p _ wm wx).Q0;have ez:((opI 2 v h p).2 !=0)=true:=BV.2 hz;rw[BC hz];simp-dsimp only[go_sem,ez];rfl
theorem jB {a:Li}{h:Ivl}{p:Int}{i:Nat}(e:(Zy a h p i).2≠0): ∀d,Zy a h p (i+1+d)=(default,(Zy a h p i).2)
 | 0=>by rw[B1,Zy,BC e]
 | d+1=>by rw[<-DK,Zy,BC (by rw[jB e d];exact e),jB e d]
theorem jC {a:Li}{h:Ivl}{p:Int}{i:Nat}(e:(Zy a h p i).2=0):Zy a h p (i+1)=Yt (Zy a h p i).1 (a.getD (a.length-2-i) default) h p:=by rw[Zy,BA (by rw[e];decide),Yt]
theorem Z1f {v x h:Ivl}{p:Int}(e:(Yt v x h p).2≠0):Yt v x h p=(default,(Yt v x h p).2):=by unfold Yt at e⊢;split;rfl;rename_i c;rw[BA c] at e;exact Prod.ext (UH 0 _ _ _ e) rfl
theorem Cx {a:Li}{h:Ivl}{p:Int}(wa: ∀x∈a,wI x)(i:Nat):wI (Zy a h p i).1:=by
 cases i with
 | zero=>exact xb wa _
 | succ i=>
  rw[Zy];split;exact JD;split;exact JD;exact Jg (XT _ _ _ _)
set_option maxHeartbeats 16000000 in
theorem k0i (a:Li)(h:Ivl)(p:Int)(st:Qd)(la:a.length<=1000000)(wa: ∀x∈a,wI x)(wh:wI h):
 PR 258 [.sl .no (Qk a),.agg (Qn h),.sc (.int .i64 p)] st (.tup [.agg (Qn (Z4 a h p).1),.sc (.int .i64 (Z4 a h p).2)]):=by
 refine zt (Q:=fun r _=>r= .tup [.agg (Qn (Z4 a h p).1),.sc (.int .i64 (Z4 a h p).2)]) ?_;refine Ql none Tryz.func258 rfl fun E=>Qe (Qb ?_);have bad: ¬(1<=a.length/\a.length<=11/\Zp a (a.length-1)=true/\Qp h=true/\Qt p=true)->Z4 a h p=(default,1):=fun hn=>(by unfold Z4;rw[BA hn]);refine Qr ?_;refine Qa ?_;by_cases c1:1<=a.length/\a.length<=11
 . have d1:decide ((a.length:Int)<1)=false:=q_g oG;have d2:decide ((a.length:Int)>11)=false:=q_g oG;have e1:IntKind.i64.wrap ((a.length:Int)-1)=((a.length-1:Nat):Int):=(by rw[Q4 _ oG oG];omega);refine Qe (Qb ?_);simp-dsimp only[go_sem,d1,d2,e1];refine(qP a (a.length-1) st oG la wa).q ?_;rw[show(decide (a.length-1<a.length)&&(a.take (a.length-1+1)).all Qp)=Zp a (a.length-1) from rfl];cases ha:Zp a (a.length-1) with
   | false=>
    rw[bad (fun x=>by rw[ha] at x;exact absurd x.2.2.1 (by decide))];refine Qr ?_;exact⟨⟨[],by simp⟩,Vx _ default _,rfl⟩
   | true=>
   refine Qr ?_;refine(JL h st wh).q ?_;cases hh:Qp h with
   | false=>
    rw[bad (fun x=>by rw[hh] at x;exact absurd x.2.2.2.1 (by decide))];refine Qr ?_;exact⟨⟨[],by simp⟩,Vx _ default _,rfl⟩
   | true=>
   refine Qr ?_;refine(JY p st).q ?_;cases hp:Qt p with
   | false=>
    rw[bad (fun x=>by rw[hp] at x;exact absurd x.2.2.2.2 (by decide))];refine Qr ?_;exact⟨⟨[],by simp⟩,Vx _ default _,rfl⟩
   | true=>
   have hs:Z4 a h p=Zy a h p (a.length-1):=by unfold Z4;rw[BC ⟨c1.1,c1.2,ha,hh,hp⟩]
   rw[hs];refine Qr ?_;refine Qa ?_;refine Qa ?_;refine Vm 2 ?_;refine Qr ?_;refine KF 0 (by simp[go_sem]) (by simp) ?_;refine Qr ?_;refine KF 1 (by simp[go_sem]) (by simp) ?_;refine Qr ?_;have gI:=Zt a (a.length-1) oG;have rl:=Hm ha (BD _);have wl:=xb wa (a.length-1);have mk:Wk (a.getD (a.length-1) default).lo (a.getD (a.length-1) default).hi=(a.getD (a.length-1) default,0):=(by unfold Wk;rw[BC rl]);refine Q5 81 (Qi [0,1,2,3,4,5,6,7,8,9,10,11] (.alt (Qi [12,13,14,15] (.step 16 [5,11] (.step 17 [] (.step 18 [] (.done))))) (.step 16 [5,11] (Qi [12,13,14,15,17,18] .done)))) ?_;simp-dsimp only[go_sem,e1,gI];refine⟨⟨oG,oG⟩,⟨oG,oG⟩,?_⟩;have e2:IntKind.i64.wrap ((a.length:Int)-2)=(a.length:Int)-2-((0:Nat):Int):=(by rw[Q4 _ oG oG];omega);have w0:=wl;rw[show a.getD (a.length-1) default=(Zy a h p 0).1 from rfl] at wl;have hw: ∀i,wI (Zy a h p i).1:=fun i=>Cx wa i;have fin: ∀i,i<a.length-1->(Zy a h p i).2=0->(Zy a h p (i+1)).2≠0->Zy a h p (a.length-1)=(default,(Zy a h p (i+1)).2):=fun i hi h0 he=>by by_cases hl:i+1=a.length-1;rw[<-hl,jC h0];rw[jC h0] at he;exact Z1f he;have:=jB he (a.length-1-(i+1+1));rw[show i+1+1+(a.length-1-(i+1+1))=a.length-1 by omega] at this;exact this
   refine And.intro ?_ ?_
   all_goals
    refine(zX _ _ _ w0.1 w0.2).q ?_;simp-dsimp only[go_sem,mk];refine Qb ?_;simp-dsimp only[go_sem,e2];refine Q3 [true,false,false,false,false,false,true,false,false,true,true,true,true] 4 0
     (fun c s'=> ∃i,c=a.length-1-i/\i<=a.length-1/\((Zy a h p i).2≠0->Zy a h p (a.length-1)=(default,(Zy a h p i).2))/\
      s'=⟨[.sl .no (Qk a),.junk,.junk,.junk,.junk,.junk,.lp 2 0,.junk,.junk,.fn (.func 311) [] [.gp st.length 0,.gp (st.length+1) 0],.lp 3 0,.sc (.int .i64 (Zy a h p i).2),.sc (.int .i64 ((a.length:Int)-2-(i:Nat)))]++jk 68,[[],[],Qn default,Qn (Zy a h p i).1],[],st++ [Qn h,[.sc (.int .i64 p)]]⟩) (a.length-1) ?_ ?_
    simp-dsimp only[go_sem,BP,EH,CQ];exact⟨0,oG,oG,fun hh=>absurd rfl hh,rfl⟩;rintro c s' ⟨i,rfl,hi,he,rfl⟩;by_cases hlt:i<a.length-1;have d3:decide ((a.length:Int)-2-(i:Nat)>=0)=true:=q_h oG;by_cases hz:(Zy a h p i).2=0;have e3:IntKind.i64.wrap ((a.length:Int)-2-(i:Nat)-1)=(a.length:Int)-2-((i+1:Nat):Int):=(by rw[Q4 _ oG oG];omega);have e4:(a.length:Int)-2-(i:Nat)=((a.length-2-i:Nat):Int):=oG;have gJ:=Zt a (a.length-2-i) oG;have fi:=fin i hlt hz;have hst:=jC (a:=a) (h:=h) (p:=p) hz;have wi:=hw i;have wj:=xb wa (a.length-2-i);rw[e4] at d3 e3;simp-dsimp only[go_sem,e4,d3,hz];refine Qq ?_;refine Q5 81 (Qi [0,1,2,3,4,5,6,7,8,9,10,11] .done) ?_;simp-dsimp only[go_sem,gJ];refine⟨⟨oG,oG⟩,?_⟩;refine(k0j (Zy a h p i).1 (a.getD (a.length-2-i) default) h p st.length (st.length+1) _ wi wj wh (by rw[K8];rfl) (by rw[JA];rfl) (by simp) (by simp)).q ?_;rw[<-hst];simp-dsimp only[go_sem,e3];refine⟨a.length-1-(i+1),oG,i+1,rfl,oG,fi,rfl⟩;have hn:=he hz;have ez:((Zy a h p i).2==0)=false:=CL.2 hz;have ez2:((Zy a h p i).2 !=0)=true:=BV.2 hz;simp-dsimp only[go_sem,d3,ez];refine Qb ?_;simp-dsimp only[go_sem,ez2];rw[hn];exact⟨⟨_,rfl⟩,Vx _ default _,rfl⟩;have d3:decide ((a.length:Int)-2-(i:Nat)>=0)=false:=q_g oG;have hie:i=a.length-1:=oG;simp-dsimp only[go_sem,d3];refine Qb ?_;by_cases hz:(Zy a h p i).2=0;have ez2:((Zy a h p i).2 !=0)=false:=(by rw[hz];rfl);simp-dsimp only[go_sem,ez2];rw[<-hie,hz];exact⟨⟨_,rfl⟩,Vx _ (Zy a h p i).1 _,rfl⟩;have hn:=he hz;have ez2:((Zy a h p i).2 !=0)=true:=BV.2 hz;simp-dsimp only[go_sem,ez2];rw[hn];exact⟨⟨_,rfl⟩,Vx _ default _,rfl⟩
 refine Qe (Qb ?_);have hb:=bad (fun x=>c1 ⟨x.1,x.2.1⟩);rw[hb];by_cases c2:1<=a.length;have d1:decide ((a.length:Int)<1)=false:=q_g oG;have d2:decide ((a.length:Int)>11)=true:=q_h oG;simp-dsimp only[go_sem,d1,d2];exact⟨⟨[],by simp⟩,Vx _ default _,rfl⟩;have d1:decide ((a.length:Int)<1)=true:=q_h oG;simp-dsimp only[go_sem,d1];exact⟨⟨[],by simp⟩,Vx _ default _,rfl⟩
def W6 (l:List (List Ivl))(h:Ivl)(p:Int):List Ivl×Int:=
 if 1<=l.length/\l.length<=4 then
  if (l.any fun a=>decide ((Z4 a h p).2=1))=true then([],1) else Qv (fun j=>Z4 (l.getD j []) h p) 0 l.length []
 else([],1)
theorem Z2f {l:Lj}{h:Ivl}{p:Int} :(l.any fun a=>decide ((Z4 a h p).2=1))=true<-> ∃j,j<l.length/\(Z4 (l.getD j []) h p).2=1:=by rw[List.any_eq_true];constructor;rintro⟨x,hx,e⟩;obtain⟨i,hi,rfl⟩:=CM.1 hx;exact⟨i,hi,by rw[show l.getD i []=l[i] by simp[q_a,hi]];exact q_b e⟩;rintro⟨j,hj,e⟩;exact⟨_,Q8 _ _ _ hj,q_h e⟩
set_option maxHeartbeats 16000000 in
theorem q1a (l:Lj)(h:Ivl)(p:Int)(st:Qd)(wl:wXs l)(wh:wI h):
 PR 196 [.sl .no (Qw l),.agg (Qn h),.sc (.int .i64 p)] st (.tup [.sl .no (Qk (W6 l h p).1),.sc (.int .i64 (W6 l h p).2)]):=by
 refine Ql none Tryz.func196 rfl fun E=>Qb ?_;by_cases c1:1<=l.length/\l.length<=4;have d1:decide ((l.length:Int)<1)=false:=q_g oG;have d2:decide ((l.length:Int)>4)=false:=q_g oG;have hs:W6 l h p=if (l.any fun a=>decide ((Z4 a h p).2=1))=true then([],1) else Qv (fun j=>Z4 (l.getD j []) h p) 0 l.length []:=(by unfold W6;rw[BC c1]);rw[hs];generalize hA:(l.any fun a=>decide ((Z4 a h p).2=1))=A;have hall:=Z2f (l:=l) (h:=h) (p:=p);rw[hA] at hall;simp-dsimp only[go_sem,d1,d2];refine X7 8 6 ?_;refine Qr ?_;refine Q3 ([false,false,true,false,true,false,false,false,true,true]++rF 12++ [true,true,true]) 1 1
  (fun c s'=> ∃(i:Nat) (o:Li) (b:Int),c=l.length-i/\i<=l.length/\o.length=i/\(∀j,j<i->(Z4 (l.getD j []) h p).2≠1)/\
   (b=0->Qv (fun j=>Z4 (l.getD j []) h p) i (l.length-i) o=Qv (fun j=>Z4 (l.getD j []) h p) 0 l.length [])/\
   (b≠0->Qv (fun j=>Z4 (l.getD j []) h p) 0 l.length []=([],b))/\
   s'=⟨[.junk,.junk,.sc (.int .i64 p),.junk,.lp 0 0,.junk,.junk,.junk,.sl (.own 0) (Qk o),.sc (.int .i64 b)]++jk 12++ [.sl .no (Qw l),.sc (.int .i64 (l.length:Nat)),.sc (.int .i64 (i:Nat))]++jk 27,[Qn h],[(i,6)],st⟩) l.length ?_ ?_
 refine Qr ?_;exact⟨0,[],0,oG,oG,rfl,fun j hj=>absurd hj oG,fun _=>rfl,fun hh=>absurd rfl hh,rfl⟩;rintro c s' ⟨i,o,b,rfl,hi,ho,h1,hb0,hb1,rfl⟩;have wl1:=wl.1;refine QM ?_ ?_<;>intro hk;have hlt:i<l.length:=(oT hk);have e3:=J2u i oG;have g2:=Kj l i hlt;obtain⟨lx1,lx2⟩:=wl.2 i hlt;simp-dsimp only[go_sem,g2];refine⟨oG,?_⟩;refine(k0i (l.getD i []) h p _ lx1 lx2 wh).q ?_;have hsn:=IH o (Z4 (l.getD i []) h p).1;have hgo: ∀j,j<i+1->j≠i->(Z4 (l.getD j []) h p).2≠1:=fun j hj hne=>h1 j oG;have hgo2:(Z4 (l.getD i []) h p).2≠1-> ∀j,j<i+1->(Z4 (l.getD j []) h p).2≠1:=fun hx j hj=>by by_cases e:j=i;rw[e];exact hx;exact hgo j hj e
 have hb0':b=0->(if (Z4 (l.getD i []) h p).2≠0 then([],(Z4 (l.getD i []) h p).2) else Qv (fun j=>Z4 (l.getD j []) h p) (i+1) (l.length-(i+1)) (o++ [(Z4 (l.getD i []) h p).1]))=Qv (fun j=>Z4 (l.getD j []) h p) 0 l.length []:=
  fun e=>(KR (fun j=>Z4 (l.getD j []) h p) hlt o).symm.trans (hb0 e)
 have hst:Z4 (l.getD i []) h p=Z4 (l.getD i []) h p:=rfl;generalize hS:Z4 (l.getD i []) h p=S at hsn hgo2 hb0'⊢;by_cases s1:S.2=1;have q1:(S.2==1)=true:=(by rw[s1];rfl);rw[BC (hall.2 ⟨i,hlt,by rw[hS];exact s1⟩)];simp-dsimp only[go_sem,s1,q1];have q1:(S.2==1)=false:=CL.2 s1;have q2:(b==0)=decide (b=0):=(by by_cases e:b=0<;>simp[e]);by_cases eb:b=0;subst eb;simp-dsimp only[go_sem,q1,e3,hsn,ho];refine⟨oG,l.length-(i+1),oG,i+1,o++ [S.1],S.2,rfl,oG,by simp[ho],hgo2 s1,fun e=> ?_,fun e=> ?_,rfl⟩;have:=hb0' rfl;rwa [BA (by rw[e];decide)] at this;have:=hb0' rfl;rw[BC e] at this;exact this.symm;have q3:(b==0)=false:=CL.2 eb;simp-dsimp only[go_sem,q1,q3,e3,hsn,ho];exact⟨oG,l.length-(i+1),oG,i+1,o++ [S.1],b,rfl,oG,by simp[ho],hgo2 s1,fun e=>absurd e eb,hb1,rfl⟩;have hge:i=l.length:=(oF hk);subst hge;refine Qr ?_;refine WF (rF 8++ [true]) (Qb ?_);rw[BA (fun hx=>by obtain⟨j,hj,e⟩:=hall.1 hx;exact h1 j hj e)];by_cases eb:b=0;subst eb;refine Qr ?_;rw[<-hb0 rfl,DD];rfl;have q3:(b !=0)=true:=BV.2 eb;simp-dsimp only[go_sem,q3];rw[hb1 eb];rfl;have hs:W6 l h p=([],1):=(by unfold W6;rw[BA c1]);rw[hs];by_cases c2:1<=l.length;have d1:decide ((l.length:Int)<1)=false:=q_g oG;have d2:decide ((l.length:Int)>4)=true:=q_h oG;simp-dsimp only[go_sem,d1,d2];have d1:decide ((l.length:Int)<1)=true:=q_h oG;simp-dsimp only[go_sem,d1]
def ptW (n:Nat):Nm:=(Zi (Zf false n 0)).1
theorem zn : ∀n,n<12->0<n->Qh (ptW n)=true/\0<qN (ptW n)/\0<Qc (ptW n).w/\Qc (ptW n).w<4294967296:=by decide+kernel
def VK (f:List (List Mn))(xs:List (List Ivl))(k:Nat)(p:Int)(i:Nat):Ivl×Int:=
 if (JW (f.getD i []) xs k p).2≠0 then(default,(JW (f.getD i []) xs k p).2) else Xz (JW (f.getD i []) xs k p).1 (ptW (k+1)) p
def Yj (f:List (List Mn))(xs:List (List Ivl))(k:Nat)(p:Int):List Ivl×Int:=Qv (VK f xs k p) 0 f.length []
def XA (xs:List (List Ivl))(row:List Ivl):Nat->List (List Ivl)
 | 0=>xs
 | i+1=>(XA xs row i).set i (xs.getD i []++ [row.getD i default])
def QR (f:List (List Mn))(x:List Ivl)(p:Int):Nat->List (List Ivl)×Int
 | 0=>(x.map fun a=> [a],0)
 | k+1=>if (QR f x p k).2≠0 then([],(QR f x p k).2) else
  if (Yj f (QR f x p k).1 k p).2≠0 then([],(Yj f (QR f x p k).1 k p).2) else(XA (QR f x p k).1 (Yj f (QR f x p k).1 k p).1 f.length,0)
def Zx (f:List (List Mn))(x:List Ivl)(order p:Int):List (List Ivl)×Int:=
 if Xh f=true/\rightB x=true/\x.length=f.length/\0<=order/\order<=10/\Qt p=true then QR f x p order.toNat else([],1)
theorem yS (v:Vl):wN (Zi v).1:=by unfold Zi wN;split;decide;split;decide;rename_i h;have: ¬64<(Qz v.m).length:=fun hh=>h (.inl hh);show(Qz v.m).length<=_;omega
theorem G0x (lo hi:Vl):wI (XN lo hi).1:=by unfold XN;split;exact⟨yS _,yS _⟩;exact JD
theorem G0y (a:Ivl)(c:Nm)(p:Int):wI (Xz a c p).1:=by unfold Xz;split;exact G0x _ _;exact JD
theorem K1o (f:Lk)(xs:Lj)(k:Nat)(p:Int)(i:Nat):wI (VK f xs k p i).1:=by unfold VK;split;exact JD;exact G0y _ _ _
theorem jr (xs:Lj)(row:Li): ∀i,(XA xs row i).length=xs.length
 | 0=>rfl
 | i+1=>by rw[XA,BL,jr]
theorem Ut (xs:Lj)(row:Li)(j:Nat)(hj:j<xs.length): ∀i,(XA xs row i).getD j []=if j<i then xs.getD j []++ [row.getD j default] else xs.getD j []
 | 0=>by simp[XA]
 | i+1=>by rw[XA];by_cases e:i=j;subst e;rw[BC oG];simp[q_a,jr,hj];rw[show((XA xs row i).set i (xs.getD i []++ [row.getD i default])).getD j []=(XA xs row i).getD j [] by simp[q_a,DR e],Ut xs row j hj i];by_cases h:j<i;rw[BC h,BC oG];rw[BA h,BA oG]
theorem Hr {f:Lk}{x:Li}{p:Int}(hl:x.length=f.length)(wx: ∀a∈x,wI a): ∀k,(QR f x p k).2=0->(QR f x p k).1.length=x.length/\ ∀i,i<x.length->((QR f x p k).1.getD i []).length=k+1/\ ∀y∈(QR f x p k).1.getD i [],wI y
 | 0,_=>by refine⟨by simp[QR],fun i hi=> ?_⟩;have:(QR f x p 0).1.getD i []= [x[i]]:=(by simp[QR,q_a,hi]);rw[this];exact⟨rfl,fun y hy=>by rw[C0.1 hy];exact wx _ (EA hi)⟩
 | k+1,h=>by rw[QR] at h⊢;by_cases h0:(QR f x p k).2=0;obtain⟨a1,a2⟩:=Hr hl wx k h0;rw[BA (by rw[h0];decide)] at h⊢;by_cases h1:(Yj f (QR f x p k).1 k p).2=0;rw[BA (by rw[h1];decide)] at h⊢;obtain⟨b1,b2,b3⟩:=KA h1;refine⟨by rw[jr,a1],fun i hi=> ?_⟩;show((XA _ _ _).getD i []).length=_/\ ∀y∈(XA _ _ _).getD i [],_;rw[Ut _ _ i oG,BC oG];obtain⟨c1,c2⟩:=a2 i hi;refine⟨by rw[BH,c1];rfl,fun y hy=> ?_⟩;rcases DN.1 hy with hy | hy;exact c2 y hy;rw[C0.1 hy];have:=b3 i oG;rw[show(Yj f (QR f x p k).1 k p).1=(Qv (VK f (QR f x p k).1 k p) 0 f.length []).1 from rfl,this];exact K1o _ _ _ _ _;rw[BC h1] at h;exact absurd h h1;rw[BC h0] at h;exact absurd h h0
theorem vQ {f:Lk}{x:Li}{p:Int}{k:Nat}(h:(QR f x p k).2≠0): ∀d,QR f x p (k+1+d)=([],(QR f x p k).2)
 | 0=>by rw[B1,QR,BC h]
 | d+1=>by rw[<-DK,QR,BC (by rw[vQ h d];exact h),vQ h d]
theorem q1c {f:Lk}{x:Li}{p:Int}(hl:x.length=f.length)(h4:x.length<=4)(wx: ∀a∈x,wI a){k:Nat}(hk:k<=10):wXs (QR f x p k).1/\wM (QR f x p k).1:=by
 by_cases h:(QR f x p k).2=0;obtain⟨a1,a2⟩:=Hr hl wx k h;refine⟨⟨oG,fun i hi=> ?_⟩,⟨oG,fun i hi=> ?_⟩⟩;obtain⟨b1,b2⟩:=a2 i oG;exact⟨oG,b2⟩;obtain⟨b1,b2⟩:=a2 i oG;exact⟨oG,fun j hj=>b2 _ (Q8 _ _ _ hj)⟩;have e:(QR f x p k).1= []:=by
  cases k with
  | zero=>exact absurd rfl h
  | succ k=>
   rw[QR] at h⊢;split;rfl;rename_i c;rw[BA c] at h;split;rfl;rename_i d;rw[BA d] at h;exact absurd rfl h
 rw[e];exact⟨⟨by simp,fun i hi=>by simp at hi⟩,⟨by simp,fun i hi=>by simp at hi⟩⟩
theorem xd (f:Lk)(x:Li)(order p:Int)(wx:wB x):wXs (Zx f x order p).1/\wM (Zx f x order p).1:=by
 unfold Zx;split;rename_i c;obtain⟨c1,c2,c3,c4,c5,c6⟩:=c;have h4:x.length<=4:=by unfold rightB at c2;simp only[q_i,BN] at c2;omega
 refine q1c c3 h4 (fun a ha=> ?_) oG;obtain⟨i,hi,rfl⟩:=CM.1 ha;have:=wx.2 i hi;rwa [show x.getD i default=x[i] by simp[q_a,hi]] at this;exact⟨⟨by simp,fun i hi=>by simp at hi⟩,⟨by simp,fun i hi=>by simp at hi⟩⟩
theorem k0h {a:Li}{h:Ivl}{p:Int}(wa: ∀x∈a,wI x):wI (Z4 a h p).1:=by unfold Z4;split;exact Cx wa _;exact HJ
theorem x0e {l:Lj}{h:Ivl}{p:Int}(wl:wXs l):wB (W6 l h p).1:=by unfold W6;split;split;exact⟨by simp,fun i hi=>by simp at hi⟩;have hn:=W5 (G:=fun j=>Z4 (l.getD j []) h p) l.length 0 [];have hm:=KS wI (G:=fun j=>Z4 (l.getD j []) h p) l.length 0 [] (fun j _ hj=>k0h (wl.2 j oG).2) (fun x hx=>by simp at hx);exact⟨by simp only[D6,CU] at hn;omega,fun i hi=>hm _ (Q8 _ _ _ hi)⟩;exact⟨by simp,fun i hi=>by simp at hi⟩
theorem Oq (n:Nat)(hn:n<12):(mkX false [UInt64.ofNat n] 0).1=ptW n:=by
 unfold mkX ptW;have:Qc [UInt64.ofNat n]=n:=by
  have:(UInt64.ofNat n).toNat=n:=by simp;omega
  simp[Qc,nW,val,this]
 rw[this]
theorem k0n (f:Lk)(xs:Lj)(i k:Nat)(p:Int)(st:Qd)(hi:i<f.length)(hk:k<=10)(wf:wF f)(wx:wXs xs):
 PR 255 [.sc (.int .i64 i),.sc (.int .i64 k),.ep [.sl .no (QV f)] 0,.ep [.sl .no (Qw xs)] 0,.ep [.sc (.int .i64 p)] 0] st (.tup [.agg (Qn (VK f xs k p i).1),.sc (.int .i64 (VK f xs k p i).2)]):=by
 refine Ql none Tryz.func255 rfl fun E=>Qb ?_;have gF:=II f i hi;have wk:=J2u k oG;refine Qr ?_;refine Q5 35 (Qi [0,1,2,3,4,5,6] (.alt (Qi [7,8,9,10] (.step 11 [0,3,4,6] (.step 12 [] (.step 13 [] (.done))))) (.step 11 [0,3,4,6] (Qi [7,8,9,10,12,13] .done)))) ?_;simp-dsimp only[go_sem,gF];refine⟨⟨oG,oG⟩,And.intro ?_ ?_⟩
 all_goals
  refine(Dx (f.getD i []) xs k p _ (wf.2 i hi) wx).q ?_;have hw:wI (JW (f.getD i []) xs k p).1:=by unfold JW;split;exact Td _;exact JD
  unfold VK;generalize JW (f.getD i []) xs k p=c at hw⊢;by_cases hc:c.2=0;have ec:(c.2 !=0)=false:=(by rw[hc];rfl);rw[BA (by rw[hc];decide)];simp-dsimp only[go_sem,ec];refine Q5 35 (Qi [0,1,2,5] (.step 3 [0,5] (.step 4 [0,5] (Qi [6,7,8,9,10] .done)))) ?_;simp-dsimp only[go_sem,wk];refine(Iv (k+1) _ oG).q ?_;rw[Oq (k+1) oG];obtain⟨p1,p2,p3,p4⟩:=zn (k+1) oG oG;refine Qr ?_;refine(KI (ptW (k+1)) _ (QC p1)).Q ?_;refine(Z0r c.1 (ptW (k+1)) p _ hw p1 p2 p3 p4).Q0;have ec:(c.2 !=0)=true:=BV.2 hc;rw[BC hc];simp-dsimp only[go_sem,ec];rfl
theorem y0b {N B:Nat}(hB:0<B)(j:Int):2*j<=((2*(N/B)+(if N % B=0 then 0 else 1):Nat):Int)<->j*B<=(N:Int):=by
 have h3:j<=((N/B:Nat):Int)<->j*B<=(N:Int):=by rw[Int.natCast_ediv];exact Int.le_ediv_iff_mul_le oG
 rw[<-h3];generalize N/B=F;split<;>omega
theorem y0a {N B:Nat}(hB:0<B)(j:Int):2*j<= -((2*(N/B)+(if N % B=0 then 0 else 1):Nat):Int)<->j*B<= -(N:Int):=by
 have h1:=D5 N B;have h2:=CG N hB;generalize N/B=F at*
 generalize N % B=r at*
 have hB':(0:Int)<B:=(by exact_mod_cast hB);have h1':(B:Int)*F+r=N:=(by exact_mod_cast h1);have h2':(r:Int)<B:=(by exact_mod_cast h2);clear h1 h2;have up: ∀i:Int,i<=j->i*B<=j*B:=fun i hi=>ET hi (LK hB');have dn: ∀i:Int,j<=i->j*B<=i*B:=fun i hi=>ET hi (LK hB');have e0: -(F:Int)*B= -((B:Int)*F):=(by rw[DU,Int.mul_comm]);have e1:(-(F:Int)-1)*B= -((B:Int)*F)-B:=(by rw[Int.sub_mul,e0,Int.one_mul]);have e2:(-(F:Int)+1)*B= -((B:Int)*F)+B:=(by rw[Int.add_mul,e0,Int.one_mul]);generalize (B:Int)*F=Z at*
 have u0:=up (-(F:Int));have u2:=up (-(F:Int)+1);have d0:=dn (-(F:Int));have d1:=dn (-(F:Int)-1);rw[e0] at u0 d0;rw[e1] at d1;rw[e2] at u2;generalize j*(B:Int)=W at*
 clear up dn e0 e1 e2;split;constructor;intro h;have:=d0 oG;omega;intro h;refine LF.1 fun hn=> ?_;have:=u2 oG;omega;constructor;intro h;have:=d1 oG;omega;intro h;refine LF.1 fun hn=> ?_;have:=u0 oG;omega
theorem q1i {p:Nat}{x:Rat}(h:Yy p x)(g:Int):(∃j:Int,x=qM j g)\/(qM (-((2^p:Nat):Int)) g<=x/\x<=qM ((2^p:Nat):Int) g):=by
 obtain⟨m,e,rfl,hm⟩:=h;by_cases he:g<=e;exact .inl ⟨_,UF m e g he⟩;right;have hpos:(1:Int)<=2^(g-e).toNat:=by
  have:0<2^(g-e).toNat:=CT _
  exact_mod_cast this
 rw[UF _ g e oG,UF _ g e oG,qM_le,qM_le,DU];generalize 2^p=P at*
 have h1:(P:Int)<=P*2^(g-e).toNat:=by
  calc (P:Int)=P*1:=(Int.mul_one _).symm
   _<=_:=Int.mul_le_mul_of_nonneg_left hpos (Int.natCast_nonneg _)
 generalize (P:Int)*2^(g-e).toNat=Z at*
 omega
theorem V1g {A B p:Nat}(hA:A≠0):2^(p+1)*B<=A*2^ZH A B p:=by
 have h1:=Ox hA;have h2:=F9 (KY B);have h0:1<=Qo A:=(by unfold Qo;rw[BA hA];omega);unfold ZH
 calc 2^(p+1)*B<=2^(p+1)*2^Qo B:=DP _ h2
  _=2^(p+1+Qo B):=by rw[<-B2]
  _<=2^((Qo A-1)+(p+2+Qo B-Qo A)):=BS (by decide) oG
  _=2^(Qo A-1)*2^(p+2+Qo B-Qo A):=B2 ..
  _<=A*2^(p+2+Qo B-Qo A):=BG _ h1
theorem Nd {a b:Vl}{p:Nat}(hb:b.neg=false)(hB:0<b.m){x:Rat}(hx:Yy p x):x<=qV (XB a b p)<->x*qV b<=qV a:=by
 have hqb:qV b=qM (b.m:Int) b.e:=by unfold qV Z0;rw[hb];rfl
 have hb0:0<qV b:=by rw[hqb,<-J0 b.e,qM_lt];omega
 by_cases hA:a.m=0;have e1:qV (XB a b p)=0:=(by unfold XB;rw[BC hA];exact J0 0);rw[e1,Vj hA];constructor;intro h;have:=D3 h (Rat.le_of_lt hb0);rwa [Rat.zero_mul] at this;intro h;exact Rat.le_of_mul_le_mul_right (by rwa [Rat.zero_mul]) hb0;obtain⟨t,ht⟩: ∃t,ZH a.m b.m p=t:=⟨_,rfl⟩;have big:=V1g (B:=b.m) (p:=p) hA;rw[ht] at big;have hv:qV (XB a b p)=qM (if a.neg=true then -((2*(a.m*2^t/b.m)+(if a.m*2^t % b.m=0 then 0 else 1):Nat):Int) else((2*(a.m*2^t/b.m)+(if a.m*2^t % b.m=0 then 0 else 1):Nat):Int)) (a.e-b.e-(t:Int)-1):=by unfold XB Ks;rw[BA hA,WE,hb,ht,Bool.bne_false]
 have ha:qV a=qM (if a.neg=true then -((a.m*2^t:Nat):Int) else((a.m*2^t:Nat):Int)) (a.e-(t:Int)):=by
  have e1:(if a.neg=true then -((a.m*2^t:Nat):Int) else((a.m*2^t:Nat):Int))=Z0 a*2^t:=by unfold Z0;cases a.neg<;>simp[DU]
  rw[e1,Vk];unfold qV;congr 1;omega
 rw[hqb] at hb0;rw[hv,ha,hqb];generalize a.m*2^t=N at*
 have hg: ∀j:Int,qM j (a.e-b.e-(t:Int))*qM (b.m:Int) b.e=qM (j*b.m) (a.e-(t:Int)):=fun j=>by rw[<-ku];congr 1;omega
 have hg2: ∀j:Int,qM j (a.e-b.e-(t:Int))=qM (2*j) (a.e-b.e-(t:Int)-1):=fun j=>by rw[Int.mul_comm,show(2:Int)=2^1 from rfl,Vk];congr 1;omega
 rcases q1i hx (a.e-b.e-(t:Int)) with ⟨j,rfl⟩ | ⟨l1,l2⟩;rw[hg,hg2,qM_le,qM_le];cases a.neg;exact y0b hB j;exact y0a hB j;have hF:2^(p+1)<=N/b.m:=(EQ hB).2 big;have hP:=CT p;rw[B5] at hF big;generalize 2^p=P at*
 have big2:2*((P:Int)*b.m)<=N:=by
  have:P*2*b.m<=N:=big;have e:P*2*b.m=2*(P*b.m):=(by rw[BM P 2,BW]);rw[e] at this
  exact_mod_cast this
 have hPB:(0:Int)<(P:Int)*b.m:=by
  have:=Nat.mul_pos hP hB
  exact_mod_cast this
 cases hn:a.neg;rw[BA Bool.false_ne_true,BA Bool.false_ne_true];refine⟨fun _=> ?_,fun _=> ?_⟩;refine E9 (D3 l2 (Rat.le_of_lt hb0)) ?_;rw[hg,qM_le];omega;refine E9 l2 ?_;rw[hg2,qM_le];omega;rw[BC rfl,BC rfl];constructor;intro h;exfalso;have:=E9 l1 h;rw[hg2,qM_le] at this;omega;intro h;exfalso;have:=E9 (D3 l1 (Rat.le_of_lt hb0)) h;rw[hg,qM_le,DU] at this;omega
theorem q0o (a:Vl){b:Vl}(p:Nat)(hb:b.neg=false):qV (XB (Xf a) b p)= -qV (XB a b p):=by by_cases h0:a.m=0;have e:Xf a=a:=(by unfold Xf;rw[BC h0]);have e1:qV (XB a b p)=0:=(by unfold XB;rw[BC h0];exact J0 0);rw[e,e1];rfl;have e3:(Xf a).neg= !a.neg:=(by unfold Xf;rw[BA h0]);unfold XB;rw[qC,qD,e3,BA h0,BA h0,WE,WE,<-YL,hb];congr 1;cases a.neg<;>simp
theorem J0n {p:Nat}{x:Rat}(hx:Yy p x):Yy p (-x):=by obtain⟨m,e,rfl,h⟩:=hx;exact⟨-m,e,(YL _ _).symm,by rw[Int.natAbs_neg];exact h⟩
theorem Ng {a b:Vl}{p:Nat}(hb:b.neg=false)(hB:0<b.m){x:Rat}(hx:Yy p x):qV (XB a b p)<=x<->qV a<=x*qV b:=by have:=Nd (a:=Xf a) hb hB (J0n hx);rw[q0o a p hb,WD,Rat.neg_mul] at this;constructor;intro h;have:=this.1 (by grind);grind;intro h;have:=this.2 (by grind);grind
theorem J0m (v:Vl)(p:Nat):Yy p (qV (QX v p true)):=by rw[v0s];exact J0n (J0o _ _)
theorem V0k {a:Ivl}{c:Nm}{p:Int}(h:(Xz a c p).2=0):Qp a=true/\Qt p=true:=by unfold Xz at h;split at h;assumption;cases h
theorem j1p {a:Ivl}{c:Nm}{p:Int}(h:(Xz a c p).2=0):qN (Xz a c p).1.lo=qV (QX (XB (ofN a.lo) (ofN c) p.toNat) p.toNat false)/\qN (Xz a c p).1.hi=qV (QX (XB (ofN a.hi) (ofN c) p.toNat) p.toNat true):=by have hr:=V0k h;unfold Xz at h⊢;rw[BC hr] at h⊢;exact z1t (Kl (Gj _ _ _) _ _) (Kl (Gj _ _ _) _ _) h
theorem j1o {a:Ivl}{c:Nm}{p:Int}(hc:c.neg=false)(h0:0<Qc c.w)(h:(Xz a c p).2=0){X:Rat}(hX:Ke (X*qN c) a):Ke X (Xz a c p).1:=by
 obtain⟨e1,e2⟩:=j1p h;have hq:0<qV (ofN c):=by unfold qV;rw[<-J0 (ofN c).e,qM_lt];show 0<ZQ c;unfold ZQ;rw[hc,BA (by simp)];omega
 have r1:=(Nd (a:=ofN a.lo) (b:=ofN c) hc h0 (J0o (XB (ofN a.lo) (ofN c) p.toNat) p.toNat)).1 (Ie _ _);have r2:=(Ng (a:=ofN a.hi) (b:=ofN c) hc h0 (J0m (XB (ofN a.hi) (ofN c) p.toNat) p.toNat)).1 (Yk _ _);rw[Zb,Zb] at r1 r2;rw[Zb] at hq;rw[<-e1] at r1;rw[<-e2] at r2;exact⟨Rat.le_of_mul_le_mul_right (E9 r1 hX.1) hq,Rat.le_of_mul_le_mul_right (E9 hX.2 r2) hq⟩
theorem Q1n : ∀n,n<12->0<n->(ptW n).neg=false/\0<Qc (ptW n).w/\0<=(ptW n).exp/\(ptW n).exp+(Qo (Qc (ptW n).w):Int)<=4:=by decide+kernel
def Xk (l:List (List (List Ivl))):List PV:=l.map fun c=>(.sl .no (Qw c))
@[go_sem] theorem Y1 (l:List (List (List Ivl))):(Xk l).length=l.length:=by simp[Xk]
@[go_sem] theorem x1i (l:List (List (List Ivl)))(c:(List (List Ivl))):Xk l++ [.sl .no (Qw c)]=Xk (l++ [c]):=by simp[Xk]
theorem Gb (l:List (List (List Ivl)))(n:Nat)(h:n<l.length):(Xk l).getD n .junk= .sl .no (Qw (l.getD n [])):=by simp[Xk,q_a,h]
theorem Ci {α:Type}(d:α)(l:List α){i:Nat}(h:i<l.length):l.take (i+1)=l.take i++ [l.getD i d]:=by rw[F5 h];simp[q_a,h]
theorem vS (l:List (List (List Ivl))):flat (Xk l)=Xk l:=by
 unfold Xk flat
 induction l with
 | nil=>rfl
 | cons x l ih=>simp only[DX,List.flatten_cons,ih];rfl
theorem x1j (l:List (List (List Ivl))): ∀i,i<(Xk l).length->((Xk l).getD i .junk).cells.length=1:=fun i hi=>by rw[Y1] at hi;rw[Gb l i hi];rfl
theorem x0h {a b:Nm}(ha:Qh a=true)(hb:Qh b=true)(ha0:qN a≠0)(hb0:qN b≠0)(h:(Za 2 a b).2=0):Qh (Za 2 a b).1=true/\(Za 2 a b).1.w.length≠0:=by unfold Za at h⊢;rw[BC ⟨ha,hb⟩] at h⊢;have hc:QI (exV 2 (ofN a) (ofN b)):=Gk 2 (Js ha) (Js hb);refine⟨JZ (K5 hc),fun e=> ?_⟩;have h1:=(WJ hc h).2;rw[Nz e,Wg,xj,Zb,Zb] at h1;rcases Rat.mul_eq_zero.1 h1.symm with h2 | h2;exact ha0 h2;exact hb0 h2
def X0h (n:Int)(m:Mn):Prop:=Vv m n=true/\m.c.w.length≠0
theorem V0l {n:Int}{i:Nat}(hi:(i:Int)<n): ∀(p acc:Lm),(∀m∈p,X0h n m)->vW (p.map Mn.ks)->(Jr i p acc).2=0->
 ∃q,(Jr i p acc).1=acc++q/\q.length<=p.length/\(∀m∈q,X0h n m/\ ∃m'∈p,m.ks=Z1 m'.ks i)/\vW (q.map Mn.ks)
 | [],acc,_,_,_=>⟨[],by simp[Jr],BD _,(fun m hm=>by cases hm),List.Pairwise.nil⟩
 | m::r,acc,hg,hf,h=>by
  obtain⟨f1,f2⟩:=List.pairwise_cons.1 hf;have ih:=fun acc=>V0l hi r acc (fun m hm=>hg m (DL _ hm)) f2;rw[Jr] at h⊢;by_cases c:m.ks.getD i 0=0;rw[BC c] at h⊢;obtain⟨q,q1,q2,q3,q4⟩:=ih acc h;refine⟨q,q1,by simp only[C1];omega,fun x hx=> ?_,q4⟩;obtain⟨z1,m',z2,z3⟩:=q3 x hx;exact⟨z1,m',DL _ z2,z3⟩;rw[BA c] at h⊢;obtain⟨g1,g2⟩:=hg m (DG ..);obtain⟨k1,k2,k3⟩:=(Iy _ _).1 g1;have hil:i<m.ks.length:=oG;have hat:=za k2 i hil;obtain⟨i1,i2⟩:=U1q (k:=(m.ks.getD i 0).toNat) oG;have hi0:qN (Jn (m.ks.getD i 0).toNat)≠0:=by rw[<-Zb,i2,WE];simp only[B3,DT];intro e;have e2:qM (((m.ks.getD i 0).toNat:Nat):Int) 0=(((m.ks.getD i 0).toNat:Nat):Rat):=(by unfold qM;rw[zu,Rat.mul_one];rfl);rw[e2] at e;have:(m.ks.getD i 0).toNat=0:=(by exact_mod_cast e);omega
  by_cases d:(Za 2 m.c (Jn (m.ks.getD i 0).toNat)).2=0;rw[BA (by rw[d];decide)] at h⊢;obtain⟨s1,s2⟩:=x0h k3 i1 (y0n k3 g2) hi0 d;obtain⟨q,q1,q2,q3,q4⟩:=ih _ h;refine⟨⟨(Za 2 m.c (Jn (m.ks.getD i 0).toNat)).1,Z1 m.ks i⟩::q,by rw[q1,BP];rfl,by simp only[C1];omega,fun x hx=> ?_,?_⟩;rcases D8.1 hx with rfl | hx;exact⟨⟨(Iy _ _).2 ⟨by show((Z1 m.ks i).length:Int)=n;rw[xu];exact k1,w0d k2 hil c,s1⟩,s2⟩,m,DG ..,rfl⟩;obtain⟨z1,m',z2,z3⟩:=q3 x hx;exact⟨z1,m',DL _ z2,z3⟩;refine List.pairwise_cons.2 ⟨fun ks hks=> ?_,q4⟩;obtain⟨x,hx,rfl⟩:=CF.1 hks;obtain⟨_,m',z2,z3⟩:=q3 x hx;rw[z3];show XS (Z1 m.ks i) (Z1 m'.ks i)=1;rw[Sm];exact f1 _ (CF.2 ⟨m',z2,rfl⟩);rw[BC d] at h;exact absurd h d
theorem j1z {p:Lm}{i n:Int}(h:(V1 p i n).2=0):ZY (V1 p i n).1 n=true:=by unfold V1 at h⊢;by_cases c:ZY p n=true/\0<=i/\i<n;rotate_left;rw[BA c] at h;cases h;rw[BC c] at h⊢;obtain⟨c1,c2,c3⟩:=c;obtain⟨l1,l2⟩:=(VD p n).1 c1;obtain⟨q,q1,q2,q3,q4⟩:=V0l (n:=n) (i:=i.toNat) oG p [] (fun m hm=>by obtain⟨j,hj,e⟩:=CM.1 hm;have:=(WI _ _ _).1 (l2 j hj);rw[show p.getD j default=m by simp[q_a,hj,e]] at this;exact⟨this.1,this.2.1⟩) (v0y c1) h;rw[q1,CQ];refine(VD _ _).2 ⟨⟨l1.1,l1.2.1,oG⟩,fun j hj=> ?_⟩;have hm: ∀j,j<q.length->q.getD j default∈q:=fun j hj=>(by rw[show q.getD j default=q[j] by simp[q_a,hj]];exact EA hj);obtain⟨⟨g1,g2⟩,_⟩:=q3 _ (hm j hj);refine(WI _ _ _).2 ⟨g1,g2,?_⟩;by_cases e:j=0;exact .inl e;refine .inr ?_;have:=List.pairwise_iff_getElem.1 q4 (j-1) j (by simp;omega) (by simpa using hj) oG;simpa[q_a,hj,(by omega:j-1<q.length)] using this
def okJ (n:Nat)(jac:List (List (List Mn))):Prop:=jac.length=n/\ ∀i,i<n->(jac.getD i []).length=n/\ ∀l,l<n->ZY ((jac.getD i []).getD l []) n=true
theorem Z0n {f:Lk}(h:(Xy f).2=0):okJ f.length (Xy f).1:=by unfold Xy at h⊢;by_cases c:Xh f=true;rotate_left;rw[BA c] at h;cases h;rw[BC c] at h⊢;obtain⟨a1,a2,a3⟩:=KA h;refine⟨a1,fun i hi=> ?_⟩;have e1:(Qv (fun i=>Qv (fun j=>Jb f i j) 0 f.length []) 0 f.length []).1.getD i []=(Qv (fun j=>Jb f i j) 0 f.length []).1:=a3 i hi;have h2:=a2 i hi;obtain⟨b1,b2,b3⟩:=KA h2;rw[e1];refine⟨b1,fun l hl=> ?_⟩;have e2:(Qv (fun j=>Jb f i j) 0 f.length []).1.getD l []=(Jb f i l).1:=b3 l hl;rw[e2];exact j1z (b2 l hl)
def e02 (e:Int):Prop:=e=0\/e=2
theorem K0q (lo hi:Vl):e02 (XN lo hi).2:=by unfold XN e02;split<;>simp
theorem Hx {k:Nat}{a b:Ivl}{p:Int}(ha:Qp a=true)(hb:Qp b=true)(hp:Qt p=true):e02 (opI k a b p).2:=by unfold opI;rw[BC ⟨ha,hb,hp⟩];exact K0q _ _
theorem x1t {a:Ivl}{c:Nm}{p:Int}(ha:Qp a=true)(hp:Qt p=true):e02 (Xz a c p).2:=by unfold Xz;rw[BC ⟨ha,hp⟩];exact K0q _ _
theorem xo {β:Type}{G:Nat->β×Int} : ∀(k i:Nat) (acc:List β),(∀j,i<=j->j<i+k->e02 (G j).2)->e02 (Qv G i k acc).2
 | 0,i,acc,_=> .inl rfl
 | k+1,i,acc,h=>by simp only[Qv];split;exact h i oG oG;exact xo k _ _ fun j h1 h2=>h j oG oG
theorem Co {β:Type}{G:Nat->β×Int} : ∀(k i:Nat) (acc:List β),(Qv G i k acc).2≠0->(Qv G i k acc).1= []
 | 0,i,acc,h=>absurd rfl h
 | k+1,i,acc,h=>by simp only[Qv] at h⊢;split;rfl;rename_i c;rw[BA c] at h;exact Co k _ _ h
theorem yc {p:Int} : ∀(l:List (Ivl×Ivl)) (sm:Bool) (s:Ivl),Qp s=true->Qp (V2 p l sm s).1=true
 | [],sm,s,h=>h
 | x::l,sm,s,h=>by rw[xw];split;split;split;exact yc l _ _ (XT _ _ _ _);rfl;exact yc l _ _ (XT _ _ _ _);rfl
theorem wC {p:Int}(hp:Qt p=true): ∀(l:List (Ivl×Ivl)) (sm:Bool) (s:Ivl),Qp s=true->(∀x∈l,Qp x.1=true/\Qp x.2=true)->e02 (V2 p l sm s).2
 | [],sm,s,_,_=> .inl rfl
 | x::l,sm,s,h,hl=>by obtain⟨x1,x2⟩:=hl x (DG ..);have hl':=fun y hy=>hl y (DL _ hy);rw[xw];split;split;split;exact wC hp l _ _ (XT _ _ _ _) hl';exact Hx h (XT _ _ _ _) hp;exact wC hp l _ _ (XT _ _ _ _) hl';exact Hx x1 x2 hp
theorem v1d (a b:Li)(k:Nat)(p:Int):Qp (XV a b k p).1=true:=by unfold XV;split;exact yc _ _ _ rfl;rfl
theorem x1u {a b:Li}{k:Nat}{p:Int}(hp:Qt p=true)(ha:Zp a k=true)(hb:Zp b k=true):e02 (XV a b k p).2:=by unfold XV;rw[BC ⟨hp,ha,hb⟩];refine wC hp _ _ _ rfl fun x hx=> ?_;unfold VH at hx;obtain⟨i,hi,rfl⟩:=CF.1 hx;have hi:=E0.1 hi;exact⟨Hm ha oG,Hm hb oG⟩
theorem vD {a:Li}{k j:Nat}(h:Zp a k=true)(hj:j<=k):Zp a j=true:=I3 (by have:=Z0z h;omega) fun i hi=>Hm h oG
theorem x1q {a b:Li}{k:Nat}{p:Int}(hp:Qt p=true)(ha:Zp a k=true)(hb:Zp b k=true):e02 (V8 a b k p).2:=
 xo _ _ _ fun j _ hj=>x1u hp (vD ha oG) (vD hb oG)
theorem q0x {a b:Li}{k:Nat}{p:Int}(h:(V8 a b k p).2=0):Zp (V8 a b k p).1 k=true:=by obtain⟨h1,h2,h3⟩:=KA h;refine I3 (by show k<(Qv _ _ _ _).1.length;omega) fun j hj=> ?_;show Qp ((Qv (fun j=>XV a b j p) 0 (k+1) []).1.getD j default)=true;rw[h3 j oG];exact v1d _ _ _ _
theorem Rz {s x:Li}{k:Nat}{p:Int}(hp:Qt p=true)(hs:Zp s k=true)(hx:Zp x k=true): ∀n,e02 (Xi s x k p n).2/\((Xi s x k p n).2=0->Zp (Xi s x k p n).1 k=true)
 | 0=>⟨.inl rfl,fun _=>hs⟩
 | n+1=>by obtain⟨h1,h2⟩:=Rz hp hs hx n;rw[Xi];by_cases c:(Xi s x k p n).2=0;rw[BA (by rw[c];decide)];exact⟨x1q hp (h2 c) hx,q0x⟩;rw[BC c];exact⟨h1,fun h=>absurd h c⟩
theorem J1s {c:Nm}(hc:Qh c=true)(k:Nat):Zp (KW c k) k=true:=by
 refine I3 (by simp[KW]) fun j hj=> ?_;cases j with
 | zero=>exact k6 hc
 | succ j=>
  have:(KW c k).getD (j+1) default=default:=by show(List.replicate k (default:Ivl)).getD j default=default;simp[q_a,(by omega:j<k)]
  rw[this];rfl
theorem Rx {m:Mn}{xs:Lj}{k:Nat}{p:Int}(hp:Qt p=true)(hm:Qh m.c=true)(hx: ∀i,i<xs.length->Zp (xs.getD i []) k=true): ∀i,i<=xs.length->e02 (Zr m xs k p i).2/\((Zr m xs k p i).2=0->Zp (Zr m xs k p i).1 k=true)
 | 0,_=>⟨.inl rfl,fun _=>J1s hm k⟩
 | i+1,hi=>by obtain⟨h1,h2⟩:=Rx hp hm hx i oG;rw[Zr];by_cases c:(Zr m xs k p i).2=0;rw[BA (by rw[c];decide)];exact Rz hp (h2 c) (hx i oG) _;rw[BC c];exact⟨h1,fun h=>absurd h c⟩
theorem Tg (q:Lm)(xs:Lj)(k:Nat)(p:Int): ∀i,Qp (ofS q xs k p i).1=true
 | 0=>rfl
 | i+1=>by rw[ofS];split;rfl;split;rfl;exact XT _ _ _ _
theorem Dw (q:Lm)(xs:Lj)(k p:Int):Qp (JW q xs k p).1=true:=by unfold JW;split;exact Tg _ _ _ _ _;rfl
theorem Th {q:Lm}{xs:Lj}{k:Nat}{p:Int}(hp:Qt p=true)(hq: ∀i,i<q.length->Qh (q.getD i default).c=true)(hx: ∀i,i<xs.length->Zp (xs.getD i []) k=true): ∀i,i<=q.length->e02 (ofS q xs k p i).2
 | 0,_=> .inl rfl
 | i+1,hi=>by have ih:=Th hp hq hx i oG;obtain⟨h1,h2⟩:=Rx hp (hq i oG) hx xs.length (BD _);rw[ofS];by_cases c:(ofS q xs k p i).2=0;rw[BA (by rw[c];decide)];by_cases d:(Zr (q.getD i default) xs k p xs.length).2=0;rw[BA (by rw[d];decide)];exact Hx (Tg _ _ _ _ _) (Hm (h2 d) (BD _)) hp;rw[BC d];exact h1;rw[BC c];exact ih
theorem k0m {q:Lm}{xs:Lj}{k:Nat}{p:Int}(hp:Qt p=true)(hk:k<=10)(hq:ZY q xs.length=true)(hx: ∀i,i<xs.length->Zp (xs.getD i []) k=true):e02 (JW q xs k p).2:=by unfold JW;split;rw[FV];exact Th hp (fun i hi=>(GT hq hi).2.2) hx _ (BD _);rename_i c;refine absurd ⟨?_,hq,?_⟩ c;unfold qq;rw[hp];simp;omega;rw[FV];exact all_hasUp.2 hx
theorem V0j {a:Ivl}{c:Nm}{p:Int}(hc:c.neg=false)(h0:0<Qc c.w)(hq:0<qN c):Qp (Xz a c p).1=true:=by by_cases h:(Xz a c p).2=0;obtain⟨h1,h2⟩:=V0k h;have hle:=J1 h1;rw[Zb,Zb] at hle;have hm:=j1o hc h0 h (X:=qN a.lo/qN c) (by rw[Rat.div_mul_cancel (by grind)];exact⟨CB,hle⟩);have r:Qh (Xz a c p).1.lo=true/\Qh (Xz a c p).1.hi=true:=(by unfold Xz XN;split;split;exact⟨JZ (K5 (Kl (Gj _ _ _) _ _)),JZ (K5 (Kl (Gj _ _ _) _ _))⟩;exact⟨rfl,rfl⟩;exact⟨rfl,rfl⟩);exact Ig r.1 r.2 (cmpN_le.2 (E9 hm.1 hm.2));have:(Xz a c p).1=default:=(by unfold Xz at h⊢;split;rename_i c1;rw[BC c1] at h;unfold XN at h⊢;split;rename_i c2;rw[BC c2] at h;exact absurd rfl h;rfl;rfl);rw[this];rfl
def JG (jac:List (List (List Mn)))(xs:List (List Ivl))(p:Int)(i l q:Nat):Ivl×Int:=JW ((jac.getD i []).getD l []) xs q p
def slB (jac:List (List (List Mn)))(xs:List (List Ivl))(p:Int)(n q:Nat):Bool:=(List.range n).all fun i=>(List.range n).all fun l=>decide ((JG jac xs p i l q).2=0)
theorem slB_iff {jac:Ll}{xs:Lj}{p:Int}{n q:Nat} :slB jac xs p n q=true<-> ∀i,i<n-> ∀l,l<n->(JG jac xs p i l q).2=0:=by unfold slB;simp only[q_d,E0,BN]
def Yc (D:Nat->Nat->Ivl)(k t:Nat):Ivl:=D (t/(k+1)) (t % (k+1))
def Y9 (ms:List Mx)(j k t:Nat):Ivl:=atM (ms.getD (k-t % (k+1)) []) (t/(k+1)) j
def YE (jac:List (List (List Mn)))(xs:List (List Ivl))(p:Int)(i:Nat)(l q:Nat):Ivl:=(JG jac xs p i l q).1
def K0 (D:Nat->Nat->Ivl)(p:Int)(n:Nat)(ms:List Mx)(j k:Nat):Ivl×Int:=
 if (Q6 (Yc D k) (Y9 ms j k) p (n*(k+1))).2≠0 then(default,(Q6 (Yc D k) (Y9 ms j k) p (n*(k+1))).2) else Xz (Q6 (Yc D k) (Y9 ms j k) p (n*(k+1))).1 (ptW (k+1)) p
def UP (jac:List (List (List Mn)))(xs:List (List Ivl))(p:Int)(n:Nat)(ms:List Mx)(k:Nat):Mx×Int:=ZN (fun i j=>K0 (YE jac xs p i) p n ms j k) n
def QG (jac:List (List (List Mn)))(xs:List (List Ivl))(p:Int)(n:Nat):Nat->List Mx×Int
 | 0=>([idM n],0)
 | k+1=>if (QG jac xs p n k).2≠0 then([],(QG jac xs p n k).2) else if slB jac xs p n k=false then([],2) else
  if (UP jac xs p n (QG jac xs p n k).1 k).2≠0 then([],(UP jac xs p n (QG jac xs p n k).1 k).2) else((QG jac xs p n k).1++ [(UP jac xs p n (QG jac xs p n k).1 k).1],0)
def K9 (f:List (List Mn))(x:List Ivl)(order p:Int):List Mx×Int:=
 if (Zx f x order p).2≠0 then([],(Zx f x order p).2) else if (Xy f).2≠0 then([],(Xy f).2) else QG (Xy f).1 (Zx f x order p).1 p f.length order.toNat
theorem jd {jac:Ll}{xs:Lj}{p:Int}{n k:Nat}(h:(QG jac xs p n k).2≠0): ∀d,QG jac xs p n (k+1+d)=([],(QG jac xs p n k).2)
 | 0=>by rw[B1,QG,BC h]
 | d+1=>by rw[<-DK,QG,BC (by rw[jd h d];exact h),jd h d]
theorem q1l {G:Nat->Nat->Ivl×Int}{n:Nat}(h:(ZN G n).2=0):(ZN G n).1.length=n/\ ∀i,i<n->((ZN G n).1.getD i []).length=n/\ ∀j,j<n->(G i j).2=0/\atM (ZN G n).1 i j=(G i j).1:=by obtain⟨a1,a2,a3⟩:=KA h;refine⟨a1,fun i hi=> ?_⟩;have e:(ZN G n).1.getD i []=(Qv (fun j=>G i j) 0 n []).1:=a3 i hi;obtain⟨b1,b2,b3⟩:=KA (a2 i hi);rw[e];refine⟨b1,fun j hj=>⟨b2 j hj,?_⟩⟩;unfold atM;rw[e];exact b3 j hj
def qi (ms:List Mx):Prop:= ∀m∈ms,∀r∈m,∀x∈r,Qp x=true
theorem yz {ms:List Mx}(h:qi ms)(m l j:Nat):Qp (atM (ms.getD m []) l j)=true:=by unfold atM;by_cases h1:m<ms.length;rw[show ms.getD m []=ms[m] by simp[q_a,h1]];by_cases h2:l<ms[m].length;rw[show ms[m].getD l []=ms[m][l] by simp[q_a,h2]];by_cases h3:j<ms[m][l].length;rw[show ms[m][l].getD j default=ms[m][l][j] by simp[q_a,h3]];exact h _ (EA h1) _ (EA h2) _ (EA h3);rw[show ms[m][l].getD j default=default by simp[q_a,C2 (LB h3)]];rfl;rw[show ms[m].getD l []= [] by simp[q_a,C2 (LB h2)]];rfl;rw[show ms.getD m []= [] by simp[q_a,C2 (LB h1)]];rfl
theorem xr (x y:Nat->Ivl)(p:Int): ∀n,Qp (Q6 x y p n).1=true
 | 0=>rfl
 | n+1=>by rw[Q6];split;rfl;split;rfl;split;exact XT _ _ _ _;split;rfl;exact XT _ _ _ _
theorem K0r {x y:Nat->Ivl}{p:Int}(hp:Qt p=true)(hx: ∀t,Qp (x t)=true)(hy: ∀t,Qp (y t)=true): ∀n,e02 (Q6 x y p n).2
 | 0=> .inl rfl
 | n+1=>by have ih:=K0r hp hx hy n;have h2:=Hx (k:=2) (hx n) (hy n) hp;rw[Q6];split;exact ih;split;exact h2;split;exact h2;split;exact Hx (xr _ _ _ _) (XT _ _ _ _) hp;exact Hx (xr _ _ _ _) (XT _ _ _ _) hp
theorem z1q (D:Nat->Nat->Ivl)(p:Int)(n:Nat)(ms:List Mx)(j:Nat){k:Nat}(hk:k<=10):Qp (K0 D p n ms j k).1=true:=by unfold K0;split;rfl;obtain⟨p1,p2,p3,_⟩:=zn (k+1) oG oG;refine V0j ?_ p3 p2;have: ∀n,n<12->(ptW n).neg=false:=(by decide+kernel);exact this _ oG
theorem x1s {D:Nat->Nat->Ivl}{p:Int}{n:Nat}{ms:List Mx}{j k:Nat}(hp:Qt p=true)(hD: ∀l q,Qp (D l q)=true)(hm:qi ms):e02 (K0 D p n ms j k).2:=by unfold K0;split;exact K0r hp (fun t=>hD _ _) (fun t=>yz hm _ _ _) _;exact x1t (xr _ _ _ _) hp
theorem q1r {G:Nat->Nat->Ivl×Int}{n:Nat}(h: ∀i j,Qp (G i j).1=true): ∀r∈(ZN G n).1,∀x∈r,Qp x=true:=
 KS (fun r:List Ivl=> ∀x∈r,Qp x=true) n 0 [] (fun i _ _=>KS (fun x=>Qp x=true) n 0 [] (fun j _ _=>h i j) (fun x hx=>by cases hx)) (fun x hx=>by cases hx)
theorem x1r {G:Nat->Nat->Ivl×Int}{n:Nat}(h: ∀i j,e02 (G i j).2):e02 (ZN G n).2:=xo _ _ _ fun i _ _=>xo _ _ _ fun j _ _=>h i j
theorem U1z (n:Int): ∀r∈idM n,∀x∈r,Qp x=true:=fun r hr x hx=>by unfold idM at hr;split at hr;obtain⟨i,_,rfl⟩:=CF.1 hr;obtain⟨j,_,rfl⟩:=CF.1 hx;split<;>rfl;cases hr
theorem je {jac:Ll}{xs:Lj}{p:Int}{n:Nat}(hp:Qt p=true): ∀k,k<=10->e02 (QG jac xs p n k).2/\qi (QG jac xs p n k).1
 | 0,_=>⟨.inl rfl,fun m hm=>by rw[C0.1 hm];exact U1z _⟩
 | k+1,hk=>by obtain⟨h1,h2⟩:=je (jac:=jac) (xs:=xs) (n:=n) hp k oG;have h3:e02 (UP jac xs p n (QG jac xs p n k).1 k).2:=x1r fun i j=>x1s hp (fun l q=>Dw _ _ _ _) h2;have nilI:qi []:=fun m hm=>(by cases hm);rw[QG];split;exact⟨h1,nilI⟩;split;exact⟨.inr rfl,nilI⟩;split;exact⟨h3,nilI⟩;refine⟨.inl rfl,fun m hm=> ?_⟩;rcases DN.1 hm with hm | hm;exact h2 m hm;rw[C0.1 hm];exact q1r fun i j=>z1q _ _ _ _ _ oG
theorem jf {jac:Ll}{xs:Lj}{p:Int}{n:Nat} : ∀k,(QG jac xs p n k).2=0->(QG jac xs p n k).1.length=k+1/\ ∀m,m<=k->((QG jac xs p n k).1.getD m [])=if m=0 then idM n else(UP jac xs p n (QG jac xs p n (m-1)).1 (m-1)).1
 | 0,_=>⟨rfl,fun m hm=>by rw[Nat.le_zero.1 hm];rfl⟩
 | k+1,h=>by
  have c:(QG jac xs p n k).2=0:=BE fun c=>by rw[QG,BC c] at h;exact c h
  obtain⟨h1,h2⟩:=jf k c;rw[QG,BA (by rw[c];decide)] at h⊢;by_cases d:slB jac xs p n k=false;rw[BC d] at h;cases h;rw[BA d] at h⊢;by_cases e:(UP jac xs p n (QG jac xs p n k).1 k).2=0;rw[BA (by rw[e];decide)];refine⟨by simp[h1],fun m hm=> ?_⟩;by_cases hmk:m<=k;show((QG jac xs p n k).1++_).getD m []=_;rw[QQ _ _ _ _ oG];exact h2 m hmk;obtain rfl:m=k+1:=oG;show((QG jac xs p n k).1++_).getD (k+1) []=_;rw[Zl _ _ _ _ oG,h1,DD,BA oG];rfl;rw[BC e] at h;exact absurd h e
theorem K0z {x y:Nat->Ivl}{p:Int}{t:Nat}(h:(Q6 x y p t).2=0):Q6 x y p (t+1)=if (opI 2 (x t) (y t) p).2≠0 then(default,(opI 2 (x t) (y t) p).2) else if t=0 then opI 2 (x t) (y t) p else opI 0 (Q6 x y p t).1 (opI 2 (x t) (y t) p).1 p:=by rw[Q6,BA (by rw[h];decide)];split;rfl;split;rfl;split;rename_i c;exact Prod.ext (UH 0 _ _ _ c).symm rfl;rfl
theorem j1e {x y:Nat->Ivl}{p:Int} : ∀t,(Q6 x y p t).2≠0->(Q6 x y p t).1=default
 | 0,h=>absurd rfl h
 | t+1,h=>by by_cases c:(Q6 x y p t).2=0;rw[K0z c] at h⊢;split;rfl;rename_i d;rw[BA d] at h;split;rename_i e;rw[BC e] at h;exact UH _ _ _ _ h;rename_i e;rw[BA e] at h;exact UH _ _ _ _ h;rw[Q6,BC c]
theorem wJ {x y:Nat->Ivl}{p:Int}{t:Nat}(h:(Q6 x y p t).2≠0): ∀d,Q6 x y p (t+d)=(default,(Q6 x y p t).2)
 | 0=>Prod.ext (j1e t h) rfl
 | d+1=>by rw[<-DK,Q6,BC (by rw[wJ h d];exact h),wJ h d]
theorem H0h (D:Nat->Nat->Ivl)(k l:Nat){q:Nat}(hq:q<=k):Yc D k (l*(k+1)+q)=D l q:=by unfold Yc;rw[BM l,E4 oG,E3,CP oG,BJ oG,B1]
theorem H0g (ms:List Mx)(j k l:Nat){q:Nat}(hq:q<=k):Y9 ms j k (l*(k+1)+q)=atM (ms.getD (k-q) []) l j:=by unfold Y9;rw[BM l,E4 oG,E3,CP oG,BJ oG,B1]
def okC (l:List Mx):Bool:=l.all fun m=>rightM m&&decide (m.length=(l.getD 0 []).length)
def ZL (l:List Mx)(h:Ivl)(p:Int):Nat->Mx×Int
 | 0=>(l.getD (l.length-1) [],0)
 | i+1=>if (ZL l h p i).2≠0 then([],(ZL l h p i).2) else
  if (KQ h (ZL l h p i).1 p).2≠0 then([],(KQ h (ZL l h p i).1 p).2) else opM 0 (KQ h (ZL l h p i).1 p).1 (l.getD (l.length-2-i) []) p
def Yf (l:List Mx)(h:Ivl)(p:Int):Mx×Int:=
 if 1<=l.length/\l.length<=11/\Qp h=true/\Qt p=true/\okC l=true then ZL l h p (l.length-1) else([],1)
theorem okC_iff {l:List Mx} :okC l=true<-> ∀i,i<l.length->rightM (l.getD i [])=true/\(l.getD i []).length=(l.getD 0 []).length:=by unfold okC;simp only[q_d,q_i,BN];constructor;intro h i hi;exact h _ (by rw[show l.getD i []=l[i] by simp[q_a,hi]];exact EA hi);intro h m hm;obtain⟨i,hi,e⟩:=CM.1 hm;have:=h i hi;rw[show l.getD i []=m by simp[q_a,hi,e]] at this;exact this
theorem jA {l:List Mx}{h:Ivl}{p:Int}{k:Nat}(he:(ZL l h p k).2≠0): ∀d,ZL l h p (k+1+d)=([],(ZL l h p k).2)
 | 0=>by rw[B1,ZL,BC he]
 | d+1=>by rw[<-DK,ZL,BC (by rw[jA he d];exact he),jA he d]
def wCs (l:List Mx):Prop:=l.length<=100000000000/\ ∀i,i<l.length->wM (l.getD i [])
theorem Cu {l:List Mx}{h:Ivl}{p:Int}(hl:wCs l)(h1:1<=l.length): ∀i,wM (ZL l h p i).1
 | 0=>hl.2 _ oG
 | i+1=>by rw[ZL];split;exact Us;split;exact Us;exact So _ _ _ _
theorem GC {l:List Mx}{h:Ivl}{p:Int}(hh: ¬(1<=l.length/\l.length<=11/\Qp h=true/\Qt p=true/\okC l=true)):Yf l h p=([],1):=by unfold Yf;rw[BA hh]
theorem Tc {l:List Mx}{i:Nat}(hi:i<l.length)(h: ¬(rightM (l.getD i [])=true/\(l.getD i []).length=(l.getD 0 []).length)):okC l=false:=CS.2 fun e=>h (okC_iff.1 e i hi)
theorem x0c {l:List Mx}{h:Ivl}{p:Int}{i:Nat}(hi:i<l.length-1)(h0:(ZL l h p i).2=0)(he:(ZL l h p (i+1)).2≠0)(hd:(ZL l h p (i+1)).1= []):ZL l h p (l.length-1)=([],(ZL l h p (i+1)).2):=by by_cases e:i+1=l.length-1;rw[<-e];exact Prod.ext hd rfl;have:=jA he (l.length-1-(i+2));rwa [show i+1+1+(l.length-1-(i+2))=l.length-1 by omega] at this
theorem X1s {k:Nat}{a b:Mx}{p:Int}(h:(opM k a b p).2≠0):(opM k a b p).1= []:=by unfold opM at h⊢;split;rename_i c;rw[BC c] at h;exact Co _ _ _ h;rfl
set_option maxHeartbeats 16000000 in
theorem x0b (l:List Mx)(h:Ivl)(p:Int)(st:Qd)(wl:wCs l)(wh:wI h):
 PR 198 [.sl .no (Xk l),.agg (Qn h),.sc (.int .i64 p)] st (.tup [.sl .no (Qw (Yf l h p).1),.sc (.int .i64 (Yf l h p).2)]):=by
 refine Ql none Tryz.func198 rfl fun E=>Qb ?_;by_cases c1:1<=l.length;rotate_left;have d1:decide ((l.length:Int)<1)=true:=q_h oG;rw[GC (fun hh=>c1 hh.1)];simp-dsimp only[go_sem,d1];have d1:decide ((l.length:Int)<1)=false:=q_g oG;by_cases c2:l.length<=11;rotate_left;have d2:decide ((l.length:Int)>11)=true:=q_h oG;rw[GC (fun hh=>c2 hh.2.1)];simp-dsimp only[go_sem,d1,d2];have d2:decide ((l.length:Int)>11)=false:=q_g oG;simp-dsimp only[go_sem,d1,d2];refine(JL h _ wh).q ?_;cases hr:Qp h with
 | false=>
  rw[GC (fun hh=>by rw[hr] at hh;exact absurd hh.2.2.1 (by decide))];exact QA
 | true=>
 refine Qr ?_;refine(JY p _).q ?_;cases hp:Qt p with
 | false=>
  rw[GC (fun hh=>by rw[hp] at hh;exact absurd hh.2.2.2.1 (by decide))];exact QA
 | true=>
 refine Qr ?_;refine Q3 ([true,false,true,false,true]++rF 34++ [true,true,true]) 1 0
  (fun c s'=> ∃i,c=l.length-i/\i<=l.length/\(∀j,j<i->rightM (l.getD j [])=true/\(l.getD j []).length=(l.getD 0 []).length)/\
   s'=⟨[.sl .no (Xk l),.junk,.sc (.int .i64 p),.junk,.lp 0 0]++jk 34++ [.sl .no (Xk l),.sc (.int .i64 (l.length:Nat)),.sc (.int .i64 (i:Nat))]++jk 82,[Qn h],[],st⟩) l.length ?_ ?_
 refine Qr ?_;exact⟨0,oG,oG,fun j hj=>absurd hj oG,rfl⟩;rintro c s' ⟨i,rfl,hi,hok,rfl⟩;refine QM ?_ ?_<;>intro hk
 . have hlt:i<l.length:=oT hk
   have e3:=QN i oG;have g2:=Gb l i hlt;have g0:=Gb l 0 oG;have w1:=wl.2 i hlt;simp-dsimp only[go_sem,g2];refine⟨oG,?_⟩;refine(zQ (l.getD i []) _ w1).q ?_;cases hm:rightM (l.getD i []) with
   | false=>
    rw[GC (fun hh=>by rw[Tc hlt (fun q=>by rw[hm] at q;exact absurd q.1 (by decide))] at hh;exact absurd hh.2.2.2.2 (by decide))];exact QA
   | true=>
   simp-dsimp only[go_sem,g0];refine⟨oG,?_⟩;by_cases hq:(l.getD i []).length=(l.getD 0 []).length;have q1:(((l.getD i []).length:Int) !=((l.getD 0 []).length:Int))=false:=(by rw[hq];simp);simp-dsimp only[go_sem,q1,e3];refine⟨l.length-(i+1),oG,i+1,rfl,oG,fun j hj=> ?_,rfl⟩;by_cases e:j=i;rw[e];exact⟨hm,hq⟩;exact hok j oG;have q1:(((l.getD i []).length:Int) !=((l.getD 0 []).length:Int))=true:=BV.2 fun e=>hq (by exact_mod_cast e);rw[GC (fun hh=>by rw[Tc hlt (fun q=>hq q.2)] at hh;exact absurd hh.2.2.2.2 (by decide))];simp-dsimp only[go_sem,q1]
 have hge:i=l.length:=oF hk
 subst hge;have hall:okC l=true:=okC_iff.2 hok;have hS:Yf l h p=ZL l h p (l.length-1):=(by unfold Yf;rw[BC ⟨c1,c2,hr,hp,hall⟩]);rw[hS];have wi:=Cu (h:=h) (p:=p) wl c1;have wl1:=wl.1;have hfin:=fun i=>x0c (l:=l) (h:=h) (p:=p) (i:=i);have hM:=hok (l.length-1) oG;have hMl:=Jl hM.1;have hMr:=fun i (hi:i<(l.getD (l.length-1) []).length)=>KD hM.1 hi;have gM:=Gb l (l.length-1) oG;have e1:IntKind.i64.wrap ((l.length:Int)-1)=((l.length-1:Nat):Int):=(by rw[Q4 _ oG oG];omega);have e2:IntKind.i64.wrap ((l.length:Int)-2)=(l.length:Int)-2:=(by rw[Q4 _ oG oG]);refine Qr ?_;refine Qb ?_;simp-dsimp only[go_sem,e1,gM];refine⟨oG,?_⟩;refine X7 10 1 ?_;refine Qr ?_;have h0:ZL l h p 0=(l.getD (l.length-1) [],0):=rfl;generalize hMM:l.getD (l.length-1) []=M at hM hMl hMr gM h0;refine Q3 ([true,false,true,false,true,false,false,false,false,false,true]++rF 52++ [true,true,true]) 1 1
  (fun c s'=> ∃i,c=M.length-i/\i<=M.length/\
   s'=⟨[.sl .no (Xk l),.junk,.sc (.int .i64 p),.junk,.lp 0 0,.junk,.junk,.junk,.junk,.junk,.sl (.own 0) (Qw (M.take i))]++jk 52++ [.sl .no (Qw M),.sc (.int .i64 (M.length:Nat)),.sc (.int .i64 (i:Nat))]++jk 58,[Qn h],[(i,1)],st⟩) M.length ?_ ?_
 refine Qr ?_;exact⟨0,oG,oG,rfl⟩;rintro c s' ⟨i,rfl,hi,rfl⟩;have hil:(M.take i).length=i:=(by rw[BX];omega);refine QM ?_ ?_<;>intro hk;have hlt:i<M.length:=(oT hk);have e3:=QN i oG;have g2:=Kj M i hlt;have hrow:=hMr i hlt;have hsn:=Ci [] M hlt;simp-dsimp only[go_sem,g2];refine⟨oG,?_⟩;refine X7 13 6 ?_;refine Qr ?_;refine Q3 ([true,false,true,false,true,false,false,false,false,false,true,false,false,true]++rF 49++ [true,true,true,false,false,false,true,true,true]) 1 2
  (fun c s'=> ∃j,c=M.length-j/\j<=M.length/\
   s'=⟨[.sl .no (Xk l),.junk,.sc (.int .i64 p),.junk,.lp 0 0,.junk,.junk,.junk,.junk,.junk,.sl (.own 0) (Qw (M.take i)),.junk,.junk,.sl (.own 1) (Qk ((M.getD i []).take j))]++jk 49++ [.sl .no (Qw M),.sc (.int .i64 (M.length:Nat)),.sc (.int .i64 (i:Nat)),.junk,.junk,.junk,.sl .no (Qk (M.getD i [])),.sc (.int .i64 (M.length:Nat)),.sc (.int .i64 (j:Nat))]++jk 52,[Qn h],[(i,1),(j,6)],st⟩) M.length ?_ ?_
 simp-dsimp only[go_sem,hrow.1];exact⟨0,oG,oG,rfl⟩;rintro c s' ⟨j,rfl,hj,rfl⟩;refine QM ?_ ?_<;>intro hk2;have hlt2:j<M.length:=(oT hk2);have e4:=QN j oG;have gI:=Zt (M.getD i []) j oG;have hx:=jY hrow.2 (i:=j) oG;have hwx:=Jg hx;have hsn2:=Ci default (M.getD i []) (i:=j) oG;have hs2:=IH ((M.getD i []).take j) ((M.getD i []).getD j default);have hl2:((M.getD i []).take j).length=j:=(by rw[BX,hrow.1];omega);have mk:Wk ((M.getD i []).getD j default).lo ((M.getD i []).getD j default).hi=((M.getD i []).getD j default,0):=(by unfold Wk;rw[BC hx]);rw[<-hsn2] at hs2;simp-dsimp only[go_sem,gI];refine⟨oG,?_⟩;refine(zX _ _ _ hwx.1 hwx.2).q ?_;simp-dsimp only[go_sem,mk,hs2,hl2,e4];exact⟨oG,M.length-(j+1),oG,j+1,rfl,oG,rfl⟩;have hge:j=M.length:=(oF hk2);subst hge;have hf:(M.getD i []).take M.length=M.getD i []:=BF (by rw[hrow.1];exact BD _);have hs3:=x1d (M.take i) (M.getD i []);rw[<-hsn] at hs3;refine Qr ?_;refine Qb ?_;simp-dsimp only[go_sem,hf,hil];refine⟨oG,?_⟩;refine Qb ?_;simp-dsimp only[go_sem,e3];exact⟨M.length-(i+1),oG,i+1,rfl,oG,by rw[hsn]⟩;have hge:i=M.length:=(oF hk);subst hge;rw[B0];refine Qr ?_;refine WF (rF 10++ [true]) (Qb ?_);simp-dsimp only[go_sem,e2];rw[show M=(ZL l h p 0).1 by rw[h0]];refine Q3 ([true,false,true,false,true,false,false,false,false,false,true]++rF 7++ [true]) 1 0
  (fun c s'=> ∃i,c=l.length-1-i/\i<=l.length-1/\(ZL l h p i).2=0/\
   s'=⟨[.sl .no (Xk l),.junk,.sc (.int .i64 p),.junk,.lp 0 0,.junk,.junk,.junk,.junk,.junk,.sl .no (Qw (ZL l h p i).1)]++jk 7++ [.sc (.int .i64 ((l.length:Int)-2-(i:Nat)))]++jk 105,[Qn h],[],st⟩) (l.length-1) ?_ ?_
 refine Qr ?_;exact⟨0,oG,oG,rfl,by simp⟩;rintro c s' ⟨i,rfl,hi,he,rfl⟩;by_cases hlt:i<l.length-1;have d3:decide ((l.length:Int)-2-(i:Nat)>=0)=true:=q_h oG;have e3:IntKind.i64.wrap ((l.length:Int)-2-(i:Nat)-1)=(l.length:Int)-2-((i+1:Nat):Int):=(by rw[Q4 _ oG oG];omega);have e4:(l.length:Int)-2-(i:Nat)=((l.length-2-i:Nat):Int):=oG;have gJ:=Gb l (l.length-2-i) oG;have wj:=wl.2 (l.length-2-i) oG;have fi:=hfin i hlt he;have hst:ZL l h p (i+1)=if (KQ h (ZL l h p i).1 p).2≠0 then([],(KQ h (ZL l h p i).1 p).2) else opM 0 (KQ h (ZL l h p i).1 p).1 (l.getD (l.length-2-i) []) p:=(by rw[ZL,BA (by rw[he];decide)]);have b1:l.length-2-i<l.length:=oG;rw[e4] at d3 e3;have wv:=wi i;simp-dsimp only[go_sem,e4,d3];refine(W1a h (ZL l h p i).1 p _ wh wv).q ?_;have wz:=q0y h (ZL l h p i).1 p;generalize hZ:ZL l h p (i+1)=Z at hst fi;generalize KQ h (ZL l h p i).1 p=z at hst wz⊢;by_cases hz:z.2=0;have b0:(z.2 !=0)=false:=(by simp[hz]);rw[BA (by rw[hz];decide)] at hst;simp-dsimp only[go_sem,b0,gJ];refine⟨⟨Int.natCast_nonneg _,by exact_mod_cast b1⟩,?_⟩;refine(W1j z.1 (l.getD (l.length-2-i) []) p _ wz wj).q ?_;rw[<-hst];by_cases hu:Z.2=0;have c3:(Z.2 !=0)=false:=(by simp[hu]);simp-dsimp only[go_sem,c3,e3];exact⟨l.length-1-(i+1),oG,i+1,rfl,oG,by rw[hZ];exact hu,by rw[hZ]⟩;have c3:(Z.2 !=0)=true:=(by simp[hu]);simp-dsimp only[go_sem,c3];rw[fi hu (by rw[hst] at hu⊢;exact X1s hu)];rfl;have b0:(z.2 !=0)=true:=(by simp[hz]);rw[BC hz] at hst;simp-dsimp only[go_sem,b0];rw[fi (by rw[hst];exact hz) (by rw[hst]),hst];rfl;have d3:decide ((l.length:Int)-2-(i:Nat)>=0)=false:=q_g oG;have hie:i=l.length-1:=oG;simp-dsimp only[go_sem,d3];refine Qq ?_;rw[<-hie,he]
def xY (jac:List (List (List Mn)))(n:Nat):Prop:=jac.length=n/\ ∀i,i<n->(jac.getD i []).length=n/\ ∀l,l<n->wP ((jac.getD i []).getD l [])
end Go.Pv
end
