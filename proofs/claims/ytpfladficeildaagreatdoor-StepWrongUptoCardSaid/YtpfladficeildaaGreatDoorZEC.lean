/- Walk. -/
import Derived.Test.YtpfladficeildaaGreatDoorZEB
import Derived.Test.YtpfladficeildaaGreatDoorZBR
set_option linter.all false
set_option maxHeartbeats 160000000
section
namespace Go.Pv
structure Pb where
 fld:List (List Mn)
 box:List Ivl
 until':Nm
 most:Nm
 least:Nm
 prec:Int
 order:Int
 budget:Int
instance : Inhabited Pb:=⟨⟨[],[],default,default,default,0,0,0⟩⟩
def Ji (p:Pb):Bool:=ZY p.fld&&rightB p.box&&decide (p.box.length=p.fld.length)&&Qg p.until'&&Qg p.most&&Qg p.least&&decide (0<Q6 p.until' default)&&decide (0<Q6 p.least default)&&decide (0<=Q6 p.most p.least)&&
 Qv p.prec&&decide (2<=p.order)&&decide (p.order<=10)&&decide (1<=p.budget)&&decide (p.budget<=4096)
def Vp (p:Pb):Sx×Int:=if Ji p=true then(if (X6 p.box p.prec).2≠0 then(default,(X6 p.box p.prec).2) else(⟨0,default,p.most,(X6 p.box p.prec).1⟩,0)) else(default,1)
def okPb (n:Nat)(p:Pb):Prop:=okField n 2 2 p.fld/\p.box.length=n/\(∀i,i<n->luI 20 20 (p.box.getD i default))/\(∃q,0<q/\q<=64/\p.until'=tq q)/\
 Qg p.most=true/\Qg p.least=true/\0<qN p.least/\qN p.least<=qN p.most/\16<=p.prec/\p.prec<=64/\2<=p.order/\p.order<=4/\1<=p.budget/\p.budget<=9
theorem So {x:Nm}(h:0<qN x):x.neg=false/\0<x.w.length:=by have h2:=(GF x).2 h;unfold QT at h2;split at h2;omega;rename_i hw;split at h2;omega;rename_i hn;refine⟨by simpa using hn,?_⟩;have:x.w≠ []:=fun e=>hw (by rw[e];rfl);exact EL.2 this
theorem W0y {x y:Nm}(hx:Qg x=true)(hy:Qg y=true)(h:qN y<qN x):0<Q6 x y:=by rw[Gc hx hy];have h1:=cmpN_lt.2 h;have h2:=H5 y x;omega
theorem v1f {x y:Nm}(hx:Qg x=true)(hy:Qg y=true)(h:qN y<=qN x):0<=Q6 x y:=by rw[Gc hx hy];have h1:=cmpN_le.2 h;have h2:=H5 y x;omega
theorem okPb.right {n:Nat}{p:Pb}(h:okPb n p)(hn:1<=n)(hn4:n<=4):Ji p=true/\Qv p.prec=true:=by
 obtain⟨h1,h2,h3,⟨q,q1,q2,h4⟩,h5,h6,h7,h8,h9,h10,h11,h12,h13,h14⟩:=h;have hp:Qv p.prec=true:=by have:=Z1p (p:=p.prec.toNat) oG oG;rwa [show((p.prec.toNat:Nat):Int)=p.prec from oG] at this
 have hu:Qg p.until'=true:=by rw[h4];exact Ux q
 have hu0:0<qN p.until':=by rw[h4];exact(HS q1 q2).2
 have hd:Qg (default:Nm)=true:=(by decide);refine⟨?_,hp⟩;unfold Ji;simp only[q_i,BN];refine⟨⟨⟨⟨⟨⟨⟨⟨⟨⟨⟨⟨⟨h1.right hn hn4,GN (fun i hi=>(h3 i oG).1) oG oG⟩,by rw[h2,h1.1]⟩,hu⟩,h5⟩,h6⟩,?_⟩,?_⟩,v1f h5 h6 h8⟩,hp⟩,h11⟩,oG⟩,h13⟩,oG⟩;exact W0y hu hd (by rw[Kw];exact hu0);exact W0y h6 hd (by rw[Kw];exact h7)
theorem jQ {i:Int}{t h:Nm}{f:Fm}(h0:0<=i)(h1:i<=4096)(ht:Qg t=true)(htn:t.neg=false)(hh:Qg h=true)(hp:0<qN h)(hf:Z4 f=true):Yy ⟨i,t,h,f⟩=true:=by obtain⟨p1,p2⟩:=So hp;unfold Yy;simp only[q_i,BN,EK];exact⟨⟨⟨⟨⟨⟨⟨h0,h1⟩,ht⟩,hh⟩,htn⟩,p2⟩,p1⟩,hf⟩
theorem okPb.begin {n:Nat}{p:Pb}(h:okPb n p)(hn:1<=n)(hn4:n<=4):Vp p=(⟨0,default,p.most,(X6 p.box p.prec).1⟩,0)/\Z4 (X6 p.box p.prec).1=true/\Yy (Vp p).1=true:=by
 obtain⟨r,hp⟩:=h.right hn hn4;obtain⟨h1,h2,h3,_,h5,h6,h7,h8,_⟩:=h;have hf:=K0g (L:=20) (U:=20) (b:=p.box) (p:=p.prec) oG oG (fun i hi=>h3 i oG) hp oG;have e:Vp p=(⟨0,default,p.most,(X6 p.box p.prec).1⟩,0):=by unfold Vp;rw[BC r,BA (by rw[hf.1];simp)]
 refine⟨e,hf.2.1,?_⟩;rw[e];exact jQ oG oG (by decide) rfl h5 (by grind) hf.2.1
theorem Oc {f:Fm}(h1:1<=f.m.length)(h4:f.m.length<=4)(hm: ∀i,i<f.m.length->Qg (f.m.getD i default)=true)(ha:f.a.length=f.m.length)(hr:f.r.length=f.m.length)
 (har: ∀i,i<f.a.length->(f.a.getD i []).length=f.m.length/\ ∀j,j<f.m.length->Qg ((f.a.getD i []).getD j default)=true) (hz: ∀i,i<f.r.length->Ja (f.r.getD i default) default=true):Z4 f=true:=by
 have all: ∀(l:Lx),(∀i,i<l.length->Qg (l.getD i default)=true)->l.all Qg=true:=fun l hl=>by rw[q_d];intro x hx;obtain⟨i,hi,rfl⟩:=vU hx;exact hl i hi
 unfold Z4;simp only[q_i,BN];refine⟨⟨⟨⟨⟨⟨h1,h4⟩,?_⟩,ha⟩,hr⟩,?_⟩,?_⟩;unfold Zy;rw[all _ hm];simp;rw[q_d];intro x hx;obtain⟨i,hi,rfl⟩:=CM.1 hx;have:=har i hi;rw[show f.a.getD i []=f.a[i] by simp[q_a,hi]] at this;unfold Zy;rw[all _ (fun j hj=>this.2 j oG),this.1];simp;rw[q_d];intro x hx;obtain⟨i,hi,rfl⟩:=vU hx;exact hz i hi
theorem x0a (x y:Nm):Ja ⟨JT (Zx x),Zx y⟩ default=true:=by refine(J0q (x0b x y)).2 ⟨?_,?_⟩;show qM (Z6 (JT (Zx x))) (JT (Zx x)).exp<=0;rw[<-XD (JT (Zx x)).exp];exact qM_le.2 (Z0y x);show 0<=qM (Z6 (Zx y)) (Zx y).exp;rw[<-XD (Zx y).exp];exact qM_le.2 (Z0z y)
open Go.Proofs
def ZU (f:Fm):List PV:= [.sl .no (Q5 f.m),.sl .no (Qu f.a),.sl .no (Qj f.r)]
attribute [go_sem] ZU
def Zw (s:Sx):List PV:= [.sc (.int .i64 s.idx),.sc (.bool s.t.neg),.sc (.int .i64 s.t.exp),.sl .no (Qo s.t.w),.sc (.bool s.h.neg),.sc (.int .i64 s.h.exp),.sl .no (Qo s.h.w),.sl .no (Q5 s.f.m),.sl .no (Qu s.f.a),.sl .no (Qj s.f.r)]
attribute [go_sem] Zw
def Zq (p:Pb):List PV:= [.sl .no (QL p.fld),.sl .no (Qj p.box),.sc (.bool p.until'.neg),.sc (.int .i64 p.until'.exp),.sl .no (Qo p.until'.w),.sc (.bool p.most.neg),.sc (.int .i64 p.most.exp),.sl .no (Qo p.most.w),
 .sc (.bool p.least.neg),.sc (.int .i64 p.least.exp),.sl .no (Qo p.least.w),.sc (.int .i64 p.prec),.sc (.int .i64 p.order),.sc (.int .i64 p.budget)]
attribute [go_sem] Zq
def WM (l:List Nm):Prop:=l.length<=100000000000/\ ∀i,i<l.length->wN (l.getD i default)
def wQs (l:List (List Nm)):Prop:=l.length<=100000000000/\ ∀i,i<l.length->WM (l.getD i [])
def wFm (f:Fm):Prop:=WM f.m/\wQs f.a/\wB f.r
def wSx (s:Sx):Prop:=wN s.t/\wN s.h/\wFm s.f
def wPb (p:Pb):Prop:=wF p.fld/\wB p.box/\wN p.until'/\wN p.most/\wN p.least
theorem fm_eq {a b:Fm} :a=b<->a.m=b.m/\a.a=b.a/\a.r=b.r:=by cases a;cases b;simp
theorem sx_eq {a b:Sx} :a=b<->a.idx=b.idx/\a.t=b.t/\a.h=b.h/\a.f=b.f:=by cases a;cases b;simp
theorem Nx {l:Lx}{n:Nat}(h:Zy l n=true)(hn:n<=1000):WM l:=by unfold Zy at h;simp only[q_i,BN,q_d] at h;refine⟨oG,fun i hi=>Q9 (h.1 _ ?_)⟩;rw[q_a,BB hi];exact EA hi
theorem jS {f:Fm}(h:Z4 f=true):wFm f:=by obtain⟨f1,f2,f3,f4,f5,f6,f7⟩:=Kv h;refine⟨Nx (n:=f.m.length) (by unfold Zy;rw[f3];simp) oG,⟨oG,fun i hi=> ?_⟩,⟨oG,fun i hi=> ?_⟩⟩;rw[q_d] at f6;refine Nx (n:=f.m.length) (f6 _ ?_) oG;rw[q_a,BB hi];exact EA hi;have:=ZJ (zw f7 i hi);exact⟨Q9 this.1,Q9 this.2.1⟩
theorem If {s:Sx}(h:Yy s=true):wSx s:=by obtain⟨_,_,h3,h4,h5⟩:=Nq h;exact⟨Q9 h3,Q9 h4,jS h5⟩
def Hb (k:Nat)(x:Fm):Prop:=okL okN k x.m/\okL (okL okN) k x.a/\okL okI k x.r
def Iw (k:Nat)(x:Sx):Prop:=J0m x.idx/\okN k x.t/\okN k x.h/\Hb k x.f
theorem Q0h {k k':Nat}{l:Lx}(h:okL okN k l)(hk:k<=k'):okL okN k' l:=⟨B7 h.1 hk,fun i hi=>U7 (h.2 i hi) hk⟩
theorem Q0i {k k':Nat}{l:Ly}(h:okL (okL okN) k l)(hk:k<=k'):okL (okL okN) k' l:=⟨B7 h.1 hk,fun i hi=>Q0h (h.2 i hi) hk⟩
theorem Q0l {k k':Nat}{x:Fm}(h:Hb k x)(hk:k<=k'):Hb k' x:=⟨Q0h h.1 hk,Q0i h.2.1 hk,Q0j h.2.2 hk⟩
theorem K1d {k k':Nat}{x:Sx}(h:Iw k x)(hk:k<=k'):Iw k' x:=⟨h.1,U7 h.2.1 hk,U7 h.2.2.1 hk,Q0l h.2.2.2 hk⟩
theorem q0s :Ty Tryz.prog 26 1 (fun l:List (List Nm)=> [.sl .no (Qu l)]) (okL (okL okN)):=
 Yt (qX Tryz.underlying26 (by kernel_rfl) Cv (by decide) (fun c=> .sl .no (Q5 c)) (fun _=>rfl)) id (fun _=>rfl) (fun _=>rfl) (fun _ _ h=>h) (fun h hk=>Q0i h hk)
theorem q0v :Ty Tryz.prog 29 3 ZU Hb:=
 Yt (qW Tryz.underlying29 (by kernel_rfl) (V5 Cv rfl (V5 q0s rfl (V5 q0t rfl (xz _)))))
  (fun p=>(⟨p.1,p.2.1,p.2.2.1⟩:Fm)) (fun _=>rfl) (fun _=>rfl) (fun k x h=>(⟨h.1,h.2.1,h.2.2.1⟩:Hb k ⟨x.1,x.2.1,x.2.2.1⟩)) Q0l
theorem q0r :Ty Tryz.prog 31 10 Zw Iw:=
 Yt (qW Tryz.underlying31 (by kernel_rfl) (V5 (Cq Tryz.underlying3 (by kernel_rfl)) rfl (V5 HN rfl (V5 HN rfl (V5 q0v rfl (xz _))))))
  (fun p=>(⟨p.1,p.2.1,p.2.2.1,p.2.2.2.1⟩:Sx)) (fun _=>rfl) (fun _=>rfl) (fun k x h=>(⟨h.1,h.2.1,h.2.2.1,h.2.2.2.1⟩:Iw k ⟨x.1,x.2.1,x.2.2.1,x.2.2.2.1⟩)) K1d
theorem H0t {k:Nat}(hk:k<=2000000){x:Fm}(h:Hb k x):wFm x:=
 ⟨⟨by have:=h.1.1;omega,fun i hi=>Gs hk (h.1.2 i hi)⟩,⟨by have:=h.2.1.1;omega,fun i hi=>⟨by have:=(h.2.1.2 i hi).1;exact B7 this oG,fun j hj=>Gs hk ((h.2.1.2 i hi).2 j hj)⟩⟩,H0w hk h.2.2⟩
theorem H0k {k:Nat}(hk:k<=2000000){x:Sx}(h:Iw k x):wSx x:=⟨Gs hk h.2.1,Gs hk h.2.2.1,H0t hk h.2.2.2⟩
def PV.forgetK :PV->PV
 | .sl .full es=> .sl .full es
 | p=>p.forget2
theorem RepF.forgetK {w:Lw}{g:Gh}{F:Fr}{T:Lv}{v:Value}{p:PV}(h:RepF w g F T v p)(hc:p.closed2=true):Rep w g v p.forgetK:=by
 cases p with
 | sl t es=>
  cases t with
  | full=>cases h with | base _ _ h=>exact h
  | _=>exact RepF.forget2 h hc
 | _=>exact RepF.forget2 h hc
def PFS.giveK (i:Nat)(s:PFS):PFS:=
 ⟨s.pa.map (PV.giv i s.st.length),(s.L.map fun l=>l.map (PV.giv i s.st.length)).set i [],s.T,s.st++ [(s.L.getD i []).map PV.forgetK]⟩
theorem H0e {E:Ent}{s:PFS}(i:Nat)(hi:s.freezeOK i)(hne:s.L.getD i []≠ []):Weak E s (s.giveK i):=by
 intro a w g F h;obtain⟨l1,l2,l3⟩:=h.frame.lo i hne;have hall:=List.all_eq_true.1 hi
 let g':Gh:= { g with n:=g.n+1,mu:=fun k=>if k=g.n then F.lmu i else g.mu k }
 have hmu: ∀k,k<g.n->g'.mu k=g.mu k:=fun k hk=>BA oG;have hmun:g'.mu g.n=F.lmu i:=BC rfl;have hLe:Le w g w g':=⟨Nat.le_succ _,hmu,fun _=>BD _,fun _ _ _ _ hc=>hc⟩;have htok:K6 w g F s.T w g' F s.T:=⟨BD _,fun k hk=>⟨BD _,fun _ v es hR=>hR.mono fun b hb=>⟨rfl,rfl⟩⟩⟩;have hm: ∀v p,RepF w g F s.T v p->RepF w g' F s.T v p:=fun v p hr=>hr.mono hLe (BD _) (fun _ _=>rfl) htok;have en:s.st.length=g.n:=h.store.n.symm;have hf: ∀v p,RepF w g F s.T v p->RepF w g' F s.T v (p.giv i s.st.length):=fun v p hp=>RepF.giv hm (by rw[en];exact Nat.lt_succ_self _) (by rw[en];exact hmun) hp;have hL: ∀k,((s.L.map fun l=>l.map (PV.giv i s.st.length)).set i []).getD k []≠ []->k≠i/\s.L.getD k []≠ []/\((s.L.map fun l=>l.map (PV.giv i s.st.length)).set i []).getD k []=(s.L.getD k []).map (PV.giv i s.st.length):=fun k hk=>by
  by_cases hki:i=k;subst hki;exfalso;apply hk;exact Yf _ _;have e:((s.L.map fun l=>l.map (PV.giv i s.st.length)).set i []).getD k []=(s.L.getD k []).map (PV.giv i s.st.length):=by rw[<-UQ (f:=fun l=>l.map (PV.giv i s.st.length)) rfl];simp[q_a,DR hki]
  exact⟨fun e=>hki e.symm,fun e0=>hk (by rw[e,e0];rfl),e⟩
 have hst0: ∀j,j<g.n->(s.st++ [(s.L.getD i []).map PV.forgetK]).getD j []=s.st.getD j []:=fun j hj=>(by rw[q_a,B6 oG,<-q_a]);have hst1:(s.st++ [(s.L.getD i []).map PV.forgetK]).getD g.n []=(s.L.getD i []).map PV.forgetK:=(by rw[q_a,CA oG,<-en];simp);have hst:StoreOK w g' (s.st++ [(s.L.getD i []).map PV.forgetK]):=(by refine⟨by simp[g',h.store.n],fun j k hj hk e=> ?_,fun j hj=> ?_,fun j hj hj0=> ?_,fun j hj=> ?_,h.store.none,h.store.tab⟩;have hj:j<g.n+1:=hj;have hk:k<g.n+1:=hk;by_cases e1:j=g.n;by_cases e2:k=g.n;omega;rw[e1,hmun,hmu k oG] at e;exact absurd e.symm (h.frame.apart i hne k oG);by_cases e2:k=g.n;rw[e2,hmun,hmu j oG] at e;exact absurd e (h.frame.apart i hne j oG);rw[hmu j oG,hmu k oG] at e;exact h.store.inj j k oG oG e;have hj:j<g.n+1:=hj;by_cases e1:j=g.n;rw[e1,hmun];exact l2;rw[hmu j oG];exact h.store.lt j oG;have hj:j<g.n+1:=hj;by_cases e1:j=g.n;rw[e1,hmun];exact l3;rw[hmu j oG];rw[hst0 j oG] at hj0;exact h.store.vis j oG hj0;have hj:j<g.n+1:=hj;by_cases e1:j=g.n;subst e1;rw[hmun,hst1];intro k hk;have hk':k<(s.L.getD i []).length:=(by simpa using hk);obtain⟨q1,c,q2,q3⟩:=h.frame.holds i hne k hk';refine⟨q1,c,q2,?_⟩;have e:((s.L.getD i []).map PV.forgetK).getD k .junk=((s.L.getD i []).getD k .junk).forgetK:=X5 (f:=PV.forgetK) rfl _ _;rw[e];exact(hm _ _ q3).forgetK (CR.1 (hall _ (QE _ _ _ hk'))).1;rw[hmu j oG,hst0 j oG];exact(h.store.holds j oG).mono rfl fun v p hr=>hr.mono hLe);have hext:Ext E.w E.g w g':=(by refine⟨h.ext.le.trans hLe,h.ext.os,h.ext.tape,h.ext.output,h.ext.size,h.ext.old,fun j h1 h2=> ?_⟩;have h2:j<g.n+1:=h2;by_cases e1:j=g.n;rw[e1,hmun];exact l1;rw[hmu j oG];exact h.ext.new j h1 oG);refine⟨g',F,⟨hext,hst,⟨by simp[PFS.giveK,h.frame.nl],fun k hk=> ?_,fun k hk j hj=> ?_,fun k j hk hj=> ?_,fun k hk=> ?_,h.frame.tlo,fun k b hk hb=>⟨fun j hj=> ?_,fun j hj=> ?_⟩,h.frame.tinj⟩,h.defers,by simp[PFS.giveK,h.len],fun t ht=> ?_⟩⟩;exact h.frame.lo k (hL k hk).2.1;have hj:j<g.n+1:=hj;obtain⟨h1,h2,h3⟩:=hL k hk;by_cases e1:j=g.n;rw[e1,hmun];exact fun e=>h1 (h.frame.inj k i h2 hne e.symm);rw[hmu j oG];exact h.frame.apart k h2 j oG;exact h.frame.inj k j (hL k hk).2.1 (hL j hj).2.1;obtain⟨h1,h2,h3⟩:=hL k hk;show Holds w _ _ (((s.L.map fun l=>l.map (PV.giv i s.st.length)).set i []).getD k []);rw[h3];intro j hj;obtain⟨q1,c,q2,q3⟩:=h.frame.holds k h2 j (by simpa using hj);exact⟨q1,c,q2,by rw[X5 (f:=PV.giv i s.st.length) rfl];exact hf _ _ q3⟩;have hj:j<g.n+1:=hj;by_cases e1:j=g.n;rw[e1,hmun];exact(h.frame.tapart k b hk hb).2 i hne;rw[hmu j oG];exact(h.frame.tapart k b hk hb).1 j oG;exact(h.frame.tapart k b hk hb).2 j (hL j hj).2.1;simp only[PFS.giveK] at ht⊢;show RepF w g' F s.T _ ((s.pa.map (PV.giv i s.st.length)).getD t .junk);rw[X5 (f:=PV.giv i s.st.length) rfl];exact hf _ _ (h.tmps t (by simpa using ht))
@[go_sem] theorem Y2b {i:Nat}{pa:Lp}{L st:Qc}{T:Lv} :(PFS.mk pa L T st).giveK i=⟨pa.map (PV.giv i st.length),(L.map fun l=>l.map (PV.giv i st.length)).set i [],T,st++ [(L.getD i []).map PV.forgetK]⟩:=(rfl)
@[go_sem] theorem Y2r {es:Lp} :PV.forgetK (.sl .full es)= .sl .full es:=(rfl)
@[go_sem] theorem Y2q {es:Lp} :PV.forgetK (.sl .no es)= .sl .no es:=(rfl)
@[go_sem] theorem Y2p {v:Value} :PV.forgetK (.sc v)= .sc v:=(rfl)
theorem Rm {P:Pg}{E:Ent}{c:Code}{Q:Pe}{s:PFS}(i:Nat)(hi:s.freezeOK i)(hne:s.L.getD i []≠ [])(h:PWP P E c Q (s.giveK i)):PWP P E c Q s:=J0 (H0e i hi hne) h
set_option maxRecDepth 100000
theorem K0j (l:Lx)(n:Nat)(st:Qc)(hw:WM l)(hn:n<=1000000000000):PR 96 [.sl .no (Q5 l),.sc (.int .i64 n)] st (.sc (.bool (Zy l n))):=by
 obtain⟨hl,hw⟩:=hw;refine Ql Tryz.func96 fun E=> ?_;refine Q1 [true,true,false,false,false,false,false,true,true,true] 0 0 (fun m s=> ∃i,m=l.length-i/\i<=l.length/\(∀j,j<i->Qg (l.getD j default)=true)/\
  s=⟨[.sl .no (Q5 l),.sc (.int .i64 n),.junk,.junk,.junk,.junk,.junk,.sl .no (Q5 l),.sc (.int .i64 l.length),.sc (.int .i64 (i:Nat))]++jk 11,[],[],st⟩) l.length ?_ ?_
 refine Qq ?_;exact⟨0,oG,oG,fun j hj=>absurd hj (CD j),rfl⟩;rintro m s ⟨i,rfl,hi,hr,rfl⟩;refine QS ?_ ?_<;>intro h1;have hlt:i<l.length:=(oT h1);have g1:=JV l i hlt;have wi:=hw i hlt;unfold wN at wi;have x1:=J2v i oG;simp-dsimp only[go_sem,g1];refine⟨oG,?_⟩;refine(XY (l.getD i default) st oG).Q ?_;refine ck ?_ ?_<;>intro h2;have hf:Qg (l.getD i default)=false:=(by simpa using h2);refine Qq ?_;have:Zy l n=false:=CS.2 fun e=>by unfold Zy at e;rw[q_i] at e;rw[(Vr l Qg).1 e.1 i hlt] at hf;cases hf
 rw[this];have ht:Qg (l.getD i default)=true:=(by simpa using h2);simp-dsimp only[go_sem,x1];refine⟨l.length-(i+1),oG,i+1,rfl,oG,fun j hj=> ?_,rfl⟩;by_cases e:j=i;subst e;exact ht;exact hr j oG;have hge:i=l.length:=(oF h1);refine Qq ?_;refine Qp ?_;have ha:l.all Qg=true:=(Vr l Qg).2 fun j hj=>hr j oG;have e:((l.length:Int)==(n:Int))=decide (l.length=n):=(by rw[E3];simp;omega);rw[e,Zy,ha,FB]
theorem w6 (f:Fm)(st:Qc)(hw:wFm f):PR 47 [.agg (ZU f)] st (.sc (.bool (Z4 f))):=by
 obtain⟨wm,⟨wal,wa⟩,wr⟩:=hw;have wml:=wm.1;have wrl:=wr.1;have no: ¬Z4 f=true->Z4 f=false:=fun h=>(by simpa using h);refine Qh none Tryz.func47 rfl fun E=>Qb ?_;by_cases h1:1<=f.m.length;rotate_left;have d1:decide ((f.m.length:Int)<1)=true:=q_h oG;simp-dsimp only[go_sem,d1];rw[no fun e=>h1 (Kv e).1];have d1:decide ((f.m.length:Int)<1)=false:=q_g oG;by_cases h2:f.m.length<=4;rotate_left;have d2:decide ((f.m.length:Int)>4)=true:=q_h oG;simp-dsimp only[go_sem,d1,d2];rw[no fun e=>h2 (Kv e).2.1];have d2:decide ((f.m.length:Int)>4)=false:=q_g oG;simp-dsimp only[go_sem,d1,d2];refine(K0j f.m f.m.length st wm oG).q ?_;cases h3:Zy f.m f.m.length with
 | false=>
  simp-dsimp only[go_sem,d1,d2];rw[no fun e=>by unfold Z4 at e;rw[h3] at e;simp at e]
 | true=>
 by_cases h4:f.a.length=f.m.length;rotate_left;have d4:((f.a.length:Int) !=(f.m.length:Int))=true:=BV.2 oG;simp-dsimp only[go_sem,d1,d2,d4];rw[no fun e=>h4 (Kv e).2.2.2.1];have d4:((f.a.length:Int) !=(f.m.length:Int))=false:=(by rw[h4];simp);by_cases h5:f.r.length=f.m.length;rotate_left;have d5:((f.r.length:Int) !=(f.m.length:Int))=true:=BV.2 oG;simp-dsimp only[go_sem,d1,d2,d4,d5];rw[no fun e=>h5 (Kv e).2.2.2.2.1];have d5:((f.r.length:Int) !=(f.m.length:Int))=false:=(by rw[h5];simp);simp-dsimp only[go_sem,d1,d2,d4,d5];have key:Z4 f=true<-> ∀j,j<f.m.length->Zy (f.a.getD j []) f.m.length=true/\Ja (f.r.getD j default) default=true:=by unfold Z4;simp only[q_i,BN,h1,h2,h3,h4,h5,F7,q_d];refine⟨fun⟨q1,q2⟩ j hj=>⟨q1 _ ?_,q2 _ ?_⟩,fun h=>⟨fun x hx=> ?_,fun x hx=> ?_⟩⟩;rw[q_a,BB oG];exact EA _;rw[q_a,BB oG];exact EA _;obtain⟨i,hi,rfl⟩:=CM.1 hx;have:=(h i oG).1;rwa [q_a,BB hi] at this;obtain⟨i,hi,rfl⟩:=vU hx;exact(h i oG).2
 refine Q1 ([false,true,false,true]++rF 31++ [true,true]) 1 0
  (fun m s=> ∃i,m=f.m.length-i/\i<=f.m.length/\(∀j,j<i->Zy (f.a.getD j []) f.m.length=true/\Ja (f.r.getD j default) default=true)/\
   s=⟨[.junk,.lp 0 0,.junk,.sc (.int .i64 f.m.length)]++(jk 31++([.sc (.int .i64 f.m.length),.sc (.int .i64 (i:Nat))]++jk 21)),[ZU f],[],st⟩) f.m.length ?_ ?_
 refine Qq ?_;exact⟨0,oG,oG,fun j hj=>absurd hj (CD j),rfl⟩;rintro m s ⟨i,rfl,hi,hr,rfl⟩;refine QS ?_ ?_<;>intro h6;have hlt:i<f.m.length:=(oT h6);have g1:=V8 f.a i oG;have g2:=Zr f.r i oG;have x1:=J2v i oG;simp-dsimp only[go_sem,g1];refine⟨oG,?_⟩;refine(K0j (f.a.getD i []) f.m.length st (wa i oG) oG).q ?_;cases h7:Zy (f.a.getD i []) f.m.length with
 | false=>
  refine Qq ?_;rw[no fun e=>by have:=(key.1 e i hlt).1;rw[h7] at this;cases this]
 | true=>
  simp-dsimp only[go_sem,g2];refine⟨oG,?_⟩;refine(G1k (f.r.getD i default) default st (wr.2 i oG) (by show([]:Lu).length<=_;simp)).q ?_;cases h8:Ja (f.r.getD i default) default with
  | false=>
   refine Qq ?_;rw[no fun e=>by have:=(key.1 e i hlt).2;rw[h8] at this;cases this]
  | true=>
   simp-dsimp only[go_sem,x1];refine⟨f.m.length-(i+1),oG,i+1,rfl,oG,fun j hj=> ?_,rfl⟩;by_cases e:j=i;subst e;exact⟨h7,h8⟩;exact hr j oG
 have hge:i=f.m.length:=oF h6
 refine Qq ?_;refine Qp ?_;rw[key.2 fun j hj=>hr j oG]
def Xj (a:List (List Nm)):Bool:=(a.all fun r=>Zy r a.length)&&decide (1<=a.length)&&decide (a.length<=4)
theorem rightQ_iff {a:Ly} :Xj a=true<->(∀j,j<a.length->Zy (a.getD j []) a.length=true)/\1<=a.length/\a.length<=4:=by unfold Xj;simp only[q_i,BN,q_d];constructor;rintro⟨⟨h,h1⟩,h2⟩;exact⟨fun j hj=>h _ (by rw[q_a,BB hj];exact EA _),h1,h2⟩;rintro⟨h,h1,h2⟩;refine⟨⟨fun x hx=> ?_,h1⟩,h2⟩;obtain⟨i,hi,rfl⟩:=CM.1 hx;have:=h i hi;rwa [q_a,BB hi] at this
theorem w0o (a:Ly)(st:Qc)(hw:wQs a):PR 101 [.sl .no (Qu a)] st (.sc (.bool (Xj a))):=by
 obtain⟨hl,hw⟩:=hw;refine Ql Tryz.func101 fun E=> ?_;refine Q1 [true,false,false,true] 0 0 (fun n s=> ∃i,n=a.length-i/\i<=a.length/\(∀j,j<i->Zy (a.getD j []) a.length=true)/\s=⟨[.sl .no (Qu a),.junk,.junk,.sc (.int .i64 (i:Nat))]++jk 45,[],[],st⟩) a.length ?_ ?_;refine Qq ?_;exact⟨0,oG,oG,fun j hj=>oG,rfl⟩;rintro n s ⟨i,rfl,hi,hr,rfl⟩;have fin:i=a.length\/ ¬(i:Int)<4->decide ((a.length:Int)>0)=true->decide ((a.length:Int)<=4)=Xj a:=fun h h1=>by have h1:=q_b h1;rw[E3,rightQ_iff,D0];exact⟨fun h4=>⟨fun j hj=>hr j oG,oG,oG⟩,fun hh=>oG⟩
 have fin0:decide ((a.length:Int)>0)=false->Xj a=false:=fun h=>CS.2 fun e=>by have:=q_c h;have:=(rightQ_iff.1 e).2.1;omega
 refine Qq ?_;refine gkT ?_ ?_<;>intro h;have hlt:i<a.length:=(oT h);simp-dsimp only[go_sem,h];refine ck ?_ ?_<;>intro h4;have e1:=V8 a i hlt;have e3:=Zd i oG;have wi:=hw i hlt;have wil:=wi.1;simp-dsimp only[go_sem,e1];refine⟨oG,?_⟩;refine ck ?_ ?_<;>intro h2;have hn:=Ve h2;refine Qq ?_;have:Xj a=false:=CS.2 fun e=>hn (by have:=(rightQ_iff.1 e).1 i hlt;unfold Zy at this;simp at this;exact this.2);rw[this];have hn:=Kg h2;refine Qq ?_;refine Q1 [true,false,false,true,true] 0 0 (fun n s=> ∃k,n=(a.getD i []).length-k/\k<=(a.getD i []).length/\(∀j,j<k->Qg ((a.getD i []).getD j default)=true)/\s=⟨[.sl .no (Qu a),.junk,.junk,.sc (.int .i64 (i:Nat)),.sc (.int .i64 (k:Nat))]++jk 44,[],[],st⟩) (a.getD i []).length ?_ ?_;refine Qq ?_;exact⟨0,oG,oG,fun j hj=>oG,rfl⟩;rintro n s ⟨k,rfl,hk,hrk,rfl⟩;simp-dsimp only[go_sem,e1];refine⟨oG,?_⟩;refine ck ?_ ?_<;>intro h5;have hklt:k<(a.getD i []).length:=(oT h5);have e2:=JV (a.getD i []) k hklt;have e4:=Zd k oG;have wk:=wi.2 k hklt;unfold wN at wk;simp-dsimp only[go_sem,e1,e2];refine⟨oG,oG,?_⟩;refine(Jy _ st oG).Q ?_;refine ck ?_ ?_<;>intro h6;have hf:Qg ((a.getD i []).getD k default)=false:=(by simpa using h6);refine Qq ?_;have:Xj a=false:=CS.2 fun e=>by have:=(rightQ_iff.1 e).1 i hlt;unfold Zy at this;rw[q_i] at this;rw[(Vr _ Qg).1 this.1 k hklt] at hf;cases hf
 rw[this];have ht:Qg ((a.getD i []).getD k default)=true:=(by simpa using h6);simp-dsimp only[go_sem,e4];refine⟨(a.getD i []).length-(k+1),oG,k+1,rfl,oG,fun j hj=> ?_,rfl⟩;by_cases e:j=k;subst e;exact ht;exact hrk j oG;have hge:k=(a.getD i []).length:=(oF h5);refine Qq ?_;refine Qb ?_;simp-dsimp only[go_sem,e3];refine⟨a.length-(i+1),oG,i+1,rfl,oG,fun j hj=> ?_,rfl⟩;by_cases e:j=i;subst e;unfold Zy;rw[(Vr _ Qg).2 fun j hj=>hrk j oG,q_h hn];rfl;exact hr j oG;have h4':=q_c h4;refine Qq ?_;refine Qp ?_;refine gkT ?_ ?_<;>intro h;simp-dsimp only[go_sem,h];rw[fin (.inr h4') h];simp-dsimp only[go_sem,h];rw[fin0 h];have hge:i=a.length:=(oF h);simp-dsimp only[go_sem,h];refine Qp ?_;refine gkT ?_ ?_<;>intro h;simp-dsimp only[go_sem,h];rw[fin (.inl hge) h];simp-dsimp only[go_sem,h];rw[fin0 h]
theorem w0x (f:Fm)(st:Qc)(hw:wFm f):PR 50 [.agg (ZU f)] st (.sc (.bool (Z4 f))):=by
 obtain⟨wm,wa,wr⟩:=hw;have wml:=wm.1;have wal:=wa.1;have wrl:=wr.1;have no: ¬Z4 f=true->Z4 f=false:=fun h=>(by simpa using h);refine Qh none Tryz.func50 rfl fun E=>Qb ?_;by_cases h1:1<=f.m.length;rotate_left;have d1:decide ((f.m.length:Int)<1)=true:=q_h oG;simp-dsimp only[go_sem,d1];rw[no fun e=>h1 (Kv e).1];have d1:decide ((f.m.length:Int)<1)=false:=q_g oG;by_cases h2:f.m.length<=4;rotate_left;have d2:decide ((f.m.length:Int)>4)=true:=q_h oG;simp-dsimp only[go_sem,d1,d2];rw[no fun e=>h2 (Kv e).2.1];have d2:decide ((f.m.length:Int)>4)=false:=q_g oG;by_cases h4:f.a.length=f.m.length;rotate_left;have d4:((f.a.length:Int) !=(f.m.length:Int))=true:=BV.2 oG;simp-dsimp only[go_sem,d1,d2,d4];rw[no fun e=>h4 (Kv e).2.2.2.1];have d4:((f.a.length:Int) !=(f.m.length:Int))=false:=(by rw[h4];simp);by_cases h5:f.r.length=f.m.length;rotate_left;have d5:((f.r.length:Int) !=(f.m.length:Int))=true:=BV.2 oG;simp-dsimp only[go_sem,d1,d2,d4,d5];rw[no fun e=>h5 (Kv e).2.2.2.2.1];have d5:((f.r.length:Int) !=(f.m.length:Int))=false:=(by rw[h5];simp);simp-dsimp only[go_sem,d1,d2,d4,d5];have key:Z4 f=true<->Xj f.a=true/\rightB f.r=true/\ ∀j,j<f.m.length->Qg (f.m.getD j default)=true/\Ja (f.r.getD j default) default=true:=by constructor;intro h;obtain⟨p1,p2,p3,p4,p5,p6,p7⟩:=Kv h;refine⟨?_,p7,fun j hj=>⟨(Vr _ Qg).1 p3 j hj,?_⟩⟩;unfold Xj;rw[h4,p6];simp;omega;unfold Z4 at h;simp only[q_i,q_d] at h;refine h.2 _ ?_;rw[q_a,BB oG];exact EA _;rintro⟨q1,q2,q3⟩;refine Oc h1 h2 (fun i hi=>(q3 i hi).1) h4 h5 (fun i hi=> ?_) fun i hi=>(q3 i oG).2;have:=(rightQ_iff.1 q1).1 i hi;unfold Zy at this;simp only[q_i,BN] at this;exact⟨oG,fun j hj=>(Vr _ Qg).1 this.1 j oG⟩
 refine(w0o f.a st wa).q ?_;cases h3:Xj f.a with
 | false=>
  simp-dsimp only[go_sem,d1,d2,d4,d5];rw[no fun e=>by have:=(key.1 e).1;rw[h3] at this;cases this]
 | true=>
 simp-dsimp only[go_sem,d1,d2,d4,d5];refine(Ig f.r st wr).q ?_;cases h9:rightB f.r with
 | false=>
  simp-dsimp only[go_sem,d1,d2,d4,d5];rw[no fun e=>by have:=(key.1 e).2.1;rw[h9] at this;cases this]
 | true=>
 simp-dsimp only[go_sem,d1,d2,d4,d5];refine Q1 [false,true,false,true,true] 1 0
  (fun m s=> ∃i,m=f.m.length-i/\i<=f.m.length/\(∀j,j<i->Qg (f.m.getD j default)=true/\Ja (f.r.getD j default) default=true)/\
   s=⟨[.junk,.lp 0 0,.junk,.sc (.int .i64 f.m.length),.sc (.int .i64 (i:Nat))]++jk 57,[ZU f],[],st⟩) f.m.length ?_ ?_
 refine Qq ?_;exact⟨0,oG,oG,fun j hj=>absurd hj (CD j),rfl⟩;rintro m s ⟨i,rfl,hi,hr,rfl⟩;refine QS ?_ ?_<;>intro h6;have hlt:i<f.m.length:=(oT h6);have g1:=JV f.m i oG;have g2:=Zr f.r i oG;have x1:=Zd i oG;have wi:=wm.2 i hlt;unfold wN at wi;simp-dsimp only[go_sem,g1];refine⟨oG,?_⟩;refine(Jy (f.m.getD i default) st oG).q ?_;cases h7:Qg (f.m.getD i default) with
 | false=>
  refine Qq ?_;rw[no fun e=>by have:=((key.1 e).2.2 i hlt).1;rw[h7] at this;cases this]
 | true=>
  simp-dsimp only[go_sem,g2];refine⟨oG,?_⟩;refine(y0m (f.r.getD i default) default st (wr.2 i oG) (by show([]:Lu).length<=_;simp)).q ?_;cases h8:Ja (f.r.getD i default) default with
  | false=>
   refine Qq ?_;rw[no fun e=>by have:=((key.1 e).2.2 i hlt).2;rw[h8] at this;cases this]
  | true=>
   simp-dsimp only[go_sem,x1];refine⟨f.m.length-(i+1),oG,i+1,rfl,oG,fun j hj=> ?_,rfl⟩;by_cases e:j=i;subst e;exact⟨h7,h8⟩;exact hr j oG
 have hge:i=f.m.length:=oF h6
 refine Qq ?_;refine Qp ?_;rw[key.2 ⟨h3,h9,fun j hj=>hr j oG⟩]
theorem Ys {q:Lx}(h:wNs q):wB (ofB q):=by obtain⟨h1,h2⟩:=h;refine⟨by simpa[ofB] using h1,fun i hi=> ?_⟩;have hi':i<q.length:=(by simpa[ofB] using hi);have e:(ofB q).getD i default=⟨q.getD i default,q.getD i default⟩:=(by simp[ofB,q_a,hi']);rw[e];exact⟨h2 i hi',h2 i hi'⟩
theorem vu {b:Li}{p:Int}(h:(QJ b p).2=0):1<=b.length/\b.length<=4:=by unfold QJ at h;split at h;rename_i hc;have:=Wx hc.1;exact⟨this.1,this.2⟩;exact absurd h (by decide)
theorem q1q (b:Li)(p:Int)(st:Qc)(hb:wB b):PR 62 [.sl .no (Qj b),.sc (.int .i64 p)] st (.tup [.agg (ZU (X6 b p).1),.sc (.int .i64 (X6 b p).2)]):=by
 refine Qh none Tryz.func62 rfl fun E=>Qe (Qb ?_);have wm:=jd b p hb;have wo:=Ys wm;refine Qq ?_;refine Qa ?_;refine(W1t b p st hb).Q ?_;refine Qe (Qb ?_);unfold X6;by_cases h1:(QJ b p).2=0;rotate_left;have d1:((QJ b p).2 !=0)=true:=BV.2 h1;rw[BC h1];simp-dsimp only[go_sem,d1];rfl;have d1:((QJ b p).2 !=0)=false:=(by rw[h1];rfl);have c1: ¬((QJ b p).2≠0):=fun h=>h h1;rw[BA c1];simp-dsimp only[go_sem,d1];refine Qa ?_;refine(X1h (QJ b p).1 st wm).plain.Q ?_;refine(J1u b (ofB (QJ b p).1) p st hb wo).Q ?_;refine Qe (Qb ?_);by_cases h2:(opB 1 b (ofB (QJ b p).1) p).2=0;rotate_left;have d2:((opB 1 b (ofB (QJ b p).1) p).2 !=0)=true:=BV.2 h2;rw[BC h2];simp-dsimp only[go_sem,d2];rfl;have d2:((opB 1 b (ofB (QJ b p).1) p).2 !=0)=false:=(by rw[h2];rfl);have c2: ¬((opB 1 b (ofB (QJ b p).1) p).2≠0):=fun h=>h h2;rw[BA c2];simp-dsimp only[go_sem,d2];refine Qp ?_;refine(J1x (b.length:Int) st).Q ?_;have hl:=vu h1;have e:KM (b.length:Int)=zR b.length:=(by rw[KM,BC oG];rfl);rw[e]
theorem Nu (p:Pb)(st:Qc)(hw:wPb p):PR 48 [.agg (Zq p)] st (.sc (.bool (Ji p))):=by
 obtain⟨wf,wb,w1,w2,w3⟩:=hw;have wfl:=wf.1;have wbl:=wb.1;unfold wN at w1 w2 w3;have wz:(default:Nm).w.length<=100000000000:=(by show([]:Lu).length<=_;simp);have no: ¬Ji p=true->Ji p=false:=fun h=>(by simpa using h);have parts:Ji p=true<->ZY p.fld=true/\rightB p.box=true/\p.box.length=p.fld.length/\Qg p.until'=true/\Qg p.most=true/\Qg p.least=true/\0<Q6 p.until' default/\0<Q6 p.least default/\0<=Q6 p.most p.least/\Qv p.prec=true/\2<=p.order/\p.order<=10/\1<=p.budget/\p.budget<=4096:=by unfold Ji;simp only[q_i,BN,and_assoc]
 refine Qh none Tryz.func48 rfl fun E=>Qe (Qb ?_);refine Qq ?_;refine Qa ?_;refine(y0h p.fld st wf).q ?_;cases q1:ZY p.fld with
 | false=>
  refine Qq ?_;rw[no fun e=>by have:=(parts.1 e).1;rw[q1] at this;cases this]
 | true=>
 refine Qq ?_;refine(Ig p.box st wb).q ?_;cases q2:rightB p.box with
 | false=>
  refine Qq ?_;rw[no fun e=>by have:=(parts.1 e).2.1;rw[q2] at this;cases this]
 | true=>
 by_cases q3:p.box.length=p.fld.length;rotate_left;have d3:((p.box.length:Int) !=(p.fld.length:Int))=true:=BV.2 oG;simp-dsimp only[go_sem,d3];rw[no fun e=>q3 (parts.1 e).2.2.1];have d3:((p.box.length:Int) !=(p.fld.length:Int))=false:=(by rw[q3];simp);simp-dsimp only[go_sem,d3];refine(Jy p.until' st oG).q ?_;cases q4:Qg p.until' with
 | false=>
  simp-dsimp only[go_sem,d3];rw[no fun e=>by have:=(parts.1 e).2.2.2.1;rw[q4] at this;cases this]
 | true=>
 simp-dsimp only[go_sem,d3];refine(Jy p.most st oG).q ?_;cases q5:Qg p.most with
 | false=>
  simp-dsimp only[go_sem,d3];rw[no fun e=>by have:=(parts.1 e).2.2.2.2.1;rw[q5] at this;cases this]
 | true=>
 simp-dsimp only[go_sem,d3];refine(Jy p.least st oG).q ?_;cases q6:Qg p.least with
 | false=>
  simp-dsimp only[go_sem,d3];rw[no fun e=>by have:=(parts.1 e).2.2.2.2.2.1;rw[q6] at this;cases this]
 | true=>
 simp-dsimp only[go_sem,d3];refine Qa ?_;refine Qp ?_;refine(WF p.until' default st oG oG).q ?_;by_cases q7:0<Q6 p.until' default;rotate_left;have d7:decide (Q6 p.until' default>0)=false:=q_g oG;simp-dsimp only[go_sem,d7];rw[no fun e=>q7 (parts.1 e).2.2.2.2.2.2.1];have d7:decide (Q6 p.until' default>0)=true:=q_h oG;simp-dsimp only[go_sem,d7];refine(WF p.least default st oG oG).q ?_;by_cases q8:0<Q6 p.least default;rotate_left;have d8:decide (Q6 p.least default>0)=false:=q_g oG;simp-dsimp only[go_sem,d7,d8];rw[no fun e=>q8 (parts.1 e).2.2.2.2.2.2.2.1];have d8:decide (Q6 p.least default>0)=true:=q_h oG;simp-dsimp only[go_sem,d7,d8];refine(WF p.most p.least st oG oG).q ?_;by_cases q9:0<=Q6 p.most p.least;rotate_left;have d9:decide (Q6 p.most p.least>=0)=false:=q_g oG;simp-dsimp only[go_sem,d7,d8,d9];rw[no fun e=>q9 (parts.1 e).2.2.2.2.2.2.2.2.1];have d9:decide (Q6 p.most p.least>=0)=true:=q_h oG;simp-dsimp only[go_sem,d7,d8,d9];refine(Z1o p.prec st).q ?_;cases q10:Qv p.prec with
 | false=>
  simp-dsimp only[go_sem,d7,d8,d9];rw[no fun e=>by have:=(parts.1 e).2.2.2.2.2.2.2.2.2.1;rw[q10] at this;cases this]
 | true=>
 by_cases q11:2<=p.order;rotate_left;have d11:decide (p.order>=2)=false:=q_g oG;simp-dsimp only[go_sem,d7,d8,d9,d11];rw[no fun e=>q11 (parts.1 e).2.2.2.2.2.2.2.2.2.2.1];have d11:decide (p.order>=2)=true:=q_h oG;by_cases q12:p.order<=10;rotate_left;have d12:decide (p.order<=10)=false:=q_g oG;simp-dsimp only[go_sem,d7,d8,d9,d11,d12];rw[no fun e=>q12 (parts.1 e).2.2.2.2.2.2.2.2.2.2.2.1];have d12:decide (p.order<=10)=true:=q_h oG;by_cases q13:1<=p.budget;rotate_left;have d13:decide (p.budget>=1)=false:=q_g oG;simp-dsimp only[go_sem,d7,d8,d9,d11,d12,d13];rw[no fun e=>q13 (parts.1 e).2.2.2.2.2.2.2.2.2.2.2.2.1];have d13:decide (p.budget>=1)=true:=q_h oG;by_cases q14:p.budget<=4096;rotate_left;have d14:decide (p.budget<=4096)=false:=q_g oG;simp-dsimp only[go_sem,d7,d8,d9,d11,d12,d13,d14];rw[no fun e=>q14 (parts.1 e).2.2.2.2.2.2.2.2.2.2.2.2.2];have d14:decide (p.budget<=4096)=true:=q_h oG;simp-dsimp only[go_sem,d7,d8,d9,d11,d12,d13,d14];rw[parts.2 ⟨q1,q2,q3,q4,q5,q6,q7,q8,q9,q10,q11,q12,q13,q14⟩]
theorem y0p (p:Pb)(st:Qc)(hw:wPb p):PR 27 [.agg (Zq p)] st (.tup [.agg (Zw (Vp p).1),.sc (.int .i64 (Vp p).2)]):=by
 refine Qh none Tryz.func27 rfl fun E=>Qe (Qb ?_);refine Qq ?_;refine Qa ?_;have c0:PR 48 [.agg (Zq p)] st (.sc (.bool (Ji p))):=Nu p st hw;refine c0.q ?_;unfold Vp;cases h1:Ji p with
 | false=>
  rw[BA (by simp)];refine Qq ?_;rfl
 | true=>
  rw[BC rfl];refine Qq ?_;refine Qa ?_;refine(q1q p.box p.prec st hw.2.1).Q ?_;refine Qe (Qb ?_);by_cases h2:(X6 p.box p.prec).2=0;rotate_left;have d2:((X6 p.box p.prec).2 !=0)=true:=BV.2 h2;rw[BC h2];simp-dsimp only[go_sem,d2];rfl;have d2:((X6 p.box p.prec).2 !=0)=false:=(by rw[h2];rfl);have c2: ¬((X6 p.box p.prec).2≠0):=fun h=>h h2;rw[BA c2];simp-dsimp only[go_sem,d2];refine Qp ?_;rfl
theorem Q0y {a b:Lx}(h:a.length=b.length)(he: ∀i,i<a.length->a.getD i default=b.getD i default):a=b:=by refine C9 h fun i h1 h2=> ?_;have:=he i h1;rwa [q_a,q_a,BB h1,BB h2] at this
theorem Q1m {a b:Ly}(h:a.length=b.length)(he: ∀i,i<a.length->a.getD i []=b.getD i []):a=b:=by refine C9 h fun i h1 h2=> ?_;have:=he i h1;rwa [q_a,q_a,BB h1,BB h2] at this
theorem v0f (a b:Fm)(st:Qc)(ha:wFm a)(hb:wFm b):PR 53 [.agg (ZU a),.agg (ZU b)] st (.sc (.bool (decide (a=b)))):=by obtain⟨⟨am,am2⟩,⟨aa,aa2⟩,ar⟩:=ha;obtain⟨⟨bm,bm2⟩,⟨ba,ba2⟩,br⟩:=hb;have no: ¬a=b->decide (a=b)=false:=fun h=>q_g h;refine Qh none Tryz.func53 rfl fun E=>Qe (Qb ?_);refine Qq ?_;refine Qe (Qb ?_);by_cases h1:a.m.length=b.m.length;rotate_left;have d1:((a.m.length:Int) !=(b.m.length:Int))=true:=BV.2 oG;simp-dsimp only[go_sem,d1];rw[no fun e=>h1 (by rw[e])];have d1:((a.m.length:Int) !=(b.m.length:Int))=false:=(by rw[h1];simp);by_cases h2:a.a.length=b.a.length;rotate_left;have d2:((a.a.length:Int) !=(b.a.length:Int))=true:=BV.2 oG;simp-dsimp only[go_sem,d1,d2];rw[no fun e=>h2 (by rw[e])];have d2:((a.a.length:Int) !=(b.a.length:Int))=false:=(by rw[h2];simp);simp-dsimp only[go_sem,d1,d2];refine(Mm a.r b.r st ar br).q ?_;by_cases h3:a.r=b.r;rotate_left;simp-dsimp only[go_sem,d1,d2,q_g h3];rw[no fun e=>h3 (by rw[e])];simp-dsimp only[go_sem,d1,d2,q_h h3];refine Ky [false,false,true,true] 2 0 (fun s=>a.m=b.m/\s=⟨[.junk,.junk,.lp 0 0,.lp 1 0]++jk 95,[ZU a,ZU b],[],st⟩) ?_ ?_;refine Qq ?_;refine Q1 [false,false,true,true,false,true] 2 0 (fun c s=> ∃i,c=a.m.length-i/\i<=a.m.length/\(∀j,j<i->a.m.getD j default=b.m.getD j default)/\s=⟨[.junk,.junk,.lp 0 0,.lp 1 0,.junk,.sc (.int .i64 (i:Nat))]++jk 93,[ZU a,ZU b],[],st⟩) a.m.length ?_ ?_;refine Qq ?_;exact⟨0,oG,oG,fun j hj=>absurd hj (CD j),rfl⟩;rintro c s ⟨i,rfl,hi,hr,rfl⟩;refine QS ?_ ?_<;>intro h4;have hlt:i<a.m.length:=(oT h4);have g1:=JV a.m i hlt;have g2:=JV b.m i oG;have x1:=Zd i oG;have w1:=am2 i hlt;have w2:=bm2 i oG;unfold wN at w1 w2;refine Qq ?_;refine Q8 99 (Qk [0,1,2,3,4,5,6,7,8,9,10,11] .done) ?_;simp-dsimp only[go_sem,g1,g2];refine⟨oG,oG,?_⟩;refine(WY (a.m.getD i default) (b.m.getD i default) st oG oG).q ?_;by_cases h5:a.m.getD i default=b.m.getD i default;simp-dsimp only[go_sem,q_h h5,x1];refine⟨a.m.length-(i+1),oG,i+1,rfl,oG,fun j hj=> ?_,rfl⟩;by_cases e:j=i;subst e;exact h5;exact hr j oG;simp-dsimp only[go_sem,q_g h5];rw[no fun e=>h5 (by rw[e])];have hge:i=a.m.length:=(oF h4);refine Qq ?_;exact Q0y h1 fun j hj=>hr j oG;rintro s ⟨hm,rfl⟩;refine Qp ?_;refine Q1 [false,false,true,true,false,false,true] 2 0 (fun c s=> ∃i,c=a.a.length-i/\i<=a.a.length/\(∀j,j<i->a.a.getD j []=b.a.getD j [])/\s=⟨[.junk,.junk,.lp 0 0,.lp 1 0,.junk,.junk,.sc (.int .i64 (i:Nat))]++jk 92,[ZU a,ZU b],[],st⟩) a.a.length ?_ ?_;refine Qq ?_;exact⟨0,oG,oG,fun j hj=>absurd hj (CD j),rfl⟩;rintro c s ⟨i,rfl,hi,hr,rfl⟩;refine QS ?_ ?_<;>intro h4;have hlt:i<a.a.length:=(oT h4);have g1:=V8 a.a i hlt;have g2:=V8 b.a i oG;have x1:=Zd i oG;obtain⟨w1,w1'⟩:=aa2 i hlt;obtain⟨w2,w2'⟩:=ba2 i oG;refine Qq ?_;refine Q8 99 (Qk [0,1,2,3,4,5,6,7,8,9,10,11,12] .done) ?_;simp-dsimp only[go_sem,g1,g2];refine⟨oG,oG,?_⟩;refine ck ?_ ?_<;>intro h5;have hne:=Ve h5;refine Qq ?_;rw[no fun e=>hne (by rw[e])];have heq:=Kg h5;refine Qq ?_;refine Q1 [false,false,true,true,false,false,true,true] 2 0 (fun c s=> ∃k,c=(a.a.getD i []).length-k/\k<=(a.a.getD i []).length/\(∀j,j<k->(a.a.getD i []).getD j default=(b.a.getD i []).getD j default)/\s=⟨[.junk,.junk,.lp 0 0,.lp 1 0,.junk,.junk,.sc (.int .i64 (i:Nat)),.sc (.int .i64 (k:Nat))]++jk 91,[ZU a,ZU b],[],st⟩) (a.a.getD i []).length ?_ ?_;refine Qq ?_;exact⟨0,oG,oG,fun j hj=>absurd hj (CD j),rfl⟩;rintro c s ⟨k,rfl,hk,hrk,rfl⟩;simp-dsimp only[go_sem,g1];refine⟨oG,?_⟩;refine ck ?_ ?_<;>intro h6;have hklt:k<(a.a.getD i []).length:=(oT h6);have e1:=JV (a.a.getD i []) k hklt;have e2:=JV (b.a.getD i []) k oG;have x2:=Zd k oG;have v1:=w1' k hklt;have v2:=w2' k oG;unfold wN at v1 v2;refine Qq ?_;refine Q8 99 (Qk [0,1,2,3,4,5,6,7,8,9,10,11,12,13,14,15] (.step 16 [1,9] (.step 17 [] (.done)))) ?_;simp-dsimp only[go_sem,g1,g2,e1,e2];refine⟨oG,oG,oG,oG,?_⟩;refine(WY ((a.a.getD i []).getD k default) ((b.a.getD i []).getD k default) st oG oG).q ?_;by_cases h7:(a.a.getD i []).getD k default=(b.a.getD i []).getD k default;simp-dsimp only[go_sem,q_h h7,x2];refine⟨(a.a.getD i []).length-(k+1),oG,k+1,rfl,oG,fun j hj=> ?_,rfl⟩;by_cases e:j=k;subst e;exact h7;exact hrk j oG;simp-dsimp only[go_sem,q_g h7];rw[no fun e=>h7 (by rw[e])];have hge:k=(a.a.getD i []).length:=(oF h6);refine Qq ?_;refine Qb ?_;simp-dsimp only[go_sem,x1];refine⟨a.a.length-(i+1),oG,i+1,rfl,oG,fun j hj=> ?_,rfl⟩;by_cases e:j=i;subst e;exact Q0y heq fun j hj=>hrk j oG;exact hr j oG;have hge:i=a.a.length:=(oF h4);refine Qq ?_;refine Qp ?_;rw[q_h (fm_eq.2 ⟨hm,Q1m h2 fun j hj=>hr j oG,h3⟩)]
theorem v0d (a b:Sx)(st:Qc)(ha:wSx a)(hb:wSx b):PR 16 [.agg (Zw a),.agg (Zw b)] st (.sc (.bool (decide (a=b)))):=by obtain⟨a1,a2,a3⟩:=ha;obtain⟨b1,b2,b3⟩:=hb;unfold wN at a1 a2 b1 b2;have no: ¬a=b->decide (a=b)=false:=fun h=>q_g h;refine Qh none Tryz.func16 rfl fun E=>Qb ?_;by_cases h1:a.idx=b.idx;rotate_left;have d1:(a.idx==b.idx)=false:=CL.2 h1;simp-dsimp only[go_sem,d1];rw[no fun e=>h1 (by rw[e])];have d1:(a.idx==b.idx)=true:=FL.2 h1;simp-dsimp only[go_sem,d1];refine(WY a.t b.t st oG oG).q ?_;by_cases h2:a.t=b.t;rotate_left;simp-dsimp only[go_sem,d1,q_g h2];rw[no fun e=>h2 (by rw[e])];simp-dsimp only[go_sem,d1,q_h h2];refine(WY a.h b.h st oG oG).q ?_;by_cases h3:a.h=b.h;rotate_left;simp-dsimp only[go_sem,d1,q_h h2,q_g h3];rw[no fun e=>h3 (by rw[e])];simp-dsimp only[go_sem,d1,q_h h2,q_h h3];have hh:PR 53 [.agg (ZU a.f),.agg (ZU b.f)] st (.sc (.bool (decide (a.f=b.f)))):=v0f a.f b.f st a3 b3;refine hh.q ?_;simp-dsimp only[go_sem,d1,q_h h2,q_h h3];have:decide (a.f=b.f)=decide (a=b):=FD.2 ⟨fun e=>sx_eq.2 ⟨h1,h2,h3,e⟩,fun e=>by rw[e]⟩;rw[this]
inductive Seen (st:Qc) (e:List Nat):PV->PV->Prop
 | same {p:PV} (h:Tame p):Seen st e p p
 | agg {cs ds:List PV} (hl:cs.length=ds.length) (h: ∀j,j<ds.length->Seen st e (cs.getD j .junk) (ds.getD j .junk)):Seen st e (.agg cs) (.agg ds)
 | tup {cs ds:List PV} (hl:cs.length=ds.length) (h: ∀j,j<ds.length->Seen st e (cs.getD j .junk) (ds.getD j .junk)):Seen st e (.tup cs) (.tup ds)
 | ms {p:PV} {k n sz:Nat} {es:List PV} (hp:p= .ms true k 0 n\/ ∃cap,p= .gr k n cap) (hk:k<st.length) (hl:es.length=n) (hsz: ∀i,i<n->(es.getD i .junk).cells.length=sz) (he:n*sz<=e.getD k 0)
  (h: ∀i j,i<n->j<sz->Seen st e ((st.getD k []).getD (i*sz+j) .junk) ((es.getD i .junk).cells.getD j .junk)):Seen st e p (.sl .no es)
 | un {t:Tag} {es:List PV} (h:Tame (.sl t es)):Seen st e (.sl t es) (.sl .no es)
 | gp {k off:Nat} {cs:List PV} (hk:k<st.length) (he:cs.length<=e.getD k 0) (h: ∀j,j<cs.length->Seen st e ((st.getD k []).getD j .junk) (cs.getD j .junk)):Seen st e (.gp k off) (.ep cs off)
theorem Seen.rep {w:Lw}{g G:Gh}{st:Qc}{e:Ln}(hs:StoreOK w g st)(hx: ∀k,k<st.length->e.getD k 0<=(st.getD k []).length)(hv: ∀b,g.vis b<=G.vis b)(hk: ∀k,k<st.length->e.getD k 0<=G.vis (g.mu k)){p q:PV}(h:Seen st e p q):
 ∀v,Rep w g v p->Rep w G v q:=by
 induction h with
 | @same p h=>
  intro v hr;have h1:=Low.mk (h.low 0).1 (g:=g) G.vis hv hr;exact Rep.mono (w:=w) (g:=⟨0,fun _=>0,G.vis⟩) (w':=w) (g':=G) ⟨CX _,fun i hi=>absurd hi (CD _),fun _=>BD _,fun _ _ _ _ hc=>hc⟩ h1
 | @un t es h=>
  intro v hr;have h1:=Low.mk (h.low 0).1 (g:=g) G.vis hv hr;have h2:=Rep.mono (w:=w) (g:=⟨0,fun _=>0,G.vis⟩) (w':=w) (g':=G) ⟨CX _,fun i hi=>absurd hi (CD _),fun _=>BD _,fun _ _ _ _ hc=>hc⟩ h1;exact(RepF.base (F:=⟨0,fun _=>0,fun _=>none⟩) (T:= []) _ _ h2).slNo
 | @gp k off cs hkl he h ih=>
  intro v hr;have hn:=hs.n;obtain rfl:v= .pointer (some ⟨g.mu k,off,none⟩):=(by cases hr with | gp _ _ _=>rfl);have hh:=hs.holds k oG;have hle:=hx k hkl;have:=Rep.ep (w:=w) (g:=G) cs off (g.mu k) 0 (fun j=>(w.cell? ⟨g.mu k,0+j,none⟩).getD undef) (by rw[CU];exact B7 he (hk k hkl))
   (fun j hj=>by obtain⟨_,c,q1,q2⟩:=hh j oG;rw[CU,q1];rfl)
   (fun j hj=>by obtain⟨_,c,q1,q2⟩:=hh j oG;rw[CU,q1];exact ih j hj _ q2)
  rwa [CU] at this
 | agg hl h ih=>
  intro v hr;cases hr with
  | agg vs _ hl' h'=>exact .agg vs _ oG fun j hj=>ih j hj _ (h' j oG)
 | tup hl h ih=>
  intro v hr;cases hr with
  | tup vs _ hl' h'=>exact .tup vs _ oG fun j hj=>ih j hj _ (h' j oG)
 | @ms p k n sz es hp hkl hl hsz he h ih=>
  intro v hr;have hn:=hs.n;obtain⟨cap,rfl,hcap⟩: ∃cap,v= .slice (some ⟨g.mu k,0,none⟩) n cap/\n<=cap:=by
   rcases hp with rfl | ⟨cap,rfl⟩;cases hr with | gms _ _ _ cap _ hcap=>exact⟨cap,rfl,hcap⟩
   cases hr with | gr _ _ _ _ hcap=>exact⟨cap,rfl,hcap⟩
  have hh:=hs.holds k oG;have hle:=hx k hkl;have:=Rep.sl (w:=w) (g:=G) .no es (g.mu k) 0 sz cap (fun i j=>(w.cell? ⟨g.mu k,0+i*sz+j,none⟩).getD undef) rfl (fun h=>by cases h) oG (fun i hi=>hsz i oG)
   (fun h0=>by rw[hl,CU];exact B7 he (hk k hkl))
   (fun i j hi hj=>by have:=Vf (show i<n by omega) hj;obtain⟨_,c,q1,q2⟩:=hh (i*sz+j) oG;rw[show 0+i*sz+j=i*sz+j by omega,q1];rfl)
   (fun i j hi hj=>by have:=Vf (show i<n by omega) hj;obtain⟨_,c,q1,q2⟩:=hh (i*sz+j) oG;rw[show 0+i*sz+j=i*sz+j by omega,q1];exact ih i j oG hj _ q2)
  rw[hl] at this;exact this
noncomputable def JM (g:Gh)(lo:Nat)(e:List Nat)(b:Nat):Nat:=
 open Classical in if h: ∃k,lo<=k/\k<g.n/\g.mu k=b/\0<e.getD k 0 then e.getD h.choose 0 else g.vis b
section
variable {w:World} {g:Gh} {st:Qc} {e:List Nat} {lo:Nat}
theorem jI (hs:StoreOK w g st)(k:Nat)(hlo:lo<=k)(hk:k<g.n):e.getD k 0<=JM g lo e (g.mu k):=by unfold JM;split;rename_i h;obtain⟨h1,h2,h3,h4⟩:=h.choose_spec;rw[hs.inj _ _ h2 hk h3];exact BD _;rename_i h;by_cases h0:0<e.getD k 0;exact absurd ⟨k,hlo,hk,rfl,h0⟩ h;omega
theorem jJ (hs:StoreOK w g st)(hx: ∀k,k<st.length->e.getD k 0<=(st.getD k []).length)(b:Nat):g.vis b<=JM g lo e b:=by unfold JM;split;rename_i h;obtain⟨h1,h2,h3,h4⟩:=h.choose_spec;have h5:=hx _ (by rw[<-hs.n];exact h2);have:=hs.vis _ h2 (fun e=>by rw[e] at h5;exact absurd h5 (Nat.not_le_of_lt h4));rw[h3] at this;omega;exact BD _
theorem zm (b:Nat)(hb:JM g lo e b≠g.vis b): ∃k,lo<=k/\k<g.n/\g.mu k=b/\JM g lo e b=e.getD k 0:=by unfold JM at hb⊢;split;rename_i h;obtain⟨h1,h2,h3,h4⟩:=h.choose_spec;exact⟨_,h1,h2,h3,rfl⟩;rename_i h;rw[dif_neg h] at hb;exact absurd rfl hb
end
def PV.stale :PV->Bool
 | .sl (.fresh _) _=>false
 | _=>true
theorem zi {p:PV}(h:p.stale=true)(B:Nat)(w:Lw)(g:Gh)(v:Value):RepRes B w g v p=Rep w g v p:=by
 cases p with
 | sl t es=>cases t<;>first | rfl | cases h
 | _=>rfl
theorem zK {P:Pg}{f:FuncId}{args:Lp}{st:Qc}{Q:PV->Prop}(h:PCalls P f args st fun r st'=> ∃X q e,st'=st++X/\Seen st' e r q/\(∀k,k<st'.length->e.getD k 0<=(st'.getD k []).length)/\(∀k,k<st.length->e.getD k 0=0)/\r.stale=true/\q.stale=true/\Q q):
 PCalls P f args st (fun r st'=>Q r/\st'=st):=by
 intro w g vs hs hr;refine(h w g vs hs hr).mono ?_;rintro en w' ⟨v,g',r,st',rfl,hx,ho,hv,X,q,e,rfl,hsee,hle,hlo,sr,sq,hq⟩;rw[zi sr] at hv;have hn:st.length=g.n:=hs.n.symm;have hn':g.n<=g'.n:=hx.le.n;have hgd: ∀i,i<g.n->(st++X).getD i []=st.getD i []:=fun i hi=>by rw[q_a,B6 oG,<-q_a]
 let G:Gh:=⟨g.n,g'.mu,JM g' g.n e⟩
 have hvle: ∀b,g'.vis b<=G.vis b:=jJ ho hle;have hvold: ∀b,(∀k,g.n<=k->k<g'.n->g'.mu k≠b)->G.vis b=g'.vis b:=fun b hb=>by refine BE fun hne=> ?_;obtain⟨k,h1,h2,h3,_⟩:=zm b hne;exact hb k h1 h2 h3
 have hkv: ∀k,k<(st++X).length->e.getD k 0<=G.vis (g'.mu k):=fun k hk=>by by_cases hlt:k<g.n;rw[hlo k oG];exact CX _;exact jI ho k oG (by rw[ho.n];exact hk)
 refine⟨v,G,q,st,rfl,⟨⟨BD _,hx.le.mu,fun b=>B7 (hx.le.vis b) (hvle b),hx.le.cell⟩,hx.os,hx.tape,hx.output,hx.size,fun b hb hnb=> ?_,fun i hi hi'=>absurd hi (Nat.not_le_of_lt hi')⟩,
  ⟨hs.n,fun i j hi hj=>ho.inj i j (q_e hi hn') (q_e hj hn'),fun i hi=>ho.lt i (q_e hi hn'),fun i hi hne=> ?_,fun i hi=> ?_,fun b hb=> ?_,fun t ht=>⟨B7 (ho.tab t ht).1 (hvle _),(ho.tab t ht).2⟩⟩,?_,hq,rfl⟩
 obtain⟨o1,o2⟩:=hx.old b hb hnb;refine⟨o1,?_⟩;rw[hvold b fun k h1 h2 h3=> ?_];exact o2;have:=hx.new k h1 h2;omega;have h1:=ho.vis i (q_e hi hn') (by rw[hgd i hi];exact hne);rw[hvold _ fun k h1 h2 h3=> ?_];exact h1;have:=ho.inj k i h2 (q_e hi hn') h3;have hi':i<g.n:=hi;omega;have h1:=ho.holds i (q_e hi hn');rw[hgd i hi] at h1;intro j hj;obtain⟨z1,c,z2,z3⟩:=h1 j hj;obtain⟨_,c0,_,z4⟩:=hs.holds i hi j hj;refine⟨z1,c,z2,?_⟩;have z5:=X0i z4 _ _ _ z3 hn';exact Rep.mono (w:=w') (g:= { g' with n:=g.n }) (w':=w') (g':=G) ⟨BD _,fun _ _=>rfl,hvle,fun _ _ _ _ hc=>hc⟩ z5;rw[hvold b fun k h1 h2 h3=> ?_];exact ho.none b hb;have:=ho.lt k h2;omega;rw[zi sq];exact hsee.rep ho hle hvle hkv v hv
def PV.notW :PV->Bool
 | .sl _ _ | .ms true _ _ _ | .gr _ _ _ | .sc (.bool _) | .sc (.int .i64 _)=>true
 | _=>false
theorem K1y {w:Lw}{g:Gh}{v:Value}{p:PV}(h:Rep w g v p)(hp:p.notW=true){y:Value}(hy:uwV y):v≠y:=by
 intro e;subst e;obtain⟨x,rfl | rfl⟩:=hy<;>
 cases h with
 | sc v=>cases hp
 | junk v=>cases hp
theorem PCalls.lendS {P:Pg}{f:FuncId}{xs ys:Lp}{st:Qc}{R:PV}(e:Ln)(h:PCalls P f ys [] (fun r st'=>r=R/\st'= []))(hw:Wordy R)(hl:xs.length=ys.length)(hsee: ∀j,j<ys.length->Seen st e (xs.getD j .junk) (ys.getD j .junk))
 (hle: ∀k,k<st.length->e.getD k 0<=(st.getD k []).length) (hnw: ∀k o,k<st.length->o<e.getD k 0->((st.getD k []).getD o .junk).notW=true):PCalls P f xs st (fun r st'=>r=R/\st'=st):=by
 intro w g vs hs hr;have hvle: ∀b,g.vis b<=JM g 0 e b:=jJ hs hle;have hn:=hs.n
 let g0:Gh:=⟨0,fun _=>0,JM g 0 e⟩
 have hnone: ∀b,w.heap.size<=b->JM g 0 e b=0:=fun b hb=>by by_cases hq:JM g 0 e b=g.vis b;rw[hq];exact hs.none b hb;obtain⟨i,_,h1,h2,_⟩:=zm b hq;have:=hs.lt i h1;omega
 have hs0:StoreOK w g0 []:=(by refine⟨rfl,fun i j hi=>by simp[g0] at hi,fun i hi=>by simp[g0] at hi,fun i hi=>by simp[g0] at hi,fun i hi=>by simp[g0] at hi,hnone,fun t ht=>⟨B7 (hs.tab t ht).1 (hvle _),(hs.tab t ht).2⟩⟩);have hr0:WI w g0 vs ys:=⟨by rw[hr.1,hl],fun j hj=>(hsee j hj).rep hs hle hvle (fun k hk=>jI hs k (CX _) oG) _ (hr.2 j oG)⟩;refine(h w g0 vs hs0 hr0).mono ?_;rintro en w' ⟨v,g1,r,st1,rfl,hx,hoo,hrr,rfl,rfl⟩;rw[hw.res] at hrr;have hold: ∀c,c<w.heap.size->w'.heap[c]?=w.heap[c]?/\g1.vis c=JM g 0 e c:=fun c hc=>hx.old c hc (fun i hi=>by simp[g0] at hi)
 let g2:Gh:=⟨g.n,g.mu,fun c=>if c<w.heap.size then g.vis c else g1.vis c⟩
 have hle2:Le w g w' g2:=by refine⟨BD _,fun _ _=>rfl,fun c=> ?_,fun c o v ho hc=>hx.le.cell c o v (q_e ho (hvle c)) hc⟩;show g.vis c<=if c<w.heap.size then g.vis c else g1.vis c;split;exact BD _;rename_i hn;rw[hs.none c oG];exact CX _
 have hext:Ext w g w' g2:=by refine⟨hle2,hx.os,hx.tape,hx.output,hx.size,fun c hc _=>⟨(hold c hc).1,BC hc⟩,fun i h1 h2=> ?_⟩;have h2':i<g.n:=h2;omega
 have hst:StoreOK w' g2 st:=by refine⟨hs.n,hs.inj,fun i hi=>q_e (hs.lt i hi) hx.size,fun i hi h0=> ?_,fun i hi=> ?_,fun c hc=> ?_,hs.tab.mono hle2⟩;show(if g.mu i<w.heap.size then g.vis (g.mu i) else _)=0;rw[BC (hs.lt i hi)];exact hs.vis i hi h0;exact(hs.holds i hi).mono (hold _ (hs.lt i hi)).1 fun v p hp=>hp.mono hle2;show(if c<w.heap.size then g.vis c else g1.vis c)=0;have:=hx.size;rw[BA oG];exact hoo.none c hc
 refine⟨v,g2,r,st,rfl,hext,hst,?_,rfl,rfl⟩;rw[hw.res];have:=Wordy.turn (g':=g2) (fun b off x hxw hoff hcell=> ?_) hw hrr;exact this;show(if b<w.heap.size then g.vis b else g1.vis b)=g1.vis b;split;rename_i hb;obtain⟨q1,q2⟩:=hold b hb;rw[q2] at hoff⊢;by_cases hq:JM g 0 e b=g.vis b;exact hq.symm;obtain⟨i,_,h1,h2,h3⟩:=zm b hq;rw[h3] at hoff;have o1:=hle i oG;have o2:=hnw i off oG hoff;obtain⟨_,c,c1,c2⟩:=hs.holds i h1 off oG;rw[h2] at c1;have hcw:w'.cell? ⟨b,off,none⟩=w.cell? ⟨b,off,none⟩:=World.cell?_of_block (w:=w) (w':=w') (a:=⟨b,off,none⟩) q1;rw[hcw,c1] at hcell;exact absurd (Option.some.inj hcell) (K1y c2 o2 hxw);rfl
inductive Un :PV->PV->Prop
 | same (p:PV):Un p p
 | gr (k n c:Nat):Un (.gr k n c) (.ms true k 0 n)
theorem Un.rep {w:Lw}{g:Gh}{p q:PV}(h:Un p q){v:Value}(hr:Rep w g v p):Rep w g v q:=by
 cases h with
 | same=>exact hr
 | gr k n c=>cases hr with | gr _ _ _ hi hcap=>exact .gms _ 0 _ _ hi hcap
theorem PCalls.unGr {P:Pg}{f:FuncId}{args:Lp}{st:Qc}{Q Q':PV->Qc->Prop}(h:PCalls P f args st Q)
 (hq: ∀r st',Q r st'-> ∃r' st'',st''.length=st'.length/\r.stale=true/\r'.stale=true/\Un r r'/\(∀k,k<st'.length->(st''.getD k []).length=(st'.getD k []).length/\ ∀o,o<(st'.getD k []).length->Un ((st'.getD k []).getD o .junk) ((st''.getD k []).getD o .junk))/\Q' r' st''):PCalls P f args st Q':=by
 intro w g vs hs hr;refine(h w g vs hs hr).mono ?_;rintro en w' ⟨v,g',r,st',rfl,hx,ho,hv,hQ⟩;obtain⟨r',st'',h1,sr,sr',h2,h3,h4⟩:=hq r st' hQ;rw[zi sr] at hv;have hn:=ho.n;refine⟨v,g',r',st'',rfl,hx,⟨by rw[hn,h1],ho.inj,ho.lt,fun i hi hne=>ho.vis i hi fun e=>hne ?_,fun i hi j hj=> ?_,ho.none,ho.tab⟩,by rw[zi sr'];exact h2.rep hv,h4⟩;have:=(h3 i oG).1;rw[e] at this;exact BY (by simpa using this);obtain⟨q1,q2⟩:=h3 i oG;rw[q1] at hj;obtain⟨z1,c,z2,z3⟩:=ho.holds i hi j hj;exact⟨z1,c,z2,(q2 j hj).rep z3⟩
def RowAt (st:Qc)(k:Nat)(cs:List PV):Prop:=k<st.length/\ ∃R,st.getD k []=cs++R
def yU (ids:List Nat):Prop:= ∀i j,i<ids.length->j<ids.length->i≠j->ids.getD i 0≠ids.getD j 0
structure MatO (st:Qc) (A:Nat) (ids:List Nat) (n:Nat) (rows:List (List PV)):Prop where
 lid:ids.length=n
 lrow:rows.length=n
 top:RowAt st A (ids.map fun i=>PV.ms true i 0 n)
 row: ∀j,j<n->RowAt st (ids.getD j 0) (rows.getD j [])
 na:A∉ids
 nd:yU ids
theorem RowAt.mono {st st':Qc}{k:Nat}{cs:Lp}(h:RowAt st k cs)(hl:st.length<=st'.length)(hg:st'.getD k []=st.getD k []):RowAt st' k cs:=⟨q_e h.1 hl,by rw[hg];exact h.2⟩
theorem RowAt.set {st:Qc}{k:Nat}{cs' R:Lp}(h:k<st.length):RowAt (st.set k (cs'++R)) k cs':=⟨by rw[BL];exact h,R,by rw[Z0 _ _ _ _ h]⟩
theorem Y9 {ids:Ln}{j:Nat}(h:j<ids.length):ids.getD j 0∈ids:=QE _ _ _ h
theorem V1c {ids:Ln}(hn:yU ids){i j:Nat}(hi:i<ids.length)(hj:j<ids.length)(h:i≠j):ids.getD i 0≠ids.getD j 0:=hn i j hi hj h
theorem MatO.mono {st st':Qc}{A n:Nat}{ids:Ln}{rows:List (List PV)}(h:MatO st A ids n rows)(hl:st.length<=st'.length)(hg: ∀k,k=A\/k∈ids->st'.getD k []=st.getD k []):MatO st' A ids n rows:=
 ⟨h.lid,h.lrow,h.top.mono hl (hg _ (.inl rfl)),fun j hj=>(h.row j hj).mono hl (hg _ (.inr (Y9 (by rw[h.lid];exact hj)))),h.na,h.nd⟩
theorem MatO.setRow {st:Qc}{A n:Nat}{ids:Ln}{rows:List (List PV)}(h:MatO st A ids n rows){j:Nat}(hj:j<n)(cs R:Lp):MatO (st.set (ids.getD j 0) (cs++R)) A ids n (rows.set j cs):=by
 have hji:j<ids.length:=by rw[h.lid];exact hj
 refine⟨h.lid,by rw[BL];exact h.lrow,h.top.mono (by simp) (Z3 _ _ _ _ _ fun e=>h.na (e▸Y9 hji)),fun i hi=> ?_,h.na,h.nd⟩;by_cases e:i=j;subst e;rw[Z0 _ _ _ _ (by rw[h.lrow];exact hi)];exact RowAt.set (h.row i hi).1;rw[Z3 _ _ _ _ _ (fun e2=>e e2.symm)];exact(h.row i hi).mono (by simp) (Z3 _ _ _ _ _ (V1c h.nd hji (by rw[h.lid];exact hi) (fun e2=>e e2.symm)))
def ze {α:Type}(d:α)(l:List α)(i j:Nat):List α:=(l.set i (l.getD j d)).set j (l.getD i d)
def w0b (x:List Nm):List PV:=flat (Q5 x)
def QO (st:Qc)(A:Nat)(ids:List Nat)(x:List (List Nm)):Prop:=(∀r∈x,r.length=x.length)/\MatO st A ids x.length (x.map w0b)
def Yk (st:Qc)(A:Nat)(ids:List Nat)(n sz:Nat):List Nat:=(List.range st.length).map fun k=>if k=A then n else if k∈ids then n*sz else 0
theorem IQ (st:Qc)(A:Nat)(ids:Ln)(n sz k:Nat)(hk:k<st.length):(Yk st A ids n sz).getD k 0=if k=A then n else if k∈ids then n*sz else 0:=by unfold Yk;rw[q_a,B8,EB hk];rfl
theorem MatO.seen {st:Qc}{e:Ln}{A n sz:Nat}{ids:Ln}{els:List (List PV)}(h:MatO st A ids n (els.map flat))(hl: ∀r∈els,r.length=n)(hs: ∀r∈els,∀x∈r,x.cells.length=sz/\ ∀c∈x.cells,Tame c)(hA:n<=e.getD A 0)(hi: ∀i∈ids,n*sz<=e.getD i 0):
 Seen st e (.ms true A 0 n) (.sl .no (els.map (PV.sl .no))):=by
 have hel:els.length=n:=by have:=h.lrow;rwa [BR] at this
 have hrow: ∀i,i<n->els.getD i []∈els:=fun i hi=>QE _ _ _ oG;have hfl: ∀i,i<n->(els.map flat).getD i []=flat (els.getD i []):=fun i hi=>by rw[q_a,B8,q_a,BB (show i<els.length by omega)];rfl
 have hms: ∀i,i<n->(els.map (PV.sl .no)).getD i .junk= .sl .no (els.getD i []):=fun i hi=>by rw[q_a,B8,q_a,BB (show i<els.length by omega)];rfl
 refine .ms (sz:=1) (.inl rfl) h.top.1 (by rw[BR];exact hel) (fun i hi=>by rw[hms i hi];rfl) (by rw[EH];exact hA) fun i j hin hj=> ?_;have hj0:j=0:=oG;subst hj0;obtain⟨R,hR⟩:=h.top.2;have h1:(st.getD A []).getD (i*1+0) .junk= .ms true (ids.getD i 0) 0 n:=by
  have hii:i<ids.length:=by rw[h.lid];exact hin
  rw[hR,EH,B1,QV _ _ _ _ (by rw[BR];exact hii),q_a,B8,q_a,BB hii];rfl
 rw[h1,hms i hin];show Seen st e (.ms true (ids.getD i 0) 0 n) (.sl .no (els.getD i []));have hr:=h.row i hin;rw[hfl i hin] at hr;obtain⟨R2,hR2⟩:=hr.2;have hrl:=hl _ (hrow i hin);have hsz: ∀a,a<(els.getD i []).length->((els.getD i []).getD a .junk).cells.length=sz:=fun a ha=>(hs _ (hrow i hin) _ (QE _ _ _ ha)).1;refine .ms (sz:=sz) (.inl rfl) hr.1 hrl (fun a ha=>hsz a oG) (hi _ (Y9 (by rw[h.lid];exact hin))) fun a b ha hb=> ?_;have hm:=Vf ha hb;have h2:(st.getD (ids.getD i 0) []).getD (a*sz+b) .junk=((els.getD i []).getD a .junk).cells.getD b .junk:=by rw[hR2,QV _ _ _ _ (by rw[Kj hsz,hrl];exact hm),Vk hsz _ (by rw[hrl];exact hm)];have hd:(a*sz+b)/sz=a:=(by rw[BM,E0 oG,CP hb,B1]);have hmo:(a*sz+b) % sz=b:=(by rw[BM,EZ,BJ hb]);rw[hd,hmo]
 rw[h2];refine .same ((hs _ (hrow i hin) _ (QE _ _ _ oG)).2 _ (QE _ _ _ ?_));rw[hsz a oG];exact hb
theorem MatO.eLe {st:Qc}{A n sz:Nat}{ids:Ln}{els:List (List PV)}(h:MatO st A ids n (els.map flat))(hl: ∀r∈els,r.length=n)(hs: ∀r∈els,∀x∈r,x.cells.length=sz/\ ∀c∈x.cells,Tame c):
 ∀k,k<st.length->(Yk st A ids n sz).getD k 0<=(st.getD k []).length:=by
 have hel:els.length=n:=by have:=h.lrow;rwa [BR] at this
 intro k hk;rw[IQ _ _ _ _ _ _ hk];split;rename_i e;subst e;obtain⟨R,hR⟩:=h.top.2;rw[hR,BH,BR,h.lid];omega;split;rename_i hm;obtain⟨i,hi,he⟩:=CM.1 hm;have hin:i<n:=(by rw[<-h.lid];exact hi);have hr:=h.row i hin;have e1:ids.getD i 0=k:=(by rw[q_a,BB hi];exact he);rw[e1] at hr;obtain⟨R,hR⟩:=hr.2;have hrow:els.getD i []∈els:=QE _ _ _ oG;have e2:(els.map flat).getD i []=flat (els.getD i []):=by rw[q_a,B8,q_a,BB (show i<els.length by omega)];rfl
 rw[hR,e2,BH,Kj (sz:=sz) fun a ha=>(hs _ hrow _ (QE _ _ _ ha)).1,hl _ hrow];omega;exact CX _
structure Built (st:Qc) (B n i:Nat) (out:PV) (ids:List Nat) (cs:List PV) (rows:List (List PV)):Prop where
 lid:ids.length=i
 lrow:rows.length=i
 lcs:cs.length=i
 un: ∀j,j<i->Un (cs.getD j .junk) (.ms true (ids.getD j 0) 0 n)
 row: ∀j,j<i->RowAt st (ids.getD j 0) (rows.getD j [])
 nd:yU ids
 ge: ∀k∈ids,B<=k
 le:B<=st.length
 out:(i=0/\out= .sl .full [])\/(0<i/\ ∃A cap R,out= .gr A i cap/\B<=A/\A<st.length/\A∉ids/\st.getD A []=cs++R/\R.length=cap-i/\i<=cap)
theorem Built.zero (st:Qc)(n:Nat):Built st st.length n 0 (.sl .full []) [] [] []:=
 ⟨rfl,rfl,rfl,fun j hj=>oG,fun j hj=>oG,fun i j hi=>by simp at hi,fun k hk=>by simp at hk,BD _,.inl ⟨rfl,rfl⟩⟩
theorem Hp {α:Type}(d:α)(l:List α)(x:α)(j:Nat):(l++ [x]).getD j d=if j=l.length then x else l.getD j d:=by by_cases h:j<l.length;rw[BA oG,QV _ _ _ _ h];by_cases e:j=l.length;subst e;rw[BC rfl,Zi _ _ _ _ (BD _),DD];rfl;rw[BA e,q_a,C2 (by simp;omega),q_a,C2 oG]
theorem Built.next {st st':Qc}{B n i:Nat}{out c:PV}{ids:Ln}{cs:Lp}{rows:List (List PV)}(h:Built st B n i out ids cs rows){k A cap:Nat}{row R:Lp}(hc:Un c (.ms true k 0 n))(hk:RowAt st' k row)(hkB:B<=k)(hkn:k∉ids)
 (hl:st.length<=st'.length) (hg: ∀x∈ids,st'.getD x []=st.getD x []) (hA:B<=A) (hAl:A<st'.length) (hAn:A∉ids) (hAk:A≠k) (hAc:st'.getD A []=cs++([c]++R)) (hR:R.length=cap-(i+1)) (hcap:i+1<=cap):
 Built st' B n (i+1) (.gr A (i+1) cap) (ids++ [k]) (cs++ [c]) (rows++ [row]):=by
 refine⟨by simp[h.lid],by simp[h.lrow],by simp[h.lcs],fun j hj=> ?_,fun j hj=> ?_,?_,fun x hx=> ?_,B7 h.le hl,.inr ⟨oG,A,cap,R,rfl,hA,hAl,fun hm=> ?_,by rw[hAc,BP],hR,hcap⟩⟩;rw[Hp,Hp,h.lcs,h.lid];split;exact hc;exact h.un j oG;rw[Hp,Hp,h.lid,h.lrow];split;exact hk;exact(h.row j oG).mono hl (hg _ (Y9 (by rw[h.lid];omega)));intro x y hx hy hxy;rw[BH,List.length_singleton] at hx hy;rw[Hp,Hp];split<;>split;omega;exact fun e=>hkn (e▸Y9 oG);exact fun e=>hkn (e▸Y9 oG);exact h.nd x y oG oG hxy;rcases DN.1 hx with hx | hx;exact h.ge x hx;rw[C0.1 hx];exact hkB;rcases DN.1 hm with hm | hm;exact hAn hm;exact hAk (C0.1 hm)
theorem xu : ∀ {cs:Lp},(∀c∈cs,c.cells= [c])->flat cs=cs
 | [],_=>rfl
 | c::cs,h=>by rw[xw,h c (by simp),xu fun x hx=>h x (by simp[hx])];rfl
theorem Un.cells1 {c:PV}{k n:Nat}(h:Un c (.ms true k 0 n)):c.cells= [c]:=by cases h<;>rfl
theorem Built.flat_cs {st:Qc}{B n i:Nat}{out:PV}{ids:Ln}{cs:Lp}{rows:List (List PV)}(h:Built st B n i out ids cs rows):flat cs=cs:=xu fun c hc=>by obtain⟨j,hj,rfl⟩:=CM.1 hc;have h1:=h.un j (by rw[<-h.lcs];exact hj);rw[q_a,BB hj] at h1;exact h1.cells1
theorem Built.first {st Y:Qc}{B n:Nat}{out c:PV}{ids:Ln}{cs:Lp}{rows:List (List PV)}(h:Built st B n 0 out ids cs rows){k cap:Nat}{row R:Lp}(hY:st.length<=Y.length)(hc:Un c (.ms true k 0 n))(hk:RowAt Y k row)(hkB:st.length<=k)(hcap:1<=cap)(hR:R.length=(cap-1)*1):
 Built (Y++ [flat [c]++R]) B n (0+1) (.gr Y.length (0+1) cap) (ids++ [k]) (cs++ [c]) (rows++ [row]):=by
 have e1:ids= []:=BY h.lid;have e2:cs= []:=BY h.lcs;have hfl:flat [c]= [c]:=xu fun x hx=>(by rw[C0.1 hx];exact hc.cells1);have hB:=h.le;refine h.next (R:=R) hc (hk.mono (by simp) (by rw[QV _ _ _ _ hk.1])) oG (by rw[e1];simp) (by simp;omega) (fun x hx=>by rw[e1] at hx;simp at hx) oG (by simp) (by rw[e1];simp) (fun e=>by have:=hk.1;omega) ?_ oG hcap;rw[Zi _ _ _ _ (BD _),DD,e2,hfl];rfl
theorem Built.grow {st Y st':Qc}{B n i:Nat}{c:PV}{A cap:Nat}{ids:Ln}{cs:Lp}{rows:List (List PV)}(h:Built st B n i (.gr A i cap) ids cs rows)(hi:0<i){k A' cap':Nat}{row:Lp}(hY:st.length<=Y.length)(hYg: ∀x,x<st.length->Y.getD x []=st.getD x [])
 (hc:Un c (.ms true k 0 n)) (hk:RowAt Y k row) (hkB:st.length<=k) (hg:GrowTo Y A i cap [c] 1 A' cap' st'):Built st' B n (i+1) (.gr A' (i+1) cap') (ids++ [k]) (cs++ [c]) (rows++ [row]):=by
 rcases h.out with ⟨h0,_⟩ | ⟨_,A2,cap2,R,h1,h2,h3,h4,h5,h6,h7⟩;omega;simp only[PV.gr.injEq] at h1;obtain⟨rfl,_,rfl⟩:=h1;have hfl:flat [c]= [c]:=xu fun x hx=>(by rw[C0.1 hx];exact hc.cells1);have hfc:=h.flat_cs;obtain⟨R',f1,f2,f3,f4,f5,f6,f7⟩:=GrowTo.facts (es:=cs) (R:=R) hg oG (by rw[hYg A h3,h5,hfc]) (by rw[hfc,h.lcs];omega) (by rw[hfl];rfl) (by rw[h6];omega) h7;have hid: ∀x∈ids,x<st.length:=fun x hx=>by obtain⟨j,hj,he⟩:=CM.1 hx;have:=(h.row j (by rw[<-h.lid];exact hj)).1;rw[q_a,BB hj] at this;rw[<-he];exact this
 have hB:=h.le;have hkl:=hk.1;refine h.next (R:=R') hc (hk.mono f6 (f7 k hk.1 oG)) oG (fun hm=>by have:=hid k hm;omega) oG (fun x hx=>by
  have h8:=hid x hx;rw[f7 x oG (fun e=>h4 (e▸hx)),hYg x h8]) oG f4 (fun hm=>by
  rcases f5 with rfl | rfl;exact h4 hm;have:=hid _ hm;omega) oG (by rw[f1,hfc,hfl]) (by
  have: [c].length=1:=rfl;rw[f2,this];omega) (by have: [c].length=1:=rfl;omega)
theorem GrowTo.app {st X st':Qc}{A len cap sz A' cap':Nat}{ys:Lp}(h:GrowTo (st++X) A len cap ys sz A' cap' st')(hA:st.length<=A): ∃X',st'=st++X':=by rcases h with ⟨_,_,_,rfl⟩ | ⟨_,_,_,R,_,rfl⟩;exact⟨_,CJ _ _ hA⟩;exact⟨_,BP _ _ _⟩
theorem Built.at {st:Qc}{B n i A cap:Nat}{ids:Ln}{cs:Lp}{rows:List (List PV)}(h:Built st B n i (.gr A i cap) ids cs rows)(hi:0<i):B<=A/\A<st.length/\(st.getD A []).length=cap:=by rcases h.out with ⟨h0,_⟩ | ⟨_,A2,cap2,R,h1,h2,h3,h4,h5,h6,h7⟩;omega;simp only[PV.gr.injEq] at h1;obtain⟨rfl,_,rfl⟩:=h1;exact⟨h2,h3,by rw[h5,BH,h.lcs,h6];omega⟩
theorem Built.done {st:Qc}{B n:Nat}{out:PV}{ids:Ln}{cs:Lp}{rows:List (List PV)}(h:Built st B n n out ids cs rows)(hn:0<n):
 ∃A cap R,out= .gr A n cap/\B<=A/\A<st.length/\st.getD A []=cs++R/\MatO (st.set A ((ids.map fun i=>PV.ms true i 0 n)++R)) A ids n rows/\
  ∀k,k<st.length->((st.set A ((ids.map fun i=>PV.ms true i 0 n)++R)).getD k []).length=(st.getD k []).length/\ ∀o,o<(st.getD k []).length->Un ((st.getD k []).getD o .junk) (((st.set A ((ids.map fun i=>PV.ms true i 0 n)++R)).getD k []).getD o .junk):=by
 rcases h.out with ⟨h0,_⟩ | ⟨_,A,cap,R,h1,h2,h3,h4,h5,h6,h7⟩;omega;refine⟨A,cap,R,h1,h2,h3,h5,⟨h.lid,h.lrow,RowAt.set h3,fun j hj=>(h.row j hj).mono (by simp) (Z3 _ _ _ _ _ fun e=>h4 (e▸Y9 (by rw[h.lid];exact hj))),h4,h.nd⟩,fun k hk=> ?_⟩;by_cases e:k=A;subst e;rw[Z0 _ _ _ _ h3,h5];refine⟨by simp[h.lid,h.lcs],fun o ho=> ?_⟩;by_cases hlt:o<n;rw[QV _ _ _ _ (by rw[h.lcs];exact hlt),QV _ _ _ _ (by simp[h.lid];exact hlt)];have:(ids.map fun i=>PV.ms true i 0 n).getD o .junk= .ms true (ids.getD o 0) 0 n:=by rw[q_a,B8,q_a,BB (show o<ids.length by rw[h.lid];exact hlt)];rfl
 rw[this];exact h.un o hlt;rw[Zi _ _ _ _ (by rw[h.lcs];omega),Zi _ _ _ _ (by simp[h.lid];omega),h.lcs,BR,h.lid];exact .same _;rw[Z3 _ _ _ _ _ (fun e2=>e e2.symm)];exact⟨rfl,fun o _=> .same _⟩
def Below (base:Nat)(st st':Qc):Prop:=st'.length=st.length/\ ∀i,i<base->st'.getD i []=st.getD i []
theorem Below.set {base:Nat}{st:Qc}{k:Nat}(h:base<=k)(cs:Lp):Below base st (st.set k cs):=⟨by simp,fun i hi=>Z3 _ _ _ _ _ oG⟩
theorem QO.lid {st:Qc}{A:Nat}{ids:Ln}{a:Ly}(h:QO st A ids a):ids.length=a.length:=h.2.lid
theorem QO.mono {st st':Qc}{A:Nat}{ids:Ln}{a:Ly}(h:QO st A ids a)(hl:st.length<=st'.length)(hg: ∀k,k=A\/k∈ids->st'.getD k []=st.getD k []):QO st' A ids a:=⟨h.1,h.2.mono hl hg⟩
theorem Cb (c:Nat)(h:c<1000):Qd [UInt64.ofNat c]=c:=by simp[Qd,nW,val];omega
theorem Y1p {w:Lu}{e:Int}(hw:Qn (Qd w)<=6)(h1: -6<=e)(h2:e<=2):0<=qN (XF false w e).1:=by unfold XF;split;show 0<=qN default;rw[Kw];exact CB;split;show 0<=qN default;rw[Kw];exact CB;have hb:=qo (neg:=false) (m:=Qd w) (e:=e) (n:=6) (k:=6) hw oG oG;have hf:=zU hb oG oG;rw[(JQ (YJ _ _ _) hf).2,Vy,<-XD e];exact qM_le.2 (by simp)
theorem x0y {L U:Nat}{x y:Nm}(hx:Qg x=true)(hy:Qg y=true)(h1:luQ L U (qN x))(h2:luQ L U (qN y))(hb:L+U+2<=4096):(KA x y).2=0/\qN (KA x y).1=qN x+qN y:=by have cc:=Wl (Jd hx) (Jd hy);have hl:luQ L (U+1) (qV (Zz (ofN x) (ofN y))):=(by rw[KF];exact UH h1 h2);have hf:=YB cc hl oG;unfold KA;rw[BC ⟨hx,hy⟩];refine⟨hf,?_⟩;rw[(JQ cc hf).2,KF];rfl
theorem z0j {x w:Nm}(hx:tN x)(hw:tN w)(h0:0<=qN w):luI 20 20 ⟨x,(KA x w).1⟩:=by obtain⟨s1,s2⟩:=x0y hx.1.1 hw.1.1 hx.2 hw.2 oG;have hr:=w0s x w;refine⟨?_,hx.2.mono oG oG,?_⟩;exact zu hx.1.1 hr (cmpN_le.2 (by show qN x<=qN (KA x w).1;rw[s2];grind));show luQ 20 20 (qN (KA x w).1);rw[s2];exact(UH hx.2 hw.2).mono oG oG
theorem Dq {neg:Bool}{c:Nat}{e:Int}(hc:c<=7)(h1: -6<=e)(h2:e<=2):tN (XF neg [UInt64.ofNat c] e).1:=
 z0z (by rw[Cb c oG];exact bitlen_le_iff.2 oG) h1 h2
theorem k1e (l:Lu)(i k n:Nat)(st:Qc)(h:atD st k l i)(hi:i<=800000000000)(hn:n<=1000000):PCalls Tryz.prog 58 [.gp k 0,.sc (.int .i64 n)] st
 (fun r st'=> ∃b j,b.length=n/\(∀m,m<b.length->luI 20 20 (b.getD m default))/\i<=j/\j<=i+3*n/\r= .sl .no (Qj b)/\st'=st.set k (dk l j)):=by
 refine Ql Tryz.func58 fun E=> ?_;refine ZE 5 6 ?_;refine Qq ?_;refine Q1 [true,true,false,false,false,true,true] 0 1 (fun m s=> ∃b j,m=n-b.length/\b.length<=n/\(∀m,m<b.length->luI 20 20 (b.getD m default))/\i<=j/\j<=i+3*b.length/\
  s=⟨[.gp k 0,.sc (.int .i64 n),.junk,.junk,.junk,.sl (.own 0) (Qj b),.sc (.int .i64 b.length)]++jk 34,[],[(b.length,6)],st.set k (dk l j)⟩) n ?_ ?_
 refine Qq ?_;refine⟨[],i,by simp,by simp,fun m hm=>by simp at hm,oG,oG,?_⟩;rw[h.same];rfl;rintro m s ⟨b,j,rfl,hb,hr,hj,hj2,rfl⟩;refine QS ?_ ?_<;>intro h1;have hlt:b.length<n:=(oT h1);have x1:IntKind.i64.wrap ((b.length:Int)+1)=((b.length+1:Nat):Int):=(by rw[show((b.length:Int)+1)=((b.length+1:Nat):Int) from rfl,QP _ oG]);have c1:(l.getD (j+1) 0).toNat&&&7<=7:=Nat.and_le_right;have c2:(l.getD (j+1+1) 0).toNat&&&7<=7:=Nat.and_le_right;have v1:=(l.getD (j+1) 0).toNat_lt;have v2:=(l.getD (j+1+1) 0).toNat_lt;have a1:ZV .u64 ((l.getD (j+1) 0).toNat:Int) 7=((UInt64.ofNat ((l.getD (j+1) 0).toNat&&&7)).toNat:Int):=(by rw[show(7:Int)=((7:Nat):Int) from rfl,YN _ _ oG oG,Xz _ oG]);have a2:ZV .u64 ((l.getD (j+1+1) 0).toNat:Int) 7=((UInt64.ofNat ((l.getD (j+1+1) 0).toNat&&&7)).toNat:Int):=(by rw[show(7:Int)=((7:Nat):Int) from rfl,YN _ _ oG oG,Xz _ oG]);refine Qq ?_;refine(HF l j k 2 _ (h.set j) oG oG oG).q ?_;simp-dsimp only[go_sem,Xs];refine(Hd l (j+1) k _ (h.set (j+1)) oG).q ?_;generalize hyes:decide (nx l j 2=2-1)=yes;simp-dsimp only[go_sem,Xs,a1];refine(Hc yes [UInt64.ofNat ((l.getD (j+1) 0).toNat&&&7)] (-2) _ (by simp) oG oG).q ?_;have tx:tN (XF yes [UInt64.ofNat ((l.getD (j+1) 0).toNat&&&7)] (-2)).1:=Dq c1 oG oG;generalize (XF yes [UInt64.ofNat ((l.getD (j+1) 0).toNat&&&7)] (-2)).1=x at tx;refine Qq ?_;refine(Hd l (j+1+1) k _ (h.set (j+1+1)) oG).q ?_;simp-dsimp only[go_sem,Xs,a2];refine(Hc false [UInt64.ofNat ((l.getD (j+1+1) 0).toNat&&&7)] (-6) _ (by simp) oG oG).q ?_;have tw:tN (XF false [UInt64.ofNat ((l.getD (j+1+1) 0).toNat&&&7)] (-6)).1:=Dq c2 oG oG;have tw0:0<=qN (XF false [UInt64.ofNat ((l.getD (j+1+1) 0).toNat&&&7)] (-6)).1:=Y1p (by rw[Cb _ oG];exact bitlen_le_iff.2 oG) oG oG;generalize (XF false [UInt64.ofNat ((l.getD (j+1+1) 0).toNat&&&7)] (-6)).1=w at tw tw0;refine Qq ?_;refine(x0x x w _ (Q9 tx.1.1) (Q9 tw.1.1)).q ?_;have ti:=z0j tx tw tw0;generalize (KA x w).1=y at ti;simp-dsimp only[go_sem,x1];refine⟨oG,n-(b.length+1),oG,b++ [⟨x,y⟩],j+1+1+1,by simp,by simp;omega,fun m hm=> ?_,oG,by simp;omega,by simp[Qj,Qm,Qf]⟩;by_cases hm2:m<b.length;rw[HZ _ _ _ _ hm2];exact hr m hm2;have e:m=b.length:=(by simp at hm;omega);rw[e,HY];exact ti;have hge:b.length=n:=(oF h1);refine Qq ?_;refine KG [false,false,false,false,false,true] (Qb ?_);refine Qq ?_;exact⟨b,j,hge,hr,hj,oG,rfl,rfl⟩
theorem J1f {k:Nat} :1<=p2 (k:Int):=by
 have h:qM 1 0<=qM ((2^k:Nat):Int) 0:=qM_le.2 (by have:=DJ (n:=k) (show 0<2 by decide);omega);have e1:qM 1 0=1:=(by rw[<-Th];rfl);have e2:qM ((2^k:Nat):Int) 0=p2 (k:Int):=by have:=Jz 1 k 0;rw[Th];simpa using this
 rwa [e1,e2] at h
theorem X0x {x y:Rat}{k:Nat}(h:y*p2 (k:Int)=x)(hx:0<x):0<y/\y<=x:=by have hy:=Z1y h hx;refine⟨hy,?_⟩;have h1:=J1f (k:=k);have h2:=Kh (a:=y) (b:=p2 (k:Int)-1) (by grind) (by grind);grind
theorem k1g (l:Lu)(i k n:Nat)(f:Lk)(st:Qc)(h:atD st k l i)(hi:i<=600000000000)(hn:1<=n)(hn4:n<=4)(hf:okField n 2 2 f):PCalls Tryz.prog 24 [.gp k 0,.sl .no (QL f)] st
 (fun r st'=> ∃p j,okPb n p/\p.fld=f/\i<=j/\j<=i+100/\r= .agg (Zq p)/\st'=st.set k (dk l j)):=by
 have hfl:f.length=n:=hf.1;refine Qh none Tryz.func24 rfl fun E=>Qe (Qb ?_);refine Qq ?_;refine Qa ?_;refine(Vn l i k 4 st h oG oG oG).q ?_;have k1:=V1 l i (n:=4) oG;generalize nx l i 4=a at k1;have s1:IntKind.i64.wrap ((a:Int)-3)=(a:Int)-3:=Q2 _ oG oG;have s2:IntKind.i64.wrap (a:Int)=(a:Int):=QP _ oG;simp-dsimp only[go_sem,s1,s2];refine(Hc false [1] ((a:Int)-3) _ (by simp) oG oG).q ?_;have hmost:(XF false [1] ((a:Int)-3)).1=tq (1*2^a):=(by rw[show(1:UInt64)=UInt64.ofNat 1 from rfl,X0a 1 a (by decide) k1 (by decide)]);rw[hmost];have hp2:1*2^a<=8:=(by have:=BS (show 0<2 by decide) (show a<=3 by omega);omega);have hp0:0<1*2^a:=(by have:=DJ (n:=a) (show 0<2 by decide);omega);obtain⟨m1,m2⟩:=HS hp0 oG;have m3:Qg (tq (1*2^a))=true:=Ux _;generalize tq (1*2^a)=most at m1 m2 m3;refine Qq ?_;refine Ky [true,true,false,false,true,true,true] 3 0 (fun s=> ∃least,Qg least=true/\0<qN least/\qN least<=qN most/\s=⟨[.gp k 0,.sl .no (QL f),.junk,.junk,.lp 0 0,.lp 1 0,.lp 2 0]++jk 33,[[.sl .full [],.sl .full [],.sc (.bool false),.sc (.int .i64 0),.sl .full [],.sc (.bool false),.sc (.int .i64 0),.sl .full [],.sc (.bool false),.sc (.int .i64 0),.sl .full [],.sc (.int .i64 0),.sc (.int .i64 0),.sc (.int .i64 0)],Qf most,Qf least],[],st.set k (dk l (i+1+1))⟩) ?_ ?_
 . have k2:=V1 l (i+1) (n:=7) oG;have s3:IntKind.i64.wrap (0-(nx l (i+1) 7:Int))= -(nx l (i+1) 7:Int):=(by rw[Q2 _ oG oG];omega);have s4:IntKind.i64.wrap (nx l (i+1) 7:Int)=(nx l (i+1) 7:Int):=QP _ oG;obtain⟨z1,z2⟩:=Ml (k:=nx l (i+1) 7) m3 m1 oG oG;have z3:=(zn z1).2;obtain⟨z4,z5⟩:=X0x z3 m2;have z6:=WU most (-(nx l (i+1) 7:Int));have wmost:wN most:=Q9 m3;refine Qq ?_;refine Q8 40 (.step 0 [] (.step 1 [] (.alt (.step 2 [0] (.step 3 [] (.alt (.step 4 [] (.step 5 [] (.step 6 [] (.step 7 [] (.step 8 [0] (.step 9 [] (.step 10 [] (.done)))))))) (.step 8 [0] (.step 4 [] (.step 5 [] (.step 6 [] (.step 7 [] (.step 9 [] (.step 10 [] (.done))))))))))) (.step 8 [0] (.step 2 [0] (.step 3 [] (.step 4 [] (.step 5 [] (.step 6 [] (.step 7 [] (.step 9 [] (.step 10 [] (.done))))))))))))) ?_;refine Qq ?_;refine And.intro ?_ ?_
   all_goals
    refine(Vn l (i+1) k 7 _ (h.set (i+1)) oG oG oG).q ?_;simp-dsimp only[go_sem,Xs,s3,s4]
   all_goals try refine And.intro ?_ ?_
   all_goals
    refine(Om most (-(nx l (i+1) 7:Int)) _ wmost).q ?_;refine Qq ?_;exact⟨_,z6,z4,z5,rfl⟩
 rintro s ⟨least,q1,q2,q3,rfl⟩;refine Qp ?_;refine Q8 40 (Qk [0,1,2,3,5,7,8,9,12,15] (.step 4 [7,8] (.step 6 [7,8] (.step 10 [7,8] (.step 11 [] (.step 13 [7,8] (.step 14 [] (.step 16 [7,8] (Qk [17,18,19] .done))))))))) ?_;simp-dsimp only[go_sem,hfl];refine(k1e l (i+1+1) k n _ (h.set (i+1+1)) oG oG).mono ?_;rintro r st' ⟨b,j,hbl,hbl2,hj1,hj2,rfl,rfl⟩;simp-dsimp only[go_sem,Xs];refine(z0p l j k _ (h.set j) oG).mono ?_;rintro r st' ⟨q,hq0,hq1,rfl,rfl⟩;simp-dsimp only[go_sem,Xs];refine(Vn l (j+2) k 49 _ (h.set (j+2)) oG oG oG).q ?_;have k3:=V1 l (j+2) (n:=49) oG;generalize nx l (j+2) 49=pr at k3;have s5:IntKind.i64.wrap (16+(pr:Int))=16+(pr:Int):=Q2 _ oG oG;simp-dsimp only[go_sem,Xs,s5];refine(Vn l (j+2+1) k 3 _ (h.set (j+2+1)) oG oG oG).q ?_;have k4:=V1 l (j+2+1) (n:=3) oG;generalize nx l (j+2+1) 3=od at k4;have s6:IntKind.i64.wrap (2+(od:Int))=2+(od:Int):=Q2 _ oG oG;simp-dsimp only[go_sem,Xs,s6];refine(Vn l (j+2+1+1) k 9 _ (h.set (j+2+1+1)) oG oG oG).q ?_;have k5:=V1 l (j+2+1+1) (n:=9) oG;generalize nx l (j+2+1+1) 9=bu at k5;have s7:IntKind.i64.wrap (1+(bu:Int))=1+(bu:Int):=Q2 _ oG oG;simp-dsimp only[go_sem,Xs,s7];refine⟨⟨f,b,tq q,most,least,16+(pr:Int),2+(od:Int),1+(bu:Int)⟩,j+2+1+1+1,?_,rfl,oG,oG,rfl,rfl⟩;exact⟨hf,hbl,fun m hm=>hbl2 m oG,⟨q,hq0,hq1,rfl⟩,m3,q1,q2,q3,by show(16:Int)<=16+(pr:Int);omega,by show 16+(pr:Int)<=64;omega,by show(2:Int)<=2+(od:Int);omega,by show 2+(od:Int)<=4;omega,by show(1:Int)<=1+(bu:Int);omega,by show 1+(bu:Int)<=9;omega⟩
theorem j1h (q:Ly):flat (Qu q)=Qu q:=by
 unfold Qu flat
 induction q with
 | nil=>rfl
 | cons x q ih=>simp only[DX,List.flatten_cons,ih];rfl
theorem Hw (q:Ly):(Qu q).all PV.quiet=true:=List.all_eq_true.2 fun p hp=>by simp only[Qu,CF] at hp;obtain⟨x,_,rfl⟩:=hp;rfl
theorem V0l (O:Ly)(R:Lp)(n:Nat)(h:n=O.length):(Qu O++R).take (n*1)=Qu O:=by rw[EH,h,show O.length=(Qu O).length from(WC O).symm,List.take_left]
theorem j1g (O:Ly)(x:Lx)(R:Lp):Qu O++(flat [PV.sl .no (Q5 x)]++R)=Qu (O++ [x])++R:=by simp[Qu,flat,PV.cells]
theorem w0k {O:Ly}{x:Lx}{R:Lp}{cap n by_:Nat}{id:Lt}(hn:n=O.length)(hc:n<=cap)(hR:R.length=(cap-n)*1)(hq:R.all PV.quiet=true)(hl:n+1<=1000)(hby:by_<=1000):
 HB (Qu O++R) n cap [PV.sl .no (Q5 x)] ⟨id,1,by_,false,true,false⟩:=by
 refine⟨rfl,by show 0<1;decide,by show _=cap*1;rw[BH,WC,hR];omega,by simp;omega,?_,rfl,by rw[List.all_append,Hw,hq];rfl,rfl⟩;show(n+ [PV.sl Tag.no (Q5 x)].length)*by_<=_;have:(n+ [PV.sl Tag.no (Q5 x)].length)*by_<=1000*1000:=DW (by simp;omega) hby;omega
def zS (n:Nat)(q:List Nm):Prop:=q.length=n/\ ∀i,i<n->Qg (q.getD i default)=true
theorem k1h (l:Lu)(i k n:Nat)(st:Qc)(h:atD st k l i)(hi:i<=600000000000)(hn:1<=n)(hn4:n<=4):PCalls Tryz.prog 33 [.gp k 0,.sc (.int .i64 n)] st
 (fun r st'=> ∃q j,q.length=n/\(∀m,m<n->zS n (q.getD m []))/\i<=j/\j<=i+100/\r= .sl .no (Qu q)/\st'=st.set k (dk l j)):=by
 refine Ql Tryz.func33 fun E=> ?_;refine kr ?_;refine ku 5 0 (by simp) (by rfl) ?_;refine Qq ?_;refine X0 [true,true,false,false,false,true,true] 1 0 (fun c s=> ∃(O:Ly) (j cap:Nat) (R:Lp),c=n-O.length/\O.length<=n/\(∀m,m<O.length->zS n (O.getD m []))/\i<=j/\j<=i+4*O.length/\R.length=(cap-O.length)*1/\O.length<=cap/\R.all PV.quiet=true/\
  s=⟨[.gp k 0,.sc (.int .i64 n)]++(jk 3++([.mr 0 O.length cap,.sc (.int .i64 O.length)]++(jk 35))),[Qu O++R],[],st.set k (dk l j)⟩) n ?_ ?_
 refine Qq ?_;refine⟨[],i,0,[],by simp,by simp,fun m hm=>by simp at hm,oG,oG,rfl,BD _,rfl,?_⟩;rw[h.same];rfl
 . rintro c s ⟨O,j,cap,R,rfl,hO,hr,hj,hj2,r1,r2,r3,rfl⟩;have hall:(Qu O++R).all PV.quiet=true:=(by rw[List.all_append,Hw,r3];rfl);have hlims0:=W2 (a:=1) (b:=0) r3;have hlims1:=W2 (a:=1) (b:=1) r3;refine Qa ?_;refine ck ?_ ?_<;>intro h1;have hlt:O.length<n:=(oT h1);have x1:=Zd O.length oG;refine Qq ?_;refine Qe (Xp ?_);refine Qa ?_;refine ZE 7 3 ?_;refine Qq ?_;have hlA:=W2 (a:=1) (b:=1) hall;refine Ky [true,true,false,false,false,true,true,true] 1 1 (fun s=> ∃(q:Lx) (j':Nat),zS n q/\j<=j'/\j'<=j+n/\s=⟨[.gp k 0,.sc (.int .i64 n)]++(jk 3++([.mr 0 O.length cap,.sc (.int .i64 O.length),.sl (.own 0) (Q5 q)]++(jk 34))),[Qu O++R],[(q.length,3)],st.set k (dk l j')⟩) ?_ ?_;refine Qq ?_;refine Q1 [true,true,false,false,false,true,true,true,true] 1 1 (fun c s=> ∃(q:Lx),c=n-q.length/\q.length<=n/\(∀m,m<q.length->Qg (q.getD m default)=true)/\s=⟨[.gp k 0,.sc (.int .i64 n)]++(jk 3++([.mr 0 O.length cap,.sc (.int .i64 O.length),.sl (.own 0) (Q5 q),.sc (.int .i64 q.length)]++(jk 33))),[Qu O++R],[(q.length,3)],st.set k (dk l (j+q.length))⟩) n ?_ ?_;refine Qq ?_;refine⟨hlA,[],by simp,by simp,fun m hm=>by simp at hm,?_⟩;rfl;rintro c s ⟨q,rfl,hq,hqr,rfl⟩;refine QS ?_ ?_<;>intro h2;have hlt2:q.length<n:=(oT h2);have x2:=Zd q.length oG;refine Qq ?_;refine(zj l (j+q.length) k _ (h.set (j+q.length)) oG).mono ?_;rintro r st' ⟨x,hx,rfl,rfl⟩;simp-dsimp only[go_sem,Xs,x2];refine⟨oG,hlA,n-(q.length+1),oG,q++ [x],by simp,by simp;omega,fun m hm=> ?_,by simp[Q5,Qf,DK]⟩;by_cases hm2:m<q.length;rw[HZ _ _ _ _ hm2];exact hqr m hm2;have e:m=q.length:=(by simp at hm;omega);rw[e,HY];exact hx;have hge:q.length=n:=(oF h2);refine Qq ?_;exact⟨hlA,q,j+q.length,⟨hge,fun m hm=>hqr m oG⟩,oG,oG,rfl⟩;rintro s ⟨q,j',hrow,hj3,hj4,rfl⟩;refine zE [false,false,false,true,false] ?_;have t1:=V0l O R O.length rfl;rw[EH] at t1;simp-dsimp only[go_sem,t1,j1g];refine⟨w0k rfl r2 r1 r3 oG oG,?_⟩;intro c1 R1 g1 g2 g3;have hall2:(Qu (O++ [q])++R1).all PV.quiet=true:=(by rw[List.all_append,Hw,g3];rfl);have hlims:=W2 (a:=1) (b:=0) hall2;refine Qb ?_;simp-dsimp only[go_sem,x1];refine⟨hlims,n-(O.length+1),oG,O++ [q],j',c1,R1,by simp,by simp;omega,fun m hm=> ?_,oG,by simp;omega,by rw[g2];simp,by simpa using g1,g3,by simp⟩;by_cases hm2:m<O.length;rw[HZ _ _ _ _ hm2];exact hr m hm2;have e:m=O.length:=(by simp at hm;omega);rw[e,HY];exact hrow
   . have hge:O.length=n:=oF h1
     have hlB:=W2 (a:=1) (b:=0) hall;refine Qq ?_;refine Ky [true,true,false,false,false,true] 1 0 (fun s=> ∃(O':Ly) (j':Nat),O'.length=n/\(∀m,m<n->zS n (O'.getD m []))/\j<=j'/\j'<=j+1/\s=⟨[.gp k 0,.sc (.int .i64 n)]++(jk 3++([.mr 0 n cap]++(jk 36))),[Qu O'++R],[],st.set k (dk l j')⟩) ?_ ?_
     . rw[hge] at r1 r2 hr;by_cases h3:1<n;rotate_left;have d1:decide ((n:Int)>1)=false:=q_g oG;simp-dsimp only[go_sem,d1];exact⟨hlB,O,j,hge,hr,oG,oG,by rw[hge]⟩;have d1:decide ((n:Int)>1)=true:=q_h oG;simp-dsimp only[go_sem,d1];refine(HF l j k 9 _ (h.set j) oG oG oG).q ?_;simp-dsimp only[go_sem,d1,Xs];refine ck ?_ ?_<;>intro h4;have x3:IntKind.i64.wrap ((n:Int)-1)=((n-1:Nat):Int):=(by rw[Q2 _ oG oG];omega);have g0:(Qu O++R).getD 0 .junk= .sl .no (Q5 (O.getD 0 [])):=(by rw[QV _ _ _ _ (by rw[WC];omega),V8 O 0 oG]);have hx0:(Qu O++R).length=O.length+R.length:=(by rw[BH,WC]);have ho:Q4 (Qu O++R) (n-1) [PV.sl .no (Q5 (O.getD 0 []))]=Qu (O.set (n-1) (O.getD 0 []))++R:=by unfold Q4;rw[FG (by rw[WC];omega),ET (by rw[WC];simp;omega)];have e:Qu (O.set (n-1) (O.getD 0 []))=(Qu O).set (n-1) (.sl .no (Q5 (O.getD 0 []))):=(by simp[Qu,E6]);rw[e,DS,BC (by rw[WC];omega)];simp[BP]
       have hlC:(Qu (O.set (n-1) (O.getD 0 []))++R).all (PV.lim 1 0)=true:=W2 (by rw[List.all_append,Hw,r3];rfl);simp-dsimp only[go_sem,x3,hge,hx0,g0,ho];refine⟨oG,oG,⟨oG,oG⟩,⟨oG,oG⟩,hlC,O.set (n-1) (O.getD 0 []),j+1,by simp[hge],fun m hm=> ?_,oG,oG,rfl⟩;by_cases e:n-1=m;rw[e,Z0 _ _ _ _ oG];exact hr 0 oG;rw[Z3 _ _ _ _ _ e];exact hr m hm;refine Qq ?_;exact⟨hlB,O,j+1,hge,hr,oG,oG,by rw[hge]⟩
     rintro s ⟨O',j',hl',hr',hj3,hj4,rfl⟩;have hall':(Qu O'++R).all PV.quiet=true:=(by rw[List.all_append,Hw,r3];rfl);refine Q1y 5 0 n cap (by rfl) oG ?_;refine Qq ?_;have hft:List.take n (List.map PV.forget2 (Qu O'++R))=Qu O':=by have e:List.map PV.forget2 (Qu O')=Qu O':=(by simp[Qu,PV.forget2,PV.forget1]);have:=V0l O' (R.map PV.forget2) n hl'.symm;rw[EH] at this;rw[E2,e];exact this
     have hln:n<=O'.length+R.length:=oG;refine Z5 0 (by simp only[Hr];exact Io hall') ?_;simp-dsimp only[go_sem,hft,hln];refine Qp ?_;exact⟨O',j',hl',hr',oG,oG,rfl,rfl⟩
theorem W0j (l:Lu)(i k n:Nat)(st:Qc)(h:atD st k l i)(hi:i<=500000000000)(hn:1<=n)(hn4:n<=4):PCalls Tryz.prog 10 [.gp k 0,.sc (.int .i64 n)] st
 (fun r st'=> ∃f j,Z4 f=true/\f.m.length=n/\i<=j/\j<=i+200/\r= .agg (ZU f)/\st'=st.set k (dk l j)):=by
 refine Qh none Tryz.func10 rfl fun E=>Qe (Qb ?_);refine Qq ?_;refine Qa ?_;refine(k1h l i k n st h oG hn hn4).mono ?_;rintro r st' ⟨q,j0,hq,hq2,hj,hj2,rfl,rfl⟩;refine Qq ?_;refine Rq 1 0 3 ?_;refine Qq ?_;refine Rq 1 2 6 ?_;refine Qq ?_;refine Qp ?_;refine Q1 [true,true,false,false,true,true,true] 2 2 (fun c s=> ∃(m:Lx) (r:Li),c=n-m.length/\m.length<=n/\r.length=m.length/\(∀i,i<m.length->Qg (m.getD i default)=true)/\(∀i,i<m.length->Ja (r.getD i default) default=true)/\
  s=⟨[.gp k 0,.sc (.int .i64 n)]++(jk 2++([.lp 0 0,.lp 1 0,.sc (.int .i64 m.length)]++(jk 30))),[[.sl .full [],.sl .full [],.sl .full []],[.sl (.own 0) (Q5 m),.sl .no (Qu q),.sl (.own 1) (Qj r)]],[(m.length,3),(r.length,6)],st.set k (dk l (j0+3*m.length))⟩) n ?_ ?_
 refine Qq ?_;exact⟨[],[],by simp,by simp,rfl,fun i hi=>by simp at hi,fun i hi=>by simp at hi,rfl⟩;rintro c s ⟨m,r,rfl,hm,hr,hmr,hrr,rfl⟩;refine QS ?_ ?_<;>intro h1;have hlt:m.length<n:=(oT h1);have x1:=Zd m.length oG;refine Qq ?_;refine Q8 37 (Qk [0,1,2] (.step 3 [1] (Qk [4,5,6,7] .done))) ?_;refine Qq ?_;refine(zj l (j0+3*m.length) k _ (h.set _) oG).mono ?_;rintro r' st' ⟨x,hx,rfl,rfl⟩;simp-dsimp only[go_sem,Xs];refine⟨oG,?_⟩;refine Q8 37 (Qk [0,1,2,6] (.step 3 [1] (.step 4 [1] (.step 5 [1] (.step 7 [1] (.step 8 [1] (Qk [9,10,11,12,13] .done))))))) ?_;refine Qq ?_;refine(zj l (j0+3*m.length+1) k _ (h.set _) oG).mono ?_;rintro r' st' ⟨y,hy,rfl,rfl⟩;simp-dsimp only[go_sem,Xs];refine(U0t y _ (Q9 hy)).mono ?_;rintro r' st' ⟨rfl,rfl⟩;have ra:Qg (Zx y)=true:=HA y;refine Qq ?_;refine(W1n (Zx y) _ (Q9 ra)).mono ?_;rintro r' st' ⟨rfl,rfl⟩;refine Qq ?_;refine(zj l (j0+3*m.length+1+1) k _ (h.set _) oG).mono ?_;rintro r' st' ⟨z,hz,rfl,rfl⟩;simp-dsimp only[go_sem,Xs];refine(U0t z _ (Q9 hz)).mono ?_;rintro r' st' ⟨rfl,rfl⟩;simp-dsimp only[go_sem,x1];refine⟨oG,n-(m.length+1),oG,m++ [x],r++ [⟨JT (Zx y),Zx z⟩],by simp,by simp;omega,by simp[hr],fun i hi=> ?_,fun i hi=> ?_,?_⟩;by_cases hm2:i<m.length;rw[HZ _ _ _ _ hm2];exact hmr i hm2;have e:i=m.length:=(by simp at hi;omega);rw[e,HY];exact hx;by_cases hm2:i<m.length;rw[HZ _ _ _ _ oG];exact hrr i hm2;have e:i=r.length:=(by simp at hi;omega);rw[e,HY];exact x0a y z;simp[Q5,Qf,Qj,Qm,CE,DK];have hge:m.length=n:=(oF h1);refine Qq ?_;refine Va 1 ?_;refine Qq ?_;refine Qp ?_;refine⟨⟨m,q,r⟩,j0+3*m.length,Oc (by show 1<=m.length;omega) (by show m.length<=4;omega) hmr (by show q.length=m.length;omega) (by show r.length=m.length;omega) (fun i hi=> ?_) (fun i hi=>hrr i (by have:i<r.length:=hi;omega)),hge,oG,oG,rfl,rfl⟩;have hi:i<q.length:=hi;obtain⟨a1,a2⟩:=hq2 i oG;exact⟨by show(q.getD i []).length=m.length;omega,fun j hj=>a2 j (by have:j<m.length:=hj;omega)⟩
theorem okPb.w {n:Nat}{p:Pb}(h:okPb n p)(hn:1<=n)(hn4:n<=4)(hf:wF p.fld):wPb p:=by obtain⟨h1,h2,h3,⟨q,q1,q2,h4⟩,h5,h6,_⟩:=h;exact⟨hf,⟨oG,fun i hi=>Ob (h3 i oG).1⟩,by rw[h4];exact Q9 (Ux q),Q9 h5,Q9 h6⟩
theorem k1f (l:Lu)(i k n:Nat)(p:Pb)(st:Qc)(h:atD st k l i)(hi:i<=400000000000)(hn:1<=n)(hn4:n<=4)(hp:okPb n p)(hf:wF p.fld):PCalls Tryz.prog 7 [.gp k 0,.agg (Zq p)] st
 (fun r st'=> ∃s j,Yy s=true/\s.f.m.length=n/\i<=j/\j<=i+300/\r= .agg (Zw s)/\st'=st.set k (dk l j)):=by
 have wp:=hp.w hn hn4 hf;obtain⟨b1,b2,b3⟩:=hp.begin hn hn4;have hfr:=K0g (L:=20) (U:=20) (b:=p.box) (p:=p.prec) (by rw[hp.2.1];exact hn) (by rw[hp.2.1];exact hn4) (fun i hi=>hp.2.2.1 i (by rw[hp.2.1] at hi;exact hi)) (hp.right hn hn4).2 oG;obtain⟨p1,p2,p3,⟨q,q1,q2,p4⟩,p5,p6,p7,p8,p9,p10,p11,p12,p13,p14⟩:=hp;have hbl:(X6 p.box p.prec).1.m.length=n:=(by rw[hfr.2.2,p2]);refine Qh none Tryz.func7 rfl fun E=>Qe (Qb ?_);refine Qq ?_;refine Qa ?_;have c0:PR 27 [.agg (Zq p)] st (.tup [.agg (Zw (Vp p).1),.sc (.int .i64 (Vp p).2)]):=y0p p st wp;refine c0.q ?_;rw[b1] at b3⊢;refine Qq ?_;refine Qa ?_;refine(HF l i k 2 _ h oG oG oG).Q ?_;refine ck ?_ ?_<;>intro h1;refine Qq ?_;exact⟨⟨0,default,p.most,(X6 p.box p.prec).1⟩,i+1,b3,hbl,oG,oG,rfl,rfl⟩;refine Qq ?_;have e1:IntKind.i64.wrap (p.budget+1)=((p.budget.toNat+1:Nat):Int):=(by rw[Q2 _ oG oG];omega);refine Qe (Qb ?_);simp-dsimp only[go_sem,e1];refine(Vn l (i+1) k (p.budget.toNat+1) _ (h.set (i+1)) oG oG oG).w ?_;rintro st' rfl;have k1:=V1 l (i+1) (n:=p.budget.toNat+1) oG;generalize nx l (i+1) (p.budget.toNat+1)=idx at k1;simp-dsimp only[go_sem,Xs];refine Qe (Qb ?_);simp-dsimp only[go_sem,p2];refine(W0j l (i+1+1) k n _ (h.set (i+1+1)) oG hn hn4).mono ?_;rintro r st' ⟨f,j,f1,f2,hj,hj2,rfl,rfl⟩;simp-dsimp only[go_sem,Xs];refine Ky [true,false,false,true,true,true] 3 0 (fun s=> ∃(hh:Nm) (j':Nat),Qg hh=true/\0<qN hh/\j<=j'/\j'<=j+1/\s=⟨[.gp k 0,.junk,.junk,.lp 0 0,.lp 1 0,.lp 2 0]++jk 47,[Zq p,[.sc (.int .i64 0),.sc (.bool false),.sc (.int .i64 0),.sl .full [],.sc (.bool false),.sc (.int .i64 0),.sl .full [],.sl .full [],.sl .full [],.sl .full []],Zw ⟨idx,default,hh,f⟩],[],st.set k (dk l j')⟩) ?_ ?_;refine Qq ?_;refine(HF l j k 2 _ (h.set j) oG oG oG).q ?_;simp-dsimp only[go_sem,Xs];refine ck ?_ ?_<;>intro h2;refine Qq ?_;exact⟨p.least,j+1,p6,p7,oG,oG,rfl⟩;refine Qq ?_;exact⟨p.most,j+1,p5,by grind,oG,oG,rfl⟩;rintro s ⟨hh,j',u1,u2,u3,u4,rfl⟩;refine Ky [true,false,false,true,true,true,false,true,true] 4 0 (fun s=> ∃(t:Nm) (j2:Nat),Qg t=true/\t.neg=false/\j<=j2/\j2<=j+2/\s=⟨[.gp k 0,.junk,.junk,.lp 0 0,.lp 1 0,.lp 2 0,.junk,.lp 3 0,.sc (.int .i64 0)]++jk 44,[Zq p,[.sc (.int .i64 0),.sc (.bool false),.sc (.int .i64 0),.sl .full [],.sc (.bool false),.sc (.int .i64 0),.sl .full [],.sl .full [],.sl .full [],.sl .full []],Zw ⟨idx,default,hh,f⟩,Qf t],[],st.set k (dk l j2)⟩) ?_ ?_
 . have k2:=V1 l j' (n:=3) oG;have s3:IntKind.i64.wrap (0-((1+nx l j' 3:Nat):Int))= -((1+nx l j' 3:Nat):Int):=(by rw[Q2 _ oG oG];omega);have s4:IntKind.i64.wrap (1+(nx l j' 3:Int))=((1+nx l j' 3:Nat):Int):=(by rw[Q2 _ oG oG];omega);have s5:IntKind.i64.wrap ((1+nx l j' 3:Nat):Int)=((1+nx l j' 3:Nat):Int):=QP _ oG;have hut:Qg p.until'=true:=(by rw[p4];exact Ux q);have hul:=HS q1 q2;rw[<-p4] at hul;obtain⟨z1,z2⟩:=Ml (k:=1+nx l j' 3) hut hul.1 oG oG;have z3:=(zn z1).2;obtain⟨z4,z5⟩:=X0x z3 hul.2;have z6:=WU p.until' (-((1+nx l j' 3:Nat):Int));have wut:wN p.until':=Q9 hut;refine Qq ?_;refine Q8 53 (Qk [0,1,2] (.alt (.step 3 [1] (.step 4 [] (.step 5 [] (.alt (Qk [6,7,8,9] (.step 10 [1] (.step 11 [] (.step 12 [] (.done))))) (.step 10 [1] (Qk [6,7,8,9,11,12] .done)))))) (.step 10 [1] (.step 3 [1] (Qk [4,5,6,7,8,9,11,12] .done))))) ?_;refine Qq ?_;refine And.intro ?_ ?_
   all_goals
    refine(Vn l j' k 3 _ (h.set j') oG oG oG).q ?_;simp-dsimp only[go_sem,Xs,s3,s4,s5]
   all_goals try refine And.intro ?_ ?_
   all_goals
    refine(Om p.until' (-((1+nx l j' 3:Nat):Int)) _ wut).q ?_;simp-dsimp only[go_sem,z1];exact⟨_,j'+1,z6,(So z4).1,oG,oG,rfl⟩
 rintro s ⟨t,j2,v1,v2,v3,v4,rfl⟩;refine Qa ?_;refine(HF l j2 k 2 _ (h.set j2) oG oG oG).q ?_;simp-dsimp only[go_sem,Xs];refine ck ?_ ?_<;>intro h2;refine Qq ?_;refine Qp ?_;exact⟨⟨idx,t,hh,f⟩,j2+1,jQ oG oG v1 v2 u1 u2 f1,f2,oG,oG,rfl,rfl⟩;refine Qq ?_;refine Qp ?_;exact⟨⟨idx,default,hh,f⟩,j2+1,jQ oG oG (by decide) rfl u1 u2 f1,f2,oG,oG,rfl,rfl⟩
def ZB (A:List (List Nm))(i j:Nat):Nm:=(A.getD i []).getD j default
def Y2 (A:List (List Nm))(k:Nat):Nat->Nat
 | 0=>k
 | m+1=>if Q6 (Zx (ZB A (k+1+m) k)) (Zx (ZB A (Y2 A k m) k))<=0 then Y2 A k m else k+1+m
theorem Sv (A:Ly)(k:Nat): ∀m,k<=Y2 A k m/\Y2 A k m<=k+m
 | 0=>⟨BD _,BD _⟩
 | m+1=>by have:=Sv A k m;unfold Y2;split<;>omega
def W0e (d:Nm)(p:Int)(row:List Nm):Bool:=row.all fun c=>(Jc c d p false).2==0
def IS (d:Nm)(p:Int)(row:List Nm):List Nm:=row.map fun c=>(Jc c d p false).1
def qv (x m y:Nm)(p:Int):Nm×Int:=if (Qw 2 m y p false).2≠0 then Qw 2 m y p false else Qw 1 x (Qw 2 m y p false).1 p false
def X0s (m:Nm)(p:Int)(row other:List Nm):Bool:=(List.range row.length).all fun j=>(qv (row.getD j default) m (other.getD j default) p).2==0
def I4 (m:Nm)(p:Int)(row other:List Nm):List Nm:=(List.range row.length).map fun j=>(qv (row.getD j default) m (other.getD j default) p).1
structure GJ where
 a:List (List Nm)
 r:List (List Nm)
 e:Int
def vR (p:Int)(k i:Nat)(x:GJ):GJ:=
 if i=k\/(ZB x.a i k).w= [] then x
 else if (X0s (ZB x.a i k) p (x.a.getD i []) (x.a.getD k [])&&X0s (ZB x.a i k) p (x.r.getD i []) (x.r.getD k []))=true then
  ⟨x.a.set i (I4 (ZB x.a i k) p (x.a.getD i []) (x.a.getD k [])),x.r.set i (I4 (ZB x.a i k) p (x.r.getD i []) (x.r.getD k [])),0⟩
 else⟨x.a,x.r,2⟩
def Hm (p:Int)(k:Nat)(x:GJ):Nat->GJ
 | 0=>x
 | i+1=>if (Hm p k x i).e=0 then vR p k i (Hm p k x i) else Hm p k x i
def xn (n k:Nat)(x:GJ):GJ:=⟨ze [] x.a k (Y2 x.a k (n-(k+1))),ze [] x.r k (Y2 x.a k (n-(k+1))),0⟩
def IA (p:Int)(k:Nat)(x:GJ):GJ:=
 if (W0e (ZB x.a k k) p (x.a.getD k [])&&W0e (ZB x.a k k) p (x.r.getD k []))=true then⟨x.a.set k (IS (ZB x.a k k) p (x.a.getD k [])),x.r.set k (IS (ZB x.a k k) p (x.r.getD k [])),0⟩ else⟨x.a,x.r,2⟩
def vS (p:Int)(n k:Nat)(x:GJ):GJ:=
 if (ZB x.a (Y2 x.a k (n-(k+1))) k).w= [] then⟨x.a,x.r,3⟩
 else if (IA p k (xn n k x)).e=0 then Hm p k (IA p k (xn n k x)) n
 else IA p k (xn n k x)
def WA (p:Int)(n:Nat)(x:GJ):Nat->GJ
 | 0=>x
 | k+1=>if (WA p n x k).e=0 then vS p n k (WA p n x k) else WA p n x k
def Y7 (n:Nat):List (List Nm):=(List.range n).map fun i=>(List.range n).map fun j=>if i=j then⟨false,0,[1]⟩ else default
def QW (a:List (List Nm))(p:Int):List (List Nm)×Int:=
 if Xj a=true/\Qv p=true then(if (WA p a.length ⟨a,Y7 a.length,0⟩ a.length).e=0 then((WA p a.length ⟨a,Y7 a.length,0⟩ a.length).r,0) else([],(WA p a.length ⟨a,Y7 a.length,0⟩ a.length).e)) else([],1)
def sqR (n:Nat)(a:List (List Nm)):Prop:=a.length=n/\ ∀r∈a,r.length=n/\ ∀c∈r,Qg c=true
theorem sqR.row {n:Nat}{a:Ly}(h:sqR n a){i:Nat}(hi:i<n):(a.getD i []).length=n/\ ∀c∈a.getD i [],Qg c=true:=h.2 _ (QE _ _ _ (by rw[h.1];exact hi))
theorem sqR.set {n:Nat}{a:Ly}(h:sqR n a){i:Nat}{r:Lx}(hr:r.length=n/\ ∀c∈r,Qg c=true):sqR n (a.set i r):=by refine⟨by rw[BL];exact h.1,fun x hx=> ?_⟩;rcases List.mem_or_eq_of_mem_set hx with hx | rfl;exact h.2 x hx;exact hr
theorem sqR.swap {n:Nat}{a:Ly}(h:sqR n a){i j:Nat}(hi:i<n)(hj:j<n):sqR n (ze [] a i j):=by unfold ze;exact(h.set (h.row hj)).set (h.row hi)
theorem Q0x (x:Nm)(st:Qc)(hw:wN x):PR 348 [.agg (Qf x)] st (.agg (Qf (Zx x))):=by unfold wN at hw;refine Ql Tryz.func348 fun E=> ?_;refine(Tj x st oG).Q ?_;refine(wJ (XR x) st).Q ?_;unfold Zx XR K0;split<;>rfl
theorem j0u (a:Ly)(st:Qc)(hw:wQs a):PR 319 [.sl .no (Qu a)] st (.sc (.bool (Xj a))):=by
 obtain⟨hl,hw⟩:=hw;refine Ql Tryz.func319 fun E=> ?_;refine Q1 [true,false,false,false,false,false,false,true,true,true] 0 0 (fun n s=> ∃i,n=a.length-i/\i<=a.length/\(∀j,j<i->Zy (a.getD j []) a.length=true)/\s=⟨[.sl .no (Qu a),.junk,.junk,.junk,.junk,.junk,.junk,.sl .no (Qu a),.sc (.int .i64 a.length),.sc (.int .i64 (i:Nat))]++jk 27,[],[],st⟩) a.length ?_ ?_;refine Qq ?_;exact⟨0,oG,oG,fun j hj=>oG,rfl⟩;rintro n s ⟨i,rfl,hi,hr,rfl⟩;refine QS ?_ ?_<;>intro h;have hlt:i<a.length:=(oT h);have e1:=V8 a i hlt;have e3:=Zd i oG;have wi:=hw i hlt;have wil:=wi.1;simp-dsimp only[go_sem,e1];refine⟨oG,?_⟩;refine ck ?_ ?_<;>intro h2;have hn:=Ve h2;refine Qq ?_;have:Xj a=false:=CS.2 fun e=>hn (by have:=(rightQ_iff.1 e).1 i hlt;unfold Zy at this;simp at this;exact this.2);rw[this];have hn:=Kg h2;refine Qq ?_;refine Q1 ([true,false,false,false,false,false,false,true,true,true]++rF 8++ [true,true,true]) 0 0 (fun n s=> ∃k,n=(a.getD i []).length-k/\k<=(a.getD i []).length/\(∀j,j<k->Qg ((a.getD i []).getD j default)=true)/\s=⟨[.sl .no (Qu a),.junk,.junk,.junk,.junk,.junk,.junk,.sl .no (Qu a),.sc (.int .i64 a.length),.sc (.int .i64 (i:Nat))]++jk 8++ [.sl .no (Q5 (a.getD i [])),.sc (.int .i64 (a.getD i []).length),.sc (.int .i64 (k:Nat))]++jk 16,[],[],st⟩) (a.getD i []).length ?_ ?_;refine Qq ?_;exact⟨0,oG,oG,fun j hj=>oG,rfl⟩;rintro n s ⟨k,rfl,hk,hrk,rfl⟩;refine QS ?_ ?_<;>intro h5;have hklt:k<(a.getD i []).length:=(oT h5);have e2:=JV (a.getD i []) k hklt;have e4:=Zd k oG;have wk:=wi.2 k hklt;unfold wN at wk;simp-dsimp only[go_sem,e2];refine⟨oG,?_⟩;refine(XY _ st oG).Q ?_;refine ck ?_ ?_<;>intro h6;have hf:Qg ((a.getD i []).getD k default)=false:=(by simpa using h6);refine Qq ?_;have:Xj a=false:=CS.2 fun e=>by have:=(rightQ_iff.1 e).1 i hlt;unfold Zy at this;rw[q_i] at this;rw[(Vr _ Qg).1 this.1 k hklt] at hf;cases hf
 rw[this];have ht:Qg ((a.getD i []).getD k default)=true:=(by simpa using h6);simp-dsimp only[go_sem,e4];refine⟨(a.getD i []).length-(k+1),oG,k+1,rfl,oG,fun j hj=> ?_,rfl⟩;by_cases e:j=k;subst e;exact ht;exact hrk j oG;have hge:k=(a.getD i []).length:=(oF h5);refine Qq ?_;refine Qb ?_;simp-dsimp only[go_sem,e3];refine⟨a.length-(i+1),oG,i+1,rfl,oG,fun j hj=> ?_,rfl⟩;by_cases e:j=i;subst e;unfold Zy;rw[q_i];exact⟨(Vr _ Qg).2 fun b hb=>hrk b oG,q_h hn⟩;exact hr j oG
 . have hge:i=a.length:=oF h
   subst hge;refine Qq ?_;refine Qp ?_;have fin:Xj a=(decide ((a.length:Int)>=1)&&decide ((a.length:Int)<=4)):=by rw[E3,rightQ_iff,q_i,D0,D0];exact⟨fun h=>⟨oG,oG⟩,fun h=>⟨hr,oG,oG⟩⟩
   rw[fin];refine gkT ?_ ?_<;>intro h1
   . simp-dsimp only[go_sem,h1]
     try rfl
   . simp-dsimp only[go_sem,h1]
     try rfl
def Kd (a b:Nm)(p:Int)(up:Bool):Nm×Int:=if b.w= [] then(default,3) else Jc a b p up
theorem Q1i (a b:Nm)(p:Int)(up:Bool):Qg (Kd a b p up).1=true:=by unfold Kd;split;decide;exact Kt (Wm (JY (yw _ _ _) _ _))
theorem Di {α:Type}(d:α)(l:List α){i:Nat}(h:i<l.length):l.take (i+1)=l.take i++ [l.getD i d]:=by rw[List.take_add_one,BB h,q_a,BB h];rfl
theorem QO.top {st:Qc}{A:Nat}{ids:Ln}{a:Ly}(h:QO st A ids a){i:Nat}(hi:i<a.length):(st.getD A []).getD i .junk= .ms true (ids.getD i 0) 0 a.length/\i+1<=(st.getD A []).length:=by obtain⟨R,hR⟩:=h.2.top.2;have hii:i<ids.length:=(by rw[h.2.lid];exact hi);rw[hR];refine⟨?_,by rw[BH,BR];omega⟩;rw[QV _ _ _ _ (by rw[BR];exact hii),q_a,B8,q_a,BB hii];rfl
theorem Tg {α:Type}(d:α)(F x:List α){j:Nat}(hl:F.length=x.length)(hj:j<x.length):(F.take j++x.drop j).length=x.length/\(F.take j++x.drop j).getD j d=x.getD j d/\(F.take j++x.drop j).set j (F.getD j d)=F.take (j+1)++x.drop (j+1):=by
 have hlt:(F.take j).length=j:=by rw[BX];omega
 refine⟨by rw[BH,hlt,DM];omega,?_,?_⟩;rw[Zi _ _ _ _ oG,hlt,DD,q_a,DH,B1,<-q_a];rw[CJ _ _ oG,hlt,DD];have e1:x.drop j=x.getD j d::x.drop (j+1):=by rw[q_a,BB hj];exact E8 hj
 rw[e1,List.set_cons_zero,Di d F oG,BP];rfl
end Go.Pv
end
