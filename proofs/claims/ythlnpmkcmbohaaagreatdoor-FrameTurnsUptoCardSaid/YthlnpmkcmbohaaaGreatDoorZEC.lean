/- Parts of the walk: M78, PvBb, N117, N118, N126. -/
import Derived.Test.YthlnpmkcmbohaaaGreatDoorZEB
import Derived.Test.YthlnpmkcmbohaaaGreatDoorZBR
set_option linter.unusedVariables false
set_option linter.unusedSimpArgs false
section
namespace Go.Pv
structure Pb where
 fld:List (List Mn)
 box:List Ivl
 until':Nm
 most:Nm
 least:Nm
 prec:Int
 order:Int
 budget:Int
instance : Inhabited Pb:=⟨⟨[],[],default,default,default,0,0,0⟩⟩
theorem zN {f:Fm}(h1:1<=f.m.length)(h4:f.m.length<=4)(hm: ∀i,i<f.m.length->Qg (f.m.getD i default)=true)(ha:f.a.length=f.m.length)(hr:f.r.length=f.m.length)
 (har: ∀i,i<f.a.length->(f.a.getD i []).length=f.m.length/\ ∀j,j<f.m.length->Qg ((f.a.getD i []).getD j default)=true) (hz: ∀i,i<f.r.length->qm (f.r.getD i default) default=true):Zb f=true:=by
 have all: ∀(l:List Nm),(∀i,i<l.length->Qg (l.getD i default)=true)->l.all Qg=true:=fun l hl=>by rw[q_d];intro x hx;obtain⟨i,hi,rfl⟩:=Gt hx;exact hl i hi
 unfold Zb;simp only[q_i,BN];refine⟨⟨⟨⟨⟨⟨h1,h4⟩,?_⟩,ha⟩,hr⟩,?_⟩,?_⟩;unfold QN;rw[all _ hm];simp;rw[q_d];intro x hx;obtain⟨i,hi,rfl⟩:=CM.1 hx;have:=har i hi;rw[show f.a.getD i []=f.a[i] by simp[q_a,hi]] at this;unfold QN;rw[all _ (fun j hj=>this.2 j oG),this.1];simp;rw[q_d];intro x hx;obtain⟨i,hi,rfl⟩:=Gt hx;exact hz i hi
theorem G0l (x y:Nm):qm ⟨Jl (J8 x),J8 y⟩ default=true:=by refine(x0t (zD x y)).2 ⟨?_,?_⟩;show qM (Kt (Jl (J8 x))) (Jl (J8 x)).exp<=0;rw[<-Zs (Jl (J8 x)).exp];exact qM_le.2 (zY x);show 0<=qM (Kt (J8 y)) (J8 y).exp;rw[<-Zs (J8 y).exp];exact qM_le.2 (jy y)
open Go.Proofs
def JI (f:Fm):List PV:= [.sl .no (Qy f.m),.sl .no (Z8 f.a),.sl .no (QE f.r)]
attribute [go_sem] JI
def W2e (s:Sx):List PV:= [.sc (.int .i64 s.idx),.sc (.bool s.t.neg),.sc (.int .i64 s.t.exp),.sl .no (Q2 s.t.w),.sc (.bool s.h.neg),.sc (.int .i64 s.h.exp),.sl .no (Q2 s.h.w),.sl .no (Qy s.f.m),.sl .no (Z8 s.f.a),.sl .no (QE s.f.r)]
attribute [go_sem] W2e
def W2h (p:Pb):List PV:= [.sl .no (W2j p.fld),.sl .no (QE p.box),.sc (.bool p.until'.neg),.sc (.int .i64 p.until'.exp),.sl .no (Q2 p.until'.w),.sc (.bool p.most.neg),.sc (.int .i64 p.most.exp),.sl .no (Q2 p.most.w),
 .sc (.bool p.least.neg),.sc (.int .i64 p.least.exp),.sl .no (Q2 p.least.w),.sc (.int .i64 p.prec),.sc (.int .i64 p.order),.sc (.int .i64 p.budget)]
attribute [go_sem] W2h
def U1v (l:List Nm):Prop:=l.length<=100000000000/\ ∀i,i<l.length->wN (l.getD i default)
def wQs (l:List (List Nm)):Prop:=l.length<=100000000000/\ ∀i,i<l.length->U1v (l.getD i [])
def wFm (f:Fm):Prop:=U1v f.m/\wQs f.a/\wB f.r
theorem V2x {a b:Fm} :a=b<->a.m=b.m/\a.a=b.a/\a.r=b.r:=by cases a;cases b;simp
theorem kM {l:List Nm}{n:Nat}(h:QN l n=true)(hn:n<=1000):U1v l:=by unfold QN at h;simp only[q_i,BN,q_d] at h;refine⟨oG,fun i hi=>Qr (h.1 _ ?_)⟩;rw[q_a,BB hi];exact ED hi
theorem Vk {f:Fm}(h:Zb f=true):wFm f:=by obtain⟨f1,f2,f3,f4,f5,f6,f7⟩:=Q8 h;refine⟨kM (n:=f.m.length) (by unfold QN;rw[f3];simp) oG,⟨oG,fun i hi=> ?_⟩,⟨oG,fun i hi=> ?_⟩⟩;rw[q_d] at f6;refine kM (n:=f.m.length) (f6 _ ?_) oG;rw[q_a,BB hi];exact ED hi;have:=Q1 (Ye f7 i hi);exact⟨Qr this.1,Qr this.2.1⟩
set_option maxRecDepth 100000
theorem qB (l:List Nm)(n:Nat)(st:Qf)(hw:U1v l)(hn:n<=1000000000000):PR 80 [.sl .no (Qy l),.sc (.int .i64 n)] st (.sc (.bool (QN l n))):=by
 obtain⟨hl,hw⟩:=hw;refine U2m Tryz.func80 fun E=> ?_;refine Qd [true,true,false,false,false,false,false,true,true,true] 0 0 (fun m s=> ∃i,m=l.length-i/\i<=l.length/\(∀j,j<i->Qg (l.getD j default)=true)/\
  s=⟨[.sl .no (Qy l),.sc (.int .i64 n),.junk,.junk,.junk,.junk,.junk,.sl .no (Qy l),.sc (.int .i64 l.length),.sc (.int .i64 (i:Nat))]++jk 11,[],[],st⟩) l.length ?_ ?_
 refine G2s ?_;exact⟨0,oG,oG,fun j hj=>absurd hj (CD j),rfl⟩;rintro m s ⟨i,rfl,hi,hr,rfl⟩;refine U2n (fun h1=> ?_) (fun h1=> ?_);have hlt:i<l.length:=(oT h1);have g1:=QG l i hlt;have wi:=hw i hlt;unfold wN at wi;have x1:IntKind.i64.wrap ((i:Int)+1)=((i+1:Nat):Int):=(by rw[show((i:Int)+1)=((i+1:Nat):Int) from rfl,Qn _ oG]);simp-dsimp only[go_sem,g1];refine⟨oG,?_⟩;refine(Zh (l.getD i default) st oG).Q ?_;refine ck (fun h2=> ?_) (fun h2=> ?_);have hf:Qg (l.getD i default)=false:=(by simpa using h2);refine G2s ?_;have:QN l n=false:=CS.2 fun e=>by unfold QN at e;rw[q_i] at e;rw[(J2 l Qg).1 e.1 i hlt] at hf;cases hf
 rw[this];have ht:Qg (l.getD i default)=true:=(by simpa using h2);simp-dsimp only[go_sem,x1];refine⟨l.length-(i+1),oG,i+1,rfl,oG,fun j hj=> ?_,rfl⟩;by_cases e:j=i;subst e;exact ht;exact hr j oG;have hge:i=l.length:=(oF h1);refine G2s ?_;refine U2i ?_;have ha:l.all Qg=true:=(J2 l Qg).2 fun j hj=>hr j oG;have e:((l.length:Int)==(n:Int))=decide (l.length=n):=(by rw[E6];simp;omega);rw[e,QN,ha,FE]
theorem KM (f:Fm)(st:Qf)(hw:wFm f):PR 32 [.agg (JI f)] st (.sc (.bool (Zb f))):=by
 obtain⟨wm,⟨wal,wa⟩,wr⟩:=hw;have wml:=wm.1;have wrl:=wr.1;have no: ¬Zb f=true->Zb f=false:=fun h=>(by simpa using h);refine Qb none Tryz.func32 rfl fun E=>Qa ?_;by_cases h1:1<=f.m.length;rotate_left;have d1:decide ((f.m.length:Int)<1)=true:=q_h oG;simp-dsimp only[go_sem,d1];rw[no fun e=>h1 (Q8 e).1];have d1:decide ((f.m.length:Int)<1)=false:=q_g oG;by_cases h2:f.m.length<=4;rotate_left;have d2:decide ((f.m.length:Int)>4)=true:=q_h oG;simp-dsimp only[go_sem,d1,d2];rw[no fun e=>h2 (Q8 e).2.1];have d2:decide ((f.m.length:Int)>4)=false:=q_g oG;simp-dsimp only[go_sem,d1,d2];refine(qB f.m f.m.length st wm oG).q ?_;cases h3:QN f.m f.m.length with
 | false=>
  simp-dsimp only[go_sem,d1,d2];rw[no fun e=>by unfold Zb at e;rw[h3] at e;simp at e]
 | true=>
 by_cases h4:f.a.length=f.m.length;rotate_left;have d4:((f.a.length:Int) !=(f.m.length:Int))=true:=BV.2 oG;simp-dsimp only[go_sem,d1,d2,d4];rw[no fun e=>h4 (Q8 e).2.2.2.1];have d4:((f.a.length:Int) !=(f.m.length:Int))=false:=(by rw[h4];simp);by_cases h5:f.r.length=f.m.length;rotate_left;have d5:((f.r.length:Int) !=(f.m.length:Int))=true:=BV.2 oG;simp-dsimp only[go_sem,d1,d2,d4,d5];rw[no fun e=>h5 (Q8 e).2.2.2.2.1];have d5:((f.r.length:Int) !=(f.m.length:Int))=false:=(by rw[h5];simp);simp-dsimp only[go_sem,d1,d2,d4,d5];have key:Zb f=true<-> ∀j,j<f.m.length->QN (f.a.getD j []) f.m.length=true/\qm (f.r.getD j default) default=true:=by unfold Zb;simp only[q_i,BN,h1,h2,h3,h4,h5,F9,q_d];refine⟨fun⟨q1,q2⟩ j hj=>⟨q1 _ ?_,q2 _ ?_⟩,fun h=>⟨fun x hx=> ?_,fun x hx=> ?_⟩⟩;rw[q_a,BB oG];exact ED _;rw[q_a,BB oG];exact ED _;obtain⟨i,hi,rfl⟩:=CM.1 hx;have:=(h i oG).1;rwa [q_a,BB hi] at this;obtain⟨i,hi,rfl⟩:=Gt hx;exact(h i oG).2
 refine Qd ([false,true,false,true]++rF 31++ [true,true]) 1 0
  (fun m s=> ∃i,m=f.m.length-i/\i<=f.m.length/\(∀j,j<i->QN (f.a.getD j []) f.m.length=true/\qm (f.r.getD j default) default=true)/\
   s=⟨[.junk,.lp 0 0,.junk,.sc (.int .i64 f.m.length)]++(jk 31++([.sc (.int .i64 f.m.length),.sc (.int .i64 (i:Nat))]++jk 21)),[JI f],[],st⟩) f.m.length ?_ ?_
 refine G2s ?_;exact⟨0,oG,oG,fun j hj=>absurd hj (CD j),rfl⟩;rintro m s ⟨i,rfl,hi,hr,rfl⟩;refine U2n (fun h6=> ?_) (fun h6=> ?_);have hlt:i<f.m.length:=(oT h6);have g1:=Xh f.a i oG;have g2:=Zl f.r i oG;have x1:IntKind.i64.wrap ((i:Int)+1)=((i+1:Nat):Int):=(by rw[show((i:Int)+1)=((i+1:Nat):Int) from rfl,Qn _ oG]);simp-dsimp only[go_sem,g1];refine⟨oG,?_⟩;refine(qB (f.a.getD i []) f.m.length st (wa i oG) oG).q ?_;cases h7:QN (f.a.getD i []) f.m.length with
 | false=>
  refine G2s ?_;rw[no fun e=>by have:=(key.1 e i hlt).1;rw[h7] at this;cases this]
 | true=>
  simp-dsimp only[go_sem,g2];refine⟨oG,?_⟩;refine(x0j (f.r.getD i default) default st (wr.2 i oG) (by show([]:List UInt64).length<=_;simp)).q ?_;cases h8:qm (f.r.getD i default) default with
  | false=>
   refine G2s ?_;rw[no fun e=>by have:=(key.1 e i hlt).2;rw[h8] at this;cases this]
  | true=>
   simp-dsimp only[go_sem,x1];refine⟨f.m.length-(i+1),oG,i+1,rfl,oG,fun j hj=> ?_,rfl⟩;by_cases e:j=i;subst e;exact⟨h7,h8⟩;exact hr j oG
 have hge:i=f.m.length:=oF h6
 refine G2s ?_;refine U2i ?_;rw[key.2 fun j hj=>hr j oG]
def rightQ (a:List (List Nm)):Bool:=(a.all fun r=>QN r a.length)&&decide (1<=a.length)&&decide (a.length<=4)
theorem rightQ_iff {a:List (List Nm)} :rightQ a=true<->(∀j,j<a.length->QN (a.getD j []) a.length=true)/\1<=a.length/\a.length<=4:=by unfold rightQ;simp only[q_i,BN,q_d];constructor;rintro⟨⟨h,h1⟩,h2⟩;exact⟨fun j hj=>h _ (by rw[q_a,BB hj];exact ED _),h1,h2⟩;rintro⟨h,h1,h2⟩;refine⟨⟨fun x hx=> ?_,h1⟩,h2⟩;obtain⟨i,hi,rfl⟩:=CM.1 hx;have:=h i hi;rwa [q_a,BB hi] at this
set_option maxHeartbeats 4000000 in
theorem jd (a:List (List Nm))(st:Qf)(hw:wQs a):PR 57 [.sl .no (Z8 a)] st (.sc (.bool (rightQ a))):=by
 obtain⟨hl,hw⟩:=hw;refine U2m Tryz.func57 fun E=> ?_;refine Qd [true,false,false,true] 0 0 (fun n s=> ∃i,n=a.length-i/\i<=a.length/\(∀j,j<i->QN (a.getD j []) a.length=true)/\s=⟨[.sl .no (Z8 a),.junk,.junk,.sc (.int .i64 (i:Nat))]++jk 45,[],[],st⟩) a.length ?_ ?_;refine G2s ?_;exact⟨0,oG,oG,fun j hj=>oG,rfl⟩;rintro n s ⟨i,rfl,hi,hr,rfl⟩;have fin:i=a.length\/ ¬(i:Int)<4->decide ((a.length:Int)>0)=true->decide ((a.length:Int)<=4)=rightQ a:=fun h h1=>by have h1:=q_b h1;rw[E6,rightQ_iff,D0];exact⟨fun h4=>⟨fun j hj=>hr j oG,oG,oG⟩,fun hh=>oG⟩
 have fin0:decide ((a.length:Int)>0)=false->rightQ a=false:=fun h=>CS.2 fun e=>by have:=q_c h;have:=(rightQ_iff.1 e).2.1;omega
 refine G2s ?_;refine gkT (fun h=> ?_) (fun h=> ?_);have hlt:i<a.length:=(oT h);simp-dsimp only[go_sem,h];refine ck (fun h4=> ?_) (fun h4=> ?_);have e1:=Xh a i hlt;have e3:=Zw i oG;have wi:=hw i hlt;have wil:=wi.1;simp-dsimp only[go_sem,e1];refine⟨oG,?_⟩;refine ck (fun h2=> ?_) (fun h2=> ?_);have hn:=YG h2;refine G2s ?_;have:rightQ a=false:=CS.2 fun e=>hn (by have:=(rightQ_iff.1 e).1 i hlt;unfold QN at this;simp at this;exact this.2);rw[this];have hn:=Vq h2;refine G2s ?_;refine Qd [true,false,false,true,true] 0 0 (fun n s=> ∃k,n=(a.getD i []).length-k/\k<=(a.getD i []).length/\(∀j,j<k->Qg ((a.getD i []).getD j default)=true)/\s=⟨[.sl .no (Z8 a),.junk,.junk,.sc (.int .i64 (i:Nat)),.sc (.int .i64 (k:Nat))]++jk 44,[],[],st⟩) (a.getD i []).length ?_ ?_;refine G2s ?_;exact⟨0,oG,oG,fun j hj=>oG,rfl⟩;rintro n s ⟨k,rfl,hk,hrk,rfl⟩;simp-dsimp only[go_sem,e1];refine⟨oG,?_⟩;refine ck (fun h5=> ?_) (fun h5=> ?_);have hklt:k<(a.getD i []).length:=(oT h5);have e2:=QG (a.getD i []) k hklt;have e4:=Zw k oG;have wk:=wi.2 k hklt;unfold wN at wk;simp-dsimp only[go_sem,e1,e2];refine⟨oG,oG,?_⟩;refine(XG _ st oG).Q ?_;refine ck (fun h6=> ?_) (fun h6=> ?_);have hf:Qg ((a.getD i []).getD k default)=false:=(by simpa using h6);refine G2s ?_;have:rightQ a=false:=CS.2 fun e=>by have:=(rightQ_iff.1 e).1 i hlt;unfold QN at this;rw[q_i] at this;rw[(J2 _ Qg).1 this.1 k hklt] at hf;cases hf
 rw[this];have ht:Qg ((a.getD i []).getD k default)=true:=(by simpa using h6);simp-dsimp only[go_sem,e4];refine⟨(a.getD i []).length-(k+1),oG,k+1,rfl,oG,fun j hj=> ?_,rfl⟩;by_cases e:j=k;subst e;exact ht;exact hrk j oG;have hge:k=(a.getD i []).length:=(oF h5);refine G2s ?_;refine Qa ?_;simp-dsimp only[go_sem,e3];refine⟨a.length-(i+1),oG,i+1,rfl,oG,fun j hj=> ?_,rfl⟩;by_cases e:j=i;subst e;unfold QN;rw[(J2 _ Qg).2 fun j hj=>hrk j oG,q_h hn];rfl;exact hr j oG;have h4':=q_c h4;refine G2s ?_;refine U2i ?_;refine gkT (fun h=> ?_) (fun h=> ?_);simp-dsimp only[go_sem,h];rw[fin (.inr h4') h];simp-dsimp only[go_sem,h];rw[fin0 h];have hge:i=a.length:=(oF h);simp-dsimp only[go_sem,h];refine U2i ?_;refine gkT (fun h=> ?_) (fun h=> ?_);simp-dsimp only[go_sem,h];rw[fin (.inl hge) h];simp-dsimp only[go_sem,h];rw[fin0 h]
theorem kQ (f:Fm)(st:Qf)(hw:wFm f):PR 14 [.agg (JI f)] st (.sc (.bool (Zb f))):=by
 obtain⟨wm,wa,wr⟩:=hw;have wml:=wm.1;have wal:=wa.1;have wrl:=wr.1;have no: ¬Zb f=true->Zb f=false:=fun h=>(by simpa using h);refine Qb none Tryz.func14 rfl fun E=>Qa ?_;by_cases h1:1<=f.m.length;rotate_left;have d1:decide ((f.m.length:Int)<1)=true:=q_h oG;simp-dsimp only[go_sem,d1];rw[no fun e=>h1 (Q8 e).1];have d1:decide ((f.m.length:Int)<1)=false:=q_g oG;by_cases h2:f.m.length<=4;rotate_left;have d2:decide ((f.m.length:Int)>4)=true:=q_h oG;simp-dsimp only[go_sem,d1,d2];rw[no fun e=>h2 (Q8 e).2.1];have d2:decide ((f.m.length:Int)>4)=false:=q_g oG;by_cases h4:f.a.length=f.m.length;rotate_left;have d4:((f.a.length:Int) !=(f.m.length:Int))=true:=BV.2 oG;simp-dsimp only[go_sem,d1,d2,d4];rw[no fun e=>h4 (Q8 e).2.2.2.1];have d4:((f.a.length:Int) !=(f.m.length:Int))=false:=(by rw[h4];simp);by_cases h5:f.r.length=f.m.length;rotate_left;have d5:((f.r.length:Int) !=(f.m.length:Int))=true:=BV.2 oG;simp-dsimp only[go_sem,d1,d2,d4,d5];rw[no fun e=>h5 (Q8 e).2.2.2.2.1];have d5:((f.r.length:Int) !=(f.m.length:Int))=false:=(by rw[h5];simp);simp-dsimp only[go_sem,d1,d2,d4,d5];have key:Zb f=true<->rightQ f.a=true/\rightB f.r=true/\ ∀j,j<f.m.length->Qg (f.m.getD j default)=true/\qm (f.r.getD j default) default=true:=by constructor;intro h;obtain⟨p1,p2,p3,p4,p5,p6,p7⟩:=Q8 h;refine⟨?_,p7,fun j hj=>⟨(J2 _ Qg).1 p3 j hj,?_⟩⟩;unfold rightQ;rw[h4,p6];simp;omega;unfold Zb at h;simp only[q_i,q_d] at h;refine h.2 _ ?_;rw[q_a,BB oG];exact ED _;rintro⟨q1,q2,q3⟩;refine zN h1 h2 (fun i hi=>(q3 i hi).1) h4 h5 (fun i hi=> ?_) fun i hi=>(q3 i oG).2;have:=(rightQ_iff.1 q1).1 i hi;unfold QN at this;simp only[q_i,BN] at this;exact⟨oG,fun j hj=>(J2 _ Qg).1 this.1 j oG⟩
 refine(jd f.a st wa).q ?_;cases h3:rightQ f.a with
 | false=>
  simp-dsimp only[go_sem,d1,d2,d4,d5];rw[no fun e=>by have:=(key.1 e).1;rw[h3] at this;cases this]
 | true=>
 simp-dsimp only[go_sem,d1,d2,d4,d5];refine(W0h f.r st wr).q ?_;cases h9:rightB f.r with
 | false=>
  simp-dsimp only[go_sem,d1,d2,d4,d5];rw[no fun e=>by have:=(key.1 e).2.1;rw[h9] at this;cases this]
 | true=>
 simp-dsimp only[go_sem,d1,d2,d4,d5];refine Qd [false,true,false,true,true] 1 0
  (fun m s=> ∃i,m=f.m.length-i/\i<=f.m.length/\(∀j,j<i->Qg (f.m.getD j default)=true/\qm (f.r.getD j default) default=true)/\
   s=⟨[.junk,.lp 0 0,.junk,.sc (.int .i64 f.m.length),.sc (.int .i64 (i:Nat))]++jk 57,[JI f],[],st⟩) f.m.length ?_ ?_
 refine G2s ?_;exact⟨0,oG,oG,fun j hj=>absurd hj (CD j),rfl⟩;rintro m s ⟨i,rfl,hi,hr,rfl⟩;refine U2n (fun h6=> ?_) (fun h6=> ?_);have hlt:i<f.m.length:=(oT h6);have g1:=QG f.m i oG;have g2:=Zl f.r i oG;have x1:=Zw i oG;have wi:=wm.2 i hlt;unfold wN at wi;simp-dsimp only[go_sem,g1];refine⟨oG,?_⟩;refine(XG (f.m.getD i default) st oG).q ?_;cases h7:Qg (f.m.getD i default) with
 | false=>
  refine G2s ?_;rw[no fun e=>by have:=((key.1 e).2.2 i hlt).1;rw[h7] at this;cases this]
 | true=>
  simp-dsimp only[go_sem,g2];refine⟨oG,?_⟩;refine(Q1h (f.r.getD i default) default st (wr.2 i oG) (by show([]:List UInt64).length<=_;simp)).q ?_;cases h8:qm (f.r.getD i default) default with
  | false=>
   refine G2s ?_;rw[no fun e=>by have:=((key.1 e).2.2 i hlt).2;rw[h8] at this;cases this]
  | true=>
   simp-dsimp only[go_sem,x1];refine⟨f.m.length-(i+1),oG,i+1,rfl,oG,fun j hj=> ?_,rfl⟩;by_cases e:j=i;subst e;exact⟨h7,h8⟩;exact hr j oG
 have hge:i=f.m.length:=oF h6
 refine G2s ?_;refine U2i ?_;rw[key.2 ⟨h3,h9,fun j hj=>hr j oG⟩]
theorem YL {q:List Nm}(h:wNs q):wB (ofB q):=by obtain⟨h1,h2⟩:=h;refine⟨by simpa[ofB] using h1,fun i hi=> ?_⟩;have hi':i<q.length:=(by simpa[ofB] using hi);have e:(ofB q).getD i default=⟨q.getD i default,q.getD i default⟩:=(by simp[ofB,q_a,hi']);rw[e];exact⟨h2 i hi',h2 i hi'⟩
theorem J0s {b:List Ivl}{p:Int}(h:(Xc b p).2=0):1<=b.length/\b.length<=4:=by unfold Xc at h;split at h;rename_i hc;have:=Jk hc.1;exact⟨this.1,this.2⟩;exact absurd h (by decide)
end Go.Pv
end
