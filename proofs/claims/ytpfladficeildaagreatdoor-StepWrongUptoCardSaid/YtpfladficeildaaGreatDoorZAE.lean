/- Walk. -/
import Derived.Test.YtpfladficeildaaGreatDoorZAB
import Derived.Test.YtpfladficeildaaGreatDoorZM
set_option linter.all false
set_option maxHeartbeats 160000000
section
set_option maxRecDepth 100000
namespace Go.Pv
open Go.Proofs
def wNs (l:List Nm):Prop:=l.length<=100000000000/\ ∀i,i<l.length->wN (l.getD i default)
theorem kS (q:Lx)(i:Nat)(h:i<q.length):ofB (q.take (i+1))=ofB (q.take i)++ [⟨q.getD i default,q.getD i default⟩]:=by unfold ofB;rw[HU q i default h,E2];rfl
theorem Gi (q:Lx)(st:Qc)(hq:wNs q):PR 72 [.sl .no (Q5 q)] st (.sl (.fresh 6) (Qj (ofB q))):=by
 obtain⟨hl,hw⟩:=hq;refine Ql Tryz.func72 fun E=> ?_;refine ZE 3 6 ?_;refine Qq ?_;refine Q1 [false,false,false,true,false,false,true,true,true] 0 1
  (fun n s=> ∃i,n=q.length-i/\i<=q.length/\s=⟨[.junk,.junk,.junk,.sl (.own 0) (Qj (ofB (q.take i))),.junk,.junk,.sl .no (Q5 q),.sc (.int .i64 q.length),.sc (.int .i64 (i:Nat))]++jk 10,[],[((ofB (q.take i)).length,6)],st⟩) q.length ?_ ?_
 refine Qq ?_;exact⟨0,oG,oG,rfl⟩;rintro n s ⟨i,rfl,hi,rfl⟩;refine QS ?_ ?_<;>intro h';have hlt:i<q.length:=(by have:=q_b h';omega);have e1:=JV q i hlt;have e3:=J2v i oG;simp-dsimp only[go_sem,e1];refine⟨oG,?_⟩;refine(Ki _ _ (hw i hlt)).q ?_;simp-dsimp only[go_sem,e3];have ll:(ofB (q.take i)).length=i:=(by simp[ofB];omega);refine⟨⟨oG,oG⟩,q.length-(i+1),oG,i+1,rfl,oG,?_⟩;rw[kS q i hlt];simp[Qj,Qm];have hge:i=q.length:=(by have:=q_c h';omega);refine Qq ?_;refine Qp ?_;rw[hge,B0]
theorem y1m (a:Ivl)(p:Int)(st:Qc)(ha:wI a):PR 309 [.agg (Qm a),.sc (.int .i64 p)] st (.tup [.agg (Qm (VG a p).1),.sc (.int .i64 (VG a p).2)]):=by
 refine Qh none Tryz.func309 rfl fun E=>Qb ?_;unfold VG;refine Qq ?_;refine(G1e a p _ ha).Q ?_;refine ck ?_ ?_<;>intro h;have h1:=Xm h;refine Qq ?_;rw[BC h1];rfl
 . have h1:=XA h;have hr:=G0x a p;have hap:Qr a=true/\Qv p=true:=by unfold Jv at h1;split at h1;assumption;cases h1
   rw[BA (fun e=>e h1)];generalize (Jv a p).1=w at*
   refine Qq ?_;refine(UA w (-2) _ (Xc (QZ hr))).Q ?_;refine ck ?_ ?_<;>intro h;have h2:=Xm h;refine Qq ?_;rw[BC h2];rfl
   . have h2:=XA h;have hs:=WU w (-2);rw[BA (fun e=>e h2)];generalize (QQ w (-2)).1=v at*
     have ra:=ZJ hap.1;have k1:=z8 (k:=1) (up:=false) ra.1 hs hap.2;have k2:=z8 (k:=0) (up:=true) ra.2.1 hs hap.2;refine Qq ?_;refine(zt a.lo v p false _ ha.1 (Xc (QZ hs))).Q ?_;refine ck ?_ ?_<;>intro h;have h3:=Xm h;rw[BC (.inl h3)];have e3:(Qw 1 a.lo v p false).2=2:=by rcases k1 with k | k;exact absurd k h3;exact k
     refine Qq ?_;rw[e3];rfl
     . have h3:=XA h;refine Qq ?_;refine(jP a.hi v p true _ ha.2 (Xc (QZ hs))).Q ?_;refine ck ?_ ?_<;>intro h;have h4:=Xm h;rw[BC (.inr h4)];have e3:(Qw 0 a.hi v p true).2=2:=by rcases k2 with k | k;exact absurd k h4;exact k
       refine Qq ?_;rw[e3];rfl
       . have h4:=XA h;rw[BA (fun e=>e.elim (fun e=>e h3) (fun e=>e h4))];simp-dsimp only[go_sem]
         try rfl
theorem y1i (i:Int)(a:Ivl)(p:Int)(st:Qc)(ha:wI a):PR 308 ([.sc (.int .i64 i),.agg (Qm a)]++ [.ep [.sc (.int .i64 p)] 0]) st (.tup [.agg (Qm (VG a p).1),.sc (.int .i64 (VG a p).2)]):=by refine Ql Tryz.func308 fun E=> ?_;refine(y1m a p _ ha).Q0
theorem y1p (b:Li)(p:Int)(h:rightB b=true):YL b p=Z1 (fun _ a=>VG a p) 0 b []:=by
 unfold YL;cases hp:Qv p with
 | true=>rw[BC ⟨h,rfl⟩]
 | false=>rw[BA (fun hh=>by simp at hh),xE _ b (Wx h).1 1 (by decide) (fun i x=>by simp only[y1o hp])]
theorem y1h (b:Li)(p:Int)(st:Qc)(hb:wB b):PR 263 [.sl .no (Qj b),.sc (.int .i64 p)] st (.tup [.sl .no (Qj (YL b p).1),.sc (.int .i64 (YL b p).2)]):=by
 refine Qh none Tryz.func263 rfl fun E=>Qe (Qb ?_);refine Qq ?_;refine Z5 0 ?_ ?_;exact QA;refine Qp ?_;refine(Ko b st hb).q ?_;cases r1:rightB b with
 | false=>
  refine Qq ?_;rw[YL,BA (by simp[r1])];rfl
 | true=>
  rw[y1p b p r1];refine Qq ?_;refine(wR _ [.ep [.sc (.int .i64 p)] 0] (fun _ a=>VG a p) b st rfl hb.1 rfl rfl rfl rfl rfl fun i hi=>y1i _ _ p st (hb.2 i hi)).Q0
theorem Kq {x:Ivl}(h:Qr x=true):wI x:=⟨Xc (QZ (ZJ h).1),Xc (QZ (ZJ h).2.1)⟩
theorem G0p (n:Nat)(h:n<18446744073709551616):IntKind.u64.wrap (n:Int)=(n:Int):=by rw[K8,BJ h]
theorem y1r (x n:Nat)(hx:0<x):Qn x=Qn (x/2)+1:=by by_cases h:x/2=0;have:x=1:=oG;subst this;rfl;exact y7 x 1 (by simpa using h)
theorem y1u (m:Nat)(h:(Qs m).length≠0):Qn m=32*((Qs m).length-1)+Qn ((Qs m).getD ((Qs m).length-1) 0).toNat:=by
 have h0:m≠0:=fun e=>h (by rw[e,VA];rfl);have hv:=Ka m;have hsp:=qO (Qs m) ((Qs m).length-1) oG;have hd:Qz ((Qs m).drop ((Qs m).length-1))=((Qs m).getD ((Qs m).length-1) 0).toNat:=by rw[qQ _ _ oG,jo _ _ oG];rfl
 rw[hd,hv] at hsp;have hl:=Gz ((Qs m).take ((Qs m).length-1));rw[BX,DA oG] at hl;have hne:((Qs m).getD ((Qs m).length-1) 0).toNat≠0:=by have hc:Kn (Qs m)=Qs m:=yg m;have:=(W0o (Qs m) (fun e=>h (by rw[e];rfl))).1 (by rw[hc]);exact fun e=>this ((G1 _).2 e)
 rw[Y1] at hsp hl
 conv=>lhs;rw[hsp]
 exact U0a _ _ _ hl hne
theorem y0o (m:Nat)(st:Qc)(hm:(Qs m).length<=1000000000000):PR 294 [.sl .no (QD (Qs m))] st (.sc (.int .i64 (Qn m:Nat))):=by
 refine Ql Tryz.func294 fun E=> ?_;refine ck ?_ ?_<;>intro h;have h0:(Qs m).length=0:=JS (b:=0) h;have hm0:m=0:=digitsOf_nil.1 (BZ.1 h0);refine Qq ?_;rw[hm0];rfl;have h0:(Qs m).length≠0:=V2 (b:=0) h;have hb:=y1u m h0;have g1:=KR (Qs m) ((Qs m).length-1) oG;generalize Qs m=l at*
 have x1:IntKind.i64.wrap ((l.length:Int)-1)=((l.length-1:Nat):Int):=(by rw[show(l.length:Int)-1=((l.length-1:Nat):Int) from oG,QP _ oG]);have x2:IntKind.i64.wrap (32*((l.length-1:Nat):Int))=((32*(l.length-1):Nat):Int):=(by rw[show 32*((l.length-1:Nat):Int)=((32*(l.length-1):Nat):Int) from oG,QP _ oG]);have w:=CH (l.getD (l.length-1) 0);simp-dsimp only[go_sem,x1,x2,g1];refine⟨⟨oG,oG⟩,?_⟩;generalize (l.getD (l.length-1) 0).toNat=x0 at*
 refine Q1 [false,false,false,true,true] 0 0
  (fun n s'=> ∃(k:Nat),n<4294967296/\k+Qn n=Qn m/\s'=⟨[.junk,.junk,.junk,.sc (.int .i64 (k:Nat)),.sc (.int .u32 (n:Nat))]++jk 20,[],[],st⟩) x0 ?_ ?_
 refine Qq ?_;exact⟨32*(l.length-1),oG,hb.symm,rfl⟩;have hbm:Qn m<=32*1000000000000:=by have:=y1v x0 oG;omega
 rintro n s' ⟨k,hx,hk,rfl⟩;refine QS ?_ ?_<;>intro h;have hp:0<n:=(oT h);have hs:=y1r n 0 hp;have x3:=J2v k oG;have x4:Z7 .u32 (n:Int) 1=((n/2:Nat):Int):=U0g n 1 oG;simp-dsimp only[go_sem,x3,x4];exact⟨n/2,oG,k+1,oG,oG,rfl⟩;have hz:n=0:=(oF h);refine Qq ?_;refine Qp ?_;rw[hz,VH] at hk;rw[<-hk];rfl
theorem jM (v:Vl)(p:Nat)(up:Bool)(st:Qc)(hv:smV v)(hp:p<=1000000000):PR 231 [.agg (Xl v),.sc (.int .i64 p),.sc (.bool up)] st (.agg (Xl (QR v p up))):=by
 obtain⟨v1,v2,v3⟩:=hv;have lv:=Wh v.m;have x1:IntKind.i64.wrap ((Qn v.m:Int)-(p:Int))=(Qn v.m:Int)-(p:Int):=Q2 _ oG oG;refine Ql Tryz.func231 fun E=> ?_;refine(y0o v.m _ oG).q ?_;simp-dsimp only[go_sem,x1];refine ck ?_ ?_<;>intro h;have hle:Qn v.m<=p:=(oT h);refine Qq ?_;rw[QR,BC hle];have hgt:p<Qn v.m:=(oF h);have x2:(Qn v.m:Int)-(p:Int)=((Qn v.m-p:Nat):Int):=oG;rw[QR,BA oG];obtain⟨d,hd⟩: ∃d,d=Qn v.m-p:=⟨_,rfl⟩;rw[x2,<-hd];have x3:IntKind.i64.wrap (v.e+((d:Nat):Int))=v.e+((d:Nat):Int):=Q2 _ oG oG;have lq:=Wo (DB v.m (2^d));have lq2:=Wh (v.m/2^d);have lq3:=qn (v.m/2^d) 1;have b1:Qn 1=1:=rfl;refine Qq ?_;refine(Ou v.m d _ oG oG).q ?_;cases hc:decide (v.m % 2^d≠0) with
 | false=>
  have hz: ¬v.m % 2^d≠0:=q_c hc;rw[BA (fun h=>hz h.1),B1];simp-dsimp only[go_sem,x3];refine(U8 v.neg (v.m/2^d) _ _ oG oG oG).Q0
 | true=>
  have hz:v.m % 2^d≠0:=q_b hc;cases hu:(!up==v.neg) with
  | false=>
   have he:up=v.neg:=by cases up<;>cases hn:v.neg<;>simp_all
   rw[BA (fun h=>h.2 he),B1];simp-dsimp only[go_sem,x3,hu];refine(U8 v.neg (v.m/2^d) _ _ oG oG oG).Q0
  | true=>
   have hne:up≠v.neg:=by cases up<;>cases hn:v.neg<;>simp_all
   rw[BC ⟨hz,hne⟩];have e1: [PV.sc (.int .u32 1)]=QD (Qs 1):=by rw[show Qs 1= [1] from by decide+kernel];rfl
   simp-dsimp only[go_sem,x3,hu];rw[e1];refine(Ow (v.m/2^d) 1 _ oG (by decide+kernel)).q ?_;simp-dsimp only[go_sem,x3];refine(U8 v.neg (v.m/2^d+1) _ _ oG oG oG).Q0
theorem K1g {k k':Nat}{l:Lx}(h:okL okN k l)(hk:k<=k'):okL okN k' l:=⟨B7 h.1 hk,fun i hi=>U7 (h.2 i hi) hk⟩
theorem Cv :Ty Tryz.prog 25 1 (fun l:List Nm=> [.sl .no (Q5 l)]) (okL okN):=
 Yt (qX Tryz.underlying25 (by kernel_rfl) HN (by decide) (fun c=> .agg (Qf c)) (fun _=>rfl)) id (fun _=>rfl) (fun _=>rfl) (fun _ _ h=>h) (fun h hk=>K1g h hk)
theorem q1c {β:Type}[Inhabited β](f:Nat->β)(n i:Nat)(h:i<n):((List.range n).map f).getD i default=f i:=by simp[q_a,h]
theorem Z1p {p:Nat}(h1:8<=p)(h2:p<=256):Qv (p:Int)=true:=by unfold Qv;simp only[q_i,BN];omega
theorem VP {v:Vl}{n k:Nat}(h:bdV n k v)(h1:n<=1000000000000)(h2:k<=100000000000):smV v:=⟨by have:=h.1;omega,by have:=h.2.1;omega,by have:=h.2.2;omega⟩
theorem VO {x:Nm}(h:Qg x=true):x.w.length<=1000000000000:=by have:=(Xt h).1;omega
theorem Sl (p:Int)(st:Qc):PR 229 [.sc (.int .i64 p)] st (.sc (.bool (Qv p))):=by
 refine Qh none Tryz.func229 rfl fun E=>Qb ?_;unfold Qv;by_cases h:8<=p
 . have f1:decide (p>=8)=true:=q_h h;have f2:decide (8<=p)=true:=q_h h;simp-dsimp only[go_sem,f1,f2]
   try simp
 . have f1:decide (p>=8)=false:=q_g h;have f2:decide (8<=p)=false:=q_g h;simp-dsimp only[go_sem,f1,f2]
   try simp
theorem y0k (a:Ivl)(p:Int)(st:Qc)(ha:wI a):PR 186 [.agg (Qm a),.sc (.int .i64 p)] st (.tup [.agg (Qf (Zk a p).1),.sc (.int .i64 (Zk a p).2)]):=by
 refine Qh none Tryz.func186 rfl fun E=>Qe (Qb ?_);refine Qq ?_;refine Qa ?_;refine(Ik a _ ha).q ?_;cases r1:Qr a with
 | false=>
  refine Qq ?_;rw[Zk,BA (by simp[r1])];rfl
 | true=>
  refine Qq ?_;refine(Sl p _).q ?_;cases r3:Qv p with
  | false=>
   refine Qq ?_;rw[Zk,BA (by simp[r3])];rfl
  | true=>
   obtain⟨q,rfl,q1,q2,q3⟩:=W6 r3;obtain⟨a1,a2,_⟩:=ZJ r1;have hm:Zk a q=if XX (Jm a q) (ofN a.lo)<0 then(a.lo,0) else QI (Jm a q):=(by rw[Zk,BC ⟨r1,r3⟩,q3]);rw[hm];refine Qq ?_;have b1:=Yn a1;have b2:=Yn a2;have b3:=Q2a (yE b1 b2);have b4:=yD b3 q false;refine Ky [false,true,true,false,true,true,true] 3 0 (fun s=>s=⟨[.junk,.sc (.int .i64 (q:Nat)),.lp 0 0,.junk,.lp 1 0,.sc (.int .i64 0),.lp 2 0]++jk 39,[Qm a,[.sc (.bool false),.sc (.int .i64 0),.sl .full []],Xl (Zz (ofN a.lo) (ofN a.hi))],[],st⟩) ?_ ?_
   . refine Q8 46 (Qk [0,1,3,4] (.alt (.step 2 [4] (.alt (.step 5 [] (.alt (.step 6 [] (.step 7 [1,4] (.step 8 [] (.done)))) (.step 7 [1,4] (.step 6 [] (.step 8 [] (.done)))))) (.step 7 [1,4] (Qk [5,6,8] .done)))) (.step 7 [1,4] (.step 2 [4] (Qk [5,6,8] .done))))) ?_;refine Qq ?_
     repeat' first
      | rfl
      | refine And.intro ?_ ?_
      | (refine(V0 a.lo _ (VO a1)).mono ?_;rintro r st ⟨rfl,rfl⟩;simp-dsimp only[go_sem])
      | (refine(V0 a.hi _ (VO a2)).mono ?_;rintro r st ⟨rfl,rfl⟩;simp-dsimp only[go_sem])
      | (refine(zI _ _ _ (VP b1 oG oG) (VP b2 oG oG)).mono ?_;rintro r st ⟨rfl,rfl⟩;simp-dsimp only[go_sem])
   rintro s rfl;have e0:=yE b1 b2;have hv:Jm a q=QR (K2 (Zz (ofN a.lo) (ofN a.hi))) q false:=rfl;rw[hv];generalize Zz (ofN a.lo) (ofN a.hi)=v at*
   refine Qb ?_;have x1:IntKind.i64.wrap (v.e-1)=v.e-1:=Q2 _ (by have:=e0.2.1;omega) (by have:=e0.2.2;omega);refine QS ?_ ?_<;>intro h
   case' refine_1=>
    have h0:v.m≠0:=fun e=>by rw[e,VA] at h;cases h
    have hh:K2 v= { v with e:=v.e-1 } :=(by rw[K2,BA h0]);rw[hh] at b3 b4⊢;generalize hz:({ v with e:=v.e-1 } :Vl)=z at*
    have z1:v.neg=z.neg:=(by rw[<-hz]);have z2:v.m=z.m:=(by rw[<-hz]);have z3:v.e-1=z.e:=(by rw[<-hz]);simp-dsimp only[go_sem,x1];rw[z1,z2,z3]
   case' refine_2=>
    have h0:v.m=0:=by have:=q_c h;exact digitsOf_nil.1 (BZ.1 oG)
    have hh:K2 v=v:=(by rw[K2,BC h0]);rw[hh] at b3 b4⊢;generalize v=z at*
    simp-dsimp only[go_sem]
   all_goals
    refine(jM z q false _ (VP b3 oG oG) oG).q ?_;generalize QR z q false=y at*
    refine Qq ?_;refine Q8 46 (Qk [0,1,2] (.step 3 [0] (.step 4 [] (.step 5 [] (.done))))) ?_;refine Qq ?_;refine(V0 a.lo _ (VO a1)).q ?_;refine Qq ?_;refine(Tp _ _ _ (VP b4 oG oG) (VP b1 oG oG)).q ?_;refine QS ?_ ?_<;>intro h
    . have hc:XX y (ofN a.lo)<0:=q_b h;rw[BC hc];simp-dsimp only[go_sem]
      try rfl
    have hc: ¬XX y (ofN a.lo)<0:=q_c h;rw[BA hc];refine Qq ?_;refine(Ud y _ (qp b4 oG)).Q0
theorem x1u (lo hi:Vl)(st:Qc)(h1:(Qs lo.m).length<=1000000000000)(h2:(Qs hi.m).length<=1000000000000):PR 230 [.agg (Xl lo),.agg (Xl hi)] st (.tup [.agg (Qm (XK lo hi).1),.sc (.int .i64 (XK lo hi).2)]):=by
 refine Qh none Tryz.func230 rfl fun E=>Qb ?_;unfold XK;refine Qq ?_;refine(Ud lo _ h1).Q ?_;refine(Ud hi _ h2).q ?_;by_cases c1:(QI lo).2=0
 . have f1:((QI lo).2 !=0)=false:=by rw[c1];rfl
   by_cases c2:(QI hi).2=0
   . have f2:((QI hi).2 !=0)=false:=by rw[c2];rfl
     rw[BC ⟨c1,c2⟩];simp-dsimp only[go_sem,f1,f2]
     try rfl
   . have f2:((QI hi).2 !=0)=true:=BV.2 c2;rw[BA (fun h=>c2 h.2)];simp-dsimp only[go_sem,f1,f2]
     try rfl
 . have f1:((QI lo).2 !=0)=true:=BV.2 c1;rw[BA (fun h=>c1 h.1)];simp-dsimp only[go_sem,f1]
   try rfl
theorem y0j (a b:Ivl)(p:Int)(st:Qc)(ha:wI a)(hb:wI b):PR 149 [.sc (.int .i64 1),.agg (Qm a),.agg (Qm b),.sc (.int .i64 p)] st (.tup [.agg (Qm (opI 1 a b p).1),.sc (.int .i64 (opI 1 a b p).2)]):=by
 refine Ql Tryz.func149 fun E=> ?_;refine(Ik a _ ha).q ?_;cases r1:Qr a with
 | false=>
  refine Qq ?_;rw[opI,BA (by simp[r1])];rfl
 | true=>
  refine Qq ?_;refine(Ik b _ hb).q ?_;cases r2:Qr b with
  | false=>
   refine Qq ?_;rw[opI,BA (by simp[r2])];rfl
  | true=>
   refine Qq ?_;refine(Sl p _).q ?_;cases r3:Qv p with
   | false=>
    refine Qq ?_;rw[opI,BA (by simp[r3])];rfl
   | true=>
    obtain⟨q,rfl,q1,q2,q3⟩:=W6 r3;obtain⟨a1,a2,_⟩:=ZJ r1;obtain⟨b1,b2,_⟩:=ZJ r2;have hm:opI 1 a b q=XK (QR (loV 1 (ofN a.lo) (ofN a.hi) (ofN b.lo) (ofN b.hi)) q false) (QR (hiV 1 (ofN a.lo) (ofN a.hi) (ofN b.lo) (ofN b.hi)) q true):=(by rw[opI,BC ⟨r1,r2,r3⟩,q3]);rw[hm];have d1:=Yn a1;have d2:=Yn a2;have d3:=Yn b1;have d4:=Yn b2;refine Qq ?_;refine Z1a Qy 110 [0,1,2,3,4,5,6,7,8,9,10,11] [12,13,14,15] [16,17,18,19] (.step 0 [] (.step 1 [] (.step 3 [] (.step 4 [] (.step 6 [] (.step 7 [] (.step 9 [] (.step 10 [] (.step 2 [4,7,10] (.step 5 [7,10] (.step 8 [10] (.step 11 [1] (.done))))))))))))) (.step 16 [4] (.step 17 [7] (.step 18 [] (.step 19 [] (.done))))) (by decide+kernel) (by simp) ?_;refine Qq ?_;refine(V0 a.lo _ (VO a1)).Q ?_;refine(V0 a.hi _ (VO a2)).Q ?_;refine(V0 b.lo _ (VO b1)).Q ?_;refine(V0 b.hi _ (VO b2)).q ?_;generalize ofN a.lo=x at*
    generalize ofN a.hi=y at*
    generalize ofN b.lo=u at*
    generalize ofN b.hi=v at*
    refine Qq ?_;rw[X0q,J0p];refine Q8 110 (Qk [0,1,3,5,6,8] (.step 2 [5,6] (.step 4 [5,6] (.step 7 [] (.step 9 [0,1] (Qk [10,11,12,13,14] .done)))))) ?_;refine Qq ?_;refine(vF _ _ _ (VP d1 oG oG) (VP d4 oG oG)).q ?_;have e1:=U0f d1 d4;refine Qq ?_;refine(jM _ q false _ (VP e1 oG oG) oG).q ?_;have e2:=yD e1 q false;refine Qq ?_;refine(vF _ _ _ (VP d2 oG oG) (VP d3 oG oG)).q ?_;have e3:=U0f d2 d3;refine Qq ?_;refine(jM _ q true _ (VP e3 oG oG) oG).q ?_;have e4:=yD e3 q true;refine Qq ?_;refine(x1u _ _ _ (qp e2 oG) (qp e4 oG)).Q0
theorem Om (x:Nm)(k:Int)(st:Qc)(hx:wN x):PR 29 [.agg (Qf x),.sc (.int .i64 k)] st (.tup [.agg (Qf (QQ x k).1),.sc (.int .i64 (QQ x k).2)]):=by
 unfold wN at hx;refine Ql Tryz.func29 fun E=> ?_;refine(Jy x _ oG).q ?_;cases r1:Qg x with
 | false=>
  refine Qq ?_;rw[QQ,BA (by rw[r1];simp)];rfl
 | true=>
  rw[QQ,BC r1];refine QS ?_ ?_<;>intro h;have h0:x.w= []:=BZ.1 (JS (b:=0) h);refine Qq ?_;rw[BC h0];have h0:x.w≠ []:=fun e=>(by rw[e] at h;cases h);have hb:=Xt r1;have b2:=hb.2.1;have b3:=hb.2.2;rw[BA h0];by_cases c1:131072<k;have f1:decide (k>131072)=true:=q_h c1;simp-dsimp only[go_sem,f1];rw[BC (.inr c1)];rfl;have f1:decide (k>131072)=false:=q_g c1;by_cases c2:k< -131072;have f2:decide (k< -131072)=true:=q_h c2;simp-dsimp only[go_sem,f1,f2];rw[BC (.inl c2)];rfl;have f2:decide (k< -131072)=false:=q_g c2;have x1:IntKind.i64.wrap (x.exp+k)=x.exp+k:=Q2 _ oG oG;rw[BA oG];simp-dsimp only[go_sem,f1,f2];refine Q8 35 (Qk [0,1,2,3,5,6,7,8] (.step 4 [1,6] (Qk [9,10,11,12,13,14] .done))) ?_;simp-dsimp only[go_sem,x1];refine(kC x.w _ oG).q ?_;simp-dsimp only[go_sem,x1];have hd:=qp (Yn r1) oG;refine(Ud ⟨x.neg,Qd x.w,x.exp+k⟩ _ hd).Q0
theorem y0m (a:Ivl)(x:Nm)(st:Qc)(ha:wI a)(hx:wN x):PR 102 [.agg (Qm a),.agg (Qf x)] st (.sc (.bool (Ja a x))):=by
 refine Qh none Tryz.func102 rfl fun E=>Qb ?_;unfold Ja;refine Qq ?_;refine(Ik a _ ha).q ?_;cases r1:Qr a with
 | false=>simp-dsimp only[go_sem];try rfl
 | true=>
  refine Qq ?_;refine(Jy x _ (by unfold wN at hx;omega)).q ?_;cases r2:Qg x with
  | false=>simp-dsimp only[go_sem];try rfl
  | true=>
   have a1:=(ZJ r1).1;have a2:=(ZJ r1).2.1;have e1:Q6 a.lo x=ZC a.lo x:=BC ⟨a1,r2⟩;have e2:Q6 x a.hi=ZC x a.hi:=BC ⟨r2,a2⟩;refine Qq ?_;refine(WF a.lo x _ (VO a1) (VO r2)).q ?_;rw[e1];cases c1:decide (ZC a.lo x<=0) with
   | false=>simp-dsimp only[go_sem,c1];try rfl
   | true=>
    simp-dsimp only[go_sem,c1];refine(WF x a.hi _ (VO r2) (VO a2)).q ?_;rw[e2];simp-dsimp only[go_sem,c1]
    try rfl
theorem Sk (p:Int)(st:Qc):PR 185 [.sc (.int .i64 p)] st (.sc (.bool (Qv p))):=by
 refine Qh none Tryz.func185 rfl fun E=>Qb ?_;unfold Qv;by_cases h:8<=p
 . have f1:decide (p>=8)=true:=q_h h;have f2:decide (8<=p)=true:=q_h h;simp-dsimp only[go_sem,f1,f2]
   try simp
 . have f1:decide (p>=8)=false:=q_g h;have f2:decide (8<=p)=false:=q_g h;simp-dsimp only[go_sem,f1,f2]
   try simp
theorem X1h (q:Lx)(st:Qc)(hq:wNs q):PR 83 [.sl .no (Q5 q)] st (.sl (.fresh 6) (Qj (ofB q))):=by
 obtain⟨hl,hw⟩:=hq;refine Ql Tryz.func83 fun E=> ?_;refine ZE 3 6 ?_;refine Qq ?_;refine Q1 [true,false,false,true,true] 0 1
  (fun n s=> ∃i,n=q.length-i/\i<=q.length/\s=⟨[.sl .no (Q5 q),.junk,.junk,.sl (.own 0) (Qj (ofB (q.take i))),.sc (.int .i64 (i:Nat))]++jk 15,[],[((ofB (q.take i)).length,6)],st⟩) q.length ?_ ?_
 refine Qq ?_;exact⟨0,oG,oG,rfl⟩;rintro n s ⟨i,rfl,hi,rfl⟩;refine QS ?_ ?_<;>intro h';have hlt:i<q.length:=(by have:=q_b h';omega);have e1:=JV q i hlt;have e3:=J2v i oG;have ll:(ofB (q.take i)).length=i:=(by simp[ofB];omega);simp-dsimp only[go_sem,e1];refine⟨⟨oG,hlt⟩,?_⟩;refine(X1i _ _).q ?_;simp-dsimp only[go_sem,e3];refine⟨⟨oG,oG⟩,q.length-(i+1),oG,i+1,rfl,oG,?_⟩;rw[kS q i hlt];simp[Qj,Qm];have hge:i=q.length:=(by have:=q_c h';omega);refine Qq ?_;refine Qp ?_;rw[hge,B0]
theorem J1u (a b:Li)(p:Int)(st:Qc)(ha:wB a)(hb:wB b):PR 113 [.sc (.int .i64 1),.sl .no (Qj a),.sl .no (Qj b),.sc (.int .i64 p)] st (.tup [.sl .no (Qj (opB 1 a b p).1),.sc (.int .i64 (opB 1 a b p).2)]):=by
 refine Ql Tryz.func113 fun E=> ?_;refine(Ig a _ ha).q ?_;cases r1:rightB a with
 | false=>
  refine Qq ?_;rw[opB,BA (by simp[r1])];rfl
 | true=>
  refine Qq ?_;refine(Ig b _ hb).q ?_;cases r2:rightB b with
  | false=>
   refine Qq ?_;rw[opB,BA (by simp[r2])];rfl
  | true=>
   by_cases hl:a.length=b.length
   . have f1:((a.length:Int) !=(b.length:Int))=false:=by rw[hl];simp
     simp-dsimp only[go_sem,f1];refine(Sk p _).q ?_;cases r3:Qv p with
     | false=>
      simp-dsimp only[go_sem,f1];rw[opB,BA (by simp[r3])];rfl
     | true=>
      have hla:=ha.1;have hab:opB 1 a b p=Z1 (fun i x=>opI 1 x (b.getD i default) p) 0 a []:=BC ⟨r1,r2,hl,r3⟩;rw[hab];simp-dsimp only[go_sem,f1];refine ZE 10 6 ?_;refine Qq ?_;refine Q1 [true,true,true,true,false,false,false,false,false,false,true,true] 0 1 (fun n s=> ∃i o,n=a.length-i/\i<=a.length/\o.length=i/\Z1 (fun i x=>opI 1 x (b.getD i default) p) 0 a []=Z1 (fun i x=>opI 1 x (b.getD i default) p) i (a.drop i) o/\s=⟨[.sc (.int .i64 1),.sl .no (Qj a),.sl .no (Qj b),.sc (.int .i64 p),.junk,.junk,.junk,.junk,.junk,.junk,.sl (.own 0) (Qj o),.sc (.int .i64 (i:Nat))]++jk 50,[],[(o.length,6)],st⟩) a.length ?_ ?_;refine Qq ?_;exact⟨0,[],oG,oG,rfl,rfl,rfl⟩
      . rintro n s ⟨i,o,rfl,hi,ho,hr,rfl⟩;refine QS ?_ ?_<;>intro h'
        . have hlt:i<a.length:=by have:=q_b h';omega
          have e1:=Zr a i hlt;have e2:=Zr b i oG;have e3:=J2v i oG;have e4:=xF (fun i x=>opI 1 x (b.getD i default) p) a i o hlt;refine Qq ?_;refine Q8 62 (Qk [0,1,2,3,4,5,6,7,8,9] (.alt (Qk [10,11,12,13] (.step 14 [4,8] (.step 15 [] (.step 16 [] (.done))))) (.step 14 [4,8] (Qk [10,11,12,13,15,16] .done)))) ?_;simp-dsimp only[go_sem,e1,e2];refine⟨⟨oG,oG⟩,⟨oG,oG⟩,?_,?_⟩
          all_goals
           refine(y0j _ _ p _ (ha.2 i hlt) (hb.2 i oG)).q ?_;simp-dsimp only[go_sem,e1,e2];refine ck ?_ ?_<;>intro h2;have hne:=Xm h2;refine Qq ?_;rw[hr,e4,BC hne];rfl;have he:=XA h2;simp-dsimp only[go_sem,e3];refine⟨oG,a.length-(i+1),oG,i+1,o++ [(opI 1 (a.getD i default) (b.getD i default) p).1],rfl,oG,by simp[ho],?_,?_⟩;rw[hr,e4,BA (fun hh=>hh he)];simp[Qj,Qm]
        have hge:i=a.length:=by have:=q_c h';omega
        refine Qq ?_;refine Qp ?_;rw[hr,hge,FF];rfl
   have f1:((a.length:Int) !=(b.length:Int))=true:=by rw[BV];omega
   simp-dsimp only[go_sem,f1];rw[opB,BA (fun h=>hl h.2.2.1)];rfl
theorem W1t (b:Li)(p:Int)(st:Qc)(hb:wB b):PR 112 [.sl .no (Qj b),.sc (.int .i64 p)] st (.tup [.sl .no (Q5 (QJ b p).1),.sc (.int .i64 (QJ b p).2)]):=by
 refine Ql Tryz.func112 fun E=> ?_;refine(Ig b _ hb).q ?_;cases r1:rightB b with
 | false=>
  refine Qq ?_;rw[QJ,BA (by simp[r1])];rfl
 | true=>
  refine Qq ?_;refine(Sk p _).q ?_;cases r3:Qv p with
  | false=>
   refine Qq ?_;rw[QJ,BA (by simp[r3])];rfl
  | true=>
   have hla:=hb.1;have hab:QJ b p=Z1 (fun _ a=>Zk a p) 0 b []:=BC ⟨r1,r3⟩;rw[hab];refine Qq ?_;refine ZE 6 3 ?_;refine Qq ?_;refine Q1 [true,true,false,false,false,false,true,true] 0 1 (fun n s=> ∃i o,n=b.length-i/\i<=b.length/\o.length=i/\Z1 (fun _ a=>Zk a p) 0 b []=Z1 (fun _ a=>Zk a p) i (b.drop i) o/\s=⟨[.sl .no (Qj b),.sc (.int .i64 p),.junk,.junk,.junk,.junk,.sl (.own 0) (Q5 o),.sc (.int .i64 (i:Nat))]++jk 33,[],[(o.length,3)],st⟩) b.length ?_ ?_;refine Qq ?_;exact⟨0,[],oG,oG,rfl,rfl,rfl⟩;rintro n s ⟨i,o,rfl,hi,ho,hr,rfl⟩;refine QS ?_ ?_<;>intro h';have hlt:i<b.length:=(by have:=q_b h';omega);have e1:=Zr b i hlt;have e3:=J2v i oG;have e4:=xF (fun _ a=>Zk a p) b i o hlt;simp-dsimp only[go_sem,e1];refine⟨⟨oG,oG⟩,?_⟩;refine(y0k _ p _ (hb.2 i hlt)).q ?_;simp-dsimp only[go_sem,e1];refine ck ?_ ?_<;>intro h2;have hne:=Xm h2;refine Qq ?_;rw[hr,e4,BC hne];rfl;have he:=XA h2;simp-dsimp only[go_sem,e3];refine⟨oG,b.length-(i+1),oG,i+1,o++ [(Zk (b.getD i default) p).1],rfl,oG,by simp[ho],?_,?_⟩;rw[hr,e4,BA (fun hh=>hh he)];simp[Q5,Qf];have hge:i=b.length:=(by have:=q_c h';omega);refine Qq ?_;refine Qp ?_;rw[hr,hge,FF];rfl
theorem wT {α β:Type}(F:Nat->α->β×Int)(P:β->Prop)(hp: ∀i x,x∈([]:List α)\/P (F i x).1): ∀(l:List α) (i:Nat) (acc:List β),(∀y,y∈acc->P y)->(∀y,y∈(Z1 F i l acc).1->P y)/\(Z1 F i l acc).1.length<=acc.length+l.length
 | [],i,acc,h=>⟨h,by simp[Z1]⟩
 | x::l,i,acc,h=>by unfold Z1;split;exact⟨fun y hy=>by simp at hy,by simp⟩;obtain⟨h1,h2⟩:=wT F P hp l (i+1) (acc++ [(F i x).1]) (fun y hy=>by rcases DN.1 hy with h3 | h3;exact h y h3;rw[C0.1 h3];rcases hp i x with h4 | h4;simp at h4;exact h4);exact⟨h1,by simp at h2⊢;omega⟩
theorem wS (F:Nat->Ivl->Ivl×Int)(hF: ∀i x,wI (F i x).1)(l:Li)(hl:l.length<=100000000000):wB (Z1 F 0 l []).1:=by obtain⟨h1,h2⟩:=wT F wI (fun i x=> .inr (hF i x)) l 0 [] (fun y hy=>by simp at hy);exact⟨by simp at h2;omega,fun i hi=>h1 _ (QE _ i default hi)⟩
theorem j1r (F:Nat->Ivl->Nm×Int)(hF: ∀i x,wN (F i x).1)(l:Li)(hl:l.length<=100000000000):wNs (Z1 F 0 l []).1:=by obtain⟨h1,h2⟩:=wT F wN (fun i x=> .inr (hF i x)) l 0 [] (fun y hy=>by simp at hy);exact⟨by simp at h2;omega,fun i hi=>h1 _ (QE _ i default hi)⟩
theorem H0n :wNs []:=⟨by simp,fun i hi=>by simp at hi⟩
theorem qF (k:Nat)(a b:Ivl)(p:Int):wI (opI k a b p).1:=Kq (KK k a b p)
theorem y1n (a:Ivl)(p:Int):wI (VG a p).1:=by unfold VG;split;exact qG;split;exact qG;split;exact qG;exact⟨Xc (QZ (KX _ _ _ _ _)),Xc (QZ (KX _ _ _ _ _))⟩
theorem H0v (k:Nat)(a b:Li)(p:Int)(ha:wB a):wB (opB k a b p).1:=by unfold opB;split;exact wS _ (fun i x=>qF _ _ _ _) a ha.1;exact Kr
theorem H0u (x:Ivl)(b:Li)(p:Int)(hb:wB b):wB (XP x b p).1:=by unfold XP;split;exact wS _ (fun i x=>qF _ _ _ _) b hb.1;exact Kr
theorem H0y (b:Li)(p:Int)(hb:wB b):wB (YL b p).1:=by unfold YL;split;exact wS _ (fun i x=>y1n _ _) b hb.1;exact Kr
theorem jd (b:Li)(p:Int)(hb:wB b):wNs (QJ b p).1:=by unfold QJ;split;exact j1r _ (fun i x=>Xc (QZ (Hf _ _))) b hb.1;exact H0n
def k1 :Nm:=⟨false,0,[1]⟩
def k2 :Nm:=⟨false,1,[1]⟩
def k4 :Nm:=⟨false,2,[1]⟩
theorem Yq {P:Pg}{ops l m:Lo}{x:Oper}{K:Pf}{s:PFS} :OL P ops (List.append (x::l) m) K s=OL P ops (x::List.append l m) K s:=rfl
theorem Yp {P:Pg}{ops m:Lo}{K:Pf}{s:PFS} :OL P ops (List.append [] m) K s=OL P ops m K s:=rfl
theorem Zd (i:Nat)(h:i<100000000000000):IntKind.i64.wrap ((i:Int)+1)=((i+1:Nat):Int):=by rw[Q2 _ oG oG];omega
end Go.Pv
end
