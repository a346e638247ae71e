/- Walk. -/
import Derived.Test.YtpfladficeildaaGreatDoorZFF
import Derived.Test.YtpfladficeildaaGreatDoorZGC
set_option linter.all false
set_option maxHeartbeats 160000000
section
set_option maxRecDepth 100000
namespace Go.Pv
open Go.Proofs
theorem K1p {x y:Lx}(h:ofB x=ofB y):x=y:=by
 have hl:x.length=y.length:=by have:=B4 List.length h;simpa[ofB] using this
 refine C9 hl fun i h1 h2=> ?_;have:=B4 (fun l:List Ivl=>(l.getD i default).lo) h;simp only[Q0q h1,Q0q h2] at this;rwa [q_a,BB h1,q_a,BB h2] at this
theorem K0h (x y:Lx)(st:Qc)(hx:WM x)(hy:WM y):PR 104 [.sl .no (Q5 x),.sl .no (Q5 y)] st (.sc (.bool (decide (x=y)))):=by refine Ql Tryz.func104 fun E=> ?_;refine(Gi x _ hx).plain.Q ?_;refine(Gi y _ hy).plain.Q ?_;refine(Y0r (ofB x) (ofB y) _ (Ys hx) (Ys hy)).Q ?_;have:(ofB x=ofB y)<->x=y:=⟨K1p,fun h=>by rw[h]⟩;simp only[this]
theorem q1s (a b:Fm)(st:Qc)(ha:wFm a)(hb:wFm b):PR 52 [.agg (ZU a),.agg (ZU b)] st (.sc (.bool (decide (a=b)))):=by
 obtain⟨am,⟨aal,aa⟩,ar⟩:=ha;obtain⟨bm,⟨bal,ba⟩,br⟩:=hb;have aml:=am.1;have bml:=bm.1;refine Qh none Tryz.func52 rfl fun E=>Qb ?_;by_cases h1:a.m.length=b.m.length;rotate_left;have z1:((a.m.length:Int) !=(b.m.length:Int))=true:=BV.2 oG;simp-dsimp only[go_sem,z1];rw[q_g (fun e=>h1 (by rw[e]))];have z1:((a.m.length:Int) !=(b.m.length:Int))=false:=(by rw[h1];simp);by_cases h2:a.a.length=b.a.length;rotate_left;have z2:((a.a.length:Int) !=(b.a.length:Int))=true:=BV.2 oG;simp-dsimp only[go_sem,z1,z2];rw[q_g (fun e=>h2 (by rw[e]))];have z2:((a.a.length:Int) !=(b.a.length:Int))=false:=(by rw[h2];simp);simp-dsimp only[go_sem,z1,z2];refine(Y0r a.r b.r _ ar br).w ?_;rintro st' rfl;by_cases h3:a.r=b.r;rotate_left;have z3:decide (a.r=b.r)=false:=q_g h3;simp-dsimp only[go_sem,z3];rw[q_g (fun e=>h3 (by rw[e]))];have z3:decide (a.r=b.r)=true:=q_h h3;simp-dsimp only[go_sem,z3];refine Q1 ([false,false,true,true,false,true]++List.replicate 27 false++ [true,true]) 2 0
  (fun c s=> ∃i:Nat,c=a.a.length-i/\i<=a.a.length/\(∀j,j<i->a.a.getD j []=b.a.getD j [])/\
   s=⟨[.junk,.junk,.lp 0 0,.lp 1 0,.junk,.fn (.func 104) [] []]++jk 27++ [.sc (.int .i64 a.a.length),.sc (.int .i64 (i:Nat))]++jk 22,[ZU a,ZU b],[],st'⟩) a.a.length ?_ ?_
 refine Qq ?_;exact⟨0,oG,oG,fun j hj=>absurd hj (CD j),rfl⟩;rintro c s ⟨i,rfl,hi,heq,rfl⟩;refine QS ?_ ?_<;>intro h;have hlt:i<a.a.length:=(oT h);have g1:=V8 a.a i hlt;have g2:=V8 b.a i oG;have e3:=Zd i oG;refine Qq ?_;refine Q8 57 (Qk [0,1,2,3,4,5,6,7,8,9,10,11,12] .done) ?_;simp-dsimp only[go_sem,g1,g2];refine⟨oG,oG,?_⟩;refine(K0h (a.a.getD i []) (b.a.getD i []) _ (aa i hlt) (ba i oG)).q ?_;by_cases h4:a.a.getD i []=b.a.getD i [];have z4:decide (a.a.getD i []=b.a.getD i [])=true:=q_h h4;simp-dsimp only[go_sem,z4,e3];refine⟨a.a.length-(i+1),oG,i+1,rfl,oG,fun j hj=> ?_,rfl⟩;by_cases e:j=i;rw[e];exact h4;exact heq j oG;have z4:decide (a.a.getD i []=b.a.getD i [])=false:=q_g h4;simp-dsimp only[go_sem,z4];rw[q_g (fun e=>h4 (by rw[e]))];have hge:i=a.a.length:=(oF h);subst hge;have hA:a.a=b.a:=C9 h2 fun k h4 h5=>by have:=heq k h4;rwa [q_a,BB h4,q_a,BB h5] at this
 refine Qq ?_;refine Qp ?_;refine(K0h a.m b.m _ am bm).Q ?_;have:(a=b)<->a.m=b.m:=(by rw[fm_eq];exact⟨fun h=>h.1,fun h=>⟨h,hA,h3⟩⟩);simp only[this]
theorem K0i (k:Nat)(st:Qc)(hk:k<=100000):PR 108 [.sc (.int .i64 k)] st (.sl .no (Qu (X4 k))):=by
 refine Ql Tryz.func108 fun E=> ?_;refine ZE 3 1 ?_;refine Qq ?_;refine X0 [true,false,false,true,false,false,true,true] 0 1
  (fun m s=> ∃i,m=k-i/\i<=k/\s=⟨[.sc (.int .i64 k),.junk,.junk,.sl (.own 0) (Qu ((X4 k).take i)),.junk,.junk,.sc (.int .i64 k),.sc (.int .i64 (i:Nat))]++jk 14,[],[(((X4 k).take i).length,1)],st⟩) k ?_ ?_
 refine Qq ?_;exact⟨0,oG,oG,rfl⟩;rintro m s ⟨i,rfl,hi,rfl⟩;refine Qa ?_;refine Qa ?_;refine ck ?_ ?_<;>intro h';have hlt:i<k:=(by have:=q_b h';omega);have e3:=Zd i oG;have ll:((X4 k).take i).length=i:=(by rw[BX,Ha];omega);have e5:(X4 k).take (i+1)=(X4 k).take i++ [KD k i]:=Dh _ _ _ hlt;have e6:flat (Q5 (KD k i))=Q4 (flat (Q5 (List.replicate k default))) (i*3) (Qf oneN):=(K0v _ i oneN (by simpa using hlt)).symm;refine Qq ?_;refine Qe (Xp ?_);refine Qa ?_;refine Qa ?_;refine⟨⟨oG,oG⟩,?_⟩;refine Qe (Qb ?_);simp-dsimp only[go_sem,GP];refine(UB _).q ?_;simp-dsimp only[go_sem,GP];refine⟨⟨oG,hlt⟩,⟨oG,oG⟩,?_⟩;have r0:XI k [.sc (.bool false),.sc (.int .i64 0),.sl .no []]=flat (Q5 (List.replicate k default)):=Ok k;have r1:Q4 (flat (Q5 (List.replicate k default))) (i*3) [.sc (.bool oneN.neg),.sc (.int .i64 oneN.exp),.sl .no (Qo oneN.w)]=flat (Q5 (KD k i)):=e6.symm;have r2:=yn (KD k i) k (GI k i).symm;have r3:=GI k i;have hone:Qo oneN.w= [.sc (.int .u64 1)]:=rfl;refine GQ 0 3 ?_ ?_;refine Qq ?_;exact vY (vX rfl) rfl;simp-dsimp only[go_sem,kG,zz,r0,r1,r2,r3];refine Qp ?_;refine⟨⟨oG,oG⟩,Qb ?_⟩;simp-dsimp only[go_sem,e3];refine⟨k-(i+1),oG,i+1,rfl,oG,?_⟩;rw[e5];simp;have hge:i=k:=(by have:=q_c h';omega);have ht:(X4 k).take i=X4 k:=BF (by rw[Ha];omega);rw[ht];refine Qq ?_;refine KG [false,false,false,true] (Qb ?_);exact QA
theorem q1u (b:Li)(p:Int)(st:Qc)(hb:wB b):PR 55 [.sl .no (Qj b),.sc (.int .i64 p)] st (.tup [.agg (ZU (X6 b p).1),.sc (.int .i64 (X6 b p).2)]):=by
 refine Qh none Tryz.func55 rfl fun E=>Qe (Qb ?_);have wm:=jd b p hb;have wo:=Ys wm;refine Qq ?_;refine Qa ?_;refine(y5 b p st hb).Q ?_;refine Qe (Qb ?_);unfold X6;by_cases h1:(QJ b p).2=0;rotate_left;have d1:((QJ b p).2 !=0)=true:=BV.2 h1;rw[BC h1];simp-dsimp only[go_sem,d1];rfl;have d1:((QJ b p).2 !=0)=false:=(by rw[h1];rfl);have c1: ¬((QJ b p).2≠0):=fun h=>h h1;rw[BA c1];simp-dsimp only[go_sem,d1];refine Qa ?_;refine(Gi (QJ b p).1 st wm).plain.Q ?_;refine(Y0q b (ofB (QJ b p).1) p st hb wo).Q ?_;refine Qe (Qb ?_);by_cases h2:(opB 1 b (ofB (QJ b p).1) p).2=0;rotate_left;have d2:((opB 1 b (ofB (QJ b p).1) p).2 !=0)=true:=BV.2 h2;rw[BC h2];simp-dsimp only[go_sem,d2];rfl;have d2:((opB 1 b (ofB (QJ b p).1) p).2 !=0)=false:=(by rw[h2];rfl);have c2: ¬((opB 1 b (ofB (QJ b p).1) p).2≠0):=fun h=>h h2;rw[BA c2];have hl:=vu h1;simp-dsimp only[go_sem,d2];refine Qp ?_;refine(K0i b.length st oG).Q ?_;rfl
theorem Bo {q:Ly}(h:wQs q):wM (ofM q):=by obtain⟨h1,h2⟩:=h;refine⟨by simpa[ofM] using h1,fun i hi=> ?_⟩;have hi':i<q.length:=(by simpa[ofM] using hi);rw[kR hi'];exact Ys (h2 i hi')
theorem H1i {f:Fm}{p:Int}(h:Z4 f=true/\Qv p=true):K1 f p=if (Xy (ofM f.a) f.r p).2≠0 then([],(Xy (ofM f.a) f.r p).2) else opB 0 (ofB f.m) (Xy (ofM f.a) f.r p).1 p:=by unfold K1;rw[BC h]
theorem J0n {f:Fm}{p:Int}(h: ¬(Z4 f=true/\Qv p=true)):K1 f p=([],1):=by unfold K1;rw[BA h]
theorem q1w (f:Fm)(p:Int)(st:Qc)(hf:wFm f):PR 37 [.agg (ZU f),.sc (.int .i64 p)] st (.tup [.sl .no (Qj (K1 f p).1),.sc (.int .i64 (K1 f p).2)]):=by
 obtain⟨wm,wa,wr⟩:=hf;refine Qh none Tryz.func37 rfl fun E=>Qe (Qb ?_);refine Qq ?_;refine Qa ?_;refine(w6 f _ ⟨wm,wa,wr⟩).q ?_;cases hr:Z4 f with
 | false=>
  rw[J0n (fun h=>by rw[hr] at h;cases h.1)];exact QA
 | true=>
 refine Qq ?_;refine(Ks p _).q ?_;cases hp:Qv p with
 | false=>
  rw[J0n (fun h=>by rw[hp] at h;cases h.2)];exact QA
 | true=>
 rw[H1i ⟨hr,hp⟩];refine Qq ?_;refine Qe ?_;refine Q8 37 (Qk [0,1,3,4,5] (.step 2 [4] (Qk [6,7,8,9,10,11] .done))) ?_;refine Qq ?_;refine(v5 f.a _ wa).plain.Q ?_;refine(vw (ofM f.a) f.r p _ (Bo wa) wr).q ?_;have wv:=jf (ofM f.a) f.r p;generalize Xy (ofM f.a) f.r p=V at*
 refine Qq ?_;refine Qe (Qb ?_);by_cases h1:V.2=0;rotate_left;have d1:(V.2 !=0)=true:=BV.2 h1;rw[BC h1];simp-dsimp only[go_sem,d1];have d1:(V.2 !=0)=false:=(by rw[h1];rfl);rw[BA (fun e=>e h1)];simp-dsimp only[go_sem,d1];refine Qp ?_;refine(Gi f.m _ wm).plain.Q ?_;refine(y6 (ofB f.m) V.1 p _ (Ys wm) wv).Q0
theorem q1t (v c:Mx)(r z:Li)(p:Int)(st:Qc)(wv:wM v)(wc:wM c)(wr:wB r)(wz:wB z):PCalls Tryz.prog 139 [.sl .no (Qt v),.sl .no (Qt c),.sl .no (Qj r),.sl .no (Qj z),.sc (.int .i64 p)] st
 (fun x st'=>x= .tup [.sl .no (Qj (Yz v c r z p).1),.sc (.int .i64 (Yz v c r z p).2)]/\st'=st):=by
 refine Qh none Tryz.func139 rfl fun E=>Qe (Qb ?_);unfold Yz;refine Qq ?_;refine Qa ?_;refine(v6 v c p _ wv wc).q ?_;have wm:=vl v c p;generalize Zb v c p=M at*
 refine Qq ?_;refine Qe (Qb ?_);by_cases h1:M.2=0;rotate_left;have d1:(M.2 !=0)=true:=BV.2 h1;rw[BC h1];simp-dsimp only[go_sem,d1];have d1:(M.2 !=0)=false:=(by rw[h1];rfl);rw[BA (fun e=>e h1)];simp-dsimp only[go_sem,d1];refine Qa ?_;refine(vw M.1 r p _ wm wr).q ?_;have wx:=jf M.1 r p;generalize Xy M.1 r p=X at*
 refine Qq ?_;refine Qe (Qb ?_);by_cases h2:X.2=0;rotate_left;have d2:(X.2 !=0)=true:=BV.2 h2;rw[BC h2];simp-dsimp only[go_sem,d2];have d2:(X.2 !=0)=false:=(by rw[h2];rfl);rw[BA (fun e=>e h2)];simp-dsimp only[go_sem,d2];refine Qa ?_;refine(vw v z p _ wv wz).q ?_;have wy:=jf v z p;generalize Xy v z p=Y at*
 refine Qq ?_;refine Qe (Qb ?_);by_cases h3:Y.2=0;rotate_left;have d3:(Y.2 !=0)=true:=BV.2 h3;rw[BC h3];simp-dsimp only[go_sem,d3];have d3:(Y.2 !=0)=false:=(by rw[h3];rfl);rw[BA (fun e=>e h3)];simp-dsimp only[go_sem,d3];refine Qp ?_;refine(y6 X.1 Y.1 p _ wx wy).Q0
def YG (t:List (List Nm)×Mx):List PV:= [.sl .no (Qu t.1),.sl .no (Qt t.2)]
attribute [go_sem] YG
theorem W0t {a:Ly}{p:Int}(h:(Jq a p).2=0):wQs (Jq a p).1:=by have hs:=v1a h;have h4:=(rightQ_iff.1 (W0s h).1).2;refine⟨by rw[hs.1];omega,fun i hi=> ?_⟩;rw[hs.1] at hi;have:=hs.row hi;exact⟨by rw[this.1];omega,fun j hj=>Q9 (this.2 _ (QE _ _ _ hj))⟩
theorem z0e (c:Mx)(p:Int)(st:Qc)(wc:wM c)
 (hO: ∀st:Qc,PR 215 [.sl .no (Qu (XT c p).1),.sc (.int .i64 p)] st (.tup [.sl .no (Qu (Jq (XT c p).1 p).1),.sc (.int .i64 (Jq (XT c p).1 p).2)]))
 (hS: ∀st:Qc,(Jq (XT c p).1 p).2=0->PR 216 [.sl .no (Qu (Jq (XT c p).1 p).1),.sc (.int .i64 p)] st (.tup [.sl .no (Qt (Xn (Jq (XT c p).1 p).1 p).1),.sc (.int .i64 (Xn (Jq (XT c p).1 p).1 p).2)])):PR 213 [.ep [.sl .no (Qt c)] 0,.ep [.sc (.int .i64 p)] 0] st (.tup [.agg (YG (KJ c p).1),.sc (.int .i64 (KJ c p).2)]):=by
 refine Qh none Tryz.func213 rfl fun E=>Qe (Qb ?_);unfold KJ;refine Qq ?_;refine Qa ?_;refine(Y1i c p _ wc).q ?_;have wq:=W1r c p;generalize XT c p=M at*
 refine Qq ?_;refine Qe (Qb ?_);by_cases h1:M.2=0;rotate_left;have d1:(M.2 !=0)=true:=BV.2 h1;rw[BC h1];simp-dsimp only[go_sem,d1];have d1:(M.2 !=0)=false:=(by rw[h1];rfl);rw[BA (fun e=>e h1)];simp-dsimp only[go_sem,d1];refine Qa ?_;refine(hO _).q ?_;have wcq:=W0t (a:=M.1) (p:=p);generalize Jq M.1 p=B at*
 refine Qq ?_;refine Qe (Qb ?_);by_cases h2:B.2=0;rotate_left;have d2:(B.2 !=0)=true:=BV.2 h2;rw[BC h2];simp-dsimp only[go_sem,d2];have d2:(B.2 !=0)=false:=(by rw[h2];rfl);rw[BA (fun e=>e h2)];simp-dsimp only[go_sem,d2];refine Qa ?_;refine(hS _ h2).q ?_;generalize Xn B.1 p=V at*
 refine Qq ?_;refine Qb ?_;simp-dsimp only[go_sem]
 try rfl
theorem z0d (c:Mx)(st:Qc)(hc:c.length<=1000):PR 217 [.ep [.sl .no (Qt c)] 0] st (.tup [.agg (YG (X4 c.length,idM c.length)),.sc (.int .i64 0)]):=by
 refine Qh none Tryz.func217 rfl fun E=>Qe (Qb ?_);refine Qq ?_;refine Qe ?_;refine Q8 10 (Qk [0,1,3,4] (.step 2 [3] (Qk [5,6,7,8] .done))) ?_;refine Qq ?_;refine(K0i c.length _ oG).Q ?_;refine(v7 (c.length:Int) _).Q ?_;refine Qb ?_;simp-dsimp only[go_sem]
 try rfl
def Yu (c:Mx)(p:Int):Nat->(List (List Nm)×Mx)×Int
 | 0=>(([],[]),3)
 | 1=>KJ c p
 | _=>XV c p
theorem q1r (c:Mx)(p:Int)(st:Qc)(wc:wM c)(rc:Za c=true)
 (hW: ∀st:Qc,PR 213 [.ep [.sl .no (Qt c)] 0,.ep [.sc (.int .i64 p)] 0] st (.tup [.agg (YG (KJ c p).1),.sc (.int .i64 (KJ c p).2)])):PR 138 [.sl .no (Qt c),.sc (.int .i64 p)] st (.tup [.agg (YG (XV c p).1),.sc (.int .i64 (XV c p).2)]):=by
 have hl:=Jj rc;have ho:KM (c.length:Int)=X4 c.length:=(by rw[KM,BC oG];rfl);refine Qh none Tryz.func138 rfl fun E=>Qe (Qb ?_);refine Qq ?_;refine Z5 0 ?_ ?_;exact QA;refine Qq ?_;refine Z5 1 ?_ ?_;exact QA;refine Qq ?_;refine Qa ?_;refine Qa ?_;refine Qa ?_;refine Qa ?_;refine Va 3 ?_;refine Qq ?_;refine Qp ?_;refine Q1 [false,false,false,false,true,false,false,false,true,true,false,false,false,false,false,false,true,true,true] 4 0
  (fun m s=> ∃i:Nat,m=2-i/\i<=2/\
   s=⟨[.junk,.junk,.junk,.junk,.lp 2 0,.junk,.junk,.junk,.sc (.int .i64 (Yu c p i).2),.lp 3 0]++jk 6++ [.sl .full [.fn (.func 213) [] [.ep [.sl .no (Qt c)] 0,.ep [.sc (.int .i64 p)] 0],.fn (.func 217) [] [.ep [.sl .no (Qt c)] 0]],.sc (.int .i64 2),.sc (.int .i64 (i:Nat))]++jk 13,
    [[],[],[.sl .full [],.sl .full []],YG (Yu c p i).1],[],st⟩) 2 ?_ ?_
 refine Qq ?_;exact⟨0,oG,oG,rfl⟩;rintro m s ⟨i,rfl,hi,rfl⟩;refine QS ?_ ?_<;>intro h;rotate_left
 . have hge:i=2:=oF h
   subst hge;refine Qq ?_;refine Qb ?_;simp-dsimp only[go_sem]
   try rfl
 have hlt:i=0\/i=1:=oT h
 rcases hlt with rfl | rfl;have z1:((Yu c p 0).2==3)=true:=rfl;have x1:IntKind.i64.wrap (((0:Nat):Int)+1)=((1:Nat):Int):=(by decide);simp-dsimp only[go_sem,z1];refine⟨oG,?_⟩;refine(hW _).q ?_;simp-dsimp only[go_sem,x1];exact⟨1,oG,1,rfl,oG,rfl⟩;have x1:IntKind.i64.wrap (((1:Nat):Int)+1)=((2:Nat):Int):=(by decide);by_cases h3:(KJ c p).2=3;have z1:((Yu c p 1).2==3)=true:=(by show((KJ c p).2==3)=true;rw[h3];rfl);have ht:XV c p=((X4 c.length,idM c.length),0):=(by unfold XV;rw[BC h3,ho]);have e2:Yu c p 2=((X4 c.length,idM c.length),0):=ht;simp-dsimp only[go_sem,z1];refine⟨oG,?_⟩;refine(z0d c _ oG).q ?_;simp-dsimp only[go_sem,x1];exact⟨0,oG,2,rfl,oG,by rw[e2]⟩;have z1:((Yu c p 1).2==3)=false:=(by show((KJ c p).2==3)=false;simpa using h3);have e2:Yu c p 2=Yu c p 1:=(by show XV c p=KJ c p;unfold XV;rw[BA h3]);simp-dsimp only[go_sem,z1,x1];refine⟨oG,?_⟩;exact⟨0,oG,2,rfl,oG,by rw[e2]⟩
theorem He {f:Fm}{z:Li}{s:Mx}{p:Int}(h: ¬(Z4 f=true/\rightB z=true/\Za s=true/\z.length=f.m.length/\s.length=f.m.length/\Qv p=true)):KN f z s p=(default,1):=by unfold KN;rw[BA (fun e=>h (V1j e))]
theorem V1l {f:Fm}{z:Li}{s:Mx}{p:Int}(h1:Z4 f=true)(h2:rightB z=true)(h3:Za s=true)(h4:z.length=f.m.length)(h5:s.length=f.m.length)(h6:Qv p=true):KN f z s p=xc f z s p:=by unfold KN xb;rw[BC (by rw[h1,h2,h3,h4,h5,h6];simp)]
theorem x0e {a:Ly}{p:Int}(h:(Xn a p).2=0):wM (Xn a p).1:=by
 unfold Xn at h⊢;split at h;rename_i c;exact absurd h c;rename_i c1;rw[BA c1];split at h;rename_i c;exact absurd h c;rename_i c2;rw[BA c2];split at h;cases h;rename_i c3;rw[BA c3];split at h;rename_i c;exact absurd h c;rename_i c4;rw[BA c4];have hq:a.length<=4:=by refine BE fun hn=>c1 ?_;have: ¬(Xj a=true/\Qv p=true):=fun e=>hn (rightQ_iff.1 e.1).2.2;unfold QW;rw[BA this];decide
 obtain⟨g1,g2⟩:=II h;refine⟨oG,fun i hi=> ?_⟩;obtain⟨r1,r2⟩:=g2 i oG;refine⟨oG,fun j hj=> ?_⟩;rw[show((X7 _ a.length).1.getD i []).getD j default=_ from(r2 j oG).2];unfold ZP;split;exact⟨Q9 (by decide),Q9 (by decide)⟩;exact⟨Q9 (KX _ _ _ _ _),Q9 (KX _ _ _ _ _)⟩
theorem z0a {n:Nat}{c:Mx}{p:Int}(rc:Za c=true)(h:(XV c p).2=0):wM (XV c p).1.2:=by unfold XV at h⊢;split;have hl:=Jj rc;obtain⟨si,hil⟩:=k0a hl.1 hl.2;exact Uz si.right;rename_i c3;rw[BA c3] at h;unfold KJ at h⊢;split at h;rename_i c;exact absurd h c;rename_i c;rw[BA c];split at h;rename_i c;exact absurd h c;rename_i c;rw[BA c];exact x0e h
theorem q1v (f:Fm)(z:Li)(s:Mx)(p:Int)(st:Qc)(hf:wFm f)(wz:wB z)(ws:wM s)
 (hT: ∀st:Qc,Za (Zb s (ofM f.a) p).1=true->wM (Zb s (ofM f.a) p).1->PR 138 [.sl .no (Qt (Zb s (ofM f.a) p).1),.sc (.int .i64 p)] st (.tup [.agg (YG (XV (Zb s (ofM f.a) p).1 p).1),.sc (.int .i64 (XV (Zb s (ofM f.a) p).1 p).2)])):PR 77 [.agg (ZU f),.sl .no (Qj z),.sl .no (Qt s),.sc (.int .i64 p)] st (.tup [.agg (ZU (KN f z s p).1),.sc (.int .i64 (KN f z s p).2)]):=by
 obtain⟨wm,wa,wr⟩:=hf;have wml:=wm.1;have wzl:=wz.1;have wsl:=ws.1;refine Qh none Tryz.func77 rfl fun E=>Qe (Qb ?_);refine Qq ?_;refine Qa ?_;refine(w6 f _ ⟨wm,wa,wr⟩).q ?_;cases h1:Z4 f with
 | false=>
  rw[He (fun h=>by rw[h1] at h;cases h.1)];simp-dsimp only[go_sem]
  try rfl
 | true=>
 refine Qq ?_;refine(Ko z _ wz).q ?_;cases h2:rightB z with
 | false=>
  rw[He (fun h=>by rw[h2] at h;cases h.2.1)];simp-dsimp only[go_sem]
  try rfl
 | true=>
 refine Qq ?_;refine(xf s _ ws).q ?_;cases h3:Za s with
 | false=>
  rw[He (fun h=>by rw[h3] at h;cases h.2.2.1)];simp-dsimp only[go_sem]
  try rfl
 | true=>
 by_cases h4:z.length=f.m.length;rotate_left
 . have z4:((z.length:Int) !=(f.m.length:Int))=true:=BV.2 oG;rw[He (fun h=>h4 h.2.2.2.1)];simp-dsimp only[go_sem,z4]
   try rfl
 have z4:((z.length:Int) !=(f.m.length:Int))=false:=by rw[h4];simp
 by_cases h5:s.length=f.m.length;rotate_left
 . have z5:((s.length:Int) !=(f.m.length:Int))=true:=BV.2 oG;rw[He (fun h=>h5 h.2.2.2.2.1)];simp-dsimp only[go_sem,z4,z5]
   try rfl
 have z5:((s.length:Int) !=(f.m.length:Int))=false:=by rw[h5];simp
 simp-dsimp only[go_sem,z4,z5];refine(Ks p _).q ?_;cases h6:Qv p with
 | false=>
  rw[He (fun h=>by rw[h6] at h;cases h.2.2.2.2.2)];simp-dsimp only[go_sem]
  try rfl
 | true=>
 rw[V1l h1 h2 h3 h4 h5 h6];unfold xc;refine Qq ?_
 --the middle
 refine Qa ?_;refine(y5 z p _ wz).q ?_;have wmid:=jd z p wz;generalize QJ z p=M at*
 refine Qq ?_;refine Qe (Qb ?_);by_cases e1:M.2=0;rotate_left
 . have d1:(M.2 !=0)=true:=BV.2 e1;rw[BC e1];simp-dsimp only[go_sem,d1]
   try rfl
 have d1:(M.2 !=0)=false:=by rw[e1];rfl
 rw[BA (fun e=>e e1)];unfold vg;simp-dsimp only[go_sem,d1]
 --the product
 refine Qa ?_;refine(v5 f.a _ wa).plain.Q ?_;refine(v6 s (ofM f.a) p _ ws (Bo wa)).q ?_;have wc:=vl s (ofM f.a) p;have rc:=V1y (a:=s) (b:=ofM f.a) (p:=p);generalize Zb s (ofM f.a) p=C at*
 refine Qq ?_;refine Qe (Qb ?_);by_cases e2:C.2=0;rotate_left
 . have d2:(C.2 !=0)=true:=BV.2 e2;rw[BC e2];simp-dsimp only[go_sem,d2]
   try rfl
 have d2:(C.2 !=0)=false:=by rw[e2];rfl
 rw[BA (fun e=>e e2)];unfold vd;have rc:=(rc e2).1;simp-dsimp only[go_sem,d2]
 --the columns
 refine Qa ?_;refine(hT _ rc wc).q ?_;have wt:=z0a (n:=0) (p:=p) rc;generalize XV C.1 p=T at*
 obtain⟨⟨tb,tv⟩,te⟩:=T;refine Qq ?_;refine Qe (Qb ?_);by_cases e3:te=0;rotate_left
 . have d3:(te !=0)=true:=BV.2 e3;rw[BC e3];simp-dsimp only[go_sem,d3]
   try rfl
 have d3:(te !=0)=false:=by rw[e3];rfl
 rw[BA (fun e=>e e3)];have wt:=wt e3;unfold vf;simp-dsimp only[go_sem,d3]
 --what is left
 refine Qa ?_;refine(Gi M.1 _ wmid).plain.Q ?_;refine(Y0q z (ofB M.1) p _ wz (Ys wmid)).q ?_;have wd:=fun h=>Ih (zQ (k:=1) (a:=z) (b:=ofB M.1) (p:=p) h);generalize opB 1 z (ofB M.1) p=D at*
 refine Qq ?_;refine Qe (Qb ?_);by_cases e4:D.2=0;rotate_left
 . have d4:(D.2 !=0)=true:=BV.2 e4;rw[BC e4];simp-dsimp only[go_sem,d4]
   try rfl
 have d4:(D.2 !=0)=false:=by rw[e4];rfl
 rw[BA (fun e=>e e4)];have wd:=wd e4;unfold xa;simp-dsimp only[go_sem,d4];refine Qa ?_;refine(q1t tv C.1 f.r D.1 p _ wt wc wr wd).q ?_;generalize Yz tv C.1 f.r D.1 p=R at*
 refine Qq ?_;refine Qe (Qb ?_);by_cases e5:R.2=0;rotate_left
 . have d5:(R.2 !=0)=true:=BV.2 e5;rw[BC e5];simp-dsimp only[go_sem,d5]
   try rfl
 have d5:(R.2 !=0)=false:=by rw[e5];rfl
 rw[BA (fun e=>e e5)];simp-dsimp only[go_sem,d5];refine Qb ?_;simp-dsimp only[go_sem]
 try rfl
theorem W1v {z:Li}{p:Int}(h:(QJ z p).2=0):(QJ z p).1.length=z.length/\ ∀x∈(QJ z p).1,Qg x=true:=by unfold QJ at h⊢;split at h;rename_i c;rw[BC c];rw[UX] at h⊢;exact⟨(WS h).1,WR (fun x=>Qg x=true) _ 0 [] (fun j _ _=>Hf _ _) (fun x hx=>by cases hx)⟩;exact absurd h (by decide)
theorem Gu :wFm default:=⟨⟨CX _,fun i hi=>absurd hi (CD i)⟩,⟨CX _,fun i hi=>absurd hi (CD i)⟩,⟨CX _,fun i hi=>absurd hi (CD i)⟩⟩
theorem V1h {f:Fm}{m:Lx}{c:Mx}{t:List (List Nm)×Mx}{d:Li}{p:Int}(hm:WM m)(ht:wQs t.1):wFm (xa f m c t d p).1:=by unfold xa;split;exact Gu;rename_i h;have h:=C8.1 h;unfold Yz at h⊢;split at h;rename_i c;exact absurd h c;rename_i c1;rw[BA c1];split at h;rename_i c;exact absurd h c;rename_i c2;rw[BA c2];split at h;rename_i c;exact absurd h c;rename_i c3;rw[BA c3];exact⟨hm,ht,Ih (zQ h)⟩
theorem q0z {c:Mx}{p:Int}(h:(XV c p).2=0):wQs (XV c p).1.1:=by unfold XV at h⊢;split;exact Q0f _;rename_i c3;rw[BA c3] at h;unfold KJ at h⊢;split at h;rename_i c;exact absurd h c;rename_i c1;rw[BA c1];split at h;rename_i c;exact absurd h c;rename_i c2;rw[BA c2];exact W0t (C8.1 c2)
theorem V1k (f:Fm)(z:Li)(s:Mx)(p:Int):wFm (KN f z s p).1:=by unfold KN;split;rotate_left;exact Gu;unfold xc;split;exact Gu;rename_i h1;have h1:=C8.1 h1;have hl:=vu h1;have hm:=W1v h1;unfold vg;split;exact Gu;unfold vd;split;exact Gu;rename_i h3;unfold vf;split;exact Gu;exact V1h ⟨oG,fun i hi=>Q9 (hm.2 _ (QE _ _ _ hi))⟩ (q0z (C8.1 h3))
theorem H1h (f:Fm)(p:Int):wB (K1 f p).1:=by
 unfold K1;split;split;exact⟨CX _,fun i hi=>absurd hi (CD i)⟩;by_cases hh:(opB 0 (ofB f.m) (Xy (ofM f.a) f.r p).1 p).2=0;exact Ih (zQ hh);have he:(opB 0 (ofB f.m) (Xy (ofM f.a) f.r p).1 p).1= []:=by unfold opB at hh⊢;split at hh;rename_i c;rw[BC c];rw[UX] at hh⊢;exact Do _ _ _ hh;rename_i c;rw[BA c]
 rw[he];exact⟨CX _,fun i hi=>absurd hi (CD i)⟩;exact⟨CX _,fun i hi=>absurd hi (CD i)⟩
theorem je {a:Ivl}(h:wI a):wB [a]:=⟨by simp,fun i hi=>by have:i=0:=(by simpa using hi);subst this;exact h⟩
theorem H1m (x:Nm)(st:Qc)(hx:wN x):PR 21 [.agg (Qf x)] st (.sc (.bool (decide (x=default)))):=by unfold wN at hx;refine Ql Tryz.func21 fun E=> ?_;refine(WY x default _ oG (by decide)).Q0
theorem J9 {x:Nm}(h:wN x):x.w.length<=100000000000:=h
theorem Z2p (x:Nm)(h:Qg x=true):decide (0<QT (XR x))=decide (0<Q6 x default):=by
 have e:XR x=x:=by unfold XR;rw[BC h]
 rw[e,Gc h XW];have h1:=GF x;have h2:=cmpN_lt (a:=default) (b:=x);have h3:=H5 default x;rw[Kw] at h2;exact FD.2 ⟨fun h=>by have:=h2.2 (h1.1 h);omega,fun h=>h1.2 (h2.1 oG)⟩
theorem kw (x:Nm)(st:Qc)(hx:wN x):PR 94 [.agg (Qf x)] st (.sc (.bool (Qg x&&decide (0<Q6 x default)))):=by
 have wl:=J9 hx;refine Ql Tryz.func94 fun E=> ?_;refine(XY x st oG).q ?_;cases h:Qg x with
 | false=>simp-dsimp only[go_sem];try rfl
 | true=>
 refine Qq ?_;refine(zV x st oG).q ?_;have e:=Z2p x h;refine Qq ?_;exact B4 (fun b=>PV.sc (.bool b)) e
theorem kv (n a b:Int)(st:Qc):PR 95 [.sc (.int .i64 n),.sc (.int .i64 a),.sc (.int .i64 b)] st (.sc (.bool (decide (a<=n)&&decide (n<=b)))):=by
 refine Qh none Tryz.func95 rfl fun E=>Qb ?_;by_cases h:a<=n
 . have e:decide (n>=a)=true:=q_h h;rw[q_h h];simp-dsimp only[go_sem,e]
   try rfl
 . have e:decide (n>=a)=false:=q_g h;rw[q_g h];simp-dsimp only[go_sem,e]
   try rfl
theorem Si (p:Pb)(st:Qc)(hw:wPb p):PR 45 [.agg (Zq p)] st (.sc (.bool (Ji p))):=by
 obtain⟨wf,wb,w1,w2,w3⟩:=hw;have wfl:=wf.1;have wbl:=wb.1;have v1:=J9 w1;have v2:=J9 w2;have v3:=J9 w3;have no: ¬Ji p=true->Ji p=false:=fun h=>(by simpa using h);have parts:=rightPb_parts (p:=p);refine Qh none Tryz.func45 rfl fun E=>Qe (Qb ?_);refine Qq ?_;refine Qa ?_;refine(IJ p.fld st wf).q ?_;cases q1:ZY p.fld with
 | false=>
  refine Qq ?_;rw[no fun e=>by have:=(parts.1 e).1;rw[q1] at this;cases this]
 | true=>
 refine Qq ?_;refine(Ko p.box st wb).q ?_;cases q2:rightB p.box with
 | false=>
  refine Qq ?_;rw[no fun e=>by have:=(parts.1 e).2.1;rw[q2] at this;cases this]
 | true=>
 by_cases q3:p.box.length=p.fld.length;rotate_left;have d3:((p.box.length:Int) !=(p.fld.length:Int))=true:=BV.2 oG;simp-dsimp only[go_sem,d3];rw[no fun e=>q3 (parts.1 e).2.2.1];have d3:((p.box.length:Int) !=(p.fld.length:Int))=false:=(by rw[q3];simp);simp-dsimp only[go_sem,d3];refine(kw p.until' st w1).q ?_;cases a1:(Qg p.until'&&decide (0<Q6 p.until' default)) with
 | false=>
  refine Qq ?_;rw[no fun e=>by have:=parts.1 e;rw[this.2.2.2.1,q_h this.2.2.2.2.2.2.1] at a1;cases a1]
 | true=>
 rw[q_i,BN] at a1;refine Qq ?_;refine(kw p.most st w2).q ?_;cases a2:(Qg p.most&&decide (0<Q6 p.most default)) with
 | false=>
  refine Qq ?_;rw[no fun e=>by have:=parts.1 e;rw[this.2.2.2.2.1,q_h ((yj this.2.2.2.2.1 XW).2 (by have h1:=(yj this.2.2.2.2.2.1 XW).1 this.2.2.2.2.2.2.2.1;have h2:=(Gd this.2.2.2.2.2.1 this.2.2.2.2.1).1 (by have:=xJ this.2.2.2.2.2.1 this.2.2.2.2.1;omega);grind))] at a2;cases a2]
 | true=>
 rw[q_i,BN] at a2;refine Qq ?_;refine(kw p.least st w3).q ?_;cases a3:(Qg p.least&&decide (0<Q6 p.least default)) with
 | false=>
  refine Qq ?_;rw[no fun e=>by have:=parts.1 e;rw[this.2.2.2.2.2.1,q_h this.2.2.2.2.2.2.2.1] at a3;cases a3]
 | true=>
 rw[q_i,BN] at a3;refine Qq ?_;refine(VW p.least p.most st oG oG).q ?_;have hfl:=xJ a3.1 a2.1;by_cases a4:Q6 p.least p.most>0;have d4:decide (Q6 p.least p.most>0)=true:=q_h a4;simp-dsimp only[go_sem,d4];rw[no fun e=>by have:=(parts.1 e).2.2.2.2.2.2.2.2.1;omega];have d4:decide (Q6 p.least p.most>0)=false:=q_g a4;simp-dsimp only[go_sem,d4];refine Qp ?_;refine(kv p.prec 8 256 st).q ?_;have e5:(decide ((8:Int)<=p.prec)&&decide (p.prec<=256))=Qv p.prec:=rfl;rw[e5];cases a5:Qv p.prec with
 | false=>
  refine Qq ?_;rw[no fun e=>by have:=(parts.1 e).2.2.2.2.2.2.2.2.2.1;rw[a5] at this;cases this]
 | true=>
 refine Qq ?_;refine(kv p.order 2 10 st).q ?_;cases a6:(decide ((2:Int)<=p.order)&&decide (p.order<=10)) with
 | false=>
  refine Qq ?_;rw[no fun e=>by have:=(parts.1 e).2.2.2.2.2.2.2.2.2.2;rw[q_h this.1,q_h this.2.1] at a6;cases a6]
 | true=>
 simp only[q_i,BN] at a6;refine Qq ?_;refine(kv p.budget 1 4096 st).Q ?_;refine B4 (fun b=>PV.sc (.bool b)) ?_;rw[E3,parts];simp only[q_i,BN];exact⟨fun h=>⟨q1,q2,q3,a1.1,a2.1,a3.1,a1.2,a3.2,oG,a5,a6.1,a6.2,h.1,h.2⟩,fun h=>h.2.2.2.2.2.2.2.2.2.2.2.2⟩
theorem Ei (x a b:Nm)(st:Qc)(hx:wN x)(ha:wN a)(hb:wN b):PR 46 [.agg (Qf x),.agg (Qf a),.agg (Qf b)] st (.sc (.bool (Qg x&&decide (Q6 a x<=0)&&decide (Q6 x b<=0)))):=by
 have v1:=J9 hx;have v2:=J9 ha;have v3:=J9 hb;refine Ql Tryz.func46 fun E=> ?_;refine(XY x st oG).q ?_;cases h:Qg x with
 | false=>simp-dsimp only[go_sem];try rfl
 | true=>
 refine Qq ?_;refine(VW a x st oG oG).q ?_;cases h2:decide (Q6 a x<=0) with
 | false=>simp-dsimp only[go_sem,h2];try rfl
 | true=>
 simp-dsimp only[go_sem,h2];refine(VW x b st oG oG).q ?_;simp-dsimp only[go_sem]
 try rfl
theorem W0i {t:Nm}(h:Qg t=true):decide (Q6 default t<=0)= !t.neg:=by
 have h1:=Gd XW h;rw[Kw] at h1;have h2:=jG t;unfold QT at h2;cases hn:t.neg with
 | false=>
  refine q_h (h1.2 (Rat.not_lt.1 fun e=> ?_));have:=h2.2 e;rw[hn] at this;split at this;omega;simp at this
 | true=>
  refine q_g fun e=> ?_;have h3:=h1.1 e;have hw: ¬Qd t.w=0:=fun e2=>by have e3:=(Wp h).1 e2;unfold Qg at h;rw[BC e3,hn] at h;cases h
  have:=h2.1 (by rw[BA hw,hn];decide);grind
theorem HX (p:Pb)(s:Sx)(st:Qc)(wp:wPb p)(ws:wSx s):PR 13 [.agg (Zq p),.agg (Zw s)] st (.sc (.bool (Xo p s))):=by
 have hp:=Si p;obtain⟨wf,wb,w1,w2,w3⟩:=wp;obtain⟨wt,wh,wm⟩:=ws;have wbl:=wb.1;have wml:=wm.1.1;have no: ¬Xo p s=true->Xo p s=false:=fun h=>(by simpa using h);have parts:=rightSt_parts (p:=p) (s:=s);refine Qh none Tryz.func13 rfl fun E=>Qe (Qb ?_);refine Qq ?_;refine Qa ?_;refine(hp st ⟨wf,wb,w1,w2,w3⟩).q ?_;cases q1:Ji p with
 | false=>
  refine Qq ?_;rw[no fun e=>by have:=(parts.1 e).1;rw[q1] at this;cases this]
 | true=>
 by_cases q2:s.idx<0;have d2:decide (s.idx<0)=true:=q_h q2;simp-dsimp only[go_sem,d2];rw[no fun e=>by have:=(parts.1 e).2.1;omega];have d2:decide (s.idx<0)=false:=q_g q2;by_cases q3:s.idx>p.budget;have d3:decide (s.idx>p.budget)=true:=q_h q3;simp-dsimp only[go_sem,d2,d3];rw[no fun e=>by have:=(parts.1 e).2.2.1;omega];have d3:decide (s.idx>p.budget)=false:=q_g q3;simp-dsimp only[go_sem,d2,d3];have wd:wN (default:Nm):=Q9 XW;refine(Ei s.t default p.until' st wt wd w1).q ?_;cases q4:(Qg s.t&&decide (Q6 default s.t<=0)&&decide (Q6 s.t p.until'<=0)) with
 | false=>
  refine Qq ?_;rw[no fun e=>by have:=(parts.1 e).2.2.2.1;rw[W0i this.1,this.1,this.2.1,q_h this.2.2] at q4;cases q4]
 | true=>
 simp only[q_i] at q4;rw[W0i q4.1.1,EK,BN] at q4;refine Qq ?_;refine(Ei s.h p.least p.most st wh w3 w2).q ?_;cases q5:(Qg s.h&&decide (Q6 p.least s.h<=0)&&decide (Q6 s.h p.most<=0)) with
 | false=>
  refine Qq ?_;rw[no fun e=>by have:=(parts.1 e).2.2.2.2.1;rw[this.1,q_h this.2.1,q_h this.2.2] at q5;cases q5]
 | true=>
 simp only[q_i,BN] at q5;refine Qq ?_;refine Qp ?_;refine(w6 s.f st wm).q ?_;cases q6:Z4 s.f with
 | false=>
  refine Qq ?_;rw[no fun e=>by have:=(parts.1 e).2.2.2.2.2.1;rw[q6] at this;cases this]
 | true=>
 refine Qq ?_;refine B4 (fun b=>PV.sc (.bool b)) ?_;rw[E3,parts,FL];exact⟨fun h=>⟨q1,oG,oG,⟨q4.1.1,q4.1.2,q4.2⟩,⟨q5.1.1,q5.1.2,q5.2⟩,q6,oG⟩,fun h=>by have:=h.2.2.2.2.2.2;omega⟩
theorem zg (p:Pb)(s:Sx)(st:Qc)(wp:wPb p)(ws:wSx s):PR 17 [.agg (Zq p),.agg (Zw s)] st (.sc (.bool (JX p s))):=by
 have hr:=HX p s st wp ws;obtain⟨wf,wb,w1,w2,w3⟩:=wp;obtain⟨wt,wh,wm⟩:=ws;have v1:=J9 w1;have v2:=J9 wt;refine Ql Tryz.func17 fun E=> ?_;refine hr.q ?_;unfold JX;cases q:Xo p s with
 | false=>simp-dsimp only[go_sem];try rfl
 | true=>
 refine Qq ?_;refine(VW s.t p.until' st oG oG).Q ?_;rfl
theorem Ed (a b:Sx)(st:Qc)(ha:wSx a)(hb:wSx b):PR 15 [.agg (Zw a),.agg (Zw b)] st (.sc (.bool (decide (a=b)))):=by obtain⟨a1,a2,a3⟩:=ha;obtain⟨b1,b2,b3⟩:=hb;refine Qh none Tryz.func15 rfl fun E=>Qb ?_;have no: ¬a=b->decide (a=b)=false:=q_g;by_cases h1:a.idx=b.idx;rotate_left;have d1:(a.idx==b.idx)=false:=CL.2 h1;simp-dsimp only[go_sem,d1];rw[no fun e=>h1 (by rw[e])];have d1:(b.idx==b.idx)=true:=EF _;simp-dsimp only[go_sem,h1,d1];refine(zW a.t b.t st a1 b1).q ?_;by_cases h2:a.t=b.t;rotate_left;rw[q_g h2,no fun e=>h2 (by rw[e])];exact QA;rw[q_h h2];refine Qq ?_;refine(zW a.h b.h st a2 b2).q ?_;by_cases h3:a.h=b.h;rotate_left;rw[q_g h3,no fun e=>h3 (by rw[e])];exact QA;rw[q_h h3];refine Qq ?_;refine(q1s a.f b.f st a3 b3).Q ?_;refine B4 (fun b=>PV.sc (.bool b)) ?_;exact FD.2 ⟨fun h=>sx_eq.2 ⟨h1,h2,h3,h⟩,fun h=>by rw[h]⟩
theorem j0t (p:Pb)(st:Qc)(wp:wPb p):PR 20 [.agg (Zq p)] st (.tup [.agg (Zw (Vp p).1),.sc (.int .i64 (Vp p).2)]):=by
 have hr:=Si p st wp;obtain⟨wf,wb,w1,w2,w3⟩:=wp;refine Qh none Tryz.func20 rfl fun E=>Qe (Qb ?_);refine Qq ?_;refine Qa ?_;refine hr.q ?_;unfold Vp;cases q:Ji p with
 | false=>
  rw[BA Bool.false_ne_true];refine Qq ?_;rfl
 | true=>
 rw[BC rfl];refine Qq ?_;refine Qa ?_;refine(q1u p.box p.prec st wb).Q ?_;refine Qe (Qb ?_);by_cases h1:(X6 p.box p.prec).2=0;rotate_left;have d1:((X6 p.box p.prec).2 !=0)=true:=BV.2 h1;rw[BC h1];simp-dsimp only[go_sem,d1];rfl;have d1:((X6 p.box p.prec).2 !=0)=false:=(by rw[h1];rfl);rw[BA (fun e=>e h1)];simp-dsimp only[go_sem,d1];refine Qe ?_;refine Q8 28 (Qk [0,1,4] (.step 2 [4] (Qk [3,5,6,7] .done))) ?_;refine Qq ?_;refine(Ki p.most st w2).Q ?_;refine Qb ?_;simp-dsimp only[go_sem]
 try rfl
def KQ (t:Sz):List PV:= [.sc (.bool t.h.neg),.sc (.int .i64 t.h.exp),.sl .no (Qo t.h.w),.sl .no (Qj t.a),.sc (.bool t.first)]
attribute [go_sem] KQ
theorem qE (x:Nm)(k:Int):wN (QQ x k).1:=Q9 (WU x k)
theorem j0q (K:Nat)(p:Pb)(s:Sx)(x:Li)(st:Qc)(wp:wPb p)(ws:wSx s)(wx:wB x)(hr:Qg p.least=true)(h0:0<qN p.least)(hK:qN s.h<qN p.least*p2 (K:Int))(hrh:Qg s.h=true):
 PR 38 [.agg (Zq p),.agg (Zw s),.sl .no (Qj x)] st (.tup [.agg (KQ (Kb (K+1) p s x).1),.sc (.int .i64 (Kb (K+1) p s x).2)]):=by
 obtain⟨wf,wb,w1,w2,w3⟩:=wp;obtain⟨wt,wh,wm⟩:=ws;have v2:=J9 wh;have v3:=J9 w3;have c0:=K1t p.until' s.t st w1 wt;have hx0:qN (YE p s)<qN p.least*p2 (K:Int):=by unfold YE;split;exact hK;rename_i h;have:=Rat.not_lt.1 fun e=>h ((IW hrh (HW 1 p.until' s.t)).2 e);grind
 have wfh:wN (YE p s):=by unfold YE;split;exact wh;exact Q9 (HW 1 p.until' s.t)
 have hfi:YE p s=if Q6 s.h (XC 1 p.until' s.t).1<0 then s.h else(XC 1 p.until' s.t).1:=rfl;have wl:wN (XC 1 p.until' s.t).1:=Q9 (HW 1 p.until' s.t);unfold Kb;generalize YE p s=h0' at*
 generalize XC 1 p.until' s.t=D at*
 generalize hRES:Ur p x (K+1) h0' true=RES;refine Qh none Tryz.func38 rfl fun E=>Qe (Qb ?_);refine Qq ?_;refine zD (Qe (Qb ?_));refine Qq ?_;refine c0.Q ?_;refine Qa ?_;by_cases h1:D.2=0;rotate_left;have d1:(D.2 !=0)=true:=BV.2 h1;rw[BC h1];simp-dsimp only[go_sem,d1];rfl;have d1:(D.2 !=0)=false:=(by rw[h1];rfl);rw[BA (fun e=>e h1)];simp-dsimp only[go_sem,d1];have wll:=J9 wl;refine Ky [false,false,true,true,false,false,true,false,true] 4 0 (fun z=>z=⟨[.junk,.junk,.sl .no (Qj x),.lp 0 0,.junk,.junk,.lp 2 0,.junk,.lp 3 0]++jk 59,[Zq p,Zw s,[.sc (.bool false),.sc (.int .i64 0),.sl .full [],.sl .full [],.sc (.bool false)],Qf h0'],[],st⟩) ?_ ?_;refine Qq ?_;refine(VW s.h D.1 _ oG oG).Q ?_;refine ck ?_ ?_<;>intro h;have hc:=q_b h;have hfi:=hfi.trans (BC hc);subst hfi;refine Qq ?_;refine(Ki s.h _ wh).Q0;have hc:=q_c h;have hfi:=hfi.trans (BA hc);subst hfi;exact QA;rintro z rfl;clear hfi c0;refine Qa ?_;refine Qa ?_;refine Va 4 ?_;refine Qq ?_;refine Qp ?_;refine Q1 [false,false,true,true,false,false,true,false,false,false,true] 5 0
  (fun c z=> ∃(h:Nm) (l:Li) (b:Bool),c<=K/\wN h/\qN h<qN p.least*p2 (c:Int)/\RES=Ur p x (c+1) h b/\
   z=⟨[.junk,.junk,.sl .no (Qj x),.lp 0 0,.junk,.junk,.lp 2 0,.junk,.junk,.junk,.lp 4 0]++jk 57,[Zq p,Zw s,[.sc (.bool false),.sc (.int .i64 0),.sl .full [],.sl .full [],.sc (.bool false)],Qf h0',KQ ⟨h,l,b⟩],[],st⟩) K ?_ ?_
 refine Qq ?_;exact⟨h0',[],true,wfh,hx0,hRES.symm,rfl⟩;rintro c z ⟨h,l,b,hc,wh2,hq,hs,rfl⟩;have wh3:=J9 wh2;rw[Ur] at hs;refine Qq ?_;refine(X1u p.fld x h p.prec _ wf wx wh2).Q ?_;cases hf:(VE p.fld x h p.prec).2 with
 | true=>
  rw[BC hf] at hs;refine Qq ?_;refine Qp ?_;rw[hs]
  try rfl
 | false=>
 rw[BA (by rw[hf];decide)] at hs;refine Qq ?_;refine(UA h (-1) _ wh2).q ?_;have wsc:=qE h (-1);have hhq:=J0r (h:=h);have hsr:=WU h (-1);generalize QQ h (-1)=W at*
 refine Qq ?_;by_cases h2:W.2=0;rotate_left;have d2:(W.2 !=0)=true:=BV.2 h2;rw[BC h2] at hs;rw[hs];simp-dsimp only[go_sem,d2];rfl;have d2:(W.2 !=0)=false:=(by rw[h2];rfl);rw[BA (fun e=>e h2)] at hs;simp-dsimp only[go_sem,d2];have wsl:=J9 wsc;refine(VW W.1 p.least _ oG oG).q ?_;by_cases h3:Q6 W.1 p.least<0;have d3:decide (Q6 W.1 p.least<0)=true:=q_h h3;rw[BC h3] at hs;rw[hs];simp-dsimp only[go_sem,d3];rfl;have d3:decide (Q6 W.1 p.least<0)=false:=q_g h3;rw[BA h3] at hs;have hge:=Rat.not_lt.1 fun e=>h3 ((IW hsr hr).2 e);have hhq:=hhq h2;cases c with
 | zero=>
  exfalso;rw[show((0:Nat):Int)=0 from rfl,kF] at hq;grind
 | succ c=>
 simp-dsimp only[go_sem,d3];refine⟨c,Nat.lt_succ_self c,W.1,(VE p.fld x h p.prec).1,false,oG,wsc,?_,hs,rfl⟩;rw[show((c+1:Nat):Int)=(c:Int)+1 from rfl,J1d] at hq;grind
def wSz (t:Sz):Prop:=wN t.h/\wB t.a
theorem j0o (p:Pb)(t:Sz)(st:Qc)(wp:wPb p)(wt:wSz t):
 PR 79 [.agg (Zq p),.agg (KQ t)] st (.tup [.agg (Qf (Yr p t).1),.sc (.int .i64 (Yr p t).2)]):=by
 obtain⟨wf,wb,w1,w2,w3⟩:=wp;have v2:=J9 w2;have v3:=J9 w3;obtain⟨wh,wa⟩:=wt;have ws:=qE t.h 1;have cs:=UA t.h 1 st wh;have hW:Yr p t=if t.first=true/\(QQ t.h 1).2≠0 then(default,(QQ t.h 1).2) else(Wr p (if t.first=true then(QQ t.h 1).1 else t.h),0):=by unfold Yr;split;rename_i e;split;rename_i e2;rw[BC ⟨e,e2⟩];rename_i e2;rw[BA fun h=>e2 h.2];rename_i e;rw[BA fun h=>e h.1]
 rw[hW];clear hW;generalize QQ t.h 1=W at*
 refine Qh none Tryz.func79 rfl fun E=>Qe (Qb ?_);refine Qq ?_;refine Qa ?_;refine Ky [false,false,true,false,true,false,true] 4 0 (fun z=> ¬(t.first=true/\W.2≠0)/\z=⟨[.junk,.junk,.lp 0 0,.junk,.lp 2 0,.junk,.lp 3 0]++jk 35,[Zq p,KQ t,[.sc (.bool false),.sc (.int .i64 0),.sl .full []],Qf (if t.first=true then W.1 else t.h)],[],st⟩) ?_ ?_
 . cases hf:t.first with
   | false=>
    simp-dsimp only[go_sem,hf];exact fun h=>h.1.elim
   | true=>
   simp-dsimp only[go_sem,hf];refine cs.q ?_;by_cases h2:W.2=0;rotate_left;have d2:(W.2 !=0)=true:=BV.2 h2;simp-dsimp only[go_sem,d2];rw[BC h2];rfl;have d2:(W.2 !=0)=false:=(by rw[h2];rfl);simp-dsimp only[go_sem,d2];exact⟨fun h=>h h2,by rw[hf]⟩
 rintro z ⟨hn,rfl⟩;rw[BA hn];have wx:wN (if t.first=true then W.1 else t.h):=by split;exact ws;exact wh
 generalize (if t.first=true then W.1 else t.h)=x at*
 have v4:=J9 wx;refine Ky [false,false,false,false,true,false,true] 4 0 (fun z=>z=⟨[.junk,.junk,.junk,.junk,.lp 2 0,.junk,.lp 3 0]++jk 35,[Zq p,KQ t,[.sc (.bool false),.sc (.int .i64 0),.sl .full []],Qf (Wr p x)],[],st⟩) ?_ ?_;refine Qq ?_;refine(VW x p.least _ oG oG).q ?_;unfold Wr;by_cases h3:Q6 x p.least<0;have d3:decide (Q6 x p.least<0)=true:=q_h h3;rw[BC h3];simp-dsimp only[go_sem,d3];have d3:decide (Q6 x p.least<0)=false:=q_g h3;rw[BA h3];simp-dsimp only[go_sem,d3];refine(VW x p.most _ oG oG).q ?_;by_cases h4:0<Q6 x p.most;have d4:decide (Q6 x p.most>0)=true:=q_h h4;rw[BC h4];simp-dsimp only[go_sem,d4];have d4:decide (Q6 x p.most>0)=false:=q_g h4;rw[BA h4];simp-dsimp only[go_sem,d4];rintro z rfl;have wc:wN (Wr p x):=by unfold Wr;split;exact w3;split;exact w2;exact wx
 refine Qp ?_;refine(Ki (Wr p x) _ wc).q ?_;simp-dsimp only[go_sem]
 try rfl
end Go.Pv
end
