/- Parts of the walk: N34, N35, N36, N37, N38, N39, N40, N41, N42, N43, M39, M40, N44, M41. -/
import Derived.Test.YtldalepagmhnmaaGreatDoorZAQ
import Derived.Test.YtldalepagmhnmaaGreatDoorZAM
set_option linter.unusedVariables false
set_option linter.unusedSimpArgs false
section
set_option maxRecDepth 100000
namespace Go.Pv
open Go.Proofs
theorem w0m (n:Nat)(st:Q0f)(hn:n<9223372036854775808):PCalls Tryz.prog 124 [.sc (.int .i64 n)] st (fun r st'=>r= .agg (encN (mkX false [UInt64.ofNat n] 0).1)/\st'=st):=by
 have g1:decide ((n:Int)<0)=false:=q_g (by omega);have g2:IntKind.u64.wrap (n:Int)=n:=Y0n n (by omega);have g3: [PV.sc (.int .u64 n)]=encW [UInt64.ofNat n]:=by simp only[encW,List.map_cons,List.map_nil];rw[UInt64.toNat_ofNat_of_lt' (show n<UInt64.size by unfold UInt64.size;omega)]
 refine Q0b none Tryz.func124 rfl fun E=>Q0a ?_;simp-dsimp only[go_sem,g1,g2];rw[g3];refine(K1c false _ 0 _ (by simp) (by omega) (by omega)).mono ?_;rintro r st ⟨rfl,rfl⟩;simp-dsimp only[go_sem]
theorem y2g :(mkX false [1] 0).1=oneN:=by decide+kernel
theorem H2l (st:Q0f):PCalls Tryz.prog 124 [.sc (.int .i64 1)] st (fun r st'=>r= .agg (encN oneN)/\st'=st):=by have:=w0m 1 st (by omega);rw[show UInt64.ofNat 1=1 from rfl,y2g] at this;exact this
theorem Q3c (i j:Nat)(st:Q0f):PCalls Tryz.prog 123 ([.sc (.int .i64 i),.sc (.int .i64 j)]++ []) st (fun r st'=>r= .tup [.agg (encI (if i=j then⟨oneN,oneN⟩ else default)),.sc (.int .i64 0)]/\st'=st):=by refine Q0b none Tryz.func123 rfl fun E=>Q0a ?_;by_cases h:i=j;have f1:((i:Int)==(j:Int))=true:=(by rw[h];simp);rw[if_pos h];simp-dsimp only[go_sem,f1];refine(H2l _).mono ?_;rintro r st ⟨rfl,rfl⟩;simp-dsimp only[go_sem];refine(Y1i oneN _ (by unfold wN;decide)).mono ?_;rintro r st ⟨rfl,rfl⟩;simp-dsimp only[go_sem];have f1:((i:Int)==(j:Int))=false:=(by rw[beq_eq_false_iff_ne];omega);rw[if_neg h];simp-dsimp only[go_sem,f1];rfl
theorem Z3a {n:Nat}(h1:1<=n)(h4:n<=4):j0x (fun i j=>((if i=j then⟨oneN,oneN⟩ else default:Ivl),0)) n=(idM (n:Int),0):=by have:n=1\/n=2\/n=3\/n=4:=(by omega);rcases this with rfl | rfl | rfl | rfl<;>decide+kernel
theorem U3t (n:Int)(st:Q0f):PCalls Tryz.prog 54 [.sc (.int .i64 n)] st (fun r st'=>r= .sl .no (encM (idM n))/\st'=st):=by refine Q0b none Tryz.func54 rfl fun E=>Q0a ?_;by_cases h1:n<1;have f1:decide (n<1)=true:=q_h h1;simp-dsimp only[go_sem,f1];rw[idM,if_neg (by omega)];rfl;have f1:decide (n<1)=false:=q_g h1;by_cases h4:n>4;have f2:decide (n>4)=true:=q_h h4;simp-dsimp only[go_sem,f1,f2];rw[idM,if_neg (by omega)];rfl;have f2:decide (n>4)=false:=q_g h4;obtain⟨k,rfl⟩:=Int.eq_ofNat_of_zero_le (show 0<=n by omega);simp-dsimp only[go_sem,f1,f2];refine(k0v _ [] (fun i j=>((if i=j then⟨oneN,oneN⟩ else default:Ivl),0)) k st rfl (by omega) rfl rfl rfl rfl (fun _=>rfl) fun i j hi hj=>Q3c i j st).mono ?_;rintro r st ⟨rfl,rfl⟩;rw[Z3a (by omega) (by omega)];simp-dsimp only[go_sem]
theorem w1n (a b:List UInt64)(st:Q0f)(ha:a.length<=100000000000)(hb:b.length<=100000000000):PCalls Tryz.prog 61 [.sl .no (encW a),.sl .no (encW b)] st (fun r st'=>r= .sc (.bool (decide (a=b)))/\st'=st):=by
 refine Q0b none Tryz.func61 rfl fun E=>Q0a ?_;simp-dsimp only[go_sem];refine ck (fun h0=> ?_) (fun h0=> ?_);have hne:=z1r h0;simp-dsimp only[go_sem];rw[q_g (fun e=>hne (by rw[e]))];have hl:=K1d h0;simp-dsimp only[go_sem];refine Q0d [true,true,false,false,false,true] 0 0 (fun n s=> ∃i,n=a.length-i/\i<=a.length/\(∀j,j<i->a.getD j 0=b.getD j 0)/\s=⟨[.sl .no (encW a),.sl .no (encW b),.junk,.junk,.junk,.sc (.int .i64 (i:Nat))]++List.replicate 20 .junk,[],[],st⟩) a.length ?_ ?_;simp-dsimp only[go_sem];exact⟨0,by omega,by omega,fun j hj=>by omega,rfl⟩;rintro n s ⟨i,rfl,hi,hr,rfl⟩;simp-dsimp only[go_sem];refine ck (fun h'=> ?_) (fun h'=> ?_);have hlt:i<a.length:=(by have:=q_b h';omega);have e1:=Z0j a i hlt;have e2:=Z0j b i (by omega);have e3:=J0n i (by omega);simp-dsimp only[go_sem];refine Q0o Z0m 26 (.step 0 [] (.step 1 [] (.step 2 [] (.step 3 [] (.step 4 [] (.step 5 [] (.step 6 [] (.step 7 [] (.step 8 [] (.done)))))))))) (by decide+kernel) (by simp) ?_;simp-dsimp only[go_sem,e1,e2];refine⟨by omega,by omega,?_⟩;refine ck (fun h2=> ?_) (fun h2=> ?_);have hf:a.getD i 0≠b.getD i 0:=(by intro e;rw[e] at h2;simp at h2);simp-dsimp only[go_sem];rw[q_g (fun e=>hf (by rw[e]))];have ht:a.getD i 0=b.getD i 0:=by have:=K1d h2;exact UInt64.toNat_inj.1 this
 simp-dsimp only[go_sem,e3];refine⟨a.length-(i+1),by omega,i+1,rfl,by omega,fun j hj=> ?_,rfl⟩;by_cases e:j=i;subst e;exact ht;exact hr j (by omega);have hge:i=a.length:=(by have:=q_c h';omega);simp-dsimp only[go_sem];refine Q0a ?_;simp-dsimp only[go_sem];rw[q_h (Q1r 0 hl fun j hj=>hr j (by omega))]
theorem Z2f (f:PV->PV)(l:List PV)(o:Nat)(r:List PV):(over l o r).map f=over (l.map f) o (r.map f):=by simp[over,List.map_take,List.map_drop]
theorem Q2u (f:PV->PV)(n:Nat)(z:List PV):(repC n z).map f=repC n (z.map f):=by unfold repC;rw[List.map_flatten,List.map_replicate]
theorem z2j {l r:List PV}{o:Nat}(h1:fzOK l=true)(h2:fzOK r=true):fzOK (over l o r)=true:=by
 unfold fzOK at*
 rw[q_d] at*
 intro p hp;simp only[over,List.mem_append] at hp;rcases hp with (hp | hp) | hp;exact h1 p (List.mem_of_mem_take hp);exact h2 p hp;exact h1 p (List.mem_of_mem_drop hp)
theorem z2i {n:Nat}{z:List PV}(h:fzOK z=true):fzOK (repC n z)=true:=by
 unfold fzOK at*
 rw[q_d] at*
 intro p hp;simp only[repC,List.mem_flatten,List.mem_replicate] at hp;obtain⟨l,⟨_,rfl⟩,hp⟩:=hp;exact h p hp
theorem x3w {m:Mx}(h1:m.length<=100000000000)(h2: ∀r∈m,wB r):wM m:=⟨h1,fun i hi=>h2 _ (Q0t _ _ _ hi)⟩
theorem x3z {b:List Ivl}(h1:b.length<=100000000000)(h2: ∀x∈b,wI x):wB b:=⟨h1,fun i hi=>h2 _ (Q0t _ _ _ hi)⟩
theorem W3z {G:Nat->Ivl×Int}{n:Nat}(hn:n<=100000)(h: ∀i,wI (G i).1):wB (tabF G 0 n []).1:=by refine x3z ?_ (H0b wI n 0 [] (fun i _ _=>h i) (fun x hx=>by cases hx));have:=j0a (G:=G) n 0 [];simp at this;omega
theorem X2b {G:Nat->Nat->Ivl×Int}{n:Nat}(hn:n<=100000)(h: ∀i j,wI (G i j).1):wM (j0x G n).1:=by refine x3w ?_ (H0b wB n 0 [] (fun i _ _=>W3z hn (h i)) (fun x hx=>by cases hx));have:=j0a (G:=fun i=>tabF (fun j=>G i j) 0 n []) n 0 [];simp at this;unfold j0x;omega
theorem Q2e :wM []:=⟨by simp,fun i hi=>by simp at hi⟩
theorem k3n (k:Nat)(a b:Mx)(p:Int):wM (opM k a b p).1:=by unfold opM;split;rename_i h;have:=U0q h.1;exact X2b (by omega) fun i j=>K0p (X0q _ _ _ _);exact Q2e
theorem Y2j (x:Ivl)(a:Mx)(p:Int):wM (H0a x a p).1:=by unfold H0a;split;rename_i h;have:=U0q h.1;exact X2b (by omega) fun i j=>K0p (X0q _ _ _ _);exact Q2e
def luQ (L U:Nat)(x:Rat):Prop:= ∃z:Int,x=qM z (-(L:Int))/\z.natAbs<=2^(L+U)
theorem z0c (L U:Nat):luQ L U 0:=⟨0,(K0h _).symm,Nat.zero_le _⟩
theorem luQ.up {L U U':Nat}{x:Rat}(h:luQ L U x)(hu:U<=U'):luQ L U' x:=by obtain⟨z,h1,h2⟩:=h;exact⟨z,h1,Nat.le_trans h2 (Nat.pow_le_pow_right (by omega) (by omega))⟩
theorem luQ.down {L L' U:Nat}{x:Rat}(h:luQ L U x)(hl:L<=L'):luQ L' U x:=by obtain⟨z,h1,h2⟩:=h;refine⟨z*2^(L'-L),?_,?_⟩;rw[H0c,h1];congr 1;omega;have e:(z*2^(L'-L)).natAbs=z.natAbs*2^(L'-L):=(by rw[Int.natAbs_mul,Int.natAbs_pow];rfl);rw[e,show L'+U=(L+U)+(L'-L) from by omega,Nat.pow_add];exact Nat.mul_le_mul_right _ h2
theorem luQ.mono {L U L' U':Nat}{x:Rat}(h:luQ L U x)(hl:L<=L')(hu:U<=U'):luQ L' U' x:=(h.down hl).up hu
theorem U3u {L U:Nat}{x:Rat}(h:luQ L U x):luQ L U (-x):=by obtain⟨z,h1,h2⟩:=h;exact⟨-z,by rw[z1a,h1],by rw[Int.natAbs_neg];exact h2⟩
theorem Q1l {L U:Nat}{x y:Rat}(hx:luQ L U x)(hy:luQ L U y):luQ L (U+1) (x+y):=by obtain⟨z,h1,h2⟩:=hx;obtain⟨w,h3,h4⟩:=hy;refine⟨z+w,by rw[z1b,h1,h3],?_⟩;have:=Int.natAbs_add_le z w;rw[show L+(U+1)=(L+U)+1 from by omega,Nat.pow_succ];omega
theorem q2b {L U:Nat}{x y:Rat}(hx:luQ L U x)(hy:luQ L U y):luQ L (U+1) (x-y):=by have:=Q1l hx (U3u hy);rwa [<-Rat.sub_eq_add_neg] at this
theorem x0j {L U L' U':Nat}{x y:Rat}(hx:luQ L U x)(hy:luQ L' U' y):luQ (L+L') (U+U') (x*y):=by obtain⟨z,h1,h2⟩:=hx;obtain⟨w,h3,h4⟩:=hy;refine⟨z*w,?_,?_⟩;rw[show(-((L+L':Nat):Int))= -(L:Int)+ -(L':Int) from by omega,Q2y,h1,h3];rw[Int.natAbs_mul,show L+L'+(U+U')=(L+U)+(L'+U') from by omega,Nat.pow_add];exact Nat.mul_le_mul h2 h4
theorem j0m (v:Vl):(X0i v).natAbs=v.m:=by unfold X0i;split<;>simp
theorem z1v {n k:Nat}{v:Vl}(h:bdV n k v):luQ k (n+k) (qV v):=by obtain⟨h1,h2,h3⟩:=h;have hm:=bitlen_le_iff.1 h1;refine⟨X0i v*2^(v.e+k).toNat,?_,?_⟩;rw[H0c];unfold qV;congr 1;omega;have e:(X0i v*2^(v.e+k).toNat).natAbs=v.m*2^(v.e+k).toNat:=(by rw[Int.natAbs_mul,Int.natAbs_pow,j0m];rfl);rw[e,show k+(n+k)=n+2*k from by omega,Nat.pow_add];exact Nat.mul_le_mul (Nat.le_of_lt hm) (Nat.pow_le_pow_right (by omega) (by omega))
theorem q2d {z:Int}{n:Nat}(h:z.natAbs<=2^n)(L:Nat):luQ L n (qM z 0):=by have:luQ 0 n (qM z 0):=⟨z,rfl,by rw[Nat.zero_add];exact h⟩;exact this.down (Nat.zero_le _)
theorem G1m {L U:Nat}{v:Vl}(hc:canV v)(h:luQ L U (qV v)):v.m=0\/(-(L:Int)<=v.e/\v.e+(Q0j v.m:Int)<=(U:Int)+1):=by
 rcases hc with hm | rfl;rotate_left;exact .inl rfl;refine .inr ?_;obtain⟨z,h1,h2⟩:=h;have hz:X0i v≠0:=fun e=>(by have:=j0m v;rw[e] at this;simp at this;omega);have hge: -(L:Int)<=v.e:=by
  apply Int.not_lt.1;intro hlt;obtain⟨d,hd⟩: ∃d:Nat, -(L:Int)=v.e+((d+1:Nat):Int):=⟨(-(L:Int)-v.e-1).toNat,by omega⟩;have e1:qM z (-(L:Int))=qM (z*2^(d+1)) v.e:=(by rw[H0c,hd]);have e2:X0i v=z*2^(d+1):=qM_eq.1 (h1.trans e1);have e3:v.m=z.natAbs*2^d*2:=by have:=j0m v;rw[e2,Int.natAbs_mul,Int.natAbs_pow,Nat.pow_succ] at this;rw[<-this,Nat.mul_assoc];rfl
  omega
 refine⟨hge,?_⟩;have e1:X0i v*2^(v.e+L).toNat=z:=by
  have:qM (X0i v*2^(v.e+L).toNat) (-(L:Int))=qM z (-(L:Int)):=by rw[H0c,<-h1];unfold qV;congr 1;omega
  exact qM_eq.1 this
 have e2:v.m*2^(v.e+L).toNat<=2^(L+U):=by
  have:(X0i v*2^(v.e+L).toNat).natAbs=v.m*2^(v.e+L).toNat:=by rw[Int.natAbs_mul,Int.natAbs_pow,j0m];rfl
  rw[<-this,e1];exact h2
 have e3:Q0j (v.m*2^(v.e+L).toNat)<=L+U+1:=bitlen_le_iff.2 (Nat.lt_of_le_of_lt e2 (Nat.pow_lt_pow_right (by omega) (by omega)));rw[W0b _ _ (by omega)] at e3;omega
theorem q2a {L U:Nat}{v:Vl}(hc:canV v)(h:luQ L U (qV v)):bdV (L+U+1) (L+U+1) v:=by rcases G1m hc h with h0 | ⟨h1,h2⟩;rcases hc with hm | rfl;omega;refine⟨?_,?_,?_⟩;show Q0j 0<=_;rw[J0l];omega;show -((L+U+1:Nat):Int)<=0;omega;show(0:Int)<=((L+U+1:Nat):Int);omega;exact⟨by omega,by omega,by omega⟩
theorem w0r {L U:Nat}{v:Vl}(hc:canV v)(h:luQ L U (qV v))(hb:L+U+1<=4096):(numV v).2=0:=z1q (q2a hc h) hb (by omega)
theorem w0k {m:Nat}(h:m≠0):2^(Q0j m-1)<=m:=by apply Nat.le_of_not_lt;intro hlt;have:=bitlen_le_iff.2 hlt;have:=q0o h;omega
theorem q0i {L U:Nat}{v:Vl}(hc:canV v)(h:luQ L U (qV v))(p:Nat)(hp:1<=p)(up:Bool):luQ L (U+1) (qV (Z0z v p up)):=by
 unfold Z0z;split;exact h.up (by omega);rename_i hlt;have h0:v.m≠0:=fun e=>(by rw[e,J0l] at hlt;omega);rcases G1m hc h with h1 | ⟨h1,h2⟩;exact absurd h1 h0;obtain⟨z,hz1,hz2⟩:=h;have e1:X0i v*2^(v.e+L).toNat=z:=by
  have:qM (X0i v*2^(v.e+L).toNat) (-(L:Int))=qM z (-(L:Int)):=by rw[H0c,<-hz1];unfold qV;congr 1;omega
  exact qM_eq.1 this
 have e2:v.m*2^(v.e+L).toNat<=2^(L+U):=by
  have:(X0i v*2^(v.e+L).toNat).natAbs=v.m*2^(v.e+L).toNat:=by rw[Int.natAbs_mul,Int.natAbs_pow,j0m];rfl
  rw[<-this,e1];exact hz2
 rw[z0n,j0g];generalize hd:Q0j v.m-p=d at*
 generalize hc':(if v.m % 2^d≠0/\up≠v.neg then 1 else 0)=c;have hcl:c<=1:=(by rw[<-hc'];split<;>omega);have hb1:(v.m/2^d+c)*2^d<=2*v.m:=by
  have a1:=Nat.div_mul_le_self v.m (2^d);have a2:2^d<=v.m:=Nat.le_trans (Nat.pow_le_pow_right (by omega) (by omega)) (w0k h0);have a3:c*2^d<=2^d:=by have:=Nat.mul_le_mul_right (2^d) hcl;omega
  rw[Nat.add_mul];omega
 refine⟨(if v.neg then -(((v.m/2^d+c)*2^d:Nat):Int) else(((v.m/2^d+c)*2^d:Nat):Int))*2^(v.e+L).toNat,?_,?_⟩;rw[H0c];congr 1;omega;have e3:((if v.neg then -(((v.m/2^d+c)*2^d:Nat):Int) else(((v.m/2^d+c)*2^d:Nat):Int))*2^(v.e+L).toNat).natAbs=(v.m/2^d+c)*2^d*2^(v.e+L).toNat:=by rw[Int.natAbs_mul,Int.natAbs_pow];generalize (v.m/2^d+c)*2^d=M;split;rw[Int.natAbs_neg];rfl;rfl
 rw[e3,show L+(U+1)=(L+U)+1 from by omega,Nat.pow_succ];have:=Nat.mul_le_mul_right (2^(v.e+L).toNat) hb1;rw[Nat.mul_assoc 2] at this;omega
def luI (L U:Nat)(a:Ivl):Prop:=Q0p a=true/\luQ L U (qN a.lo)/\luQ L U (qN a.hi)
theorem luI.mono {L U L' U':Nat}{a:Ivl}(h:luI L U a)(hl:L<=L')(hu:U<=U'):luI L' U' a:=⟨h.1,h.2.1.mono hl hu,h.2.2.mono hl hu⟩
theorem w0s (L U:Nat):luI L U default:=by have e:qN (default:Ivl).lo=0:=K0h 0;have e2:qN (default:Ivl).hi=0:=K0h 0;exact⟨by decide,by rw[e];exact z0c _ _,by rw[e2];exact z0c _ _⟩
theorem j3t {a:Ivl}(h:smI a):luI 12 18 a:=⟨h.1,z1v h.2.1,z1v h.2.2⟩
theorem J1s {p:Int}(h:Z0p p=true):1<=p.toNat:=by unfold Z0p at h;simp only[q_i,decide_eq_true_eq] at h;omega
theorem G1w {L U:Nat}{lo hi:Vl}(h1:canV lo)(h2:canV hi)(q1:luQ L U (qV lo))(q2:luQ L U (qV hi))(hb:L+U+1<=4096)(hle:qV lo<=qV hi):(U0j lo hi).2=0/\luI L U (U0j lo hi).1:=by have f1:=w0r h1 q1 hb;have f2:=w0r h2 q2 hb;have hr:=K1w h1 h2 hle;unfold U0j at hr⊢;rw[if_pos ⟨f1,f2⟩] at hr⊢;refine⟨rfl,hr,?_,?_⟩;rw[(K0z h1 f1).2];exact q1;rw[(K0z h2 f2).2];exact q2
theorem Q3f {L U L' U':Nat}{x y u v:Vl}(hx:luQ L U (qV x))(hy:luQ L U (qV y))(hu:luQ L' U' (qV u))(hv:luQ L' U' (qV v)):luQ (L+L') (U+U') (qV (W0r x y u v)):=by
 rcases j0n x y u v with h | h | h | h
 all_goals rw[h,x0e];exact x0j (by assumption) (by assumption)
theorem Q3g {L U L' U':Nat}{x y u v:Vl}(hx:luQ L U (qV x))(hy:luQ L U (qV y))(hu:luQ L' U' (qV u))(hv:luQ L' U' (qV v)):luQ (L+L') (U+U') (qV (z0p x y u v)):=by
 rcases Y1n x y u v with h | h | h | h
 all_goals rw[h];exact x0j (by assumption) (by assumption)
theorem H2a {k L U:Nat}{a b:Ivl}{p:Int}(hk:k<2)(ha:luI L U a)(hb:luI L U b)(hp:Z0p p=true)(hbd:L+U+3<=4096):(opI k a b p).2=0/\luI L (U+2) (opI k a b p).1:=by
 have ca:=canI ha.1;have cb:=canI hb.1;have pp:=J1s hp;have hlo:luQ L (U+1) (qV (loV k (ofN a.lo) (ofN a.hi) (ofN b.lo) (ofN b.hi))):=by unfold loV;split;rw[U0z];exact Q1l ha.2.1 hb.2.1;rw[if_pos (by omega),k0r];exact q2b ha.2.1 hb.2.2
 have hhi:luQ L (U+1) (qV (hiV k (ofN a.lo) (ofN a.hi) (ofN b.lo) (ofN b.hi))):=by unfold hiV;split;rw[U0z];exact Q1l ha.2.2 hb.2.2;rw[if_pos (by omega),k0r];exact q2b ha.2.2 hb.2.1
 have c1:=V1l k ca.1 ca.2 cb.1 cb.2;have c2:=V1n k ca.1 ca.2 cb.1 cb.2;unfold opI;rw[if_pos ⟨ha.1,hb.1,hp⟩];exact G1w (X0t c1 _ _) (X0t c2 _ _) (q0i c1 hlo _ pp _) (q0i c2 hhi _ pp _) (by omega) (U3x k ha.1 hb.1 _)
theorem G2z {L U L' U':Nat}{a b:Ivl}{p:Int}(ha:luI L U a)(hb:luI L' U' b)(hp:Z0p p=true)(hbd:L+L'+U+U'+2<=4096):(opI 2 a b p).2=0/\luI (L+L') (U+U'+1) (opI 2 a b p).1:=by have ca:=canI ha.1;have cb:=canI hb.1;have pp:=J1s hp;have hlo:luQ (L+L') (U+U') (qV (loV 2 (ofN a.lo) (ofN a.hi) (ofN b.lo) (ofN b.hi))):=Q3f ha.2.1 ha.2.2 hb.2.1 hb.2.2;have hhi:luQ (L+L') (U+U') (qV (hiV 2 (ofN a.lo) (ofN a.hi) (ofN b.lo) (ofN b.hi))):=Q3g ha.2.1 ha.2.2 hb.2.1 hb.2.2;have c1:=V1l 2 ca.1 ca.2 cb.1 cb.2;have c2:=V1n 2 ca.1 ca.2 cb.1 cb.2;unfold opI;rw[if_pos ⟨ha.1,hb.1,hp⟩];exact G1w (X0t c1 _ _) (X0t c2 _ _) (q0i c1 hlo _ pp _) (q0i c2 hhi _ pp _) (by omega) (U3x 2 ha.1 hb.1 _)
def dotQ (X Y:Nat->Rat):Nat->Rat
 | 0=>0
 | n+1=>dotQ X Y n+X n*Y n
theorem K1f :memI 0 default:=by have e:qN (default:Ivl).lo=0:=K0h 0;have e2:qN (default:Ivl).hi=0:=K0h 0;exact⟨by rw[e];exact Rat.le_refl,by rw[e2];exact Rat.le_refl⟩
theorem X2f {x y:Nat->Ivl}{p:Int}{X Y:Nat->Rat} : ∀n,(dotF x y p n).2=0->(∀k,k<n->memI (X k) (x k)/\memI (Y k) (y k))->memI (dotQ X Y n) (dotF x y p n).1
 | 0,_,_=>K1f
 | n+1,h,hm=>by rw[dotF] at h⊢;by_cases c1:(dotF x y p n).2≠0;rw[if_pos c1] at h;exact absurd h c1;rw[if_neg c1] at h⊢;have c1:=Classical.not_not.1 c1;by_cases c2:(opI 2 (x n) (y n) p).2≠0;rw[if_pos c2] at h;exact absurd h c2;rw[if_neg c2] at h⊢;have c2:=Classical.not_not.1 c2;have ih:=X2f n c1 fun k hk=>hm k (by omega);have hp:=K1b 2 c2 (hm n (by omega)).1 (hm n (by omega)).2;rw[exQ2] at hp;by_cases c3:n=0;rw[if_pos c3] at h⊢;subst c3;show memI (0+X 0*Y 0) _;rw[Rat.zero_add];exact hp;rw[if_neg c3] at h⊢;by_cases c4:(opI 0 (dotF x y p n).1 (opI 2 (x n) (y n) p).1 p).2≠0;rw[if_pos c4] at h;exact absurd h c4;rw[if_neg c4] at h⊢;have:=K1b 0 h ih hp;rw[exQ0] at this;exact this
theorem Y4h {a:Ivl}{n:Nat}(ha:smI a)(hn:n<=8):Q0q (inN a n)=true/\memI (qN (inN a n)) a/\luQ 62 105 (qN (inN a n)):=by obtain⟨h1,h2,h3⟩:=Y4g ha hn;exact⟨h1,h2,z1v h3⟩
theorem K3k :qN oneN=1:=by have:qN oneN=qM 1 0:=rfl;rw[this];unfold qM;rw[J1y,Rat.intCast_one,Rat.mul_one]
theorem Z2v {n i j:Nat}(h1:1<=n)(h4:n<=4)(hi:i<n)(hj:j<n):(idM (n:Int)).length=n/\((idM (n:Int)).getD i []).length=n/\atM (idM (n:Int)) i j=if i=j then⟨oneN,oneN⟩ else default:=by
 have e:idM (n:Int)=(List.range n).map fun i=>(List.range n).map fun j=>if i=j then⟨oneN,oneN⟩ else default:=by rw[idM,if_pos (by omega)];rfl
 rw[e];have e2:((List.range n).map fun i=>(List.range n).map fun j=>if i=j then(⟨oneN,oneN⟩:Ivl) else default).getD i []=(List.range n).map fun j=>if i=j then(⟨oneN,oneN⟩:Ivl) else default:=(by simp[q_a,hi]);refine⟨by simp,by rw[e2];simp,?_⟩;unfold atM;rw[e2];simp[q_a,hj]
def y0e (i k:Nat):Rat:=if i=k then 1 else 0
theorem H2x {n i k:Nat}(h1:1<=n)(h4:n<=4)(hi:i<n)(hk:k<n):memI (y0e i k) (atM (idM (n:Int)) i k):=by rw[(Z2v h1 h4 hi hk).2.2];unfold y0e;split;exact⟨by show qN oneN<=1;rw[K3k];exact Rat.le_refl,by show 1<=qN oneN;rw[K3k];exact Rat.le_refl⟩;exact K1f
end Go.Pv
end
