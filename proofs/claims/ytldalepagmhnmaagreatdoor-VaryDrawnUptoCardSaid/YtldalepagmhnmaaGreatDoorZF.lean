/- Parts of the walk: F1, F2, F3, F4, F5, F6, F7, F8, F9. -/
import Derived.Test.YtldalepagmhnmaaGreatDoorZE
set_option linter.unusedVariables false
set_option linter.unusedSimpArgs false
section
set_option maxRecDepth 100000
namespace Go.Pv
open Go.Proofs
theorem U0k (l:List UInt64)(st:Q0f)(hl:l.length<=9223372036854775807):PCalls Tryz.prog 222 [.sl .no (encW l)] st (fun r st'=>r= .sl .no (encW (cutW l))/\st'=st):=by refine Q0b none Tryz.func222 rfl fun E=>Q0a ?_;simp-dsimp only[go_sem];refine Q0e [true,false,false,true] 0 0 (fun n s=>n<=l.length/\(∀j,n<=j->j<l.length->l.getD j 0=0)/\s=⟨[.sl .no (encW l),.junk,.junk,.sc (.int .i64 n)]++List.replicate 17 .junk,[],[],st⟩) l.length ?_ ?_;simp-dsimp only[go_sem];exact fun j h1 h2=>(by omega);rintro n s ⟨hn,hz,rfl⟩;have out:n=0\/l.getD (n-1) 0≠0->(PV.sl Tag.no (encW (l.take n))=PV.sl .no (encW (cutW l))):=fun h=>(by rw[v1l l n hn hz h]);rcases Nat.eq_zero_or_pos n with rfl | hp;have hd:decide (((0:Nat):Int)>0)=false:=(by simp);simp-dsimp only[go_sem,hd];refine Q0a ?_;simp-dsimp only[go_sem];exact⟨by omega,out (.inl rfl)⟩;have hd:decide ((n:Int)>0)=true:=q_h (by omega);have e1:IntKind.i64.wrap ((n:Int)-1)=((n-1:Nat):Int):=(by rw[Q0i _ (by omega) (by omega)];omega);have e2:=Z0f l (n-1) (by omega);simp-dsimp only[go_sem,hd,e1,e2];refine⟨by omega,ck (fun h=> ?_) (fun h=> ?_)⟩;simp-dsimp only[go_sem,e1];refine⟨n-1,by omega,by omega,fun j h1 h2=> ?_,rfl⟩;by_cases hj:j=n-1;subst hj;have h':((l.getD (n-1) 0).toNat:Int)=0:=(by simpa using h);exact UInt64.toNat.inj (by have:(0:UInt64).toNat=0:=rfl;omega);exact hz j (by omega) h2;simp-dsimp only[go_sem];refine Q0a ?_;simp-dsimp only[go_sem];refine⟨by omega,out (.inr fun e=> ?_)⟩;rw[e] at h;cases h
--nat.Right
theorem X2z (l:List UInt64)(st:Q0f)(hl:l.length<=9223372036854775807):PCalls Tryz.prog 158 [.sl .no (encW l)] st (fun r st'=>r= .sc (.bool (decide ((cutW l).length=l.length)))/\st'=st):=by refine Q0b none Tryz.func158 rfl fun E=>Q0a ?_;simp-dsimp only[go_sem];refine(U0k l st hl).mono ?_;rintro r st ⟨rfl,rfl⟩;simp-dsimp only[go_sem];exact congrArg (fun b=>PV.sc (.bool b)) (by by_cases h:(cutW l).length=l.length;rw[q_h h,h];simp;rw[q_g h];simp;omega)
theorem Y1x (n:Nat)(h:n<18446744073709551616):bAnd .u64 (n:Int) 1=((n % 2:Nat):Int):=by
 unfold bAnd;have e:(BitVec.ofInt IntKind.u64.bits (n:Int)&&&BitVec.ofInt IntKind.u64.bits 1).toNat=n % 2:=by have e1:BitVec.ofInt IntKind.u64.bits (n:Int)=BitVec.ofNat 64 n:=(by simp[IntKind.bits]);have e2:BitVec.ofInt IntKind.u64.bits 1=BitVec.ofNat 64 1:=rfl;rw[e1,e2];show(BitVec.ofNat 64 n&&&BitVec.ofNat 64 1).toNat=n % 2;rw[BitVec.toNat_and,BitVec.toNat_ofNat,BitVec.toNat_ofNat,Nat.mod_eq_of_lt (by omega:n<2^64)];exact Nat.and_one_is_mod n
 rw[e];exact K0e _ (by omega)
theorem W0s (x:Nm)(st:Q0f)(hl:x.w.length<=9223372036854775807):PCalls Tryz.prog 78 [.agg (encN x)] st (fun r st'=>r= .sc (.bool (Q0r x))/\st'=st):=by
 refine Q0b none Tryz.func78 rfl fun E=>Q0a ?_;simp-dsimp only[go_sem];have hlen:(((x.w.length:Nat):Int)==0)=decide (x.w= []):=by
  cases hw:x.w<;>simp
  omega
 refine ck (fun h=> ?_) (fun h=> ?_);have hw:x.w= []:=(by rw[hlen] at h;exact q_b h);simp-dsimp only[go_sem,h];refine gkT (fun h1=> ?_) (fun h1=> ?_);simp-dsimp only[go_sem,h,h1];simp[Q0r,hw,h1];simp-dsimp only[go_sem,h,h1];simp[Q0r,hw,h1]
 . have hw:x.w≠ []:=by rw[hlen] at h;exact q_c h
   simp-dsimp only[go_sem,h];refine(X2z x.w st hl).mono ?_;rintro r st ⟨rfl,rfl⟩;simp-dsimp only[go_sem,h];have e0:=Z0f x.w 0 (by cases hx:x.w with | nil=>exact absurd hx hw | cons=>simp);have e1:=Y1x (x.w.getD 0 0).toNat (x.w.getD 0 0).toNat_lt;have hpos:0<x.w.length:=List.length_pos_iff.2 hw
   repeat' (first
    | (refine gkF (fun h=> ?_) (fun h=> ?_)<;>simp-dsimp only[go_sem,h,e0,e1])
    | (refine gkT (fun h=> ?_) (fun h=> ?_)<;>simp-dsimp only[go_sem,h,e0,e1])
    | (refine ck (fun h=> ?_) (fun h=> ?_)<;>simp-dsimp only[go_sem,h,e0,e1])
    | refine And.intro (by omega) ?_)
   all_goals simp_all [Q0r]
   all_goals omega
theorem Y0m (x:Nm)(st:Q0f)(hl:x.w.length<=9223372036854775807):PCalls Tryz.prog 110 [.agg (encN x)] st (fun r st'=>r= .sc (.bool (Q0r x))/\st'=st):=by
 refine Q0b none Tryz.func110 rfl fun E=>Q0a ?_;simp-dsimp only[go_sem];have hlen:(((x.w.length:Nat):Int)==0)=decide (x.w= []):=by
  cases hw:x.w<;>simp
  omega
 refine ck (fun h=> ?_) (fun h=> ?_);have hw:x.w= []:=(by rw[hlen] at h;exact q_b h);simp-dsimp only[go_sem,h];refine gkT (fun h1=> ?_) (fun h1=> ?_);simp-dsimp only[go_sem,h,h1];simp[Q0r,hw,h1];simp-dsimp only[go_sem,h,h1];simp[Q0r,hw,h1]
 . have hw:x.w≠ []:=by rw[hlen] at h;exact q_c h
   have hpos:0<x.w.length:=List.length_pos_iff.2 hw;have e0:=Z0f x.w 0 hpos;have e1:=Y1x (x.w.getD 0 0).toNat (x.w.getD 0 0).toNat_lt;have e2:IntKind.i64.wrap ((x.w.length:Int)-1)=((x.w.length-1:Nat):Int):=(by rw[Q0i _ (by omega) (by omega)];omega);have e3:=Z0f x.w (x.w.length-1) (by omega);have hc:=K1q x.w hw;simp-dsimp only[go_sem,h]
   repeat' (first
    | (refine gkF (fun h=> ?_) (fun h=> ?_)<;>simp-dsimp only[go_sem,h,e0,e1,e2,e3])
    | (refine gkT (fun h=> ?_) (fun h=> ?_)<;>simp-dsimp only[go_sem,h,e0,e1,e2,e3])
    | (refine ck (fun h=> ?_) (fun h=> ?_)<;>simp-dsimp only[go_sem,h,e0,e1,e2,e3])
    | refine And.intro (by omega) ?_)
   all_goals rw[Q0r,if_neg hw]
   all_goals clear e0 e1 e2 e3 hlen
   all_goals generalize x.w.getD (x.w.length-1) 0=z at*
   all_goals have hz:z=0<->z.toNat=0:=⟨fun h=>by rw[h];rfl,fun h=>UInt64.toNat.inj h⟩
   all_goals simp_all
   all_goals omega
theorem q1g (x y:Nm)(st:Q0f)(hl:x.w.length<=9223372036854775806)(hl2:y.w.length<=9223372036854775806):PCalls Tryz.prog 89 [.agg (encN x),.agg (encN y)] st (fun r st'=>r= .sc (.bool (decide (x=y)))/\st'=st):=by
 refine Q0b none Tryz.func89 rfl fun E=>Q0a ?_;simp-dsimp only[go_sem]
 repeat' (first
  | (refine gkF (fun h=> ?_) (fun h=> ?_)<;>simp-dsimp only[go_sem,h])
  | (refine gkT (fun h=> ?_) (fun h=> ?_)<;>simp-dsimp only[go_sem,h])
  | (refine ck (fun h=> ?_) (fun h=> ?_)<;>simp-dsimp only[go_sem,h])
  | refine And.intro (by omega) ?_)
 case refine_1.refine_1.refine_2=>
  have hneg:= ‹(!x.neg==y.neg)=false›;have hexp:= ‹(x.exp !=y.exp)=false›;have hn:= ‹((x.w.length:Int) !=(y.w.length:Int))=false›;have hneg':x.neg=y.neg:=(by cases hx:x.neg<;>cases hy:y.neg<;>simp[hx,hy] at hneg⊢);have hexp':x.exp=y.exp:=by simpa using hexp
  have hn':x.w.length=y.w.length:=by have:(x.w.length:Int)=y.w.length:=by simpa using hn
                                     omega
  refine Q0e [false,false,true,true,false,true] 2 0 (fun n s=> ∃i,n=x.w.length-i/\i<=x.w.length/\(∀j,j<i->x.w.getD j 0=y.w.getD j 0)/\s=⟨[.junk,.junk,.lp 0 0,.lp 1 0,.junk,.sc (.int .i64 i)]++List.replicate 39 .junk,[encN x,encN y],[],st⟩) x.w.length ?_ ?_;simp-dsimp only[go_sem];exact⟨0,by omega,by omega,fun j hj=>by omega,rfl⟩;rintro n s ⟨i,rfl,hi,hj,rfl⟩;simp-dsimp only[go_sem];refine ck (fun h=> ?_) (fun h=> ?_);have hlt:i<x.w.length:=(by have:=q_b h;omega);have e1:=Z0f x.w i hlt;have e2:=Z0f y.w i (by omega);have e3:IntKind.i64.wrap ((i:Int)+1)=((i+1:Nat):Int):=(by rw[Q0i _ (by omega) (by omega)];omega);simp-dsimp only[go_sem,h];refine Q0j Z0a 45 (.step 0 [] (.step 1 [] (.step 2 [] (.step 3 [] (.step 4 [] (.step 5 [] (.step 6 [] (.step 7 [] (.step 8 [] (.step 9 [] (.step 10 [] (.done)))))))))))) (by decide+kernel) (by simp) ?_;simp-dsimp only[go_sem,h,e1,e2];refine⟨by omega,by omega,ck (fun h2=> ?_) (fun h2=> ?_)⟩;simp-dsimp only[go_sem,h2];rw[q_g (fun e=>by subst e;simp at h2)];simp-dsimp only[go_sem,h2,e3];refine⟨x.w.length-(i+1),by omega,i+1,rfl,by omega,fun j hj'=> ?_,rfl⟩;by_cases hji:j=i
  subst hji;exact UInt64.toNat.inj (by have:((x.w.getD j 0).toNat:Int)=(y.w.getD j 0).toNat:=by simpa using h2
                                       omega)
  exact hj j (by omega);have hge:i=x.w.length:=(by have:=q_c h;omega);simp-dsimp only[go_sem,h];refine Q0a ?_;simp-dsimp only[go_sem,h];rw[q_h];have hw:x.w=y.w:=List.ext_getElem hn' fun j h1 h2=>by have:=hj j (by omega);simpa[q_a,h1,h2] using this
  cases x;cases y;simp_all
 all_goals rw[q_g (fun e=>by subst e;simp at*)]
theorem W1x (a:Int)(st:Q0f):PCalls Tryz.prog 224 [.sc (.int .i64 a)] st (fun r st'=>r= .sc (.bool false)/\st'=st):=by refine Q0b none Tryz.func224 rfl fun E=>Q0a ?_;simp-dsimp only[go_sem]
theorem W1w (a:Int)(st:Q0f):PCalls Tryz.prog 268 [.sc (.int .i64 a)] st (fun r st'=>r= .sc (.bool false)/\st'=st):=by refine Q0b none Tryz.func268 rfl fun E=>Q0a ?_;simp-dsimp only[go_sem]
theorem W1v (a:Int)(st:Q0f):PCalls Tryz.prog 299 [.sc (.int .u64 a)] st (fun r st'=>r= .sc (.bool false)/\st'=st):=by refine Q0b none Tryz.func299 rfl fun E=>Q0a ?_;simp-dsimp only[go_sem]
theorem X1i (a b:Int)(st:Q0f):PCalls Tryz.prog 160 [.sc (.int .i64 a),.sc (.int .i64 b)] st (fun r st'=>r= .sc (.int .i64 (cmpI a b))/\st'=st):=by
 refine Q0b none Tryz.func160 rfl fun E=>Q0a ?_;simp-dsimp only[go_sem];refine(W1x a st).mono ?_;rintro r st ⟨rfl,rfl⟩;simp-dsimp only[go_sem];refine(W1x b st).mono ?_;rintro r st ⟨rfl,rfl⟩;simp-dsimp only[go_sem]
 repeat' (refine ck (fun h=> ?_) (fun h=> ?_)<;>simp-dsimp only[go_sem,h])
 all_goals simp_all [cmpI]
 rw[if_neg (by omega),if_neg (by omega)]
theorem y2v (a b:Int)(st:Q0f):PCalls Tryz.prog 225 [.sc (.int .i64 a),.sc (.int .i64 b)] st (fun r st'=>r= .sc (.int .i64 (cmpI a b))/\st'=st):=by
 refine Q0b none Tryz.func225 rfl fun E=>Q0a ?_;simp-dsimp only[go_sem];refine(W1w a st).mono ?_;rintro r st ⟨rfl,rfl⟩;simp-dsimp only[go_sem];refine(W1w b st).mono ?_;rintro r st ⟨rfl,rfl⟩;simp-dsimp only[go_sem]
 repeat' (refine ck (fun h=> ?_) (fun h=> ?_)<;>simp-dsimp only[go_sem,h])
 all_goals simp_all [cmpI]
 rw[if_neg (by omega),if_neg (by omega)]
theorem y2u (a b:Int)(st:Q0f):PCalls Tryz.prog 269 [.sc (.int .u64 a),.sc (.int .u64 b)] st (fun r st'=>r= .sc (.int .i64 (cmpI a b))/\st'=st):=by
 refine Q0b none Tryz.func269 rfl fun E=>Q0a ?_;simp-dsimp only[go_sem];refine(W1v a st).mono ?_;rintro r st ⟨rfl,rfl⟩;simp-dsimp only[go_sem];refine(W1v b st).mono ?_;rintro r st ⟨rfl,rfl⟩;simp-dsimp only[go_sem]
 repeat' (refine ck (fun h=> ?_) (fun h=> ?_)<;>simp-dsimp only[go_sem,h])
 all_goals simp_all [cmpI]
 rw[if_neg (by omega),if_neg (by omega)]
theorem H0i (T:Array UInt8)(hs:T.size=256)(hT: ∀n:Fin 256,(T.getD n 0).toNat=Q0g n)(v m k:Nat)(c d:Int)(hm:v/2^k=m)(h:m<256)(hk:k=0\/m≠0)(hk2:k<=56)(hc:c=(m:Int))(hd:d=(k:Int)):
 (IntKind.u8.wrap c).toNat<T.size/\PV.sc (.int .i64 (IntKind.i64.wrap (d+IntKind.i64.wrap ((T.getD (IntKind.u8.wrap c).toNat 0).toNat:Int))))=PV.sc (.int .i64 (Q0g v)):=by
 subst hc hd;have e1:(IntKind.u8.wrap (m:Int)).toNat=m:=(by rw[X3v,Nat.mod_eq_of_lt h];simp);rw[e1,hs];refine⟨h,?_⟩;have hT':=hT ⟨m,h⟩;simp only at hT';rw[hT'];have hb:Q0g v=Q0g m+k:=by rcases hk with rfl | hk;simp at hm;simp[hm];rw[<-hm];exact x0s v k (by rw[hm];exact hk)
 have hle: ∀n:Fin 256,Q0g n<=8:=(by decide+kernel);have hm8:=hle ⟨m,h⟩;simp only at hm8;have w1:IntKind.i64.wrap ((Q0g m:Nat):Int)=(Q0g m:Int):=Q0i _ (by omega) (by omega);have w2:IntKind.i64.wrap ((k:Int)+(Q0g m:Int))=(k:Int)+(Q0g m:Int):=Q0i _ (by omega) (by omega);rw[w1,w2,hb];congr 2;omega
theorem U2w (v:Nat)(hv:v<18446744073709551616)(st:Q0f):PCalls Tryz.prog 267 [.sc (.int .u64 v)] st (fun r st'=>r= .sc (.int .i64 (Q0g v))/\st'=st):=by
 refine Q0b none Tryz.func267 rfl fun E=>Q0a ?_;have s32:bShr .u64 (v:Int) 32=((v/2^32:Nat):Int):=y0g .u64 v 32 (by decide);have s16: ∀v:Nat,bShr .u64 (v:Int) 16=((v/2^16:Nat):Int):=fun v=>y0g .u64 v 16 (by decide);have s8: ∀v:Nat,bShr .u64 (v:Int) 8=((v/2^8:Nat):Int):=fun v=>y0g .u64 v 8 (by decide);simp-dsimp only[go_sem];refine ck (fun h1=> ?_) (fun h1=> ?_)<;>simp-dsimp only[go_sem,h1,s32]<;>
  refine ck (fun h2=> ?_) (fun h2=> ?_)<;>simp-dsimp only[go_sem,h1,s32,s16]<;>
  refine ck (fun h3=> ?_) (fun h3=> ?_)<;>simp-dsimp only[go_sem,h1,s32,s16,s8]
 all_goals simp only[decide_eq_true_eq,decide_eq_false_iff_not] at h1 h2 h3
 exact H0i _ (by decide+kernel) (by decide+kernel) v _ 56 _ _ rfl (by omega) (.inr (by omega)) (by decide) (by rw[Nat.div_div_eq_div_mul,Nat.div_div_eq_div_mul]) (by decide);exact H0i _ (by decide+kernel) (by decide+kernel) v _ 48 _ _ rfl (by omega) (.inr (by omega)) (by decide) (by rw[Nat.div_div_eq_div_mul]) (by decide);exact H0i _ (by decide+kernel) (by decide+kernel) v _ 40 _ _ rfl (by omega) (.inr (by omega)) (by decide) (by rw[Nat.div_div_eq_div_mul]) (by decide);exact H0i _ (by decide+kernel) (by decide+kernel) v _ 32 _ _ rfl (by omega) (.inr (by omega)) (by decide) rfl (by decide);exact H0i _ (by decide+kernel) (by decide+kernel) v _ 24 _ _ rfl (by omega) (.inr (by omega)) (by decide) (by rw[Nat.div_div_eq_div_mul]) (by decide);exact H0i _ (by decide+kernel) (by decide+kernel) v _ 16 _ _ rfl (by omega) (.inr (by omega)) (by decide) rfl (by decide);exact H0i _ (by decide+kernel) (by decide+kernel) v _ 8 _ _ rfl (by omega) (.inr (by omega)) (by decide) rfl (by decide);exact H0i _ (by decide+kernel) (by decide+kernel) v _ 0 _ _ rfl (by omega) (.inl rfl) (by decide) (by simp) (by decide)
theorem G0j (l:List UInt64)(st:Q0f)(hl:l.length<=100000000000000000):PCalls Tryz.prog 223 [.sl .no (encW l)] st (fun r st'=>r= .sc (.int .i64 (X0w l))/\st'=st):=by
 refine Q0b none Tryz.func223 rfl fun E=>Q0a ?_;simp-dsimp only[go_sem];refine(U0k l st (by omega)).mono ?_;rintro r st ⟨rfl,rfl⟩;simp-dsimp only[go_sem];have hle:=V0z l;refine ck (fun h=> ?_) (fun h=> ?_);simp-dsimp only[go_sem,h];have:cutW l= []:=by
  cases hc:cutW l with
  | nil=>rfl
  | cons a t=>rw[hc] at h;simp at h;omega
 rw[show X0w l=0 from by rw[X0w,(x1d l).1 this];rfl];rfl;have hne:cutW l≠ []:=fun e=>(by rw[e] at h;simp at h);have hpos:0<(cutW l).length:=List.length_pos_iff.2 hne;have e2:IntKind.i64.wrap (((cutW l).length:Int)-1)=(((cutW l).length-1:Nat):Int):=(by rw[Q0i _ (by omega) (by omega)];omega);have e3:=Z0f (cutW l) ((cutW l).length-1) (by omega);simp-dsimp only[go_sem,h,e2,e3];refine And.intro (by omega) ?_;refine(U2w _ (UInt64.toNat_lt _) st).mono ?_;rintro r st ⟨rfl,rfl⟩;simp-dsimp only[go_sem,h,e2,e3];have hb:=V1a ((cutW l).getD ((cutW l).length-1) 0).toNat (UInt64.toNat_lt _);rw[Q0i (64*_) (by omega) (by omega),Q0i _ (by omega) (by omega),q2t l hne];congr 2
theorem y2w (l:List UInt64)(st:Q0f)(hl:l.length<=10000000000000):PCalls Tryz.prog 300 [.sl .no (encW l)] st (fun r st'=>r= .sl (.fresh 1) (encW l)/\st'=st):=by refine Q0b (some 1) Tryz.func300 rfl fun E=>Q0a ?_;simp-dsimp only[go_sem];intro b hb;cases b;simp-dsimp only[go_sem];omega;have:l= []:=(by have:=hb rfl;simpa[encW] using this);subst this;simp-dsimp only[go_sem]
theorem j1k (l:List UInt64)(st:Q0f)(hl:l.length<=10000000000000):PCalls Tryz.prog 271 [.sl .no (encW l)] st (fun r st'=>r= .sl (.fresh 1) (encW (cutW l))/\st'=st):=by refine Q0b none Tryz.func271 rfl fun E=>Q0a ?_;simp-dsimp only[go_sem];refine(U0k l st (by omega)).mono ?_;rintro r st ⟨rfl,rfl⟩;simp-dsimp only[go_sem];refine(y2w _ st (Nat.le_trans (V0z l) hl)).mono ?_;rintro r st ⟨rfl,rfl⟩;simp-dsimp only[go_sem]
theorem X1d (a b:List UInt64)(st:Q0f)(ha:a.length<=10000000000000)(hb:b.length<=10000000000000):PCalls Tryz.prog 226 [.sl .no (encW a),.sl .no (encW b)] st (fun r st'=>r= .sc (.int .i64 (cmpW (valW a) (valW b)))/\st'=st):=by
 refine Q0b none Tryz.func226 rfl fun E=>Q0a ?_;simp-dsimp only[go_sem];refine(U0k a st (by omega)).mono ?_;rintro r st ⟨rfl,rfl⟩;simp-dsimp only[go_sem];refine(U0k b st (by omega)).mono ?_;rintro r st ⟨rfl,rfl⟩;simp-dsimp only[go_sem];have la:=V0z a;have lb:=V0z b;have ea:cutW (cutW a)=cutW a:=(by rw[<-Q0x a,U0g]);have eb:cutW (cutW b)=cutW b:=(by rw[<-Q0x b,U0g]);rw[<-V0u a,<-V0u b];generalize cutW a=a at*
 generalize cutW b=b at*
 refine ck (fun h=> ?_) (fun h=> ?_);have hne:a.length≠b.length:=w0n h;simp-dsimp only[go_sem];refine(X1i _ _ st).mono ?_;rintro r st ⟨rfl,rfl⟩;simp-dsimp only[go_sem];rw[v1n ea eb hne];have hlen:a.length=b.length:=x0a h;have e1:IntKind.i64.wrap ((a.length:Int)-1)=(a.length:Int)-1:=Q0i _ (by omega) (by omega);simp-dsimp only[go_sem,e1];refine Q0e [true,true,false,false,false,true] 0 0 (fun n s=>n<=a.length/\(∀j,n<=j->j<a.length->a.getD j 0=b.getD j 0)/\s=⟨[.sl .no (encW a),.sl .no (encW b),.junk,.junk,.junk,.sc (.int .i64 ((n:Int)-1))]++List.replicate 39 .junk,[],[],st⟩) a.length ?_ ?_;simp-dsimp only[go_sem];exact fun j h1 h2=>(by omega);rintro n s ⟨hn,hz,rfl⟩;simp-dsimp only[go_sem];refine ck (fun h=> ?_) (fun h=> ?_);have hp:0<n:=(by have:=q_b h;omega);have e0:((n:Int)-1)=((n-1:Nat):Int):=(by omega);have g1:=Z0f a (n-1) (by omega);have g2:=Z0f b (n-1) (by omega);have e3:IntKind.i64.wrap (((n-1:Nat):Int)-1)=((n-1:Nat):Int)-1:=Q0i _ (by omega) (by omega);simp-dsimp only[go_sem];rw[e0];refine Q0j Z0a 45 (.step 0 [] (.step 1 [] (.step 2 [] (.step 3 [] (.step 4 [] (.step 5 [] (.step 6 [] (.step 7 [] (.step 8 [] (.done)))))))))) (by decide+kernel) (by simp) ?_;simp-dsimp only[go_sem,g1,g2];refine⟨by omega,by omega,ck (fun h2=> ?_) (fun h2=> ?_)⟩;have hne:a.getD (n-1) 0≠b.getD (n-1) 0:=fun e=>(by rw[e] at h2;simp at h2);simp-dsimp only[go_sem];refine Q0j Z0a 45 (.step 0 [] (.step 1 [] (.step 2 [] (.step 3 [] (.step 4 [] (.step 5 [] (.step 6 [] (.step 7 [] (.step 8 [] (.step 9 [] (.done))))))))))) (by decide+kernel) (by simp) ?_;simp-dsimp only[go_sem,g1,g2];refine⟨by omega,by omega,?_⟩;refine(y2u _ _ st).mono ?_;rintro r st ⟨rfl,rfl⟩;simp-dsimp only[go_sem];rw[Y3c hlen (n-1) (by omega) (fun j h1 h2=>hz j (by omega) h2) hne];have heq:a.getD (n-1) 0=b.getD (n-1) 0:=UInt64.toNat.inj (x0a h2);simp-dsimp only[go_sem,e3];refine⟨n-1,by omega,by omega,fun j h1 h2=> ?_,rfl⟩;by_cases hj:j=n-1;subst hj;exact heq;exact hz j (by omega) h2;have h0:n=0:=(by have:=q_c h;omega);simp-dsimp only[go_sem];refine Q0a ?_;simp-dsimp only[go_sem];rw[U0y 0 hlen (fun j hj=>hz j (by omega) hj),cmpW,K1t rfl]
theorem J3d (a o:List UInt64)(k s i:Nat)(hs:s<64)(hi:i<a.length)(ho:o.length=a.length+k+1)
 (hv:valW o=valW (a.take i)*2^(64*k+s)) (hc:(o.getD (i+k) 0).toNat<2^s) (hz: ∀j,i+k<j->o.getD j 0=0):
 let w:=(a.getD i 0).toNat
 let lo:=UInt64.ofNat ((o.getD (i+k) 0).toNat+w*2^s % 18446744073709551616)
 let hi':=UInt64.ofNat (w/2^(64-s))
 bOr .u64 ((o.getD (i+k) 0).toNat:Int) (bShl .u64 (w:Int) (s:Int))=(lo.toNat:Int)/\bShr .u64 (w:Int) ((64-s:Nat):Int)=(hi'.toNat:Int)/\
 valW ((o.set (i+k) lo).set (i+k+1) hi')=valW (a.take (i+1))*2^(64*k+s)/\hi'.toNat<2^s:=by
 intro w lo hi';have hw:w<18446744073709551616:=UInt64.toNat_lt _;have hlt:=Nat.mod_lt (w*2^s) (show 18446744073709551616>0 by decide);have hor:=J1p (o.getD (i+k) 0).toNat (w*2^s % 18446744073709551616) s hc (k0v w s (by omega));have hsum:(o.getD (i+k) 0).toNat+w*2^s % 18446744073709551616<18446744073709551616:=by rw[<-hor];exact Nat.or_lt_two_pow (n:=64) (UInt64.toNat_lt _) hlt
 have elo:lo.toNat=(o.getD (i+k) 0).toNat+w*2^s % 18446744073709551616:=Z0s _ hsum;have hsr:=Z3b w s hw (by omega);have h2:2^s<=2^64:=Nat.pow_le_pow_right (by decide) (by omega);have ehi:hi'.toNat=w/2^(64-s):=Z0s _ (by omega);refine⟨?_,?_,?_,by rw[ehi];exact hsr⟩;rw[H0m w s (by omega),V1c _ _ (UInt64.toNat_lt _) hlt,hor,elo];rw[W0f w (64-s) (by omega),ehi];have e1:=x0u o (i+k) lo (by omega);have e2:=x0u (o.set (i+k) lo) (i+k+1) hi' (by simp;omega);rw[K0u,if_neg (by omega),hz (i+k+1) (by omega)] at e2;rw[X0o a i hi,Nat.add_mul,<-hv];have e3:18446744073709551616^i*w*2^(64*k+s)=18446744073709551616^(i+k)*(w*2^s):=by rw[Nat.pow_add 18446744073709551616 i k,w0l k,Nat.pow_add];simp only[Nat.mul_assoc,Nat.mul_left_comm,Nat.mul_comm]
 show _=_+18446744073709551616^i*w*2^(64*k+s);rw[e3,H1p w s hw (by omega),Nat.mul_add,<-Nat.mul_assoc,show 18446744073709551616^(i+k)*18446744073709551616=18446744073709551616^(i+k+1) from(Nat.pow_succ ..).symm];rw[elo,Nat.mul_add] at e1;rw[ehi] at e2;have z0:(0:UInt64).toNat=0:=rfl;rw[z0,Nat.mul_zero] at e2;omega
theorem up_c (a:List UInt64)(n:Nat)(st:Q0f)(ha:a.length<=1000000000000)(hn:n<=1000000000000):PCalls Tryz.prog 227 [.sl .no (encW a),.sc (.int .i64 n)] st (fun r st'=>r= .sl .no (encW (Q0q (valW a*2^n)))/\st'=st):=by
 refine Q0b none Tryz.func227 rfl fun E=>Q0a ?_;simp-dsimp only[go_sem];refine(U0k a st (by omega)).mono ?_;rintro r st ⟨rfl,rfl⟩;simp-dsimp only[go_sem];have la:=V0z a;rw[<-V0u a];generalize cutW a=a at*
 refine ck (fun h=> ?_) (fun h=> ?_);have h0:a= []:=List.length_eq_zero_iff.1 (H0g (b:=0) h);subst h0;simp-dsimp only[go_sem];simp[W0e,J0l,y2d];have h0:0<a.length:=(by have:=x0b (b:=0) h;omega);have eq:IntKind.i64.wrap ((n:Int).tdiv 64)=((n/64:Nat):Int):=(by rw[show(64:Int)=((64:Nat):Int) from rfl,H0e,Q0o _ (by omega)]);have er:(n:Int).tmod 64=((n % 64:Nat):Int):=(by rw[show(64:Int)=((64:Nat):Int) from rfl,H0d]);have hnk:n=64*(n/64)+n % 64:=(by omega);generalize n/64=k at*
 generalize hs:n % 64=s at*
 have hs':s<64:=(by omega);have e1:IntKind.i64.wrap ((a.length:Int)+(k:Int))=((a.length+k:Nat):Int):=(by rw[<-Int.natCast_add,Q0o _ (by omega)]);have e2:IntKind.i64.wrap (((a.length+k:Nat):Int)+1)=((a.length+k+1:Nat):Int):=(by rw[show(((a.length+k:Nat):Int)+1)=((a.length+k+1:Nat):Int) from rfl,Q0o _ (by omega)]);obtain⟨m0,hm0⟩: ∃m0,m0=a.length+k+1:=⟨_,rfl⟩;rw[<-hm0] at e2;simp-dsimp only[go_sem,eq,er,e1,e2];refine⟨⟨by omega,by omega,by omega⟩,?_⟩;refine Q0e [false,false,false,false,false,true,true,true,false,false,false,false,false,false,false,false,false,false,false,false,false,false,false,false,false,true,true,true] 1 0
  (fun m s'=> ∃i o,m=a.length-i/\i<=a.length/\o.length=m0/\valW o=valW (a.take i)*2^(64*k+s)/\(o.getD (i+k) 0).toNat<2^s/\(∀j,i+k<j->o.getD j 0=0)/\
   s'=⟨[.junk,.junk,.junk,.junk,.junk,.sc (.int .i64 k),.sc (.int .i64 s),.ms false 0 0 m0,.junk,.junk,.junk,.junk,.junk,.junk,.junk,.junk,.junk,.junk,.junk,.junk,.junk,.junk,.junk,.junk,.junk,.sl .no (encW a),.sc (.int .i64 a.length),.sc (.int .i64 i)]++List.replicate 28 .junk,[encW o],[],st⟩) a.length ?_ ?_
 simp-dsimp only[go_sem];refine⟨0,List.replicate m0 0,by omega,by omega,by simp,by simp[W1b,W0e],?_,fun j hj=>V0c _ _ _,rfl⟩;rw[V0c];exact Nat.pow_pos (by decide);rintro m s' ⟨i,o,rfl,hi,ho,hv,hc,hz,rfl⟩;simp-dsimp only[go_sem];refine ck (fun h=> ?_) (fun h=> ?_);have hlt:i<a.length:=(by have:=q_b h;omega);have g1:=Z0f a i hlt;have g2:=Z0f o (i+k) (by omega);obtain⟨s1,s2,s3,s4⟩:=J3d a o k s i hs' hlt (by omega) hv hc hz;have x1:IntKind.i64.wrap ((i:Int)+(k:Int))=((i+k:Nat):Int):=(by rw[<-Int.natCast_add,Q0o _ (by omega)]);have x2:IntKind.i64.wrap (((i+k:Nat):Int)+1)=((i+k+1:Nat):Int):=(by rw[show(((i+k:Nat):Int)+1)=((i+k+1:Nat):Int) from rfl,Q0o _ (by omega)]);have x3:IntKind.i64.wrap (64-(s:Int))=((64-s:Nat):Int):=(by rw[show 64-(s:Int)=((64-s:Nat):Int) from by omega,Q0o _ (by omega)]);have x4:IntKind.i64.wrap ((i:Int)+1)=((i+1:Nat):Int):=(by rw[show((i:Int)+1)=((i+1:Nat):Int) from rfl,Q0o _ (by omega)]);have x5:decide (0<=(s:Int))=true:=q_h (by omega);have x6:decide (0<=((64-s:Nat):Int))=true:=q_h (by omega);simp-dsimp only[go_sem,g1];refine⟨by omega,?_⟩;refine Q0j Z0a 43 (.step 0 [] (.step 1 [] (.step 2 [] (.step 3 [] (.step 4 [] (.step 5 [] (.step 6 [] (.step 7 [] (.step 8 [] (.step 9 [] (.step 10 [] (.step 11 [] (.done))))))))))))) (by decide+kernel) (by simp) ?_;have o1:=Y0d o (i+k) (UInt64.ofNat ((o.getD (i+k) 0).toNat+(a.getD i 0).toNat*2^s % 18446744073709551616)) (show i+k<o.length by omega);have o2:=Y0d (o.set (i+k) (UInt64.ofNat ((o.getD (i+k) 0).toNat+(a.getD i 0).toNat*2^s % 18446744073709551616))) (i+k+1) (UInt64.ofNat ((a.getD i 0).toNat/2^(64-s))) (by simp;omega);simp-dsimp only[go_sem,x1,x2,x3,x4,g2,s1,s2,x5,x6,o1,o2];refine⟨⟨by omega,by omega⟩,by omega,⟨by omega,by omega⟩,⟨by omega,by omega⟩,⟨by omega,by omega⟩,⟨by simp;omega,by simp;omega⟩,a.length-(i+1),by omega,i+1,_,rfl,by omega,by simp[ho],s3,?_,fun j hj=> ?_,rfl⟩;rw[show i+1+k=i+k+1 from by omega,K0u,if_pos ⟨rfl,by simp;omega⟩];exact s4;rw[K0u,if_neg (by omega),K0u,if_neg (by omega),hz j (by omega)];have hge:i=a.length:=(by have:=q_c h;omega);subst hge;have ht:o.take m0=o:=List.take_of_length_le (by omega);have hle:m0<=o.length:=(by omega);simp-dsimp only[go_sem];refine Z0r 0 ?_ ?_;simp-dsimp only[go_sem];refine Q0a ?_;simp-dsimp only[go_sem,ht,hle];refine(U0k o st (by omega)).mono ?_;rintro r st ⟨rfl,rfl⟩;simp-dsimp only[go_sem];rw[<-Q0x o,hv,List.take_length,hnk]
end Go.Pv
end
