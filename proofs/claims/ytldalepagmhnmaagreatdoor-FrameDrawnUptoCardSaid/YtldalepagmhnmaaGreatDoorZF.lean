/- Parts of the walk: F1, F2, F3, F4, F5, F6, F7, F8, F9. -/
import Derived.Test.YtldalepagmhnmaaGreatDoorZE
set_option linter.unusedVariables false
set_option linter.unusedSimpArgs false
section
set_option maxRecDepth 100000
namespace Go.Pv
open Go.Proofs
theorem Y0w (l:List UInt64)(st:Q0f)(hl:l.length<=9223372036854775807):PR 222 [.sl .no (encW l)] st (.sl .no (encW (cutW l))):=by refine W4y Tryz.func222 fun E=> ?_;refine Q0e [true,false,false,true] 0 0 (fun n s=>n<=l.length/\(∀j,n<=j->j<l.length->l.getD j 0=0)/\s=⟨[.sl .no (encW l),.junk,.junk,.sc (.int .i64 n)]++jk 17,[],[],st⟩) l.length ?_ ?_;refine Y4w ?_;exact fun j h1 h2=>oG;rintro n s ⟨hn,hz,rfl⟩;have out:n=0\/l.getD (n-1) 0≠0->(PV.sl Tag.no (encW (l.take n))=PV.sl .no (encW (cutW l))):=fun h=>(by rw[Z2i l n hn hz h]);rcases Nat.eq_zero_or_pos n with rfl | hp;have hd:decide (((0:Nat):Int)>0)=false:=(by simp);simp-dsimp only[go_sem,hd];refine W4u ?_;exact⟨oG,out (.inl rfl)⟩;have hd:decide ((n:Int)>0)=true:=q_h oG;have e1:IntKind.i64.wrap ((n:Int)-1)=((n-1:Nat):Int):=(by rw[Q0q _ oG oG];omega);have e2:=Z0m l (n-1) oG;simp-dsimp only[go_sem,hd,e1,e2];refine⟨oG,ck (fun h=> ?_) (fun h=> ?_)⟩;simp-dsimp only[go_sem,e1];refine⟨n-1,oG,oG,fun j h1 h2=> ?_,rfl⟩;by_cases hj:j=n-1;subst hj;have h':((l.getD (n-1) 0).toNat:Int)=0:=(by simpa using h);exact UInt64.toNat.inj (by have:(0:UInt64).toNat=0:=rfl;omega);exact hz j oG h2;refine Y4w ?_;refine W4u ?_;refine⟨oG,out (.inr fun e=> ?_)⟩;rw[e] at h;cases h
--nat.Right
theorem Y2f (l:List UInt64)(st:Q0f)(hl:l.length<=9223372036854775807):PR 158 [.sl .no (encW l)] st (.sc (.bool (decide ((cutW l).length=l.length)))):=by refine W4y Tryz.func158 fun E=> ?_;refine(Y0w l st hl).Q ?_;exact congrArg (fun b=>PV.sc (.bool b)) (by by_cases h:(cutW l).length=l.length;rw[q_h h,h];simp;rw[q_g h];simp;omega)
theorem H1e (n:Nat)(h:n<18446744073709551616):bAnd .u64 (n:Int) 1=((n % 2:Nat):Int):=by
 unfold bAnd;have e:(BitVec.ofInt IntKind.u64.bits (n:Int)&&&BitVec.ofInt IntKind.u64.bits 1).toNat=n % 2:=by have e1:BitVec.ofInt IntKind.u64.bits (n:Int)=BitVec.ofNat 64 n:=(by simp[IntKind.bits]);have e2:BitVec.ofInt IntKind.u64.bits 1=BitVec.ofNat 64 1:=rfl;rw[e1,e2];show(BitVec.ofNat 64 n&&&BitVec.ofNat 64 1).toNat=n % 2;rw[BitVec.toNat_and,BitVec.toNat_ofNat,BitVec.toNat_ofNat,Nat.mod_eq_of_lt (by omega:n<2^64)];exact Nat.and_one_is_mod n
 rw[e];exact K0k _ oG
theorem X0p (x:Nm)(st:Q0f)(hl:x.w.length<=9223372036854775807):PR 78 [.agg (encN x)] st (.sc (.bool (Q0h x))):=by
 refine W4y Tryz.func78 fun E=> ?_;have hlen:(((x.w.length:Nat):Int)==0)=decide (x.w= []):=by
  cases hw:x.w<;>simp
  omega
 refine ck (fun h=> ?_) (fun h=> ?_);have hw:x.w= []:=(by rw[hlen] at h;exact q_b h);simp-dsimp only[go_sem,h];refine gkT (fun h1=> ?_) (fun h1=> ?_);simp-dsimp only[go_sem,h,h1];simp[Q0h,hw,h1];simp-dsimp only[go_sem,h,h1];simp[Q0h,hw,h1]
 . have hw:x.w≠ []:=by rw[hlen] at h;exact q_c h
   simp-dsimp only[go_sem,h];refine(Y2f x.w st hl).q ?_;simp-dsimp only[go_sem,h];have e0:=Z0m x.w 0 (by cases hx:x.w with | nil=>exact absurd hx hw | cons=>simp);have e1:=H1e (x.w.getD 0 0).toNat (x.w.getD 0 0).toNat_lt;have hpos:0<x.w.length:=List.length_pos_iff.2 hw
   repeat' (first
    | (refine gkF (fun h=> ?_) (fun h=> ?_)<;>simp-dsimp only[go_sem,h,e0,e1])
    | (refine gkT (fun h=> ?_) (fun h=> ?_)<;>simp-dsimp only[go_sem,h,e0,e1])
    | (refine ck (fun h=> ?_) (fun h=> ?_)<;>simp-dsimp only[go_sem,h,e0,e1])
    | refine And.intro oG ?_)
   all_goals simp_all [Q0h]
   all_goals omega
theorem K0o (x:Nm)(st:Q0f)(hl:x.w.length<=9223372036854775807):PR 110 [.agg (encN x)] st (.sc (.bool (Q0h x))):=by
 refine W4y Tryz.func110 fun E=> ?_;have hlen:(((x.w.length:Nat):Int)==0)=decide (x.w= []):=by
  cases hw:x.w<;>simp
  omega
 refine ck (fun h=> ?_) (fun h=> ?_);have hw:x.w= []:=(by rw[hlen] at h;exact q_b h);simp-dsimp only[go_sem,h];refine gkT (fun h1=> ?_) (fun h1=> ?_);simp-dsimp only[go_sem,h,h1];simp[Q0h,hw,h1];simp-dsimp only[go_sem,h,h1];simp[Q0h,hw,h1]
 . have hw:x.w≠ []:=by rw[hlen] at h;exact q_c h
   have hpos:0<x.w.length:=List.length_pos_iff.2 hw;have e0:=Z0m x.w 0 hpos;have e1:=H1e (x.w.getD 0 0).toNat (x.w.getD 0 0).toNat_lt;have e2:IntKind.i64.wrap ((x.w.length:Int)-1)=((x.w.length-1:Nat):Int):=(by rw[Q0q _ oG oG];omega);have e3:=Z0m x.w (x.w.length-1) oG;have hc:=Y1c x.w hw;simp-dsimp only[go_sem,h]
   repeat' (first
    | (refine gkF (fun h=> ?_) (fun h=> ?_)<;>simp-dsimp only[go_sem,h,e0,e1,e2,e3])
    | (refine gkT (fun h=> ?_) (fun h=> ?_)<;>simp-dsimp only[go_sem,h,e0,e1,e2,e3])
    | (refine ck (fun h=> ?_) (fun h=> ?_)<;>simp-dsimp only[go_sem,h,e0,e1,e2,e3])
    | refine And.intro oG ?_)
   all_goals rw[Q0h,if_neg hw]
   all_goals clear e0 e1 e2 e3 hlen
   all_goals generalize x.w.getD (x.w.length-1) 0=z at*
   all_goals have hz:z=0<->z.toNat=0:=⟨fun h=>by rw[h];rfl,fun h=>UInt64.toNat.inj h⟩
   all_goals simp_all
   all_goals omega
theorem U0w (x y:Nm)(st:Q0f)(hl:x.w.length<=9223372036854775806)(hl2:y.w.length<=9223372036854775806):PR 89 [.agg (encN x),.agg (encN y)] st (.sc (.bool (decide (x=y)))):=by
 refine W4y Tryz.func89 fun E=> ?_
 repeat' (first
  | (refine gkF (fun h=> ?_) (fun h=> ?_)<;>simp-dsimp only[go_sem,h])
  | (refine gkT (fun h=> ?_) (fun h=> ?_)<;>simp-dsimp only[go_sem,h])
  | (refine ck (fun h=> ?_) (fun h=> ?_)<;>simp-dsimp only[go_sem,h])
  | refine And.intro oG ?_)
 case refine_1.refine_1.refine_2=>
  have hneg:= ‹(!x.neg==y.neg)=false›;have hexp:= ‹(x.exp !=y.exp)=false›;have hn:= ‹((x.w.length:Int) !=(y.w.length:Int))=false›;have hneg':x.neg=y.neg:=(by cases hx:x.neg<;>cases hy:y.neg<;>simp[hx,hy] at hneg⊢);have hexp':x.exp=y.exp:=by simpa using hexp
  have hn':x.w.length=y.w.length:=by have:(x.w.length:Int)=y.w.length:=by simpa using hn
                                     omega
  refine Q0e [false,false,true,true,false,true] 2 0 (fun n s=> ∃i,n=x.w.length-i/\i<=x.w.length/\(∀j,j<i->x.w.getD j 0=y.w.getD j 0)/\s=⟨[.junk,.junk,.lp 0 0,.lp 1 0,.junk,.sc (.int .i64 i)]++jk 39,[encN x,encN y],[],st⟩) x.w.length ?_ ?_;refine Y4w ?_;exact⟨0,oG,oG,fun j hj=>oG,rfl⟩;rintro n s ⟨i,rfl,hi,hj,rfl⟩;refine W4z (fun h=> ?_) (fun h=> ?_);have hlt:i<x.w.length:=(oT h);have e1:=Z0m x.w i hlt;have e2:=Z0m y.w i oG;have e3:IntKind.i64.wrap ((i:Int)+1)=((i+1:Nat):Int):=(by rw[Q0q _ oG oG];omega);simp-dsimp only[go_sem,h];refine Q0k Z0b 45 (X2p [0,1,2,3,4,5,6,7,8,9,10] .done) (by decide+kernel) (by simp) ?_;simp-dsimp only[go_sem,h,e1,e2];refine⟨oG,oG,ck (fun h2=> ?_) (fun h2=> ?_)⟩;simp-dsimp only[go_sem,h2];rw[q_g (fun e=>by subst e;simp at h2)];simp-dsimp only[go_sem,h2,e3];refine⟨x.w.length-(i+1),oG,i+1,rfl,oG,fun j hj'=> ?_,rfl⟩;by_cases hji:j=i
  subst hji;exact UInt64.toNat.inj (by have:((x.w.getD j 0).toNat:Int)=(y.w.getD j 0).toNat:=by simpa using h2
                                       omega)
  exact hj j oG;have hge:i=x.w.length:=(oF h);simp-dsimp only[go_sem,h];refine Q0a ?_;simp-dsimp only[go_sem,h];rw[q_h];have hw:x.w=y.w:=List.ext_getElem hn' fun j h1 h2=>by have:=hj j oG;simpa[q_a,h1,h2] using this
  cases x;cases y;simp_all
 all_goals rw[q_g (fun e=>by subst e;simp at*)]
theorem G1l (a:Int)(st:Q0f):PR 224 [.sc (.int .i64 a)] st (.sc (.bool false)):=by refine Q0b none Tryz.func224 rfl fun E=>Q0a ?_;exact Y4v
theorem G1k (a:Int)(st:Q0f):PR 268 [.sc (.int .i64 a)] st (.sc (.bool false)):=by refine Q0b none Tryz.func268 rfl fun E=>Q0a ?_;exact Y4v
theorem G1j (a:Int)(st:Q0f):PR 299 [.sc (.int .u64 a)] st (.sc (.bool false)):=by refine Q0b none Tryz.func299 rfl fun E=>Q0a ?_;exact Y4v
theorem z1m (a b:Int)(st:Q0f):PR 160 [.sc (.int .i64 a),.sc (.int .i64 b)] st (.sc (.int .i64 (cmpI a b))):=by
 refine W4y Tryz.func160 fun E=> ?_;refine(G1l a st).Q ?_;refine(G1l b st).Q ?_
 repeat' (refine ck (fun h=> ?_) (fun h=> ?_)<;>simp-dsimp only[go_sem,h])
 all_goals simp_all [cmpI]
 rw[if_neg oG,if_neg oG]
theorem V3b (a b:Int)(st:Q0f):PR 225 [.sc (.int .i64 a),.sc (.int .i64 b)] st (.sc (.int .i64 (cmpI a b))):=by
 refine W4y Tryz.func225 fun E=> ?_;refine(G1k a st).Q ?_;refine(G1k b st).Q ?_
 repeat' (refine ck (fun h=> ?_) (fun h=> ?_)<;>simp-dsimp only[go_sem,h])
 all_goals simp_all [cmpI]
 rw[if_neg oG,if_neg oG]
theorem V3a (a b:Int)(st:Q0f):PR 269 [.sc (.int .u64 a),.sc (.int .u64 b)] st (.sc (.int .i64 (cmpI a b))):=by
 refine W4y Tryz.func269 fun E=> ?_;refine(G1j a st).Q ?_;refine(G1j b st).Q ?_
 repeat' (refine ck (fun h=> ?_) (fun h=> ?_)<;>simp-dsimp only[go_sem,h])
 all_goals simp_all [cmpI]
 rw[if_neg oG,if_neg oG]
theorem q0b (T:Array UInt8)(hs:T.size=256)(hT: ∀n:Fin 256,(T.getD n 0).toNat=Q0i n)(v m k:Nat)(c d:Int)(hm:v/2^k=m)(h:m<256)(hk:k=0\/m≠0)(hk2:k<=56)(hc:c=(m:Int))(hd:d=(k:Int)):
 (IntKind.u8.wrap c).toNat<T.size/\PV.sc (.int .i64 (IntKind.i64.wrap (d+IntKind.i64.wrap ((T.getD (IntKind.u8.wrap c).toNat 0).toNat:Int))))=PV.sc (.int .i64 (Q0i v)):=by
 subst hc hd;have e1:(IntKind.u8.wrap (m:Int)).toNat=m:=(by rw[U3h,Nat.mod_eq_of_lt h];simp);rw[e1,hs];refine⟨h,?_⟩;have hT':=hT ⟨m,h⟩;simp only at hT';rw[hT'];have hb:Q0i v=Q0i m+k:=by rcases hk with rfl | hk;simp at hm;simp[hm];rw[<-hm];exact k0c v k (by rw[hm];exact hk)
 have hle: ∀n:Fin 256,Q0i n<=8:=(by decide+kernel);have hm8:=hle ⟨m,h⟩;simp only at hm8;have w1:IntKind.i64.wrap ((Q0i m:Nat):Int)=(Q0i m:Int):=Q0q _ oG oG;have w2:IntKind.i64.wrap ((k:Int)+(Q0i m:Int))=(k:Int)+(Q0i m:Int):=Q0q _ oG oG;rw[w1,w2,hb];congr 2;omega
theorem x2i (v:Nat)(hv:v<18446744073709551616)(st:Q0f):PR 267 [.sc (.int .u64 v)] st (.sc (.int .i64 (Q0i v))):=by
 refine Q0b none Tryz.func267 rfl fun E=>Q0a ?_;have s32:bShr .u64 (v:Int) 32=((v/2^32:Nat):Int):=Q1u .u64 v 32 (by decide);have s16: ∀v:Nat,bShr .u64 (v:Int) 16=((v/2^16:Nat):Int):=fun v=>Q1u .u64 v 16 (by decide);have s8: ∀v:Nat,bShr .u64 (v:Int) 8=((v/2^8:Nat):Int):=fun v=>Q1u .u64 v 8 (by decide);refine W4z (fun h1=> ?_) (fun h1=> ?_)<;>simp-dsimp only[go_sem,h1,s32]<;>
  refine ck (fun h2=> ?_) (fun h2=> ?_)<;>simp-dsimp only[go_sem,h1,s32,s16]<;>
  refine ck (fun h3=> ?_) (fun h3=> ?_)<;>simp-dsimp only[go_sem,h1,s32,s16,s8]
 all_goals simp only[decide_eq_true_eq,decide_eq_false_iff_not] at h1 h2 h3
 exact q0b _ (by decide+kernel) (by decide+kernel) v _ 56 _ _ rfl oG (.inr oG) (by decide) (by rw[Nat.div_div_eq_div_mul,Nat.div_div_eq_div_mul]) (by decide);exact q0b _ (by decide+kernel) (by decide+kernel) v _ 48 _ _ rfl oG (.inr oG) (by decide) (by rw[Nat.div_div_eq_div_mul]) (by decide);exact q0b _ (by decide+kernel) (by decide+kernel) v _ 40 _ _ rfl oG (.inr oG) (by decide) (by rw[Nat.div_div_eq_div_mul]) (by decide);exact q0b _ (by decide+kernel) (by decide+kernel) v _ 32 _ _ rfl oG (.inr oG) (by decide) rfl (by decide);exact q0b _ (by decide+kernel) (by decide+kernel) v _ 24 _ _ rfl oG (.inr oG) (by decide) (by rw[Nat.div_div_eq_div_mul]) (by decide);exact q0b _ (by decide+kernel) (by decide+kernel) v _ 16 _ _ rfl oG (.inr oG) (by decide) rfl (by decide);exact q0b _ (by decide+kernel) (by decide+kernel) v _ 8 _ _ rfl oG (.inr oG) (by decide) rfl (by decide);exact q0b _ (by decide+kernel) (by decide+kernel) v _ 0 _ _ rfl oG (.inl rfl) (by decide) (by simp) (by decide)
theorem U0z (l:List UInt64)(st:Q0f)(hl:l.length<=100000000000000000):PR 223 [.sl .no (encW l)] st (.sc (.int .i64 (X0o l))):=by
 refine W4y Tryz.func223 fun E=> ?_;refine(Y0w l st oG).Q ?_;have hle:=V0h l;refine ck (fun h=> ?_) (fun h=> ?_);simp-dsimp only[go_sem,h];have:cutW l= []:=by
  cases hc:cutW l with
  | nil=>rfl
  | cons a t=>rw[hc] at h;simp at h;omega
 rw[show X0o l=0 from by rw[X0o,(v1x l).1 this];rfl];rfl;have hne:cutW l≠ []:=fun e=>(by rw[e] at h;simp at h);have hpos:0<(cutW l).length:=List.length_pos_iff.2 hne;have e2:IntKind.i64.wrap (((cutW l).length:Int)-1)=(((cutW l).length-1:Nat):Int):=(by rw[Q0q _ oG oG];omega);have e3:=Z0m (cutW l) ((cutW l).length-1) oG;simp-dsimp only[go_sem,h,e2,e3];refine And.intro oG ?_;refine(x2i _ (UInt64.toNat_lt _) st).q ?_;simp-dsimp only[go_sem,h,e2,e3];have hb:=Y1j ((cutW l).getD ((cutW l).length-1) 0).toNat (UInt64.toNat_lt _);rw[Q0q (64*_) oG oG,Q0q _ oG oG,v2h l hne];congr 2
theorem V3c (l:List UInt64)(st:Q0f)(hl:l.length<=10000000000000):PR 300 [.sl .no (encW l)] st (.sl (.fresh 1) (encW l)):=by refine Q0b (some 1) Tryz.func300 rfl fun E=>Q0a ?_;refine Y4w ?_;intro b hb;cases b;refine Y4w ?_;omega;have:l= []:=(by have:=hb rfl;simpa[encW] using this);subst this;exact Y4v
theorem K1j (l:List UInt64)(st:Q0f)(hl:l.length<=10000000000000):PR 271 [.sl .no (encW l)] st (.sl (.fresh 1) (encW (cutW l))):=by refine W4y Tryz.func271 fun E=> ?_;refine(Y0w l st oG).Q ?_;refine(V3c _ st (Nat.le_trans (V0h l) hl)).Q0
theorem y0y (a b:List UInt64)(st:Q0f)(ha:a.length<=10000000000000)(hb:b.length<=10000000000000):PR 226 [.sl .no (encW a),.sl .no (encW b)] st (.sc (.int .i64 (cmpW (valW a) (valW b)))):=by
 refine W4y Tryz.func226 fun E=> ?_;refine(Y0w a st oG).Q ?_;refine(Y0w b st oG).Q ?_;have la:=V0h a;have lb:=V0h b;have ea:cutW (cutW a)=cutW a:=(by rw[<-Z0a a,G0b]);have eb:cutW (cutW b)=cutW b:=(by rw[<-Z0a b,G0b]);rw[<-J0z a,<-J0z b];generalize cutW a=a at*
 generalize cutW b=b at*
 refine ck (fun h=> ?_) (fun h=> ?_);have hne:a.length≠b.length:=x0m h;refine Y4w ?_;refine(z1m _ _ st).Q ?_;rw[Z2k ea eb hne];have hlen:a.length=b.length:=H0b h;have e1:IntKind.i64.wrap ((a.length:Int)-1)=(a.length:Int)-1:=Q0q _ oG oG;simp-dsimp only[go_sem,e1];refine Q0e [true,true,false,false,false,true] 0 0 (fun n s=>n<=a.length/\(∀j,n<=j->j<a.length->a.getD j 0=b.getD j 0)/\s=⟨[.sl .no (encW a),.sl .no (encW b),.junk,.junk,.junk,.sc (.int .i64 ((n:Int)-1))]++jk 39,[],[],st⟩) a.length ?_ ?_;refine Y4w ?_;exact fun j h1 h2=>oG;rintro n s ⟨hn,hz,rfl⟩;refine W4z (fun h=> ?_) (fun h=> ?_);have hp:0<n:=(oT h);have e0:((n:Int)-1)=((n-1:Nat):Int):=oG;have g1:=Z0m a (n-1) oG;have g2:=Z0m b (n-1) oG;have e3:IntKind.i64.wrap (((n-1:Nat):Int)-1)=((n-1:Nat):Int)-1:=Q0q _ oG oG;refine Y4w ?_;rw[e0];refine Q0k Z0b 45 (X2p [0,1,2,3,4,5,6,7,8] .done) (by decide+kernel) (by simp) ?_;simp-dsimp only[go_sem,g1,g2];refine⟨oG,oG,ck (fun h2=> ?_) (fun h2=> ?_)⟩;have hne:a.getD (n-1) 0≠b.getD (n-1) 0:=fun e=>(by rw[e] at h2;simp at h2);refine Y4w ?_;refine Q0k Z0b 45 (X2p [0,1,2,3,4,5,6,7,8,9] .done) (by decide+kernel) (by simp) ?_;simp-dsimp only[go_sem,g1,g2];refine⟨oG,oG,?_⟩;refine(V3a _ _ st).Q ?_;rw[z3u hlen (n-1) oG (fun j h1 h2=>hz j oG h2) hne];have heq:a.getD (n-1) 0=b.getD (n-1) 0:=UInt64.toNat.inj (H0b h2);simp-dsimp only[go_sem,e3];refine⟨n-1,oG,oG,fun j h1 h2=> ?_,rfl⟩;by_cases hj:j=n-1;subst hj;exact heq;exact hz j oG h2;have h0:n=0:=(oF h);refine Y4w ?_;refine W4u ?_;rw[z0i 0 hlen (fun j hj=>hz j oG hj),cmpW,X1n rfl]
theorem U3s (a o:List UInt64)(k s i:Nat)(hs:s<64)(hi:i<a.length)(ho:o.length=a.length+k+1)
 (hv:valW o=valW (a.take i)*2^(64*k+s)) (hc:(o.getD (i+k) 0).toNat<2^s) (hz: ∀j,i+k<j->o.getD j 0=0):
 let w:=(a.getD i 0).toNat
 let lo:=UInt64.ofNat ((o.getD (i+k) 0).toNat+w*2^s % 18446744073709551616)
 let hi':=UInt64.ofNat (w/2^(64-s))
 bOr .u64 ((o.getD (i+k) 0).toNat:Int) (bShl .u64 (w:Int) (s:Int))=(lo.toNat:Int)/\bShr .u64 (w:Int) ((64-s:Nat):Int)=(hi'.toNat:Int)/\
 valW ((o.set (i+k) lo).set (i+k+1) hi')=valW (a.take (i+1))*2^(64*k+s)/\hi'.toNat<2^s:=by
 intro w lo hi';have hw:w<18446744073709551616:=UInt64.toNat_lt _;have hlt:=Nat.mod_lt (w*2^s) (show 18446744073709551616>0 by decide);have hor:=V1n (o.getD (i+k) 0).toNat (w*2^s % 18446744073709551616) s hc (v0z w s oG);have hsum:(o.getD (i+k) 0).toNat+w*2^s % 18446744073709551616<18446744073709551616:=by rw[<-hor];exact Nat.or_lt_two_pow (n:=64) (UInt64.toNat_lt _) hlt
 have elo:lo.toNat=(o.getD (i+k) 0).toNat+w*2^s % 18446744073709551616:=Z0s _ hsum;have hsr:=W3m w s hw oG;have h2:2^s<=2^64:=Nat.pow_le_pow_right (by decide) oG;have ehi:hi'.toNat=w/2^(64-s):=Z0s _ oG;refine⟨?_,?_,?_,by rw[ehi];exact hsr⟩;rw[q0i w s oG,Y1l _ _ (UInt64.toNat_lt _) hlt,hor,elo];rw[W0s w (64-s) oG,ehi];have e1:=H0q o (i+k) lo oG;have e2:=H0q (o.set (i+k) lo) (i+k+1) hi' (by simp;omega);rw[K0e,if_neg oG,hz (i+k+1) oG] at e2;rw[X0e a i hi,Nat.add_mul,<-hv];have e3:18446744073709551616^i*w*2^(64*k+s)=18446744073709551616^(i+k)*(w*2^s):=by rw[Nat.pow_add 18446744073709551616 i k,y0p k,Nat.pow_add];simp only[Nat.mul_assoc,Nat.mul_left_comm,Nat.mul_comm]
 show _=_+18446744073709551616^i*w*2^(64*k+s);rw[e3,x1v w s hw oG,Nat.mul_add,<-Nat.mul_assoc,show 18446744073709551616^(i+k)*18446744073709551616=18446744073709551616^(i+k+1) from(Nat.pow_succ ..).symm];rw[elo,Nat.mul_add] at e1;rw[ehi] at e2;have z0:(0:UInt64).toNat=0:=rfl;rw[z0,Nat.mul_zero] at e2;omega
theorem up_c (a:List UInt64)(n:Nat)(st:Q0f)(ha:a.length<=1000000000000)(hn:n<=1000000000000):PR 227 [.sl .no (encW a),.sc (.int .i64 n)] st (.sl .no (encW (Q0p (valW a*2^n)))):=by
 refine W4y Tryz.func227 fun E=> ?_;refine(Y0w a st oG).Q ?_;have la:=V0h a;rw[<-J0z a];generalize cutW a=a at*
 refine ck (fun h=> ?_) (fun h=> ?_);have h0:a= []:=List.length_eq_zero_iff.1 (Y0o (b:=0) h);subst h0;refine Y4w ?_;simp[V0y,J0e,K3i];have h0:0<a.length:=(by have:=H0z (b:=0) h;omega);have eq:IntKind.i64.wrap ((n:Int).tdiv 64)=((n/64:Nat):Int):=(by rw[show(64:Int)=((64:Nat):Int) from rfl,H0t,Q0n _ oG]);have er:(n:Int).tmod 64=((n % 64:Nat):Int):=(by rw[show(64:Int)=((64:Nat):Int) from rfl,H0s]);have hnk:n=64*(n/64)+n % 64:=oG;generalize n/64=k at*
 generalize hs:n % 64=s at*
 have hs':s<64:=oG;have e1:IntKind.i64.wrap ((a.length:Int)+(k:Int))=((a.length+k:Nat):Int):=(by rw[<-Int.natCast_add,Q0n _ oG]);have e2:IntKind.i64.wrap (((a.length+k:Nat):Int)+1)=((a.length+k+1:Nat):Int):=(by rw[show(((a.length+k:Nat):Int)+1)=((a.length+k+1:Nat):Int) from rfl,Q0n _ oG]);obtain⟨m0,hm0⟩: ∃m0,m0=a.length+k+1:=⟨_,rfl⟩;rw[<-hm0] at e2;simp-dsimp only[go_sem,eq,er,e1,e2];refine⟨⟨oG,oG,oG⟩,?_⟩;refine Q0e ([false,false,false,false,false,true,true,true]++rF 17++ [true,true,true]) 1 0
  (fun m s'=> ∃i o,m=a.length-i/\i<=a.length/\o.length=m0/\valW o=valW (a.take i)*2^(64*k+s)/\(o.getD (i+k) 0).toNat<2^s/\(∀j,i+k<j->o.getD j 0=0)/\
   s'=⟨[.junk,.junk,.junk,.junk,.junk,.sc (.int .i64 k),.sc (.int .i64 s),.ms false 0 0 m0]++jk 17++ [.sl .no (encW a),.sc (.int .i64 a.length),.sc (.int .i64 i)]++jk 28,[encW o],[],st⟩) a.length ?_ ?_
 refine Y4w ?_;refine⟨0,List.replicate m0 0,oG,oG,by simp,by simp[Z1a,V0y],?_,fun j hj=>V0c _ _ _,rfl⟩;rw[V0c];exact Nat.pow_pos (by decide);rintro m s' ⟨i,o,rfl,hi,ho,hv,hc,hz,rfl⟩;refine W4z (fun h=> ?_) (fun h=> ?_);have hlt:i<a.length:=(oT h);have g1:=Z0m a i hlt;have g2:=Z0m o (i+k) oG;obtain⟨s1,s2,s3,s4⟩:=U3s a o k s i hs' hlt oG hv hc hz;have x1:IntKind.i64.wrap ((i:Int)+(k:Int))=((i+k:Nat):Int):=(by rw[<-Int.natCast_add,Q0n _ oG]);have x2:IntKind.i64.wrap (((i+k:Nat):Int)+1)=((i+k+1:Nat):Int):=(by rw[show(((i+k:Nat):Int)+1)=((i+k+1:Nat):Int) from rfl,Q0n _ oG]);have x3:IntKind.i64.wrap (64-(s:Int))=((64-s:Nat):Int):=(by rw[show 64-(s:Int)=((64-s:Nat):Int) from oG,Q0n _ oG]);have x4:IntKind.i64.wrap ((i:Int)+1)=((i+1:Nat):Int):=(by rw[show((i:Int)+1)=((i+1:Nat):Int) from rfl,Q0n _ oG]);have x5:decide (0<=(s:Int))=true:=q_h oG;have x6:decide (0<=((64-s:Nat):Int))=true:=q_h oG;simp-dsimp only[go_sem,g1];refine⟨oG,?_⟩;refine Q0k Z0b 43 (X2p [0,1,2,3,4,5,6,7,8,9,10,11] .done) (by decide+kernel) (by simp) ?_;have o1:=V0u o (i+k) (UInt64.ofNat ((o.getD (i+k) 0).toNat+(a.getD i 0).toNat*2^s % 18446744073709551616)) (show i+k<o.length by omega);have o2:=V0u (o.set (i+k) (UInt64.ofNat ((o.getD (i+k) 0).toNat+(a.getD i 0).toNat*2^s % 18446744073709551616))) (i+k+1) (UInt64.ofNat ((a.getD i 0).toNat/2^(64-s))) (by simp;omega);simp-dsimp only[go_sem,x1,x2,x3,x4,g2,s1,s2,x5,x6,o1,o2];refine⟨⟨oG,oG⟩,oG,⟨oG,oG⟩,⟨oG,oG⟩,⟨oG,oG⟩,⟨by simp;omega,by simp;omega⟩,a.length-(i+1),oG,i+1,_,rfl,oG,by simp[ho],s3,?_,fun j hj=> ?_,rfl⟩;rw[show i+1+k=i+k+1 from oG,K0e,if_pos ⟨rfl,by simp;omega⟩];exact s4;rw[K0e,if_neg oG,K0e,if_neg oG,hz j oG];have hge:i=a.length:=(oF h);subst hge;have ht:o.take m0=o:=List.take_of_length_le oG;have hle:m0<=o.length:=oG;refine Y4w ?_;refine Z0j 0 ?_ ?_;exact Y4v;refine Q0a ?_;simp-dsimp only[go_sem,ht,hle];refine(Y0w o st oG).Q ?_;rw[<-Z0a o,hv,List.take_length,hnk]
end Go.Pv
end
