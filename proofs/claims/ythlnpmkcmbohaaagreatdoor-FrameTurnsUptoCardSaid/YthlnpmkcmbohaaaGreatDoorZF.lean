/- Parts of the walk: F1, F2, F3, F4, F5, F6, F7, F8, F9. -/
import Derived.Test.YthlnpmkcmbohaaaGreatDoorZE
set_option linter.unusedVariables false
set_option linter.unusedSimpArgs false
section
set_option maxRecDepth 100000
namespace Go.Pv
open Go.Proofs
theorem J6 (l:List UInt64)(st:Qf)(hl:l.length<=9223372036854775807):PR 155 [.sl .no (Q2 l)] st (.sl .no (Q2 (XL l))):=by refine U2m Tryz.func155 fun E=> ?_;refine Qd [true,false,false,true] 0 0 (fun n s=>n<=l.length/\(∀j,n<=j->j<l.length->l.getD j 0=0)/\s=⟨[.sl .no (Q2 l),.junk,.junk,.sc (.int .i64 n)]++jk 17,[],[],st⟩) l.length ?_ ?_;refine G2s ?_;exact fun j h1 h2=>oG;rintro n s ⟨hn,hz,rfl⟩;have out:n=0\/l.getD (n-1) 0≠0->(PV.sl Tag.no (Q2 (l.take n))=PV.sl .no (Q2 (XL l))):=fun h=>(by rw[Z0h l n hn hz h]);rcases Nat.eq_zero_or_pos n with rfl | hp;have hd:decide (((0:Nat):Int)>0)=false:=(by simp);simp-dsimp only[go_sem,hd];refine U2i ?_;exact⟨oG,out (.inl rfl)⟩;have hd:decide ((n:Int)>0)=true:=q_h oG;have e1:IntKind.i64.wrap ((n:Int)-1)=((n-1:Nat):Int):=(by rw[Qw _ oG oG];omega);have e2:=QC l (n-1) oG;simp-dsimp only[go_sem,hd,e1,e2];refine⟨oG,ck (fun h=> ?_) (fun h=> ?_)⟩;simp-dsimp only[go_sem,e1];refine⟨n-1,oG,oG,fun j h1 h2=> ?_,rfl⟩;by_cases hj:j=n-1;subst hj;have h':((l.getD (n-1) 0).toNat:Int)=0:=(by simpa using h);exact FH (by have:(0:UInt64).toNat=0:=rfl;omega);exact hz j oG h2;refine G2s ?_;refine U2i ?_;refine⟨oG,out (.inr fun e=> ?_)⟩;rw[e] at h;cases h
--nat.Right
theorem W0v (l:List UInt64)(st:Qf)(hl:l.length<=9223372036854775807):PR 124 [.sl .no (Q2 l)] st (.sc (.bool (decide ((XL l).length=l.length)))):=by refine U2m Tryz.func124 fun E=> ?_;refine(J6 l st hl).Q ?_;exact B4 (fun b=>PV.sc (.bool b)) (by by_cases h:(XL l).length=l.length;rw[q_h h,h];simp;rw[q_g h];simp;omega)
theorem xB (n:Nat)(h:n<18446744073709551616):GF .u64 (n:Int) 1=((n % 2:Nat):Int):=by
 unfold GF;have e:(BitVec.ofInt IntKind.u64.bits (n:Int)&&&BitVec.ofInt IntKind.u64.bits 1).toNat=n % 2:=by have e1:BitVec.ofInt IntKind.u64.bits (n:Int)=BitVec.ofNat 64 n:=(by simp[IntKind.bits]);have e2:BitVec.ofInt IntKind.u64.bits 1=BitVec.ofNat 64 1:=rfl;rw[e1,e2];show(BitVec.ofNat 64 n&&&BitVec.ofNat 64 1).toNat=n % 2;rw[BitVec.toNat_and,D4,D4,BJ (by omega:n<2^64)];exact Nat.and_one_is_mod n
 rw[e];exact ZS _ oG
theorem Zh (x:Nm)(st:Qf)(hl:x.w.length<=9223372036854775807):PR 83 [.agg (Q9 x)] st (.sc (.bool (Qg x))):=by
 refine U2m Tryz.func83 fun E=> ?_;have hlen:(((x.w.length:Nat):Int)==0)=decide (x.w= []):=by
  cases hw:x.w<;>simp
  omega
 refine ck (fun h=> ?_) (fun h=> ?_);have hw:x.w= []:=(by rw[hlen] at h;exact q_b h);simp-dsimp only[go_sem,h];refine gkT (fun h1=> ?_) (fun h1=> ?_);simp-dsimp only[go_sem,h,h1];simp[Qg,hw,h1];simp-dsimp only[go_sem,h,h1];simp[Qg,hw,h1]
 . have hw:x.w≠ []:=by rw[hlen] at h;exact q_c h
   simp-dsimp only[go_sem,h];refine(W0v x.w st hl).q ?_;simp-dsimp only[go_sem,h];have e0:=QC x.w 0 (by cases hx:x.w with | nil=>exact absurd hx hw | cons=>simp);have e1:=xB (x.w.getD 0 0).toNat (x.w.getD 0 0).toNat_lt;have hpos:0<x.w.length:=EN.2 hw
   repeat' (first
    | (refine gkF (fun h=> ?_) (fun h=> ?_)<;>simp-dsimp only[go_sem,h,e0,e1])
    | (refine gkT (fun h=> ?_) (fun h=> ?_)<;>simp-dsimp only[go_sem,h,e0,e1])
    | (refine ck (fun h=> ?_) (fun h=> ?_)<;>simp-dsimp only[go_sem,h,e0,e1])
    | refine And.intro oG ?_)
   all_goals simp_all [Qg]
   all_goals omega
theorem XG (x:Nm)(st:Qf)(hl:x.w.length<=9223372036854775807):PR 59 [.agg (Q9 x)] st (.sc (.bool (Qg x))):=by
 refine U2m Tryz.func59 fun E=> ?_;have hlen:(((x.w.length:Nat):Int)==0)=decide (x.w= []):=by
  cases hw:x.w<;>simp
  omega
 refine ck (fun h=> ?_) (fun h=> ?_);have hw:x.w= []:=(by rw[hlen] at h;exact q_b h);simp-dsimp only[go_sem,h];refine gkT (fun h1=> ?_) (fun h1=> ?_);simp-dsimp only[go_sem,h,h1];simp[Qg,hw,h1];simp-dsimp only[go_sem,h,h1];simp[Qg,hw,h1]
 . have hw:x.w≠ []:=by rw[hlen] at h;exact q_c h
   have hpos:0<x.w.length:=EN.2 hw;have e0:=QC x.w 0 hpos;have e1:=xB (x.w.getD 0 0).toNat (x.w.getD 0 0).toNat_lt;have e2:IntKind.i64.wrap ((x.w.length:Int)-1)=((x.w.length-1:Nat):Int):=(by rw[Qw _ oG oG];omega);have e3:=QC x.w (x.w.length-1) oG;have hc:=qP x.w hw;simp-dsimp only[go_sem,h]
   repeat' (first
    | (refine gkF (fun h=> ?_) (fun h=> ?_)<;>simp-dsimp only[go_sem,h,e0,e1,e2,e3])
    | (refine gkT (fun h=> ?_) (fun h=> ?_)<;>simp-dsimp only[go_sem,h,e0,e1,e2,e3])
    | (refine ck (fun h=> ?_) (fun h=> ?_)<;>simp-dsimp only[go_sem,h,e0,e1,e2,e3])
    | refine And.intro oG ?_)
   all_goals rw[Qg,BA hw]
   all_goals clear e0 e1 e2 e3 hlen
   all_goals generalize x.w.getD (x.w.length-1) 0=z at*
   all_goals have hz:z=0<->z.toNat=0:=⟨fun h=>by rw[h];rfl,fun h=>FH h⟩
   all_goals simp_all
   all_goals omega
theorem Wt (x y:Nm)(st:Qf)(hl:x.w.length<=9223372036854775806)(hl2:y.w.length<=9223372036854775806):PR 39 [.agg (Q9 x),.agg (Q9 y)] st (.sc (.bool (decide (x=y)))):=by
 refine U2m Tryz.func39 fun E=> ?_
 repeat' (first
  | (refine gkF (fun h=> ?_) (fun h=> ?_)<;>simp-dsimp only[go_sem,h])
  | (refine gkT (fun h=> ?_) (fun h=> ?_)<;>simp-dsimp only[go_sem,h])
  | (refine ck (fun h=> ?_) (fun h=> ?_)<;>simp-dsimp only[go_sem,h])
  | refine And.intro oG ?_)
 case refine_1.refine_1.refine_2=>
  have hneg:= ‹(!x.neg==y.neg)=false›;have hexp:= ‹(x.exp !=y.exp)=false›;have hn:= ‹((x.w.length:Int) !=(y.w.length:Int))=false›;have hneg':x.neg=y.neg:=(by cases hx:x.neg<;>cases hy:y.neg<;>simp[hx,hy] at hneg⊢);have hexp':x.exp=y.exp:=by simpa using hexp
  have hn':x.w.length=y.w.length:=by have:(x.w.length:Int)=y.w.length:=by simpa using hn
                                     omega
  refine Qd [false,false,true,true,false,true] 2 0 (fun n s=> ∃i,n=x.w.length-i/\i<=x.w.length/\(∀j,j<i->x.w.getD j 0=y.w.getD j 0)/\s=⟨[.junk,.junk,.lp 0 0,.lp 1 0,.junk,.sc (.int .i64 i)]++jk 39,[Q9 x,Q9 y],[],st⟩) x.w.length ?_ ?_;refine G2s ?_;exact⟨0,oG,oG,fun j hj=>oG,rfl⟩;rintro n s ⟨i,rfl,hi,hj,rfl⟩;refine U2n (fun h=> ?_) (fun h=> ?_);have hlt:i<x.w.length:=(oT h);have e1:=QC x.w i hlt;have e2:=QC y.w i oG;have e3:IntKind.i64.wrap ((i:Int)+1)=((i+1:Nat):Int):=(by rw[Qw _ oG oG];omega);simp-dsimp only[go_sem,h];refine Qm QH 45 (X0p [0,1,2,3,4,5,6,7,8,9,10] .done) (by decide+kernel) (by simp) ?_;simp-dsimp only[go_sem,h,e1,e2];refine⟨oG,oG,ck (fun h2=> ?_) (fun h2=> ?_)⟩;simp-dsimp only[go_sem,h2];rw[q_g (fun e=>by subst e;simp at h2)];simp-dsimp only[go_sem,h2,e3];refine⟨x.w.length-(i+1),oG,i+1,rfl,oG,fun j hj'=> ?_,rfl⟩;by_cases hji:j=i
  subst hji;exact FH (by have:((x.w.getD j 0).toNat:Int)=(y.w.getD j 0).toNat:=by simpa using h2
                         omega)
  exact hj j oG;have hge:i=x.w.length:=(oF h);simp-dsimp only[go_sem,h];refine Qa ?_;simp-dsimp only[go_sem,h];rw[q_h];have hw:x.w=y.w:=C9 hn' fun j h1 h2=>by have:=hj j oG;simpa[q_a,h1,h2] using this
  cases x;cases y;simp_all
 all_goals rw[q_g (fun e=>by subst e;simp at*)]
theorem xg (a:Int)(st:Qf):PR 156 [.sc (.int .i64 a)] st (.sc (.bool false)):=by refine Qb none Tryz.func156 rfl fun E=>Qa ?_;exact G2r
theorem xf (a:Int)(st:Qf):PR 182 [.sc (.int .i64 a)] st (.sc (.bool false)):=by refine Qb none Tryz.func182 rfl fun E=>Qa ?_;exact G2r
theorem xe (a:Int)(st:Qf):PR 197 [.sc (.int .u64 a)] st (.sc (.bool false)):=by refine Qb none Tryz.func197 rfl fun E=>Qa ?_;exact G2r
theorem jT (a b:Int)(st:Qf):PR 126 [.sc (.int .i64 a),.sc (.int .i64 b)] st (.sc (.int .i64 (V2 a b))):=by
 refine U2m Tryz.func126 fun E=> ?_;refine(xg a st).Q ?_;refine(xg b st).Q ?_
 repeat' (refine ck (fun h=> ?_) (fun h=> ?_)<;>simp-dsimp only[go_sem,h])
 all_goals simp_all [V2]
 rw[BA oG,BA oG]
theorem V1j (a b:Int)(st:Qf):PR 157 [.sc (.int .i64 a),.sc (.int .i64 b)] st (.sc (.int .i64 (V2 a b))):=by
 refine U2m Tryz.func157 fun E=> ?_;refine(xf a st).Q ?_;refine(xf b st).Q ?_
 repeat' (refine ck (fun h=> ?_) (fun h=> ?_)<;>simp-dsimp only[go_sem,h])
 all_goals simp_all [V2]
 rw[BA oG,BA oG]
theorem V1i (a b:Int)(st:Qf):PR 183 [.sc (.int .u64 a),.sc (.int .u64 b)] st (.sc (.int .i64 (V2 a b))):=by
 refine U2m Tryz.func183 fun E=> ?_;refine(xe a st).Q ?_;refine(xe b st).Q ?_
 repeat' (refine ck (fun h=> ?_) (fun h=> ?_)<;>simp-dsimp only[go_sem,h])
 all_goals simp_all [V2]
 rw[BA oG,BA oG]
theorem KL (T:Array UInt8)(hs:T.size=256)(hT: ∀n:Fin 256,(T.getD n 0).toNat=Qh n)(v m k:Nat)(c d:Int)(hm:v/2^k=m)(h:m<256)(hk:k=0\/m≠0)(hk2:k<=56)(hc:c=(m:Int))(hd:d=(k:Int)):
 (IntKind.u8.wrap c).toNat<T.size/\PV.sc (.int .i64 (IntKind.i64.wrap (d+IntKind.i64.wrap ((T.getD (IntKind.u8.wrap c).toNat 0).toNat:Int))))=PV.sc (.int .i64 (Qh v)):=by
 subst hc hd;have e1:(IntKind.u8.wrap (m:Int)).toNat=m:=(by rw[U1r,BJ h];simp);rw[e1,hs];refine⟨h,?_⟩;have hT':=hT ⟨m,h⟩;simp only at hT';rw[hT'];have hb:Qh v=Qh m+k:=by rcases hk with rfl | hk;simp at hm;simp[hm];rw[<-hm];exact HD v k (by rw[hm];exact hk)
 have hle: ∀n:Fin 256,Qh n<=8:=(by decide+kernel);have hm8:=hle ⟨m,h⟩;simp only at hm8;have w1:IntKind.i64.wrap ((Qh m:Nat):Int)=(Qh m:Int):=Qw _ oG oG;have w2:IntKind.i64.wrap ((k:Int)+(Qh m:Int))=(k:Int)+(Qh m:Int):=Qw _ oG oG;rw[w1,w2,hb];congr 2;omega
theorem x0d (v:Nat)(hv:v<18446744073709551616)(st:Qf):PR 177 [.sc (.int .u64 v)] st (.sc (.int .i64 (Qh v))):=by
 refine Qb none Tryz.func177 rfl fun E=>Qa ?_;have s32:Wg .u64 (v:Int) 32=((v/2^32:Nat):Int):=G9 .u64 v 32 (by decide);have s16: ∀v:Nat,Wg .u64 (v:Int) 16=((v/2^16:Nat):Int):=fun v=>G9 .u64 v 16 (by decide);have s8: ∀v:Nat,Wg .u64 (v:Int) 8=((v/2^8:Nat):Int):=fun v=>G9 .u64 v 8 (by decide);refine U2n (fun h1=> ?_) (fun h1=> ?_)<;>simp-dsimp only[go_sem,h1,s32]<;>
  refine ck (fun h2=> ?_) (fun h2=> ?_)<;>simp-dsimp only[go_sem,h1,s32,s16]<;>
  refine ck (fun h3=> ?_) (fun h3=> ?_)<;>simp-dsimp only[go_sem,h1,s32,s16,s8]
 all_goals simp only[BN,decide_eq_false_iff_not] at h1 h2 h3
 exact KL _ (by decide+kernel) (by decide+kernel) v _ 56 _ _ rfl oG (.inr oG) (by decide) (by rw[CV,CV]) (by decide);exact KL _ (by decide+kernel) (by decide+kernel) v _ 48 _ _ rfl oG (.inr oG) (by decide) (by rw[CV]) (by decide);exact KL _ (by decide+kernel) (by decide+kernel) v _ 40 _ _ rfl oG (.inr oG) (by decide) (by rw[CV]) (by decide);exact KL _ (by decide+kernel) (by decide+kernel) v _ 32 _ _ rfl oG (.inr oG) (by decide) rfl (by decide);exact KL _ (by decide+kernel) (by decide+kernel) v _ 24 _ _ rfl oG (.inr oG) (by decide) (by rw[CV]) (by decide);exact KL _ (by decide+kernel) (by decide+kernel) v _ 16 _ _ rfl oG (.inr oG) (by decide) rfl (by decide);exact KL _ (by decide+kernel) (by decide+kernel) v _ 8 _ _ rfl oG (.inr oG) (by decide) rfl (by decide);exact KL _ (by decide+kernel) (by decide+kernel) v _ 0 _ _ rfl oG (.inl rfl) (by decide) (by simp) (by decide)
theorem JV (l:List UInt64)(st:Qf)(hl:l.length<=100000000000000000):PR 149 [.sl .no (Q2 l)] st (.sc (.int .i64 (Zd l))):=by
 refine U2m Tryz.func149 fun E=> ?_;refine(J6 l st oG).Q ?_;have hle:=Xt l;refine ck (fun h=> ?_) (fun h=> ?_);simp-dsimp only[go_sem,h];have:XL l= []:=by
  cases hc:XL l with
  | nil=>rfl
  | cons a t=>rw[hc] at h;simp at h;omega
 rw[show Zd l=0 from by rw[Zd,(wR l).1 this];rfl];rfl;have hne:XL l≠ []:=fun e=>(by rw[e] at h;simp at h);have hpos:0<(XL l).length:=EN.2 hne;have e2:IntKind.i64.wrap (((XL l).length:Int)-1)=(((XL l).length-1:Nat):Int):=(by rw[Qw _ oG oG];omega);have e3:=QC (XL l) ((XL l).length-1) oG;simp-dsimp only[go_sem,h,e2,e3];refine And.intro oG ?_;refine(x0d _ (BT _) st).q ?_;simp-dsimp only[go_sem,h,e2,e3];have hb:=qY ((XL l).getD ((XL l).length-1) 0).toNat (BT _);rw[Qw (64*_) oG oG,Qw _ oG oG,v0q l hne];congr 2
theorem V1k (l:List UInt64)(st:Qf)(hl:l.length<=10000000000000):PR 196 [.sl .no (Q2 l)] st (.sl (.fresh 1) (Q2 l)):=by refine Qb (some 1) Tryz.func196 rfl fun E=>Qa ?_;refine G2s ?_;intro b hb;cases b;refine G2s ?_;omega;have:l= []:=(by have:=hb rfl;simpa[Q2] using this);subst this;exact G2r
theorem Ix (l:List UInt64)(st:Qf)(hl:l.length<=10000000000000):PR 180 [.sl .no (Q2 l)] st (.sl (.fresh 1) (Q2 (XL l))):=by refine U2m Tryz.func180 fun E=> ?_;refine(J6 l st oG).Q ?_;refine(V1k _ st (B7 (Xt l) hl)).Q0
theorem Gc (a b:List UInt64)(st:Qf)(ha:a.length<=10000000000000)(hb:b.length<=10000000000000):PR 158 [.sl .no (Q2 a),.sl .no (Q2 b)] st (.sc (.int .i64 (Y9 (Qi a) (Qi b)))):=by
 refine U2m Tryz.func158 fun E=> ?_;refine(J6 a st oG).Q ?_;refine(J6 b st oG).Q ?_;have la:=Xt a;have lb:=Xt b;have ea:XL (XL a)=XL a:=(by rw[<-Q3 a,Ka]);have eb:XL (XL b)=XL b:=(by rw[<-Q3 b,Ka]);rw[<-ZM a,<-ZM b];generalize XL a=a at*
 generalize XL b=b at*
 refine ck (fun h=> ?_) (fun h=> ?_);have hne:a.length≠b.length:=YG h;refine G2s ?_;refine(jT _ _ st).Q ?_;rw[Z0j ea eb hne];have hlen:a.length=b.length:=Vq h;have e1:IntKind.i64.wrap ((a.length:Int)-1)=(a.length:Int)-1:=Qw _ oG oG;simp-dsimp only[go_sem,e1];refine Qd [true,true,false,false,false,true] 0 0 (fun n s=>n<=a.length/\(∀j,n<=j->j<a.length->a.getD j 0=b.getD j 0)/\s=⟨[.sl .no (Q2 a),.sl .no (Q2 b),.junk,.junk,.junk,.sc (.int .i64 ((n:Int)-1))]++jk 39,[],[],st⟩) a.length ?_ ?_;refine G2s ?_;exact fun j h1 h2=>oG;rintro n s ⟨hn,hz,rfl⟩;refine U2n (fun h=> ?_) (fun h=> ?_);have hp:0<n:=(oT h);have e0:((n:Int)-1)=((n-1:Nat):Int):=oG;have g1:=QC a (n-1) oG;have g2:=QC b (n-1) oG;have e3:IntKind.i64.wrap (((n-1:Nat):Int)-1)=((n-1:Nat):Int)-1:=Qw _ oG oG;refine G2s ?_;rw[e0];refine Qm QH 45 (X0p [0,1,2,3,4,5,6,7,8] .done) (by decide+kernel) (by simp) ?_;simp-dsimp only[go_sem,g1,g2];refine⟨oG,oG,ck (fun h2=> ?_) (fun h2=> ?_)⟩;have hne:a.getD (n-1) 0≠b.getD (n-1) 0:=fun e=>(by rw[e] at h2;simp at h2);refine G2s ?_;refine Qm QH 45 (X0p [0,1,2,3,4,5,6,7,8,9] .done) (by decide+kernel) (by simp) ?_;simp-dsimp only[go_sem,g1,g2];refine⟨oG,oG,?_⟩;refine(V1i _ _ st).Q ?_;rw[x1f hlen (n-1) oG (fun j h1 h2=>hz j oG h2) hne];have heq:a.getD (n-1) 0=b.getD (n-1) 0:=FH (Vq h2);simp-dsimp only[go_sem,e3];refine⟨n-1,oG,oG,fun j h1 h2=> ?_,rfl⟩;by_cases hj:j=n-1;subst hj;exact heq;exact hz j oG h2;have h0:n=0:=(oF h);refine G2s ?_;refine U2i ?_;rw[Vy 0 hlen (fun j hj=>hz j oG hj),Y9,Hu rfl]
theorem G1b (a o:List UInt64)(k s i:Nat)(hs:s<64)(hi:i<a.length)(ho:o.length=a.length+k+1)
 (hv:Qi o=Qi (a.take i)*2^(64*k+s)) (hc:(o.getD (i+k) 0).toNat<2^s) (hz: ∀j,i+k<j->o.getD j 0=0):
 let w:=(a.getD i 0).toNat
 let lo:=UInt64.ofNat ((o.getD (i+k) 0).toNat+w*2^s % 18446744073709551616)
 let hi':=UInt64.ofNat (w/2^(64-s))
 bOr .u64 ((o.getD (i+k) 0).toNat:Int) (xA .u64 (w:Int) (s:Int))=(lo.toNat:Int)/\Wg .u64 (w:Int) ((64-s:Nat):Int)=(hi'.toNat:Int)/\
 Qi ((o.set (i+k) lo).set (i+k+1) hi')=Qi (a.take (i+1))*2^(64*k+s)/\hi'.toNat<2^s:=by
 intro w lo hi';have hw:w<18446744073709551616:=BT _;have hlt:=CG (w*2^s) (show 18446744073709551616>0 by decide);have hor:=zS (o.getD (i+k) 0).toNat (w*2^s % 18446744073709551616) s hc (YW w s oG);have hsum:(o.getD (i+k) 0).toNat+w*2^s % 18446744073709551616<18446744073709551616:=by rw[<-hor];exact F2 (n:=64) (BT _) hlt
 have elo:lo.toNat=(o.getD (i+k) 0).toNat+w*2^s % 18446744073709551616:=QS _ hsum;have hsr:=W1t w s hw oG;have h2:2^s<=2^64:=BS (by decide) oG;have ehi:hi'.toNat=w/2^(64-s):=QS _ oG;refine⟨?_,?_,?_,by rw[ehi];exact hsr⟩;rw[KR w s oG,qZ _ _ (BT _) hlt,hor,elo];rw[XY w (64-s) oG,ehi];have e1:=KG o (i+k) lo oG;have e2:=KG (o.set (i+k) lo) (i+k+1) hi' (by simp;omega);rw[ZO,BA oG,hz (i+k+1) oG] at e2;rw[Ze a i hi,BQ,<-hv];have e3:18446744073709551616^i*w*2^(64*k+s)=18446744073709551616^(i+k)*(w*2^s):=by rw[B2 18446744073709551616 i k,UV k,B2];simp only[BW,EL,BM]
 show _=_+18446744073709551616^i*w*2^(64*k+s);rw[e3,kA w s hw oG,CE,<-BW,show 18446744073709551616^(i+k)*18446744073709551616=18446744073709551616^(i+k+1) from(B5 ..).symm];rw[elo,CE] at e1;rw[ehi] at e2;have z0:(0:UInt64).toNat=0:=rfl;rw[z0,DQ] at e2;omega
theorem G1c (a:List UInt64)(n:Nat)(st:Qf)(ha:a.length<=1000000000000)(hn:n<=1000000000000):PR 152 [.sl .no (Q2 a),.sc (.int .i64 n)] st (.sl .no (Q2 (Qp (Qi a*2^n)))):=by
 refine U2m Tryz.func152 fun E=> ?_;refine(J6 a st oG).Q ?_;have la:=Xt a;rw[<-ZM a];generalize XL a=a at*
 refine ck (fun h=> ?_) (fun h=> ?_);have h0:a= []:=BZ.1 (JU (b:=0) h);subst h0;refine G2s ?_;simp[XF,Zy,K1p];have h0:0<a.length:=(by have:=Vr (b:=0) h;omega);have eq:IntKind.i64.wrap ((n:Int).tdiv 64)=((n/64:Nat):Int):=(by rw[show(64:Int)=((64:Nat):Int) from rfl,V8,Qn _ oG]);have er:(n:Int).tmod 64=((n % 64:Nat):Int):=(by rw[show(64:Int)=((64:Nat):Int) from rfl,V7]);have hnk:n=64*(n/64)+n % 64:=oG;generalize n/64=k at*
 generalize hs:n % 64=s at*
 have hs':s<64:=oG;have e1:IntKind.i64.wrap ((a.length:Int)+(k:Int))=((a.length+k:Nat):Int):=(by rw[<-C7,Qn _ oG]);have e2:IntKind.i64.wrap (((a.length+k:Nat):Int)+1)=((a.length+k+1:Nat):Int):=(by rw[show(((a.length+k:Nat):Int)+1)=((a.length+k+1:Nat):Int) from rfl,Qn _ oG]);obtain⟨m0,hm0⟩: ∃m0,m0=a.length+k+1:=⟨_,rfl⟩;rw[<-hm0] at e2;simp-dsimp only[go_sem,eq,er,e1,e2];refine⟨⟨oG,oG,oG⟩,?_⟩;refine Qd ([false,false,false,false,false,true,true,true]++rF 17++ [true,true,true]) 1 0
  (fun m s'=> ∃i o,m=a.length-i/\i<=a.length/\o.length=m0/\Qi o=Qi (a.take i)*2^(64*k+s)/\(o.getD (i+k) 0).toNat<2^s/\(∀j,i+k<j->o.getD j 0=0)/\
   s'=⟨[.junk,.junk,.junk,.junk,.junk,.sc (.int .i64 k),.sc (.int .i64 s),.ms false 0 0 m0]++jk 17++ [.sl .no (Q2 a),.sc (.int .i64 a.length),.sc (.int .i64 i)]++jk 28,[Q2 o],[],st⟩) a.length ?_ ?_
 refine G2s ?_;refine⟨0,List.replicate m0 0,oG,oG,by simp,by simp[GG,XF],?_,fun j hj=>Xq _ _ _,rfl⟩;rw[Xq];exact DJ (by decide);rintro m s' ⟨i,o,rfl,hi,ho,hv,hc,hz,rfl⟩;refine U2n (fun h=> ?_) (fun h=> ?_);have hlt:i<a.length:=(oT h);have g1:=QC a i hlt;have g2:=QC o (i+k) oG;obtain⟨s1,s2,s3,s4⟩:=G1b a o k s i hs' hlt oG hv hc hz;have x1:IntKind.i64.wrap ((i:Int)+(k:Int))=((i+k:Nat):Int):=(by rw[<-C7,Qn _ oG]);have x2:IntKind.i64.wrap (((i+k:Nat):Int)+1)=((i+k+1:Nat):Int):=(by rw[show(((i+k:Nat):Int)+1)=((i+k+1:Nat):Int) from rfl,Qn _ oG]);have x3:IntKind.i64.wrap (64-(s:Int))=((64-s:Nat):Int):=(by rw[show 64-(s:Int)=((64-s:Nat):Int) from oG,Qn _ oG]);have x4:IntKind.i64.wrap ((i:Int)+1)=((i+1:Nat):Int):=(by rw[show((i:Int)+1)=((i+1:Nat):Int) from rfl,Qn _ oG]);have x5:decide (0<=(s:Int))=true:=q_h oG;have x6:decide (0<=((64-s:Nat):Int))=true:=q_h oG;simp-dsimp only[go_sem,g1];refine⟨oG,?_⟩;refine Qm QH 43 (X0p [0,1,2,3,4,5,6,7,8,9,10,11] .done) (by decide+kernel) (by simp) ?_;have o1:=X9 o (i+k) (UInt64.ofNat ((o.getD (i+k) 0).toNat+(a.getD i 0).toNat*2^s % 18446744073709551616)) (show i+k<o.length by omega);have o2:=X9 (o.set (i+k) (UInt64.ofNat ((o.getD (i+k) 0).toNat+(a.getD i 0).toNat*2^s % 18446744073709551616))) (i+k+1) (UInt64.ofNat ((a.getD i 0).toNat/2^(64-s))) (by simp;omega);simp-dsimp only[go_sem,x1,x2,x3,x4,g2,s1,s2,x5,x6,o1,o2];refine⟨⟨oG,oG⟩,oG,⟨oG,oG⟩,⟨oG,oG⟩,⟨oG,oG⟩,⟨by simp;omega,by simp;omega⟩,a.length-(i+1),oG,i+1,_,rfl,oG,by simp[ho],s3,?_,fun j hj=> ?_,rfl⟩;rw[show i+1+k=i+k+1 from oG,ZO,BC ⟨rfl,by simp;omega⟩];exact s4;rw[ZO,BA oG,ZO,BA oG,hz j oG];have hge:i=a.length:=(oF h);subst hge;have ht:o.take m0=o:=BF oG;have hle:m0<=o.length:=oG;refine G2s ?_;refine QD 0 ?_ ?_;exact G2r;refine Qa ?_;simp-dsimp only[go_sem,ht,hle];refine(J6 o st oG).Q ?_;rw[<-Q3 o,hv,B0,hnk]
end Go.Pv
end
