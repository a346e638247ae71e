/- Parts of the walk: M104, M105, M107, M108, M109, M110. -/
import Derived.Test.YthlnpmkcmbohaaaGreatDoorZFF
set_option linter.unusedVariables false
set_option linter.unusedSimpArgs false
section
namespace Go.Pv
def kg (u v:List Nm)(p:Int)(i:Nat)(acc:Nm):Nm×Int:=
 if (Qv 2 (u.getD i default) (v.getD i default) p false).2=0/\0<i then Qv 0 acc (Qv 2 (u.getD i default) (v.getD i default) p false).1 p false else Qv 2 (u.getD i default) (v.getD i default) p false
def wJ (u v:List Nm)(p:Int):Nat->Nat->Nm->Nm×Int
 | _,0,acc=>(acc,0)
 | i,k+1,acc=>if (kg u v p i acc).2≠0 then(default,(kg u v p i acc).2) else wJ u v p (i+1) k (kg u v p i acc).1
theorem k0a (u v:List Nm)(p:Int){i n:Nat}(h:i<n)(acc:Nm):wJ u v p i (n-i) acc=if (kg u v p i acc).2≠0 then(default,(kg u v p i acc).2) else wJ u v p (i+1) (n-(i+1)) (kg u v p i acc).1:=by rw[show n-i=(n-(i+1))+1 from oG,wJ]
theorem K1u (u v:List Nm)(p:Int)(n:Nat)(acc:Nm):wJ u v p n (n-n) acc=(acc,0):=by rw[DD];rfl
def zk (u v:List Nm)(p:Int):Nm×Int:=wJ u v p 0 u.length default
theorem Hp (u v:List Nm)(p:Int)(i:Nat)(acc:Nm):Qg (kg u v p i acc).1=true:=by unfold kg;split<;>exact QB _ _ _ _ _
theorem xw (u v:List Nm)(p:Int): ∀(k i:Nat) (acc:Nm),Qg acc=true->Qg (wJ u v p i k acc).1=true
 | 0,_,_,h=>h
 | k+1,i,acc,h=>by unfold wJ;split;rfl;exact xw u v p k _ _ (Hp _ _ _ _ _)
theorem Yu (u v:List Nm)(p:Int):Qg (zk u v p).1=true:=xw _ _ _ _ _ _ rfl
def rowR (n:Nat)(v:List Nm):Prop:=v.length=n/\ ∀c∈v,Qg c=true
theorem rowR.at {n:Nat}{v:List Nm}(h:rowR n v)(i:Nat):Qg (v.getD i default)=true:=by by_cases hi:i<v.length;exact h.2 _ (Qq _ _ _ hi);rw[q_a,C2 oG];rfl
def Y5 (v u:List Nm)(p:Int):List Nm×Int:=
 if (zk u v p).2≠0 then([],(zk u v p).2) else if (zk u u p).2≠0 then([],(zk u u p).2)
 else if (Jx (zk u v p).1 (zk u u p).1 p false).2≠0 then([],(Jx (zk u v p).1 (zk u u p).1 p false).2)
 else XZ (fun i=>KD (v.getD i default) (Jx (zk u v p).1 (zk u u p).1 p false).1 (u.getD i default) p) 0 v.length []
theorem kv {G:Nat->Nm×Int}{n:Nat}(hg: ∀i,Qg (G i).1=true)(h:(XZ G 0 n []).2=0):rowR n (XZ G 0 n []).1:=
 ⟨(Js h).1,VA (fun x=>Qg x=true) n 0 [] (fun j _ _=>hg j) (fun x hx=>by cases hx)⟩
theorem qh {v u:List Nm}{n:Nat}{p:Int}(hv:rowR n v)(h:(Y5 v u p).2=0):rowR n (Y5 v u p).1:=by unfold Y5 at h⊢;split at h;rename_i c;exact absurd h c;rename_i c;rw[BA c];split at h;rename_i c;exact absurd h c;rename_i c;rw[BA c];split at h;rename_i c;exact absurd h c;rename_i c;rw[BA c];have:=kv (fun i=>za _ _ _ _) h;rwa [hv.1] at this⊢
def Iy (v:List Nm):Nat->Nm
 | 0=>default
 | i+1=>if Uw (J8 (v.getD i default)) (Iy v i)>0 then J8 (v.getD i default) else Iy v i
theorem Vg (v:List Nm): ∀i,Qg (Iy v i)=true
 | 0=>rfl
 | i+1=>by unfold Iy;split;exact ZL _;exact Vg v i
def G0g (v:List Nm):Nm:=Iy v v.length
def VU (t:Nm):Int:= -t.exp-(Zd t.w:Nat)
def GO (v:List Nm):List Nm×Int:=if (G0g v).w= [] then([],3) else XZ (fun i=>JN (v.getD i default) (VU (G0g v))) 0 v.length []
theorem kE {v:List Nm}{n:Nat}(hv:rowR n v)(h:(GO v).2=0):rowR n (GO v).1:=by unfold GO at h⊢;split at h;exact absurd h (by decide);rename_i c;rw[BA c];have:=kv (fun i=>kD _ _) h;rwa [hv.1] at this⊢
def ym (made:List (List Nm))(p:Int):Nat->Nat->List Nm->List Nm×Int
 | _,0,v=>(v,0)
 | i,k+1,v=>if (Y5 v (made.getD i []) p).2≠0 then([],(Y5 v (made.getD i []) p).2) else ym made p (i+1) k (Y5 v (made.getD i []) p).1
theorem G0b (made:List (List Nm))(p:Int){i n:Nat}(h:i<n)(v:List Nm):ym made p i (n-i) v=if (Y5 v (made.getD i []) p).2≠0 then([],(Y5 v (made.getD i []) p).2) else ym made p (i+1) (n-(i+1)) (Y5 v (made.getD i []) p).1:=by rw[show n-i=(n-(i+1))+1 from oG,ym]
theorem w0y (made:List (List Nm))(p:Int)(n:Nat)(v:List Nm):ym made p n (n-n) v=(v,0):=by rw[DD];rfl
theorem xO {made:List (List Nm)}{n:Nat}{p:Int} : ∀(k i:Nat) (v:List Nm),rowR n v->(ym made p i k v).2=0->rowR n (ym made p i k v).1
 | 0,_,_,h,_=>h
 | k+1,i,v,hv,h=>by unfold ym at h⊢;split at h;rename_i c;exact absurd h c;rename_i c;rw[BA c];exact xO k _ _ (qh hv (C8.1 c)) h
def zB (v:List Nm)(made:List (List Nm))(p:Int):List Nm×Int:=
 if (ym made p 0 made.length v).2≠0 then([],(ym made p 0 made.length v).2) else GO (ym made p 0 made.length v).1
theorem X0h {v:List Nm}{made:List (List Nm)}{n:Nat}{p:Int}(hv:rowR n v)(h:(zB v made p).2=0):rowR n (zB v made p).1:=by unfold zB at h⊢;split at h;rename_i c;exact absurd h c;rename_i c;rw[BA c];exact kE (xO _ _ _ hv (C8.1 c)) h
def Ij (a:List (List Nm))(j:Nat):List Nm:=(List.range a.length).map fun i=>QM a i j
theorem jR {a:List (List Nm)}(h:rightQ a=true){j:Nat}(hj:j<a.length):rowR a.length (Ij a j):=by refine⟨by simp[Ij],fun c hc=> ?_⟩;simp only[Ij,CF] at hc;obtain⟨i,hi,rfl⟩:=hc;rw[E0] at hi;have:=(rightQ_iff.1 h).1 i hi;unfold QN at this;rw[q_i] at this;refine(J2 _ Qg).1 this.1 j ?_;have:=q_b this.2;omega
def J1 (a:List (List Nm))(p:Int):Nat->Nat->List (List Nm)->List (List Nm)×Int
 | _,0,made=>(made,0)
 | j,k+1,made=>if (zB (Ij a j) made p).2≠0 then([],(zB (Ij a j) made p).2) else J1 a p (j+1) k (made++ [(zB (Ij a j) made p).1])
theorem Y0v (a:List (List Nm))(p:Int){i n:Nat}(h:i<n)(made:List (List Nm)):J1 a p i (n-i) made=if (zB (Ij a i) made p).2≠0 then([],(zB (Ij a i) made p).2) else J1 a p (i+1) (n-(i+1)) (made++ [(zB (Ij a i) made p).1]):=by rw[show n-i=(n-(i+1))+1 from oG,J1]
theorem k0z (a:List (List Nm))(p:Int)(n:Nat)(made:List (List Nm)):J1 a p n (n-n) made=(made,0):=by rw[DD];rfl
def zo (n:Nat)(cols:List (List Nm)):List (List Nm):=(List.range n).map fun i=>cols.map fun c=>c.getD i default
def XU (a:List (List Nm))(p:Int):List (List Nm)×Int:=
 if rightQ a=true/\Q4 p=true then(if (J1 a p 0 a.length []).2≠0 then([],(J1 a p 0 a.length []).2) else(zo a.length (J1 a p 0 a.length []).1,0)) else([],1)
theorem wU {a:List (List Nm)}{p:Int}(ha:rightQ a=true): ∀(k j:Nat) (made:List (List Nm)),j+k<=a.length->made.length=j->(∀c∈made,rowR a.length c)->(J1 a p j k made).2=0->(J1 a p j k made).1.length=j+k/\ ∀c∈(J1 a p j k made).1,rowR a.length c
 | 0,j,made,_,hl,hm,_=>⟨hl,hm⟩
 | k+1,j,made,hj,hl,hm,h=>by unfold J1 at h⊢;split at h;rename_i c;exact absurd h c;rename_i c;rw[BA c];have h0:=C8.1 c;have:=wU ha k (j+1) (made++ [(zB (Ij a j) made p).1]) oG (by simp;omega) (fun x hx=>by rcases DN.1 hx with hx | hx;exact hm x hx;rw[C0.1 hx];exact X0h (jR ha oG) h0) h;exact⟨by rw[this.1];omega,this.2⟩
theorem K0i {a:List (List Nm)}{p:Int}(h:(XU a p).2=0):rightQ a=true/\Q4 p=true/\(J1 a p 0 a.length []).2=0/\(XU a p).1=zo a.length (J1 a p 0 a.length []).1:=by unfold XU at h⊢;split at h;rename_i c;rw[BC c];split at h;rename_i c2;exact absurd h c2;rename_i c2;rw[BA c2];exact⟨c.1,c.2,C8.1 c2,rfl⟩;exact absurd h (by decide)
theorem K0h {a:List (List Nm)}{p:Int}(h:(XU a p).2=0):sqR a.length (XU a p).1:=by obtain⟨h1,h2,h3,h4⟩:=K0i h;rw[h4];obtain⟨q1,q2⟩:=wU h1 a.length 0 [] oG rfl (fun c hc=>by cases hc) h3;refine⟨by simp[zo],fun r hr=> ?_⟩;simp only[zo,CF] at hr;obtain⟨i,_,rfl⟩:=hr;refine⟨by simp[q1],fun c hc=> ?_⟩;simp only[CF] at hc;obtain⟨l,hl,rfl⟩:=hc;exact(q2 l hl).at i
theorem H0f (n:Nat)(cols:List (List Nm)){i:Nat}(hi:i<n):(zo n cols).getD i []=cols.map fun c=>c.getD i default:=by simp[zo,q_a,hi]
def J0t (x:Nm):Int:=x.exp+(Zd x.w:Nat)
theorem H0z {s e f:Int}(hs:0<=s)(h:e<=f):qM s e<=qM s f:=by rw[GT s f e h,qM_le];have h2:(2:Int)^(f-e).toNat=((2^(f-e).toNat:Nat):Int):=(by simp);have h1:(1:Int)<=2^(f-e).toNat:=(by rw[h2];exact Int.ofNat_le.2 Nat.one_le_two_pow);have:=F7 h1 hs;rwa [Int.mul_one] at this
theorem q1h {a b:Nm}(ha:Qg a=true)(hb:Qg b=true)(na:a.neg=false)(nb:b.neg=false)(h0:a.w≠ [])(h:qN a<=qN b):J0t a<=J0t b:=by
 refine LA.1 fun hlt=> ?_;have hm:Qi a.w≠0:=fun e=>h0 ((QJ ha).1 e);have h1:qM ((2^(Zd a.w-1):Nat):Int) a.exp<=qN a:=by unfold qN Kt;rw[na,BA (by decide),qM_le];exact Int.ofNat_le.2 (Xf hm)
 have h2:qN b<qM ((2^Zd b.w:Nat):Int) b.exp:=by unfold qN Kt;rw[nb,BA (by decide),qM_lt];exact Int.ofNat_lt.2 (Q5 _)
 have e: ∀(k:Nat) (x:Int),qM ((2^k:Nat):Int) x=qM 1 (x+k):=fun k x=>by rw[<-XQ 1 k x,Int.one_mul];rfl
 rw[e] at h1 h2;have hp:=ZK hm;have h3:qM 1 (b.exp+(Zd b.w:Nat))<=qM 1 (a.exp+(Zd a.w-1:Nat)):=H0z (by decide) (by unfold J0t Zd at hlt;unfold Zd;omega);grind
theorem zd {x:Nm}(h:Qg x=true):J8 x=⟨false,x.exp,x.w⟩:=BC h
theorem yK {x:Nm}(h:x.w= []):qN x=0:=by unfold qN Kt;rw[h];show qM (if x.neg=true then -((Qi []:Nat):Int) else((Qi []:Nat):Int)) _=0;rw[show Qi []=0 from rfl];split<;>exact Zs _
theorem H1d {x:Nm}(h:Qg x=true):0<=qN (J8 x):=by have:=jy x;unfold qN;rw[<-Zs (J8 x).exp,qM_le];exact this
theorem G0e (v:List Nm): ∀i,(Iy v i).neg=false/\0<=qN (Iy v i)
 | 0=>⟨rfl,by show 0<=qN (default:Nm);rw[yK rfl];exact CB⟩
 | i+1=>by unfold Iy;split;rename_i h;have hr:Qg (J8 (v.getD i default))=true:=ZL _;by_cases hx:Qg (v.getD i default)=true;exact⟨by rw[zd hx],H1d hx⟩;rw[show J8 (v.getD i default)=default from BA hx];exact⟨rfl,by rw[yK rfl];exact CB⟩;exact G0e v i
def luR (L U:Nat)(v:List Nm):Prop:= ∀i,luQ L U (qN (v.getD i default))
theorem luR.mono {L U L' U':Nat}{v:List Nm}(h:luR L U v)(hl:L<=L')(hu:U<=U'):luR L' U' v:=fun i=>(h i).mono hl hu
theorem z0w {L U n:Nat}{v:List Nm}(hn:v.length=n)(h: ∀i,i<n->luQ L U (qN (v.getD i default))):luR L U v:=fun i=>by by_cases hi:i<n;exact h i hi;rw[q_a,C2 oG];show luQ L U (qN default);rw[Kd];exact Xw _ _
theorem z1v {Lu Uu Lv Uv i:Nat}{u v:List Nm}{n m:Nat}{p:Int}(hu:rowR n u)(hv:rowR m v)(hp:Q4 p=true)(bu:luR Lu Uu u)(bv:luR Lv Uv v){acc:Nm}(ha:Qg acc=true)(ba:luQ (Lu+Lv) (Uu+Uv+1+2*i) (qN acc))(hL:Lu+Lv<=60000)(hU:Uu+Uv+2*i+4<=60000):
 (kg u v p i acc).2=0/\luQ (Lu+Lv) (Uu+Uv+1+2*(i+1)) (qN (kg u v p i acc).1):=by
 have h1:luQ (Lu+Lv) (Uu+Uv) (exQ 2 (qN (u.getD i default)) (qN (v.getD i default))):=by rw[j0q];exact JF (bu i) (bv i)
 have o1:=Jv (up:=false) (hu.at i) (hv.at i) hp h1 hL oG;have b1:=Ju o1 h1;unfold kg;by_cases h0:0<i;rw[BC ⟨o1,h0⟩];have h2:luQ (Lu+Lv) (Uu+Uv+1+2*i+1) (exQ 0 (qN acc) (qN (Qv 2 (u.getD i default) (v.getD i default) p false).1)):=by rw[Y0p];exact Jz ba (b1.up oG)
 have o2:=Jv (up:=false) ha (QB _ _ _ _ _) hp h2 hL oG;exact⟨o2,(Ju o2 h2).up oG⟩;rw[BA (fun h=>h0 h.2)];exact⟨o1,b1.up oG⟩
theorem k0b {Lu Uu Lv Uv:Nat}{u v:List Nm}{n m:Nat}{p:Int}(hu:rowR n u)(hv:rowR m v)(hp:Q4 p=true)(bu:luR Lu Uu u)(bv:luR Lv Uv v)(hL:Lu+Lv<=60000): ∀(k i:Nat) (acc:Nm),Qg acc=true->luQ (Lu+Lv) (Uu+Uv+1+2*i) (qN acc)->Uu+Uv+2*(i+k)+4<=60000->
 (wJ u v p i k acc).2=0/\luQ (Lu+Lv) (Uu+Uv+1+2*(i+k)) (qN (wJ u v p i k acc).1)
 | 0,i,acc,_,hb,_=>⟨rfl,hb⟩
 | k+1,i,acc,ha,hb,hU=>by obtain⟨o1,o2⟩:=z1v hu hv hp bu bv ha hb hL oG;unfold wJ;rw[BA (fun e=>e o1)];have:=k0b hu hv hp bu bv hL k (i+1) _ (Hp _ _ _ _ _) o2 oG;rwa [show i+1+k=i+(k+1) by omega] at this
theorem k0e {Lu Uu Lv Uv:Nat}{u v:List Nm}{n m:Nat}{p:Int}(hu:rowR n u)(hv:rowR m v)(hp:Q4 p=true)(bu:luR Lu Uu u)(bv:luR Lv Uv v)(hn:n<=4)(hL:Lu+Lv<=60000)(hU:Uu+Uv+12<=60000):
 (zk u v p).2=0/\luQ (Lu+Lv) (Uu+Uv+9) (qN (zk u v p).1):=by
 have hl:=hu.1;obtain⟨h1,h2⟩:=k0b hu hv hp bu bv hL u.length 0 default rfl (by rw[Kd];exact Xw _ _) oG;exact⟨h1,h2.up oG⟩
def J1q (v:List Nm):Prop:= ∃i,i<v.length/\qM 1 (-2)<=qN (v.getD i default)*qN (v.getD i default)
theorem G0u (x:Rat):0<=x*x:=by rcases Rat.le_total (a:=0) (b:=x) with h | h;exact Rat.mul_nonneg h h;have:=Rat.mul_nonneg (show 0<= -x by grind) (show 0<= -x by grind);grind
theorem Hm (p:Nat)(e:Int):Uq p (qM 1 e):=⟨1,e,rfl,Nat.one_le_two_pow⟩
theorem Uo (p:Nat):Uq p 0:=⟨0,0,(Zs 0).symm,CX _⟩
theorem Kq {k:Nat}{x y:Nm}{p:Int}{B:Rat}(h:(Qv k x y p false).2=0)(hB:Uq p.toNat B)(hle:B<=exQ k (qN x) (qN y)):B<=qN (Qv k x y p false).1:=by obtain⟨hx,hy,hp⟩:=GS h;rw[Jw h];exact zK (X3 hp) hB (by rw[YS];exact hle)
theorem wH {Lu Uu:Nat}{u:List Nm}{p:Int} : ∀(k i:Nat) (acc:Nm),(i=0->acc=default)->0<=qN acc->(wJ u u p i k acc).2=0->
 0<=qN (wJ u u p i k acc).1/\(qM 1 (-2)<=qN acc\/(∃j,i<=j/\j<i+k/\qM 1 (-2)<=qN (u.getD j default)*qN (u.getD j default))->qM 1 (-2)<=qN (wJ u u p i k acc).1)
 | 0,i,acc,_,h0,_=>⟨h0,fun h=>by rcases h with h | ⟨j,h1,h2,_⟩;exact h;omega⟩
 | k+1,i,acc,hi,h0,h=>by
  unfold wJ at h⊢;split at h;rename_i c;exact absurd h c;rename_i c;have o:=C8.1 c;rw[BA c];have key:0<=qN (kg u u p i acc).1/\(qM 1 (-2)<=qN acc\/qM 1 (-2)<=qN (u.getD i default)*qN (u.getD i default)->qM 1 (-2)<=qN (kg u u p i acc).1):=by unfold kg at o⊢;have hs:=G0u (qN (u.getD i default));have h14:(0:Rat)<=qM 1 (-2):=(by rw[<-Zs (-2),qM_le];decide);split at o;rename_i c2;rw[BC c2];have p0:0<=qN (Qv 2 (u.getD i default) (u.getD i default) p false).1:=Kq c2.1 (Uo _) (by rw[j0q];exact hs);refine⟨Kq o (Uo _) (by rw[Y0p];grind),fun hh=> ?_⟩;refine Kq o (Hm _ _) ?_;rw[Y0p];rcases hh with hh | hh;grind;have:=Kq c2.1 (Hm _ (-2)) (by rw[j0q];exact hh);grind;rename_i c2;rw[BA c2];refine⟨Kq o (Uo _) (by rw[j0q];exact hs),fun hh=> ?_⟩;refine Kq o (Hm _ _) ?_;rw[j0q];rcases hh with hh | hh;have i0:i=0:=Nat.eq_zero_of_not_pos fun hp=>c2 ⟨by refine BE fun e=> ?_;exact e o,hp⟩;rw[hi i0,Kd] at hh;have:qM 1 (-2)=0:=(by grind);rw[<-Zs (-2),qM_eq] at this;omega;exact hh
  obtain⟨r1,r2⟩:=wH (Lu:=Lu) (Uu:=Uu) k (i+1) _ (fun e=>oG) key.1 h;refine⟨r1,fun hh=>r2 ?_⟩;rcases hh with hh | ⟨j,j1,j2,j3⟩;exact .inl (key.2 (.inl hh));by_cases e:j=i;subst e;exact .inl (key.2 (.inr j3));exact .inr ⟨j,oG,oG,j3⟩
theorem k0d {u:List Nm}{p:Int}(hu:J1q u)(h:(zk u u p).2=0):qM 1 (-2)<=qN (zk u u p).1:=by obtain⟨i,h1,h2⟩:=hu;exact(wH (Lu:=0) (Uu:=0) _ 0 default (fun _=>rfl) (by rw[Kd];exact CB) h).2 (.inr ⟨i,oG,oG,h2⟩)
theorem Q1l {La Ua Ub p:Nat}{a b:Vl}(ca:Xm a)(cb:Xm b)(ha:luQ La Ua (qV a))(h0:b.m≠0)(b1: -1<=b.e+(Qh b.m:Int))(b2:b.e+(Qh b.m:Int)<=(Ub:Int)+1):luQ (La+Ub+p+3) (Ua+3) (qV (IE a b p)):=by
 unfold IE;split;rw[UU rfl];exact Xw _ _;rename_i ha0;rcases KK ca ha with h | ⟨a1,a2⟩;exact absurd h ha0;have pa:=ZK ha0;have pb:=ZK h0;have hA:=Q5 a.m;have hB:=Xf h0;rw[VX];generalize hmore:KC a.m b.m p=more;have hm:more=p+2+Qh b.m-Qh a.m:=(by rw[<-hmore];rfl);have hq:Y3 a.m b.m p<2^(Qh a.m+more+2-Qh b.m):=by
  unfold Y3;rw[hmore];have h1:a.m*2^more<2^(Qh a.m+more):=(by rw[B2];exact C5 hA (DJ (by decide)));have h2:a.m*2^more/b.m<2^(Qh a.m+more+1-Qh b.m):=by rw[DV oG];refine q_e h1 ?_;have:2^(Qh a.m+more)=2^(Qh a.m+more+1-Qh b.m)*2^(Qh b.m-1):=(by rw[<-B2];congr 1;omega);rw[this];exact DP _ hB
  have h3:2^(Qh a.m+more+2-Qh b.m)=2*2^(Qh a.m+more+1-Qh b.m):=(by rw[show Qh a.m+more+2-Qh b.m=(Qh a.m+more+1-Qh b.m)+1 by omega,B5,BM]);rw[h3];split<;>omega
 generalize Y3 a.m b.m p=M at hq⊢;have he: -((La+Ub+p+3:Nat):Int)<=a.e-b.e-(more:Int)-1:=oG;refine⟨(if (a.neg !=b.neg)=true then -(M:Int) else(M:Int))*2^(a.e-b.e-(more:Int)-1- -((La+Ub+p+3:Nat):Int)).toNat,?_,?_⟩;exact GT _ _ _ he;rw[Int.natAbs_mul,Int.natAbs_pow];have:(if (a.neg !=b.neg)=true then -(M:Int) else(M:Int)).natAbs=M:=(by split<;>omega);rw[this,show Int.natAbs 2=2 from rfl];refine B7 (BG _ (F4 hq)) ?_;rw[<-B2];exact BS (by decide) oG
theorem Q0j {x:Vl}(hx:qM 1 (-2)<=qV x):x.m≠0/\ -1<=x.e+(Qh x.m:Int):=by
 have h0:(0:Rat)<qM 1 (-2):=by rw[<-Zs (-2),qM_lt];decide
 have hm:x.m≠0:=fun e=>by rw[UU e] at hx;grind
 refine⟨hm,LA.1 fun hlt=> ?_⟩;have h2:qV x<qM ((2^Qh x.m:Nat):Int) x.e:=by unfold qV;rw[qM_lt];have h1:=Kk x;have h3:=Q5 x.m;have h4:((2^Qh x.m:Nat):Int)=(2:Int)^Qh x.m:=(by simp);omega
 have e:qM ((2^Qh x.m:Nat):Int) x.e=qM 1 (x.e+(Qh x.m:Nat)):=by rw[<-XQ 1 (Qh x.m) x.e,Int.one_mul];rfl
 rw[e] at h2;have h3:qM 1 (x.e+(Qh x.m:Nat))<=qM 1 (-2):=H0z (by decide) oG;grind
theorem J1a {Lu Lv Uv n:Nat}{u v:List Nm}{p:Int}(hu:rowR n u)(hv:rowR n v)(hp:Q4 p=true)(bu:luR Lu 0 u)(bv:luR Lv Uv v)(hh:J1q u)(hn:n<=4)(hL:2*Lu+Lv+269<=60000)(hU:Uv+20<=60000):
 (Y5 v u p).2=0/\luR (Lv+2*Lu+269) (Uv+16) (Y5 v u p).1:=by
 obtain⟨a1,a2⟩:=k0e hu hv hp bu bv hn oG oG;obtain⟨b1,b2⟩:=k0e hu hu hp bu bu hn oG oG;have b3:=k0d hh b1;have ar:=Yu u v p;have br:=Yu u u p;unfold Y5;rw[BA (fun e=>e a1),BA (fun e=>e b1)];generalize (zk u v p).1=a at*
 generalize (zk u u p).1=b at*
 have hbq:qM 1 (-2)<=qV (ofN b):=by rw[QL];exact b3
 obtain⟨m1,m2⟩:=Q0j hbq;have hbw:b.w≠ []:=fun e=>m1 ((QJ br).2 e);have m3:(ofN b).e+(Qh (ofN b).m:Int)<=((9:Nat):Int)+1:=by rcases KK (QR br) (by rw[QL];exact b2) with e | ⟨e1,e2⟩;exact absurd e m1;omega
 have hpl:=HY hp;have hq:=Q1l (p:=p.toNat) (QR ar) (QR br) (by rw[QL];exact a2) m1 m2 m3;have hc:(Jx a b p false).2=0/\luQ (Lu+Lv+268) (Uv+13) (qN (Jx a b p false).1):=by have cr:=Yz (ofN a) (ofN b) p.toNat;have o:(Kg (QX (IE (ofN a) (ofN b) p.toNat) p.toNat false)).2=0:=JD cr hq hp oG oG;unfold Jx;rw[BA hbw];unfold Hs;refine⟨o,?_⟩;rw[(ZA (QW cr _ _) o).2];exact(X7 cr hq _ (X3 hp) false).mono oG oG
 have hcr:=YR a b p false;rw[BA (fun e=>e hc.1)];generalize (Jx a b p false).1=c at*
 have key: ∀i,(KD (v.getD i default) c (u.getD i default) p).2=0/\luQ (Lv+2*Lu+269) (Uv+16) (qN (KD (v.getD i default) c (u.getD i default) p).1):=fun i=>by
  have h1:luQ (Lu+Lv+268+Lu) (Uv+13+0) (exQ 2 (qN c) (qN (u.getD i default))):=by rw[j0q];exact JF hc.2 (bu i)
  have o1:=Jv (up:=false) hcr (hu.at i) hp h1 oG oG;have l1:=Ju o1 h1;unfold KD;rw[BA (fun e=>e o1)];have h2:luQ (Lv+2*Lu+269) (Uv+14+1) (exQ 1 (qN (v.getD i default)) (qN (Qv 2 c (u.getD i default) p false).1)):=by rw[Q0z];exact KV ((bv i).mono oG oG) (l1.mono oG oG)
  have o2:=Jv (up:=false) (hv.at i) (QB _ _ _ _ _) hp h2 oG oG;exact⟨o2,(Ju o2 h2).up oG⟩
 have hall:(XZ (fun i=>KD (v.getD i default) c (u.getD i default) p) 0 v.length []).2=0:=VB _ _ _ fun j _ _=>(key j).1;obtain⟨t1,t2,t3⟩:=Js hall;exact⟨hall,z0w t1 fun i hi=>by rw[t3 i hi];exact(key i).2⟩
theorem kt (v:List Nm): ∀i,(Iy v i).w= []\/ ∃j,j<i/\Iy v i=J8 (v.getD j default)
 | 0=> .inl rfl
 | i+1=>by unfold Iy;split;exact .inr ⟨i,oG,rfl⟩;rcases kt v i with h | ⟨j,h1,h2⟩;exact .inl h;exact .inr ⟨j,oG,h2⟩
theorem G0f (v:List Nm): ∀i j,j<i->qN (J8 (v.getD j default))<=qN (Iy v i)
 | 0,j,h=>absurd h (CD j)
 | i+1,j,h=>by unfold Iy;rw[v0b (ZL _) (Vg _ _)];by_cases e:j=i;subst e;split;exact CB;rename_i hc;exact Rat.not_lt.1 fun h=>hc (cmpN_gt.2 h);have ih:=G0f v i j oG;split;rename_i hc;have:=cmpN_gt.1 hc;grind;exact ih
theorem kC {x:Nm}{k:Int}(hx:Qg x=true)(hw:x.w≠ [])(h1: -65536<=x.exp+k)(h2:x.exp+k<=65536)(h3: -131072<=k)(h4:k<=131072):(JN x k).2=0/\qN (JN x k).1=qM (Kt x) (x.exp+k):=by
 unfold JN;rw[BC hx,BA hw,BA oG];have hb2:bdV 4096 65536 ⟨x.neg,Qi x.w,x.exp+k⟩:=⟨(Uz hx).1,h1,h2⟩;have hf:=UZ hb2 oG oG;have hc:Xm ⟨x.neg,Qi x.w,x.exp+k⟩:=by rcases QR hx with h | h;exact .inl h;exact absurd ((QJ hx).1 (show Qi x.w=0 from by have:=B4 Vl.m h;exact this)) hw
 have hv:=ZA hc hf;exact⟨hf,hv.2⟩
theorem q1f (x:Nm):(Kt x).natAbs<2^Zd x.w:=by unfold Kt Zd;have:=Q5 (Qi x.w);split<;>omega
theorem q1g {x:Nm}(hx:Qg x=true)(hw:x.w≠ []):2^(Zd x.w-1)<=(Kt x).natAbs/\0<Zd x.w:=by have hm:Qi x.w≠0:=fun e=>hw ((QJ hx).1 e);have:=Xf hm;have:=ZK hm;unfold Kt Zd;split;exact⟨oG,oG⟩;exact⟨oG,oG⟩
theorem w1g {s e:Int}{b L U:Nat}(hs:s.natAbs<2^b)(h1: -(L:Int)<=e)(h2:e+b<=U):luQ L U (qM s e):=by refine⟨s*2^(e- -(L:Int)).toNat,GT s e _ h1,?_⟩;rw[Int.natAbs_mul,Int.natAbs_pow,show Int.natAbs 2=2 from rfl];refine B7 (BG _ (F4 hs)) ?_;rw[<-B2];exact BS (by decide) oG
theorem y0y {v:List Nm}{n L U:Nat}(hv:rowR n v)(bv:luR L U v)(hB:L+U+1<=60000):
 ((GO v).2=0\/(GO v).2=3)/\((GO v).2=0->luR (L+U+1) 0 (GO v).1/\J1q (GO v).1):=by
 unfold GO;by_cases h0:(G0g v).w= [];rw[BC h0];exact⟨.inr rfl,fun h=>absurd h (by decide)⟩;rw[BA h0];obtain⟨j,hj,ej⟩:=(kt v v.length).resolve_left h0;have tr:=Vg v v.length;have bits: ∀i,(v.getD i default).w≠ []-> -(L:Int)<=(v.getD i default).exp/\J0t (v.getD i default)<=(U:Int)+1:=fun i hw=>by rcases KK (QR (hv.at i)) (by rw[QL];exact bv i) with e | ⟨e1,e2⟩;exact absurd ((QJ (hv.at i)).1 e) hw;exact⟨e1,e2⟩
 have ejw:(v.getD j default).w≠ []:=by intro e;have:=zd (hv.at j);rw[<-ej] at this;exact h0 (by show(Iy v v.length).w= [];rw[this];exact e)
 have em:J0t (G0g v)=J0t (v.getD j default):=by show J0t (Iy v v.length)=_;rw[ej,zd (hv.at j)];rfl
 have ek:VU (G0g v)= -J0t (G0g v):=by unfold VU J0t;omega
 obtain⟨j1,j2⟩:=bits j ejw;obtain⟨j3,j4⟩:=q1g (hv.at j) ejw;have hk: -((U:Int)+1)<=VU (G0g v)/\VU (G0g v)<=L:=by rw[ek,em];refine⟨oG,?_⟩;unfold J0t;omega
 have hle: ∀i,i<v.length->(v.getD i default).w≠ []->J0t (v.getD i default)<=J0t (G0g v):=fun i hi hw=>by have:=G0f v v.length i hi;have ea:=zd (hv.at i);have:=q1h (ZL _) tr (by rw[ea]) (G0e v v.length).1 (by rw[ea];exact hw) this;rwa [ea] at this
 generalize VU (G0g v)=k at*
 have key: ∀i,i<v.length->(JN (v.getD i default) k).2=0/\luQ (L+U+1) 0 (qN (JN (v.getD i default) k).1):=fun i hi=>by
  by_cases hw:(v.getD i default).w= [];unfold JN;rw[BC (hv.at i),BC hw];refine⟨rfl,?_⟩;show luQ _ _ (qN (v.getD i default));rw[yK hw];exact Xw _ _;obtain⟨b1,b2⟩:=bits i hw;have hm:=hle i hi hw;have e1:(v.getD i default).exp+k+(Zd (v.getD i default).w:Nat)<=0:=by rw[ek];unfold J0t at hm⊢;omega
  obtain⟨s1,s2⟩:=kC (k:=k) (hv.at i) hw oG oG oG oG;refine⟨s1,?_⟩;rw[s2];exact w1g (q1f _) oG oG
 have hall:(XZ (fun i=>JN (v.getD i default) k) 0 v.length []).2=0:=VB _ _ _ fun i _ hi=>(key i oG).1;obtain⟨t1,t2,t3⟩:=Js hall;refine⟨.inl hall,fun _=>⟨z0w t1 fun i hi=>by rw[t3 i hi];exact(key i hi).2,j,by rw[t1];exact hj,?_⟩⟩;rw[t3 j hj];have e1:(v.getD j default).exp+k+(Zd (v.getD j default).w:Nat)=0:=by rw[ek,em];unfold J0t;omega
 obtain⟨s1,s2⟩:=kC (k:=k) (hv.at j) ejw oG oG oG oG;rw[s2];generalize (v.getD j default).exp+k=e at*
 generalize Zd (v.getD j default).w=b at*
 rw[<-vf,show e+e= -2+ -((2*(b-1):Nat):Int) by omega];have h1:qM 1 (-2)=qM (2^(2*(b-1))) (-2+ -((2*(b-1):Nat):Int)):=by have:=XQ 1 (2*(b-1)) (-2+ -((2*(b-1):Nat):Int));rw[Int.one_mul] at this;rw[this];congr 1;omega
 rw[h1,qM_le];have h2:(2:Int)^(2*(b-1))=((2^(b-1)*2^(b-1):Nat):Int):=by rw[<-B2,show b-1+(b-1)=2*(b-1) by omega];simp
 rw[h2];have h3:Kt (v.getD j default)*Kt (v.getD j default)=(((Kt (v.getD j default)).natAbs*(Kt (v.getD j default)).natAbs:Nat):Int):=(by rw[CN,Int.natAbs_mul_self']);rw[h3];exact Int.ofNat_le.2 (DW j3 j3)
def lcA (L U:Nat):Nat->Nat
 | 0=>L
 | i+1=>lcA L U i+2*(lcA L U i+U+16*i+1)+269
def lcC (L U i:Nat):Nat:=lcA L U i+U+16*i+1
def v0a (L U n i:Nat)(c:List Nm):Prop:=rowR n c/\luR (lcC L U i) 0 c/\J1q c
theorem G0c {L U n:Nat}{p:Int}(hp:Q4 p=true)(hn:n<=4)(hB: ∀i,i<4->2*lcC L U i+lcA L U i+269<=60000/\U+16*i+20<=60000){made:List (List Nm)}{m:Nat}(hm4:m<4)(hm: ∀i,i<m->v0a L U n i (made.getD i [])):
 ∀(k i:Nat) (v:List Nm),i+k=m->rowR n v->luR (lcA L U i) (U+16*i) v->(ym made p i k v).2=0/\luR (lcA L U m) (U+16*m) (ym made p i k v).1
 | 0,i,v,e,hv,bv=>by rw[show i=m by omega] at bv;exact⟨rfl,bv⟩
 | k+1,i,v,e,hv,bv=>by obtain⟨c1,c2,c3⟩:=hm i oG;obtain⟨b1,b2⟩:=hB i oG;obtain⟨l1,l2⟩:=J1a c1 hv hp c2 bv c3 hn b1 b2;unfold ym;rw[BA (fun e=>e l1)];exact G0c hp hn hB hm4 hm k (i+1) _ oG (qh hv l1) (l2.mono (by show _<=lcA L U i+2*(lcA L U i+U+16*i+1)+269;unfold lcC;omega) oG)
theorem G1a {L U n:Nat}{p:Int}(hp:Q4 p=true)(hn:n<=4)(hB: ∀i,i<4->2*lcC L U i+lcA L U i+269<=60000/\U+16*i+20<=60000){made:List (List Nm)}(hm4:made.length<4)(hm: ∀i,i<made.length->v0a L U n i (made.getD i [])){v:List Nm}(hv:rowR n v)(bv:luR L U v):
 ((zB v made p).2=0\/(zB v made p).2=3)/\((zB v made p).2=0->v0a L U n made.length (zB v made p).1):=by
 obtain⟨u1,u2⟩:=G0c hp hn hB hm4 hm made.length 0 v oG hv (bv.mono (BD _) oG);have hr:=xO made.length 0 v hv u1;unfold zB;rw[BA (fun e=>e u1)];have hb:=(hB made.length hm4).1;obtain⟨s1,s2⟩:=y0y hr u2 (by unfold lcC at hb;omega);exact⟨s1,fun h=>⟨kE hr h,(s2 h).1.mono (by unfold lcC;omega) (BD _),(s2 h).2⟩⟩
theorem K0j {L U:Nat}{a:List (List Nm)}{p:Int}(ha:rightQ a=true)(hp:Q4 p=true)(hB: ∀i,i<4->2*lcC L U i+lcA L U i+269<=60000/\U+16*i+20<=60000)(hb: ∀j,j<a.length->luR L U (Ij a j)): ∀(k j:Nat) (made:List (List Nm)),j+k=a.length->made.length=j->(∀i,i<j->v0a L U a.length i (made.getD i []))->
 ((J1 a p j k made).2=0\/(J1 a p j k made).2=3)/\((J1 a p j k made).2=0->(J1 a p j k made).1.length=a.length/\ ∀i,i<a.length->v0a L U a.length i ((J1 a p j k made).1.getD i []))
 | 0,j,made,e,hl,hm=>⟨.inl rfl,fun _=>⟨by show made.length=_;omega,fun i hi=>hm i oG⟩⟩
 | k+1,j,made,e,hl,hm=>by have h4:=(rightQ_iff.1 ha).2;obtain⟨u1,u2⟩:=G1a (made:=made) hp h4.2 hB oG (by rw[hl];exact hm) (jR ha (show j<a.length by omega)) (hb j oG);unfold J1;by_cases h0:(zB (Ij a j) made p).2=0;rw[BA (fun e=>e h0)];refine K0j ha hp hB hb k (j+1) _ oG (by simp;omega) fun i hi=> ?_;by_cases ei:i<j;rw[Qk _ _ _ _ oG];exact hm i ei;rw[Ql _ _ _ _ oG,show i-made.length=0 by omega,show i=made.length by omega];exact u2 h0;rw[BC h0];exact⟨.inr (u1.resolve_left h0),fun e=>absurd e h0⟩
theorem V1e {L U:Nat}{a:List (List Nm)}{p:Int}(ha:rightQ a=true)(hp:Q4 p=true)(hB: ∀i,i<4->2*lcC L U i+lcA L U i+269<=60000/\U+16*i+20<=60000)(hb: ∀i j,i<a.length->j<a.length->luQ L U (qN (QM a i j))):
 ((XU a p).2=0\/(XU a p).2=3)/\((XU a p).2=0->sqR a.length (XU a p).1/\ ∀i j,i<a.length->j<a.length->luQ (lcC L U j) 0 (qN (QM (XU a p).1 i j))):=by
 have hcol: ∀j,j<a.length->luR L U (Ij a j):=fun j hj=>z0w (n:=a.length) (by simp[Ij]) fun i hi=>by have:(Ij a j).getD i default=QM a i j:=(by simp[Ij,q_a,hi]);rw[this];exact hb i j hi hj
 obtain⟨g1,g2⟩:=K0j ha hp hB hcol a.length 0 [] oG rfl (fun i hi=>absurd hi (CD i));have hsq:=K0h (a:=a) (p:=p);unfold XU at hsq⊢;rw[BC ⟨ha,hp⟩] at hsq⊢;by_cases h0:(J1 a p 0 a.length []).2=0;rw[BA (fun e=>e h0)] at hsq⊢;obtain⟨q1,q2⟩:=g2 h0;refine⟨.inl rfl,fun _=>⟨hsq rfl,fun i j hi hj=> ?_⟩⟩;have:QM (zo a.length (J1 a p 0 a.length []).1) i j=((J1 a p 0 a.length []).1.getD j []).getD i default:=by unfold QM;rw[H0f _ _ hi];simp[q_a,show j<(J1 a p 0 a.length []).1.length by omega]
 rw[this];exact(q2 j hj).2.1 i;rw[BC h0];exact⟨g1,fun e=>absurd e h0⟩
set_option maxRecDepth 20000
def bdK (n:Nat)(B:Nat->Nat)(D U:Nat)(l:List Nm):Prop:= ∀j,j<n->luQ (B j+D) U (qN (l.getD j default))
theorem bdK.mono {n D U D' U':Nat}{B:Nat->Nat}{l:List Nm}(h:bdK n B D U l)(hd:D<=D')(hu:U<=U'):bdK n B D' U' l:=fun j hj=>(h j hj).mono oG hu
theorem J0x {n Lm Um D1 U1 D2 U2:Nat}{B:Nat->Nat}{m:Nm}{p:Int}{row other:List Nm}(hp:Q4 p=true)(hm:Qg m=true)(bm:luQ Lm Um (qN m))(hr:rowR n row)(ho:rowR n other)(br:bdK n B D1 U1 row)(bo:bdK n B D2 U2 other)
 (hD:D1<=Lm+D2) (hU:U1<=Um+U2+1) (hL: ∀j,j<n->Lm+B j+D2<=60000) (hU2:Um+U2+4<=60000):VY m p row other=true/\bdK n B (Lm+D2) (Um+U2+3) (W0 m p row other):=by
 have key: ∀j,j<n->(KD (row.getD j default) m (other.getD j default) p).2=0/\luQ (B j+(Lm+D2)) (Um+U2+3) (qN (KD (row.getD j default) m (other.getD j default) p).1):=fun j hj=>by
  have hLj:=hL j hj;have h1:luQ (Lm+(B j+D2)) (Um+U2) (exQ 2 (qN m) (qN (other.getD j default))):=(by rw[j0q];exact JF bm (bo j hj));have o1:=Jv (up:=false) hm (ho.at j) hp h1 oG oG;have l1:=Ju o1 h1;unfold KD;rw[BA (fun e=>e o1)];have h2:luQ (B j+(Lm+D2)) (Um+U2+1+1) (exQ 1 (qN (row.getD j default)) (qN (Qv 2 m (other.getD j default) p false).1)):=by rw[Q0z];exact KV ((br j hj).mono oG hU) (l1.mono oG (BD _))
  have o2:=Jv (up:=false) (hr.at j) (QB _ _ _ _ _) hp h2 oG oG;exact⟨o2,Ju o2 h2⟩
 refine⟨?_,fun j hj=> ?_⟩;unfold VY;rw[q_d];intro j hj;rw[E0,hr.1] at hj;rw[(key j hj).1];rfl;unfold W0;rw[K5 _ _ _ (by rw[hr.1];exact hj)];exact(key j hj).2
theorem k0h {La Ua Lb Ub:Nat}{a b:Nm}{p:Int}(up:Bool)(ra:Qg a=true)(rb:Qg b=true)(hp:Q4 p=true)(ha:luQ La Ua (qN a))(hb:luQ Lb Ub (qN b))(h0:b.w≠ [])(hL:La+Ub+260<=60000)(hU:Ua+Lb+2<=60000):
 (Hs a b p up).2=0/\luQ (La+Ub+260) (Ua+Lb+2) (qN (Hs a b p up).1):=by
 have cr:=Yz (ofN a) (ofN b) p.toNat;have h1:=H0q (p:=p.toNat) (QR ra) (QR rb) (by rw[QL];exact ha) (by rw[QL];exact hb) (fun e=>h0 ((QJ rb).1 e));have:=HY hp;have o:(Hs a b p up).2=0:=JD cr h1 hp oG oG;exact⟨o,K1w ra rb hp ha hb h0 o⟩
theorem k0j {n D U Ld Ud:Nat}{B:Nat->Nat}{d:Nm}{p:Int}{row:List Nm}(hp:Q4 p=true)(hd:Qg d=true)(h0:d.w≠ [])(bd:luQ Ld Ud (qN d))(hr:rowR n row)(br:bdK n B D U row)(hL: ∀j,j<n->B j+D+Ud+260<=60000)(hU:U+Ld+2<=60000):
 WI d p row=true/\bdK n B (D+Ud+260) (U+Ld+2) (HO d p row):=by
 have key: ∀j,j<n->(Hs (row.getD j default) d p false).2=0/\luQ (B j+D+Ud+260) (U+Ld+2) (qN (Hs (row.getD j default) d p false).1):=fun j hj=>k0h false (hr.at j) hd hp (br j hj) bd h0 (hL j hj) hU;refine⟨?_,fun j hj=> ?_⟩;unfold WI;rw[q_d];intro x hx;obtain⟨j,hj,rfl⟩:=CM.1 hx;have:=(key j (by rw[<-hr.1];exact hj)).1;rw[q_a,BB hj] at this;simpa using this;have e:(HO d p row).getD j default=(Hs (row.getD j default) d p false).1:=by
  have hj':j<row.length:=by rw[hr.1];exact hj
  unfold HO;rw[q_a,B8,q_a,BB hj'];rfl
 rw[e];exact(key j hj).2.mono oG (BD _)
def gS (B:Nat->Nat):Nat->Nat×Nat
 | 0=>(0,1)
 | k+1=>(2*(gS B k).1+B k+(gS B k).2+260,2*(gS B k).2+B k+(gS B k).1+5)
def bdJ (n:Nat)(B:Nat->Nat)(D U:Nat)(a:List (List Nm)):Prop:= ∀i,i<n->bdK n B D U (a.getD i [])
def midJ (n:Nat)(B:Nat->Nat)(Bk D U k i:Nat)(a:List (List Nm)):Prop:=
 bdK n B (D+U+260) (U+Bk+D+2) (a.getD k [])/\ ∀j,j<n->j≠k->bdK n B (if j<i then 2*D+Bk+U+260 else D) (if j<i then 2*U+Bk+D+5 else U) (a.getD j [])
theorem midJ.next {n Bk D U k i:Nat}{B:Nat->Nat}{a:List (List Nm)}(h:midJ n B Bk D U k i a)(hn:a.length=n)(hi:i<n)(hne:i≠k){r:List Nm}(hr:bdK n B (2*D+Bk+U+260) (2*U+Bk+D+5) r):midJ n B Bk D U k (i+1) (a.set i r):=by refine⟨?_,fun j hj hjk=> ?_⟩;rw[Gs oG,BA (fun e=>hne e.symm)];exact h.1;rw[Gs oG];have:=h.2 j hj hjk;by_cases e:j=i;rw[BC oG,BC oG,BC e];exact hr;rw[BA e];by_cases e2:j<i;rw[BC oG,BC oG];rwa [BC e2,BC e2] at this;rw[BA oG,BA oG];rwa [BA e2,BA e2] at this
theorem midJ.skip {n Bk D U k i:Nat}{B:Nat->Nat}{a:List (List Nm)}(h:midJ n B Bk D U k i a):midJ n B Bk D U k (i+1) a:=by refine⟨h.1,fun j hj hjk=>(h.2 j hj hjk).mono ?_ ?_⟩;split<;>split<;>omega;split<;>split<;>omega
def y0t (n:Nat)(B:Nat->Nat)(k:Nat):Prop:= ∀j,j<n->B j+2*(gS B k).1+B k+(gS B k).2+260<=60000/\2*(gS B k).2+B k+(gS B k).1+8<=60000
theorem J1u {n k i D U:Nat}{B:Nat->Nat}{p:Int}{x:GJ}(hp:Q4 p=true)(hs:sqG n x)(hk:k<n)(hi:i<n)(hL: ∀j,j<n->B j+2*D+B k+U+260<=60000)(hU:2*U+B k+D+8<=60000)
 (h0:x.e=0) (ha:midJ n B (B k) D U k i x.a) (hr:midJ n (fun _=>0) (B k) D U k i x.r):(jF p k i x).e=0/\midJ n B (B k) D U k (i+1) (jF p k i x).a/\midJ n (fun _=>0) (B k) D U k (i+1) (jF p k i x).r:=by
 unfold jF;by_cases hc:i=k\/(QM x.a i k).w= [];rw[BC hc];exact⟨h0,ha.skip,hr.skip⟩;rw[BA hc];have hne:i≠k:=fun e=>hc (.inl e);have a1:=ha.2 i hi hne;have r1:=hr.2 i hi hne;rw[BA (Nat.lt_irrefl i),BA (Nat.lt_irrefl i)] at a1 r1;have hm:luQ (B k+D) U (qN (QM x.a i k)):=a1 k hk;have hmr:=hs.1.ent hi hk;have hLk:=hL k hk;obtain⟨o1,b1⟩:=J0x (Lm:=B k+D) (Um:=U) (D1:=D) (U1:=U) (D2:=D+U+260) (U2:=U+B k+D+2) (B:=B) hp hmr hm (hs.1.row hi) (hs.1.row hk) a1 ha.1 oG oG (fun j hj=>by have:=hL j hj;omega) oG;obtain⟨o2,b2⟩:=J0x (Lm:=B k+D) (Um:=U) (D1:=D) (U1:=U) (D2:=D+U+260) (U2:=U+B k+D+2) (B:=fun _=>0) hp hmr hm (hs.2.row hi) (hs.2.row hk) r1 hr.1 oG oG (fun j hj=>by have:=hL j hj;show B k+D+0+(D+U+260)<=60000;omega) oG;rw[BC (by rw[o1,o2];rfl)];exact⟨rfl,ha.next hs.1.1 hi hne (b1.mono oG oG),hr.next hs.2.1 hi hne (b2.mono oG oG)⟩
theorem vL {n k D U:Nat}{B:Nat->Nat}{p:Int}{x:GJ}(hp:Q4 p=true)(hs:sqG n x)(hk:k<n)(hL: ∀j,j<n->B j+2*D+B k+U+260<=60000)(hU:2*U+B k+D+8<=60000)(h0:x.e=0)(ha:midJ n B (B k) D U k 0 x.a)(hr:midJ n (fun _=>0) (B k) D U k 0 x.r):
 ∀i,i<=n->(Xl p k x i).e=0/\midJ n B (B k) D U k i (Xl p k x i).a/\midJ n (fun _=>0) (B k) D U k i (Xl p k x i).r
 | 0,_=>⟨h0,ha,hr⟩
 | i+1,hi=>by obtain⟨q1,q2,q3⟩:=vL hp hs hk hL hU h0 ha hr i oG;unfold Xl;rw[BC q1];exact J1u hp (Gp hs hk i oG) hk oG hL hU q1 q2 q3
theorem z0p {n Bk D U k:Nat}{B:Nat->Nat}{a:List (List Nm)}(hn:a.length=n)(hk:k<n)(h:bdJ n B D U a){r:List Nm}(hr:bdK n B (D+U+260) (U+Bk+D+2) r):midJ n B Bk D U k 0 (a.set k r):=by refine⟨?_,fun j hj hjk=> ?_⟩;rw[Gs oG,BC rfl];exact hr;rw[BA (CD _),BA (CD _),Gs oG,BA hjk];exact h j hj
theorem J0r {n Bk D U k:Nat}{B:Nat->Nat}{a:List (List Nm)}(h:midJ n B Bk D U k n a):bdJ n B (2*D+Bk+U+260) (2*U+Bk+D+5) a:=by intro i hi;by_cases e:i=k;subst e;exact h.1.mono oG oG;have:=h.2 i hi e;rw[BC hi,BC hi] at this;exact this
theorem X0l {n D U:Nat}{B:Nat->Nat}{a:List (List Nm)}(hn:a.length=n)(h:bdJ n B D U a){i j:Nat}(hi:i<n)(hj:j<n):bdJ n B D U (Zz [] a i j):=by intro k hk;rw[JB [] a oG oG];split;exact h i hi;split;exact h j hj;exact h k hk
theorem J1w {n k:Nat}{B:Nat->Nat}{p:Int}{x:GJ}(hs:sqG n x)(hk:k<n)(hp:Q4 p=true)(hz:y0t n B k)(ha:bdJ n B (gS B k).1 (gS B k).2 x.a)(hr:bdJ n (fun _=>0) (gS B k).1 (gS B k).2 x.r):
 ((Uf p n k x).e=0/\bdJ n B (gS B (k+1)).1 (gS B (k+1)).2 (Uf p n k x).a/\bdJ n (fun _=>0) (gS B (k+1)).1 (gS B (k+1)).2 (Uf p n k x).r)\/(Uf p n k x).e=3:=by
 have hpl:=IM x.a k (n-(k+1));have hsp:=jG hs hk;have pa:bdJ n B (gS B k).1 (gS B k).2 (W6 n k x).a:=X0l hs.1.1 ha hk oG;have pr:bdJ n (fun _=>0) (gS B k).1 (gS B k).2 (W6 n k x).r:=X0l hs.2.1 hr hk oG;have hent:QM (W6 n k x).a k k=QM x.a (Yj x.a k (n-(k+1))) k:=by unfold QM;show(List.getD (Zz [] x.a k (Yj x.a k (n-(k+1)))) k []).getD k default=_;rw[JB [] x.a (by rw[hs.1.1];exact hk) (by rw[hs.1.1];omega)];split;rename_i e;rw[<-e];rw[BC rfl]
 unfold Uf;by_cases h0:(QM x.a (Yj x.a k (n-(k+1))) k).w= [];rw[BC h0];exact .inr rfl;rw[BA h0];refine .inl ?_;show _/\bdJ n B (2*(gS B k).1+B k+(gS B k).2+260) (2*(gS B k).2+B k+(gS B k).1+5) _/\bdJ n (fun _=>0) (2*(gS B k).1+B k+(gS B k).2+260) (2*(gS B k).2+B k+(gS B k).1+5) _;unfold y0t at hz;generalize (gS B k).1=D at*
 generalize (gS B k).2=U at*
 have hd0:(QM (W6 n k x).a k k).w≠ []:=by rw[hent];exact h0
 have hdr:Qg (QM (W6 n k x).a k k)=true:=hsp.1.ent hk hk;have hdl:luQ (B k+D) U (qN (QM (W6 n k x).a k k)):=pa k hk k hk;obtain⟨z1,z2⟩:=hz k hk;obtain⟨d1,d2⟩:=k0j hp hdr hd0 hdl (hsp.1.row hk) (pa k hk) (fun j hj=>by have:=(hz j hj).1;omega) oG;obtain⟨e1,e2⟩:=k0j hp hdr hd0 hdl (hsp.2.row hk) (pr k hk) (fun j hj=>by have:=(hz j hj).1;omega) oG;have hsd:=jH (p:=p) hsp hk;have hD:Gq p k (W6 n k x)=⟨(W6 n k x).a.set k (HO (QM (W6 n k x).a k k) p ((W6 n k x).a.getD k [])),(W6 n k x).r.set k (HO (QM (W6 n k x).a k k) p ((W6 n k x).r.getD k [])),0⟩:=by unfold Gq;rw[BC (by rw[d1,e1];rfl)]
 rw[hD] at hsd⊢;rw[BC rfl];obtain⟨h1,h2,h3⟩:=vL hp hsd hk (fun j hj=>(hz j hj).1) z2 rfl (z0p hsp.1.1 hk pa (d2.mono oG oG)) (z0p hsp.2.1 hk pr (e2.mono oG oG)) n (BD _);exact⟨h1,J0r h2,J0r h3⟩
theorem vM {n:Nat}{B:Nat->Nat}{p:Int}{x:GJ}(hs:sqG n x)(hp:Q4 p=true)(hz: ∀k,k<n->y0t n B k)(h0:x.e=0)(ha:bdJ n B 0 1 x.a)(hr:bdJ n (fun _=>0) 0 1 x.r): ∀k,k<=n->
 ((Z7 p n x k).e=0/\bdJ n B (gS B k).1 (gS B k).2 (Z7 p n x k).a/\bdJ n (fun _=>0) (gS B k).1 (gS B k).2 (Z7 p n x k).r)\/(Z7 p n x k).e=3
 | 0,_=> .inl ⟨h0,ha,hr⟩
 | k+1,hk=>by have ih:=vM hs hp hz h0 ha hr k oG;unfold Z7;rcases ih with ⟨q1,q2,q3⟩ | q;rw[BC q1];exact J1w (Gr hs k oG) oG hp (hz k oG) q2 q3;rw[BA (by rw[q];decide)];exact .inr q
theorem Z0w {a:List (List Nm)}{B:Nat->Nat}{p:Int}(ha:rightQ a=true)(hsq:sqR a.length a)(hp:Q4 p=true)(hz: ∀k,k<a.length->y0t a.length B k)(hb: ∀i j,i<a.length->j<a.length->luQ (B j) 0 (qN (QM a i j))):
 ((Qu a p).2=0/\bdJ a.length (fun _=>0) (gS B a.length).1 (gS B a.length).2 (Qu a p).1)\/(Qu a p).2=3:=by
 have:=vM (x:=⟨a,Xb a.length,0⟩) ⟨hsq,xW _⟩ hp hz rfl (fun i hi j hj=>(hb i j hi hj).up oG) (fun i hi j hj=>by
  have e:((Xb a.length).getD i []).getD j default=if i=j then⟨false,0,[1]⟩ else default:=by
   unfold Xb;have e0:((List.range a.length).map fun i=>(List.range a.length).map fun j=>if i=j then(⟨false,0,[1]⟩:Nm) else default).getD i []=(List.range a.length).map fun j=>if i=j then(⟨false,0,[1]⟩:Nm) else default:=by rw[q_a,B8,EE hi];rfl
   rw[e0];exact K5 _ _ _ hj
  rw[e];split;exact(show qN ⟨false,0,[1]⟩=1 from KI)▸YZ _;rw[Kd];exact Xw _ _) a.length (BD _)
 unfold Qu;rw[BC ⟨ha,hp⟩];rcases this with ⟨q1,q2,q3⟩ | q;rw[BC q1];exact .inl ⟨rfl,q3⟩;rw[BA (by rw[q];decide)];exact .inr q
theorem xT {r:Nat->Ivl}{p:Int}{L U:Nat}(hp:Q4 p=true)(hL:L<=60000): ∀j,(∀k,k<=j->luI L U (r k))->U+2*j+2<=60000->(VD r p j).2=0
 | 0,_,_=>rfl
 | j+1,h,hU=>by
  have h0:=xT hp hL j (fun k hk=>h k oG) oG;have l0:=xS j (fun k hk=>h k oG) h0;rw[Wm h0];have hr:Qg (VD r p j).1=true:=by
   cases j with
   | zero=>exact Yq (r 0)
   | succ i=>
    have h1:=xT hp hL i (fun k hk=>h k oG) oG;rw[Wm h1];exact QB _ _ _ _ _
  refine Jv hr (Yq _) hp (L:=L) (U:=U+2*j+1) ?_ hL oG;rw[Y0p];exact Jz l0 ((Q0k (h (j+1) oG)).up oG)
theorem vt {m:Mx}{p:Int}{L U:Nat}(hm:rightM m=true)(hp:Q4 p=true)(h: ∀i j,i<m.length->j<m.length->luI L U (atM m i j))(hL:L<=60000)(hU:U+10<=60000):(Z1 m p).2=0:=by
 have hl:=QI hm;have key: ∀i,i<=m.length->(Xy m p i).2=0:=fun i=>by
  induction i with
  | zero=>intro _;rfl
  | succ i ih=>
   intro hi;have h0:=ih oG;have hs:=xT (r:=atM m i) hp hL (m.length-1) (fun k hk=>h i k oG oG) oG;rw[Yn h0 hs];split<;>rfl
 unfold Z1;rw[BC ⟨hm,hp⟩];exact key _ (BD _)
theorem J0v {L U:Nat}{x:Rat}(h:luQ L U x)(h0:0<=x)(h1:x<=1):luQ L 0 x:=by
 obtain⟨z,e,_⟩:=h;refine⟨z,e,?_⟩;have e1:(1:Rat)=qM (2^L) (-(L:Int)):=by have:=XQ 1 L (-(L:Int));rw[Int.one_mul,Int.add_left_neg] at this;rw[this];unfold qM;rw[IP,Rat.mul_one];rfl
 rw[e,e1,qM_le] at h1;rw[e,<-Zs (-(L:Int)),qM_le] at h0;have e2:((2^L:Nat):Int)=(2:Int)^L:=(by simp);rw[B1];omega
theorem G0m {a:List (List Nm)}{R U A:Nat}{p:Int}(hsq:sqR a.length a)(h1:1<=a.length)(h4:a.length<=4)(hp:Q4 p=true)(hap:((Qu a p).2=0/\bdJ a.length (fun _=>0) R U (Qu a p).1)\/(Qu a p).2=3)
 (hb: ∀i j,i<a.length->j<a.length->luQ A 0 (qN (QM a i j))) (hL:2*R+A+262<=60000) (hU:U+R+A+40<=60000):
 ((Xr a p).2=0/\ ∀i j,i<a.length->j<a.length->luI (2*R+A+262) (U+R+A+13) (atM (Xr a p).1 i j))\/(Xr a p).2=3:=by
 rcases hap with ⟨o1,hX⟩ | e3;rotate_left;refine .inr ?_;unfold Xr;rw[BC (by rw[e3];decide)];exact e3;obtain⟨-, -,a3, -, -, -, -, -⟩:=zb o1;have hsnd:=YN (a:=a) (p:=p);have hXl: ∀i j,i<a.length->j<a.length->luI R U (atM (ofM (Qu a p).1) i j):=fun i j hi hj=>by rw[H8 (by rw[a3.1];exact hi) (by rw[(a3.row hi).1];exact hj)];have:=hX i hi j hj;rw[CU] at this;exact⟨Xg (a3.ent hi hj),this,this⟩
 have hal: ∀i j,i<a.length->j<a.length->luI A 0 (atM (ofM a) i j):=fun i j hi hj=>by rw[H8 hi (by rw[(hsq.row hi).1];exact hj)];exact⟨Xg (hsq.ent hi hj),hb i j hi hj,hb i j hi hj⟩
 unfold Xr at hsnd⊢;rw[BA (fun e=>e o1)] at hsnd⊢;have hentX: ∀i j,i<a.length->j<a.length->Qg (QM (Qu a p).1 i j)=true/\luQ R U (qN (QM (Qu a p).1 i j)):=fun i j hi hj=>⟨a3.ent hi hj,by have:=hX i hi j hj;rwa [CU] at this⟩;generalize (Qu a p).1=X at*
 have rX:=a3.rightM h1 h4;have ra:=hsq.rightM h1 h4;have lX:(ofM X).length=a.length:=(by unfold ofM;rw[BR];exact a3.1);have la:(ofM a).length=a.length:=(by unfold ofM;rw[BR]);have c1:=jt rX ra lX la hXl hal hp oG oG;obtain⟨w1,w2⟩:=jr c1;obtain⟨-,m1,m2⟩:=Yo c1;obtain⟨si,hil⟩:=k7 h1 h4;have hML: ∀i j,i<a.length->j<a.length->luI (R+A) (U+9) (atM (XW (ofM X) (ofM a) p).1 i j):=fun i j hi hj=>by rw[lX] at m2;obtain⟨d1,d2⟩:=(m2 i hi).2 j hj;rw[d2];exact(Yt hp a.length (fun k hk=>⟨hXl i k hi hk,hal k j hk hj⟩) d1).mono (BD _) oG
 have c2:(opM 1 (idM (X.length:Int)) (XW (ofM X) (ofM a) p).1 p).2=0:=by unfold opM;rw[a3.1,BC ⟨si.right,w1,by rw[hil,w2,lX],hp⟩,hil];exact Ig fun i j hi hj=>yX oG ((J1i h1 h4 hi hj).mono (CX _) oG) (hML i j hi hj) hp oG oG
 obtain⟨-,p1,p2⟩:=yV c2;obtain⟨w3,w4⟩:=v1q c2;rw[a3.1,hil] at p1 p2;have hOL: ∀i j,i<a.length->j<a.length->luI (R+A) (U+11) (atM (opM 1 (idM (X.length:Int)) (XW (ofM X) (ofM a) p).1 p).1 i j):=fun i j hi hj=>by rw[a3.1];obtain⟨d1,d2⟩:=(p2 i hi).2 j hj;rw[d2];exact yW oG ((J1i h1 h4 hi hj).mono (CX _) oG) (hML i j hi hj) hp d1
 have hlen:(opM 1 (idM (X.length:Int)) (XW (ofM X) (ofM a) p).1 p).1.length=a.length:=(by rw[w4,a3.1,hil]);have c3:(ZX X a p).2=0:=by unfold ZX;rw[BA (fun e=>e c1),BA (fun e=>e c2)];exact vt w3 hp (fun i j hi hj=>hOL i j oG oG) oG oG
 have l3:luQ (R+A) (U+19) (qN (ZX X a p).1):=by have c3':=c3;unfold ZX at c3'⊢;rw[BA (fun e=>e c1),BA (fun e=>e c2)] at c3'⊢;exact vr (fun i j hi hj=>hOL i j oG oG) c3'
 obtain⟨e0,er, -⟩:=je a3 hsq h1 h4 c3;rw[BA (fun e=>e c3)] at hsnd⊢;generalize (ZX X a p).1=e at*
 by_cases hc:Uw e oneN>=0;rw[BC hc];exact .inr rfl;rw[BA hc] at hsnd⊢;have hlt:qN e<1:=by rw[v0b er (by decide)] at hc;have:=cmpN_lt.1 (Int.not_le.1 hc);rwa [KI] at this
 have l3':=J0v l3 e0 (by grind);have q1:luQ (R+A) 1 (exQ 1 (qN oneN) (qN e)):=by rw[Q0z,KI];exact KV (J0v (YZ _) (by decide) (by decide)) l3'
 have d1:=Jv (up:=false) (show Qg oneN=true by decide) er hp q1 oG oG;have ld:=Ju d1 q1;have d2:=vt rX hp (fun i j hi hj=>hXl i j oG oG) (show R<=60000 by omega) oG;have ln:=vr (m:=ofM X) (fun i j hi hj=>hXl i j oG oG) d2;have rn:=(Ym d2).2.2.2.1;have q2:luQ (R+(R+A)) (U+8+0) (exQ 2 (qN (Z1 (ofM X) p).1) (qN e)):=(by rw[j0q];exact JF ln l3');have d3:=Jv (up:=true) rn er hp q2 oG oG;have lq:=Ju d3 q2;have hR:Yf X e p=Jx (Qv 2 (Z1 (ofM X) p).1 e p true).1 (Qv 1 oneN e p false).1 p true:=by unfold Yf;rw[BA (fun e=>e d1),BA (fun e=>e d2),BA (fun e=>e d3)]
 by_cases hw:(Qv 1 oneN e p false).1.w= [];have:(Yf X e p).2=3:=(by rw[hR];unfold Jx;rw[BC hw]);rw[BC (by rw[this];decide)];exact .inr this;have hrad:(Yf X e p).2=0/\luQ (2*R+A+262) (U+R+A+11) (qN (Yf X e p).1)/\Qg (Yf X e p).1=true:=by rw[hR];unfold Jx;rw[BA hw];obtain⟨v1,v2⟩:=k0h true (QB _ _ _ _ _) (QB _ _ _ _ _) hp lq ld hw oG oG;exact⟨v1,v2.mono oG oG,xx _ _ _ _⟩
 obtain⟨g1,g2,g3⟩:=hrad;rw[BA (fun e=>e g1)] at hsnd⊢;generalize (Yf X e p).1=q at*
 refine .inl ?_;have key: ∀i j,i<a.length->j<a.length->(Qv 1 (QM X i j) q p false).2=0/\luQ (2*R+A+262) (U+R+A+13) (qN (Qv 1 (QM X i j) q p false).1)/\(Qv 0 (QM X i j) q p true).2=0/\luQ (2*R+A+262) (U+R+A+13) (qN (Qv 0 (QM X i j) q p true).1):=fun i j hi hj=>by obtain⟨y1,y2⟩:=hentX i j hi hj;have s1:luQ (2*R+A+262) (U+R+A+12) (exQ 1 (qN (QM X i j)) (qN q)):=(by rw[Q0z];exact KV (y2.mono oG oG) g2);have s2:luQ (2*R+A+262) (U+R+A+12) (exQ 0 (qN (QM X i j)) (qN q)):=(by rw[Y0p];exact Jz (y2.mono oG oG) g2);have t1:=Jv (up:=false) y1 g3 hp s1 hL oG;have t2:=Jv (up:=true) y1 g3 hp s2 hL oG;exact⟨t1,Ju t1 s1,t2,Ju t2 s2⟩
 have hall:(Km (fun i j=>Xs (QM X i j) q p) a.length).2=0:=Ig fun i j hi hj=>by obtain⟨k1,k2,k3,k4⟩:=key i j hi hj;unfold Xs;rw[BA (by rintro(h | h);exact h k1;exact h k3)]
 refine⟨hall,fun i j hi hj=> ?_⟩;obtain⟨-, -, -,hs⟩:=hsnd hall;have hrt:=((hs i hi).2 j hj).1;obtain⟨f1,f2⟩:=Vw hall;rw[((f2 i hi).2 j hj).2] at hrt⊢;obtain⟨k1,k2,k3,k4⟩:=key i j hi hj;unfold Xs at hrt⊢;rw[BA (by rintro(h | h);exact h k1;exact h k3)] at hrt⊢;exact⟨hrt,k2,k4⟩
end Go.Pv
end
