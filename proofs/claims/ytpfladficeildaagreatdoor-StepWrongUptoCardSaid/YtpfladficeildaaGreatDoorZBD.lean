/- Walk. -/
import Derived.Test.YtpfladficeildaaGreatDoorZAE
set_option linter.all false
set_option maxHeartbeats 160000000
section
namespace Go.Pv
structure Mn where
 c:Nm
 ks:List Int
 deriving DecidableEq
abbrev Ll :=List (List (List Mn))
abbrev Lk :=List (List Mn)
abbrev Lm :=List Mn
instance : Inhabited Mn:=⟨⟨default,[]⟩⟩
def Kk (x:Mn):List PV:= [.sc (.bool x.c.neg),.sc (.int .i64 x.c.exp),.sl .no (Qo x.c.w),.sl .no (QX x.ks)]
attribute [go_sem] Kk
def Zp (l:List Mn):List PV:=l.map fun c=>(.agg (Kk c))
@[go_sem] theorem G2n (l:Lm):(Zp l).length=l.length:=by simp[Zp]
@[go_sem] theorem G2m :Zp []= []:=(rfl)
@[go_sem] theorem G2l (l:Lm):(Zp l).all (fun x=>x.cells.length==4)=true:=by simp[Zp,PV.cells,Kk]
@[go_sem] theorem j1i (l:Lm)(c:Mn):Zp l++ [.agg (Kk c)]=Zp (l++ [c]):=by simp[Zp]
theorem UW (l:Lm)(n:Nat)(h:n<l.length):(Zp l).getD n .junk= .agg (Kk (l.getD n default)):=by simp[Zp,q_a,h]
structure Tm where
 v:Vl
 ks:List Int
instance : Inhabited Tm:=⟨⟨⟨false,0,0⟩,[]⟩⟩
def K3 (x:Tm):List PV:= [.sc (.bool x.v.neg),.sl .no (QD (Qs x.v.m)),.sc (.int .i64 x.v.e),.sl .no (QX x.ks)]
attribute [go_sem] K3
def QC (l:List Tm):List PV:=l.map fun c=>(.agg (K3 c))
@[go_sem] theorem UU (l:List Tm):(QC l).length=l.length:=by simp[QC]
@[go_sem] theorem G2f (l:List Tm):(QC l).all (fun x=>x.cells.length==4)=true:=by simp[QC,PV.cells,K3]
@[go_sem] theorem j1d (l:List Tm):(QC l).all (fun x=>(x.cells.length==4)&&x.cells.all PV.cellOK)=true:=by simp[QC,PV.cells,PV.cellOK,Value.oneCell',K3]
@[go_sem] theorem G2e (l:List Tm)(n:Nat):(QC l).take n=QC (l.take n):=by simp[QC]
@[go_sem] theorem G2g (l:List Tm)(n:Nat):(QC l).drop n=QC (l.drop n):=by simp[QC]
@[go_sem] theorem j1e (l m:List Tm):QC l++QC m=QC (l++m):=by simp[QC]
@[go_sem] theorem j1c (l:List Tm)(c:Tm):QC l++ [.agg (K3 c)]=QC (l++ [c]):=by simp[QC]
theorem xA (l:List Tm)(n:Nat)(h:n<l.length):(QC l).getD n .junk= .agg (K3 (l.getD n default)):=by simp[QC,q_a,h]
def QL (l:List (List Mn)):List PV:=l.map fun c=>(.sl .no (Zp c))
@[go_sem] theorem H2f (l:Lk):(QL l).length=l.length:=by simp[QL]
@[go_sem] theorem H2d (l:Lk):(QL l).all (fun x=>x.cells.length==1)=true:=by simp[QL,PV.cells]
@[go_sem] theorem H2e (l:Lk)(c:(List Mn)):QL l++ [.sl .no (Zp c)]=QL (l++ [c]):=by simp[QL]
theorem IN (l:Lk)(n:Nat)(h:n<l.length):(QL l).getD n .junk= .sl .no (Zp (l.getD n [])):=by simp[QL,q_a,h]
def Xw (l:List (List (List Mn))):List PV:=l.map fun c=>(.sl .no (QL c))
@[go_sem] theorem G2x (l:Ll):(Xw l).length=l.length:=by simp[Xw]
@[go_sem] theorem G2w :Xw []= []:=(rfl)
@[go_sem] theorem G2u (l:Ll):(Xw l).all (fun x=>x.cells.length==1)=true:=by simp[Xw,PV.cells]
@[go_sem] theorem G2v (l:Ll)(c:(List (List Mn))):Xw l++ [.sl .no (QL c)]=Xw (l++ [c]):=by simp[Xw]
section
variable {w:World} {g g':Gh} {F:Fr} {T:List (Nat×Nat)} {k:Nat} {cs:List PV}
end
theorem G5 (ks:Pq)(i:Nat)(h:i<ks.length):(ks.take (i+1)).sum=(ks.take i).sum+ks.getD i 0:=by rw[List.take_add_one,List.sum_append,BB h];simp[q_a,h]
theorem j8 (ks:Pq)(h: ∀j,j<ks.length->0<=ks.getD j 0): ∀(d i:Nat),i+d=ks.length->(ks.take i).sum<=ks.sum
 | 0,i,e=>by rw[BF oG];exact Int.le_refl _
 | d+1,i,e=>by have h1:=j8 ks h d (i+1) oG;have h2:=G5 ks i oG;have h3:=h i oG;omega
def JN (ks:List Int):Bool:=ks.all (fun k=>decide (0<=k))&&decide (ks.sum<=8)
theorem Ww (ks:Pq):JN ks=true<->(∀j,j<ks.length->0<=ks.getD j 0)/\ks.sum<=8:=by unfold JN;simp only[q_i,q_d,BN];constructor;rintro⟨h1,h2⟩;refine⟨fun j hj=> ?_,h2⟩;have:ks.getD j 0=ks[j]:=(by simp[q_a,hj]);rw[this];exact h1 _ (EA hj);rintro⟨h1,h2⟩;refine⟨fun k hk=> ?_,h2⟩;obtain⟨j,hj,e⟩:=CM.1 hk;have:=h1 j hj;rw[show ks.getD j 0=ks[j] by simp[q_a,hj],e] at this;exact this
theorem w0w {ks:Pq}{i:Nat}(h:i<ks.length)(hb:ks.getD i 0<0\/8-(ks.take i).sum<ks.getD i 0):JN ks=false:=CS.2 fun e=>by obtain⟨h1,h2⟩:=(Ww ks).1 e;have h3:=h1 i h;have h4:=j8 ks h1 (ks.length-(i+1)) (i+1) oG;have h5:=G5 ks i h;omega
theorem x0q {ks:Pq}(h: ∀j,j<ks.length->0<=ks.getD j 0)(i:Nat)(hi:i<=ks.length):0<=(ks.take i).sum:=by
 induction i with
 | zero=>simp
 | succ i ih=>
  have h2:=G5 ks i oG;have h3:=h i oG;have:=ih oG;omega
theorem Nz {ks:Pq}(h:JN ks=true)(i:Nat)(hi:i<=ks.length):0<=(ks.take i).sum/\(ks.take i).sum<=8:=by obtain⟨h1,h2⟩:=(Ww ks).1 h;have h3:=x0q h1 i hi;have h4:=j8 ks h1 (ks.length-i) i oG;omega
theorem GM {ks:Pq}(h:JN ks=true)(i:Nat)(hi:i<ks.length):0<=ks.getD i 0/\ks.getD i 0<=8:=by obtain⟨h1,h2⟩:=(Ww ks).1 h;have h3:=Nz h i oG;have h4:=Nz h (i+1) oG;have h5:=G5 ks i hi;have:=h1 i hi;omega
def Xe (m:Mn)(n:Int):Bool:=decide ((m.ks.length:Int)=n)&&JN m.ks&&Qg m.c
theorem I0 (m:Mn)(n:Int):Xe m n=true<->(m.ks.length:Int)=n/\JN m.ks=true/\Qg m.c=true:=by unfold Xe;simp only[q_i,BN,and_assoc]
def Zn :List Int->List Int->Int
 | x::a,y::b=>if x>y then 1 else if x<y then -1 else Zn a b
 | _,_=>0
def JH :List Int->List Int->Int
 | [],[]=>0
 | [],_::_=> -1
 | _::_,[]=>1
 | x::a,y::b=>if x<y then -1 else if x>y then 1 else JH a b
theorem H1 (a:Pq)(i:Nat)(h:i<a.length):a.drop i=a.getD i 0::a.drop (i+1):=by rw[E8 h];simp[q_a,h]
theorem J1p {a b:Pq}{i:Nat}(ha:i<a.length)(hb:i<b.length):Zn (a.drop i) (b.drop i)=if a.getD i 0>b.getD i 0 then 1 else if a.getD i 0<b.getD i 0 then -1 else Zn (a.drop (i+1)) (b.drop (i+1)):=by rw[H1 a i ha,H1 b i hb,Zn]
theorem J1o {a b:Pq}{i:Nat}(h:a.length<=i\/b.length<=i):Zn (a.drop i) (b.drop i)=0:=by rcases h with h | h;rw[C6 h];cases b.drop i<;>rfl;rw[C6 h];cases a.drop i<;>rfl
theorem v1j {a b:Pq}{i:Nat}(ha:i<a.length)(hb:i<b.length):JH (a.drop i) (b.drop i)=if a.getD i 0<b.getD i 0 then -1 else if a.getD i 0>b.getD i 0 then 1 else JH (a.drop (i+1)) (b.drop (i+1)):=by rw[H1 a i ha,H1 b i hb,JH]
theorem v1i {a b:Pq}{i:Nat}(ha:a.length<=i):JH (a.drop i) (b.drop i)=if i<b.length then -1 else 0:=by rw[C6 ha];split;rename_i h;rw[H1 b i h,JH];rename_i h;rw[C6 oG,JH]
theorem v1h {a b:Pq}{i:Nat}(ha:i<a.length)(hb:b.length<=i):JH (a.drop i) (b.drop i)=1:=by rw[C6 hb,H1 a i ha,JH]
theorem W0z : ∀(a b:Pq),a.length=b.length->JH b a= -Zn a b
 | [],[],_=>rfl
 | x::a,y::b,h=>by rw[JH,Zn,W0z a b (by simpa using h)];by_cases h1:x>y;rw[BC oG,BC h1];rw[BA oG,BA h1];by_cases h2:x<y;rw[BC oG,BC h2];rfl;rw[BA oG,BA h2]
theorem zN : ∀(a b:Pq),Zn a b=1\/Zn a b=0\/Zn a b= -1
 | [],_=> .inr (.inl rfl)
 | _::_,[]=> .inr (.inl rfl)
 | x::a,y::b=>by rw[Zn];split;exact .inl rfl;split;exact .inr (.inr rfl);exact zN a b
def okP (p:List Mn)(n:Int)(i:Nat):Bool:=
 Xe (p.getD i default) n&&decide ((p.getD i default).c.w.length≠0)&&(decide (i=0)||decide (Zn (p.getD (i-1) default).ks (p.getD i default).ks=1))
def ZL (p:List Mn)(n:Int):Bool:=decide (1<=n/\n<=4/\p.length<=24)&&(List.range p.length).all (okP p n)
theorem WW (p:Lm)(n:Int):ZL p n=true<->(1<=n/\n<=4/\p.length<=24)/\ ∀i,i<p.length->okP p n i=true:=by unfold ZL;simp only[q_i,q_d,BN,EX]
theorem VU (p:Lm)(n:Int)(i:Nat):okP p n i=true<->Xe (p.getD i default) n=true/\(p.getD i default).c.w.length≠0/\(i=0\/Zn (p.getD (i-1) default).ks (p.getD i default).ks=1):=by unfold okP;simp only[q_i,DF,BN,and_assoc]
theorem Nw {p:Lm}{n:Int}{i:Nat}(hi:i<p.length)(h:okP p n i=false):ZL p n=false:=CS.2 fun e=>by have:=((WW p n).1 e).2 i hi;rw[h] at this;cases this
theorem Nv {p:Lm}{n:Int}(h:ZL p n=true){i:Nat}(hi:i<p.length):((p.getD i default).ks.length:Int)=n/\JN (p.getD i default).ks=true/\Qg (p.getD i default).c=true:=(I0 _ _).1 ((VU _ _ _).1 (((WW p n).1 h).2 i hi)).1
def ZY (f:List (List Mn)):Bool:=decide (1<=f.length/\f.length<=4)&&f.all (fun p=>ZL p f.length)
theorem VR (f:Lk):ZY f=true<->(1<=f.length/\f.length<=4)/\ ∀i,i<f.length->ZL (f.getD i []) f.length=true:=by unfold ZY;simp only[q_i,q_d,BN];constructor;rintro⟨h1,h2⟩;refine⟨h1,fun j hj=> ?_⟩;have:f.getD j []=f[j]:=(by simp[q_a,hj]);rw[this];exact h2 _ (EA hj);rintro⟨h1,h2⟩;refine⟨h1,fun k hk=> ?_⟩;obtain⟨j,hj,e⟩:=CM.1 hk;have:=h2 j hj;rw[show f.getD j []=f[j] by simp[q_a,hj],e] at this;exact this
def wK (ks:List Int):Prop:=ks.length<=100000000000/\ ∀i,i<ks.length-> -9223372036854775808<=ks.getD i 0/\ks.getD i 0<=9223372036854775807
def wMn (m:Mn):Prop:=wN m.c/\wK m.ks
def wP (p:List Mn):Prop:=p.length<=100000000000/\ ∀i,i<p.length->wMn (p.getD i default)
def wF (f:List (List Mn)):Prop:=f.length<=100000000000/\ ∀i,i<f.length->wP (f.getD i [])
set_option maxRecDepth 100000
open Go.Proofs
theorem v1k (a b:Pq)(st:Qc)(ha:wK a)(hb:wK b):PR 301 [.sl .no (QX a),.sl .no (QX b)] st (.sc (.int .i64 (JH a b))):=by
 have hla:=ha.1;have hlb:=hb.1;refine Ql Tryz.func301 fun E=> ?_;refine Q1 ([true,true]++rF 7++ [true,true,true]) 0 0
  (fun n s=> ∃i,n=a.length-i/\i<=a.length/\i<=b.length/\JH a b=JH (a.drop i) (b.drop i)/\s=⟨[.sl .no (QX a),.sl .no (QX b)]++jk 7++ [.sl .no (QX a),.sc (.int .i64 a.length),.sc (.int .i64 (i:Nat))]++jk 24,[],[],st⟩) a.length ?_ ?_
 refine Qq ?_;exact⟨0,oG,oG,oG,rfl,rfl⟩;rintro n s ⟨i,rfl,hi,hib,hr,rfl⟩;refine QS ?_ ?_<;>intro h';have hlt:i<a.length:=(by have:=q_b h';omega);have e1:=Yh a i hlt;have e3:=Zd i oG;simp-dsimp only[go_sem,e1];refine⟨oG,ck (fun h2=> ?_) (fun h2=> ?_)⟩;have hge:b.length<=i:=(oT h2);rw[v1h hlt hge] at hr;simp-dsimp only[go_sem,hr];have hltb:i<b.length:=(oF h2);have e2:=Yh b i hltb;rw[v1j hlt hltb] at hr;simp-dsimp only[go_sem,e2];refine⟨oG,?_⟩;refine(xK (a.getD i 0) (b.getD i 0) _).Q ?_;refine ck ?_ ?_<;>intro h3;have hne:=Xm h3;have hc:JH a b=Zu (a.getD i 0) (b.getD i 0):=by rw[hr];unfold Zu at hne⊢;split;rfl;split;rfl;rw[BA oG,BA oG] at hne;exact absurd rfl hne
 simp-dsimp only[go_sem,hc];have hq:=XA h3;have hc:JH a b=JH (a.drop (i+1)) (b.drop (i+1)):=by rw[hr];unfold Zu at hq;by_cases c1:a.getD i 0<b.getD i 0;rw[BC c1] at hq;omega;rw[BA c1] at hq;by_cases c2:a.getD i 0>b.getD i 0;rw[BC oG] at hq;omega;rw[BA c1,BA c2]
 simp-dsimp only[go_sem,e3];exact⟨a.length-(i+1),oG,i+1,rfl,oG,oG,hc,rfl⟩;have hge:i=a.length:=(by have:=q_c h';omega);rw[v1i oG] at hr;refine Qq ?_;refine Qp ?_;refine ck ?_ ?_<;>intro h2;rw[BC (oT h2)] at hr;simp-dsimp only[go_sem,hr];rw[BA (oF h2)] at hr;simp-dsimp only[go_sem,hr]
theorem X1e (m:Mn)(n:Int)(st:Qc)(hm:wMn m):PR 247 [.agg (Kk m),.sc (.int .i64 n)] st (.sc (.bool (Xe m n))):=by
 have hl:=hm.2.1;have hc:=hm.1;unfold wN at hc;refine Ql Tryz.func247 fun E=> ?_;refine Q1 [false,true,true,false,false,true,false,false,false,true,true,true] 1 0
  (fun k s=> ∃i,k=m.ks.length-i/\i<=m.ks.length/\(∀j,j<i->0<=m.ks.getD j 0)/\0<=(m.ks.take i).sum/\(m.ks.take i).sum<=8/\s=⟨[.junk,.sc (.int .i64 n),.lp 0 0,.junk,.junk,.sc (.int .i64 (8-(m.ks.take i).sum)),.junk,.junk,.junk,.sl .no (QX m.ks),.sc (.int .i64 m.ks.length),.sc (.int .i64 (i:Nat))]++jk 24,[Kk m],[],st⟩) m.ks.length ?_ ?_
 refine Qq ?_;exact⟨0,oG,oG,fun j hj=>oG,by simp,by simp,by simp⟩;rintro k s ⟨i,rfl,hi,hr,h0,h8,rfl⟩;refine QS ?_ ?_<;>intro h';have hlt:i<m.ks.length:=(by have:=q_b h';omega);have e1:=Yh m.ks i hlt;have e3:=Zd i oG;have hk:=hm.2.2 i hlt;have hs:=G5 m.ks i hlt;simp-dsimp only[go_sem,e1];refine⟨oG,?_⟩;have bad:m.ks.getD i 0<0\/8-(m.ks.take i).sum<m.ks.getD i 0->Xe m n=false:=fun hb=>by unfold Xe;rw[w0w hlt hb];simp
 refine gkF ?_ ?_<;>intro h2;have h2':=q_c h2;simp-dsimp only[go_sem,h2];refine ck ?_ ?_<;>intro h3;have h3':=q_b h3;have hb:=bad (.inr h3');simp-dsimp only[go_sem,hb];have h3':=q_c h3;have e4:IntKind.i64.wrap (8-(m.ks.take i).sum-m.ks.getD i 0)=8-(m.ks.take (i+1)).sum:=by rw[hs,Q2 _ oG oG];omega
 simp-dsimp only[go_sem,e3,e4];refine⟨m.ks.length-(i+1),oG,i+1,rfl,oG,fun j hj=> ?_,oG,oG,rfl⟩;by_cases e:j=i;subst e;omega;exact hr j oG;have hb:=bad (.inl (q_b h2));simp-dsimp only[go_sem,h2,hb];have hge:i=m.ks.length:=(by have:=q_c h';omega);subst hge;have hk:JN m.ks=true:=(Ww _).2 ⟨hr,by rw[B0] at h8;exact h8⟩;refine Qq ?_;refine Qp ?_;refine gkT ?_ ?_<;>intro h2;have h2':(m.ks.length:Int)=n:=(by simpa using h2);simp-dsimp only[go_sem,h2];refine(XY m.c _ oG).q ?_;have hv:Xe m n=Qg m.c:=(by unfold Xe;rw[hk,q_h h2'];simp);simp-dsimp only[go_sem,h2,hv];have h2': ¬(m.ks.length:Int)=n:=(by simpa using h2);have hv:Xe m n=false:=(by unfold Xe;rw[q_g h2'];simp);simp-dsimp only[go_sem,h2,hv]
theorem X1g (a b:Mn)(st:Qc)(ha:wMn a)(hb:wMn b):PR 248 [.agg (Kk a),.agg (Kk b)] st (.sc (.int .i64 (JH b.ks a.ks))):=by refine Ql Tryz.func248 fun E=> ?_;refine(v1k b.ks a.ks _ hb.2 ha.2).Q0
theorem Sj (i:Nat)(h:i<100000000000000)(h0:0<i):IntKind.i64.wrap ((i:Int)-1)=((i-1:Nat):Int):=by rw[Q2 _ oG oG];omega
theorem zH (p:Lm)(n:Int)(st:Qc)(hp:wP p):PR 165 [.sl .no (Zp p),.sc (.int .i64 n)] st (.sc (.bool (ZL p n))):=by
 have hl:=hp.1;refine Ql Tryz.func165 fun E=> ?_;refine Q1 [true,true,false,false,false,false,false,true,true,true] 0 0
  (fun k s=> ∃i,k=p.length-i/\i<=p.length/\(∀j,j<i->okP p n j=true)/\s=⟨[.sl .no (Zp p),.sc (.int .i64 n),.junk,.junk,.junk,.junk,.junk,.sl .no (Zp p),.sc (.int .i64 p.length),.sc (.int .i64 (i:Nat))]++jk 41,[],[],st⟩) p.length ?_ ?_
 refine Qq ?_;exact⟨0,oG,oG,fun j hj=>oG,rfl⟩;rintro k s ⟨i,rfl,hi,hr,rfl⟩;refine QS ?_ ?_<;>intro h';have hlt:i<p.length:=(by have:=q_b h';omega);have e1:=UW p i hlt;have e3:=Zd i oG;have hm:=hp.2 i hlt;have hmw:=hm.1;unfold wN at hmw;simp-dsimp only[go_sem,e1];refine⟨oG,?_⟩;refine Q8 51 (Qk [0,1,2,3,4,5,6,7,8,9,10,11,12,13,14,15,16,17,18,19,20] (.step 21 [0,7] (Qk [22,23,24] .done))) ?_;simp-dsimp only[go_sem,e1];refine(X1e (p.getD i default) n _ hm).q ?_;have bad:okP p n i=false->ZL p n=false:=fun h=>Nw hlt h;cases h1:Xe (p.getD i default) n with
 | false=>
  have hb:=bad (by unfold okP;rw[h1];rfl);simp-dsimp only[go_sem,h1,hb]
 | true=>
  simp-dsimp only[go_sem,h1];refine gkF ?_ ?_<;>intro h2;have h2':(p.getD i default).c.w.length≠0:=(oF h2);simp-dsimp only[go_sem,h2];refine gkT ?_ ?_<;>intro h3;have h3':0<i:=(oT h3);have e4:=Sj i oG h3';have e5:=UW p (i-1) oG;simp-dsimp only[go_sem,h2,h3,e4,e5];refine⟨oG,?_⟩;refine(X1g (p.getD (i-1) default) (p.getD i default) _ (hp.2 _ oG) hm).q ?_;obtain⟨k1,k2,k3⟩:=(I0 _ _).1 h1;have h0:=(I0 _ _).1 ((VU _ _ _).1 (hr (i-1) oG)).1;have ho:=W0z (p.getD (i-1) default).ks (p.getD i default).ks oG;have hv:=zN (p.getD (i-1) default).ks (p.getD i default).ks;rw[ho];simp-dsimp only[go_sem,h2,h3];refine ck ?_ ?_<;>intro h4;have h4':=q_b h4;have hb:=bad (CS.2 fun e=>by rcases ((VU _ _ _).1 e).2.2 with h | h<;>omega);simp-dsimp only[go_sem,hb];have h4':=q_c h4;simp-dsimp only[go_sem,e3];refine⟨p.length-(i+1),oG,i+1,rfl,oG,fun j hj=> ?_,rfl⟩;by_cases e:j=i;subst e;exact(VU _ _ _).2 ⟨h1,h2',.inr oG⟩;exact hr j oG;have h3':i=0:=(oF h3);simp-dsimp only[go_sem,h2,h3,e3];refine⟨p.length-(i+1),oG,i+1,rfl,oG,fun j hj=> ?_,rfl⟩;have e:j=i:=oG;subst e;exact(VU _ _ _).2 ⟨h1,h2',.inl h3'⟩;have h2':(p.getD i default).c.w.length=0:=(oT h2);have hb:=bad (CS.2 fun e=>((VU _ _ _).1 e).2.1 h2');simp-dsimp only[go_sem,h2,hb]
 have hge:i=p.length:=by have:=q_c h';omega
 subst hge;refine Qq ?_;refine Qp ?_;refine gkT ?_ ?_<;>intro h1;have h1':=q_b h1;simp-dsimp only[go_sem,h1];refine gkT ?_ ?_<;>intro h2;have h2':=q_b h2;have hv:ZL p n=decide ((p.length:Int)<=24):=by rw[E3,WW,D0];exact⟨fun h=>oG,fun h=>⟨⟨h1',h2',oG⟩,hr⟩⟩
 simp-dsimp only[go_sem,h1,h2,hv];have h2':=q_c h2;have hv:ZL p n=false:=CS.2 fun e=>h2' ((WW _ _).1 e).1.2.1;simp-dsimp only[go_sem,h1,h2,hv];have h1':=q_c h1;have hv:ZL p n=false:=CS.2 fun e=>h1' ((WW _ _).1 e).1.1;simp-dsimp only[go_sem,h1,hv]
theorem IJ (f:Lk)(st:Qc)(hf:wF f):PR 92 [.sl .no (QL f)] st (.sc (.bool (ZY f))):=by
 have hl:=hf.1;refine Ql Tryz.func92 fun E=> ?_;refine Q1 [true,false,false,false,false,true,true,true] 0 0
  (fun n s=> ∃i,n=f.length-i/\i<=f.length/\(∀j,j<i->ZL (f.getD j []) f.length=true)/\s=⟨[.sl .no (QL f),.junk,.junk,.junk,.junk,.sl .no (QL f),.sc (.int .i64 f.length),.sc (.int .i64 (i:Nat))]++jk 17,[],[],st⟩) f.length ?_ ?_
 refine Qq ?_;exact⟨0,oG,oG,fun j hj=>oG,rfl⟩;rintro n s ⟨i,rfl,hi,hr,rfl⟩;refine QS ?_ ?_<;>intro h';have hlt:i<f.length:=(by have:=q_b h';omega);have e1:=IN f i hlt;have e3:=Zd i oG;simp-dsimp only[go_sem,e1];refine⟨oG,?_⟩;refine(zH _ _ _ (hf.2 i hlt)).Q ?_;refine ck ?_ ?_<;>intro h3;have hb:ZL (f.getD i []) f.length=false:=(by simpa using h3);have hv:ZY f=false:=CS.2 fun e=>by have:=((VR f).1 e).2 i hlt;rw[hb] at this;cases this
 simp-dsimp only[go_sem,hv];have ht:ZL (f.getD i []) f.length=true:=(by simpa using h3);simp-dsimp only[go_sem,e3];refine⟨f.length-(i+1),oG,i+1,rfl,oG,fun j hj=> ?_,rfl⟩;by_cases e:j=i;subst e;exact ht;exact hr j oG;have hge:i=f.length:=(by have:=q_c h';omega);subst hge;refine Qq ?_;refine Qp ?_;refine gkT ?_ ?_<;>intro h;have h1:=q_b h;have hv:ZY f=decide ((f.length:Int)<=4):=by rw[E3,VR,D0];exact⟨fun h=>oG,fun h=>⟨⟨oG,oG⟩,hr⟩⟩
 simp-dsimp only[go_sem,h,hv];have h1:=q_c h;have hv:ZY f=false:=CS.2 fun e=>by have:=((VR f).1 e).1;omega
 simp-dsimp only[go_sem,h,hv]
theorem jY (a b:Pq)(st:Qc)(ha:wK a)(hb:wK b):PR 250 [.sl .no (QX a),.sl .no (QX b)] st (.sc (.int .i64 (Zn a b))):=by
 have hla:=ha.1;have hlb:=hb.1;refine Ql Tryz.func250 fun E=> ?_;refine Q1 [true,true,false,false,false,true] 0 0
  (fun n s=> ∃i,n=a.length-i/\i<=a.length/\i<=b.length/\Zn a b=Zn (a.drop i) (b.drop i)/\s=⟨[.sl .no (QX a),.sl .no (QX b),.junk,.junk,.junk,.sc (.int .i64 (i:Nat))]++jk 30,[],[],st⟩) a.length ?_ ?_
 refine Qq ?_;exact⟨0,oG,oG,oG,rfl,rfl⟩;rintro n s ⟨i,rfl,hi,hib,hr,rfl⟩;have done:(a.length<=i\/b.length<=i)->Zn a b=0:=fun h=>(by rw[hr];exact J1o h);refine Qq ?_;refine gkT ?_ ?_<;>intro h1;have hlt:i<a.length:=(oT h1);simp-dsimp only[go_sem,h1];refine ck ?_ ?_<;>intro h2;have hltb:i<b.length:=(oT h2);have e1:=Yh a i hlt;have e2:=Yh b i hltb;have e3:=Zd i oG;rw[J1p hlt hltb] at hr;refine Qq ?_;refine Q8 36 (Qk [0,1,2,3,4,5,6,7,8] .done) ?_;simp-dsimp only[go_sem,e1,e2];refine⟨oG,oG,ck (fun h3=> ?_) (fun h3=> ?_)⟩;rw[BC (q_b h3)] at hr;simp-dsimp only[go_sem,hr];rw[BA (q_c h3)] at hr;refine Qq ?_;refine Q8 36 (Qk [0,1,2,3,4,5,6,7,8] .done) ?_;simp-dsimp only[go_sem,e1,e2];refine⟨oG,oG,ck (fun h4=> ?_) (fun h4=> ?_)⟩;rw[BC (q_b h4)] at hr;simp-dsimp only[go_sem,hr];rw[BA (q_c h4)] at hr;simp-dsimp only[go_sem,e3];exact⟨a.length-(i+1),oG,i+1,rfl,oG,oG,hr,rfl⟩;have h0:=done (.inr (oF h2));refine Qq ?_;refine Qb ?_;simp-dsimp only[go_sem,h0];have h0:=done (.inl (oF h1));simp-dsimp only[go_sem,h1];refine Qb ?_;simp-dsimp only[go_sem,h0]
theorem Oo (m:Mn)(n:Int)(st:Qc)(hm:wMn m)(hn:n<=4):PR 182 [.agg (Kk m),.sc (.int .i64 n)] st (.sc (.bool (Xe m n))):=by
 have hl:=hm.2.1;have hc:=hm.1;unfold wN at hc;refine Ql Tryz.func182 fun E=> ?_;refine Q1 [false,true,true,false,false,true,true] 1 0
  (fun k s=> ∃i,k=m.ks.length-i/\i<=m.ks.length/\i<=4/\(∀j,j<i->0<=m.ks.getD j 0)/\0<=(m.ks.take i).sum/\(m.ks.take i).sum<=8*i/\s=⟨[.junk,.sc (.int .i64 n),.lp 0 0,.junk,.junk,.sc (.int .i64 (m.ks.take i).sum),.sc (.int .i64 (i:Nat))]++jk 46,[Kk m],[],st⟩) m.ks.length ?_ ?_
 refine Qq ?_;exact⟨0,oG,oG,oG,fun j hj=>oG,by simp,by simp,by simp⟩;rintro k s ⟨i,rfl,hi,hi4,hr,h0,h8,rfl⟩;have bad:i<m.ks.length->(m.ks.getD i 0<0\/8<m.ks.getD i 0)->Xe m n=false:=fun hlt hb=>by
  have hk:JN m.ks=false:=CS.2 fun e=>by have:=GM (ks:=m.ks) e i hlt;omega
  unfold Xe;rw[hk];simp
 refine Qq ?_;refine gkT ?_ ?_<;>intro h1;have hlt:i<m.ks.length:=(oT h1);simp-dsimp only[go_sem,h1];refine ck ?_ ?_<;>intro h2;have hlt4:i<4:=(oT h2);have e1:=Yh m.ks i hlt;have e3:=Zd i oG;have hs:=G5 m.ks i hlt;simp-dsimp only[go_sem,e1];refine⟨oG,?_⟩;refine gkF ?_ ?_<;>intro h3;have h3':=q_c h3;simp-dsimp only[go_sem,h3,e1];refine⟨oG,ck (fun h4=> ?_) (fun h4=> ?_)⟩;have hb:=bad hlt (.inr (q_b h4));simp-dsimp only[go_sem,hb];have h4':=q_c h4;have e4:IntKind.i64.wrap ((m.ks.take i).sum+m.ks.getD i 0)=(m.ks.take (i+1)).sum:=by rw[hs];exact Q2 _ oG oG
 simp-dsimp only[go_sem,e1];refine⟨oG,?_⟩;simp-dsimp only[go_sem,e3,e4];refine⟨m.ks.length-(i+1),oG,i+1,rfl,oG,oG,fun j hj=> ?_,oG,oG,rfl⟩;by_cases e:j=i;subst e;omega;exact hr j oG;have hb:=bad hlt (.inl (q_b h3));simp-dsimp only[go_sem,h3,hb];have hfin:m.ks.length<=i\/4<=i:= .inr (oF h2);clear h1 h2;refine Qq ?_;refine Qp ?_;refine gkT ?_ ?_<;>intro h2;have h2':(m.ks.length:Int)=n:=(by simpa using h2);have hge:i=m.ks.length:=oG;subst hge;rw[B0] at h0 h8;simp-dsimp only[go_sem,h2,B0];refine gkT ?_ ?_<;>intro h3;have h3':=q_b h3;simp-dsimp only[go_sem,h2,h3];refine(Jy m.c _ oG).q ?_;have hv:Xe m n=Qg m.c:=(by unfold Xe;rw[(Ww _).2 ⟨hr,h3'⟩,q_h h2'];simp);simp-dsimp only[go_sem,h2,h3,hv];have h3':=q_c h3;have hk:JN m.ks=false:=CS.2 fun e=>h3' ((Ww m.ks).1 e).2;have hv:Xe m n=false:=(by unfold Xe;rw[hk];simp);simp-dsimp only[go_sem,h2,h3,hv];have h2': ¬(m.ks.length:Int)=n:=(by simpa using h2);have hv:Xe m n=false:=(by unfold Xe;rw[q_g h2'];simp);simp-dsimp only[go_sem,h2,hv];have hfin:m.ks.length<=i\/4<=i:= .inl (oF h1);simp-dsimp only[go_sem,h1];clear h1;refine Qp ?_;refine gkT ?_ ?_<;>intro h2;have h2':(m.ks.length:Int)=n:=(by simpa using h2);have hge:i=m.ks.length:=oG;subst hge;rw[B0] at h0 h8;simp-dsimp only[go_sem,h2,B0];refine gkT ?_ ?_<;>intro h3;have h3':=q_b h3;simp-dsimp only[go_sem,h2,h3];refine(Jy m.c _ oG).q ?_;have hv:Xe m n=Qg m.c:=(by unfold Xe;rw[(Ww _).2 ⟨hr,h3'⟩,q_h h2'];simp);simp-dsimp only[go_sem,h2,h3,hv];have h3':=q_c h3;have hk:JN m.ks=false:=CS.2 fun e=>h3' ((Ww m.ks).1 e).2;have hv:Xe m n=false:=(by unfold Xe;rw[hk];simp);simp-dsimp only[go_sem,h2,h3,hv];have h2': ¬(m.ks.length:Int)=n:=(by simpa using h2);have hv:Xe m n=false:=(by unfold Xe;rw[q_g h2'];simp);simp-dsimp only[go_sem,h2,hv]
theorem y0i (p:Lm)(n:Int)(st:Qc)(hp:wP p):PR 168 [.sl .no (Zp p),.sc (.int .i64 n)] st (.sc (.bool (ZL p n))):=by
 have hl:=hp.1;refine Qh none Tryz.func168 rfl fun E=>Qb ?_;have qq: ¬(1<=n/\n<=4/\p.length<=24)->ZL p n=false:=fun h=>CS.2 fun e=>h ((WW p n).1 e).1;refine Qq ?_;refine gkF ?_ ?_<;>intro g1;have g1':=q_c g1;simp-dsimp only[go_sem,g1];refine gkF ?_ ?_<;>intro g2;have g2':=q_c g2;simp-dsimp only[go_sem,g1,g2];refine ck ?_ ?_<;>intro g3;have hb:=qq (oT g3);simp-dsimp only[go_sem,hb];have g3':=q_c g3;refine Qq ?_;refine Q1 [true,true,false,false,false,true] 0 0
  (fun k s=> ∃i,k=p.length-i/\i<=p.length/\(∀j,j<i->okP p n j=true)/\s=⟨[.sl .no (Zp p),.sc (.int .i64 n),.junk,.junk,.junk,.sc (.int .i64 (i:Nat))]++jk 53,[],[],st⟩) p.length ?_ ?_
 refine Qq ?_;exact⟨0,oG,oG,fun j hj=>oG,rfl⟩;rintro k s ⟨i,rfl,hi,hr,rfl⟩;refine QS ?_ ?_<;>intro h';have hlt:i<p.length:=(by have:=q_b h';omega);have e1:=UW p i hlt;have e3:=Zd i oG;have hm:=hp.2 i hlt;refine Qq ?_;refine Q8 59 (Qk [0,1,2,3,4,5,6,7,8,9,10,11,12,13,14,15,16,17,18,19,20,21,22,23,24,25,26,27,28,29,30,31] (.step 32 [3,13] (Qk [33,34,35] .done))) ?_;simp-dsimp only[go_sem,e1];refine⟨oG,?_⟩;refine(Oo (p.getD i default) n _ hm oG).q ?_;have bad:okP p n i=false->ZL p n=false:=fun h=>Nw hlt h;cases h1:Xe (p.getD i default) n with
 | false=>
  have hb:=bad (by unfold okP;rw[h1];rfl);simp-dsimp only[go_sem,h1,hb]
 | true=>
  simp-dsimp only[go_sem,h1,e1];refine⟨oG,?_⟩;refine gkF ?_ ?_<;>intro h2;have h2':(p.getD i default).c.w.length≠0:=(oF h2);simp-dsimp only[go_sem,h2];refine gkT ?_ ?_<;>intro h3;have h3':0<i:=(oT h3);have e4:=Sj i oG h3';have e5:=UW p (i-1) oG;simp-dsimp only[go_sem,h2,h3,e1,e4,e5];refine⟨oG,oG,?_⟩;refine(jY (p.getD (i-1) default).ks (p.getD i default).ks _ (hp.2 _ oG).2 hm.2).q ?_;simp-dsimp only[go_sem,h2,h3];refine ck ?_ ?_<;>intro h4;have h4':=Xm h4;have hb:=bad (CS.2 fun e=>by rcases ((VU _ _ _).1 e).2.2 with h | h;omega;exact h4' h);simp-dsimp only[go_sem,hb];have h4':=XA h4;simp-dsimp only[go_sem,e3];refine⟨p.length-(i+1),oG,i+1,rfl,oG,fun j hj=> ?_,rfl⟩;by_cases e:j=i;subst e;exact(VU _ _ _).2 ⟨h1,h2',.inr h4'⟩;exact hr j oG;have h3':i=0:=(oF h3);simp-dsimp only[go_sem,h2,h3,e3];refine⟨p.length-(i+1),oG,i+1,rfl,oG,fun j hj=> ?_,rfl⟩;have e:j=i:=oG;subst e;exact(VU _ _ _).2 ⟨h1,h2',.inl h3'⟩;have h2':(p.getD i default).c.w.length=0:=(oT h2);have hb:=bad (CS.2 fun e=>((VU _ _ _).1 e).2.1 h2');simp-dsimp only[go_sem,h2,hb]
 have hge:i=p.length:=by have:=q_c h';omega
 subst hge;have hv:ZL p n=true:=(WW p n).2 ⟨⟨oG,oG,oG⟩,hr⟩;refine Qq ?_;refine Qb ?_;simp-dsimp only[go_sem,hv];have hb:=qq (oT g2);simp-dsimp only[go_sem,g1,g2,hb];have hb:=qq (oT g1);simp-dsimp only[go_sem,g1,hb]
theorem y0h (f:Lk)(st:Qc)(hf:wF f):PR 98 [.sl .no (QL f)] st (.sc (.bool (ZY f))):=by
 have hl:=hf.1;refine Ql Tryz.func98 fun E=> ?_;refine Q1 [true,false,false,true] 0 0
  (fun n s=> ∃i,n=f.length-i/\i<=f.length/\i<=4/\(∀j,j<i->ZL (f.getD j []) f.length=true)/\s=⟨[.sl .no (QL f),.junk,.junk,.sc (.int .i64 (i:Nat))]++jk 26,[],[],st⟩) f.length ?_ ?_
 refine Qq ?_;exact⟨0,oG,oG,oG,fun j hj=>oG,rfl⟩;rintro n s ⟨i,rfl,hi,hi4,hr,rfl⟩;refine Qq ?_;refine gkT ?_ ?_<;>intro h1;have hlt:i<f.length:=(oT h1);simp-dsimp only[go_sem,h1];refine ck ?_ ?_<;>intro h2;have hlt4:i<4:=(oT h2);have e1:=IN f i hlt;have e3:=Zd i oG;simp-dsimp only[go_sem,e1];refine⟨oG,?_⟩;refine(y0i _ _ _ (hf.2 i hlt)).Q ?_;refine ck ?_ ?_<;>intro h3;have hb:ZL (f.getD i []) f.length=false:=(by simpa using h3);have hv:ZY f=false:=CS.2 fun e=>by have:=((VR f).1 e).2 i hlt;rw[hb] at this;cases this
 simp-dsimp only[go_sem,hv];have ht:ZL (f.getD i []) f.length=true:=(by simpa using h3);simp-dsimp only[go_sem,e3];refine⟨f.length-(i+1),oG,i+1,rfl,oG,oG,fun j hj=> ?_,rfl⟩;by_cases e:j=i;subst e;exact ht;exact hr j oG;have hge4:4<f.length:=(oF h2);have hv:ZY f=false:=CS.2 fun e=>by have:=((VR f).1 e).1;omega
 have h5:decide ((f.length:Int)>0)=true:=q_h oG;have h6:decide ((f.length:Int)<=4)=false:=q_g oG;refine Qq ?_;refine Qb ?_;simp-dsimp only[go_sem,h5,h6,hv];have hge:i=f.length:=(oF h1);simp-dsimp only[go_sem,h1];clear h1;refine Qp ?_;refine gkT ?_ ?_<;>intro h;have h1:=q_b h;have hv:ZY f=decide ((f.length:Int)<=4):=by rw[E3,VR,D0];exact⟨fun h=>oG,fun h=>⟨⟨oG,oG⟩,fun j hj=>hr j oG⟩⟩
 simp-dsimp only[go_sem,h,hv];have h1:=q_c h;have hv:ZY f=false:=CS.2 fun e=>by have:=((VR f).1 e).1;omega
 simp-dsimp only[go_sem,h,hv]
section
variable {w:World} {g g':Gh} {F:Fr} {T:List (Nat×Nat)} {k:Nat} {cs:List PV}
end
def amL :List Edge->Nat
 | []=>0
 | e::r=>if Region.binds .any e then amL r|||(1<<<e.on) else amL r
structure OpSm where
 j:Nat
 am:Nat
 ld:Bool
 ef:Bool
 deriving DecidableEq
def Dw :Nat->List Oper->List OpSm
 | _,[]=> []
 | j,o::r=>⟨j,amL o.after.toList,VZ o.op,!Xv o.op⟩::Dw (j+1) r
section
variable {ops:Array Oper} {S:List OpSm} (hS:Dw 0 ops.toList=S) (hn:(S.all fun x=>decide (x.am<2^ops.size))=true)
include hS
end
def PV.kill1 (i:Nat):PV->PV
 | .lp k off=>if k=i then .junk else .lp k off
 | .ms false k off len=>if k=i then .junk else .ms false k off len
 | .mr k len cap=>if k=i then .junk else .mr k len cap
 | .agg _ | .tup _ | .fn _ _ _=> .junk
 | p=>p
def PV.kill2 (i:Nat):PV->PV
 | .agg l=> .agg (l.map (PV.kill1 i))
 | .fn f l m=> .fn f (l.map (PV.kill1 i)) (m.map (PV.kill1 i))
 | p=>p.kill1 i
def PV.kill (i:Nat):PV->PV
 | .tup l=> .tup (l.map (PV.kill2 i))
 | p=>p.kill2 i
def PV.quiet :PV->Bool
 | .lp _ _ | .ms false _ _ _ | .mr _ _ _ | .agg _ | .tup _ | .fn _ _ _ | .sl (.own _) _ | .sl (.fresh _) _=>false
 | _=>true
theorem Q1l {p:PV}(h:p.quiet=true):p.closed2=true/\p.forget2.cells= [p.forget2]:=by
 cases p with
 | lp k off=>cases h
 | ms gl k off len=>cases gl with | true=>exact⟨rfl,rfl⟩ | false=>cases h
 | mr k len cap=>cases h
 | agg l=>cases h
 | tup l=>cases h
 | fn f l m=>cases h
 | sl t es=>cases t with | own k=>cases h | fresh k=>cases h | _=>exact⟨rfl,rfl⟩
 | _=>exact⟨rfl,rfl⟩
theorem Q1j {p:PV}{a b:Nat}(h:p.quiet=true):p.lim a b=true:=by
 cases p with
 | lp k off=>cases h
 | ms gl k off len=>cases gl with | true=>rfl | false=>cases h
 | mr k len cap=>cases h
 | agg l=>cases h
 | tup l=>cases h
 | fn f l m=>cases h
 | sl t es=>cases t with | own k=>cases h | fresh k=>cases h | _=>rfl
 | _=>rfl
theorem W2 {l:Lp}{a b:Nat}(h:l.all PV.quiet=true):l.all (PV.lim a b)=true:=List.all_eq_true.2 fun p hp=>Q1j (List.all_eq_true.1 h p hp)
theorem Q1k {p:PV}(i:Nat)(h:p.quiet=true):p.kill1 i=p:=by
 cases p with
 | lp k off=>cases h
 | ms gl k off len=>cases gl with | true=>rfl | false=>cases h
 | mr k len cap=>cases h
 | agg l=>cases h
 | tup l=>cases h
 | fn f l m=>cases h
 | _=>rfl
section
variable {w w':World} {g g':Gh} {F F':Fr} {T:List (Nat×Nat)} {i:Nat}
theorem RepF.kill1 {v:Value}{p:PV}(hle:Le w g w' g')(hnl:F.nl<=F'.nl)(hmu: ∀j,j<F.nl->j≠i->F'.lmu j=F.lmu j)(ht:K6 w g F T w' g' F' T)(h:RepF w g F T v p):RepF w' g' F' T v (p.kill1 i):=by
 cases h with
 | base v p hp=>
  have hp':=hp.mono hle;cases p with
  | lp k off=>cases hp
  | ms gl k off len=>cases gl with
   | true=>exact .base _ _ hp'
   | false=>cases hp
  | mr k len cap=>cases hp
  | agg l=>exact .base _ _ (.junk _)
  | tup l=>exact .base _ _ (.junk _)
  | fn f l m=>exact .base _ _ (.junk _)
  | _=>exact .base _ _ hp'
 | lp k off hk=>
  simp only[PV.kill1];split;exact .base _ _ (.junk _);rename_i hne;rw[<-hmu k hk hne];exact .lp k off (q_e hk hnl)
 | lms k off len cap hk hcap=>
  simp only[PV.kill1];split;exact .base _ _ (.junk _);rename_i hne;rw[<-hmu k hk hne];exact .lms k off len cap (q_e hk hnl) hcap
 | lmr k len cap hk hcap=>
  simp only[PV.kill1];split;exact .base _ _ (.junk _);rename_i hne;rw[<-hmu k hk hne];exact .lmr k len cap (q_e hk hnl) hcap
 | lmr0 k ad hk=>
  simp only[PV.kill1];split;exact .base _ _ (.junk _);exact .lmr0 k ad (q_e hk hnl)
 | own k es v hp hk hle' hr=>
  obtain⟨t1,t2⟩:=ht.2 k hk;exact .own k es v (hp.mono hle) (q_e hk ht.1) (B7 hle' t1) (fun e=>t2 oG v es (hr oG))
 | agg vs cs hl h=>exact .base _ _ (.junk _)
 | tup vs cs hl h=>exact .base _ _ (.junk _)
 | fn f us vs bs cs hk hl h0 h=>exact .base _ _ (.junk _)
theorem RepF.kill2 {v:Value}{p:PV}(hle:Le w g w' g')(hnl:F.nl<=F'.nl)(hmu: ∀j,j<F.nl->j≠i->F'.lmu j=F.lmu j)(ht:K6 w g F T w' g' F' T)(h:RepF w g F T v p):RepF w' g' F' T v (p.kill2 i):=by
 have gm: ∀(l:Lp) (j:Nat),(l.map (PV.kill1 i)).getD j .junk=(l.getD j .junk).kill1 i:=fun l j=>X5 rfl l j;cases p with
 | agg l=>
  obtain⟨vs,rfl,hl,hv⟩:=h.agg_inv;exact .agg vs _ (by simpa using hl) fun j hj=>by rw[gm];exact(hv j (by simpa using hj)).kill1 hle hnl hmu ht
 | fn f l m=>
  cases h with
  | base _ _ h=>
   cases h with
   | fn f us vs bs cs' hk hl h0 h=>
    exact .fn f us vs _ _ (by simpa using hk) (by simpa using hl) (fun j hj=>by rw[gm];exact(RepF.base _ _ (h0 j (by simpa using hj))).kill1 hle hnl hmu ht) fun j hj=>by rw[gm];exact(RepF.base _ _ (h j (by simpa using hj))).kill1 hle hnl hmu ht
  | fn f us vs bs cs' hk hl h0 h=>
   exact .fn f us vs _ _ (by simpa using hk) (by simpa using hl) (fun j hj=>by rw[gm];exact(h0 j (by simpa using hj)).kill1 hle hnl hmu ht) fun j hj=>by rw[gm];exact(h j (by simpa using hj)).kill1 hle hnl hmu ht
 | _=>exact RepF.kill1 hle hnl hmu ht h
theorem RepF.kill {v:Value}{p:PV}(hle:Le w g w' g')(hnl:F.nl<=F'.nl)(hmu: ∀j,j<F.nl->j≠i->F'.lmu j=F.lmu j)(ht:K6 w g F T w' g' F' T)(h:RepF w g F T v p):RepF w' g' F' T v (p.kill i):=by
 cases p with
 | tup l=>
  obtain⟨vs,rfl,hl,hv⟩:=h.tup_inv;exact .tup vs _ (by simpa using hl) fun j hj=>by rw[show(l.map (PV.kill2 i)).getD j .junk=(l.getD j .junk).kill2 i from X5 rfl l j];exact(hv j (by simpa using hj)).kill2 hle hnl hmu ht
 | _=>exact RepF.kill2 hle hnl hmu ht h
theorem z0i :K6 w g F T w g F T:=⟨BD _,fun i hi=>⟨BD _,fun _ _ _ h=>h⟩⟩
end
def PFS.room (i:Nat)(X:List PV)(s:PFS):PFS:=⟨s.pa.map (PV.kill i),(s.L.map fun l=>l.map (PV.kill i)).set i X,s.T,s.st⟩
theorem zr {s:PFS}{i k:Nat}{X:Lp}(hk:i≠k):(s.room i X).L.getD k []=(s.L.getD k []).map (PV.kill i):=by show((s.L.map fun l=>l.map (PV.kill i)).set i X).getD k []=_;rw[Z3 _ _ _ _ _ hk,UQ (f:=fun l=>l.map (PV.kill i)) rfl]
theorem FSRep.room_same {E:Ent}{a:Act}{w:Lw}{g:Gh}{F:Fr}{s:PFS}(h:FSRep E a w g F s)(i:Nat):FSRep E a w g F (s.room i (s.L.getD i [])):=by
 have hk: ∀v p,RepF w g F s.T v p->RepF w g F s.T v (p.kill i):=fun v p hr=>hr.kill (.refl _ _) (BD _) (fun _ _ _=>rfl) z0i;have hL: ∀k,(s.room i (s.L.getD i [])).L.getD k []≠ []->s.L.getD k []≠ []:=fun k hk0 e=>by by_cases hik:i=k;subst hik;apply hk0;show((s.L.map fun l=>l.map (PV.kill i)).set i (s.L.getD i [])).getD i []= [];rw[e,Yf];rw[zr hik,e] at hk0;exact hk0 rfl
 refine⟨h.ext,h.store,⟨by simp[PFS.room,h.frame.nl],fun k hk0=>h.frame.lo k (hL k hk0),fun k hk0=>h.frame.apart k (hL k hk0),fun k j hk0 hj=>h.frame.inj k j (hL k hk0) (hL j hj),fun k hk0=> ?_,h.frame.tlo,fun k b hk0 hb=>⟨(h.frame.tapart k b hk0 hb).1,fun j hj=>(h.frame.tapart k b hk0 hb).2 j (hL j hj)⟩,h.frame.tinj⟩,h.defers,by simp[PFS.room,h.len],fun t ht=> ?_⟩;by_cases hik:i=k;subst hik;have hi:i<s.L.length:=by apply ES;intro hle;apply hL i hk0;rw[q_a,C2 hle];rfl
 have e:(s.room i (s.L.getD i [])).L.getD i []=s.L.getD i []:=Z0 _ _ _ _ (by simpa using hi);rw[e];exact h.frame.holds i (hL i hk0);rw[zr hik];intro j hj;obtain⟨q1,c,q2,q3⟩:=h.frame.holds k (hL k hk0) j (by simpa using hj);exact⟨q1,c,q2,by rw[X5 (f:=PV.kill i) rfl];exact hk _ _ q3⟩;show RepF w g F s.T _ ((s.pa.map (PV.kill i)).getD t .junk);rw[X5 (f:=PV.kill i) rfl];exact hk _ _ (h.tmps t (by simpa[PFS.room] using ht))
theorem FSRep.room_new {E:Ent}{a:Act}{w:Lw}{g:Gh}{F:Fr}{s:PFS}(h:FSRep E a w g F s)(i:Nat)(hi:i<s.L.length)(ty:Lt)(vs:Lb)(X:Lp)(hl:X.length<=vs.size)
 (hq: ∀p∈X,p.quiet=true) (hr: ∀j,j<X.length->RepF w g F s.T (vs.getD j undef) (X.getD j .junk)):
 ∃g' F',FSRep E a (w.alloc (.cells vs ty)) g' F' (s.room i X)/\F'.lmu i=w.heap.size/\i<F'.nl:=by
 obtain⟨k,hz⟩:=qb w g (.cells vs ty) 0 h.store.none;obtain⟨f1,f2⟩:=h.frame.step k (fun _ _ h=>h) (fun _ _ _ _ h=>h)
 let F':Fr:=⟨F.nl,fun j=>if j=i then w.heap.size else F.lmu j,F.tb⟩
 have hnl:=h.frame.nl;have hmu: ∀j,j<F.nl->j≠i->F'.lmu j=F.lmu j:=fun j _ hj=>(by simp only[F'];rw[BA hj]);have ht:K6 w g F s.T (w.alloc (.cells vs ty)) { g with vis:=fun b=>if b=w.heap.size then 0 else g.vis b } F' s.T:=⟨BD _,fun i hi=>⟨BD _,fun _ v es hR=>hR.mono fun b hb=>k.old b (h.frame.tlo i b hi hb).2.1 (fun h=>h)⟩⟩;have hm: ∀v p,RepF w g F s.T v p->RepF (w.alloc (.cells vs ty)) { g with vis:=fun b=>if b=w.heap.size then 0 else g.vis b } F' s.T v (p.kill i):=fun v p hp=>hp.kill k.le (show F.nl<=F'.nl from BD _) hmu ht;have hm1: ∀v p,RepF w g F s.T v p->RepF (w.alloc (.cells vs ty)) { g with vis:=fun b=>if b=w.heap.size then 0 else g.vis b } F' s.T v (p.kill1 i):=fun v p hp=>hp.kill1 k.le (show F.nl<=F'.nl from BD _) hmu ht;have hL: ∀k,i≠k->(s.room i X).L.getD k []≠ []->s.L.getD k []≠ []:=fun k hik hk0 e=>(by rw[zr hik,e] at hk0;exact hk0 rfl);have hX:(s.room i X).L.getD i []=X:=Z0 _ _ _ _ (by simpa using hi);have hne: ∀k,s.L.getD k []≠ []->F.lmu k≠w.heap.size:=fun k hk e=>(by have:=(h.frame.lo k hk).2.1;omega);have e1:F'.lmu i=w.heap.size:=(by simp[F']);have e2: ∀k,i≠k->F'.lmu k=F.lmu k:=fun k hk=>(by simp only[F'];rw[BA (fun e=>hk e.symm)]);refine⟨_,F',⟨h.ext.step k (fun _ h=>h.elim),h.store.step k rfl (fun _ _ h=>h) hz,⟨?_,fun k hk0=> ?_,fun k hk0 j hj e=> ?_,fun k j hk0 hj e=> ?_,fun k hk0=> ?_,f1.tlo,fun k b hk0 hb=>⟨(f1.tapart k b hk0 hb).1,fun j hj e=> ?_⟩,f1.tinj⟩,h.defers,by simp[PFS.room,h.len],fun t ht0=> ?_⟩,e1,by simp only[F'];omega⟩;simp[F',PFS.room,hnl];by_cases hik:i=k;subst hik;rw[e1];exact⟨h.ext.size,by simp,by simp⟩;rw[e2 k hik];exact f1.lo k (hL k hik hk0);by_cases hik:i=k;subst hik;rw[e1] at e;have:=h.store.lt j hj;simp only at e;omega;rw[e2 k hik] at e;exact f1.apart k (hL k hik hk0) j hj e;by_cases hik:i=k<;>by_cases hij:i=j;omega;subst hik;rw[e1,e2 j hij] at e;exact absurd e.symm (hne j (hL j hij hj));subst hij;rw[e1,e2 k hik] at e;exact absurd e (hne k (hL k hik hk0));rw[e2 k hik,e2 j hij] at e;exact h.frame.inj k j (hL k hik hk0) (hL j hij hj) e;by_cases hik:i=k;subst hik;rw[hX,e1];intro j hj;refine⟨World.frozen?_alloc_new w vs ty j,vs.getD j undef,?_,?_⟩;rw[World.cell?_alloc_new,q_f,CW oG];rfl;have:=hm1 _ _ (hr j hj);rwa [Q1k i (hq _ (QE _ _ _ hj))] at this;rw[zr hik,e2 k hik];have h0:=h.frame.holds k (hL k hik hk0);have hlt:=(h.frame.lo k (hL k hik hk0)).2.1;intro j hj;obtain⟨q1,c,q2,q3⟩:=(Holds.mono (R':=RepF w g F s.T) h0 (heap_alloc_old w (.cells vs ty) hlt) (fun _ _ h=>h)) j (by simpa using hj);exact⟨q1,c,q2,by rw[X5 (f:=PV.kill i) rfl];exact hm _ _ q3⟩;by_cases hij:i=j;subst hij;rw[e1] at e;have:=(h.frame.tlo k b hk0 hb).2.1;omega;rw[e2 j hij] at e;exact(h.frame.tapart k b hk0 hb).2 j (hL j hij hj) e;show RepF _ _ F' s.T _ ((s.pa.map (PV.kill i)).getD t .junk);rw[X5 (f:=PV.kill i) rfl];exact hm _ _ (h.tmps t (by simpa[PFS.room] using ht0))
theorem J0y (n j:Nat):(List.replicate n PV.junk).getD j .junk= .junk:=by rw[q_a,List.getElem?_replicate];split<;>rfl
def HB (cs:List PV)(len cap:Nat)(ys:List PV)(e:EI):Prop:=
 e.zok=true/\0<e.sz/\cs.length=cap*e.sz/\len+ys.length<=1152921504606846976/\(len+ys.length)*e.by_<=140737488355328/\
  ys.all (fun x=>(x.cells.length==e.sz)&&x.cells.all PV.cellOK)=true/\cs.all PV.quiet=true/\(flat ys).all PV.quiet=true
theorem ke {cs:Lp}(h:cs.all PV.quiet=true): ∀p∈cs,p.quiet=true:=List.all_eq_true.1 h
theorem Q2y {P:Pg}{E:Ent}{a:Act}{w:Lw}{g:Gh}{F:Fr}{s:PFS}{t tx e':Lt}{e:EI}(hu:P.underlying t=some (.slice e.id))(hei:ei P e.id=some e)(hu2:P.underlying tx=some (.slice e')){ys:Lp}{v x:Value}{ty:Lt}{i len cap:Nat}
 (h:FSRep E a w g F s) (hv:RepF w g F s.T v (.mr i len cap)) (hx:Rep w g x (.sl .no ys)) (hok:HB (s.L.getD i []) len cap ys e):
 ∃cap' R,len+ys.length<=cap'/\R.length=(cap'-(len+ys.length))*e.sz/\R.all PV.quiet=true/\
  X9 P E a w (do pure (.value (<-Builtin.append_ #[t,tx] ty #[v,x]))) (.mr i (len+ys.length) cap') (s.room i ((s.L.getD i []).take (len*e.sz)++(flat ys++R))):=by
 obtain⟨c1,c0,cl,c2,c3,c5,c6,c7⟩:=hok;obtain⟨news,hs⟩:=G8 (P:=P) hu2 hx c5;obtain⟨ti,u,hi,hu',he⟩:=JW hei;have e1:ti.size=e.sz:=(by rw[he]);have e2:ti.bytes=e.by_:=(by rw[he]);obtain⟨z,hz,hzs⟩: ∃z,ti.zero=some z/\z.cells.size=ti.size:=by have:=B4 EI.zok he;rw[c1] at this;simp only at this;split at this;rename_i z hz;exact⟨z,hz,by simpa using this.symm⟩;cases this
 have hfl:=Kj hs.each;have hnl:news.length=ys.length*e.sz:=hs.src.newsLen;have hs0:=hs;rw[<-e1] at hs;generalize hcs:s.L.getD i []=cs at*
 have hil:i<F.nl/\len<=cap:=by
  cases hv with
  | base _ _ h=>cases h
  | lmr i len cap hi hcap=>exact⟨hi,hcap⟩
  | lmr0 i ad hi=>exact⟨hi,BD _⟩
 have hiL:i<s.L.length:=by rw[<-h.frame.nl];exact hil.1
 --a new block
 have grow: ∀(base:Option Addr),v= .slice base len cap->cap<len+ys.length->(olds:Ps)->olds.length=len*e.sz->
  (Builtin.firstCells ti.size len (.slice base len cap)).run P w.drew= .ok olds.toArray w.drew->
  (∀m,m<len*e.sz->RepF w g F s.T (olds.getD m undef) (cs.getD m .junk))->
  ∃cap' R,len+ys.length<=cap'/\R.length=(cap'-(len+ys.length))*e.sz/\R.all PV.quiet=true/\
   X9 P E a w (do pure (.value (<-Builtin.append_ #[t,tx] ty #[v,x]))) (.mr i (len+ys.length) cap') (s.room i (cs.take (len*e.sz)++(flat ys++R))):=by
  intro base hvb hcap olds hol hold hrolds;subst hvb;have hrun:=run_append_grow_src (P:=P) w t tx ty e.id ti z hu hi hz base len cap olds hold x ys.length news hs.src hcap oG (growslice_fits hcap (by rw[e2];exact c3));generalize hvs:(olds++news).toArray++Builtin.zeroCells z.cells (grownCap w (len+ys.length) cap e.id-(len+ys.length))=vs at hrun;have hge:=grownCap_ge w (len+ys.length) cap e.id;generalize grownCap w (len+ys.length) cap e.id=C at*
  obtain⟨d1,d2⟩:=h.drew;have hvsz:vs.size=C*e.sz:=by rw[<-hvs,Array.size_append,size_zeroCells,hzs,e1];simp only[EY,BH,hol,hnl,<-BQ];congr 1;omega
  let R:=List.replicate ((C-(len+ys.length))*e.sz) PV.junk
  have hlenX:(cs.take (len*e.sz)).length=len*e.sz:=by rw[BX,cl];have:=BG e.sz hil.2;omega
  have hX:(cs.take (len*e.sz)++(flat ys++R)).length=C*e.sz:=by rw[BH,BH,hlenX,hfl,EP,<-BQ,<-BQ];congr 1;omega
  obtain⟨g',F',f1,f2,f3⟩:=d1.room_new i hiL e.id vs (cs.take (len*e.sz)++(flat ys++R)) oG (fun p hp=>by
   rcases DN.1 hp with hp | hp;exact ke c6 p (List.mem_of_mem_take hp);rcases DN.1 hp with hp | hp;exact ke c7 p hp;rw[List.eq_of_mem_replicate hp];rfl) (fun m hm=>by
   by_cases h1:m<len*e.sz;have hlo:m<(olds++news).toArray.size:=(by simp only[EY,BH,hol];omega);rw[<-hvs,Array.getD_append_left' _ _ _ _ hlo,Vh,QV _ _ _ _ oG,QV _ _ _ _ oG,WB _ _ _ _ h1];exact d2 _ _ (hrolds m h1);rw[Zi _ _ _ _ oG,hlenX];by_cases h2:m-len*e.sz<(flat ys).length;have h3:m-len*e.sz<ys.length*e.sz:=oG;have hlo:m<(olds++news).toArray.size:=(by simp only[EY,BH,hol];omega);rw[<-hvs,Array.getD_append_left' _ _ _ _ hlo,Vh,Zi _ _ _ _ oG,hol,QV _ _ _ _ h2,Vk hs0.each _ h3];exact d2 _ _ (.base _ _ (hs0.rep _ h3));rw[Zi _ _ _ _ oG,J0y];exact .base _ _ (.junk _))
  refine⟨C,R,hge,by simp[R],List.all_eq_true.2 fun p hp=>by rw[List.eq_of_mem_replicate hp];rfl,_,_,g',F',by simp only[Sem.run_bind,hrun,Result.andThen_ok,Sem.run_pure];rfl,f1,.inl ⟨_,rfl,?_⟩⟩;have:=RepF.lmr (w:=w.drew.alloc (.cells vs e.id)) (g:=g') (F:=F') (T:=s.T) i (len+ys.length) C f3 hge;rw[f2] at this;exact this
 --what lies in the box
 have hcell: ∀ad,v= .slice ad len cap->(0<cap->ad=some ⟨F.lmu i,0,none⟩)-> ∃olds:List Value,olds.length=len*e.sz/\(Builtin.firstCells ti.size len (.slice ad len cap)).run P w.drew= .ok olds.toArray w.drew/\ ∀m,m<len*e.sz->RepF w g F s.T (olds.getD m undef) (cs.getD m .junk):=fun ad hv' had=>by
  by_cases hc0:0<cap;have:=had hc0;subst this;have hne:s.L.getD i []≠ []:=fun e0=>by rw[hcs] at e0;rw[e0] at cl;have:=Nat.mul_pos hc0 c0;simp at cl;omega
  obtain⟨cf,hcf⟩:=(h.frame.holds i hne).pick;rw[hcs] at hcf;have hle:len*e.sz<=cs.length:=(by rw[cl];exact BG _ hil.2);refine⟨(List.range (len*e.sz)).map cf,by simp,?_,fun m hm=> ?_⟩;refine run_firstCells_some w.drew ti.size len ⟨F.lmu i,0,none⟩ len cap _ (by simp[e1]) (fun j u hu=> ?_);rw[Addr.add_mid,World.cell?_drew,CU];have hj:j<len*e.sz:=by have:=(E7.1 hu).1;simpa using this
  rw[(hcf j oG).1];simp[EB hj] at hu;rw[hu];have e0:((List.range (len*e.sz)).map cf).getD m undef=cf m:=(by simp[q_a,hm]);rw[e0];exact(hcf m oG).2;have hc0':cap=0:=oG;have hl0:len=0:=(by have:=hil.2;omega);subst hl0 hc0';refine⟨[],by simp,?_,fun m hm=>by simp at hm⟩;cases ad with
  | none=>exact run_firstCells_none _ _ _ _ _
  | some a=>simp[Builtin.firstCells,loadCells,loadCellsFrom]
 have hform: ∃ad,v= .slice ad len cap/\(0<cap->ad=some ⟨F.lmu i,0,none⟩):=by
  cases hv with
  | base _ _ h=>cases h
  | lmr i len cap hi hcap=>exact⟨_,rfl,fun _=>rfl⟩
  | lmr0 i ad hi=>exact⟨ad,rfl,fun h=>absurd h (Nat.lt_irrefl 0)⟩
 obtain⟨ad,hva,had⟩:=hform;by_cases hroom:len+ys.length<=cap;by_cases hc0:0<cap
 --in J4
 have:=had hc0;subst this hva;have hne:s.L.getD i []≠ []:=fun e0=>by rw[hcs] at e0;rw[e0] at cl;have:=Nat.mul_pos hc0 c0;simp at cl;omega
 have hfit:len*e.sz+(flat ys).length<=cs.length:=by rw[hfl,cl,<-BQ];exact BG _ hroom
 have hh:=h.frame.holds i hne;rw[hcs] at hh;have hrun:=run_append_room_src (P:=P) w t tx ty e.id ti hu hi (F.lmu i) 0 len cap x ys.length news hs.src hroom (fun j hj=>by obtain⟨_,c,q2,_⟩:=hh (0+len*ti.size+j) (by rw[e1];omega);rw[q2];rfl) (fun j hj=>(hh (0+len*ti.size+j) (by rw[e1];omega)).1);rw[e1,CU] at hrun;obtain⟨f1,f2⟩:=h.storeL i (len*e.sz) news (flat ys) (by rw[hnl,hfl]) hne (by rw[hcs];exact hfit) (fun j hj=>by have hj':j<ys.length*e.sz:=oG;rw[Vk hs0.each j hj'];exact .base _ _ (hs0.rep j hj'));have f3:=f1.room_same i;have e3:({ s with L:=s.L.set i (Q4 (s.L.getD i []) (len*e.sz) (flat ys)) } :PFS).L.getD i []=Q4 cs (len*e.sz) (flat ys):=(by show(s.L.set i _).getD i []=_;rw[Z0 _ _ _ _ hiL,hcs]);rw[e3] at f3;have e4:({ s with L:=s.L.set i (Q4 (s.L.getD i []) (len*e.sz) (flat ys)) } :PFS).room i (Q4 cs (len*e.sz) (flat ys))=s.room i (Q4 cs (len*e.sz) (flat ys)):=(by unfold PFS.room;congr 1;simp only[E6,List.set_set]);rw[e4] at f3;refine⟨cap,cs.drop (len*e.sz+(flat ys).length),hroom,?_,List.all_eq_true.2 fun p hp=>ke c6 p (List.mem_of_mem_drop hp),_,_,g,F,by simp only[Sem.run_bind,hrun,Result.andThen_ok,Sem.run_pure];rfl,?_,.inl ⟨_,rfl,.lmr i _ cap hil.1 hroom⟩⟩;rw[DM,cl,hfl,<-BQ,<-Nat.sub_mul];have e5:Q4 cs (len*e.sz) (flat ys)=cs.take (len*e.sz)++(flat ys++cs.drop (len*e.sz+(flat ys).length)):=(by unfold Q4;rw[BP]);rw[<-e5];exact f3
 --nothing into nothing
 have hc0':cap=0:=oG;have hl0:len=0:=(by have:=hil.2;omega);have hy:ys= []:=BY oG;subst hl0 hc0' hy hva;have hn:news= []:=BY (by simpa using hnl);subst hn;have hcs0:cs= []:=BY (by simpa using cl);have hc:(Builtin.firstCells ti.size 0 x).run P w= .ok #[] w:=hs.src.cells;have hrun:(Builtin.append_ #[t,tx] ty #[.slice ad 0 0,x]).run P w= .ok (.slice ad 0 0) w:=by
  rcases hs.src.kind with ⟨e',hk'⟩ | hk'<;>cases ad<;>
   simp[Builtin.append_,run_underlying hu,run_underlying hk',sizeOf,typeInfo,hi,hs.src.len,hc,storeCells]
 have f3:=h.room_same i;rw[hcs,hcs0] at f3;refine⟨0,[],BD _,by simp,rfl,_,_,g,F,by simp only[Sem.run_bind,hrun,Result.andThen_ok,Sem.run_pure];rfl,by rw[hcs0];simpa[flat] using f3,.inl ⟨_,rfl,.lmr0 i ad hil.1⟩⟩;obtain⟨olds,o1,o2,o3⟩:=hcell ad hva had;exact grow ad hva oG olds o1 o2 o3
def yG (T U:Option TI)(x y:PV)(s:PFS)(K:PV->PFS->Prop):Prop:=
 match T,U,x,y with
 | some ⟨_,_,.slice e,_⟩,some ⟨_,_,.slice _,_⟩,.mr i len cap,.sl _ ys=>HB (s.L.getD i []) len cap ys e/\ ∀cap' R,len+ys.length<=cap'->R.length=(cap'-(len+ys.length))*e.sz->R.all PV.quiet=true->
  K (.mr i (len+ys.length) cap') (s.room i ((s.L.getD i []).take (len*e.sz)++(flat ys++R)))
 | _,_,_,_=>False
def YR (P:Program)(o:Oper)(K:PFS->Prop)(s:PFS):Prop:=
 match o.op with
 | .call { callee:= .builtin .append,args,argTypes } =>
  match argTypes.toList,args.toList with
  | [t,u],[x,y]=>yG (ti P t) (ti P u) (s.ev x) (s.ev y) s (fun p s'=>K (s'.put o.dst p))
  | _,_=>False
 | _=>False
theorem Z2v {P:Pg}{E:Ent}{a:Act}{w:Lw}{g:Gh}{F:Fr}{s:PFS}{o:Oper}{K:Pf}(h:FSRep E a w g F s)(hp:YR P o K s){next:Act->World->Prop}{Q:Pt}
 (hn: ∀a' w' g' F' s',FSRep E a' w' g' F' s'->K s'->next a' w'):o.wp P a w next Q:=by
 unfold YR at hp;split at hp;rotate_left;exact hp.elim;rename_i args ts heq;split at hp;rotate_left;exact hp.elim;rename_i t u o1 o2 hts hargs;unfold yG at hp;split at hp;rotate_left;exact hp.elim;rename_i e _ _ _ e2 _ i len cap tg ys hT hU h1 h2;obtain⟨c1,hk⟩:=hp;obtain⟨_,_,_,hu,hT'⟩:=QU hT;obtain⟨rfl,hei⟩:=ZH (B4 TI.ud hT').symm;obtain⟨_,_,_,hu2,hU'⟩:=QU hU;obtain⟨rfl,_⟩:=ZH (B4 TI.ud hU').symm;have ha:args= #[o1,o2]:=(by rw[<-hargs]);have ht:ts= #[t,u]:=(by rw[<-hts]);subst ha ht;have hv:=h.ev o1;rw[h1] at hv;have hx:=h.ev o2;rw[h2] at hx;obtain⟨cap',R,hc1,hc2,hc3,nx,w',g',F',r1,r2,r3⟩:=Q2y (P:=P) (ty:=o.type) hu hei hu2 h hv hx.slNo c1;have hex:(execOp a.eval o).run P w= .ok nx w':=by unfold execOp;simp only[heq,resolve,invoke,Sem.run_bind,Sem.run_pure,Result.andThen_ok];show(do pure (Next.value (<-Builtin.append_ #[t,u] o.type (Array.map a.eval #[o1,o2]))):Sem Next).run P w=_;rw[<-r1];simp
 unfold Oper.wp;rw[hex];rcases r3 with ⟨v,rfl,hv⟩ | ⟨rfl,hj⟩;exact hn _ _ _ _ _ (r2.put o.dst hv) (hk cap' R hc1 hc2 hc3);cases hj
theorem Z2w {P:Pg}{o:Oper}{K:Pf}{s:PFS}(hp:YR P o K s): ∀c,o.op≠ .defer c:=by intro c hc;unfold YR at hp;rw[hc] at hp;exact hp
theorem U0y {P:Pg}{E:Ent}{a:Act}{w:Lw}{g:Gh}{F:Fr}{s:PFS}{o:Oper}{K:Pf}(h:FSRep E a w g F s)(hp:YR P o K s){next:Act->World->Prop}{Q:Pt}
 (hn: ∀a' w' g' F' s',FSRep E a' w' g' F' s'->K s'->next a' w'):o.wpIn (fen E.rd) 0 P a w next Q:=
 Gp E.rd (Z2w hp) (Z2v h hp hn)
def YV (P:Program)(ops:List Oper):List Bool->List Oper->(PFS->Prop)->PFS->Prop
 | _,[],K,s=>K s
 | [],rest,K,s=>OL0 P ops rest K s
 | true::bs,o::rest,K,s=>o.guard=none/\YR P o (YV P ops bs rest K) s
 | false::bs,o::rest,K,s=>
  match o.guard with
  | none=>OC0 P o (YV P ops bs rest K) s
  | some (j,want)=>GK0 (ZA ops s j want) want (OC0 P o (YV P ops bs rest K) s) (YV P ops bs rest K (s.put o.dst (.tup [])))
theorem yQ {P:Pg}{E:Ent}{ops:La}{Q:Pt}{K:Pf}(hK: ∀a' w' g' F' s',FSRep E a' w' g' F' s'->K s'->Q .normal a' w'):
 ∀(bs:Ld) (rest:Lo) (a:Act) (w:Lw) (g:Gh) (F:Fr) (s:PFS),FSRep E a w g F s->YV P ops.toList bs rest K s->wpListIn (fen E.rd) 0 P ops Q rest a w
 | bs,[],a,w,g,F,s,h,hp=>hK a w g F s h (by unfold YV at hp;exact hp)
 | [],o::rest,a,w,g,F,s,h,hp=>YT hK (o::rest) a w g F s h (YZ hp)
 | true::bs,o::rest,a,w,g,F,s,h,hp=>by obtain⟨hg,hp⟩:=hp;have ih:=yQ (P:=P) (ops:=ops) hK bs rest;unfold wpListIn;rw[BC (by simp[Region.wanted,hg])];exact U0y h hp fun a' w' g' F' s' hr hk=>ih a' w' g' F' s' hr hk
 | false::bs,o::rest,a,w,g,F,s,h,hp=>by
  have ih:=yQ (P:=P) (ops:=ops) hK bs rest;unfold YV at hp;unfold wpListIn;cases hg:o.guard with
  | none=>
   rw[hg] at hp;rw[BC (by simp[Region.wanted,hg])];exact Jt h (Vs hp) fun a' w' g' F' s' hr hk=>ih a' w' g' F' s' hr hk
  | some x=>
   obtain⟨j,want⟩:=x;rw[hg] at hp;simp only at hp;cases hb:ZA ops.toList s j want with
   | none=>rw[hb] at hp;exact hp.elim
   | some b=>
    rw[hb] at hp;obtain⟨h1,h2⟩:=hp;have hy:=W9 h hb;by_cases e:b=want;have hx:=h1 e;subst e;rw[BC (by unfold Region.wanted;rw[hg];simp only;rw[hy];simp)];exact Jt h (Vs hx) fun a' w' g' F' s' hr hk=>ih a' w' g' F' s' hr hk;rw[BA (by unfold Region.wanted;rw[hg];simp only;rw[hy];simp[e])];exact⟨V7,ih _ w g F _ (h.put o.dst (.base _ _ (Wz _ _))) (h2 e)⟩
def OLr (P:Program)(ops:List Oper)(bs:List Bool)(rest:List Oper)(K:PFS->Prop)[Stop ops][Stop rest][Stop K](s:PFS):Prop:=YV P ops bs rest K s
def POr (P:Program)(o:Oper)(K:PFS->Prop)[Stop o][Stop K](s:PFS):Prop:=YR P o K s
theorem zE {P:Pg}{E:Ent}{id:Nat}{l:Lo}{Q:Pe}{s:PFS}(bs:Ld)(h:OLr P l bs l (Q .normal) s):PWP P E (.region id l.toArray false) Q s:=fun a w g F hr=>
 wpIn_region_list (yQ (fun a' w' g' F' s' hr' hk=>⟨g',F',s',hr',hk⟩) bs l a w g F s hr h)
section
variable {P:Program} {s:PFS} {K:PFS->Prop} {d:Option Tmp} {ty:TypeId} {pos:String} {af:Array Edge}
@[go_sem] theorem j2t {ops:Lo}{bs:Ld} :OLr P ops bs [] K s=K s:=by cases bs<;>rfl
@[go_sem] theorem j2s {ops rest:Lo}{bs:Ld}{op:Op} :OLr P ops (true::bs) (⟨d,op,ty,pos,af,none⟩::rest) K s=POr P ⟨d,op,ty,pos,af,none⟩ (OLr P ops bs rest K) s:=by show((none:Option (Nat×Bool))=none/\_)=_;simp only[F7];rfl
@[go_sem] theorem j2v {ops rest:Lo}{bs:Ld}{op:Op} :OLr P ops (false::bs) (⟨d,op,ty,pos,af,none⟩::rest) K s=OC P ⟨d,op,ty,pos,af,none⟩ (OLr P ops bs rest K) s:=(rfl)
@[go_sem] theorem j2u {ops rest:Lo}{bs:Ld}{op:Op}{j:Nat}{want:Bool} :OLr P ops (false::bs) (⟨d,op,ty,pos,af,some (j,want)⟩::rest) K s=
 GK (ZA ops s j want) want (OC P ⟨d,op,ty,pos,af,some (j,want)⟩ (OLr P ops bs rest K) s) (OLr P ops bs rest K (s.put d (.tup []))):=rfl
def U0l (T U:Option TI)(x y:PV)(s:PFS)(K:PV->PFS->Prop)[Stop K]:Prop:=yG T U x y s K
@[go_sem] theorem x2y {x y:Operand}{t u:Lt} :POr P ⟨d,.call ⟨.builtin .append,[x,y].toArray,[t,u].toArray⟩,ty,pos,af,none⟩ K s=U0l (ti P t) (ti P u) (s.ev x) (s.ev y) s (fun p s'=>K (s'.put d p)):=(rfl)
@[go_sem] theorem z2z {e e':EI}{x1 y1:Bool}{x2 y2:Nat}{x4 y4:Pr}{t:Tag}{i len cap:Nat}{ys:Lp}{K:Pw} :U0l (some ⟨x1,x2,.slice e,x4⟩) (some ⟨y1,y2,.slice e',y4⟩) (.mr i len cap) (.sl t ys) s K=
 (HB (s.L.getD i []) len cap ys e/\ ∀cap' R,len+ys.length<=cap'->R.length=(cap'-(len+ys.length))*e.sz->R.all PV.quiet=true->K (.mr i (len+ys.length) cap') (s.room i ((s.L.getD i []).take (len*e.sz)++(flat ys++R)))):=(rfl)
@[go_sem] theorem K2d {i:Nat}{X pa:Lp}{L st:Qc}{T:Lv} :(PFS.mk pa L T st).room i X=⟨pa.map (PV.kill i),(L.map fun l=>l.map (PV.kill i)).set i X,T,st⟩:=(rfl)
@[go_sem] theorem W2d {i:Nat} :PV.kill i .junk= .junk:=(rfl)
@[go_sem] theorem W2a {i:Nat}{v:Value} :PV.kill i (.sc v)= .sc v:=(rfl)
@[go_sem] theorem W2e {i k o:Nat} :PV.kill i (.gp k o)= .gp k o:=(rfl)
@[go_sem] theorem V2z {i:Nat}{t:Tag}{es:Lp} :PV.kill i (.sl t es)= .sl t es:=(rfl)
@[go_sem] theorem W2f {i o:Nat}{es:Lp} :PV.kill i (.ep es o)= .ep es o:=(rfl)
@[go_sem] theorem W2b {i k n c:Nat} :PV.kill i (.mr k n c)=if k=i then .junk else .mr k n c:=(rfl)
@[go_sem] theorem W2c {i k o:Nat} :PV.kill i (.lp k o)=if k=i then .junk else .lp k o:=(rfl)
@[go_sem] theorem W2g {i:Nat}{l:Lp} :PV.kill i (.agg l)= .agg (l.map (PV.kill1 i)):=(rfl)
@[go_sem] theorem V2y {i:Nat}{l:Lp} :PV.kill i (.tup l)= .tup (l.map (PV.kill2 i)):=(rfl)
@[go_sem] theorem W2h {i:Nat}{v:Value} :PV.kill2 i (.sc v)= .sc v:=(rfl)
@[go_sem] theorem W2i {i:Nat}{l:Lp} :PV.kill2 i (.agg l)= .agg (l.map (PV.kill1 i)):=(rfl)
@[go_sem] theorem W2k {i:Nat}{v:Value} :PV.kill1 i (.sc v)= .sc v:=(rfl)
@[go_sem] theorem W2j {i:Nat}{t:Tag}{es:Lp} :PV.kill1 i (.sl t es)= .sl t es:=(rfl)
@[go_sem] theorem q2k {i n c:Nat} :(PV.mr i n c).cells= [.mr i n c]:=(rfl)
end
theorem H0d {E:Ent}(s:PFS):Weak E s { s with L:=s.L++ [[]] } :=by
 intro a w g F h
 let F':Fr:=⟨s.L.length+1,F.lmu,F.tb⟩
 have hnl:=h.frame.nl;have hm: ∀v p,RepF w g F s.T v p->RepF w g F' s.T v p:=fun v p hp=>RepF.mono (F:=F) (F':=F') (.refl _ _) (by simp[F',hnl]) (fun _ _=>rfl) ⟨BD _,fun i hi=>⟨BD _,fun _ _ _ hR=>hR⟩⟩ hp;have hL: ∀k,(s.L++ [[]]).getD k []=s.L.getD k []:=fun k=>by by_cases hk:k<s.L.length;exact QV _ _ _ _ hk;rw[Zi _ _ _ _ oG];rw[show s.L.getD k []= [] from by rw[q_a,C2 oG];rfl];by_cases h0:k-s.L.length=0;rw[h0];rfl;rw[q_a,C2 (by simp;omega)];rfl
 refine⟨g,F',h.ext,h.store,⟨by simp[F'],fun k hk=> ?_,fun k hk=> ?_,fun k j hk hj=> ?_,fun k hk=> ?_,h.frame.tlo,fun k b hk hb=>⟨(h.frame.tapart k b hk hb).1,fun j hj=> ?_⟩,h.frame.tinj⟩,h.defers,h.len,fun t ht=>hm _ _ (h.tmps t ht)⟩;simp only[hL] at hk;exact h.frame.lo k hk;simp only[hL] at hk;exact h.frame.apart k hk;simp only[hL] at hk hj;exact h.frame.inj k j hk hj;simp only[hL] at hk⊢;exact(h.frame.holds k hk).mono rfl hm;simp only[hL] at hj;exact(h.frame.tapart k b hk hb).2 j hj
theorem kr {P:Pg}{E:Ent}{c:Code}{Q:Pe}{s:PFS}(h:PWP P E c Q { s with L:=s.L++ [[]] }):PWP P E c Q s:=J0 (H0d s) h
theorem H0h {E:Ent}(s:PFS)(t i:Nat)(hi:i<s.L.length)(ht:s.pa.getD t .junk= .sl .full []):Weak E s { s with pa:=s.pa.set t (.mr i 0 0) } :=by intro a w g F h;refine⟨g,F,h.ext,h.store,h.frame,h.defers,by simp[h.len],fun k hk=> ?_⟩;simp only[BL] at hk⊢;by_cases e:t=k;subst e;rw[Z0 _ _ _ _ hk];have:=h.tmps t hk;rw[ht] at this;obtain⟨ad,hv⟩:=xp this;rw[hv];exact .lmr0 i ad (by rw[h.frame.nl];exact hi);rw[Z3 _ _ _ _ _ e];exact h.tmps k hk
theorem ku {P:Pg}{E:Ent}{c:Code}{Q:Pe}{s:PFS}(t i:Nat)(hi:i<s.L.length)(ht:s.pa.getD t .junk= .sl .full [])(h:PWP P E c Q { s with pa:=s.pa.set t (.mr i 0 0) }):PWP P E c Q s:=J0 (H0h s t i hi ht) h
theorem z0v {xs R:Lp}{sz n:Nat}(h: ∀i,i<xs.length->(xs.getD i .junk).cells.length=sz)(hn:n=xs.length):(flat xs++R).take (n*sz)=flat xs:=by have:=Kj h;rw[hn,<-this,List.take_left]
theorem Io {l:Lp}(h:l.all PV.quiet=true):Zj l=true:=by
 unfold Zj;refine List.all_eq_true.2 fun p hp=> ?_;have hq:=List.all_eq_true.1 h p hp;have h1:=(Q1l hq).1;rw[h1];cases p with
 | agg l=>cases hq
 | _=>rfl
theorem xx (xs ys:Lp):flat (xs++ys)=flat xs++flat ys:=by simp[flat]
end Go.Pv
end
