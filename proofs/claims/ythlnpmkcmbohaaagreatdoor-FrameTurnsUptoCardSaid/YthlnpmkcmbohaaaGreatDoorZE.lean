/- Parts of the walk: PvX, PvY, M3, M4, M5, M6, M7, M8, M9, M13, M14, M15, M16. -/
import Derived.Test.YthlnpmkcmbohaaaGreatDoorZD
set_option linter.unusedVariables false
set_option linter.unusedSimpArgs false
section
namespace Go.Pv
open Go.Proofs
attribute [go_sem] Int.reduceBNe Int.reduceBEq
theorem QH :Tryz.prog.follows .mixedOrders=true:=by kernel_rfl
def Q2 (l:List UInt64):List PV:=l.map fun c=>(.sc (.int .u64 c.toNat))
@[go_sem] theorem Za (l:List UInt64):(Q2 l).length=l.length:=by simp[Q2]
@[go_sem] theorem K1p :Q2 []= []:=(rfl)
@[go_sem] theorem W2a (l:List UInt64):(Q2 l).all (fun x=>x.cells.length==1)=true:=by simp[Q2,PV.cells]
@[go_sem] theorem W2b (l:List UInt64):(Q2 l).all (fun x=>(x.cells.length==1)&&x.cells.all PV.cellOK)=true:=by simp[Q2,PV.cells,PV.cellOK,Value.oneCell']
@[go_sem] theorem w1x (l:List UInt64)(n:Nat):(Q2 l).take n=Q2 (l.take n):=by simp[Q2]
@[go_sem] theorem w1y (l:List UInt64)(n:Nat):(Q2 l).drop n=Q2 (l.drop n):=by simp[Q2]
@[go_sem] theorem j0r (l:List UInt64)(c:UInt64):Q2 l++ [.sc (.int .u64 c.toNat)]=Q2 (l++ [c]):=by simp[Q2]
theorem QC (l:List UInt64)(n:Nat)(h:n<l.length):(Q2 l).getD n .junk= .sc (.int .u64 (l.getD n 0).toNat):=by simp[Q2,q_a,h]
@[go_sem] theorem Z2z (l:List UInt64)(i:Nat)(cs:List PV):(Q2 l).map (PV.frz i cs)=Q2 l:=by simp only[Q2,DZ];exact C4 fun a _=>rfl
theorem X9 (l:List UInt64)(n:Nat)(c:UInt64)(h:n<l.length):Zx (Q2 l) n [.sc (.int .u64 c.toNat)]=Q2 (l.set n c):=by unfold Zx Q2;rw[DS,BC h];simp
@[go_sem] theorem Z2y (l:List UInt64)(a b:Nat):(Q2 l).all (PV.lim a b)=true:=by simp[Q2,PV.lim,PV.lim1]
@[go_sem] theorem W2c (l:List UInt64):VN (Q2 l)=true:=by simp[Q2,VN,PV.closed2,PV.closed1]
@[go_sem] theorem z1n (l:List UInt64):(Q2 l).map PV.forget2=Q2 l:=by simp only[Q2,DZ];exact C4 fun a _=>rfl
@[go_sem] theorem Z2x (n:Nat):List.replicate n (PV.sc (.int .u64 0))=Q2 (List.replicate n 0):=by simp[Q2]
def ZR (l:List UInt32):List PV:=l.map fun c=>(.sc (.int .u32 c.toNat))
@[go_sem] theorem z1p (l:List UInt32):(ZR l).length=l.length:=by simp[ZR]
@[go_sem] theorem jJ :ZR []= []:=(rfl)
@[go_sem] theorem W2k (l:List UInt32):(ZR l).all (fun x=>x.cells.length==1)=true:=by simp[ZR,PV.cells]
@[go_sem] theorem y1g (l:List UInt32)(n:Nat):(ZR l).take n=ZR (l.take n):=by simp[ZR]
@[go_sem] theorem y1i (l:List UInt32)(n:Nat):(ZR l).drop n=ZR (l.drop n):=by simp[ZR]
@[go_sem] theorem y1h (l:List UInt32)(c:UInt32):ZR l++ [.sc (.int .u32 c.toNat)]=ZR (l++ [c]):=by simp[ZR]
theorem ZT (l:List UInt32)(n:Nat)(h:n<l.length):(ZR l).getD n .junk= .sc (.int .u32 (l.getD n 0).toNat):=by simp[ZR,q_a,h]
@[go_sem] theorem X2i (l:List UInt32)(i:Nat)(cs:List PV):(ZR l).map (PV.frz i cs)=ZR l:=by simp only[ZR,DZ];exact C4 fun a _=>rfl
theorem G1 (l:List UInt32)(n:Nat)(c:UInt32)(h:n<l.length):Zx (ZR l) n [.sc (.int .u32 c.toNat)]=ZR (l.set n c):=by unfold Zx ZR;rw[DS,BC h];simp
@[go_sem] theorem X2h (l:List UInt32)(a b:Nat):(ZR l).all (PV.lim a b)=true:=by simp[ZR,PV.lim,PV.lim1]
@[go_sem] theorem W2l (l:List UInt32):VN (ZR l)=true:=by simp[ZR,VN,PV.closed2,PV.closed1]
@[go_sem] theorem z1q (l:List UInt32):(ZR l).map PV.forget2=ZR l:=by simp only[ZR,DZ];exact C4 fun a _=>rfl
@[go_sem] theorem X2g (n:Nat):List.replicate n (PV.sc (.int .u32 0))=ZR (List.replicate n 0):=by simp[ZR]
def U2x (l:List Int):List PV:=l.map fun c=>(.sc (.int .i64 c))
attribute [go_sem] K1q j0v
structure Nm where
 neg:Bool
 exp:Int
 w:List UInt64
 deriving DecidableEq
instance : Inhabited Nm:=⟨⟨false,0,[]⟩⟩
def Q9 (x:Nm):List PV:= [.sc (.bool x.neg),.sc (.int .i64 x.exp),.sl .no (Q2 x.w)]
attribute [go_sem] Q9
structure Ivl where
 lo:Nm
 hi:Nm
 deriving DecidableEq
instance : Inhabited Ivl:=⟨⟨default,default⟩⟩
def ZQ (x:Ivl):List PV:= [.sc (.bool x.lo.neg),.sc (.int .i64 x.lo.exp),.sl .no (Q2 x.lo.w),.sc (.bool x.hi.neg),.sc (.int .i64 x.hi.exp),.sl .no (Q2 x.hi.w)]
attribute [go_sem] ZQ
def Qy (l:List Nm):List PV:=l.map fun c=>(.agg (Q9 c))
@[go_sem] theorem QT (l:List Nm):(Qy l).length=l.length:=by simp[Qy]
@[go_sem] theorem y1c :Qy []= []:=(rfl)
@[go_sem] theorem X2d (l:List Nm):(Qy l).all (fun x=>x.cells.length==3)=true:=by simp[Qy,PV.cells,Q9]
@[go_sem] theorem Y0q (l:List Nm)(c:Nm):Qy l++ [.agg (Q9 c)]=Qy (l++ [c]):=by simp[Qy]
theorem QG (l:List Nm)(n:Nat)(h:n<l.length):(Qy l).getD n .junk= .agg (Q9 (l.getD n default)):=by simp[Qy,q_a,h]
def QE (l:List Ivl):List PV:=l.map fun c=>(.agg (ZQ c))
@[go_sem] theorem WF (l:List Ivl):(QE l).length=l.length:=by simp[QE]
@[go_sem] theorem y1f :QE []= []:=(rfl)
@[go_sem] theorem X2f (l:List Ivl):(QE l).all (fun x=>x.cells.length==6)=true:=by simp[QE,PV.cells,ZQ]
@[go_sem] theorem j1w (l:List Ivl)(n:Nat):(QE l).take n=QE (l.take n):=by simp[QE]
@[go_sem] theorem j1x (l:List Ivl)(n:Nat):(QE l).drop n=QE (l.drop n):=by simp[QE]
theorem Zl (l:List Ivl)(n:Nat)(h:n<l.length):(QE l).getD n .junk= .agg (ZQ (l.getD n default)):=by simp[QE,q_a,h]
structure Sg where
 fr:Int
 to:Int
 t0:Nm
 t1:Nm
 box:List Ivl
 deriving DecidableEq
instance : Inhabited Sg:=⟨⟨0,0,default,default,[]⟩⟩
def H2d (x:Sg):List PV:= [.sc (.int .i64 x.fr),.sc (.int .i64 x.to),.sc (.bool x.t0.neg),.sc (.int .i64 x.t0.exp),.sl .no (Q2 x.t0.w),.sc (.bool x.t1.neg),.sc (.int .i64 x.t1.exp),.sl .no (Q2 x.t1.w),.sl .no (QE x.box)]
attribute [go_sem] H2d
def PFS.claim (t sz:Nat)(s:PFS):PFS:=
 match s.pa.getD t .junk with
 | .sl .full []=>⟨s.pa.set t (.sl (.own s.T.length) []),s.L,s.T++ [(0,sz)],s.st⟩
 | _=>s
theorem V0e {E:Ent}{s:PFS}(t sz:Nat):U0f E s (s.claim t sz):=by
 intro a w g F h;unfold PFS.claim;split;rename_i he;obtain⟨es,hes⟩: ∃es:List PV,es= []:=⟨_,rfl⟩;rw[<-hes] at he⊢;have hv:=h.len_eq t;rw[he] at hv;have hbase: ∀v,RepF w g F s.T v (.sl .full es)->Rep w g v (.sl .full es):=fun v hv=>by cases hv with | base _ _ h=>exact h
 have hv:=hbase _ hv;have hri: ∀v,Rep w g v (.sl .full es)->Right w g none sz v es:=fun v hv=>by
  cases hv with
  | nil t ad ht=>exact⟨.inr ⟨_,rfl⟩,rfl⟩
  | sl t es b off sz cap cf ht hf hcap hsz hvis hc hr=>exact⟨.inr ⟨_,by rw[hf rfl]⟩,by rw[hes];rfl⟩
 rw[show(0:Nat)=es.length from by rw[hes];rfl];obtain⟨F',m1,m2,m3,m4,m5⟩:=h.mint es.length sz none (fun b hb=>by cases hb);have hlast:(s.T++ [(es.length,sz)]).getD s.T.length (0,0)=(es.length,sz):=(by simp[q_a]);have hown:RepF w g F' (s.T++ [(es.length,sz)]) (a.tmps.getD t undef) (.sl (.own s.T.length) es):=by refine .own _ _ _ hv.toNo (by simp) (by rw[hlast];exact BD _) fun _=> ?_;rw[hlast,m2];exact hri _ hv
 refine⟨g,F',m1.ext,m1.store,m1.frame,m1.defers,by rw[BL];exact m1.len,fun j hj=> ?_⟩;simp only[BL] at hj;by_cases e:t=j;subst e;rw[Qt _ _ _ _ hj];exact hown;rw[Qo _ _ _ _ _ e];exact m1.tmps j hj;exact⟨g,F,h⟩
theorem QQ {P:Program}{E:Ent}{c:Code}{Q:Exit->PFS->Prop}{s:PFS}(t sz:Nat)(h:PWP P E c Q (s.claim t sz)):PWP P E c Q s:=Xv (V0e t sz) h
def clm (p:PV)(t sz:Nat)(pa:List PV)(L:Qf)(T:List (Nat×Nat))(st:Qf):PFS:=
 match p with
 | .sl .full []=>⟨pa.set t (.sl (.own T.length) []),L,T++ [(0,sz)],st⟩
 | _=>⟨pa,L,T,st⟩
@[go_sem] theorem X2m {t sz:Nat}{pa:List PV}{L st:Qf}{T:List (Nat×Nat)} :(PFS.mk pa L T st).claim t sz=clm (pa.getD t .junk) t sz pa L T st:=by unfold PFS.claim clm;rfl
@[go_sem] theorem X2l {t sz:Nat}{pa:List PV}{L st:Qf}{T:List (Nat×Nat)} :clm (.sl .full []) t sz pa L T st=⟨pa.set t (.sl (.own T.length) []),L,T++ [(0,sz)],st⟩:=(rfl)
def noL :List Bool->List PV->List PV
 | b::bs,p::ps=>(if b&&p.closed2 then p.forget2 else p)::noL bs ps
 | [],ps=>ps
 | _,[]=> []
theorem GZ : ∀(bs:List Bool) (ps:List PV),(noL bs ps).length=ps.length
 | [],[]=>rfl
 | [],p::ps=>rfl
 | b::bs,[]=>rfl
 | b::bs,p::ps=>by simp[noL,GZ bs ps]
theorem J0n : ∀(bs:List Bool) (ps:List PV) (j:Nat),(noL bs ps).getD j .junk=ps.getD j .junk\/((ps.getD j .junk).closed2=true/\(noL bs ps).getD j .junk=(ps.getD j .junk).forget2)
 | [],ps,j=> .inl rfl
 | b::bs,[],j=> .inl rfl
 | b::bs,p::ps,j=>by
  cases j with
  | zero=>
   simp only[noL,LD];by_cases h:(b&&p.closed2)=true;rw[BC h];simp at h;exact .inr ⟨h.2,rfl⟩;rw[BA h];exact .inl rfl
  | succ j=>simpa[noL] using J0n bs ps j
def PFS.plain (bs:List Bool)(s:PFS):PFS:=⟨noL bs s.pa,s.L,s.T,s.st⟩
theorem V0c {E:Ent}{s:PFS}(bs:List Bool):U0f E s (s.plain bs):=by intro a w g F h;refine⟨g,F,h.ext,h.store,h.frame,h.defers,by simp only[PFS.plain,GZ];exact h.len,fun j hj=> ?_⟩;simp only[PFS.plain,GZ] at hj⊢;rcases J0n bs s.pa j with e | ⟨e1,e2⟩;rw[e];exact h.tmps j hj;rw[e2];exact .base _ _ ((h.tmps j hj).forget2 e1)
theorem XR {P:Program}{E:Ent}{c:Code}{Q:Exit->PFS->Prop}{s:PFS}(bs:List Bool)(h:PWP P E c Q (s.plain bs)):PWP P E c Q s:=Xv (V0c bs) h
@[go_sem] theorem Z2h {bs:List Bool}{pa:List PV}{L st:Qf}{T:List (Nat×Nat)} :(PFS.mk pa L T st).plain bs=⟨noL bs pa,L,T,st⟩:=(rfl)
@[go_sem] theorem K2x {ps:List PV} :noL [] ps=ps:=(rfl)
@[go_sem] theorem G2u {bs ps:List PV}{b:List Bool}{p:PV} :noL (false::b) (p::ps)=p::noL b ps:=(rfl)
@[go_sem] theorem U2q {ps es:List PV}{b:List Bool} :noL (true::b) (.sl .no es::ps)= .sl .no es::noL b ps:=(rfl)
@[go_sem] theorem Z2k {ps es:List PV}{b:List Bool} :noL (true::b) (.sl .full es::ps)= .sl .no es::noL b ps:=(rfl)
@[go_sem] theorem K2w {k:Nat}{ps es:List PV}{b:List Bool} :noL (true::b) (.sl (.own k) es::ps)= .sl .no es::noL b ps:=(rfl)
@[go_sem] theorem K2y {ps cs:List PV}{b:List Bool} :noL (true::b) (.agg cs::ps)=(if cs.all PV.closed1=true then .agg (cs.map PV.forget1) else .agg cs)::noL b ps:=by simp only[noL,PV.closed2,PV.forget2,FE]
def PFS.plainBox (i:Nat)(s:PFS):PFS:=if (s.L.getD i []).all PV.closed2=true/\i<s.L.length then⟨s.pa,s.L.set i ((s.L.getD i []).map PV.forget2),s.T,s.st⟩ else s
theorem xI {E:Ent}{s:PFS}(i:Nat):U0f E s (s.plainBox i):=by
 intro a w g F h;unfold PFS.plainBox;split;rename_i hc;have hne: ∀k,(s.L.set i ((s.L.getD i []).map PV.forget2)).getD k []≠ []->s.L.getD k []≠ []:=fun k hk=>by by_cases e:i=k;subst e;rw[Qt _ _ _ _ hc.2] at hk;intro e2;rw[e2] at hk;exact hk rfl;rwa [Qo _ _ _ _ _ e] at hk
 refine⟨g,F,h.ext,h.store,⟨by simpa using h.frame.nl,fun k hk=>h.frame.lo k (hne k hk),fun k hk=>h.frame.apart k (hne k hk),fun k j hk hj=>h.frame.inj k j (hne k hk) (hne j hj),fun k hk=> ?_,h.frame.tlo,fun k b h1 h2=>⟨(h.frame.tapart k b h1 h2).1,fun j hj=>(h.frame.tapart k b h1 h2).2 j (hne j hj)⟩,h.frame.tinj⟩,h.defers,h.len,h.tmps⟩;have hh:=h.frame.holds k (hne k hk);by_cases e:i=k;subst e;rw[Qt _ _ _ _ hc.2];intro j hj;have hj':j<(s.L.getD i []).length:=(by simpa using hj);obtain⟨q1,c,q2,q3⟩:=hh j hj';refine⟨q1,c,q2,?_⟩;rw[ZB _ _ _ _ .junk hj'];exact .base _ _ (q3.forget2 (List.all_eq_true.1 hc.1 _ (Qq _ _ _ hj')));rw[Qo _ _ _ _ _ e];exact hh;exact⟨g,F,h⟩
theorem ZN {P:Program}{E:Ent}{c:Code}{Q:Exit->PFS->Prop}{s:PFS}(i:Nat)(h:PWP P E c Q (s.plainBox i)):PWP P E c Q s:=Xv (xI i) h
@[go_sem] theorem H1k {i:Nat}{pa:List PV}{L st:Qf}{T:List (Nat×Nat)} :(PFS.mk pa L T st).plainBox i=if (L.getD i []).all PV.closed2=true/\i<L.length then⟨pa,L.set i ((L.getD i []).map PV.forget2),T,st⟩ else⟨pa,L,T,st⟩:=(rfl)
theorem PCalls.plain {P:Program}{f:FuncId}{args es:List PV}{st:Qf}{sz:Nat}(h:PCalls P f args st (fun r st'=>r= .sl (.fresh sz) es/\st'=st)):PCalls P f args st (fun r st'=>r= .sl .no es/\st'=st):=
 fun w g vs hs hr=>(h w g vs hs hr).mono fun _ _ ⟨v,g',r,st',he,hx,ho,hv,q⟩=>by obtain⟨rfl,rfl⟩:=q;exact⟨v,g',.sl .no es,_,he,hx,ho,hv.1,rfl,rfl⟩
theorem Zk (n:Nat):IntKind.u64.wrap (n:Int)=((n % 18446744073709551616:Nat):Int):=by simp[IntKind.wrap,IntKind.bits,IntKind.signed]
theorem ZV (n:Nat):IntKind.u32.wrap (n:Int)=((n % 4294967296:Nat):Int):=by simp[IntKind.wrap,IntKind.bits,IntKind.signed]
theorem Qn (n:Nat)(h:n<9223372036854775808):IntKind.i64.wrap (n:Int)=(n:Int):=Qw _ oG oG
theorem qZ (a b:Nat)(ha:a<18446744073709551616)(hb:b<18446744073709551616):bOr .u64 (a:Int) (b:Int)=((a|||b:Nat):Int):=by
 unfold bOr;have e:(BitVec.ofInt IntKind.u64.bits (a:Int)|||BitVec.ofInt IntKind.u64.bits (b:Int)).toNat=a|||b:=by
  have e1:BitVec.ofInt IntKind.u64.bits (a:Int)=BitVec.ofNat 64 a:=(by simp[IntKind.bits]);have e2:BitVec.ofInt IntKind.u64.bits (b:Int)=BitVec.ofNat 64 b:=(by simp[IntKind.bits]);rw[e1,e2];show(BitVec.ofNat 64 a|||BitVec.ofNat 64 b).toNat=a|||b
  rw[BitVec.toNat_or,D4,D4,BJ (by omega:a<2^64),BJ (by omega:b<2^64)]
 rw[e];exact ZS _ (F2 (n:=64) ha hb)
theorem GA (a b:Nat)(ha:a<18446744073709551616)(hb:b<18446744073709551616):GF .u64 (a:Int) (b:Int)=((a&&&b:Nat):Int):=by
 unfold GF;have e:(BitVec.ofInt IntKind.u64.bits (a:Int)&&&BitVec.ofInt IntKind.u64.bits (b:Int)).toNat=a&&&b:=by have e1:BitVec.ofInt IntKind.u64.bits (a:Int)=BitVec.ofNat 64 a:=(by simp[IntKind.bits]);have e2:BitVec.ofInt IntKind.u64.bits (b:Int)=BitVec.ofNat 64 b:=(by simp[IntKind.bits]);rw[e1,e2];show(BitVec.ofNat 64 a&&&BitVec.ofNat 64 b).toNat=a&&&b;rw[BitVec.toNat_and,D4,D4,BJ (by omega:a<2^64),BJ (by omega:b<2^64)]
 rw[e];exact ZS _ (D3 Nat.and_le_left ha)
theorem x1r (a b:Nat)(ha:a<4294967296)(hb:b<4294967296):bOr .u32 (a:Int) (b:Int)=((a|||b:Nat):Int):=by
 unfold bOr;have e:(BitVec.ofInt IntKind.u32.bits (a:Int)|||BitVec.ofInt IntKind.u32.bits (b:Int)).toNat=a|||b:=by
  have e1:BitVec.ofInt IntKind.u32.bits (a:Int)=BitVec.ofNat 32 a:=(by simp[IntKind.bits]);have e2:BitVec.ofInt IntKind.u32.bits (b:Int)=BitVec.ofNat 32 b:=(by simp[IntKind.bits]);rw[e1,e2];show(BitVec.ofNat 32 a|||BitVec.ofNat 32 b).toNat=a|||b
  rw[BitVec.toNat_or,D4,D4,BJ (by omega:a<2^32),BJ (by omega:b<2^32)]
 rw[e,ZV,BJ (F2 (n:=32) ha hb)]
theorem K0u (a b:Nat)(ha:a<4294967296)(hb:b<4294967296):GF .u32 (a:Int) (b:Int)=((a&&&b:Nat):Int):=by
 unfold GF;have e:(BitVec.ofInt IntKind.u32.bits (a:Int)&&&BitVec.ofInt IntKind.u32.bits (b:Int)).toNat=a&&&b:=by have e1:BitVec.ofInt IntKind.u32.bits (a:Int)=BitVec.ofNat 32 a:=(by simp[IntKind.bits]);have e2:BitVec.ofInt IntKind.u32.bits (b:Int)=BitVec.ofNat 32 b:=(by simp[IntKind.bits]);rw[e1,e2];show(BitVec.ofNat 32 a&&&BitVec.ofNat 32 b).toNat=a&&&b;rw[BitVec.toNat_and,D4,D4,BJ (by omega:a<2^32),BJ (by omega:b<2^32)]
 rw[e,ZV,BJ (D3 Nat.and_le_left ha)]
theorem K0t (k:IntKind)(v c:Nat)(h:c<=k.bits):xA k (v:Int) (c:Int)=k.wrap ((v*2^c:Nat):Int):=by unfold xA;rw[FT,DA h];congr 1
theorem KR (v c:Nat)(h:c<=64):xA .u64 (v:Int) (c:Int)=((v*2^c % 18446744073709551616:Nat):Int):=by rw[K0t .u64 v c h,Zk]
theorem V1u (v c:Nat)(h:c<=32):xA .u32 (v:Int) (c:Int)=((v*2^c % 4294967296:Nat):Int):=by rw[K0t .u32 v c h,ZV]
theorem XY (v c:Nat)(h:c<=64):Wg .u64 (v:Int) (c:Int)=((v/2^c:Nat):Int):=G9 .u64 v c h
theorem V1t (v c:Nat)(h:c<=32):Wg .u32 (v:Int) (c:Int)=((v/2^c:Nat):Int):=G9 .u32 v c h
theorem zS (x y c:Nat)(hx:x<2^c)(hy:y % 2^c=0):x|||y=x+y:=by
 have e:y=2^c*(y/2^c):=by have:=D7 y (2^c);omega
 rw[Nat.or_comm,e,<-Nat.two_pow_add_eq_or_of_lt hx,EZ]
theorem YW (w c:Nat)(h:c<=64):w*2^c % 18446744073709551616 % 2^c=0:=by have e:(18446744073709551616:Nat)=2^c*2^(64-c):=(by rw[<-B2,show c+(64-c)=64 from oG]);rw[e,Nat.mod_mul_right_mod,Nat.mul_mod_left]
theorem kA (w c:Nat)(hw:w<18446744073709551616)(h:c<=64):w*2^c=w*2^c % 18446744073709551616+18446744073709551616*(w/2^(64-c)):=by have e:(18446744073709551616:Nat)=2^(64-c)*2^c:=(by rw[<-B2,show 64-c+c=64 from oG]);have d:w*2^c/18446744073709551616=w/2^(64-c):=(by rw[e,Nat.mul_div_mul_right _ _ (DJ (by decide))]);rw[<-d];exact(FL _ _).symm
theorem W1t (w c:Nat)(hw:w<18446744073709551616)(h:c<=64):w/2^(64-c)<2^c:=by rw[DV (DJ (by decide)),<-B2,show c+(64-c)=64 from oG];exact hw
theorem V8 (n m:Nat):(n:Int).tdiv (m:Int)=((n/m:Nat):Int):=(Int.ofNat_tdiv n m).symm
theorem V7 (n m:Nat):(n:Int).tmod (m:Int)=((n % m:Nat):Int):=(Int.ofNat_tmod n m).symm
theorem UV (k:Nat):18446744073709551616^k=2^(64*k):=by rw[show(18446744073709551616:Nat)=2^64 from rfl,<-Nat.pow_mul]
theorem yM (k:Nat):4294967296^k=2^(32*k):=by rw[show(4294967296:Nat)=2^32 from rfl,<-Nat.pow_mul]
theorem QS (n:Nat)(h:n<18446744073709551616):(UInt64.ofNat n).toNat=n:=by rw[FF];omega
theorem ZF (n:Nat)(h:n<4294967296):(UInt32.ofNat n).toNat=n:=by rw[UInt32.toNat_ofNat'];omega
theorem yg {m n:Nat}(h:Qh m<Qh n):m<n:=by apply EV;intro hle;have:Qh n<=Qh m:=bitlen_le_iff.2 (D3 hle (Q5 m));omega
def Zd (l:List UInt64):Nat:=Qh (Qi l)
theorem v0r (l:List UInt64):Zd (XL l)=Zd l:=by simp only[Zd,ZM]
theorem wR (l:List UInt64):XL l= []<->Qi l=0:=by rw[<-Q3,wordsOf_nil]
theorem v0q (l:List UInt64)(h:XL l≠ []):Zd l=64*((XL l).length-1)+Qh ((XL l).getD ((XL l).length-1) 0).toNat:=by
 have hl:=k0r l h;rw[<-v0r];generalize XL l=c at*
 have hp:0<c.length:=EN.2 h;have e:Qi c=Qi (c.take (c.length-1))+18446744073709551616^(c.length-1)*(c.getD (c.length-1) 0).toNat:=(by rw[<-Ze c (c.length-1) oG,show c.length-1+1=c.length from oG,B0]);have hb:=Zu (c.take (c.length-1));rw[BX,DA oG] at hb;rw[Zd,e];rw[UV] at hb⊢;exact Y0z _ _ _ hb (fun h0=>hl ((HR _).2 h0))
theorem XX (l:List UInt64):Zd l<=64*l.length:=by rw[Zd,bitlen_le_iff,<-UV];exact Zu l
def Kt (x:Nm):Int:=if x.neg then -(Qi x.w:Int) else(Qi x.w:Int)
def qS (m:Int)(e:Int)(n:Int)(f:Int):Int:=V2 (m*2^(e-min e f).toNat) (n*2^(f-min e f).toNat)
def VP (a b:Nm):Int:=qS (Kt a) a.exp (Kt b) b.exp
def sgn (m:Int):Int:=if m=0 then 0 else if m<0 then -1 else 1
theorem two_pow_pos (n:Nat):(0:Int)<2^n:=Int.pow_pos (by decide)
theorem GM (m:Int)(n:Nat):sgn (m*2^n)=sgn m:=by have h:=two_pow_pos n;unfold sgn;by_cases h0:m=0;simp[h0];have h1:m*2^n≠0:=Int.mul_ne_zero h0 oG;rw[BA h0,BA h1];by_cases hl:m<0;rw[BC hl,BC (Int.mul_neg_of_neg_of_pos hl h)];rw[BA hl,BA];have:0<m*2^n:=Int.mul_pos oG h;omega
theorem Z0k {m n:Int}(h:sgn m≠sgn n):V2 m n=V2 (sgn m) (sgn n):=by
 unfold sgn at*
 unfold V2
 repeat' split at h
 all_goals repeat' split
 all_goals first | omega | rfl | (exfalso;omega)
theorem Z0l {m e n f:Int}(h:sgn m≠sgn n):qS m e n f=V2 (sgn m) (sgn n):=by unfold qS;rw[Z0k (by rw[GM,GM];exact h),GM,GM]
theorem v0c {e f:Int} :qS 0 e 0 f=0:=by unfold qS;simp[Hu]
theorem V1h {m e n f:Int} :qS (-m) e (-n) f= -qS m e n f:=by unfold qS;rw[DU,DU,wY]
theorem v0d {m e n f:Int} :qS n f m e= -qS m e n f:=by unfold qS;rw[Int.min_comm f e,wW]
theorem jS (m n:Nat)(e f:Int):qS m e n f=Y9 (m*2^(e-min e f).toNat) (n*2^(f-min e f).toNat):=by unfold qS Y9;rw[CN,CN,Int.natCast_pow,Int.natCast_pow];rfl
theorem v0e {m n:Nat}{e f:Int}(hm:m≠0)(hn:n≠0)(h:(Qh m:Int)+e≠(Qh n:Int)+f):qS m e n f=V2 ((Qh m:Int)+e) ((Qh n:Int)+f):=by rw[jS,Y9];have h1:=XV m (e-min e f).toNat hm;have h2:=XV n (f-min e f).toNat hn;by_cases hl:(Qh m:Int)+e<(Qh n:Int)+f;rw[Ke hl,Ke];exact Int.ofNat_lt.2 (yg (by rw[h1,h2];omega));have hlt:n*2^(f-min e f).toNat<m*2^(e-min e f).toNat:=yg (by rw[h1,h2];omega);have hlt':=Int.ofNat_lt.2 hlt;rw[Kf (a:=(Qh m:Int)+e) oG,Kf hlt']
theorem x1i {m n:Nat}{e f:Int}(h:f<e):qS m e n f=Y9 (m*2^(e-f).toNat) n:=by rw[jS,Int.min_eq_right oG];simp
theorem x1h {m n:Nat}{e f:Int}(h:e<=f):qS m e n f=Y9 m (n*2^(f-e).toNat):=by rw[jS,Int.min_eq_left h];simp
def sm (x:Nm):Prop:=x.w.length<=1000000/\ -1000000000<=x.exp/\x.exp<=1000000000
theorem mant_zero {x:Nm} :Kt x=0<->Qi x.w=0:=by unfold Kt;split<;>omega
def Va (x:Nm):Int:=if Qi x.w=0 then 0 else if x.neg then -1 else 1
theorem GN (x:Nm):Va x=sgn (Kt x):=by unfold Va sgn Kt;by_cases h:Qi x.w=0;rw[BC h];simp[h];cases hn:x.neg;simp[h];simp[h]
theorem x1g (a b:Nm):VP a b=if Va a≠Va b\/Va a=0 then V2 (Va a) (Va b) else Va a*qS (Qi a.w) a.exp (Qi b.w) b.exp:=by
 by_cases h:Va a≠Va b;rw[BC (.inl h),VP,GN,GN];rw[GN,GN] at h;exact Z0l h;have h':Va a=Va b:=Decidable.not_not.1 h;by_cases h0:Va a=0;rw[BC (.inr h0),h0,<-h',h0];have z: ∀x,Va x=0->Kt x=0:=fun x hx=>by unfold Va at hx;by_cases hv:Qi x.w=0;exact mant_zero.2 hv;rw[BA hv] at hx;split at hx<;>cases hx
 rw[VP,z a h0,z b (h'▸h0),v0c];rfl;rw[BA (by simp[h',h0];rw[<-h'];exact h0)];unfold Va at h' h0;unfold Va VP Kt;by_cases ha:Qi a.w=0;rw[BC ha] at h0;exact absurd rfl h0;by_cases hb:Qi b.w=0;rw[BC hb] at h';exact absurd h' h0;rw[BA ha,BA hb] at h';cases hna:a.neg<;>cases hnb:b.neg<;>simp[hna,hnb,ha,hb,V1h] at h'⊢
theorem KW {α:Type}(l:List α)(i:Nat)(d:α)(h:l.length<=i):l.getD i d=d:=by rw[q_a,C2 h];rfl
theorem ZW (l:List UInt32)(i:Nat):Zm (l.take (i+1))=Zm (l.take i)+4294967296^i*(l.getD i 0).toNat:=by by_cases h:i<l.length;exact Xn l i h;rw[BF oG,BF oG,KW l i 0 oG];show Zm l=Zm l+4294967296^i*0;omega
theorem KT (l:List UInt32)(i:Nat)(h:i<=l.length):Zm l=Zm (l.take i)+4294967296^i*Zm (l.drop i):=by
 conv=>lhs;rw[<-FN i l]
 rw[YM,BX,DA h]
theorem It (l:List UInt32)(i:Nat)(h:i<l.length):Zm (l.drop i)=(l.getD i 0).toNat+4294967296*Zm (l.drop (i+1)):=by rw[FC h];simp only[Zm,nD,DX,val];rw[q_a,BB h];rfl
theorem H1 (l:List UInt32)(i:Nat)(h:l.length<=i):Zm (l.drop i)=0:=by rw[C6 h];rfl
theorem zA (l:List UInt32)(i:Nat):Zm (l.drop i)=(l.getD i 0).toNat+4294967296*Zm (l.drop (i+1)):=by by_cases h:i<l.length;exact It l i h;rw[H1 l i oG,H1 l (i+1) oG,KW l i 0 oG];rfl
theorem HB (l:List UInt32)(i:Nat)(h:i<=l.length):Zm l/4294967296^i=Zm (l.drop i):=by have hb:=Is (l.take i);rw[BX,DA h] at hb;rw[KT l i h,EX _ _ (DJ (by decide)),CP hb,CU]
theorem x0e (a o:List UInt32)(k s i:Nat)(hs:s<32)(hi:i<a.length)(ho:o.length=a.length+k+1)
 (hv:Zm o=Zm (a.take i)*2^(32*k+s)) (hc:(o.getD (i+k) 0).toNat<2^s) (hz: ∀j,i+k<j->o.getD j 0=0):
 let x:=(a.getD i 0).toNat*2^s
 let lo:=UInt32.ofNat ((o.getD (i+k) 0).toNat+x % 4294967296)
 let hi':=UInt32.ofNat (x/4294967296)
 x<18446744073709551616/\bOr .u32 ((o.getD (i+k) 0).toNat:Int) ((x % 4294967296:Nat):Int)=(lo.toNat:Int)/\x/4294967296=hi'.toNat/\
 Zm ((o.set (i+k) lo).set (i+k+1) hi')=Zm (a.take (i+1))*2^(32*k+s)/\hi'.toNat<2^s:=by
 intro x lo hi';have hw:(a.getD i 0).toNat<4294967296:=CH _;have h32:2^s<=2^32:=BS (by decide) oG;have hx:x<4294967296*2^s:=C5 hw (DJ (by decide));have hx64:x<18446744073709551616:=q_e hx (by have:=DP 4294967296 h32;omega);have hmod:x % 4294967296 % 2^s=0:=by have e:(4294967296:Nat)=2^s*2^(32-s):=(by rw[<-B2,show s+(32-s)=32 from oG]);show(a.getD i 0).toNat*2^s % 4294967296 % 2^s=0;rw[e,Nat.mod_mul_right_mod,Nat.mul_mod_left]
 have hlt:=CG x (show 4294967296>0 by decide);have hor:=zS (o.getD (i+k) 0).toNat (x % 4294967296) s hc hmod;have hsum:(o.getD (i+k) 0).toNat+x % 4294967296<4294967296:=by rw[<-hor];exact F2 (n:=32) (CH _) hlt
 have elo:lo.toNat=(o.getD (i+k) 0).toNat+x % 4294967296:=ZF _ hsum;have hdiv:x/4294967296<2^s:=(DV (by decide)).2 oG;have ehi:hi'.toNat=x/4294967296:=ZF _ oG;refine⟨hx64,?_,ehi.symm,?_,by rw[ehi];exact hdiv⟩;rw[x1r _ _ (CH _) hlt,hor,elo];have e1:=HQ o (i+k) lo oG;have e2:=HQ (o.set (i+k) lo) (i+k+1) hi' (by simp;omega);rw[ZO,BA oG,hz (i+k+1) oG] at e2;rw[Xn a i hi,BQ,<-hv];have e3:4294967296^i*(a.getD i 0).toNat*2^(32*k+s)=4294967296^(i+k)*x:=by rw[B2 4294967296 i k,yM k,B2];simp only[x,BW,EL,BM]
 rw[e3,<-FL x 4294967296,CE,<-BW,show 4294967296^(i+k)*4294967296=4294967296^(i+k+1) from(B5 ..).symm];rw[elo,CE] at e1;rw[ehi] at e2;have z0:(0:UInt32).toNat=0:=rfl;rw[z0,DQ] at e2;omega
theorem Y0s (a b r s:Nat)(hs:s<32):(a+4294967296*(b+4294967296*r))/2^s % 4294967296=(a+4294967296*b)/2^s % 4294967296:=by
 have e:4294967296*(b+4294967296*r)=4294967296*b+2^s*(4294967296*(2^(32-s)*r)):=by have:(4294967296:Nat)=2^s*2^(32-s):=(by rw[<-B2,show s+(32-s)=32 from oG]);have e2:2^s*(4294967296*(2^(32-s)*r))=4294967296*(2^s*2^(32-s)*r):=(by simp only[BW,EL]);rw[e2,<-this,CE]
 rw[e,<-DK,EX _ _ (DJ (by decide)),D9]
theorem Gd (x B j:Nat):x % B^(j+1)=x % B^j+B^j*(x/B^j % B):=by rw[B5,Nat.mod_mul]
def tz (m:Nat):Nat:=if h:m=0\/m % 2=1 then 0 else tz (m/2)+1
termination_by m
decreasing_by omega
theorem yx :tz 0=0:=by rw[tz];simp
theorem X0i {m:Nat}(h:m % 2=1):tz m=0:=by rw[tz,dif_pos (.inr h)]
theorem yy {m:Nat}(h0:m≠0)(h:m % 2=0):tz m=tz (m/2)+1:=by rw[tz,dif_neg oG]
theorem kq (z q:Nat)(hq:q % 2=1):tz (2^z*q)=z:=by
 induction z with
 | zero=>simp[X0i hq]
 | succ z ih=>
  have hp:0<2^z:=DJ (by decide);have e:2^(z+1)*q=2*(2^z*q):=(by rw[B5];simp only[BW,EL,BM]);have h0:2^z*q≠0:=FX oG oG;rw[e,yy oG oG,EY _ (by decide),ih]
theorem GH (m:Nat)(h:m≠0): ∃q,q % 2=1/\m=2^tz m*q:=by
 induction m using Nat.strongRecOn with
 | _ m ih=>
  by_cases ho:m % 2=1;exact⟨m,ho,by rw[X0i ho];simp⟩
  . obtain⟨q,h1,h2⟩:=ih (m/2) oG oG;refine⟨q,h1,?_⟩;rw[yy h oG,B5];have:m=2*(m/2):=oG
    conv=>lhs;rw[this,h2]
    simp only[BW,EL,BM]
theorem Kp (m:Nat)(h:m≠0):m/2^tz m % 2=1:=by
 obtain⟨q,h1,h2⟩:=GH m h;have:m/2^tz m=q:=by
  conv=>lhs;lhs;rw[h2]
  exact EY _ (DJ (by decide))
 rw[this,h1]
theorem W1n (m:Nat):m % 2^tz m=0:=by
 by_cases h:m=0;subst h;simp
 . obtain⟨q,_,h2⟩:=GH m h
   conv=>lhs;lhs;rw[h2]
   exact Nat.mul_mod_right _ _
theorem V0f (m:Nat):m/2^tz m*2^tz m=m:=Nat.div_mul_cancel (Nat.dvd_of_mod_eq_zero (W1n m))
theorem Wj (m:Nat)(h:m≠0):tz m<Qh m:=by apply EV;intro hle;have h1:m<2^tz m:=bitlen_le_iff.1 hle;have:=W1n m;rw[BJ h1] at this;exact h this
structure Vl where
 neg:Bool
 m:Nat
 e:Int
 deriving DecidableEq
instance : Inhabited Vl:=⟨⟨false,0,0⟩⟩
def Vb (v:Vl):List PV:= [.sc (.bool v.neg),.sl .no (ZR (Qj v.m)),.sc (.int .i64 v.e)]
attribute [go_sem] Vb
theorem ZC (m:Nat):(Qj m).length<=(Qh m+31)/32:=by apply G3;rw[yM];exact q_e (Q5 m) (BS (by decide) oG)
theorem V5 (m:Nat):(Qp m).length<=(Qh m+63)/64:=by apply Zf;rw[UV];exact q_e (Q5 m) (BS (by decide) oG)
theorem XI (m k:Nat):Qh (m*2^k)<=Qh m+k:=by by_cases h:m=0;subst h;simp[Zv];rw[XV m k h];exact BD _
theorem G8 (m n:Nat):Qh (m+n)<=max (Qh m) (Qh n)+1:=by rw[bitlen_le_iff,B5];have h1:m<2^max (Qh m) (Qh n):=q_e (Q5 m) (BS (by decide) oG);have h2:n<2^max (Qh m) (Qh n):=q_e (Q5 n) (BS (by decide) oG);omega
theorem Jh {m n:Nat}(h:m<=n):Qh m<=Qh n:=bitlen_le_iff.2 (D3 h (Q5 n))
theorem Wk (m:Nat):tz m<=Qh m:=by by_cases h:m=0;subst h;rw[yx];exact CX _;exact F4 (Wj m h)
def Zq (v:Vl):Int:=if v.neg then -(v.m:Int) else(v.m:Int)
def XH (neg:Bool)(m:Nat)(e:Int):Vl:=if m=0 then⟨false,0,0⟩ else⟨neg,m/2^tz m,e+tz m⟩
def mkV (s:Int)(e:Int):Vl:=XH (decide (s<0)) s.natAbs e
def Xa (v:Vl):Vl:=if v.m=0 then v else { v with neg:= !v.neg }
def Jc (a b:Vl):Vl:=if a.m=0 then b else if b.m=0 then a else
 mkV (Zq a*2^(a.e-min a.e b.e).toNat+Zq b*2^(b.e-min a.e b.e).toNat) (min a.e b.e)
def Kb (v:Vl):Int:=if v.m=0 then 0 else if v.neg then -1 else 1
def VL (a b:Vl):Vl:=Jc a (Xa b)
def J7 (a b:Vl):Int:=Kb (VL a b)
theorem Yb (v:Vl):Kb v=sgn (Zq v):=by unfold Kb sgn Zq;by_cases h:v.m=0;rw[BC h];simp[h];cases hn:v.neg;simp[h];simp[h]
theorem H0b (s e:Int):Kb (mkV s e)=sgn s:=by
 unfold mkV XH Kb sgn;by_cases h:s=0;subst h;simp;have h1:s.natAbs≠0:=oG;rw[BA h1];have h2:s.natAbs/2^tz s.natAbs≠0:=by have:=Kp s.natAbs h1;omega
 simp only;rw[BA h2,BA h];by_cases hl:s<0;simp[hl];simp[hl]
theorem Hc (v:Vl):Zq (Xa v)= -Zq v:=by unfold Xa;by_cases h:v.m=0;rw[BC h];simp[Zq,h];rw[BA h];unfold Zq;cases v.neg<;>simp
theorem Iv (v:Vl):(Xa v).m=v.m:=by unfold Xa;split<;>rfl
theorem Iw (v:Vl):(Xa v).e=v.e:=by unfold Xa;split<;>rfl
theorem Hb {v:Vl}(h:v.m=0):Zq v=0:=by unfold Zq;simp[h]
theorem V1g (a b:Int):V2 a b=sgn (a-b):=by unfold V2 sgn;by_cases h1:a<b;rw[BC h1,BA oG,BC oG];by_cases h2:a>b;rw[BA h1,BC h2,BA oG,BA oG];rw[BA h1,BA h2,BC oG]
theorem q0p (a b:Vl):J7 a b=qS (Zq a) a.e (Zq b) b.e:=by unfold J7 VL Jc qS;rw[V1g,Iv,Iw];by_cases ha:a.m=0;rw[BC ha,Yb,Hc,Hb ha,Int.zero_mul,Int.zero_sub,<-DU,GM];rw[BA ha];by_cases hb:b.m=0;rw[BC hb,Yb,Hb hb,Int.zero_mul,Int.sub_zero,GM];rw[BA hb,H0b,Hc,DU];rfl
def ofN (x:Nm):Vl:=⟨x.neg,Qi x.w,x.exp⟩
theorem GX (a b:Nm):J7 (ofN a) (ofN b)=VP a b:=by rw[q0p];rfl
def Qg (x:Nm):Bool:=if x.w= [] then !x.neg&&x.exp==0 else decide ((XL x.w).length=x.w.length)&&decide (x.w.length<=64)&&decide ((x.w.getD 0 0).toNat % 2=1)&&decide (-65536<=x.exp)&&decide (x.exp<=65536)
def Uw (a b:Nm):Int:=if Qg a=true/\Qg b=true then VP a b else 0
def kf (x:Nm):Nm:=if Qg x=true then x else⟨false,0,[]⟩
theorem Q6 {x:Nm}(h:Qg x=true):sm x:=by unfold Qg at h;split at h;rename_i hw;simp at h;simp[sm,hw,h];simp at h;obtain⟨⟨⟨⟨_,h1⟩,_⟩,h2⟩,h3⟩:=h;exact⟨oG,oG,oG⟩
theorem GP {x:Nm}(h:Qg x=true):XL x.w=x.w:=by unfold Qg at h;split at h;rename_i hw;rw[hw];rfl;simp at h;have e:=h.1.1.1.1;have h2:x.w.getD (x.w.length-1) 0≠0:=(qP x.w (by assumption)).1 e;rw[Z0h x.w x.w.length (BD _) (fun j h1 h2=>oG) (.inr h2)];simp
def wN (x:Nm):Prop:=x.w.length<=100000000000
def wI (x:Ivl):Prop:=wN x.lo/\wN x.hi
def Qs (x:Ivl):Bool:=Qg x.lo&&Qg x.hi&&decide (VP x.lo x.hi<=0)
def ZP (a b:Nm):Nm:=if VP b a<0 then b else a
def Z4 (a b:Nm):Nm:=if VP b a>0 then b else a
def inI (a b:Ivl):Bool:=Qs a&&Qs b&&decide (0<=VP a.lo b.lo)&&decide (0<=VP b.hi a.hi)
def rightB (l:List Ivl):Bool:=l.all Qs&&decide (1<=l.length)&&decide (l.length<=4)
def Jr {α β:Type}(F:Nat->α->β×Int):Nat->List α->List β->List β×Int
 | _,[],acc=>(acc,0)
 | i,x::l,acc=>if (F i x).2≠0 then([],(F i x).2) else Jr F (i+1) l (acc++ [(F i x).1])
theorem Q1 {x:Ivl}(h:Qs x=true):Qg x.lo=true/\Qg x.hi=true/\VP x.lo x.hi<=0:=by unfold Qs at h;simp at h;exact⟨h.1.1,h.1.2,h.2⟩
theorem Y1 {x:Nm}(h:sm x):wN x:=by have:=h.1;unfold wN;omega
theorem x0f {P:Nm->Prop}{a b:Nm}(ha:P a)(hb:P b):P (ZP a b):=by unfold ZP;split<;>assumption
theorem Gn {P:Nm->Prop}{a b:Nm}(ha:P a)(hb:P b):P (Z4 a b):=by unfold Z4;split<;>assumption
def w0s {α:Type}[Inhabited α](f:α->α->Bool)(a b:List α):Bool:=decide (a.length=b.length)&&(List.range a.length).all fun i=>f (a.getD i default) (b.getD i default)
def inB (a b:List Ivl):Bool:=rightB a&&rightB b&&w0s inI a b
theorem cmpI_le {a b:Int} :V2 a b<=0<->a<=b:=by constructor;intro h;apply LA.1;intro hl;have:=Kf hl;omega;intro h;rcases Int.lt_or_eq_of_le h with h | h;rw[Ke h];decide;rw[Hu h];decide
theorem qR (a b:Nm):VP b a= -VP a b:=v0d
theorem WM (a:Nm):VP a a=0:=by unfold VP qS;exact Hu rfl
theorem Y0b (a b:Nm):VP (ZP a b) a<=0:=by unfold ZP;split;omega;rw[WM];decide
theorem Y0a (a b:Nm):VP (ZP a b) b<=0:=by unfold ZP;split;rw[WM];decide;have:=qR b a;omega
theorem Y0j (a b:Nm):VP a (Z4 a b)<=0:=by unfold Z4;split;have:=qR b a;omega;rw[WM];decide
theorem Y0i (a b:Nm):VP b (Z4 a b)<=0:=by unfold Z4;split;rw[WM];decide;omega
theorem Wr {x:Ivl}(h1:Qg x.lo=true)(h2:Qg x.hi=true)(h3:VP x.lo x.hi<=0):Qs x=true:=by unfold Qs;rw[h1,h2,q_h h3];rfl
theorem Ys {α β:Type}[Inhabited α](F:Nat->α->β×Int): ∀(l:List α) (i:Nat) (acc:List β),(∀j,j<l.length->(F (i+j) (l.getD j default)).2=0)->
 Jr F i l acc=(acc++(List.range l.length).map (fun j=>(F (i+j) (l.getD j default)).1),0)
 | [],i,acc,_=>by simp[Jr]
 | x::l,i,acc,h=>by have h0:=h 0 (by simp);simp only[B1,LD] at h0;rw[Jr,BA (fun e=>e h0),Ys F l (i+1) _ (fun j hj=>by have:=h (j+1) (by simp;omega);rw[List.getD_cons_succ,<-DK,Nat.add_right_comm] at this;exact this)];rw[C1,List.range_succ_eq_map,DX,DZ,BP];simp only[B1,LD,FP,CZ,and_true];congr 2;apply C4;intro j _;simp only[Function.comp,List.getD_cons_succ];rw[show i+1+j=i+j.succ from oG]
theorem Ye {l:List Ivl}(h:rightB l=true): ∀i,i<l.length->Qs (l.getD i default)=true:=by unfold rightB at h;simp only[q_i,q_d] at h;intro i hi;refine h.1.1 _ ?_;rw[q_a,BB hi];exact ED hi
theorem Xj {l:List Ivl}(h: ∀i,i<l.length->Qs (l.getD i default)=true)(h1:1<=l.length)(h2:l.length<=4):rightB l=true:=by unfold rightB;rw[q_h h1,q_h h2,List.all_eq_true.2];rfl;intro x hx;obtain⟨i,hi,rfl⟩:=CM.1 hx;have:=h i hi;rwa [q_a,BB hi] at this
theorem Jk {l:List Ivl}(h:rightB l=true):1<=l.length/\l.length<=4:=by unfold rightB at h;simp at h;omega
def wB (l:List Ivl):Prop:=l.length<=100000000000/\ ∀i,i<l.length->wI (l.getD i default)
def v1c (s:Sg):Bool:=decide (1<=s.fr)&&decide (s.fr<=s.to)&&decide (s.to<=4096)&&Qg s.t0&&Qg s.t1&& !s.t0.neg&&decide (Uw s.t0 s.t1<0)&&rightB s.box
def x1p (a b:Sg):Bool:=decide (b.fr=IntKind.i64.wrap (a.to+1))&&decide (Uw a.t1 b.t0=0)&&decide (a.box.length=b.box.length)
def rowAt (l:List Sg)(i:Nat):Bool:=v1c (l.getD i default)&&(decide (i=0)||x1p (l.getD (i-1) default) (l.getD i default))
theorem QJ {x:Nm}(h:Qg x=true):Qi x.w=0<->x.w= []:=by constructor;intro hv;rw[<-GP h,<-Q3,hv,Zy];intro hw;rw[hw];rfl
theorem k1l :wB []:=⟨by simp,fun i hi=>by simp at hi⟩
theorem v0b {a b:Nm}(ha:Qg a=true)(hb:Qg b=true):Uw a b=VP a b:=BC ⟨ha,hb⟩
theorem V1x {α:Type}[Inhabited α]{f:α->α->Bool}{a b:List α} :w0s f a b=true<->a.length=b.length/\ ∀i,i<a.length->f (a.getD i default) (b.getD i default)=true:=by unfold w0s;simp only[q_i,BN,q_d,E0]
theorem inB_iff {a b:List Ivl} :inB a b=true<->rightB a=true/\rightB b=true/\a.length=b.length/\ ∀i,i<a.length->inI (a.getD i default) (b.getD i default)=true:=by unfold inB;simp only[q_i,V1x];constructor;rintro⟨⟨h1,h2⟩,h3,h4⟩;exact⟨h1,h2,h3,h4⟩;rintro⟨h1,h2,h3,h4⟩;exact⟨⟨h1,h2⟩,h3,h4⟩
end Go.Pv
end
