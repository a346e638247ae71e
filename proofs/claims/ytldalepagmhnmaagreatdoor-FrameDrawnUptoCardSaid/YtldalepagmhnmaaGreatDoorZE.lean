/- Parts of the walk: PvX, PvY, M3, M4, M5, M6, M7, M8, M9, M13, M14, M15. -/
import Derived.Test.YtldalepagmhnmaaGreatDoorZD
set_option linter.unusedVariables false
set_option linter.unusedSimpArgs false
section
namespace Go.Pv
open Go.Proofs
attribute [go_sem] Int.reduceBNe Int.reduceBEq
theorem Z0b :Tryz.prog.follows .mixedOrders=true:=by kernel_rfl
def encW (l:List UInt64):List PV:=l.map fun c=>(.sc (.int .u64 c.toNat))
@[go_sem] theorem Z0z (l:List UInt64):(encW l).length=l.length:=by simp[encW]
@[go_sem] theorem K3i :encW []= []:=(rfl)
@[go_sem] theorem K4n (l:List UInt64):(encW l).all (fun x=>x.cells.length==1)=true:=by simp[encW,PV.cells]
@[go_sem] theorem K4o (l:List UInt64):(encW l).all (fun x=>(x.cells.length==1)&&x.cells.all PV.cellOK)=true:=by simp[encW,PV.cells,PV.cellOK,Value.oneCell']
@[go_sem] theorem w3g (l:List UInt64)(n:Nat):(encW l).take n=encW (l.take n):=by simp[encW]
@[go_sem] theorem w3h (l:List UInt64)(n:Nat):(encW l).drop n=encW (l.drop n):=by simp[encW]
@[go_sem] theorem j2t (l:List UInt64)(c:UInt64):encW l++ [.sc (.int .u64 c.toNat)]=encW (l++ [c]):=by simp[encW]
theorem Z0m (l:List UInt64)(n:Nat)(h:n<l.length):(encW l).getD n .junk= .sc (.int .u64 (l.getD n 0).toNat):=by simp[encW,q_a,h]
@[go_sem] theorem Q4y (l:List UInt64)(i:Nat)(cs:List PV):(encW l).map (PV.frz i cs)=encW l:=by simp only[encW,List.map_map];exact List.map_congr_left fun a _=>rfl
theorem V0u (l:List UInt64)(n:Nat)(c:UInt64)(h:n<l.length):over (encW l) n [.sc (.int .u64 c.toNat)]=encW (l.set n c):=by unfold over encW;rw[List.set_eq_take_append_cons_drop,if_pos h];simp
@[go_sem] theorem Q4x (l:List UInt64)(a b:Nat):(encW l).all (PV.lim a b)=true:=by simp[encW,PV.lim,PV.lim1]
@[go_sem] theorem K4p (l:List UInt64):fzOK (encW l)=true:=by simp[encW,fzOK,PV.closed2,PV.closed1]
@[go_sem] theorem z3d (l:List UInt64):(encW l).map PV.forget2=encW l:=by simp only[encW,List.map_map];exact List.map_congr_left fun a _=>rfl
@[go_sem] theorem Q4w (n:Nat):List.replicate n (PV.sc (.int .u64 0))=encW (List.replicate n 0):=by simp[encW]
def encD (l:List UInt32):List PV:=l.map fun c=>(.sc (.int .u32 c.toNat))
@[go_sem] theorem z3f (l:List UInt32):(encD l).length=l.length:=by simp[encD]
@[go_sem] theorem z1d :encD []= []:=(rfl)
@[go_sem] theorem K4x (l:List UInt32):(encD l).all (fun x=>x.cells.length==1)=true:=by simp[encD,PV.cells]
@[go_sem] theorem w3n (l:List UInt32)(n:Nat):(encD l).take n=encD (l.take n):=by simp[encD]
@[go_sem] theorem w3p (l:List UInt32)(n:Nat):(encD l).drop n=encD (l.drop n):=by simp[encD]
@[go_sem] theorem w3o (l:List UInt32)(c:UInt32):encD l++ [.sc (.int .u32 c.toNat)]=encD (l++ [c]):=by simp[encD]
theorem J0o (l:List UInt32)(n:Nat)(h:n<l.length):(encD l).getD n .junk= .sc (.int .u32 (l.getD n 0).toNat):=by simp[encD,q_a,h]
@[go_sem] theorem Z4f (l:List UInt32)(i:Nat)(cs:List PV):(encD l).map (PV.frz i cs)=encD l:=by simp only[encD,List.map_map];exact List.map_congr_left fun a _=>rfl
theorem j0w (l:List UInt32)(n:Nat)(c:UInt32)(h:n<l.length):over (encD l) n [.sc (.int .u32 c.toNat)]=encD (l.set n c):=by unfold over encD;rw[List.set_eq_take_append_cons_drop,if_pos h];simp
@[go_sem] theorem Z4e (l:List UInt32)(a b:Nat):(encD l).all (PV.lim a b)=true:=by simp[encD,PV.lim,PV.lim1]
@[go_sem] theorem K4y (l:List UInt32):fzOK (encD l)=true:=by simp[encD,fzOK,PV.closed2,PV.closed1]
@[go_sem] theorem z3g (l:List UInt32):(encD l).map PV.forget2=encD l:=by simp only[encD,List.map_map];exact List.map_congr_left fun a _=>rfl
@[go_sem] theorem Z4d (n:Nat):List.replicate n (PV.sc (.int .u32 0))=encD (List.replicate n 0):=by simp[encD]
def encZ (l:List Int):List PV:=l.map fun c=>(.sc (.int .i64 c))
attribute [go_sem] K3j j2x
structure Nm where
 neg:Bool
 exp:Int
 w:List UInt64
 deriving DecidableEq
instance : Inhabited Nm:=⟨⟨false,0,[]⟩⟩
def encN (x:Nm):List PV:= [.sc (.bool x.neg),.sc (.int .i64 x.exp),.sl .no (encW x.w)]
attribute [go_sem] encN
structure Ivl where
 lo:Nm
 hi:Nm
 deriving DecidableEq
instance : Inhabited Ivl:=⟨⟨default,default⟩⟩
def encI (x:Ivl):List PV:= [.sc (.bool x.lo.neg),.sc (.int .i64 x.lo.exp),.sl .no (encW x.lo.w),.sc (.bool x.hi.neg),.sc (.int .i64 x.hi.exp),.sl .no (encW x.hi.w)]
attribute [go_sem] encI
def Q0u (l:List Nm):List PV:=l.map fun c=>(.agg (encN c))
@[go_sem] theorem Q0v (l:List Nm):(Q0u l).length=l.length:=by simp[Q0u]
@[go_sem] theorem w3j :Q0u []= []:=(rfl)
@[go_sem] theorem Z4a (l:List Nm):(Q0u l).all (fun x=>x.cells.length==3)=true:=by simp[Q0u,PV.cells,encN]
@[go_sem] theorem X1j (l:List Nm)(c:Nm):Q0u l++ [.agg (encN c)]=Q0u (l++ [c]):=by simp[Q0u]
theorem Z0k (l:List Nm)(n:Nat)(h:n<l.length):(Q0u l).getD n .junk= .agg (encN (l.getD n default)):=by simp[Q0u,q_a,h]
def Q0z (l:List Ivl):List PV:=l.map fun c=>(.agg (encI c))
@[go_sem] theorem j0v (l:List Ivl):(Q0z l).length=l.length:=by simp[Q0z]
@[go_sem] theorem w3m :Q0z []= []:=(rfl)
@[go_sem] theorem Z4c (l:List Ivl):(Q0z l).all (fun x=>x.cells.length==6)=true:=by simp[Q0z,PV.cells,encI]
@[go_sem] theorem j3f (l:List Ivl)(n:Nat):(Q0z l).take n=Q0z (l.take n):=by simp[Q0z]
@[go_sem] theorem j3g (l:List Ivl)(n:Nat):(Q0z l).drop n=Q0z (l.drop n):=by simp[Q0z]
theorem Z0q (l:List Ivl)(n:Nat)(h:n<l.length):(Q0z l).getD n .junk= .agg (encI (l.getD n default)):=by simp[Q0z,q_a,h]
structure Sg where
 fr:Int
 to:Int
 t0:Nm
 t1:Nm
 box:List Ivl
 deriving DecidableEq
instance : Inhabited Sg:=⟨⟨0,0,default,default,[]⟩⟩
def encS (x:Sg):List PV:= [.sc (.int .i64 x.fr),.sc (.int .i64 x.to),.sc (.bool x.t0.neg),.sc (.int .i64 x.t0.exp),.sl .no (encW x.t0.w),.sc (.bool x.t1.neg),.sc (.int .i64 x.t1.exp),.sl .no (encW x.t1.w),.sl .no (Q0z x.box)]
attribute [go_sem] encS
def PFS.claim (t sz:Nat)(s:PFS):PFS:=
 match s.pa.getD t .junk with
 | .sl .full []=>⟨s.pa.set t (.sl (.own s.T.length) []),s.L,s.T++ [(0,sz)],s.st⟩
 | _=>s
theorem V2r {E:Ent}{s:PFS}(t sz:Nat):Weak E s (s.claim t sz):=by
 intro a w g F h;unfold PFS.claim;split;rename_i he;obtain⟨es,hes⟩: ∃es:List PV,es= []:=⟨_,rfl⟩;rw[<-hes] at he⊢;have hv:=h.len_eq t;rw[he] at hv;have hbase: ∀v,RepF w g F s.T v (.sl .full es)->Rep w g v (.sl .full es):=fun v hv=>by cases hv with | base _ _ h=>exact h
 have hv:=hbase _ hv;have hri: ∀v,Rep w g v (.sl .full es)->Right w g none sz v es:=fun v hv=>by
  cases hv with
  | nil t ad ht=>exact⟨.inr ⟨_,rfl⟩,rfl⟩
  | sl t es b off sz cap cf ht hf hcap hsz hvis hc hr=>exact⟨.inr ⟨_,by rw[hf rfl]⟩,by rw[hes];rfl⟩
 rw[show(0:Nat)=es.length from by rw[hes];rfl];obtain⟨F',m1,m2,m3,m4,m5⟩:=h.mint es.length sz none (fun b hb=>by cases hb);have hlast:(s.T++ [(es.length,sz)]).getD s.T.length (0,0)=(es.length,sz):=(by simp[q_a]);have hown:RepF w g F' (s.T++ [(es.length,sz)]) (a.tmps.getD t undef) (.sl (.own s.T.length) es):=by refine .own _ _ _ hv.toNo (by simp) (by rw[hlast];exact Nat.le_refl _) fun _=> ?_;rw[hlast,m2];exact hri _ hv
 refine⟨g,F',m1.ext,m1.store,m1.frame,m1.defers,by rw[List.length_set];exact m1.len,fun j hj=> ?_⟩;simp only[List.length_set] at hj;by_cases e:t=j;subst e;rw[Q0s _ _ _ _ hj];exact hown;rw[Q0l _ _ _ _ _ e];exact m1.tmps j hj;exact⟨g,F,h⟩
theorem Z0d {P:Program}{E:Ent}{c:Code}{Q:Exit->PFS->Prop}{s:PFS}(t sz:Nat)(h:PWP P E c Q (s.claim t sz)):PWP P E c Q s:=K0l (V2r t sz) h
def clm (p:PV)(t sz:Nat)(pa:List PV)(L:Q0f)(T:List (Nat×Nat))(st:Q0f):PFS:=
 match p with
 | .sl .full []=>⟨pa.set t (.sl (.own T.length) []),L,T++ [(0,sz)],st⟩
 | _=>⟨pa,L,T,st⟩
@[go_sem] theorem Z4j {t sz:Nat}{pa:List PV}{L st:Q0f}{T:List (Nat×Nat)} :(PFS.mk pa L T st).claim t sz=clm (pa.getD t .junk) t sz pa L T st:=by unfold PFS.claim clm;rfl
@[go_sem] theorem Z4i {t sz:Nat}{pa:List PV}{L st:Q0f}{T:List (Nat×Nat)} :clm (.sl .full []) t sz pa L T st=⟨pa.set t (.sl (.own T.length) []),L,T++ [(0,sz)],st⟩:=(rfl)
def noL :List Bool->List PV->List PV
 | b::bs,p::ps=>(if b&&p.closed2 then p.forget2 else p)::noL bs ps
 | [],ps=>ps
 | _,[]=> []
theorem Z1u : ∀(bs:List Bool) (ps:List PV),(noL bs ps).length=ps.length
 | [],[]=>rfl
 | [],p::ps=>rfl
 | b::bs,[]=>rfl
 | b::bs,p::ps=>by simp[noL,Z1u bs ps]
theorem J2u : ∀(bs:List Bool) (ps:List PV) (j:Nat),(noL bs ps).getD j .junk=ps.getD j .junk\/((ps.getD j .junk).closed2=true/\(noL bs ps).getD j .junk=(ps.getD j .junk).forget2)
 | [],ps,j=> .inl rfl
 | b::bs,[],j=> .inl rfl
 | b::bs,p::ps,j=>by
  cases j with
  | zero=>
   simp only[noL,List.getD_cons_zero];by_cases h:(b&&p.closed2)=true;rw[if_pos h];simp at h;exact .inr ⟨h.2,rfl⟩;rw[if_neg h];exact .inl rfl
  | succ j=>simpa[noL] using J2u bs ps j
def PFS.plain (bs:List Bool)(s:PFS):PFS:=⟨noL bs s.pa,s.L,s.T,s.st⟩
theorem V2p {E:Ent}{s:PFS}(bs:List Bool):Weak E s (s.plain bs):=by intro a w g F h;refine⟨g,F,h.ext,h.store,h.frame,h.defers,by simp only[PFS.plain,Z1u];exact h.len,fun j hj=> ?_⟩;simp only[PFS.plain,Z1u] at hj⊢;rcases J2u bs s.pa j with e | ⟨e1,e2⟩;rw[e];exact h.tmps j hj;rw[e2];exact .base _ _ ((h.tmps j hj).forget2 e1)
theorem K0w {P:Program}{E:Ent}{c:Code}{Q:Exit->PFS->Prop}{s:PFS}(bs:List Bool)(h:PWP P E c Q (s.plain bs)):PWP P E c Q s:=K0l (V2p bs) h
@[go_sem] theorem Q4k {bs:List Bool}{pa:List PV}{L st:Q0f}{T:List (Nat×Nat)} :(PFS.mk pa L T st).plain bs=⟨noL bs pa,L,T,st⟩:=(rfl)
@[go_sem] theorem J4p {ps:List PV} :noL [] ps=ps:=(rfl)
@[go_sem] theorem Y4y {bs ps:List PV}{b:List Bool}{p:PV} :noL (false::b) (p::ps)=p::noL b ps:=(rfl)
@[go_sem] theorem Y4a {ps es:List PV}{b:List Bool} :noL (true::b) (.sl .no es::ps)= .sl .no es::noL b ps:=(rfl)
@[go_sem] theorem Q4m {ps es:List PV}{b:List Bool} :noL (true::b) (.sl .full es::ps)= .sl .no es::noL b ps:=(rfl)
@[go_sem] theorem J4o {k:Nat}{ps es:List PV}{b:List Bool} :noL (true::b) (.sl (.own k) es::ps)= .sl .no es::noL b ps:=(rfl)
@[go_sem] theorem J4q {ps cs:List PV}{b:List Bool} :noL (true::b) (.agg cs::ps)=(if cs.all PV.closed1=true then .agg (cs.map PV.forget1) else .agg cs)::noL b ps:=by simp only[noL,PV.closed2,PV.forget2,Bool.true_and]
def PFS.plainBox (i:Nat)(s:PFS):PFS:=if (s.L.getD i []).all PV.closed2=true/\i<s.L.length then⟨s.pa,s.L.set i ((s.L.getD i []).map PV.forget2),s.T,s.st⟩ else s
theorem H1g {E:Ent}{s:PFS}(i:Nat):Weak E s (s.plainBox i):=by
 intro a w g F h;unfold PFS.plainBox;split;rename_i hc;have hne: ∀k,(s.L.set i ((s.L.getD i []).map PV.forget2)).getD k []≠ []->s.L.getD k []≠ []:=fun k hk=>by by_cases e:i=k;subst e;rw[Q0s _ _ _ _ hc.2] at hk;intro e2;rw[e2] at hk;exact hk rfl;rwa [Q0l _ _ _ _ _ e] at hk
 refine⟨g,F,h.ext,h.store,⟨by simpa using h.frame.nl,fun k hk=>h.frame.lo k (hne k hk),fun k hk=>h.frame.apart k (hne k hk),fun k j hk hj=>h.frame.inj k j (hne k hk) (hne j hj),fun k hk=> ?_,h.frame.tlo,fun k b h1 h2=>⟨(h.frame.tapart k b h1 h2).1,fun j hj=>(h.frame.tapart k b h1 h2).2 j (hne j hj)⟩,h.frame.tinj⟩,h.defers,h.len,h.tmps⟩;have hh:=h.frame.holds k (hne k hk);by_cases e:i=k;subst e;rw[Q0s _ _ _ _ hc.2];intro j hj;have hj':j<(s.L.getD i []).length:=(by simpa using hj);obtain⟨q1,c,q2,q3⟩:=hh j hj';refine⟨q1,c,q2,?_⟩;rw[J0n _ _ _ _ .junk hj'];exact .base _ _ (q3.forget2 (List.all_eq_true.1 hc.1 _ (Q0r _ _ _ hj')));rw[Q0l _ _ _ _ _ e];exact hh;exact⟨g,F,h⟩
theorem J0q {P:Program}{E:Ent}{c:Code}{Q:Exit->PFS->Prop}{s:PFS}(i:Nat)(h:PWP P E c Q (s.plainBox i)):PWP P E c Q s:=K0l (H1g i) h
@[go_sem] theorem H3c {i:Nat}{pa:List PV}{L st:Q0f}{T:List (Nat×Nat)} :(PFS.mk pa L T st).plainBox i=if (L.getD i []).all PV.closed2=true/\i<L.length then⟨pa,L.set i ((L.getD i []).map PV.forget2),T,st⟩ else⟨pa,L,T,st⟩:=(rfl)
theorem PCalls.plain {P:Program}{f:FuncId}{args es:List PV}{st:Q0f}{sz:Nat}(h:PCalls P f args st (fun r st'=>r= .sl (.fresh sz) es/\st'=st)):PCalls P f args st (fun r st'=>r= .sl .no es/\st'=st):=
 fun w g vs hs hr=>(h w g vs hs hr).mono fun _ _ ⟨v,g',r,st',he,hx,ho,hv,q⟩=>by obtain⟨rfl,rfl⟩:=q;exact⟨v,g',.sl .no es,_,he,hx,ho,hv.1,rfl,rfl⟩
theorem X0k (n:Nat):IntKind.u64.wrap (n:Int)=((n % 18446744073709551616:Nat):Int):=by simp[IntKind.wrap,IntKind.bits,IntKind.signed]
theorem K0m (n:Nat):IntKind.u32.wrap (n:Int)=((n % 4294967296:Nat):Int):=by simp[IntKind.wrap,IntKind.bits,IntKind.signed]
theorem Q0n (n:Nat)(h:n<9223372036854775808):IntKind.i64.wrap (n:Int)=(n:Int):=Q0q _ oG oG
theorem Y1l (a b:Nat)(ha:a<18446744073709551616)(hb:b<18446744073709551616):bOr .u64 (a:Int) (b:Int)=((a|||b:Nat):Int):=by
 unfold bOr;have e:(BitVec.ofInt IntKind.u64.bits (a:Int)|||BitVec.ofInt IntKind.u64.bits (b:Int)).toNat=a|||b:=by
  have e1:BitVec.ofInt IntKind.u64.bits (a:Int)=BitVec.ofNat 64 a:=(by simp[IntKind.bits]);have e2:BitVec.ofInt IntKind.u64.bits (b:Int)=BitVec.ofNat 64 b:=(by simp[IntKind.bits]);rw[e1,e2];show(BitVec.ofNat 64 a|||BitVec.ofNat 64 b).toNat=a|||b
  rw[BitVec.toNat_or,BitVec.toNat_ofNat,BitVec.toNat_ofNat,Nat.mod_eq_of_lt (by omega:a<2^64),Nat.mod_eq_of_lt (by omega:b<2^64)]
 rw[e];exact K0k _ (Nat.or_lt_two_pow (n:=64) ha hb)
theorem Q1v (a b:Nat)(ha:a<18446744073709551616)(hb:b<18446744073709551616):bAnd .u64 (a:Int) (b:Int)=((a&&&b:Nat):Int):=by
 unfold bAnd;have e:(BitVec.ofInt IntKind.u64.bits (a:Int)&&&BitVec.ofInt IntKind.u64.bits (b:Int)).toNat=a&&&b:=by have e1:BitVec.ofInt IntKind.u64.bits (a:Int)=BitVec.ofNat 64 a:=(by simp[IntKind.bits]);have e2:BitVec.ofInt IntKind.u64.bits (b:Int)=BitVec.ofNat 64 b:=(by simp[IntKind.bits]);rw[e1,e2];show(BitVec.ofNat 64 a&&&BitVec.ofNat 64 b).toNat=a&&&b;rw[BitVec.toNat_and,BitVec.toNat_ofNat,BitVec.toNat_ofNat,Nat.mod_eq_of_lt (by omega:a<2^64),Nat.mod_eq_of_lt (by omega:b<2^64)]
 rw[e];exact K0k _ (Nat.lt_of_le_of_lt Nat.and_le_left ha)
theorem v2o (a b:Nat)(ha:a<4294967296)(hb:b<4294967296):bOr .u32 (a:Int) (b:Int)=((a|||b:Nat):Int):=by
 unfold bOr;have e:(BitVec.ofInt IntKind.u32.bits (a:Int)|||BitVec.ofInt IntKind.u32.bits (b:Int)).toNat=a|||b:=by
  have e1:BitVec.ofInt IntKind.u32.bits (a:Int)=BitVec.ofNat 32 a:=(by simp[IntKind.bits]);have e2:BitVec.ofInt IntKind.u32.bits (b:Int)=BitVec.ofNat 32 b:=(by simp[IntKind.bits]);rw[e1,e2];show(BitVec.ofNat 32 a|||BitVec.ofNat 32 b).toNat=a|||b
  rw[BitVec.toNat_or,BitVec.toNat_ofNat,BitVec.toNat_ofNat,Nat.mod_eq_of_lt (by omega:a<2^32),Nat.mod_eq_of_lt (by omega:b<2^32)]
 rw[e,K0m,Nat.mod_eq_of_lt (Nat.or_lt_two_pow (n:=32) ha hb)]
theorem z1z (a b:Nat)(ha:a<4294967296)(hb:b<4294967296):bAnd .u32 (a:Int) (b:Int)=((a&&&b:Nat):Int):=by
 unfold bAnd;have e:(BitVec.ofInt IntKind.u32.bits (a:Int)&&&BitVec.ofInt IntKind.u32.bits (b:Int)).toNat=a&&&b:=by have e1:BitVec.ofInt IntKind.u32.bits (a:Int)=BitVec.ofNat 32 a:=(by simp[IntKind.bits]);have e2:BitVec.ofInt IntKind.u32.bits (b:Int)=BitVec.ofNat 32 b:=(by simp[IntKind.bits]);rw[e1,e2];show(BitVec.ofNat 32 a&&&BitVec.ofNat 32 b).toNat=a&&&b;rw[BitVec.toNat_and,BitVec.toNat_ofNat,BitVec.toNat_ofNat,Nat.mod_eq_of_lt (by omega:a<2^32),Nat.mod_eq_of_lt (by omega:b<2^32)]
 rw[e,K0m,Nat.mod_eq_of_lt (Nat.lt_of_le_of_lt Nat.and_le_left ha)]
theorem V2e (k:IntKind)(v c:Nat)(h:c<=k.bits):bShl k (v:Int) (c:Int)=k.wrap ((v*2^c:Nat):Int):=by unfold bShl;rw[Int.toNat_natCast,Nat.min_eq_left h];congr 1
theorem q0i (v c:Nat)(h:c<=64):bShl .u64 (v:Int) (c:Int)=((v*2^c % 18446744073709551616:Nat):Int):=by rw[V2e .u64 v c h,X0k]
theorem V2d (v c:Nat)(h:c<=32):bShl .u32 (v:Int) (c:Int)=((v*2^c % 4294967296:Nat):Int):=by rw[V2e .u32 v c h,K0m]
theorem W0s (v c:Nat)(h:c<=64):bShr .u64 (v:Int) (c:Int)=((v/2^c:Nat):Int):=Q1u .u64 v c h
theorem z1y (v c:Nat)(h:c<=32):bShr .u32 (v:Int) (c:Int)=((v/2^c:Nat):Int):=Q1u .u32 v c h
theorem V1n (x y c:Nat)(hx:x<2^c)(hy:y % 2^c=0):x|||y=x+y:=by
 have e:y=2^c*(y/2^c):=by have:=Nat.div_add_mod y (2^c);omega
 rw[Nat.or_comm,e,<-Nat.two_pow_add_eq_or_of_lt hx,Nat.add_comm]
theorem v0z (w c:Nat)(h:c<=64):w*2^c % 18446744073709551616 % 2^c=0:=by have e:(18446744073709551616:Nat)=2^c*2^(64-c):=(by rw[<-Nat.pow_add,show c+(64-c)=64 from oG]);rw[e,Nat.mod_mul_right_mod,Nat.mul_mod_left]
theorem x1v (w c:Nat)(hw:w<18446744073709551616)(h:c<=64):w*2^c=w*2^c % 18446744073709551616+18446744073709551616*(w/2^(64-c)):=by have e:(18446744073709551616:Nat)=2^(64-c)*2^c:=(by rw[<-Nat.pow_add,show 64-c+c=64 from oG]);have d:w*2^c/18446744073709551616=w/2^(64-c):=(by rw[e,Nat.mul_div_mul_right _ _ (Nat.pow_pos (by decide))]);rw[<-d];exact(Nat.mod_add_div _ _).symm
theorem W3m (w c:Nat)(hw:w<18446744073709551616)(h:c<=64):w/2^(64-c)<2^c:=by rw[Nat.div_lt_iff_lt_mul (Nat.pow_pos (by decide)),<-Nat.pow_add,show c+(64-c)=64 from oG];exact hw
theorem H0t (n m:Nat):(n:Int).tdiv (m:Int)=((n/m:Nat):Int):=(Int.ofNat_tdiv n m).symm
theorem H0s (n m:Nat):(n:Int).tmod (m:Int)=((n % m:Nat):Int):=(Int.ofNat_tmod n m).symm
theorem y0p (k:Nat):18446744073709551616^k=2^(64*k):=by rw[show(18446744073709551616:Nat)=2^64 from rfl,<-Nat.pow_mul]
theorem J1g (k:Nat):4294967296^k=2^(32*k):=by rw[show(4294967296:Nat)=2^32 from rfl,<-Nat.pow_mul]
theorem Z0s (n:Nat)(h:n<18446744073709551616):(UInt64.ofNat n).toNat=n:=by rw[UInt64.toNat_ofNat'];omega
theorem J0f (n:Nat)(h:n<4294967296):(UInt32.ofNat n).toNat=n:=by rw[UInt32.toNat_ofNat'];omega
theorem w1n {m n:Nat}(h:Q0i m<Q0i n):m<n:=by apply Nat.lt_of_not_le;intro hle;have:Q0i n<=Q0i m:=bitlen_le_iff.2 (Nat.lt_of_le_of_lt hle (Z0h m));omega
def X0o (l:List UInt64):Nat:=Q0i (valW l)
theorem v2i (l:List UInt64):X0o (cutW l)=X0o l:=by simp only[X0o,J0z]
theorem v1x (l:List UInt64):cutW l= []<->valW l=0:=by rw[<-Z0a,wordsOf_nil]
theorem v2h (l:List UInt64)(h:cutW l≠ []):X0o l=64*((cutW l).length-1)+Q0i ((cutW l).getD ((cutW l).length-1) 0).toNat:=by
 have hl:=k2l l h;rw[<-v2i];generalize cutW l=c at*
 have hp:0<c.length:=List.length_pos_iff.2 h;have e:valW c=valW (c.take (c.length-1))+18446744073709551616^(c.length-1)*(c.getD (c.length-1) 0).toNat:=(by rw[<-X0e c (c.length-1) oG,show c.length-1+1=c.length from oG,List.take_length]);have hb:=X0u (c.take (c.length-1));rw[List.length_take,Nat.min_eq_left oG] at hb;rw[X0o,e];rw[y0p] at hb⊢;exact H1c _ _ _ hb (fun h0=>hl ((J1m _).2 h0))
theorem W0r (l:List UInt64):X0o l<=64*l.length:=by rw[X0o,bitlen_le_iff,<-y0p];exact X0u l
def mant (x:Nm):Int:=if x.neg then -(valW x.w:Int) else(valW x.w:Int)
def cmpE (m:Int)(e:Int)(n:Int)(f:Int):Int:=cmpI (m*2^(e-min e f).toNat) (n*2^(f-min e f).toNat)
def cmpN (a b:Nm):Int:=cmpE (mant a) a.exp (mant b) b.exp
def sgn (m:Int):Int:=if m=0 then 0 else if m<0 then -1 else 1
theorem two_pow_pos (n:Nat):(0:Int)<2^n:=Int.pow_pos (by decide)
theorem Z1i (m:Int)(n:Nat):sgn (m*2^n)=sgn m:=by have h:=two_pow_pos n;unfold sgn;by_cases h0:m=0;simp[h0];have h1:m*2^n≠0:=Int.mul_ne_zero h0 oG;rw[if_neg h0,if_neg h1];by_cases hl:m<0;rw[if_pos hl,if_pos (Int.mul_neg_of_neg_of_pos hl h)];rw[if_neg hl,if_neg];have:0<m*2^n:=Int.mul_pos oG h;omega
theorem Z2l {m n:Int}(h:sgn m≠sgn n):cmpI m n=cmpI (sgn m) (sgn n):=by
 unfold sgn at*
 unfold cmpI
 repeat' split at h
 all_goals repeat' split
 all_goals first | omega | rfl | (exfalso;omega)
theorem Z2m {m e n f:Int}(h:sgn m≠sgn n):cmpE m e n f=cmpI (sgn m) (sgn n):=by unfold cmpE;rw[Z2l (by rw[Z1i,Z1i];exact h),Z1i,Z1i]
theorem k2s {e f:Int} :cmpE 0 e 0 f=0:=by unfold cmpE;simp[X1n]
theorem K3z {m e n f:Int} :cmpE (-m) e (-n) f= -cmpE m e n f:=by unfold cmpE;rw[Int.neg_mul,Int.neg_mul,w1e]
theorem k2t {m e n f:Int} :cmpE n f m e= -cmpE m e n f:=by unfold cmpE;rw[Int.min_comm f e,w1d]
theorem z1l (m n:Nat)(e f:Int):cmpE m e n f=cmpW (m*2^(e-min e f).toNat) (n*2^(f-min e f).toNat):=by unfold cmpE cmpW;rw[Int.natCast_mul,Int.natCast_mul,Int.natCast_pow,Int.natCast_pow];rfl
theorem k2u {m n:Nat}{e f:Int}(hm:m≠0)(hn:n≠0)(h:(Q0i m:Int)+e≠(Q0i n:Int)+f):cmpE m e n f=cmpI ((Q0i m:Int)+e) ((Q0i n:Int)+f):=by rw[z1l,cmpW];have h1:=U0p m (e-min e f).toNat hm;have h2:=U0p n (f-min e f).toNat hn;by_cases hl:(Q0i m:Int)+e<(Q0i n:Int)+f;rw[G0e hl,G0e];exact Int.ofNat_lt.2 (w1n (by rw[h1,h2];omega));have hlt:n*2^(f-min e f).toNat<m*2^(e-min e f).toNat:=w1n (by rw[h1,h2];omega);have hlt':=Int.ofNat_lt.2 hlt;rw[G0f (a:=(Q0i m:Int)+e) oG,G0f hlt']
theorem z3y {m n:Nat}{e f:Int}(h:f<e):cmpE m e n f=cmpW (m*2^(e-f).toNat) n:=by rw[z1l,Int.min_eq_right oG];simp
theorem z3x {m n:Nat}{e f:Int}(h:e<=f):cmpE m e n f=cmpW m (n*2^(f-e).toNat):=by rw[z1l,Int.min_eq_left h];simp
def sm (x:Nm):Prop:=x.w.length<=1000000/\ -1000000000<=x.exp/\x.exp<=1000000000
theorem mant_zero {x:Nm} :mant x=0<->valW x.w=0:=by unfold mant;split<;>omega
def sgnN (x:Nm):Int:=if valW x.w=0 then 0 else if x.neg then -1 else 1
theorem Z1j (x:Nm):sgnN x=sgn (mant x):=by unfold sgnN sgn mant;by_cases h:valW x.w=0;rw[if_pos h];simp[h];cases hn:x.neg;simp[h];simp[h]
theorem z3w (a b:Nm):cmpN a b=if sgnN a≠sgnN b\/sgnN a=0 then cmpI (sgnN a) (sgnN b) else sgnN a*cmpE (valW a.w) a.exp (valW b.w) b.exp:=by
 by_cases h:sgnN a≠sgnN b;rw[if_pos (.inl h),cmpN,Z1j,Z1j];rw[Z1j,Z1j] at h;exact Z2m h;have h':sgnN a=sgnN b:=Decidable.not_not.1 h;by_cases h0:sgnN a=0;rw[if_pos (.inr h0),h0,<-h',h0];have z: ∀x,sgnN x=0->mant x=0:=fun x hx=>by unfold sgnN at hx;by_cases hv:valW x.w=0;exact mant_zero.2 hv;rw[if_neg hv] at hx;split at hx<;>cases hx
 rw[cmpN,z a h0,z b (h'▸h0),k2s];rfl;rw[if_neg (by simp[h',h0];rw[<-h'];exact h0)];unfold sgnN at h' h0;unfold sgnN cmpN mant;by_cases ha:valW a.w=0;rw[if_pos ha] at h0;exact absurd rfl h0;by_cases hb:valW b.w=0;rw[if_pos hb] at h';exact absurd h' h0;rw[if_neg ha,if_neg hb] at h';cases hna:a.neg<;>cases hnb:b.neg<;>simp[hna,hnb,ha,hb,K3z] at h'⊢
theorem q0p {α:Type}(l:List α)(i:Nat)(d:α)(h:l.length<=i):l.getD i d=d:=by rw[q_a,List.getElem?_eq_none h];rfl
theorem K0n (l:List UInt32)(i:Nat):valD (l.take (i+1))=valD (l.take i)+4294967296^i*(l.getD i 0).toNat:=by by_cases h:i<l.length;exact K0z l i h;rw[List.take_of_length_le oG,List.take_of_length_le oG,q0p l i 0 oG];show valD l=valD l+4294967296^i*0;omega
theorem U0l (l:List UInt32)(i:Nat)(h:i<=l.length):valD l=valD (l.take i)+4294967296^i*valD (l.drop i):=by
 conv=>lhs;rw[<-List.take_append_drop i l]
 rw[v0n,List.length_take,Nat.min_eq_left h]
theorem w0u (l:List UInt32)(i:Nat)(h:i<l.length):valD (l.drop i)=(l.getD i 0).toNat+4294967296*valD (l.drop (i+1)):=by rw[List.drop_eq_getElem_cons h];simp only[valD,nD,List.map_cons,val];rw[q_a,List.getElem?_eq_getElem h];rfl
theorem x0w (l:List UInt32)(i:Nat)(h:l.length<=i):valD (l.drop i)=0:=by rw[List.drop_of_length_le h];rfl
theorem Z1c (l:List UInt32)(i:Nat):valD (l.drop i)=(l.getD i 0).toNat+4294967296*valD (l.drop (i+1)):=by by_cases h:i<l.length;exact w0u l i h;rw[x0w l i oG,x0w l (i+1) oG,q0p l i 0 oG];rfl
theorem j0y (l:List UInt32)(i:Nat)(h:i<=l.length):valD l/4294967296^i=valD (l.drop i):=by have hb:=x0v (l.take i);rw[List.length_take,Nat.min_eq_left h] at hb;rw[U0l l i h,Nat.add_mul_div_left _ _ (Nat.pow_pos (by decide)),Nat.div_eq_of_lt hb,Nat.zero_add]
theorem x2j (a o:List UInt32)(k s i:Nat)(hs:s<32)(hi:i<a.length)(ho:o.length=a.length+k+1)
 (hv:valD o=valD (a.take i)*2^(32*k+s)) (hc:(o.getD (i+k) 0).toNat<2^s) (hz: ∀j,i+k<j->o.getD j 0=0):
 let x:=(a.getD i 0).toNat*2^s
 let lo:=UInt32.ofNat ((o.getD (i+k) 0).toNat+x % 4294967296)
 let hi':=UInt32.ofNat (x/4294967296)
 x<18446744073709551616/\bOr .u32 ((o.getD (i+k) 0).toNat:Int) ((x % 4294967296:Nat):Int)=(lo.toNat:Int)/\x/4294967296=hi'.toNat/\
 valD ((o.set (i+k) lo).set (i+k+1) hi')=valD (a.take (i+1))*2^(32*k+s)/\hi'.toNat<2^s:=by
 intro x lo hi';have hw:(a.getD i 0).toNat<4294967296:=UInt32.toNat_lt _;have h32:2^s<=2^32:=Nat.pow_le_pow_right (by decide) oG;have hx:x<4294967296*2^s:=Nat.mul_lt_mul_of_pos_right hw (Nat.pow_pos (by decide));have hx64:x<18446744073709551616:=q_e hx (by have:=Nat.mul_le_mul_left 4294967296 h32;omega);have hmod:x % 4294967296 % 2^s=0:=by have e:(4294967296:Nat)=2^s*2^(32-s):=(by rw[<-Nat.pow_add,show s+(32-s)=32 from oG]);show(a.getD i 0).toNat*2^s % 4294967296 % 2^s=0;rw[e,Nat.mod_mul_right_mod,Nat.mul_mod_left]
 have hlt:=Nat.mod_lt x (show 4294967296>0 by decide);have hor:=V1n (o.getD (i+k) 0).toNat (x % 4294967296) s hc hmod;have hsum:(o.getD (i+k) 0).toNat+x % 4294967296<4294967296:=by rw[<-hor];exact Nat.or_lt_two_pow (n:=32) (UInt32.toNat_lt _) hlt
 have elo:lo.toNat=(o.getD (i+k) 0).toNat+x % 4294967296:=J0f _ hsum;have hdiv:x/4294967296<2^s:=(Nat.div_lt_iff_lt_mul (by decide)).2 oG;have ehi:hi'.toNat=x/4294967296:=J0f _ oG;refine⟨hx64,?_,ehi.symm,?_,by rw[ehi];exact hdiv⟩;rw[v2o _ _ (UInt32.toNat_lt _) hlt,hor,elo];have e1:=w0t o (i+k) lo oG;have e2:=w0t (o.set (i+k) lo) (i+k+1) hi' (by simp;omega);rw[K0e,if_neg oG,hz (i+k+1) oG] at e2;rw[K0z a i hi,Nat.add_mul,<-hv];have e3:4294967296^i*(a.getD i 0).toNat*2^(32*k+s)=4294967296^(i+k)*x:=by rw[Nat.pow_add 4294967296 i k,J1g k,Nat.pow_add];simp only[x,Nat.mul_assoc,Nat.mul_left_comm,Nat.mul_comm]
 rw[e3,<-Nat.mod_add_div x 4294967296,Nat.mul_add,<-Nat.mul_assoc,show 4294967296^(i+k)*4294967296=4294967296^(i+k+1) from(Nat.pow_succ ..).symm];rw[elo,Nat.mul_add] at e1;rw[ehi] at e2;have z0:(0:UInt32).toNat=0:=rfl;rw[z0,Nat.mul_zero] at e2;omega
theorem U2b (a b r s:Nat)(hs:s<32):(a+4294967296*(b+4294967296*r))/2^s % 4294967296=(a+4294967296*b)/2^s % 4294967296:=by
 have e:4294967296*(b+4294967296*r)=4294967296*b+2^s*(4294967296*(2^(32-s)*r)):=by have:(4294967296:Nat)=2^s*2^(32-s):=(by rw[<-Nat.pow_add,show s+(32-s)=32 from oG]);have e2:2^s*(4294967296*(2^(32-s)*r))=4294967296*(2^s*2^(32-s)*r):=(by simp only[Nat.mul_assoc,Nat.mul_left_comm]);rw[e2,<-this,Nat.mul_add]
 rw[e,<-Nat.add_assoc,Nat.add_mul_div_left _ _ (Nat.pow_pos (by decide)),Nat.add_mul_mod_self_left]
theorem y0z (x B j:Nat):x % B^(j+1)=x % B^j+B^j*(x/B^j % B):=by rw[Nat.pow_succ,Nat.mod_mul]
def tz (m:Nat):Nat:=if h:m=0\/m % 2=1 then 0 else tz (m/2)+1
termination_by m
decreasing_by omega
theorem y1e :tz 0=0:=by rw[tz];simp
theorem X2h {m:Nat}(h:m % 2=1):tz m=0:=by rw[tz,dif_pos (.inr h)]
theorem y1f {m:Nat}(h0:m≠0)(h:m % 2=0):tz m=tz (m/2)+1:=by rw[tz,dif_neg oG]
theorem x1l (z q:Nat)(hq:q % 2=1):tz (2^z*q)=z:=by
 induction z with
 | zero=>simp[X2h hq]
 | succ z ih=>
  have hp:0<2^z:=Nat.pow_pos (by decide);have e:2^(z+1)*q=2*(2^z*q):=(by rw[Nat.pow_succ];simp only[Nat.mul_assoc,Nat.mul_left_comm,Nat.mul_comm]);have h0:2^z*q≠0:=Nat.mul_ne_zero oG oG;rw[e,y1f oG oG,Nat.mul_div_cancel_left _ (by decide),ih]
theorem Z1d (m:Nat)(h:m≠0): ∃q,q % 2=1/\m=2^tz m*q:=by
 induction m using Nat.strongRecOn with
 | _ m ih=>
  by_cases ho:m % 2=1;exact⟨m,ho,by rw[X2h ho];simp⟩
  . obtain⟨q,h1,h2⟩:=ih (m/2) oG oG;refine⟨q,h1,?_⟩;rw[y1f h oG,Nat.pow_succ];have:m=2*(m/2):=oG
    conv=>lhs;rw[this,h2]
    simp only[Nat.mul_assoc,Nat.mul_left_comm,Nat.mul_comm]
theorem G0j (m:Nat)(h:m≠0):m/2^tz m % 2=1:=by
 obtain⟨q,h1,h2⟩:=Z1d m h;have:m/2^tz m=q:=by
  conv=>lhs;lhs;rw[h2]
  exact Nat.mul_div_cancel_left _ (Nat.pow_pos (by decide))
 rw[this,h1]
theorem W3f (m:Nat):m % 2^tz m=0:=by
 by_cases h:m=0;subst h;simp
 . obtain⟨q,_,h2⟩:=Z1d m h
   conv=>lhs;lhs;rw[h2]
   exact Nat.mul_mod_right _ _
theorem V2s (m:Nat):m/2^tz m*2^tz m=m:=Nat.div_mul_cancel (Nat.dvd_of_mod_eq_zero (W3f m))
theorem x0x (m:Nat)(h:m≠0):tz m<Q0i m:=by apply Nat.lt_of_not_le;intro hle;have h1:m<2^tz m:=bitlen_le_iff.1 hle;have:=W3f m;rw[Nat.mod_eq_of_lt h1] at this;exact h this
structure Vl where
 neg:Bool
 m:Nat
 e:Int
 deriving DecidableEq
instance : Inhabited Vl:=⟨⟨false,0,0⟩⟩
def encV (v:Vl):List PV:= [.sc (.bool v.neg),.sl .no (encD (Q0g v.m)),.sc (.int .i64 v.e)]
attribute [go_sem] encV
theorem Z0t (m:Nat):(Q0g m).length<=(Q0i m+31)/32:=by apply q0f;rw[J1g];exact q_e (Z0h m) (Nat.pow_le_pow_right (by decide) oG)
theorem z0o (m:Nat):(Q0p m).length<=(Q0i m+63)/64:=by apply X0g;rw[y0p];exact q_e (Z0h m) (Nat.pow_le_pow_right (by decide) oG)
theorem W0d (m k:Nat):Q0i (m*2^k)<=Q0i m+k:=by by_cases h:m=0;subst h;simp[X0z];rw[U0p m k h];exact Nat.le_refl _
theorem G0i (m n:Nat):Q0i (m+n)<=max (Q0i m) (Q0i n)+1:=by rw[bitlen_le_iff,Nat.pow_succ];have h1:m<2^max (Q0i m) (Q0i n):=q_e (Z0h m) (Nat.pow_le_pow_right (by decide) oG);have h2:n<2^max (Q0i m) (Q0i n):=q_e (Z0h n) (Nat.pow_le_pow_right (by decide) oG);omega
theorem J0k {m n:Nat}(h:m<=n):Q0i m<=Q0i n:=bitlen_le_iff.2 (Nat.lt_of_le_of_lt h (Z0h n))
theorem x0y (m:Nat):tz m<=Q0i m:=by by_cases h:m=0;subst h;rw[y1e];exact Nat.zero_le _;exact Nat.le_of_lt (x0x m h)
def J0m (v:Vl):Int:=if v.neg then -(v.m:Int) else(v.m:Int)
def oddV (neg:Bool)(m:Nat)(e:Int):Vl:=if m=0 then⟨false,0,0⟩ else⟨neg,m/2^tz m,e+tz m⟩
def mkV (s:Int)(e:Int):Vl:=oddV (decide (s<0)) s.natAbs e
def V0j (v:Vl):Vl:=if v.m=0 then v else { v with neg:= !v.neg }
def Y0n (a b:Vl):Vl:=if a.m=0 then b else if b.m=0 then a else
 mkV (J0m a*2^(a.e-min a.e b.e).toNat+J0m b*2^(b.e-min a.e b.e).toNat) (min a.e b.e)
def K0v (v:Vl):Int:=if v.m=0 then 0 else if v.neg then -1 else 1
def z0e (a b:Vl):Vl:=Y0n a (V0j b)
def W0g (a b:Vl):Int:=K0v (z0e a b)
theorem k0k (v:Vl):K0v v=sgn (J0m v):=by unfold K0v sgn J0m;by_cases h:v.m=0;rw[if_pos h];simp[h];cases hn:v.neg;simp[h];simp[h]
theorem H2a (s e:Int):K0v (mkV s e)=sgn s:=by
 unfold mkV oddV K0v sgn;by_cases h:s=0;subst h;simp;have h1:s.natAbs≠0:=oG;rw[if_neg h1];have h2:s.natAbs/2^tz s.natAbs≠0:=by have:=G0j s.natAbs h1;omega
 simp only;rw[if_neg h2,if_neg h];by_cases hl:s<0;simp[hl];simp[hl]
theorem Z1z (v:Vl):J0m (V0j v)= -J0m v:=by unfold V0j;by_cases h:v.m=0;rw[if_pos h];simp[J0m,h];rw[if_neg h];unfold J0m;cases v.neg<;>simp
theorem Z1e (v:Vl):(V0j v).m=v.m:=by unfold V0j;split<;>rfl
theorem Z1f (v:Vl):(V0j v).e=v.e:=by unfold V0j;split<;>rfl
theorem Z1y {v:Vl}(h:v.m=0):J0m v=0:=by unfold J0m;simp[h]
theorem K3y (a b:Int):cmpI a b=sgn (a-b):=by unfold cmpI sgn;by_cases h1:a<b;rw[if_pos h1,if_neg oG,if_pos oG];by_cases h2:a>b;rw[if_neg h1,if_pos h2,if_neg oG,if_neg oG];rw[if_neg h1,if_neg h2,if_pos oG]
theorem q2w (a b:Vl):W0g a b=cmpE (J0m a) a.e (J0m b) b.e:=by unfold W0g z0e Y0n cmpE;rw[K3y,Z1e,Z1f];by_cases ha:a.m=0;rw[if_pos ha,k0k,Z1z,Z1y ha,Int.zero_mul,Int.zero_sub,<-Int.neg_mul,Z1i];rw[if_neg ha];by_cases hb:b.m=0;rw[if_pos hb,k0k,Z1y hb,Int.zero_mul,Int.sub_zero,Z1i];rw[if_neg hb,H2a,Z1z,Int.neg_mul];rfl
def ofN (x:Nm):Vl:=⟨x.neg,valW x.w,x.exp⟩
theorem Z1r (a b:Nm):W0g (ofN a) (ofN b)=cmpN a b:=by rw[q2w];rfl
def Q0h (x:Nm):Bool:=if x.w= [] then !x.neg&&x.exp==0 else decide ((cutW x.w).length=x.w.length)&&decide (x.w.length<=64)&&decide ((x.w.getD 0 0).toNat % 2=1)&&decide (-65536<=x.exp)&&decide (x.exp<=65536)
def cmpR (a b:Nm):Int:=if Q0h a=true/\Q0h b=true then cmpN a b else 0
def ownN (x:Nm):Nm:=if Q0h x=true then x else⟨false,0,[]⟩
theorem Z0n {x:Nm}(h:Q0h x=true):sm x:=by unfold Q0h at h;split at h;rename_i hw;simp at h;simp[sm,hw,h];simp at h;obtain⟨⟨⟨⟨_,h1⟩,_⟩,h2⟩,h3⟩:=h;exact⟨oG,oG,oG⟩
theorem Z1m {x:Nm}(h:Q0h x=true):cutW x.w=x.w:=by unfold Q0h at h;split at h;rename_i hw;rw[hw];rfl;simp at h;have e:=h.1.1.1.1;have h2:x.w.getD (x.w.length-1) 0≠0:=(Y1c x.w (by assumption)).1 e;rw[Z2i x.w x.w.length (Nat.le_refl _) (fun j h1 h2=>oG) (.inr h2)];simp
def wN (x:Nm):Prop:=x.w.length<=100000000000
def wI (x:Ivl):Prop:=wN x.lo/\wN x.hi
def Q0w (x:Ivl):Bool:=Q0h x.lo&&Q0h x.hi&&decide (cmpN x.lo x.hi<=0)
def K0j (a b:Nm):Nm:=if cmpN b a<0 then b else a
def J0c (a b:Nm):Nm:=if cmpN b a>0 then b else a
def inI (a b:Ivl):Bool:=Q0w a&&Q0w b&&decide (0<=cmpN a.lo b.lo)&&decide (0<=cmpN b.hi a.hi)
def rightB (l:List Ivl):Bool:=l.all Q0w&&decide (1<=l.length)&&decide (l.length<=4)
def V0g {α β:Type}(F:Nat->α->β×Int):Nat->List α->List β->List β×Int
 | _,[],acc=>(acc,0)
 | i,x::l,acc=>if (F i x).2≠0 then([],(F i x).2) else V0g F (i+1) l (acc++ [(F i x).1])
theorem Q0x {x:Ivl}(h:Q0w x=true):Q0h x.lo=true/\Q0h x.hi=true/\cmpN x.lo x.hi<=0:=by unfold Q0w at h;simp at h;exact⟨h.1.1,h.1.2,h.2⟩
theorem x0q {x:Nm}(h:sm x):wN x:=by have:=h.1;unfold wN;omega
theorem x2k {P:Nm->Prop}{a b:Nm}(ha:P a)(hb:P b):P (K0j a b):=by unfold K0j;split<;>assumption
theorem Q1g {P:Nm->Prop}{a b:Nm}(ha:P a)(hb:P b):P (J0c a b):=by unfold J0c;split<;>assumption
def allF {α:Type}[Inhabited α](f:α->α->Bool)(a b:List α):Bool:=decide (a.length=b.length)&&(List.range a.length).all fun i=>f (a.getD i default) (b.getD i default)
def inB (a b:List Ivl):Bool:=rightB a&&rightB b&&allF inI a b
theorem cmpI_le {a b:Int} :cmpI a b<=0<->a<=b:=by constructor;intro h;apply Int.not_lt.1;intro hl;have:=G0f hl;omega;intro h;rcases Int.lt_or_eq_of_le h with h | h;rw[G0e h];decide;rw[X1n h];decide
theorem Y1e (a b:Nm):cmpN b a= -cmpN a b:=k2t
theorem k0a (a:Nm):cmpN a a=0:=by unfold cmpN cmpE;exact X1n rfl
theorem Y2l (a b:Nm):cmpN (K0j a b) a<=0:=by unfold K0j;split;omega;rw[k0a];decide
theorem Y2k (a b:Nm):cmpN (K0j a b) b<=0:=by unfold K0j;split;rw[k0a];decide;have:=Y1e b a;omega
theorem Y2u (a b:Nm):cmpN a (J0c a b)<=0:=by unfold J0c;split;have:=Y1e b a;omega;rw[k0a];decide
theorem Y2t (a b:Nm):cmpN b (J0c a b)<=0:=by unfold J0c;split;rw[k0a];decide;omega
theorem j0d {x:Ivl}(h1:Q0h x.lo=true)(h2:Q0h x.hi=true)(h3:cmpN x.lo x.hi<=0):Q0w x=true:=by unfold Q0w;rw[h1,h2,q_h h3];rfl
theorem U1v {l:List Ivl}(h:rightB l=true): ∀i,i<l.length->Q0w (l.getD i default)=true:=by unfold rightB at h;simp only[q_i,q_d] at h;intro i hi;refine h.1.1 _ ?_;rw[q_a,List.getElem?_eq_getElem hi];exact List.getElem_mem hi
theorem U0v {l:List Ivl}(h: ∀i,i<l.length->Q0w (l.getD i default)=true)(h1:1<=l.length)(h2:l.length<=4):rightB l=true:=by unfold rightB;rw[q_h h1,q_h h2,List.all_eq_true.2];rfl;intro x hx;obtain⟨i,hi,rfl⟩:=List.mem_iff_getElem.1 hx;have:=h i hi;rwa [q_a,List.getElem?_eq_getElem hi] at this
theorem Y0b {l:List Ivl}(h:rightB l=true):1<=l.length/\l.length<=4:=by unfold rightB at h;simp at h;omega
def wB (l:List Ivl):Prop:=l.length<=100000000000/\ ∀i,i<l.length->wI (l.getD i default)
def k3l (s:Sg):Bool:=decide (1<=s.fr)&&decide (s.fr<=s.to)&&decide (s.to<=4096)&&Q0h s.t0&&Q0h s.t1&& !s.t0.neg&&decide (cmpR s.t0 s.t1<0)&&rightB s.box
def x3e (a b:Sg):Bool:=decide (b.fr=IntKind.i64.wrap (a.to+1))&&decide (cmpR a.t1 b.t0=0)&&decide (a.box.length=b.box.length)
def rowAt (l:List Sg)(i:Nat):Bool:=k3l (l.getD i default)&&(decide (i=0)||x3e (l.getD (i-1) default) (l.getD i default))
theorem X0f {x:Nm}(h:Q0h x=true):valW x.w=0<->x.w= []:=by constructor;intro hv;rw[<-Z1m h,<-Z0a,hv,J0e];intro hw;rw[hw];rfl
theorem Y2v {α:Type}(l:List α)(n i:Nat)(d:α)(h:i<n):(l.take n).getD i d=l.getD i d:=by simp[q_a,List.getElem?_take,h]
theorem j3r :wB []:=⟨by simp,fun i hi=>by simp at hi⟩
theorem z3v {a b:Nm}(ha:Q0h a=true)(hb:Q0h b=true):cmpR a b=cmpN a b:=if_pos ⟨ha,hb⟩
end Go.Pv
end
