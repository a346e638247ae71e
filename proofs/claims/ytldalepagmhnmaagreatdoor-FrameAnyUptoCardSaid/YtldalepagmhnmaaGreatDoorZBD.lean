/- Parts of the walk: PvAm, PvAn, M42, N46, N47, N48, PvBa, PvAo, PvAp, PvAu. -/
import Derived.Test.YtldalepagmhnmaaGreatDoorZAN
import Derived.Test.YtldalepagmhnmaaGreatDoorZAF
set_option linter.unusedVariables false
set_option linter.unusedSimpArgs false
section
namespace Go.Pv
structure Mn where
 c:Nm
 ks:List Int
 deriving DecidableEq
instance : Inhabited Mn:=⟨⟨default,[]⟩⟩
def j3z (x:Mn):List PV:= [.sc (.bool x.c.neg),.sc (.int .i64 x.c.exp),.sl .no (encW x.c.w),.sl .no (encZ x.ks)]
attribute [go_sem] j3z
def X4a (l:List Mn):List PV:=l.map fun c=>(.agg (j3z c))
structure Tm where
 v:Vl
 ks:List Int
instance : Inhabited Tm:=⟨⟨⟨false,0,0⟩,[]⟩⟩
def Z4x (x:Tm):List PV:= [.sc (.bool x.v.neg),.sl .no (encD (Q0f x.v.m)),.sc (.int .i64 x.v.e),.sl .no (encZ x.ks)]
attribute [go_sem] Z4x
def X4d (l:List (List Mn)):List PV:=l.map fun c=>(.sl .no (X4a c))
section
variable {w:World} {g g':Gh} {F:Fr} {T:List (Nat×Nat)} {k:Nat} {cs:List PV}
end
def U2s (ks:List Int):Bool:=ks.all (fun k=>decide (0<=k))&&decide (ks.sum<=8)
def Z4c (m:Mn)(n:Int):Bool:=decide ((m.ks.length:Int)=n)&&U2s m.ks&&Q0h m.c
def ordK :List Int->List Int->Int
 | x::a,y::b=>if x>y then 1 else if x<y then -1 else ordK a b
 | _,_=>0
def okP (p:List Mn)(n:Int)(i:Nat):Bool:=
 Z4c (p.getD i default) n&&decide ((p.getD i default).c.w.length≠0)&&(decide (i=0)||decide (ordK (p.getD (i-1) default).ks (p.getD i default).ks=1))
def Z2o (p:List Mn)(n:Int):Bool:=decide (1<=n/\n<=4/\p.length<=24)&&(List.range p.length).all (okP p n)
def x1m (f:List (List Mn)):Bool:=decide (1<=f.length/\f.length<=4)&&f.all (fun p=>Z2o p f.length)
section
variable {w:World} {g g':Gh} {F:Fr} {T:List (Nat×Nat)} {k:Nat} {cs:List PV}
end
def lstN (n m:Nat):Array Bool:=((List.range n).map m.testBit).toArray
theorem j2k (i j:Nat):(1<<<i).testBit j=decide (i=j):=by
 rw[Nat.testBit_shiftLeft];by_cases h:i=j;subst h;simp;by_cases h2:j>=i;have:j-i≠0:=oG;have e:Nat.testBit 1 (j-i)=false:=by rw[show(1:Nat)=2^0 from rfl,Nat.testBit_two_pow];simp;omega
 rw[e];simp[h];simp[h,h2]
theorem Q3e (n m i:Nat):lstN n (m|||(1<<<i))=(lstN n m).setIfInBounds i true:=by apply Array.ext;simp[lstN];intro j h1 h2;rw[Array.getElem_setIfInBounds (by simpa[lstN] using h1)];simp only[lstN,List.getElem_toArray,List.getElem_map,List.getElem_range,Nat.testBit_or,j2k];by_cases h:i=j;subst h;simp;simp[h]
theorem q2i (n:Nat):lstN n 0=Array.replicate n false:=by apply Array.ext;simp[lstN];intro j h1 h2;simp[lstN]
theorem x0w (n m j:Nat)(d:Bool):(lstN n m).getD j d=if j<n then m.testBit j else d:=by by_cases h:j<n;rw[if_pos h,q_f];simp[lstN,h];rw[if_neg h,q_f];simp[lstN,h]
def V3b (n:Nat)(k:Nat->Bool):Bool:=Nat.casesOn (motive:=fun _=>Bool) n (k 0) (fun m=>k (m+1))
theorem z2h (n:Nat)(k:Nat->Bool):V3b n k=k n:=by cases n<;>rfl
def amL :List Edge->Nat
 | []=>0
 | e::r=>if Region.binds .any e then amL r|||(1<<<e.on) else amL r
theorem Q2s : ∀(l:List Edge) (k:Nat),(amL l).testBit k=true<-> ∃e∈l,Region.binds .any e=true/\e.on=k
 | [],k=>by simp[amL]
 | e::r,k=>by have ih:=Q2s r k;rw[amL];split;rename_i h;rw[Nat.testBit_or,Bool.or_eq_true,ih,j2k];simp[h];constructor;rintro(h | h);exact .inr h;exact .inl h;rintro(h | h);exact .inr h;exact .inl h;rename_i h;rw[ih];simp[h]
theorem Z2i (a m:Nat):(a&&&m==a)=true<-> ∀k,a.testBit k=true->m.testBit k=true:=by
 rw[beq_iff_eq];constructor;intro h k hk;have:(a&&&m).testBit k=true:=(by rw[h];exact hk);rw[Nat.testBit_and,q_i] at this;exact this.2;intro h;apply Nat.eq_of_testBit_eq;intro k;rw[Nat.testBit_and];cases hk:a.testBit k with
 | false=>rfl
 | true=>rw[h k hk];rfl
structure OpSm where
 j:Nat
 am:Nat
 ld:Bool
 ef:Bool
 deriving DecidableEq
def sumL :Nat->List Oper->List OpSm
 | _,[]=> []
 | j,o::r=>⟨j,amL o.after.toList,G0t o.op,!X0o o.op⟩::sumL (j+1) r
theorem Z2h : ∀(l:List Oper) (j:Nat) (x:OpSm),x∈sumL j l<-> ∃k o,l[k]?=some o/\x=⟨j+k,amL o.after.toList,G0t o.op,!X0o o.op⟩
 | [],j,x=>by simp[sumL]
 | o::r,j,x=>by
  rw[sumL,List.mem_cons,Z2h r (j+1) x];constructor;rintro(h | ⟨k,o',h1,h2⟩);exact⟨0,o,rfl,h⟩;exact⟨k+1,o',h1,by rw[h2];congr 1;omega⟩;rintro⟨k,o',h1,h2⟩;cases k with
  | zero=>simp at h1;subst h1;exact .inl h2
  | succ k=>exact .inr ⟨k,o',by simpa using h1,by rw[h2];congr 1;omega⟩
def U2a (ops:Array Oper)(S:List OpSm)(i:Nat)(ws:List Nat)(m:Nat):Bool:=
 S.any fun x=>x.j==i&& !m.testBit i&&(x.am&&&m==x.am)&&(!x.ef||S.all fun y=> !y.ld|| !m.testBit y.j||ws.contains y.j||x1v ops y.j i)
def J2e (ops:Array Oper)(S:List OpSm)(N m:Nat)(p:Plan):Bool:=
 (S.all fun x=>m.testBit x.j|| !(x.am&&&m==x.am)||p.heads.contains x.j)||(match p with | .step i _ _=>Z3k ops N (lstN ops.size m) i | _=>false)
def k0r (ops:Array Oper)(S:List OpSm)(N:Nat):Plan->Nat->Nat->Bool
 | .done,_,_=>true
 | .step _ _ _,0,_=>false
 | .step i ws rest,f+1,m=>U2a ops S i ws m&&V3b (m|||(1<<<i)) (fun m'=>k0r ops S N rest f m'&&J2e ops S N m' rest)
 | .alt a b,f,m=>k0r ops S N a f m&&k0r ops S N b f m
section
variable {ops:Array Oper} {S:List OpSm} (hS:sumL 0 ops.toList=S) (hn:(S.all fun x=>decide (x.am<2^ops.size))=true)
include hS
theorem memS (x:OpSm):x∈S<-> ∃o,ops[x.j]?=some o/\x.am=amL o.after.toList/\x.ld=G0t o.op/\x.ef= !X0o o.op:=by rw[<-hS,Z2h];constructor;rintro⟨k,o,h1,rfl⟩;exact⟨o,by simpa using h1,rfl,rfl,rfl⟩;rintro⟨o,h1,h2,h3,h4⟩;refine⟨x.j,o,by simpa using h1,?_⟩;cases x;simp at h2 h3 h4⊢;exact⟨h2,h3,h4⟩
include hn in
theorem Y2z {i m:Nat}{ws:List Nat}(h:U2a ops S i ws m=true):K2u ops (lstN ops.size m) i ws=true:=by
 unfold U2a at h;obtain⟨x,hx,hc⟩:=List.any_eq_true.1 h;simp only[q_i,Bool.or_eq_true,Bool.not_eq_true',beq_iff_eq] at hc;obtain⟨⟨⟨c1,c2⟩,c3⟩,c4⟩:=hc;subst c1;obtain⟨o,o1,o2,o3,o4⟩:=(memS hS x).1 hx;have hlt:x.j<ops.size:=(Array.getElem?_eq_some_iff.1 o1).1;have c3':=(Z2i x.am m).1 (by rw[beq_iff_eq];exact c3);have hlt2: ∀k,x.am.testBit k=true->k<ops.size:=fun k hk=>by have h1:=q_b (List.all_eq_true.1 hn x hx);refine Nat.lt_of_not_le fun hle=> ?_;have:=Nat.testBit_lt_two_pow (q_e h1 (Nat.pow_le_pow_right (by decide) hle));rw[this] at hk;cases hk
 unfold K2u;rw[q_i];refine⟨?_,?_⟩;have:x.j∈Region.ready .any ops (lstN ops.size m):=mem_ready.2 ⟨by rw[x0w,if_pos hlt];exact c2,o,o1,fun e he hb=>by
  have hb':x.am.testBit e.on=true:=by rw[o2];exact(Q2s _ _).2 ⟨e,by simpa using he,hb,rfl⟩
  rw[x0w,if_pos (hlt2 _ hb')];exact c3' _ hb'⟩
 simpa using this;rw[Bool.or_eq_true];rcases c4 with c4 | c4;left;unfold Y0t;rw[o1];simp only;rw[<-o4,c4];rfl;right;refine List.all_eq_true.2 fun k hk=> ?_;have hk':=List.mem_range.1 hk;cases hok:ops[k]? with
 | none=>simp
 | some ok=>
  have hy:(⟨k,amL ok.after.toList,G0t ok.op,!X0o ok.op⟩:OpSm)∈S:=(memS hS _).2 ⟨ok,hok,rfl,rfl,rfl⟩;have:=List.all_eq_true.1 c4 _ hy;simp only[Bool.or_eq_true,Bool.not_eq_true'] at this⊢;rw[x0w,if_pos hk'];rcases this with ((a | a) | a) | a;exact .inr a;exact .inl (.inl (.inl a));exact .inl (.inl (.inr a));exact .inl (.inr a)
theorem j1y {N m:Nat}{p:Plan}(h:J2e ops S N m p=true):Z1m ops N (lstN ops.size m) p=true:=by
 unfold J2e at h;unfold Z1m;rw[Bool.or_eq_true] at h⊢;rcases h with h | h;refine .inr (List.all_eq_true.2 fun j hj=> ?_);obtain⟨r1,o,r2,r3⟩:=mem_ready.1 hj;have hlt:j<ops.size:=(Array.getElem?_eq_some_iff.1 r2).1;have hy:(⟨j,amL o.after.toList,G0t o.op,!X0o o.op⟩:OpSm)∈S:=(memS hS _).2 ⟨o,r2,rfl,rfl,rfl⟩;have:=List.all_eq_true.1 h _ hy;simp only[Bool.or_eq_true,Bool.not_eq_true'] at this;rw[x0w,if_pos hlt] at r1;rcases this with (a | a) | a;rw[r1] at a;cases a;have:(amL o.after.toList&&&m==amL o.after.toList)=true:=(Z2i _ _).2 fun k hk=>by obtain⟨e,e1,e2,rfl⟩:=(Q2s _ _).1 hk;have:=r3 e (by simpa using e1) e2;rw[x0w] at this;split at this;exact this;cases this
 rw[a] at this;cases this;exact a;exact .inl h
include hn in
theorem y0b {N:Nat} : ∀(p:Plan) (f m:Nat),k0r ops S N p f m=true->Y0l ops N p f (lstN ops.size m)=true
 | .done,_,_,_=>by simp[Y0l]
 | .step _ _ _,0,_,h=>by simp[k0r] at h
 | .step i ws rest,f+1,m,h=>by rw[k0r,z2h,q_i,q_i] at h;rw[Y0l,q_i,q_i,<-Q3e];exact⟨Y2z hS hn h.1,y0b rest f _ h.2.1,j1y hS h.2.2⟩
 | .alt a b,f,m,h=>by
  have hb:k0r ops S N a f m=true/\k0r ops S N b f m=true:=by cases f<;>(rw[k0r,q_i] at h;exact h)
  have h1:=y0b a f m hb.1;have h2:=y0b b f m hb.2;cases f<;>(rw[Y0l,q_i];exact⟨h1,h2⟩)
end
def H3f (ops:Array Oper)(S:List OpSm)(N:Nat)(p:Plan):Bool:=k0r ops S N p ops.size 0&&J2e ops S N 0 p&&S.all fun x=>decide (x.am<2^ops.size)
theorem X3e {ops:Array Oper}{S:List OpSm}(hS:sumL 0 ops.toList=S){N:Nat}{p:Plan}(h:H3f ops S N p=true):k1p ops N p=true:=by unfold H3f at h;rw[q_i,q_i] at h;unfold k1p;rw[<-q2i,q_i];exact⟨y0b hS h.2 p _ _ h.1.1,j1y hS h.1.2⟩
theorem j1a {P:Program}{E:Ent}{id:Nat}{l:List Oper}{Q:Exit->PFS->Prop}{s:PFS}(hm:P.follows .mixedOrders=true)(N:Nat)(S:List OpSm)(p:Plan)(hS:sumL 0 l=S)(hB:H3f l.toArray S N p=true)(hl:N<=s.pa.length)
 (h:OW P l p (Q .normal) s):PWP P E (.region id l.toArray true) Q s:=Q0k hm N p (X3e (by simpa using hS) hB) hl h
section
variable {w w':World} {g g':Gh} {F F':Fr} {T:List (Nat×Nat)} {i:Nat}
end
theorem v0s (n j:Nat):(List.replicate n PV.junk).getD j .junk= .junk:=by rw[q_a,List.getElem?_replicate];split<;>rfl
section
variable {P:Program} {s:PFS} {K:PFS->Prop} {d:Option Tmp} {ty:TypeId} {pos:String} {af:Array Edge}
end
theorem W1e (xs ys:List PV):flat (xs++ys)=flat xs++flat ys:=by simp[flat]
section
variable {w:World} {g g':Gh} {F:Fr} {T:List (Nat×Nat)} {k sz:Nat} {cs:List PV}
end
section
variable {k sz:Nat} {cs:List PV}
end
end Go.Pv
end
