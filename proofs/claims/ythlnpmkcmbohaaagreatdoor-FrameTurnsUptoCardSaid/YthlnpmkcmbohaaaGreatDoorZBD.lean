/- Parts of the walk: PvAm, PvAn, M42, N46, N47, N48, PvBa, PvAo, PvAp. -/
import Derived.Test.YthlnpmkcmbohaaaGreatDoorZAN
import Derived.Test.YthlnpmkcmbohaaaGreatDoorZAF
set_option linter.unusedVariables false
set_option linter.unusedSimpArgs false
section
namespace Go.Pv
structure Mn where
 c:Nm
 ks:List Int
 deriving DecidableEq
instance : Inhabited Mn:=⟨⟨default,[]⟩⟩
def y1d (x:Mn):List PV:= [.sc (.bool x.c.neg),.sc (.int .i64 x.c.exp),.sl .no (Q2 x.c.w),.sl .no (U2x x.ks)]
attribute [go_sem] y1d
def W2g (l:List Mn):List PV:=l.map fun c=>(.agg (y1d c))
structure Tm where
 v:Vl
 ks:List Int
instance : Inhabited Tm:=⟨⟨⟨false,0,0⟩,[]⟩⟩
def W2d (x:Tm):List PV:= [.sc (.bool x.v.neg),.sl .no (ZR (Qj x.v.m)),.sc (.int .i64 x.v.e),.sl .no (U2x x.ks)]
attribute [go_sem] W2d
def W2j (l:List (List Mn)):List PV:=l.map fun c=>(.sl .no (W2g c))
section
variable {w:World} {g g':Gh} {F:Fr} {T:List (Nat×Nat)} {k:Nat} {cs:List PV}
end
def W1w (ks:List Int):Bool:=ks.all (fun k=>decide (0<=k))&&decide (ks.sum<=8)
def V2a (m:Mn)(n:Int):Bool:=decide ((m.ks.length:Int)=n)&&W1w m.ks&&Qg m.c
def U2p :List Int->List Int->Int
 | x::a,y::b=>if x>y then 1 else if x<y then -1 else U2p a b
 | _,_=>0
def okP (p:List Mn)(n:Int)(i:Nat):Bool:=
 V2a (p.getD i default) n&&decide ((p.getD i default).c.w.length≠0)&&(decide (i=0)||decide (U2p (p.getD (i-1) default).ks (p.getD i default).ks=1))
def X0u (p:List Mn)(n:Int):Bool:=decide (1<=n/\n<=4/\p.length<=24)&&(List.range p.length).all (okP p n)
def kR (f:List (List Mn)):Bool:=decide (1<=f.length/\f.length<=4)&&f.all (fun p=>X0u p f.length)
section
variable {w:World} {g g':Gh} {F:Fr} {T:List (Nat×Nat)} {k:Nat} {cs:List PV}
end
def yo (n m:Nat):Array Bool:=((List.range n).map m.testBit).toArray
theorem v0s (i j:Nat):(1<<<i).testBit j=decide (i=j):=by
 rw[Nat.testBit_shiftLeft];by_cases h:i=j;subst h;simp;by_cases h2:j>=i;have:j-i≠0:=oG;have e:Nat.testBit 1 (j-i)=false:=by rw[show(1:Nat)=2^0 from rfl,Nat.testBit_two_pow];simp;omega
 rw[e];simp[h];simp[h,h2]
theorem X1v (n m i:Nat):yo n (m|||(1<<<i))=(yo n m).setIfInBounds i true:=by apply Array.ext;simp[yo];intro j h1 h2;rw[Array.getElem_setIfInBounds (by simpa[yo] using h1)];simp only[yo,List.getElem_toArray,List.getElem_map,List.getElem_range,Nat.testBit_or,v0s];by_cases h:i=j;subst h;simp;simp[h]
theorem z0y (n:Nat):yo n 0=Array.replicate n false:=by apply Array.ext;simp[yo];intro j h1 h2;simp[yo]
theorem Wz (n m j:Nat)(d:Bool):(yo n m).getD j d=if j<n then m.testBit j else d:=by by_cases h:j<n;rw[BC h,q_f];simp[yo,h];rw[BA h,q_f];simp[yo,h]
def Y1s (n:Nat)(k:Nat->Bool):Bool:=Nat.casesOn (motive:=fun _=>Bool) n (k 0) (fun m=>k (m+1))
theorem j0c (n:Nat)(k:Nat->Bool):Y1s n k=k n:=by cases n<;>rfl
def amL :List Edge->Nat
 | []=>0
 | e::r=>if Region.binds .any e then amL r|||(1<<<e.on) else amL r
theorem Z0x : ∀(l:List Edge) (k:Nat),(amL l).testBit k=true<-> ∃e∈l,Region.binds .any e=true/\e.on=k
 | [],k=>by simp[amL]
 | e::r,k=>by have ih:=Z0x r k;rw[amL];split;rename_i h;rw[Nat.testBit_or,DF,ih,v0s];simp[h];constructor;rintro(h | h);exact .inr h;exact .inl h;rintro(h | h);exact .inr h;exact .inl h;rename_i h;rw[ih];simp[h]
theorem X0o (a m:Nat):(a&&&m==a)=true<-> ∀k,a.testBit k=true->m.testBit k=true:=by
 rw[FQ];constructor;intro h k hk;have:(a&&&m).testBit k=true:=(by rw[h];exact hk);rw[Nat.testBit_and,q_i] at this;exact this.2;intro h;apply Nat.eq_of_testBit_eq;intro k;rw[Nat.testBit_and];cases hk:a.testBit k with
 | false=>rfl
 | true=>rw[h k hk];rfl
structure OpSm where
 j:Nat
 am:Nat
 ld:Bool
 ef:Bool
 deriving DecidableEq
def G1l :Nat->List Oper->List OpSm
 | _,[]=> []
 | j,o::r=>⟨j,amL o.after.toList,K3 o.op,!Zr o.op⟩::G1l (j+1) r
theorem X0n : ∀(l:List Oper) (j:Nat) (x:OpSm),x∈G1l j l<-> ∃k o,l[k]?=some o/\x=⟨j+k,amL o.after.toList,K3 o.op,!Zr o.op⟩
 | [],j,x=>by simp[G1l]
 | o::r,j,x=>by
  rw[G1l,EA,X0n r (j+1) x];constructor;rintro(h | ⟨k,o',h1,h2⟩);exact⟨0,o,rfl,h⟩;exact⟨k+1,o',h1,by rw[h2];congr 1;omega⟩;rintro⟨k,o',h1,h2⟩;cases k with
  | zero=>simp at h1;subst h1;exact .inl h2
  | succ k=>exact .inr ⟨k,o',by simpa using h1,by rw[h2];congr 1;omega⟩
def G0t (ops:Array Oper)(S:List OpSm)(i:Nat)(ws:List Nat)(m:Nat):Bool:=
 S.any fun x=>x.j==i&& !m.testBit i&&(x.am&&&m==x.am)&&(!x.ef||S.all fun y=> !y.ld|| !m.testBit y.j||ws.contains y.j||kY ops y.j i)
def K0a (ops:Array Oper)(S:List OpSm)(N m:Nat)(p:Plan):Bool:=
 (S.all fun x=>m.testBit x.j|| !(x.am&&&m==x.am)||p.heads.contains x.j)||(match p with | .step i _ _=>J1z ops N (yo ops.size m) i | _=>false)
def YF (ops:Array Oper)(S:List OpSm)(N:Nat):Plan->Nat->Nat->Bool
 | .done,_,_=>true
 | .step _ _ _,0,_=>false
 | .step i ws rest,f+1,m=>G0t ops S i ws m&&Y1s (m|||(1<<<i)) (fun m'=>YF ops S N rest f m'&&K0a ops S N m' rest)
 | .alt a b,f,m=>YF ops S N a f m&&YF ops S N b f m
section
variable {ops:Array Oper} {S:List OpSm} (hS:G1l 0 ops.toList=S) (hn:(S.all fun x=>decide (x.am<2^ops.size))=true)
include hS
theorem V2c (x:OpSm):x∈S<-> ∃o,ops[x.j]?=some o/\x.am=amL o.after.toList/\x.ld=K3 o.op/\x.ef= !Zr o.op:=by rw[<-hS,X0n];constructor;rintro⟨k,o,h1,rfl⟩;exact⟨o,by simpa using h1,rfl,rfl,rfl⟩;rintro⟨o,h1,h2,h3,h4⟩;refine⟨x.j,o,by simpa using h1,?_⟩;cases x;simp at h2 h3 h4⊢;exact⟨h2,h3,h4⟩
include hn in
theorem G0s {i m:Nat}{ws:List Nat}(h:G0t ops S i ws m=true):V0v ops (yo ops.size m) i ws=true:=by
 unfold G0t at h;obtain⟨x,hx,hc⟩:=List.any_eq_true.1 h;simp only[q_i,DF,EM,FQ] at hc;obtain⟨⟨⟨c1,c2⟩,c3⟩,c4⟩:=hc;subst c1;obtain⟨o,o1,o2,o3,o4⟩:=(V2c hS x).1 hx;have hlt:x.j<ops.size:=(C3.1 o1).1;have c3':=(X0o x.am m).1 (by rw[FQ];exact c3);have hlt2: ∀k,x.am.testBit k=true->k<ops.size:=fun k hk=>by have h1:=q_b (List.all_eq_true.1 hn x hx);refine EV fun hle=> ?_;have:=Nat.testBit_lt_two_pow (q_e h1 (BS (by decide) hle));rw[this] at hk;cases hk
 unfold V0v;rw[q_i];refine⟨?_,?_⟩;have:x.j∈Region.ready .any ops (yo ops.size m):=mem_ready.2 ⟨by rw[Wz,BC hlt];exact c2,o,o1,fun e he hb=>by
  have hb':x.am.testBit e.on=true:=by rw[o2];exact(Z0x _ _).2 ⟨e,by simpa using he,hb,rfl⟩
  rw[Wz,BC (hlt2 _ hb')];exact c3' _ hb'⟩
 simpa using this;rw[DF];rcases c4 with c4 | c4;left;unfold JW;rw[o1];simp only;rw[<-o4,c4];rfl;right;refine List.all_eq_true.2 fun k hk=> ?_;have hk':=E0.1 hk;cases hok:ops[k]? with
 | none=>simp
 | some ok=>
  have hy:(⟨k,amL ok.after.toList,K3 ok.op,!Zr ok.op⟩:OpSm)∈S:=(V2c hS _).2 ⟨ok,hok,rfl,rfl,rfl⟩;have:=List.all_eq_true.1 c4 _ hy;simp only[DF,EM] at this⊢;rw[Wz,BC hk'];rcases this with ((a | a) | a) | a;exact .inr a;exact .inl (.inl (.inl a));exact .inl (.inl (.inr a));exact .inl (.inr a)
theorem vP {N m:Nat}{p:Plan}(h:K0a ops S N m p=true):qv ops N (yo ops.size m) p=true:=by
 unfold K0a at h;unfold qv;rw[DF] at h⊢;rcases h with h | h;refine .inr (List.all_eq_true.2 fun j hj=> ?_);obtain⟨r1,o,r2,r3⟩:=mem_ready.1 hj;have hlt:j<ops.size:=(C3.1 r2).1;have hy:(⟨j,amL o.after.toList,K3 o.op,!Zr o.op⟩:OpSm)∈S:=(V2c hS _).2 ⟨o,r2,rfl,rfl,rfl⟩;have:=List.all_eq_true.1 h _ hy;simp only[DF,EM] at this;rw[Wz,BC hlt] at r1;rcases this with (a | a) | a;rw[r1] at a;cases a;have:(amL o.after.toList&&&m==amL o.after.toList)=true:=(X0o _ _).2 fun k hk=>by obtain⟨e,e1,e2,rfl⟩:=(Z0x _ _).1 hk;have:=r3 e (by simpa using e1) e2;rw[Wz] at this;split at this;exact this;cases this
 rw[a] at this;cases this;exact a;exact .inl h
include hn in
theorem UW {N:Nat} : ∀(p:Plan) (f m:Nat),YF ops S N p f m=true->JR ops N p f (yo ops.size m)=true
 | .done,_,_,_=>by simp[JR]
 | .step _ _ _,0,_,h=>by simp[YF] at h
 | .step i ws rest,f+1,m,h=>by rw[YF,j0c,q_i,q_i] at h;rw[JR,q_i,q_i,<-X1v];exact⟨G0s hS hn h.1,UW rest f _ h.2.1,vP hS h.2.2⟩
 | .alt a b,f,m,h=>by
  have hb:YF ops S N a f m=true/\YF ops S N b f m=true:=by cases f<;>(rw[YF,q_i] at h;exact h)
  have h1:=UW a f m hb.1;have h2:=UW b f m hb.2;cases f<;>(rw[JR,q_i];exact⟨h1,h2⟩)
end
def z1u (ops:Array Oper)(S:List OpSm)(N:Nat)(p:Plan):Bool:=YF ops S N p ops.size 0&&K0a ops S N 0 p&&S.all fun x=>decide (x.am<2^ops.size)
theorem K1s {ops:Array Oper}{S:List OpSm}(hS:G1l 0 ops.toList=S){N:Nat}{p:Plan}(h:z1u ops S N p=true):wF ops N p=true:=by unfold z1u at h;rw[q_i,q_i] at h;unfold wF;rw[<-z0y,q_i];exact⟨UW hS h.2 p _ _ h.1.1,vP hS h.1.2⟩
theorem q0d {P:Program}{E:Ent}{id:Nat}{l:List Oper}{Q:Exit->PFS->Prop}{s:PFS}(hm:P.follows .mixedOrders=true)(N:Nat)(S:List OpSm)(p:Plan)(hS:G1l 0 l=S)(hB:z1u l.toArray S N p=true)(hl:N<=s.pa.length)
 (h:OW P l p (Q .normal) s):PWP P E (.region id l.toArray true) Q s:=Qm hm N p (K1s (by simpa using hS) hB) hl h
def PV.kill1 (i:Nat):PV->PV
 | .lp k off=>if k=i then .junk else .lp k off
 | .ms false k off len=>if k=i then .junk else .ms false k off len
 | .mr k len cap=>if k=i then .junk else .mr k len cap
 | .agg _ | .tup _ | .fn _ _ _=> .junk
 | p=>p
def PV.kill2 (i:Nat):PV->PV
 | .agg l=> .agg (l.map (PV.kill1 i))
 | .fn f l m=> .fn f (l.map (PV.kill1 i)) (m.map (PV.kill1 i))
 | p=>p.kill1 i
def PV.kill (i:Nat):PV->PV
 | .tup l=> .tup (l.map (PV.kill2 i))
 | p=>p.kill2 i
def PV.quiet :PV->Bool
 | .lp _ _ | .ms false _ _ _ | .mr _ _ _ | .agg _ | .tup _ | .fn _ _ _ | .sl (.own _) _ | .sl (.fresh _) _=>false
 | _=>true
theorem vd {p:PV}(h:p.quiet=true):p.closed2=true/\p.forget2.cells= [p.forget2]:=by
 cases p with
 | lp k off=>cases h
 | ms gl k off len=>cases gl with | true=>exact⟨rfl,rfl⟩ | false=>cases h
 | mr k len cap=>cases h
 | agg l=>cases h
 | tup l=>cases h
 | fn f l m=>cases h
 | sl t es=>cases t with | own k=>cases h | fresh k=>cases h | _=>exact⟨rfl,rfl⟩
 | _=>exact⟨rfl,rfl⟩
theorem H0w {p:PV}{a b:Nat}(h:p.quiet=true):p.lim a b=true:=by
 cases p with
 | lp k off=>cases h
 | ms gl k off len=>cases gl with | true=>rfl | false=>cases h
 | mr k len cap=>cases h
 | agg l=>cases h
 | tup l=>cases h
 | fn f l m=>cases h
 | sl t es=>cases t with | own k=>cases h | fresh k=>cases h | _=>rfl
 | _=>rfl
theorem Kr {l:List PV}{a b:Nat}(h:l.all PV.quiet=true):l.all (PV.lim a b)=true:=List.all_eq_true.2 fun p hp=>H0w (List.all_eq_true.1 h p hp)
theorem yI {p:PV}(i:Nat)(h:p.quiet=true):p.kill1 i=p:=by
 cases p with
 | lp k off=>cases h
 | ms gl k off len=>cases gl with | true=>rfl | false=>cases h
 | mr k len cap=>cases h
 | agg l=>cases h
 | tup l=>cases h
 | fn f l m=>cases h
 | _=>rfl
section
variable {w w':World} {g g':Gh} {F F':Fr} {T:List (Nat×Nat)} {i:Nat}
theorem RepF.kill1 {v:Value}{p:PV}(hle:Le w g w' g')(hnl:F.nl<=F'.nl)(hmu: ∀j,j<F.nl->j≠i->F'.lmu j=F.lmu j)(ht:GC w g F T w' g' F' T)(h:RepF w g F T v p):RepF w' g' F' T v (p.kill1 i):=by
 cases h with
 | base v p hp=>
  have hp':=hp.mono hle;cases p with
  | lp k off=>cases hp
  | ms gl k off len=>cases gl with
   | true=>exact .base _ _ hp'
   | false=>cases hp
  | mr k len cap=>cases hp
  | agg l=>exact .base _ _ (.junk _)
  | tup l=>exact .base _ _ (.junk _)
  | fn f l m=>exact .base _ _ (.junk _)
  | _=>exact .base _ _ hp'
 | lp k off hk=>
  simp only[PV.kill1];split;exact .base _ _ (.junk _);rename_i hne;rw[<-hmu k hk hne];exact .lp k off (q_e hk hnl)
 | lms k off len cap hk hcap=>
  simp only[PV.kill1];split;exact .base _ _ (.junk _);rename_i hne;rw[<-hmu k hk hne];exact .lms k off len cap (q_e hk hnl) hcap
 | lmr k len cap hk hcap=>
  simp only[PV.kill1];split;exact .base _ _ (.junk _);rename_i hne;rw[<-hmu k hk hne];exact .lmr k len cap (q_e hk hnl) hcap
 | lmr0 k ad hk=>
  simp only[PV.kill1];split;exact .base _ _ (.junk _);exact .lmr0 k ad (q_e hk hnl)
 | own k es v hp hk hle' hr=>
  obtain⟨t1,t2⟩:=ht.2 k hk;exact .own k es v (hp.mono hle) (q_e hk ht.1) (B7 hle' t1) (fun e=>t2 oG v es (hr oG))
 | agg vs cs hl h=>exact .base _ _ (.junk _)
 | tup vs cs hl h=>exact .base _ _ (.junk _)
 | fn f us vs bs cs hk hl h0 h=>exact .base _ _ (.junk _)
theorem RepF.kill2 {v:Value}{p:PV}(hle:Le w g w' g')(hnl:F.nl<=F'.nl)(hmu: ∀j,j<F.nl->j≠i->F'.lmu j=F.lmu j)(ht:GC w g F T w' g' F' T)(h:RepF w g F T v p):RepF w' g' F' T v (p.kill2 i):=by
 have gm: ∀(l:List PV) (j:Nat),(l.map (PV.kill1 i)).getD j .junk=(l.getD j .junk).kill1 i:=fun l j=>QU rfl l j;cases p with
 | agg l=>
  obtain⟨vs,rfl,hl,hv⟩:=h.agg_inv;exact .agg vs _ (by simpa using hl) fun j hj=>by rw[gm];exact(hv j (by simpa using hj)).kill1 hle hnl hmu ht
 | fn f l m=>
  cases h with
  | base _ _ h=>
   cases h with
   | fn f us vs bs cs' hk hl h0 h=>
    exact .fn f us vs _ _ (by simpa using hk) (by simpa using hl) (fun j hj=>by rw[gm];exact(RepF.base _ _ (h0 j (by simpa using hj))).kill1 hle hnl hmu ht) fun j hj=>by rw[gm];exact(RepF.base _ _ (h j (by simpa using hj))).kill1 hle hnl hmu ht
  | fn f us vs bs cs' hk hl h0 h=>
   exact .fn f us vs _ _ (by simpa using hk) (by simpa using hl) (fun j hj=>by rw[gm];exact(h0 j (by simpa using hj)).kill1 hle hnl hmu ht) fun j hj=>by rw[gm];exact(h j (by simpa using hj)).kill1 hle hnl hmu ht
 | _=>exact RepF.kill1 hle hnl hmu ht h
theorem RepF.kill {v:Value}{p:PV}(hle:Le w g w' g')(hnl:F.nl<=F'.nl)(hmu: ∀j,j<F.nl->j≠i->F'.lmu j=F.lmu j)(ht:GC w g F T w' g' F' T)(h:RepF w g F T v p):RepF w' g' F' T v (p.kill i):=by
 cases p with
 | tup l=>
  obtain⟨vs,rfl,hl,hv⟩:=h.tup_inv;exact .tup vs _ (by simpa using hl) fun j hj=>by rw[show(l.map (PV.kill2 i)).getD j .junk=(l.getD j .junk).kill2 i from QU rfl l j];exact(hv j (by simpa using hj)).kill2 hle hnl hmu ht
 | _=>exact RepF.kill2 hle hnl hmu ht h
theorem V0j :GC w g F T w g F T:=⟨BD _,fun i hi=>⟨BD _,fun _ _ _ h=>h⟩⟩
end
def PFS.room (i:Nat)(X:List PV)(s:PFS):PFS:=⟨s.pa.map (PV.kill i),(s.L.map fun l=>l.map (PV.kill i)).set i X,s.T,s.st⟩
theorem UO {s:PFS}{i k:Nat}{X:List PV}(hk:i≠k):(s.room i X).L.getD k []=(s.L.getD k []).map (PV.kill i):=by show((s.L.map fun l=>l.map (PV.kill i)).set i X).getD k []=_;rw[Qo _ _ _ _ _ hk,Jo (f:=fun l=>l.map (PV.kill i)) rfl]
theorem FSRep.room_same {E:Ent}{a:Act}{w:World}{g:Gh}{F:Fr}{s:PFS}(h:FSRep E a w g F s)(i:Nat):FSRep E a w g F (s.room i (s.L.getD i [])):=by
 have hk: ∀v p,RepF w g F s.T v p->RepF w g F s.T v (p.kill i):=fun v p hr=>hr.kill (.refl _ _) (BD _) (fun _ _ _=>rfl) V0j;have hL: ∀k,(s.room i (s.L.getD i [])).L.getD k []≠ []->s.L.getD k []≠ []:=fun k hk0 e=>by by_cases hik:i=k;subst hik;apply hk0;show((s.L.map fun l=>l.map (PV.kill i)).set i (s.L.getD i [])).getD i []= [];rw[e,Xe];rw[UO hik,e] at hk0;exact hk0 rfl
 refine⟨h.ext,h.store,⟨by simp[PFS.room,h.frame.nl],fun k hk0=>h.frame.lo k (hL k hk0),fun k hk0=>h.frame.apart k (hL k hk0),fun k j hk0 hj=>h.frame.inj k j (hL k hk0) (hL j hj),fun k hk0=> ?_,h.frame.tlo,fun k b hk0 hb=>⟨(h.frame.tapart k b hk0 hb).1,fun j hj=>(h.frame.tapart k b hk0 hb).2 j (hL j hj)⟩,h.frame.tinj⟩,h.defers,by simp[PFS.room,h.len],fun t ht=> ?_⟩;by_cases hik:i=k;subst hik;have hi:i<s.L.length:=by apply EV;intro hle;apply hL i hk0;rw[q_a,C2 hle];rfl
 have e:(s.room i (s.L.getD i [])).L.getD i []=s.L.getD i []:=Qt _ _ _ _ (by simpa using hi);rw[e];exact h.frame.holds i (hL i hk0);rw[UO hik];intro j hj;obtain⟨q1,c,q2,q3⟩:=h.frame.holds k (hL k hk0) j (by simpa using hj);exact⟨q1,c,q2,by rw[QU (f:=PV.kill i) rfl];exact hk _ _ q3⟩;show RepF w g F s.T _ ((s.pa.map (PV.kill i)).getD t .junk);rw[QU (f:=PV.kill i) rfl];exact hk _ _ (h.tmps t (by simpa[PFS.room] using ht))
theorem FSRep.room_new {E:Ent}{a:Act}{w:World}{g:Gh}{F:Fr}{s:PFS}(h:FSRep E a w g F s)(i:Nat)(hi:i<s.L.length)(ty:TypeId)(vs:Array Value)(X:List PV)(hl:X.length<=vs.size)
 (hq: ∀p∈X,p.quiet=true) (hr: ∀j,j<X.length->RepF w g F s.T (vs.getD j undef) (X.getD j .junk)):
 ∃g' F',FSRep E a (w.alloc (.cells vs ty)) g' F' (s.room i X)/\F'.lmu i=w.heap.size/\i<F'.nl:=by
 obtain⟨k,hz⟩:=G5 w g (.cells vs ty) 0 h.store.none;obtain⟨f1,f2⟩:=h.frame.step k (fun _ _ h=>h) (fun _ _ _ _ h=>h)
 let F':Fr:=⟨F.nl,fun j=>if j=i then w.heap.size else F.lmu j,F.tb⟩
 have hnl:=h.frame.nl;have hmu: ∀j,j<F.nl->j≠i->F'.lmu j=F.lmu j:=fun j _ hj=>(by simp only[F'];rw[BA hj]);have ht:GC w g F s.T (w.alloc (.cells vs ty)) { g with vis:=fun b=>if b=w.heap.size then 0 else g.vis b } F' s.T:=⟨BD _,fun i hi=>⟨BD _,fun _ v es hR=>hR.mono fun b hb=>k.old b (h.frame.tlo i b hi hb).2.1 (fun h=>h)⟩⟩;have hm: ∀v p,RepF w g F s.T v p->RepF (w.alloc (.cells vs ty)) { g with vis:=fun b=>if b=w.heap.size then 0 else g.vis b } F' s.T v (p.kill i):=fun v p hp=>hp.kill k.le (show F.nl<=F'.nl from BD _) hmu ht;have hm1: ∀v p,RepF w g F s.T v p->RepF (w.alloc (.cells vs ty)) { g with vis:=fun b=>if b=w.heap.size then 0 else g.vis b } F' s.T v (p.kill1 i):=fun v p hp=>hp.kill1 k.le (show F.nl<=F'.nl from BD _) hmu ht;have hL: ∀k,i≠k->(s.room i X).L.getD k []≠ []->s.L.getD k []≠ []:=fun k hik hk0 e=>(by rw[UO hik,e] at hk0;exact hk0 rfl);have hX:(s.room i X).L.getD i []=X:=Qt _ _ _ _ (by simpa using hi);have hne: ∀k,s.L.getD k []≠ []->F.lmu k≠w.heap.size:=fun k hk e=>(by have:=(h.frame.lo k hk).2.1;omega);have e1:F'.lmu i=w.heap.size:=(by simp[F']);have e2: ∀k,i≠k->F'.lmu k=F.lmu k:=fun k hk=>(by simp only[F'];rw[BA (fun e=>hk e.symm)]);refine⟨_,F',⟨h.ext.step k (fun _ h=>h.elim),h.store.step k rfl (fun _ _ h=>h) hz,⟨?_,fun k hk0=> ?_,fun k hk0 j hj e=> ?_,fun k j hk0 hj e=> ?_,fun k hk0=> ?_,f1.tlo,fun k b hk0 hb=>⟨(f1.tapart k b hk0 hb).1,fun j hj e=> ?_⟩,f1.tinj⟩,h.defers,by simp[PFS.room,h.len],fun t ht0=> ?_⟩,e1,by simp only[F'];omega⟩;simp[F',PFS.room,hnl];by_cases hik:i=k;subst hik;rw[e1];exact⟨h.ext.size,by simp,by simp⟩;rw[e2 k hik];exact f1.lo k (hL k hik hk0);by_cases hik:i=k;subst hik;rw[e1] at e;have:=h.store.lt j hj;simp only at e;omega;rw[e2 k hik] at e;exact f1.apart k (hL k hik hk0) j hj e;by_cases hik:i=k<;>by_cases hij:i=j;omega;subst hik;rw[e1,e2 j hij] at e;exact absurd e.symm (hne j (hL j hij hj));subst hij;rw[e1,e2 k hik] at e;exact absurd e (hne k (hL k hik hk0));rw[e2 k hik,e2 j hij] at e;exact h.frame.inj k j (hL k hik hk0) (hL j hij hj) e;by_cases hik:i=k;subst hik;rw[hX,e1];intro j hj;refine⟨World.frozen?_alloc_new w vs ty j,vs.getD j undef,?_,?_⟩;rw[World.cell?_alloc_new,q_f,CW oG];rfl;have:=hm1 _ _ (hr j hj);rwa [yI i (hq _ (Qq _ _ _ hj))] at this;rw[UO hik,e2 k hik];have h0:=h.frame.holds k (hL k hik hk0);have hlt:=(h.frame.lo k (hL k hik hk0)).2.1;intro j hj;obtain⟨q1,c,q2,q3⟩:=(Holds.mono (R':=RepF w g F s.T) h0 (heap_alloc_old w (.cells vs ty) hlt) (fun _ _ h=>h)) j (by simpa using hj);exact⟨q1,c,q2,by rw[QU (f:=PV.kill i) rfl];exact hm _ _ q3⟩;by_cases hij:i=j;subst hij;rw[e1] at e;have:=(h.frame.tlo k b hk0 hb).2.1;omega;rw[e2 j hij] at e;exact(h.frame.tapart k b hk0 hb).2 j (hL j hij hj) e;show RepF _ _ F' s.T _ ((s.pa.map (PV.kill i)).getD t .junk);rw[QU (f:=PV.kill i) rfl];exact hm _ _ (h.tmps t (by simpa[PFS.room] using ht0))
theorem K6 (n j:Nat):(List.replicate n PV.junk).getD j .junk= .junk:=by rw[q_a,List.getElem?_replicate];split<;>rfl
def K0y (cs:List PV)(len cap:Nat)(ys:List PV)(e:EI):Prop:=
 e.zok=true/\0<e.sz/\cs.length=cap*e.sz/\len+ys.length<=1152921504606846976/\(len+ys.length)*e.by_<=140737488355328/\
  ys.all (fun x=>(x.cells.length==e.sz)&&x.cells.all PV.cellOK)=true/\cs.all PV.quiet=true/\(flat ys).all PV.quiet=true
theorem jg {cs:List PV}(h:cs.all PV.quiet=true): ∀p∈cs,p.quiet=true:=List.all_eq_true.1 h
theorem v0v {P:Program}{E:Ent}{a:Act}{w:World}{g:Gh}{F:Fr}{s:PFS}{t tx e':TypeId}{e:EI}(hu:P.underlying t=some (.slice e.id))(hei:ei P e.id=some e)(hu2:P.underlying tx=some (.slice e')){ys:List PV}{v x:Value}{ty:TypeId}{i len cap:Nat}
 (h:FSRep E a w g F s) (hv:RepF w g F s.T v (.mr i len cap)) (hx:Rep w g x (.sl .no ys)) (hok:K0y (s.L.getD i []) len cap ys e):
 ∃cap' R,len+ys.length<=cap'/\R.length=(cap'-(len+ys.length))*e.sz/\R.all PV.quiet=true/\
  zi P E a w (do pure (.value (<-Builtin.append_ #[t,tx] ty #[v,x]))) (.mr i (len+ys.length) cap') (s.room i ((s.L.getD i []).take (len*e.sz)++(flat ys++R))):=by
 obtain⟨c1,c0,cl,c2,c3,c5,c6,c7⟩:=hok;obtain⟨news,hs⟩:=Wn (P:=P) hu2 hx c5;obtain⟨ti,u,hi,hu',he⟩:=Jf hei;have e1:ti.size=e.sz:=(by rw[he]);have e2:ti.bytes=e.by_:=(by rw[he]);obtain⟨z,hz,hzs⟩: ∃z,ti.zero=some z/\z.cells.size=ti.size:=by have:=B4 EI.zok he;rw[c1] at this;simp only at this;split at this;rename_i z hz;exact⟨z,hz,by simpa using this.symm⟩;cases this
 have hfl:=Z5 hs.each;have hnl:news.length=ys.length*e.sz:=hs.src.newsLen;have hs0:=hs;rw[<-e1] at hs;generalize hcs:s.L.getD i []=cs at*
 have hil:i<F.nl/\len<=cap:=by
  cases hv with
  | base _ _ h=>cases h
  | lmr i len cap hi hcap=>exact⟨hi,hcap⟩
  | lmr0 i ad hi=>exact⟨hi,BD _⟩
 have hiL:i<s.L.length:=by rw[<-h.frame.nl];exact hil.1
 --a new block
 have grow: ∀(base:Option Addr),v= .slice base len cap->cap<len+ys.length->(olds:List Value)->olds.length=len*e.sz->
  (Builtin.firstCells ti.size len (.slice base len cap)).run P w.drew= .ok olds.toArray w.drew->
  (∀m,m<len*e.sz->RepF w g F s.T (olds.getD m undef) (cs.getD m .junk))->
  ∃cap' R,len+ys.length<=cap'/\R.length=(cap'-(len+ys.length))*e.sz/\R.all PV.quiet=true/\
   zi P E a w (do pure (.value (<-Builtin.append_ #[t,tx] ty #[v,x]))) (.mr i (len+ys.length) cap') (s.room i (cs.take (len*e.sz)++(flat ys++R))):=by
  intro base hvb hcap olds hol hold hrolds;subst hvb;have hrun:=run_append_grow_src (P:=P) w t tx ty e.id ti z hu hi hz base len cap olds hold x ys.length news hs.src hcap oG (growslice_fits hcap (by rw[e2];exact c3));generalize hvs:(olds++news).toArray++Builtin.zeroCells z.cells (grownCap w (len+ys.length) cap e.id-(len+ys.length))=vs at hrun;have hge:=grownCap_ge w (len+ys.length) cap e.id;generalize grownCap w (len+ys.length) cap e.id=C at*
  obtain⟨d1,d2⟩:=h.drew;have hvsz:vs.size=C*e.sz:=by rw[<-hvs,Array.size_append,size_zeroCells,hzs,e1];simp only[E2,BH,hol,hnl,<-BQ];congr 1;omega
  let R:=List.replicate ((C-(len+ys.length))*e.sz) PV.junk
  have hlenX:(cs.take (len*e.sz)).length=len*e.sz:=by rw[BX,cl];have:=BG e.sz hil.2;omega
  have hX:(cs.take (len*e.sz)++(flat ys++R)).length=C*e.sz:=by rw[BH,BH,hlenX,hfl,ES,<-BQ,<-BQ];congr 1;omega
  obtain⟨g',F',f1,f2,f3⟩:=d1.room_new i hiL e.id vs (cs.take (len*e.sz)++(flat ys++R)) oG (fun p hp=>by
   rcases DN.1 hp with hp | hp;exact jg c6 p (List.mem_of_mem_take hp);rcases DN.1 hp with hp | hp;exact jg c7 p hp;rw[List.eq_of_mem_replicate hp];rfl) (fun m hm=>by
   by_cases h1:m<len*e.sz;have hlo:m<(olds++news).toArray.size:=(by simp only[E2,BH,hol];omega);rw[<-hvs,Array.getD_append_left' _ _ _ _ hlo,Z0,Qk _ _ _ _ oG,Qk _ _ _ _ oG,JX _ _ _ _ h1];exact d2 _ _ (hrolds m h1);rw[Ql _ _ _ _ oG,hlenX];by_cases h2:m-len*e.sz<(flat ys).length;have h3:m-len*e.sz<ys.length*e.sz:=oG;have hlo:m<(olds++news).toArray.size:=(by simp only[E2,BH,hol];omega);rw[<-hvs,Array.getD_append_left' _ _ _ _ hlo,Z0,Ql _ _ _ _ oG,hol,Qk _ _ _ _ h2,XT hs0.each _ h3];exact d2 _ _ (.base _ _ (hs0.rep _ h3));rw[Ql _ _ _ _ oG,K6];exact .base _ _ (.junk _))
  refine⟨C,R,hge,by simp[R],List.all_eq_true.2 fun p hp=>by rw[List.eq_of_mem_replicate hp];rfl,_,_,g',F',by simp only[Sem.run_bind,hrun,Result.andThen_ok,Sem.run_pure];rfl,f1,.inl ⟨_,rfl,?_⟩⟩;have:=RepF.lmr (w:=w.drew.alloc (.cells vs e.id)) (g:=g') (F:=F') (T:=s.T) i (len+ys.length) C f3 hge;rw[f2] at this;exact this
 --what lies in the box
 have hcell: ∀ad,v= .slice ad len cap->(0<cap->ad=some ⟨F.lmu i,0,none⟩)-> ∃olds:List Value,olds.length=len*e.sz/\(Builtin.firstCells ti.size len (.slice ad len cap)).run P w.drew= .ok olds.toArray w.drew/\ ∀m,m<len*e.sz->RepF w g F s.T (olds.getD m undef) (cs.getD m .junk):=fun ad hv' had=>by
  by_cases hc0:0<cap;have:=had hc0;subst this;have hne:s.L.getD i []≠ []:=fun e0=>by rw[hcs] at e0;rw[e0] at cl;have:=Nat.mul_pos hc0 c0;simp at cl;omega
  obtain⟨cf,hcf⟩:=(h.frame.holds i hne).pick;rw[hcs] at hcf;have hle:len*e.sz<=cs.length:=(by rw[cl];exact BG _ hil.2);refine⟨(List.range (len*e.sz)).map cf,by simp,?_,fun m hm=> ?_⟩;refine run_firstCells_some w.drew ti.size len ⟨F.lmu i,0,none⟩ len cap _ (by simp[e1]) (fun j u hu=> ?_);rw[Addr.add_mid,World.cell?_drew,CU];have hj:j<len*e.sz:=by have:=(FB.1 hu).1;simpa using this
  rw[(hcf j oG).1];simp[EE hj] at hu;rw[hu];have e0:((List.range (len*e.sz)).map cf).getD m undef=cf m:=(by simp[q_a,hm]);rw[e0];exact(hcf m oG).2;have hc0':cap=0:=oG;have hl0:len=0:=(by have:=hil.2;omega);subst hl0 hc0';refine⟨[],by simp,?_,fun m hm=>by simp at hm⟩;cases ad with
  | none=>exact run_firstCells_none _ _ _ _ _
  | some a=>simp[Builtin.firstCells,loadCells,loadCellsFrom]
 have hform: ∃ad,v= .slice ad len cap/\(0<cap->ad=some ⟨F.lmu i,0,none⟩):=by
  cases hv with
  | base _ _ h=>cases h
  | lmr i len cap hi hcap=>exact⟨_,rfl,fun _=>rfl⟩
  | lmr0 i ad hi=>exact⟨ad,rfl,fun h=>absurd h (Nat.lt_irrefl 0)⟩
 obtain⟨ad,hva,had⟩:=hform;by_cases hroom:len+ys.length<=cap;by_cases hc0:0<cap
 --in HG
 have:=had hc0;subst this hva;have hne:s.L.getD i []≠ []:=fun e0=>by rw[hcs] at e0;rw[e0] at cl;have:=Nat.mul_pos hc0 c0;simp at cl;omega
 have hfit:len*e.sz+(flat ys).length<=cs.length:=by rw[hfl,cl,<-BQ];exact BG _ hroom
 have hh:=h.frame.holds i hne;rw[hcs] at hh;have hrun:=run_append_room_src (P:=P) w t tx ty e.id ti hu hi (F.lmu i) 0 len cap x ys.length news hs.src hroom (fun j hj=>by obtain⟨_,c,q2,_⟩:=hh (0+len*ti.size+j) (by rw[e1];omega);rw[q2];rfl) (fun j hj=>(hh (0+len*ti.size+j) (by rw[e1];omega)).1);rw[e1,CU] at hrun;obtain⟨f1,f2⟩:=h.storeL i (len*e.sz) news (flat ys) (by rw[hnl,hfl]) hne (by rw[hcs];exact hfit) (fun j hj=>by have hj':j<ys.length*e.sz:=oG;rw[XT hs0.each j hj'];exact .base _ _ (hs0.rep j hj'));have f3:=f1.room_same i;have e3:({ s with L:=s.L.set i (Zx (s.L.getD i []) (len*e.sz) (flat ys)) } :PFS).L.getD i []=Zx cs (len*e.sz) (flat ys):=(by show(s.L.set i _).getD i []=_;rw[Qt _ _ _ _ hiL,hcs]);rw[e3] at f3;have e4:({ s with L:=s.L.set i (Zx (s.L.getD i []) (len*e.sz) (flat ys)) } :PFS).room i (Zx cs (len*e.sz) (flat ys))=s.room i (Zx cs (len*e.sz) (flat ys)):=(by unfold PFS.room;congr 1;simp only[FA,EH]);rw[e4] at f3;refine⟨cap,cs.drop (len*e.sz+(flat ys).length),hroom,?_,List.all_eq_true.2 fun p hp=>jg c6 p (List.mem_of_mem_drop hp),_,_,g,F,by simp only[Sem.run_bind,hrun,Result.andThen_ok,Sem.run_pure];rfl,?_,.inl ⟨_,rfl,.lmr i _ cap hil.1 hroom⟩⟩;rw[DM,cl,hfl,<-BQ,<-Nat.sub_mul];have e5:Zx cs (len*e.sz) (flat ys)=cs.take (len*e.sz)++(flat ys++cs.drop (len*e.sz+(flat ys).length)):=(by unfold Zx;rw[BP]);rw[<-e5];exact f3
 --nothing into nothing
 have hc0':cap=0:=oG;have hl0:len=0:=(by have:=hil.2;omega);have hy:ys= []:=BY oG;subst hl0 hc0' hy hva;have hn:news= []:=BY (by simpa using hnl);subst hn;have hcs0:cs= []:=BY (by simpa using cl);have hc:(Builtin.firstCells ti.size 0 x).run P w= .ok #[] w:=hs.src.cells;have hrun:(Builtin.append_ #[t,tx] ty #[.slice ad 0 0,x]).run P w= .ok (.slice ad 0 0) w:=by
  rcases hs.src.kind with ⟨e',hk'⟩ | hk'<;>cases ad<;>
   simp[Builtin.append_,run_underlying hu,run_underlying hk',sizeOf,typeInfo,hi,hs.src.len,hc,storeCells]
 have f3:=h.room_same i;rw[hcs,hcs0] at f3;refine⟨0,[],BD _,by simp,rfl,_,_,g,F,by simp only[Sem.run_bind,hrun,Result.andThen_ok,Sem.run_pure];rfl,by rw[hcs0];simpa[flat] using f3,.inl ⟨_,rfl,.lmr0 i ad hil.1⟩⟩;obtain⟨olds,o1,o2,o3⟩:=hcell ad hva had;exact grow ad hva oG olds o1 o2 o3
def x1t (T U:Option TI)(x y:PV)(s:PFS)(K:PV->PFS->Prop):Prop:=
 match T,U,x,y with
 | some ⟨_,_,.slice e,_⟩,some ⟨_,_,.slice _,_⟩,.mr i len cap,.sl _ ys=>K0y (s.L.getD i []) len cap ys e/\ ∀cap' R,len+ys.length<=cap'->R.length=(cap'-(len+ys.length))*e.sz->R.all PV.quiet=true->
  K (.mr i (len+ys.length) cap') (s.room i ((s.L.getD i []).take (len*e.sz)++(flat ys++R)))
 | _,_,_,_=>False
def x1y (P:Program)(o:Oper)(K:PFS->Prop)(s:PFS):Prop:=
 match o.op with
 | .call { callee:= .builtin .append,args,argTypes } =>
  match argTypes.toList,args.toList with
  | [t,u],[x,y]=>x1t (ti P t) (ti P u) (s.ev x) (s.ev y) s (fun p s'=>K (s'.put o.dst p))
  | _,_=>False
 | _=>False
theorem U0g {P:Program}{E:Ent}{a:Act}{w:World}{g:Gh}{F:Fr}{s:PFS}{o:Oper}{K:PFS->Prop}(h:FSRep E a w g F s)(hp:x1y P o K s){next:Act->World->Prop}{Q:Exit->Act->World->Prop}
 (hn: ∀a' w' g' F' s',FSRep E a' w' g' F' s'->K s'->next a' w'):o.wp P a w next Q:=by
 unfold x1y at hp;split at hp;rotate_left;exact hp.elim;rename_i args ts heq;split at hp;rotate_left;exact hp.elim;rename_i t u o1 o2 hts hargs;unfold x1t at hp;split at hp;rotate_left;exact hp.elim;rename_i e _ _ _ e2 _ i len cap tg ys hT hU h1 h2;obtain⟨c1,hk⟩:=hp;obtain⟨_,_,_,hu,hT'⟩:=Q7 hT;obtain⟨rfl,hei⟩:=QV (B4 TI.ud hT').symm;obtain⟨_,_,_,hu2,hU'⟩:=Q7 hU;obtain⟨rfl,_⟩:=QV (B4 TI.ud hU').symm;have ha:args= #[o1,o2]:=(by rw[<-hargs]);have ht:ts= #[t,u]:=(by rw[<-hts]);subst ha ht;have hv:=h.ev o1;rw[h1] at hv;have hx:=h.ev o2;rw[h2] at hx;obtain⟨cap',R,hc1,hc2,hc3,nx,w',g',F',r1,r2,r3⟩:=v0v (P:=P) (ty:=o.type) hu hei hu2 h hv hx.slNo c1;have hex:(execOp a.eval o).run P w= .ok nx w':=by unfold execOp;simp only[heq,resolve,invoke,Sem.run_bind,Sem.run_pure,Result.andThen_ok];show(do pure (Next.value (<-Builtin.append_ #[t,u] o.type (Array.map a.eval #[o1,o2]))):Sem Next).run P w=_;rw[<-r1];simp
 unfold Oper.wp;rw[hex];rcases r3 with ⟨v,rfl,hv⟩ | ⟨rfl,hj⟩;exact hn _ _ _ _ _ (r2.put o.dst hv) (hk cap' R hc1 hc2 hc3);cases hj
theorem Q2k {P:Program}{o:Oper}{K:PFS->Prop}{s:PFS}(hp:x1y P o K s): ∀c,o.op≠ .defer c:=by intro c hc;unfold x1y at hp;rw[hc] at hp;exact hp
theorem w0e {P:Program}{E:Ent}{a:Act}{w:World}{g:Gh}{F:Fr}{s:PFS}{o:Oper}{K:PFS->Prop}(h:FSRep E a w g F s)(hp:x1y P o K s){next:Act->World->Prop}{Q:Exit->Act->World->Prop}
 (hn: ∀a' w' g' F' s',FSRep E a' w' g' F' s'->K s'->next a' w'):o.wpIn (fen E.rd) 0 P a w next Q:=
 X0c E.rd (Q2k hp) (U0g h hp hn)
def U1l (P:Program)(ops:List Oper):List Bool->List Oper->(PFS->Prop)->PFS->Prop
 | _,[],K,s=>K s
 | [],rest,K,s=>OL0 P ops rest K s
 | true::bs,o::rest,K,s=>o.guard=none/\x1y P o (U1l P ops bs rest K) s
 | false::bs,o::rest,K,s=>
  match o.guard with
  | none=>OC0 P o (U1l P ops bs rest K) s
  | some (j,want)=>GK0 (Zn ops s j want) want (OC0 P o (U1l P ops bs rest K) s) (U1l P ops bs rest K (s.put o.dst (.tup [])))
theorem zf {P:Program}{E:Ent}{ops:Array Oper}{Q:Exit->Act->World->Prop}{K:PFS->Prop}(hK: ∀a' w' g' F' s',FSRep E a' w' g' F' s'->K s'->Q .normal a' w'):
 ∀(bs:List Bool) (rest:List Oper) (a:Act) (w:World) (g:Gh) (F:Fr) (s:PFS),FSRep E a w g F s->U1l P ops.toList bs rest K s->wpListIn (fen E.rd) 0 P ops Q rest a w
 | bs,[],a,w,g,F,s,h,hp=>hK a w g F s h (by unfold U1l at hp;exact hp)
 | [],o::rest,a,w,g,F,s,h,hp=>GD hK (o::rest) a w g F s h (Iq hp)
 | true::bs,o::rest,a,w,g,F,s,h,hp=>by obtain⟨hg,hp⟩:=hp;have ih:=zf (P:=P) (ops:=ops) hK bs rest;unfold wpListIn;rw[BC (by simp[Region.wanted,hg])];exact w0e h hp fun a' w' g' F' s' hr hk=>ih a' w' g' F' s' hr hk
 | false::bs,o::rest,a,w,g,F,s,h,hp=>by
  have ih:=zf (P:=P) (ops:=ops) hK bs rest;unfold U1l at hp;unfold wpListIn;cases hg:o.guard with
  | none=>
   rw[hg] at hp;rw[BC (by simp[Region.wanted,hg])];exact JL h (KS hp) fun a' w' g' F' s' hr hk=>ih a' w' g' F' s' hr hk
  | some x=>
   obtain⟨j,want⟩:=x;rw[hg] at hp;simp only at hp;cases hb:Zn ops.toList s j want with
   | none=>rw[hb] at hp;exact hp.elim
   | some b=>
    rw[hb] at hp;obtain⟨h1,h2⟩:=hp;have hy:=K4 h hb;by_cases e:b=want;have hx:=h1 e;subst e;rw[BC (by unfold Region.wanted;rw[hg];simp only;rw[hy];simp)];exact JL h (KS hx) fun a' w' g' F' s' hr hk=>ih a' w' g' F' s' hr hk;rw[BA (by unfold Region.wanted;rw[hg];simp only;rw[hy];simp[e])];exact⟨Vx,ih _ w g F _ (h.put o.dst (.base _ _ (Ws _ _))) (h2 e)⟩
def OLr (P:Program)(ops:List Oper)(bs:List Bool)(rest:List Oper)(K:PFS->Prop)[Stop ops][Stop rest][Stop K](s:PFS):Prop:=U1l P ops bs rest K s
def POr (P:Program)(o:Oper)(K:PFS->Prop)[Stop o][Stop K](s:PFS):Prop:=x1y P o K s
theorem Q1r {P:Program}{E:Ent}{id:Nat}{l:List Oper}{Q:Exit->PFS->Prop}{s:PFS}(bs:List Bool)(h:OLr P l bs l (Q .normal) s):PWP P E (.region id l.toArray false) Q s:=fun a w g F hr=>
 wpIn_region_list (zf (fun a' w' g' F' s' hr' hk=>⟨g',F',s',hr',hk⟩) bs l a w g F s hr h)
section
variable {P:Program} {s:PFS} {K:PFS->Prop} {d:Option Tmp} {ty:TypeId} {pos:String} {af:Array Edge}
@[go_sem] theorem Y2v {ops:List Oper}{bs:List Bool} :OLr P ops bs [] K s=K s:=by cases bs<;>rfl
@[go_sem] theorem H2g {ops rest:List Oper}{bs:List Bool}{op:Op} :OLr P ops (true::bs) (⟨d,op,ty,pos,af,none⟩::rest) K s=POr P ⟨d,op,ty,pos,af,none⟩ (OLr P ops bs rest K) s:=by show((none:Option (Nat×Bool))=none/\_)=_;simp only[F9];rfl
@[go_sem] theorem H2h {ops rest:List Oper}{bs:List Bool}{op:Op} :OLr P ops (false::bs) (⟨d,op,ty,pos,af,none⟩::rest) K s=OC P ⟨d,op,ty,pos,af,none⟩ (OLr P ops bs rest K) s:=(rfl)
@[go_sem] theorem G2i {ops rest:List Oper}{bs:List Bool}{op:Op}{j:Nat}{want:Bool} :OLr P ops (false::bs) (⟨d,op,ty,pos,af,some (j,want)⟩::rest) K s=
 GK (Zn ops s j want) want (OC P ⟨d,op,ty,pos,af,some (j,want)⟩ (OLr P ops bs rest K) s) (OLr P ops bs rest K (s.put d (.tup []))):=rfl
def U1h (T U:Option TI)(x y:PV)(s:PFS)(K:PV->PFS->Prop)[Stop K]:Prop:=x1t T U x y s K
@[go_sem] theorem Y2m {x y:Operand}{t u:TypeId} :POr P ⟨d,.call ⟨.builtin .append,[x,y].toArray,[t,u].toArray⟩,ty,pos,af,none⟩ K s=U1h (ti P t) (ti P u) (s.ev x) (s.ev y) s (fun p s'=>K (s'.put d p)):=(rfl)
@[go_sem] theorem Q2d {e e':EI}{x1 y1:Bool}{x2 y2:Nat}{x4 y4:Option Value}{t:Tag}{i len cap:Nat}{ys:List PV}{K:PV->PFS->Prop} :U1h (some ⟨x1,x2,.slice e,x4⟩) (some ⟨y1,y2,.slice e',y4⟩) (.mr i len cap) (.sl t ys) s K=
 (K0y (s.L.getD i []) len cap ys e/\ ∀cap' R,len+ys.length<=cap'->R.length=(cap'-(len+ys.length))*e.sz->R.all PV.quiet=true->K (.mr i (len+ys.length) cap') (s.room i ((s.L.getD i []).take (len*e.sz)++(flat ys++R)))):=(rfl)
@[go_sem] theorem K2i {i:Nat}{X pa:List PV}{L st:Qf}{T:List (Nat×Nat)} :(PFS.mk pa L T st).room i X=⟨pa.map (PV.kill i),(L.map fun l=>l.map (PV.kill i)).set i X,T,st⟩:=(rfl)
@[go_sem] theorem w1k {i:Nat} :PV.kill i .junk= .junk:=(rfl)
@[go_sem] theorem V2i {i:Nat}{v:Value} :PV.kill i (.sc v)= .sc v:=(rfl)
@[go_sem] theorem V2k {i k o:Nat} :PV.kill i (.gp k o)= .gp k o:=(rfl)
@[go_sem] theorem V2h {i:Nat}{t:Tag}{es:List PV} :PV.kill i (.sl t es)= .sl t es:=(rfl)
@[go_sem] theorem V2j {i k n c:Nat} :PV.kill i (.mr k n c)=if k=i then .junk else .mr k n c:=(rfl)
end
theorem V0d {E:Ent}(s:PFS):U0f E s { s with L:=s.L++ [[]] } :=by
 intro a w g F h
 let F':Fr:=⟨s.L.length+1,F.lmu,F.tb⟩
 have hnl:=h.frame.nl;have hm: ∀v p,RepF w g F s.T v p->RepF w g F' s.T v p:=fun v p hp=>RepF.mono (F:=F) (F':=F') (.refl _ _) (by simp[F',hnl]) (fun _ _=>rfl) ⟨BD _,fun i hi=>⟨BD _,fun _ _ _ hR=>hR⟩⟩ hp;have hL: ∀k,(s.L++ [[]]).getD k []=s.L.getD k []:=fun k=>by by_cases hk:k<s.L.length;exact Qk _ _ _ _ hk;rw[Ql _ _ _ _ oG];rw[show s.L.getD k []= [] from by rw[q_a,C2 oG];rfl];by_cases h0:k-s.L.length=0;rw[h0];rfl;rw[q_a,C2 (by simp;omega)];rfl
 refine⟨g,F',h.ext,h.store,⟨by simp[F'],fun k hk=> ?_,fun k hk=> ?_,fun k j hk hj=> ?_,fun k hk=> ?_,h.frame.tlo,fun k b hk hb=>⟨(h.frame.tapart k b hk hb).1,fun j hj=> ?_⟩,h.frame.tinj⟩,h.defers,h.len,fun t ht=>hm _ _ (h.tmps t ht)⟩;simp only[hL] at hk;exact h.frame.lo k hk;simp only[hL] at hk;exact h.frame.apart k hk;simp only[hL] at hk hj;exact h.frame.inj k j hk hj;simp only[hL] at hk⊢;exact(h.frame.holds k hk).mono rfl hm;simp only[hL] at hj;exact(h.frame.tapart k b hk hb).2 j hj
theorem q0b {P:Program}{E:Ent}{c:Code}{Q:Exit->PFS->Prop}{s:PFS}(h:PWP P E c Q { s with L:=s.L++ [[]] }):PWP P E c Q s:=Xv (V0d s) h
theorem yt {E:Ent}(s:PFS)(t i:Nat)(hi:i<s.L.length)(ht:s.pa.getD t .junk= .sl .full []):U0f E s { s with pa:=s.pa.set t (.mr i 0 0) } :=by intro a w g F h;refine⟨g,F,h.ext,h.store,h.frame,h.defers,by simp[h.len],fun k hk=> ?_⟩;simp only[BL] at hk⊢;by_cases e:t=k;subst e;rw[Qt _ _ _ _ hk];have:=h.tmps t hk;rw[ht] at this;obtain⟨ad,hv⟩:=J0z this;rw[hv];exact .lmr0 i ad (by rw[h.frame.nl];exact hi);rw[Qo _ _ _ _ _ e];exact h.tmps k hk
theorem W0n {P:Program}{E:Ent}{c:Code}{Q:Exit->PFS->Prop}{s:PFS}(t i:Nat)(hi:i<s.L.length)(ht:s.pa.getD t .junk= .sl .full [])(h:PWP P E c Q { s with pa:=s.pa.set t (.mr i 0 0) }):PWP P E c Q s:=Xv (yt s t i hi ht) h
theorem Q1o {l:List PV}(h:l.all PV.quiet=true):VN l=true:=by
 unfold VN;refine List.all_eq_true.2 fun p hp=> ?_;have hq:=List.all_eq_true.1 h p hp;have h1:=(vd hq).1;rw[h1];cases p with
 | agg l=>cases hq
 | _=>rfl
theorem qD (xs ys:List PV):flat (xs++ys)=flat xs++flat ys:=by simp[flat]
end Go.Pv
end
