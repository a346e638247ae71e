/- Walk. -/
import Derived.Test.YtfoiagbimnghjaaGreatDoorZAB
import Derived.Test.YtfoiagbimnghjaaGreatDoorZM
set_option linter.all false
section
set_option maxRecDepth 100000
namespace Go.Pv
open Go.Proofs
def wNs (l:List Nm):Prop:=l.length<=100000000000/\ ∀i,i<l.length->wN (l.getD i default)
theorem Tk (q:Lx)(i:Nat)(h:i<q.length):ofB (q.take (i+1))=ofB (q.take i)++ [⟨q.getD i default,q.getD i default⟩]:=by unfold ofB;rw[HT q i default h,E5];rfl
theorem Gp (q:Lx)(st:Qd)(hq:wNs q):PR 102 [.sl .no (Qy q)] st (.sl (.fresh 6) (Qk (ofB q))):=by
 obtain⟨hl,hw⟩:=hq;refine Qj Tryz.func102 fun E=> ?_;refine X7 3 6 ?_;refine Qr ?_;refine Q3 [false,false,false,true,false,false,true,true,true] 0 1
  (fun n s=> ∃i,n=q.length-i/\i<=q.length/\s=⟨[.junk,.junk,.junk,.sl (.own 0) (Qk (ofB (q.take i))),.junk,.junk,.sl .no (Qy q),.sc (.int .i64 q.length),.sc (.int .i64 (i:Nat))]++jk 10,[],[((ofB (q.take i)).length,6)],st⟩) q.length ?_ ?_
 refine Qr ?_;exact⟨0,oG,oG,rfl⟩;rintro n s ⟨i,rfl,hi,rfl⟩;refine QM ?_ ?_<;>intro h';have hlt:i<q.length:=(by have:=q_b h';omega);have e1:=JN q i hlt;have e3:=J2u i oG;simp-dsimp only[go_sem,e1];refine⟨oG,?_⟩;refine(KI _ _ (hw i hlt)).q ?_;simp-dsimp only[go_sem,e3];have ll:(ofB (q.take i)).length=i:=(by simp[ofB];omega);refine⟨⟨oG,oG⟩,q.length-(i+1),oG,i+1,rfl,oG,?_⟩;rw[Tk q i hlt];simp[Qk,Qn];have hge:i=q.length:=(by have:=q_c h';omega);refine Qr ?_;refine Qq ?_;rw[hge,B0]
theorem Q2e (a:Ivl)(p:Int)(st:Qd)(ha:wI a):PR 344 [.agg (Qn a),.sc (.int .i64 p)] st (.tup [.agg (Qn (VX a p).1),.sc (.int .i64 (VX a p).2)]):=by
 refine Ql none Tryz.func344 rfl fun E=>Qb ?_;unfold VX;refine Qr ?_;refine(U1b a p _ ha).Q ?_;refine ck ?_ ?_<;>intro h;have h1:=XI h;refine Qr ?_;rw[BC h1];rfl
 . have h1:=Jf h;have hr:=G0f a p;have hap:Qp a=true/\Qt p=true:=by unfold Jv at h1;split at h1;assumption;cases h1
   rw[BA (fun e=>e h1)];generalize (Jv a p).1=w at*
   refine Qr ?_;refine(zD w (-2) _ (ZF (QT hr))).Q ?_;refine ck ?_ ?_<;>intro h;have h2:=XI h;refine Qr ?_;rw[BC h2];rfl
   . have h2:=Jf h;have hs:=qR w (-2);rw[BA (fun e=>e h2)];generalize (Z5 w (-2)).1=v at*
     have ra:=Xg hap.1;have k1:=GX (k:=1) (up:=false) ra.1 hs hap.2;have k2:=GX (k:=0) (up:=true) ra.2.1 hs hap.2;refine Qr ?_;refine(GS a.lo v p false _ ha.1 (ZF (QT hs))).Q ?_;refine ck ?_ ?_<;>intro h;have h3:=XI h;rw[BC (.inl h3)];have e3:(Qs 1 a.lo v p false).2=2:=by rcases k1 with k | k;exact absurd k h3;exact k
     refine Qr ?_;rw[e3];rfl
     . have h3:=Jf h;refine Qr ?_;refine(qY a.hi v p true _ ha.2 (ZF (QT hs))).Q ?_;refine ck ?_ ?_<;>intro h;have h4:=XI h;rw[BC (.inr h4)];have e3:(Qs 0 a.hi v p true).2=2:=by rcases k2 with k | k;exact absurd k h4;exact k
       refine Qr ?_;rw[e3];rfl
       . have h4:=Jf h;rw[BA (fun e=>e.elim (fun e=>e h3) (fun e=>e h4))];simp-dsimp only[go_sem]
         try rfl
theorem y1y (i:Int)(a:Ivl)(p:Int)(st:Qd)(ha:wI a):PR 343 ([.sc (.int .i64 i),.agg (Qn a)]++ [.ep [.sc (.int .i64 p)] 0]) st (.tup [.agg (Qn (VX a p).1),.sc (.int .i64 (VX a p).2)]):=by refine Qj Tryz.func343 fun E=> ?_;refine(Q2e a p _ ha).Q0
theorem Q2h (b:Li)(p:Int)(h:rightB b=true):Ue b p=ZD (fun _ a=>VX a p) 0 b []:=by
 unfold Ue;cases hp:Qt p with
 | true=>rw[BC ⟨h,rfl⟩]
 | false=>rw[BA (fun hh=>by simp at hh),xn _ b (WB h).1 1 (by decide) (fun i x=>by simp only[Q2g hp])]
theorem y1x (b:Li)(p:Int)(st:Qd)(hb:wB b):PR 305 [.sl .no (Qk b),.sc (.int .i64 p)] st (.tup [.sl .no (Qk (Ue b p).1),.sc (.int .i64 (Ue b p).2)]):=by
 refine Ql none Tryz.func305 rfl fun E=>Qe (Qb ?_);refine Qr ?_;refine Zz 0 ?_ ?_;exact QA;refine Qq ?_;refine(K7 b st hb).q ?_;cases r1:rightB b with
 | false=>
  refine Qr ?_;rw[Ue,BA (by simp[r1])];rfl
 | true=>
  rw[Q2h b p r1];refine Qr ?_;refine(w7 _ [.ep [.sc (.int .i64 p)] 0] (fun _ a=>VX a p) b st rfl hb.1 rfl rfl rfl rfl rfl fun i hi=>y1y _ _ p st (hb.2 i hi)).Q0
theorem Jg {x:Ivl}(h:Qp x=true):wI x:=⟨ZF (QT (Xg h).1),ZF (QT (Xg h).2.1)⟩
theorem U0s (n:Nat)(h:n<18446744073709551616):IntKind.u64.wrap (n:Int)=(n:Int):=by rw[ZW,BJ h]
theorem X0n {β:Type}[Inhabited β](f:Nat->β)(n i:Nat)(h:i<n):((List.range n).map f).getD i default=f i:=by simp[q_a,h]
theorem w9 {α β:Type}(F:Nat->α->β×Int)(P:β->Prop)(hp: ∀i x,x∈([]:List α)\/P (F i x).1): ∀(l:List α) (i:Nat) (acc:List β),(∀y,y∈acc->P y)->(∀y,y∈(ZD F i l acc).1->P y)/\(ZD F i l acc).1.length<=acc.length+l.length
 | [],i,acc,h=>⟨h,by simp[ZD]⟩
 | x::l,i,acc,h=>by unfold ZD;split;exact⟨fun y hy=>by simp at hy,by simp⟩;obtain⟨h1,h2⟩:=w9 F P hp l (i+1) (acc++ [(F i x).1]) (fun y hy=>by rcases DN.1 hy with h3 | h3;exact h y h3;rw[C0.1 h3];rcases hp i x with h4 | h4;simp at h4;exact h4);exact⟨h1,by simp at h2⊢;omega⟩
theorem w8 (F:Nat->Ivl->Ivl×Int)(hF: ∀i x,wI (F i x).1)(l:Li)(hl:l.length<=100000000000):wB (ZD F 0 l []).1:=by obtain⟨h1,h2⟩:=w9 F wI (fun i x=> .inr (hF i x)) l 0 [] (fun y hy=>by simp at hy);exact⟨by simp at h2;omega,fun i hi=>h1 _ (Q8 _ i default hi)⟩
theorem x1o (F:Nat->Ivl->Nm×Int)(hF: ∀i x,wN (F i x).1)(l:Li)(hl:l.length<=100000000000):wNs (ZD F 0 l []).1:=by obtain⟨h1,h2⟩:=w9 F wN (fun i x=> .inr (hF i x)) l 0 [] (fun y hy=>by simp at hy);exact⟨by simp at h2;omega,fun i hi=>h1 _ (Q8 _ i default hi)⟩
theorem G0u :wNs []:=⟨by simp,fun i hi=>by simp at hi⟩
theorem HI (k:Nat)(a b:Ivl)(p:Int):wI (opI k a b p).1:=Jg (XT k a b p)
theorem Q2f (a:Ivl)(p:Int):wI (VX a p).1:=by unfold VX;split;exact HJ;split;exact HJ;split;exact HJ;exact⟨ZF (QT (XZ _ _ _ _ _)),ZF (QT (XZ _ _ _ _ _))⟩
theorem H0b (k:Nat)(a b:Li)(p:Int)(ha:wB a):wB (opB k a b p).1:=by unfold opB;split;exact w8 _ (fun i x=>HI _ _ _ _) a ha.1;exact JT
theorem H0a (x:Ivl)(b:Li)(p:Int)(hb:wB b):wB (XX x b p).1:=by unfold XX;split;exact w8 _ (fun i x=>HI _ _ _ _) b hb.1;exact JT
theorem H0d (b:Li)(p:Int)(hb:wB b):wB (Ue b p).1:=by unfold Ue;split;exact w8 _ (fun i x=>Q2f _ _) b hb.1;exact JT
theorem yR (b:Li)(p:Int)(hb:wB b):wNs (Zk b p).1:=by unfold Zk;split;exact x1o _ (fun i x=>ZF (QT (vj _ _))) b hb.1;exact G0u
def k1 :Nm:=⟨false,0,[1]⟩
def k2 :Nm:=⟨false,1,[1]⟩
def k4 :Nm:=⟨false,2,[1]⟩
theorem Y6 {P:Pg}{ops l m:Lo}{x:Oper}{K:Pf}{s:PFS} :OL P ops (List.append (x::l) m) K s=OL P ops (x::List.append l m) K s:=rfl
theorem Y5 {P:Pg}{ops m:Lo}{K:Pf}{s:PFS} :OL P ops (List.append [] m) K s=OL P ops m K s:=rfl
theorem QN (i:Nat)(h:i<100000000000000):IntKind.i64.wrap ((i:Int)+1)=((i+1:Nat):Int):=by rw[Q4 _ oG oG];omega
structure Mn where
 c:Nm
 ks:List Int
 deriving DecidableEq
abbrev Ll :=List (List (List Mn))
abbrev Lk :=List (List Mn)
abbrev Lm :=List Mn
instance : Inhabited Mn:=⟨⟨default,[]⟩⟩
def Ki (x:Mn):List PV:= [.sc (.bool x.c.neg),.sc (.int .i64 x.c.exp),.sl .no (Qf x.c.w),.sl .no (QU x.ks)]
attribute [go_sem] Ki
def ZA (l:List Mn):List PV:=l.map fun c=>(.agg (Ki c))
@[go_sem] theorem K0d (l:Lm):(ZA l).length=l.length:=by simp[ZA]
@[go_sem] theorem x1a :ZA []= []:=(rfl)
@[go_sem] theorem G2i (l:Lm):(ZA l).all (fun x=>x.cells.length==4)=true:=by simp[ZA,PV.cells,Ki]
theorem Ga (l:Lm)(n:Nat)(h:n<l.length):(ZA l).getD n .junk= .agg (Ki (l.getD n default)):=by simp[ZA,q_a,h]
theorem x1b (l:Lm): ∀i,i<(ZA l).length->((ZA l).getD i .junk).cells.length=4:=fun i hi=>by rw[K0d] at hi;rw[Ga l i hi];rfl
structure Tm where
 v:Vl
 ks:List Int
instance : Inhabited Tm:=⟨⟨⟨false,0,0⟩,[]⟩⟩
def z1y (x:Tm):List PV:= [.sc (.bool x.v.neg),.sl .no (Z7 (QW x.v.m)),.sc (.int .i64 x.v.e),.sl .no (QU x.ks)]
attribute [go_sem] z1y
def QV (l:List (List Mn)):List PV:=l.map fun c=>(.sl .no (ZA c))
@[go_sem] theorem G2y (l:Lk):(QV l).length=l.length:=by simp[QV]
@[go_sem] theorem G2w (l:Lk):(QV l).all (fun x=>x.cells.length==1)=true:=by simp[QV,PV.cells]
@[go_sem] theorem G2x (l:Lk)(c:(List Mn)):QV l++ [.sl .no (ZA c)]=QV (l++ [c]):=by simp[QV]
theorem II (l:Lk)(n:Nat)(h:n<l.length):(QV l).getD n .junk= .sl .no (ZA (l.getD n [])):=by simp[QV,q_a,h]
def J6 (l:List (List (List Mn))):List PV:=l.map fun c=>(.sl .no (QV c))
@[go_sem] theorem G2r (l:Ll):(J6 l).length=l.length:=by simp[J6]
@[go_sem] theorem G2q :J6 []= []:=(rfl)
@[go_sem] theorem G2o (l:Ll):(J6 l).all (fun x=>x.cells.length==1)=true:=by simp[J6,PV.cells]
@[go_sem] theorem G2p (l:Ll)(c:(List (List Mn))):J6 l++ [.sl .no (QV c)]=J6 (l++ [c]):=by simp[J6]
theorem x1f (l:Ll)(n:Nat)(h:n<l.length):(J6 l).getD n .junk= .sl .no (QV (l.getD n [])):=by simp[J6,q_a,h]
def PV.frzG1 (k:Nat)(cs:List PV):PV->PV
 | .ms true k' off len=>if k'=k/\off+len<=cs.length then .sl .no ((cs.drop off).take len) else .ms true k' off len
 | p=>p
def PV.frzG (k:Nat)(cs:List PV):PV->PV
 | .agg l=> .agg (l.map (PV.frzG1 k cs))
 | .tup l=> .tup (l.map (PV.frzG1 k cs))
 | .fn f l m=> .fn f (l.map (PV.frzG1 k cs)) (m.map (PV.frzG1 k cs))
 | p=>p.frzG1 k cs
structure SolidG (w:World) (g':Gh) (k:Nat) (cs:List PV):Prop where
 sl: ∀v off len,k<g'.n->Rep w g' v (.ms true k off len)->off+len<=cs.length->Rep w g' v (.sl .no ((cs.drop off).take len))
section
variable {w:World} {g g':Gh} {F:Fr} {T:List (Nat×Nat)} {k:Nat} {cs:List PV}
theorem RepF.frzG1 {v:Value}{p:PV}(hk:k<g'.n)(hm: ∀v p,RepF w g F T v p->RepF w g' F T v p)(hz:SolidG w g' k cs)(h:RepF w g F T v p):RepF w g' F T v (p.frzG1 k cs):=by
 have h':=hm _ _ h;cases p with
 | ms gl k' off len=>
  cases gl with
  | false=>exact h'
  | true=>
   simp only[PV.frzG1];split;rename_i e;obtain⟨rfl,hle⟩:=e;cases h' with
   | base _ _ h'=>exact .base _ _ (hz.sl _ _ _ hk h' hle)
   exact h'
 | _=>exact h'
theorem RepF.frzG {v:Value}{p:PV}(hk:k<g'.n)(hm: ∀v p,RepF w g F T v p->RepF w g' F T v p)(hz:SolidG w g' k cs)(h:RepF w g F T v p):RepF w g' F T v (p.frzG k cs):=by
 have gm: ∀(l:Lp) (j:Nat),(l.map (PV.frzG1 k cs)).getD j .junk=(l.getD j .junk).frzG1 k cs:=fun l j=>Xs rfl l j;cases p with
 | agg l=>
  cases h with
  | base _ _ h=>
   cases h with
   | agg vs cs' hl h=>exact .agg vs _ (by simpa using hl) fun j hj=>by rw[gm];exact RepF.frzG1 hk hm hz (.base _ _ (h j (by simpa using hj)))
  | agg vs cs' hl h=>exact .agg vs _ (by simpa using hl) fun j hj=>by rw[gm];exact RepF.frzG1 hk hm hz (h j (by simpa using hj))
 | tup l=>
  cases h with
  | base _ _ h=>
   cases h with
   | tup vs cs' hl h=>exact .tup vs _ (by simpa using hl) fun j hj=>by rw[gm];exact RepF.frzG1 hk hm hz (.base _ _ (h j (by simpa using hj)))
  | tup vs cs' hl h=>exact .tup vs _ (by simpa using hl) fun j hj=>by rw[gm];exact RepF.frzG1 hk hm hz (h j (by simpa using hj))
 | fn f l m=>
  cases h with
  | base _ _ h=>
   cases h with
   | fn f us vs bs cs' hk' hl h0 h=>
    exact .fn f us vs _ _ (by simpa using hk') (by simpa using hl) (fun j hj=>by rw[gm];exact RepF.frzG1 hk hm hz (.base _ _ (h0 j (by simpa using hj)))) fun j hj=>by rw[gm];exact RepF.frzG1 hk hm hz (.base _ _ (h j (by simpa using hj)))
  | fn f us vs bs cs' hk' hl h0 h=>
   exact .fn f us vs _ _ (by simpa using hk') (by simpa using hl) (fun j hj=>by rw[gm];exact RepF.frzG1 hk hm hz (h0 j (by simpa using hj))) fun j hj=>by rw[gm];exact RepF.frzG1 hk hm hz (h j (by simpa using hj))
 | _=>exact RepF.frzG1 hk hm hz h
end
def PFS.freezeA (k:Nat)(s:PFS):PFS:=⟨s.pa.map (PV.frzG k (s.st.getD k [])),s.L.map fun l=>l.map (PV.frzG k (s.st.getD k [])),s.T,s.st.set k []⟩
theorem G0o {E:Ent}{s:PFS}(k:Nat)(hk:k<s.st.length)(hc: ∀p∈s.st.getD k [],p.cells= [p])(h0:s.st.getD k []≠ []):JQ E s (s.freezeA k):=by
 intro a w g F h;have hkn:k<g.n:=(by rw[h.store.n];exact hk);obtain⟨k1,k2⟩:=xz w g (g.mu k) (s.st.getD k []).length (.inl (h.store.lt k hkn)) h.store.none
 let g':Gh:= { g with vis:=fun c=>if c=g.mu k then max (s.st.getD k []).length (g.vis c) else g.vis c }
 obtain⟨f1,f2⟩:=h.frame.step k1 (fun i hi e=>h.frame.apart i hi k hkn e.symm) (fun i b hi hb e=>(h.frame.tapart i b hi hb).1 k hkn e.symm);have hst:StoreOK w g' (s.st.set k []):=by refine⟨by simpa using h.store.n,h.store.inj,h.store.lt,fun j hj hj0=> ?_,fun j hj=> ?_,k2,h.store.tab.mono k1.le⟩;by_cases e:k=j;subst e;exact absurd (Wo _ _) hj0;rw[Zg _ _ _ _ _ e] at hj0;have:g'.vis (g.mu j)=g.vis (g.mu j):=BA fun e'=>e (h.store.inj j k hj hkn e').symm;exact this.trans (h.store.vis j hj hj0);by_cases e:k=j;subst e;rw[Wo];intro j hj;simp at hj;rw[Zg _ _ _ _ _ e];exact(h.store.holds j hj).mono rfl fun v p hr=>hr.mono k1.le
 have hz:SolidG w g' k (s.st.getD k []):=⟨fun v off len hkg hv hlen=>by
  cases hv with
  | gms _ _ _ cap hi hcap=>
   have hh:=h.store.holds k hkn;have hex: ∀j,j<(s.st.getD k []).length-> ∃c,w.cell? ⟨g.mu k,j,none⟩=some c/\Rep w g c ((s.st.getD k []).getD j .junk):=fun j hj=>by obtain⟨_,c,q1,q2⟩:=hh j hj;exact⟨c,q1,q2⟩
   let cf:Nat->Value:=fun j=>if hj:j<(s.st.getD k []).length then(hex j hj).choose else undef
   have hcf: ∀j,j<(s.st.getD k []).length->w.cell? ⟨g.mu k,j,none⟩=some (cf j)/\Rep w g (cf j) ((s.st.getD k []).getD j .junk):=fun j hj=>by simp only[cf,dif_pos hj];exact(hex j hj).choose_spec
   have hl:(((s.st.getD k []).drop off).take len).length=len:=by rw[BX,DM];omega
   have hg: ∀j,j<len->(((s.st.getD k []).drop off).take len).getD j .junk=(s.st.getD k []).getD (off+j) .junk:=fun j hj=>(by simp[q_a,ED,hj,DH]);have hone: ∀j,j<len->((s.st.getD k []).getD (off+j) .junk).cells= [(s.st.getD k []).getD (off+j) .junk]:=fun j hj=>hc _ (Q8 _ _ _ oG);have:=Rep.sl (w:=w) (g:=g') .no (((s.st.getD k []).drop off).take len) (g.mu k) off 1 cap (fun a b=>cf (off+a)) rfl (fun h=>by cases h) oG
    (fun j hj=>by rw[hg j oG,hone j oG];rfl)
    (fun _=>by show _<=if g.mu k=g.mu k then max (s.st.getD k []).length (g.vis (g.mu k)) else _;rw[BC rfl];have:=Nat.le_max_left (s.st.getD k []).length (g.vis (g.mu k));omega)
    (fun j k2 hj hk2=>by have:k2=0:=oG;subst this;simpa using(hcf (off+j) oG).1)
    (fun j k2 hj hk2=>by have:k2=0:=oG;subst this;rw[hg j oG,hone j oG];exact(hcf (off+j) oG).2.mono k1.le)
   rw[hl] at this;exact this⟩
 have hf: ∀v p,RepF w g F s.T v p->RepF w g' F s.T v (p.frzG k (s.st.getD k [])):=fun v p hp=>RepF.frzG hkn (fun _ _ h=>f2 _ _ h) hz hp;have hL: ∀i,(s.L.map fun l=>l.map (PV.frzG k (s.st.getD k []))).getD i []=(s.L.getD i []).map (PV.frzG k (s.st.getD k [])):=fun i=>YX (f:=fun l=>l.map (PV.frzG k (s.st.getD k []))) rfl _ _;have hLn: ∀i,(s.L.map fun l=>l.map (PV.frzG k (s.st.getD k []))).getD i []≠ []->s.L.getD i []≠ []:=fun i hi e=>hi (by rw[hL,e];rfl);refine⟨g',F,h.ext.step k1 (fun b hb=> ?_),hst,⟨by simp[PFS.freezeA,f1.nl],fun i hi=>f1.lo i (hLn i hi),fun i hi=>f1.apart i (hLn i hi),fun i j hi hj=>f1.inj i j (hLn i hi) (hLn j hj),fun i hi=> ?_,f1.tlo,fun i b hi hb=>⟨(f1.tapart i b hi hb).1,fun j hj=>(f1.tapart i b hi hb).2 j (hLn j hj)⟩,f1.tinj⟩,h.defers,by simp[PFS.freezeA,h.len],fun j hj=> ?_⟩;subst hb;by_cases hin:k<E.g.n;exact .inr ⟨k,hin,(h.ext.le.mu k hin).symm⟩;exact .inl (h.ext.new k oG hkn);show Holds w _ (F.lmu i) ((s.L.map fun l=>l.map (PV.frzG k (s.st.getD k []))).getD i []);rw[hL];intro j hj;obtain⟨q1,c,q2,q3⟩:=h.frame.holds i (hLn i hi) j (by simpa using hj);exact⟨q1,c,q2,by rw[Xs (f:=PV.frzG k _) rfl];exact hf _ _ q3⟩;simp only[PFS.freezeA,BR] at hj⊢;rw[Xs (f:=PV.frzG k _) rfl];exact hf _ _ (h.tmps j hj)
theorem y0z {P:Pg}{E:Ent}{c:Code}{Q:Pe}{s:PFS}(k:Nat)(hk:k<s.st.length)(hc: ∀p∈s.st.getD k [],p.cells= [p])(h0:s.st.getD k []≠ [])
 (h:PWP P E c Q (s.freezeA k)):PWP P E c Q s:=Kt (G0o k hk hc h0) h
@[go_sem] theorem Y2q {k:Nat}{pa:Lp}{L st:Qd}{T:Lv} :(PFS.mk pa L T st).freezeA k=⟨pa.map (PV.frzG k (st.getD k [])),L.map fun l=>l.map (PV.frzG k (st.getD k [])),T,st.set k []⟩:=(rfl)
@[go_sem] theorem Y2l {k:Nat}{cs:Lp} :PV.frzG k cs .junk= .junk:=(rfl)
@[go_sem] theorem Y2j {k:Nat}{cs:Lp}{v:Value} :PV.frzG k cs (.sc v)=(.sc v):=(rfl)
@[go_sem] theorem Y2k {k:Nat}{cs:Lp}{i o:Nat} :PV.frzG k cs (.lp i o)=(.lp i o):=(rfl)
@[go_sem] theorem Y2m {k:Nat}{cs:Lp}{i o:Nat} :PV.frzG k cs (.gp i o)=(.gp i o):=(rfl)
@[go_sem] theorem Y2i {k:Nat}{cs:Lp}{t:Tag}{es:Lp} :PV.frzG k cs (.sl t es)=(.sl t es):=(rfl)
theorem H1o {k off n:Nat}{cs:Lp}(h:off+n<=cs.length):PV.frzG k cs (.ms true k off n)= .sl .no ((cs.drop off).take n):=BC ⟨rfl,h⟩
theorem HX (ks:Pq)(i:Nat)(h:i<ks.length):(ks.take (i+1)).sum=(ks.take i).sum+ks.getD i 0:=by rw[List.take_add_one,List.sum_append,BB h];simp[q_a,h]
theorem j9 (ks:Pq)(h: ∀j,j<ks.length->0<=ks.getD j 0): ∀(d i:Nat),i+d=ks.length->(ks.take i).sum<=ks.sum
 | 0,i,e=>by rw[BF oG];exact Int.le_refl _
 | d+1,i,e=>by have h1:=j9 ks h d (i+1) oG;have h2:=HX ks i oG;have h3:=h i oG;omega
def Kr (ks:List Int):Bool:=ks.all (fun k=>decide (0<=k))&&decide (ks.sum<=8)
theorem GU (ks:Pq):Kr ks=true<->(∀j,j<ks.length->0<=ks.getD j 0)/\ks.sum<=8:=by unfold Kr;simp only[q_i,q_d,BN];constructor;rintro⟨h1,h2⟩;refine⟨fun j hj=> ?_,h2⟩;have:ks.getD j 0=ks[j]:=(by simp[q_a,hj]);rw[this];exact h1 _ (EA hj);rintro⟨h1,h2⟩;refine⟨fun k hk=> ?_,h2⟩;obtain⟨j,hj,e⟩:=CM.1 hk;have:=h1 j hj;rw[show ks.getD j 0=ks[j] by simp[q_a,hj],e] at this;exact this
theorem w0e {ks:Pq}{i:Nat}(h:i<ks.length)(hb:ks.getD i 0<0\/8-(ks.take i).sum<ks.getD i 0):Kr ks=false:=CS.2 fun e=>by obtain⟨h1,h2⟩:=(GU ks).1 e;have h3:=h1 i h;have h4:=j9 ks h1 (ks.length-(i+1)) (i+1) oG;have h5:=HX ks i h;omega
theorem z0z {ks:Pq}(h: ∀j,j<ks.length->0<=ks.getD j 0)(i:Nat)(hi:i<=ks.length):0<=(ks.take i).sum:=by
 induction i with
 | zero=>simp
 | succ i ih=>
  have h2:=HX ks i oG;have h3:=h i oG;have:=ih oG;omega
theorem Mq {ks:Pq}(h:Kr ks=true)(i:Nat)(hi:i<=ks.length):0<=(ks.take i).sum/\(ks.take i).sum<=8:=by obtain⟨h1,h2⟩:=(GU ks).1 h;have h3:=z0z h1 i hi;have h4:=j9 ks h1 (ks.length-i) i oG;omega
theorem za {ks:Pq}(h:Kr ks=true)(i:Nat)(hi:i<ks.length):0<=ks.getD i 0/\ks.getD i 0<=8:=by obtain⟨h1,h2⟩:=(GU ks).1 h;have h3:=Mq h i oG;have h4:=Mq h (i+1) oG;have h5:=HX ks i hi;have:=h1 i hi;omega
def Vv (m:Mn)(n:Int):Bool:=decide ((m.ks.length:Int)=n)&&Kr m.ks&&Qh m.c
theorem Iy (m:Mn)(n:Int):Vv m n=true<->(m.ks.length:Int)=n/\Kr m.ks=true/\Qh m.c=true:=by unfold Vv;simp only[q_i,BN,and_assoc]
def XS :List Int->List Int->Int
 | x::a,y::b=>if x>y then 1 else if x<y then -1 else XS a b
 | _,_=>0
def JP :List Int->List Int->Int
 | [],[]=>0
 | [],_::_=> -1
 | _::_,[]=>1
 | x::a,y::b=>if x<y then -1 else if x>y then 1 else JP a b
theorem xp (a:Pq)(i:Nat)(h:i<a.length):a.drop i=a.getD i 0::a.drop (i+1):=by rw[FC h];simp[q_a,h]
theorem v1j {a b:Pq}{i:Nat}(ha:i<a.length)(hb:i<b.length):JP (a.drop i) (b.drop i)=if a.getD i 0<b.getD i 0 then -1 else if a.getD i 0>b.getD i 0 then 1 else JP (a.drop (i+1)) (b.drop (i+1)):=by rw[xp a i ha,xp b i hb,JP]
theorem v1i {a b:Pq}{i:Nat}(ha:a.length<=i):JP (a.drop i) (b.drop i)=if i<b.length then -1 else 0:=by rw[C6 ha];split;rename_i h;rw[xp b i h,JP];rename_i h;rw[C6 oG,JP]
theorem v1h {a b:Pq}{i:Nat}(ha:i<a.length)(hb:b.length<=i):JP (a.drop i) (b.drop i)=1:=by rw[C6 hb,xp a i ha,JP]
theorem W0f : ∀(a b:Pq),a.length=b.length->JP b a= -XS a b
 | [],[],_=>rfl
 | x::a,y::b,h=>by rw[JP,XS,W0f a b (by simpa using h)];by_cases h1:x>y;rw[BC oG,BC h1];rw[BA oG,BA h1];by_cases h2:x<y;rw[BC oG,BC h2];rfl;rw[BA oG,BA h2]
theorem Sk : ∀(a b:Pq),XS a b=1\/XS a b=0\/XS a b= -1
 | [],_=> .inr (.inl rfl)
 | _::_,[]=> .inr (.inl rfl)
 | x::a,y::b=>by rw[XS];split;exact .inl rfl;split;exact .inr (.inr rfl);exact Sk a b
def okP (p:List Mn)(n:Int)(i:Nat):Bool:=
 Vv (p.getD i default) n&&decide ((p.getD i default).c.w.length≠0)&&(decide (i=0)||decide (XS (p.getD (i-1) default).ks (p.getD i default).ks=1))
def ZY (p:List Mn)(n:Int):Bool:=decide (1<=n/\n<=4/\p.length<=24)&&(List.range p.length).all (okP p n)
theorem VD (p:Lm)(n:Int):ZY p n=true<->(1<=n/\n<=4/\p.length<=24)/\ ∀i,i<p.length->okP p n i=true:=by unfold ZY;simp only[q_i,q_d,BN,E0]
theorem WI (p:Lm)(n:Int)(i:Nat):okP p n i=true<->Vv (p.getD i default) n=true/\(p.getD i default).c.w.length≠0/\(i=0\/XS (p.getD (i-1) default).ks (p.getD i default).ks=1):=by unfold okP;simp only[q_i,DF,BN,and_assoc]
theorem v0z {p:Lm}{n:Int}{i:Nat}(hi:i<p.length)(h:okP p n i=false):ZY p n=false:=CS.2 fun e=>by have:=((VD p n).1 e).2 i hi;rw[h] at this;cases this
theorem GT {p:Lm}{n:Int}(h:ZY p n=true){i:Nat}(hi:i<p.length):((p.getD i default).ks.length:Int)=n/\Kr (p.getD i default).ks=true/\Qh (p.getD i default).c=true:=(Iy _ _).1 ((WI _ _ _).1 (((VD p n).1 h).2 i hi)).1
def Xh (f:List (List Mn)):Bool:=decide (1<=f.length/\f.length<=4)&&f.all (fun p=>ZY p f.length)
theorem YG (f:Lk):Xh f=true<->(1<=f.length/\f.length<=4)/\ ∀i,i<f.length->ZY (f.getD i []) f.length=true:=by unfold Xh;simp only[q_i,q_d,BN];constructor;rintro⟨h1,h2⟩;refine⟨h1,fun j hj=> ?_⟩;have:f.getD j []=f[j]:=(by simp[q_a,hj]);rw[this];exact h2 _ (EA hj);rintro⟨h1,h2⟩;refine⟨h1,fun k hk=> ?_⟩;obtain⟨j,hj,e⟩:=CM.1 hk;have:=h2 j hj;rw[show f.getD j []=f[j] by simp[q_a,hj],e] at this;exact this
def wK (ks:List Int):Prop:=ks.length<=100000000000/\ ∀i,i<ks.length-> -9223372036854775808<=ks.getD i 0/\ks.getD i 0<=9223372036854775807
def wMn (m:Mn):Prop:=wN m.c/\wK m.ks
def wP (p:List Mn):Prop:=p.length<=100000000000/\ ∀i,i<p.length->wMn (p.getD i default)
def wF (f:List (List Mn)):Prop:=f.length<=100000000000/\ ∀i,i<f.length->wP (f.getD i [])
theorem v1k (a b:Pq)(st:Qd)(ha:wK a)(hb:wK b):PR 336 [.sl .no (QU a),.sl .no (QU b)] st (.sc (.int .i64 (JP a b))):=by
 have hla:=ha.1;have hlb:=hb.1;refine Qj Tryz.func336 fun E=> ?_;refine Q3 ([true,true]++rF 7++ [true,true,true]) 0 0
  (fun n s=> ∃i,n=a.length-i/\i<=a.length/\i<=b.length/\JP a b=JP (a.drop i) (b.drop i)/\s=⟨[.sl .no (QU a),.sl .no (QU b)]++jk 7++ [.sl .no (QU a),.sc (.int .i64 a.length),.sc (.int .i64 (i:Nat))]++jk 24,[],[],st⟩) a.length ?_ ?_
 refine Qr ?_;exact⟨0,oG,oG,oG,rfl,rfl⟩;rintro n s ⟨i,rfl,hi,hib,hr,rfl⟩;refine QM ?_ ?_<;>intro h';have hlt:i<a.length:=(by have:=q_b h';omega);have e1:=Wr a i hlt;have e3:=QN i oG;simp-dsimp only[go_sem,e1];refine⟨oG,ck (fun h2=> ?_) (fun h2=> ?_)⟩;have hge:b.length<=i:=(oT h2);rw[v1h hlt hge] at hr;simp-dsimp only[go_sem,hr];have hltb:i<b.length:=(oF h2);have e2:=Wr b i hltb;rw[v1j hlt hltb] at hr;simp-dsimp only[go_sem,e2];refine⟨oG,?_⟩;refine(xy (a.getD i 0) (b.getD i 0) _).Q ?_;refine ck ?_ ?_<;>intro h3;have hne:=XI h3;have hc:JP a b=Zm (a.getD i 0) (b.getD i 0):=by rw[hr];unfold Zm at hne⊢;split;rfl;split;rfl;rw[BA oG,BA oG] at hne;exact absurd rfl hne
 simp-dsimp only[go_sem,hc];have hq:=Jf h3;have hc:JP a b=JP (a.drop (i+1)) (b.drop (i+1)):=by rw[hr];unfold Zm at hq;by_cases c1:a.getD i 0<b.getD i 0;rw[BC c1] at hq;omega;rw[BA c1] at hq;by_cases c2:a.getD i 0>b.getD i 0;rw[BC oG] at hq;omega;rw[BA c1,BA c2]
 simp-dsimp only[go_sem,e3];exact⟨a.length-(i+1),oG,i+1,rfl,oG,oG,hc,rfl⟩;have hge:i=a.length:=(by have:=q_c h';omega);rw[v1i oG] at hr;refine Qr ?_;refine Qq ?_;refine ck ?_ ?_<;>intro h2;rw[BC (oT h2)] at hr;simp-dsimp only[go_sem,hr];rw[BA (oF h2)] at hr;simp-dsimp only[go_sem,hr]
theorem Z1a (m:Mn)(n:Int)(st:Qd)(hm:wMn m):PR 291 [.agg (Ki m),.sc (.int .i64 n)] st (.sc (.bool (Vv m n))):=by
 have hl:=hm.2.1;have hc:=hm.1;unfold wN at hc;refine Qj Tryz.func291 fun E=> ?_;refine Q3 [false,true,true,false,false,true,false,false,false,true,true,true] 1 0
  (fun k s=> ∃i,k=m.ks.length-i/\i<=m.ks.length/\(∀j,j<i->0<=m.ks.getD j 0)/\0<=(m.ks.take i).sum/\(m.ks.take i).sum<=8/\s=⟨[.junk,.sc (.int .i64 n),.lp 0 0,.junk,.junk,.sc (.int .i64 (8-(m.ks.take i).sum)),.junk,.junk,.junk,.sl .no (QU m.ks),.sc (.int .i64 m.ks.length),.sc (.int .i64 (i:Nat))]++jk 24,[Ki m],[],st⟩) m.ks.length ?_ ?_
 refine Qr ?_;exact⟨0,oG,oG,fun j hj=>oG,by simp,by simp,by simp⟩;rintro k s ⟨i,rfl,hi,hr,h0,h8,rfl⟩;refine QM ?_ ?_<;>intro h';have hlt:i<m.ks.length:=(by have:=q_b h';omega);have e1:=Wr m.ks i hlt;have e3:=QN i oG;have hk:=hm.2.2 i hlt;have hs:=HX m.ks i hlt;simp-dsimp only[go_sem,e1];refine⟨oG,?_⟩;have bad:m.ks.getD i 0<0\/8-(m.ks.take i).sum<m.ks.getD i 0->Vv m n=false:=fun hb=>by unfold Vv;rw[w0e hlt hb];simp
 refine gkF ?_ ?_<;>intro h2;have h2':=q_c h2;simp-dsimp only[go_sem,h2];refine ck ?_ ?_<;>intro h3;have h3':=q_b h3;have hb:=bad (.inr h3');simp-dsimp only[go_sem,hb];have h3':=q_c h3;have e4:IntKind.i64.wrap (8-(m.ks.take i).sum-m.ks.getD i 0)=8-(m.ks.take (i+1)).sum:=by rw[hs,Q4 _ oG oG];omega
 simp-dsimp only[go_sem,e3,e4];refine⟨m.ks.length-(i+1),oG,i+1,rfl,oG,fun j hj=> ?_,oG,oG,rfl⟩;by_cases e:j=i;subst e;omega;exact hr j oG;have hb:=bad (.inl (q_b h2));simp-dsimp only[go_sem,h2,hb];have hge:i=m.ks.length:=(by have:=q_c h';omega);subst hge;have hk:Kr m.ks=true:=(GU _).2 ⟨hr,by rw[B0] at h8;exact h8⟩;refine Qr ?_;refine Qq ?_;refine gkT ?_ ?_<;>intro h2;have h2':(m.ks.length:Int)=n:=(by simpa using h2);simp-dsimp only[go_sem,h2];refine(XE m.c _ oG).q ?_;have hv:Vv m n=Qh m.c:=(by unfold Vv;rw[hk,q_h h2'];simp);simp-dsimp only[go_sem,h2,hv];have h2': ¬(m.ks.length:Int)=n:=(by simpa using h2);have hv:Vv m n=false:=(by unfold Vv;rw[q_g h2'];simp);simp-dsimp only[go_sem,h2,hv]
theorem Z1d (a b:Mn)(st:Qd)(ha:wMn a)(hb:wMn b):PR 292 [.agg (Ki a),.agg (Ki b)] st (.sc (.int .i64 (JP b.ks a.ks))):=by refine Qj Tryz.func292 fun E=> ?_;refine(v1k b.ks a.ks _ hb.2 ha.2).Q0
theorem Q1o (i:Nat)(h:i<100000000000000)(h0:0<i):IntKind.i64.wrap ((i:Int)-1)=((i-1:Nat):Int):=by rw[Q4 _ oG oG];omega
theorem zo (p:Lm)(n:Int)(st:Qd)(hp:wP p):PR 222 [.sl .no (ZA p),.sc (.int .i64 n)] st (.sc (.bool (ZY p n))):=by
 have hl:=hp.1;refine Qj Tryz.func222 fun E=> ?_;refine Q3 [true,true,false,false,false,false,false,true,true,true] 0 0
  (fun k s=> ∃i,k=p.length-i/\i<=p.length/\(∀j,j<i->okP p n j=true)/\s=⟨[.sl .no (ZA p),.sc (.int .i64 n),.junk,.junk,.junk,.junk,.junk,.sl .no (ZA p),.sc (.int .i64 p.length),.sc (.int .i64 (i:Nat))]++jk 41,[],[],st⟩) p.length ?_ ?_
 refine Qr ?_;exact⟨0,oG,oG,fun j hj=>oG,rfl⟩;rintro k s ⟨i,rfl,hi,hr,rfl⟩;refine QM ?_ ?_<;>intro h';have hlt:i<p.length:=(by have:=q_b h';omega);have e1:=Ga p i hlt;have e3:=QN i oG;have hm:=hp.2 i hlt;have hmw:=hm.1;unfold wN at hmw;simp-dsimp only[go_sem,e1];refine⟨oG,?_⟩;refine Q5 51 (Qi [0,1,2,3,4,5,6,7,8,9,10,11,12,13,14,15,16,17,18,19,20] (.step 21 [0,7] (Qi [22,23,24] .done))) ?_;simp-dsimp only[go_sem,e1];refine(Z1a (p.getD i default) n _ hm).q ?_;have bad:okP p n i=false->ZY p n=false:=fun h=>v0z hlt h;cases h1:Vv (p.getD i default) n with
 | false=>
  have hb:=bad (by unfold okP;rw[h1];rfl);simp-dsimp only[go_sem,h1,hb]
 | true=>
  simp-dsimp only[go_sem,h1];refine gkF ?_ ?_<;>intro h2;have h2':(p.getD i default).c.w.length≠0:=(oF h2);simp-dsimp only[go_sem,h2];refine gkT ?_ ?_<;>intro h3;have h3':0<i:=(oT h3);have e4:=Q1o i oG h3';have e5:=Ga p (i-1) oG;simp-dsimp only[go_sem,h2,h3,e4,e5];refine⟨oG,?_⟩;refine(Z1d (p.getD (i-1) default) (p.getD i default) _ (hp.2 _ oG) hm).q ?_;obtain⟨k1,k2,k3⟩:=(Iy _ _).1 h1;have h0:=(Iy _ _).1 ((WI _ _ _).1 (hr (i-1) oG)).1;have ho:=W0f (p.getD (i-1) default).ks (p.getD i default).ks oG;have hv:=Sk (p.getD (i-1) default).ks (p.getD i default).ks;rw[ho];simp-dsimp only[go_sem,h2,h3];refine ck ?_ ?_<;>intro h4;have h4':=q_b h4;have hb:=bad (CS.2 fun e=>by rcases ((WI _ _ _).1 e).2.2 with h | h<;>omega);simp-dsimp only[go_sem,hb];have h4':=q_c h4;simp-dsimp only[go_sem,e3];refine⟨p.length-(i+1),oG,i+1,rfl,oG,fun j hj=> ?_,rfl⟩;by_cases e:j=i;subst e;exact(WI _ _ _).2 ⟨h1,h2',.inr oG⟩;exact hr j oG;have h3':i=0:=(oF h3);simp-dsimp only[go_sem,h2,h3,e3];refine⟨p.length-(i+1),oG,i+1,rfl,oG,fun j hj=> ?_,rfl⟩;have e:j=i:=oG;subst e;exact(WI _ _ _).2 ⟨h1,h2',.inl h3'⟩;have h2':(p.getD i default).c.w.length=0:=(oT h2);have hb:=bad (CS.2 fun e=>((WI _ _ _).1 e).2.1 h2');simp-dsimp only[go_sem,h2,hb]
 have hge:i=p.length:=by have:=q_c h';omega
 subst hge;refine Qr ?_;refine Qq ?_;refine gkT ?_ ?_<;>intro h1;have h1':=q_b h1;simp-dsimp only[go_sem,h1];refine gkT ?_ ?_<;>intro h2;have h2':=q_b h2;have hv:ZY p n=decide ((p.length:Int)<=24):=by rw[E6,VD,D0];exact⟨fun h=>oG,fun h=>⟨⟨h1',h2',oG⟩,hr⟩⟩
 simp-dsimp only[go_sem,h1,h2,hv];have h2':=q_c h2;have hv:ZY p n=false:=CS.2 fun e=>h2' ((VD _ _).1 e).1.2.1;simp-dsimp only[go_sem,h1,h2,hv];have h1':=q_c h1;have hv:ZY p n=false:=CS.2 fun e=>h1' ((VD _ _).1 e).1.1;simp-dsimp only[go_sem,h1,hv]
theorem ID (f:Lk)(st:Qd)(hf:wF f):PR 149 [.sl .no (QV f)] st (.sc (.bool (Xh f))):=by
 have hl:=hf.1;refine Qj Tryz.func149 fun E=> ?_;refine Q3 [true,false,false,false,false,true,true,true] 0 0
  (fun n s=> ∃i,n=f.length-i/\i<=f.length/\(∀j,j<i->ZY (f.getD j []) f.length=true)/\s=⟨[.sl .no (QV f),.junk,.junk,.junk,.junk,.sl .no (QV f),.sc (.int .i64 f.length),.sc (.int .i64 (i:Nat))]++jk 17,[],[],st⟩) f.length ?_ ?_
 refine Qr ?_;exact⟨0,oG,oG,fun j hj=>oG,rfl⟩;rintro n s ⟨i,rfl,hi,hr,rfl⟩;refine QM ?_ ?_<;>intro h';have hlt:i<f.length:=(by have:=q_b h';omega);have e1:=II f i hlt;have e3:=QN i oG;simp-dsimp only[go_sem,e1];refine⟨oG,?_⟩;refine(zo _ _ _ (hf.2 i hlt)).Q ?_;refine ck ?_ ?_<;>intro h3;have hb:ZY (f.getD i []) f.length=false:=(by simpa using h3);have hv:Xh f=false:=CS.2 fun e=>by have:=((YG f).1 e).2 i hlt;rw[hb] at this;cases this
 simp-dsimp only[go_sem,hv];have ht:ZY (f.getD i []) f.length=true:=(by simpa using h3);simp-dsimp only[go_sem,e3];refine⟨f.length-(i+1),oG,i+1,rfl,oG,fun j hj=> ?_,rfl⟩;by_cases e:j=i;subst e;exact ht;exact hr j oG;have hge:i=f.length:=(by have:=q_c h';omega);subst hge;refine Qr ?_;refine Qq ?_;refine gkT ?_ ?_<;>intro h;have h1:=q_b h;have hv:Xh f=decide ((f.length:Int)<=4):=by rw[E6,YG,D0];exact⟨fun h=>oG,fun h=>⟨⟨oG,oG⟩,hr⟩⟩
 simp-dsimp only[go_sem,h,hv];have h1:=q_c h;have hv:Xh f=false:=CS.2 fun e=>by have:=((YG f).1 e).1;omega
 simp-dsimp only[go_sem,h,hv]
section
variable {w:World} {g g':Gh} {F:Fr} {T:List (Nat×Nat)} {k:Nat} {cs:List PV}
end
def amL :List Edge->Nat
 | []=>0
 | e::r=>if Region.binds .any e then amL r|||(1<<<e.on) else amL r
structure OpSm where
 j:Nat
 am:Nat
 ld:Bool
 ef:Bool
 deriving DecidableEq
def Cy :Nat->List Oper->List OpSm
 | _,[]=> []
 | j,o::r=>⟨j,amL o.after.toList,Wl o.op,!X6 o.op⟩::Cy (j+1) r
section
variable {ops:Array Oper} {S:List OpSm} (hS:Cy 0 ops.toList=S) (hn:(S.all fun x=>decide (x.am<2^ops.size))=true)
include hS
end
def PV.kill1 (i:Nat):PV->PV
 | .lp k off=>if k=i then .junk else .lp k off
 | .ms false k off len=>if k=i then .junk else .ms false k off len
 | .mr k len cap=>if k=i then .junk else .mr k len cap
 | .agg _ | .tup _ | .fn _ _ _=> .junk
 | p=>p
def PV.kill2 (i:Nat):PV->PV
 | .agg l=> .agg (l.map (PV.kill1 i))
 | .fn f l m=> .fn f (l.map (PV.kill1 i)) (m.map (PV.kill1 i))
 | p=>p.kill1 i
def PV.kill (i:Nat):PV->PV
 | .tup l=> .tup (l.map (PV.kill2 i))
 | p=>p.kill2 i
def PV.quiet :PV->Bool
 | .lp _ _ | .ms false _ _ _ | .mr _ _ _ | .agg _ | .tup _ | .fn _ _ _ | .sl (.own _) _ | .sl (.fresh _) _=>false
 | _=>true
theorem y0i {p:PV}(h:p.quiet=true):p.closed2=true/\p.forget2.cells= [p.forget2]:=by
 cases p with
 | lp k off=>cases h
 | ms gl k off len=>cases gl with | true=>exact⟨rfl,rfl⟩ | false=>cases h
 | mr k len cap=>cases h
 | agg l=>cases h
 | tup l=>cases h
 | fn f l m=>cases h
 | sl t es=>cases t with | own k=>cases h | fresh k=>cases h | _=>exact⟨rfl,rfl⟩
 | _=>exact⟨rfl,rfl⟩
theorem y0f {p:PV}{a b:Nat}(h:p.quiet=true):p.lim a b=true:=by
 cases p with
 | lp k off=>cases h
 | ms gl k off len=>cases gl with | true=>rfl | false=>cases h
 | mr k len cap=>cases h
 | agg l=>cases h
 | tup l=>cases h
 | fn f l m=>cases h
 | sl t es=>cases t with | own k=>cases h | fresh k=>cases h | _=>rfl
 | _=>rfl
theorem y0e {l:Lp}{a b:Nat}(h:l.all PV.quiet=true):l.all (PV.lim a b)=true:=List.all_eq_true.2 fun p hp=>y0f (List.all_eq_true.1 h p hp)
theorem y0g {p:PV}(i:Nat)(h:p.quiet=true):p.kill1 i=p:=by
 cases p with
 | lp k off=>cases h
 | ms gl k off len=>cases gl with | true=>rfl | false=>cases h
 | mr k len cap=>cases h
 | agg l=>cases h
 | tup l=>cases h
 | fn f l m=>cases h
 | _=>rfl
section
variable {w w':World} {g g':Gh} {F F':Fr} {T:List (Nat×Nat)} {i:Nat}
theorem RepF.kill1 {v:Value}{p:PV}(hle:Le w g w' g')(hnl:F.nl<=F'.nl)(hmu: ∀j,j<F.nl->j≠i->F'.lmu j=F.lmu j)(ht:KN w g F T w' g' F' T)(h:RepF w g F T v p):RepF w' g' F' T v (p.kill1 i):=by
 cases h with
 | base v p hp=>
  have hp':=hp.mono hle;cases p with
  | lp k off=>cases hp
  | ms gl k off len=>cases gl with
   | true=>exact .base _ _ hp'
   | false=>cases hp
  | mr k len cap=>cases hp
  | agg l=>exact .base _ _ (.junk _)
  | tup l=>exact .base _ _ (.junk _)
  | fn f l m=>exact .base _ _ (.junk _)
  | _=>exact .base _ _ hp'
 | lp k off hk=>
  simp only[PV.kill1];split;exact .base _ _ (.junk _);rename_i hne;rw[<-hmu k hk hne];exact .lp k off (q_e hk hnl)
 | lms k off len cap hk hcap=>
  simp only[PV.kill1];split;exact .base _ _ (.junk _);rename_i hne;rw[<-hmu k hk hne];exact .lms k off len cap (q_e hk hnl) hcap
 | lmr k len cap hk hcap=>
  simp only[PV.kill1];split;exact .base _ _ (.junk _);rename_i hne;rw[<-hmu k hk hne];exact .lmr k len cap (q_e hk hnl) hcap
 | lmr0 k ad hk=>
  simp only[PV.kill1];split;exact .base _ _ (.junk _);exact .lmr0 k ad (q_e hk hnl)
 | own k es v hp hk hle' hr=>
  obtain⟨t1,t2⟩:=ht.2 k hk;exact .own k es v (hp.mono hle) (q_e hk ht.1) (B7 hle' t1) (fun e=>t2 oG v es (hr oG))
 | agg vs cs hl h=>exact .base _ _ (.junk _)
 | tup vs cs hl h=>exact .base _ _ (.junk _)
 | fn f us vs bs cs hk hl h0 h=>exact .base _ _ (.junk _)
theorem RepF.kill2 {v:Value}{p:PV}(hle:Le w g w' g')(hnl:F.nl<=F'.nl)(hmu: ∀j,j<F.nl->j≠i->F'.lmu j=F.lmu j)(ht:KN w g F T w' g' F' T)(h:RepF w g F T v p):RepF w' g' F' T v (p.kill2 i):=by
 have gm: ∀(l:Lp) (j:Nat),(l.map (PV.kill1 i)).getD j .junk=(l.getD j .junk).kill1 i:=fun l j=>Xs rfl l j;cases p with
 | agg l=>
  obtain⟨vs,rfl,hl,hv⟩:=h.agg_inv;exact .agg vs _ (by simpa using hl) fun j hj=>by rw[gm];exact(hv j (by simpa using hj)).kill1 hle hnl hmu ht
 | fn f l m=>
  cases h with
  | base _ _ h=>
   cases h with
   | fn f us vs bs cs' hk hl h0 h=>
    exact .fn f us vs _ _ (by simpa using hk) (by simpa using hl) (fun j hj=>by rw[gm];exact(RepF.base _ _ (h0 j (by simpa using hj))).kill1 hle hnl hmu ht) fun j hj=>by rw[gm];exact(RepF.base _ _ (h j (by simpa using hj))).kill1 hle hnl hmu ht
  | fn f us vs bs cs' hk hl h0 h=>
   exact .fn f us vs _ _ (by simpa using hk) (by simpa using hl) (fun j hj=>by rw[gm];exact(h0 j (by simpa using hj)).kill1 hle hnl hmu ht) fun j hj=>by rw[gm];exact(h j (by simpa using hj)).kill1 hle hnl hmu ht
 | _=>exact RepF.kill1 hle hnl hmu ht h
theorem RepF.kill {v:Value}{p:PV}(hle:Le w g w' g')(hnl:F.nl<=F'.nl)(hmu: ∀j,j<F.nl->j≠i->F'.lmu j=F.lmu j)(ht:KN w g F T w' g' F' T)(h:RepF w g F T v p):RepF w' g' F' T v (p.kill i):=by
 cases p with
 | tup l=>
  obtain⟨vs,rfl,hl,hv⟩:=h.tup_inv;exact .tup vs _ (by simpa using hl) fun j hj=>by rw[show(l.map (PV.kill2 i)).getD j .junk=(l.getD j .junk).kill2 i from Xs rfl l j];exact(hv j (by simpa using hj)).kill2 hle hnl hmu ht
 | _=>exact RepF.kill2 hle hnl hmu ht h
theorem q0w :KN w g F T w g F T:=⟨BD _,fun i hi=>⟨BD _,fun _ _ _ h=>h⟩⟩
end
def PFS.room (i:Nat)(X:List PV)(s:PFS):PFS:=⟨s.pa.map (PV.kill i),(s.L.map fun l=>l.map (PV.kill i)).set i X,s.T,s.st⟩
theorem qX {s:PFS}{i k:Nat}{X:Lp}(hk:i≠k):(s.room i X).L.getD k []=(s.L.getD k []).map (PV.kill i):=by show((s.L.map fun l=>l.map (PV.kill i)).set i X).getD k []=_;rw[Zg _ _ _ _ _ hk,YX (f:=fun l=>l.map (PV.kill i)) rfl]
theorem FSRep.room_same {E:Ent}{a:Act}{w:Lw}{g:Gh}{F:Fr}{s:PFS}(h:FSRep E a w g F s)(i:Nat):FSRep E a w g F (s.room i (s.L.getD i [])):=by
 have hk: ∀v p,RepF w g F s.T v p->RepF w g F s.T v (p.kill i):=fun v p hr=>hr.kill (.refl _ _) (BD _) (fun _ _ _=>rfl) q0w;have hL: ∀k,(s.room i (s.L.getD i [])).L.getD k []≠ []->s.L.getD k []≠ []:=fun k hk0 e=>by by_cases hik:i=k;subst hik;apply hk0;show((s.L.map fun l=>l.map (PV.kill i)).set i (s.L.getD i [])).getD i []= [];rw[e,Wo];rw[qX hik,e] at hk0;exact hk0 rfl
 refine⟨h.ext,h.store,⟨by simp[PFS.room,h.frame.nl],fun k hk0=>h.frame.lo k (hL k hk0),fun k hk0=>h.frame.apart k (hL k hk0),fun k j hk0 hj=>h.frame.inj k j (hL k hk0) (hL j hj),fun k hk0=> ?_,h.frame.tlo,fun k b hk0 hb=>⟨(h.frame.tapart k b hk0 hb).1,fun j hj=>(h.frame.tapart k b hk0 hb).2 j (hL j hj)⟩,h.frame.tinj⟩,h.defers,by simp[PFS.room,h.len],fun t ht=> ?_⟩;by_cases hik:i=k;subst hik;have hi:i<s.L.length:=by apply EV;intro hle;apply hL i hk0;rw[q_a,C2 hle];rfl
 have e:(s.room i (s.L.getD i [])).L.getD i []=s.L.getD i []:=Zw _ _ _ _ (by simpa using hi);rw[e];exact h.frame.holds i (hL i hk0);rw[qX hik];intro j hj;obtain⟨q1,c,q2,q3⟩:=h.frame.holds k (hL k hk0) j (by simpa using hj);exact⟨q1,c,q2,by rw[Xs (f:=PV.kill i) rfl];exact hk _ _ q3⟩;show RepF w g F s.T _ ((s.pa.map (PV.kill i)).getD t .junk);rw[Xs (f:=PV.kill i) rfl];exact hk _ _ (h.tmps t (by simpa[PFS.room] using ht))
theorem FSRep.room_new {E:Ent}{a:Act}{w:Lw}{g:Gh}{F:Fr}{s:PFS}(h:FSRep E a w g F s)(i:Nat)(hi:i<s.L.length)(ty:Lt)(vs:Lb)(X:Lp)(hl:X.length<=vs.size)
 (hq: ∀p∈X,p.quiet=true) (hr: ∀j,j<X.length->RepF w g F s.T (vs.getD j undef) (X.getD j .junk)):
 ∃g' F',FSRep E a (w.alloc (.cells vs ty)) g' F' (s.room i X)/\F'.lmu i=w.heap.size/\i<F'.nl:=by
 obtain⟨k,hz⟩:=IV w g (.cells vs ty) 0 h.store.none;obtain⟨f1,f2⟩:=h.frame.step k (fun _ _ h=>h) (fun _ _ _ _ h=>h)
 let F':Fr:=⟨F.nl,fun j=>if j=i then w.heap.size else F.lmu j,F.tb⟩
 have hnl:=h.frame.nl;have hmu: ∀j,j<F.nl->j≠i->F'.lmu j=F.lmu j:=fun j _ hj=>(by simp only[F'];rw[BA hj]);have ht:KN w g F s.T (w.alloc (.cells vs ty)) { g with vis:=fun b=>if b=w.heap.size then 0 else g.vis b } F' s.T:=⟨BD _,fun i hi=>⟨BD _,fun _ v es hR=>hR.mono fun b hb=>k.old b (h.frame.tlo i b hi hb).2.1 (fun h=>h)⟩⟩;have hm: ∀v p,RepF w g F s.T v p->RepF (w.alloc (.cells vs ty)) { g with vis:=fun b=>if b=w.heap.size then 0 else g.vis b } F' s.T v (p.kill i):=fun v p hp=>hp.kill k.le (show F.nl<=F'.nl from BD _) hmu ht;have hm1: ∀v p,RepF w g F s.T v p->RepF (w.alloc (.cells vs ty)) { g with vis:=fun b=>if b=w.heap.size then 0 else g.vis b } F' s.T v (p.kill1 i):=fun v p hp=>hp.kill1 k.le (show F.nl<=F'.nl from BD _) hmu ht;have hL: ∀k,i≠k->(s.room i X).L.getD k []≠ []->s.L.getD k []≠ []:=fun k hik hk0 e=>(by rw[qX hik,e] at hk0;exact hk0 rfl);have hX:(s.room i X).L.getD i []=X:=Zw _ _ _ _ (by simpa using hi);have hne: ∀k,s.L.getD k []≠ []->F.lmu k≠w.heap.size:=fun k hk e=>(by have:=(h.frame.lo k hk).2.1;omega);have e1:F'.lmu i=w.heap.size:=(by simp[F']);have e2: ∀k,i≠k->F'.lmu k=F.lmu k:=fun k hk=>(by simp only[F'];rw[BA (fun e=>hk e.symm)]);refine⟨_,F',⟨h.ext.step k (fun _ h=>h.elim),h.store.step k rfl (fun _ _ h=>h) hz,⟨?_,fun k hk0=> ?_,fun k hk0 j hj e=> ?_,fun k j hk0 hj e=> ?_,fun k hk0=> ?_,f1.tlo,fun k b hk0 hb=>⟨(f1.tapart k b hk0 hb).1,fun j hj e=> ?_⟩,f1.tinj⟩,h.defers,by simp[PFS.room,h.len],fun t ht0=> ?_⟩,e1,by simp only[F'];omega⟩;simp[F',PFS.room,hnl];by_cases hik:i=k;subst hik;rw[e1];exact⟨h.ext.size,by simp,by simp⟩;rw[e2 k hik];exact f1.lo k (hL k hik hk0);by_cases hik:i=k;subst hik;rw[e1] at e;have:=h.store.lt j hj;simp only at e;omega;rw[e2 k hik] at e;exact f1.apart k (hL k hik hk0) j hj e;by_cases hik:i=k<;>by_cases hij:i=j;omega;subst hik;rw[e1,e2 j hij] at e;exact absurd e.symm (hne j (hL j hij hj));subst hij;rw[e1,e2 k hik] at e;exact absurd e (hne k (hL k hik hk0));rw[e2 k hik,e2 j hij] at e;exact h.frame.inj k j (hL k hik hk0) (hL j hij hj) e;by_cases hik:i=k;subst hik;rw[hX,e1];intro j hj;refine⟨World.frozen?_alloc_new w vs ty j,vs.getD j undef,?_,?_⟩;rw[World.cell?_alloc_new,q_f,CW oG];rfl;have:=hm1 _ _ (hr j hj);rwa [y0g i (hq _ (Q8 _ _ _ hj))] at this;rw[qX hik,e2 k hik];have h0:=h.frame.holds k (hL k hik hk0);have hlt:=(h.frame.lo k (hL k hik hk0)).2.1;intro j hj;obtain⟨q1,c,q2,q3⟩:=(Holds.mono (R':=RepF w g F s.T) h0 (heap_alloc_old w (.cells vs ty) hlt) (fun _ _ h=>h)) j (by simpa using hj);exact⟨q1,c,q2,by rw[Xs (f:=PV.kill i) rfl];exact hm _ _ q3⟩;by_cases hij:i=j;subst hij;rw[e1] at e;have:=(h.frame.tlo k b hk0 hb).2.1;omega;rw[e2 j hij] at e;exact(h.frame.tapart k b hk0 hb).2 j (hL j hij hj) e;show RepF _ _ F' s.T _ ((s.pa.map (PV.kill i)).getD t .junk);rw[Xs (f:=PV.kill i) rfl];exact hm _ _ (h.tmps t (by simpa[PFS.room] using ht0))
theorem X0o (n j:Nat):(List.replicate n PV.junk).getD j .junk= .junk:=by rw[q_a,List.getElem?_replicate];split<;>rfl
def xN (cs:List PV)(len cap:Nat)(ys:List PV)(e:EI):Prop:=
 e.zok=true/\0<e.sz/\cs.length=cap*e.sz/\len+ys.length<=1152921504606846976/\(len+ys.length)*e.by_<=140737488355328/\
  ys.all (fun x=>(x.cells.length==e.sz)&&x.cells.all PV.cellOK)=true/\cs.all PV.quiet=true/\(flat ys).all PV.quiet=true
theorem ko {cs:Lp}(h:cs.all PV.quiet=true): ∀p∈cs,p.quiet=true:=List.all_eq_true.1 h
theorem Q2y {P:Pg}{E:Ent}{a:Act}{w:Lw}{g:Gh}{F:Fr}{s:PFS}{t tx e':Lt}{e:EI}(hu:P.underlying t=some (.slice e.id))(hei:ei P e.id=some e)(hu2:P.underlying tx=some (.slice e')){ys:Lp}{v x:Value}{ty:Lt}{i len cap:Nat}
 (h:FSRep E a w g F s) (hv:RepF w g F s.T v (.mr i len cap)) (hx:Rep w g x (.sl .no ys)) (hok:xN (s.L.getD i []) len cap ys e):
 ∃cap' R,len+ys.length<=cap'/\R.length=(cap'-(len+ys.length))*e.sz/\R.all PV.quiet=true/\
  XP P E a w (do pure (.value (<-Builtin.append_ #[t,tx] ty #[v,x]))) (.mr i (len+ys.length) cap') (s.room i ((s.L.getD i []).take (len*e.sz)++(flat ys++R))):=by
 obtain⟨c1,c0,cl,c2,c3,c5,c6,c7⟩:=hok;obtain⟨news,hs⟩:=HZ (P:=P) hu2 hx c5;obtain⟨ti,u,hi,hu',he⟩:=K1 hei;have e1:ti.size=e.sz:=(by rw[he]);have e2:ti.bytes=e.by_:=(by rw[he]);obtain⟨z,hz,hzs⟩: ∃z,ti.zero=some z/\z.cells.size=ti.size:=by have:=B4 EI.zok he;rw[c1] at this;simp only at this;split at this;rename_i z hz;exact⟨z,hz,by simpa using this.symm⟩;cases this
 have hfl:=KJ hs.each;have hnl:news.length=ys.length*e.sz:=hs.src.newsLen;have hs0:=hs;rw[<-e1] at hs;generalize hcs:s.L.getD i []=cs at*
 have hil:i<F.nl/\len<=cap:=by
  cases hv with
  | base _ _ h=>cases h
  | lmr i len cap hi hcap=>exact⟨hi,hcap⟩
  | lmr0 i ad hi=>exact⟨hi,BD _⟩
 have hiL:i<s.L.length:=by rw[<-h.frame.nl];exact hil.1
 --a new block
 have grow: ∀(base:Option Addr),v= .slice base len cap->cap<len+ys.length->(olds:Ps)->olds.length=len*e.sz->
  (Builtin.firstCells ti.size len (.slice base len cap)).run P w.drew= .ok olds.toArray w.drew->
  (∀m,m<len*e.sz->RepF w g F s.T (olds.getD m undef) (cs.getD m .junk))->
  ∃cap' R,len+ys.length<=cap'/\R.length=(cap'-(len+ys.length))*e.sz/\R.all PV.quiet=true/\
   XP P E a w (do pure (.value (<-Builtin.append_ #[t,tx] ty #[v,x]))) (.mr i (len+ys.length) cap') (s.room i (cs.take (len*e.sz)++(flat ys++R))):=by
  intro base hvb hcap olds hol hold hrolds;subst hvb;have hrun:=run_append_grow_src (P:=P) w t tx ty e.id ti z hu hi hz base len cap olds hold x ys.length news hs.src hcap oG (growslice_fits hcap (by rw[e2];exact c3));generalize hvs:(olds++news).toArray++Builtin.zeroCells z.cells (grownCap w (len+ys.length) cap e.id-(len+ys.length))=vs at hrun;have hge:=grownCap_ge w (len+ys.length) cap e.id;generalize grownCap w (len+ys.length) cap e.id=C at*
  obtain⟨d1,d2⟩:=h.drew;have hvsz:vs.size=C*e.sz:=by rw[<-hvs,Array.size_append,size_zeroCells,hzs,e1];simp only[E2,BH,hol,hnl,<-BQ];congr 1;omega
  let R:=List.replicate ((C-(len+ys.length))*e.sz) PV.junk
  have hlenX:(cs.take (len*e.sz)).length=len*e.sz:=by rw[BX,cl];have:=BG e.sz hil.2;omega
  have hX:(cs.take (len*e.sz)++(flat ys++R)).length=C*e.sz:=by rw[BH,BH,hlenX,hfl,ER,<-BQ,<-BQ];congr 1;omega
  obtain⟨g',F',f1,f2,f3⟩:=d1.room_new i hiL e.id vs (cs.take (len*e.sz)++(flat ys++R)) oG (fun p hp=>by
   rcases DN.1 hp with hp | hp;exact ko c6 p (List.mem_of_mem_take hp);rcases DN.1 hp with hp | hp;exact ko c7 p hp;rw[List.eq_of_mem_replicate hp];rfl) (fun m hm=>by
   by_cases h1:m<len*e.sz;have hlo:m<(olds++news).toArray.size:=(by simp only[E2,BH,hol];omega);rw[<-hvs,Array.getD_append_left' _ _ _ _ hlo,VO,QQ _ _ _ _ oG,QQ _ _ _ _ oG,WS _ _ _ _ h1];exact d2 _ _ (hrolds m h1);rw[Zl _ _ _ _ oG,hlenX];by_cases h2:m-len*e.sz<(flat ys).length;have h3:m-len*e.sz<ys.length*e.sz:=oG;have hlo:m<(olds++news).toArray.size:=(by simp only[E2,BH,hol];omega);rw[<-hvs,Array.getD_append_left' _ _ _ _ hlo,VO,Zl _ _ _ _ oG,hol,QQ _ _ _ _ h2,VQ hs0.each _ h3];exact d2 _ _ (.base _ _ (hs0.rep _ h3));rw[Zl _ _ _ _ oG,X0o];exact .base _ _ (.junk _))
  refine⟨C,R,hge,by simp[R],List.all_eq_true.2 fun p hp=>by rw[List.eq_of_mem_replicate hp];rfl,_,_,g',F',by simp only[Sem.run_bind,hrun,Result.andThen_ok,Sem.run_pure];rfl,f1,.inl ⟨_,rfl,?_⟩⟩;have:=RepF.lmr (w:=w.drew.alloc (.cells vs e.id)) (g:=g') (F:=F') (T:=s.T) i (len+ys.length) C f3 hge;rw[f2] at this;exact this
 --what lies in the box
 have hcell: ∀ad,v= .slice ad len cap->(0<cap->ad=some ⟨F.lmu i,0,none⟩)-> ∃olds:List Value,olds.length=len*e.sz/\(Builtin.firstCells ti.size len (.slice ad len cap)).run P w.drew= .ok olds.toArray w.drew/\ ∀m,m<len*e.sz->RepF w g F s.T (olds.getD m undef) (cs.getD m .junk):=fun ad hv' had=>by
  by_cases hc0:0<cap;have:=had hc0;subst this;have hne:s.L.getD i []≠ []:=fun e0=>by rw[hcs] at e0;rw[e0] at cl;have:=Nat.mul_pos hc0 c0;simp at cl;omega
  obtain⟨cf,hcf⟩:=(h.frame.holds i hne).pick;rw[hcs] at hcf;have hle:len*e.sz<=cs.length:=(by rw[cl];exact BG _ hil.2);refine⟨(List.range (len*e.sz)).map cf,by simp,?_,fun m hm=> ?_⟩;refine run_firstCells_some w.drew ti.size len ⟨F.lmu i,0,none⟩ len cap _ (by simp[e1]) (fun j u hu=> ?_);rw[Addr.add_mid,World.cell?_drew,CU];have hj:j<len*e.sz:=by have:=(FB.1 hu).1;simpa using this
  rw[(hcf j oG).1];simp[EB hj] at hu;rw[hu];have e0:((List.range (len*e.sz)).map cf).getD m undef=cf m:=(by simp[q_a,hm]);rw[e0];exact(hcf m oG).2;have hc0':cap=0:=oG;have hl0:len=0:=(by have:=hil.2;omega);subst hl0 hc0';refine⟨[],by simp,?_,fun m hm=>by simp at hm⟩;cases ad with
  | none=>exact run_firstCells_none _ _ _ _ _
  | some a=>simp[Builtin.firstCells,loadCells,loadCellsFrom]
 have hform: ∃ad,v= .slice ad len cap/\(0<cap->ad=some ⟨F.lmu i,0,none⟩):=by
  cases hv with
  | base _ _ h=>cases h
  | lmr i len cap hi hcap=>exact⟨_,rfl,fun _=>rfl⟩
  | lmr0 i ad hi=>exact⟨ad,rfl,fun h=>absurd h (Nat.lt_irrefl 0)⟩
 obtain⟨ad,hva,had⟩:=hform;by_cases hroom:len+ys.length<=cap;by_cases hc0:0<cap
 --in VG
 have:=had hc0;subst this hva;have hne:s.L.getD i []≠ []:=fun e0=>by rw[hcs] at e0;rw[e0] at cl;have:=Nat.mul_pos hc0 c0;simp at cl;omega
 have hfit:len*e.sz+(flat ys).length<=cs.length:=by rw[hfl,cl,<-BQ];exact BG _ hroom
 have hh:=h.frame.holds i hne;rw[hcs] at hh;have hrun:=run_append_room_src (P:=P) w t tx ty e.id ti hu hi (F.lmu i) 0 len cap x ys.length news hs.src hroom (fun j hj=>by obtain⟨_,c,q2,_⟩:=hh (0+len*ti.size+j) (by rw[e1];omega);rw[q2];rfl) (fun j hj=>(hh (0+len*ti.size+j) (by rw[e1];omega)).1);rw[e1,CU] at hrun;obtain⟨f1,f2⟩:=h.storeL i (len*e.sz) news (flat ys) (by rw[hnl,hfl]) hne (by rw[hcs];exact hfit) (fun j hj=>by have hj':j<ys.length*e.sz:=oG;rw[VQ hs0.each j hj'];exact .base _ _ (hs0.rep j hj'));have f3:=f1.room_same i;have e3:({ s with L:=s.L.set i (Qu (s.L.getD i []) (len*e.sz) (flat ys)) } :PFS).L.getD i []=Qu cs (len*e.sz) (flat ys):=(by show(s.L.set i _).getD i []=_;rw[Zw _ _ _ _ hiL,hcs]);rw[e3] at f3;have e4:({ s with L:=s.L.set i (Qu (s.L.getD i []) (len*e.sz) (flat ys)) } :PFS).room i (Qu cs (len*e.sz) (flat ys))=s.room i (Qu cs (len*e.sz) (flat ys)):=(by unfold PFS.room;congr 1;simp only[FA,EF]);rw[e4] at f3;refine⟨cap,cs.drop (len*e.sz+(flat ys).length),hroom,?_,List.all_eq_true.2 fun p hp=>ko c6 p (List.mem_of_mem_drop hp),_,_,g,F,by simp only[Sem.run_bind,hrun,Result.andThen_ok,Sem.run_pure];rfl,?_,.inl ⟨_,rfl,.lmr i _ cap hil.1 hroom⟩⟩;rw[DM,cl,hfl,<-BQ,<-Nat.sub_mul];have e5:Qu cs (len*e.sz) (flat ys)=cs.take (len*e.sz)++(flat ys++cs.drop (len*e.sz+(flat ys).length)):=(by unfold Qu;rw[BP]);rw[<-e5];exact f3
 --nothing into nothing
 have hc0':cap=0:=oG;have hl0:len=0:=(by have:=hil.2;omega);have hy:ys= []:=BY oG;subst hl0 hc0' hy hva;have hn:news= []:=BY (by simpa using hnl);subst hn;have hcs0:cs= []:=BY (by simpa using cl);have hc:(Builtin.firstCells ti.size 0 x).run P w= .ok #[] w:=hs.src.cells;have hrun:(Builtin.append_ #[t,tx] ty #[.slice ad 0 0,x]).run P w= .ok (.slice ad 0 0) w:=by
  rcases hs.src.kind with ⟨e',hk'⟩ | hk'<;>cases ad<;>
   simp[Builtin.append_,run_underlying hu,run_underlying hk',sizeOf,typeInfo,hi,hs.src.len,hc,storeCells]
 have f3:=h.room_same i;rw[hcs,hcs0] at f3;refine⟨0,[],BD _,by simp,rfl,_,_,g,F,by simp only[Sem.run_bind,hrun,Result.andThen_ok,Sem.run_pure];rfl,by rw[hcs0];simpa[flat] using f3,.inl ⟨_,rfl,.lmr0 i ad hil.1⟩⟩;obtain⟨olds,o1,o2,o3⟩:=hcell ad hva had;exact grow ad hva oG olds o1 o2 o3
def yx (T U:Option TI)(x y:PV)(s:PFS)(K:PV->PFS->Prop):Prop:=
 match T,U,x,y with
 | some ⟨_,_,.slice e,_⟩,some ⟨_,_,.slice _,_⟩,.mr i len cap,.sl _ ys=>xN (s.L.getD i []) len cap ys e/\ ∀cap' R,len+ys.length<=cap'->R.length=(cap'-(len+ys.length))*e.sz->R.all PV.quiet=true->
  K (.mr i (len+ys.length) cap') (s.room i ((s.L.getD i []).take (len*e.sz)++(flat ys++R)))
 | _,_,_,_=>False
def Gu (P:Program)(o:Oper)(K:PFS->Prop)(s:PFS):Prop:=
 match o.op with
 | .call { callee:= .builtin .append,args,argTypes } =>
  match argTypes.toList,args.toList with
  | [t,u],[x,y]=>yx (ti P t) (ti P u) (s.ev x) (s.ev y) s (fun p s'=>K (s'.put o.dst p))
  | _,_=>False
 | _=>False
theorem Z2v {P:Pg}{E:Ent}{a:Act}{w:Lw}{g:Gh}{F:Fr}{s:PFS}{o:Oper}{K:Pf}(h:FSRep E a w g F s)(hp:Gu P o K s){next:Act->World->Prop}{Q:Pt}
 (hn: ∀a' w' g' F' s',FSRep E a' w' g' F' s'->K s'->next a' w'):o.wp P a w next Q:=by
 unfold Gu at hp;split at hp;rotate_left;exact hp.elim;rename_i args ts heq;split at hp;rotate_left;exact hp.elim;rename_i t u o1 o2 hts hargs;unfold yx at hp;split at hp;rotate_left;exact hp.elim;rename_i e _ _ _ e2 _ i len cap tg ys hT hU h1 h2;obtain⟨c1,hk⟩:=hp;obtain⟨_,_,_,hu,hT'⟩:=QS hT;obtain⟨rfl,hei⟩:=ZK (B4 TI.ud hT').symm;obtain⟨_,_,_,hu2,hU'⟩:=QS hU;obtain⟨rfl,_⟩:=ZK (B4 TI.ud hU').symm;have ha:args= #[o1,o2]:=(by rw[<-hargs]);have ht:ts= #[t,u]:=(by rw[<-hts]);subst ha ht;have hv:=h.ev o1;rw[h1] at hv;have hx:=h.ev o2;rw[h2] at hx;obtain⟨cap',R,hc1,hc2,hc3,nx,w',g',F',r1,r2,r3⟩:=Q2y (P:=P) (ty:=o.type) hu hei hu2 h hv hx.slNo c1;have hex:(execOp a.eval o).run P w= .ok nx w':=by unfold execOp;simp only[heq,resolve,invoke,Sem.run_bind,Sem.run_pure,Result.andThen_ok];show(do pure (Next.value (<-Builtin.append_ #[t,u] o.type (Array.map a.eval #[o1,o2]))):Sem Next).run P w=_;rw[<-r1];simp
 unfold Oper.wp;rw[hex];rcases r3 with ⟨v,rfl,hv⟩ | ⟨rfl,hj⟩;exact hn _ _ _ _ _ (r2.put o.dst hv) (hk cap' R hc1 hc2 hc3);cases hj
theorem Z2x {P:Pg}{o:Oper}{K:Pf}{s:PFS}(hp:Gu P o K s): ∀c,o.op≠ .defer c:=by intro c hc;unfold Gu at hp;rw[hc] at hp;exact hp
theorem Z2w {P:Pg}{E:Ent}{a:Act}{w:Lw}{g:Gh}{F:Fr}{s:PFS}{o:Oper}{K:Pf}(h:FSRep E a w g F s)(hp:Gu P o K s){next:Act->World->Prop}{Q:Pt}
 (hn: ∀a' w' g' F' s',FSRep E a' w' g' F' s'->K s'->next a' w'):o.wpIn (fen E.rd) 0 P a w next Q:=
 HH E.rd (Z2x hp) (Z2v h hp hn)
def POr (P:Program)(o:Oper)(K:PFS->Prop)[Stop o][Stop K](s:PFS):Prop:=Gu P o K s
section
variable {P:Program} {s:PFS} {K:PFS->Prop} {d:Option Tmp} {ty:TypeId} {pos:String} {af:Array Edge}
def Y0r (T U:Option TI)(x y:PV)(s:PFS)(K:PV->PFS->Prop)[Stop K]:Prop:=yx T U x y s K
@[go_sem] theorem x2k {x y:Operand}{t u:Lt} :POr P ⟨d,.call ⟨.builtin .append,[x,y].toArray,[t,u].toArray⟩,ty,pos,af,none⟩ K s=Y0r (ti P t) (ti P u) (s.ev x) (s.ev y) s (fun p s'=>K (s'.put d p)):=(rfl)
@[go_sem] theorem z2m {e e':EI}{x1 y1:Bool}{x2 y2:Nat}{x4 y4:Pr}{t:Tag}{i len cap:Nat}{ys:Lp}{K:Pw} :Y0r (some ⟨x1,x2,.slice e,x4⟩) (some ⟨y1,y2,.slice e',y4⟩) (.mr i len cap) (.sl t ys) s K=
 (xN (s.L.getD i []) len cap ys e/\ ∀cap' R,len+ys.length<=cap'->R.length=(cap'-(len+ys.length))*e.sz->R.all PV.quiet=true->K (.mr i (len+ys.length) cap') (s.room i ((s.L.getD i []).take (len*e.sz)++(flat ys++R)))):=(rfl)
@[go_sem] theorem K2b {i:Nat}{X pa:Lp}{L st:Qd}{T:Lv} :(PFS.mk pa L T st).room i X=⟨pa.map (PV.kill i),(L.map fun l=>l.map (PV.kill i)).set i X,T,st⟩:=(rfl)
@[go_sem] theorem W2a {i:Nat} :PV.kill i .junk= .junk:=(rfl)
@[go_sem] theorem V2x {i:Nat}{v:Value} :PV.kill i (.sc v)= .sc v:=(rfl)
@[go_sem] theorem V2w {i:Nat}{t:Tag}{es:Lp} :PV.kill i (.sl t es)= .sl t es:=(rfl)
@[go_sem] theorem W2b {i o:Nat}{es:Lp} :PV.kill i (.ep es o)= .ep es o:=(rfl)
@[go_sem] theorem V2y {i k n c:Nat} :PV.kill i (.mr k n c)=if k=i then .junk else .mr k n c:=(rfl)
@[go_sem] theorem V2z {i k o:Nat} :PV.kill i (.lp k o)=if k=i then .junk else .lp k o:=(rfl)
@[go_sem] theorem W2c {i:Nat}{l:Lp} :PV.kill i (.agg l)= .agg (l.map (PV.kill1 i)):=(rfl)
@[go_sem] theorem V2v {i:Nat}{l:Lp} :PV.kill i (.tup l)= .tup (l.map (PV.kill2 i)):=(rfl)
@[go_sem] theorem W2d {i:Nat}{v:Value} :PV.kill2 i (.sc v)= .sc v:=(rfl)
@[go_sem] theorem W2e {i:Nat}{l:Lp} :PV.kill2 i (.agg l)= .agg (l.map (PV.kill1 i)):=(rfl)
@[go_sem] theorem W2g {i:Nat}{v:Value} :PV.kill1 i (.sc v)= .sc v:=(rfl)
@[go_sem] theorem W2f {i:Nat}{t:Tag}{es:Lp} :PV.kill1 i (.sl t es)= .sl t es:=(rfl)
@[go_sem] theorem H2w {i n c:Nat} :(PV.mr i n c).cells= [.mr i n c]:=(rfl)
end
theorem G0k {E:Ent}(s:PFS):JQ E s { s with L:=s.L++ [[]] } :=by
 intro a w g F h
 let F':Fr:=⟨s.L.length+1,F.lmu,F.tb⟩
 have hnl:=h.frame.nl;have hm: ∀v p,RepF w g F s.T v p->RepF w g F' s.T v p:=fun v p hp=>RepF.mono (F:=F) (F':=F') (.refl _ _) (by simp[F',hnl]) (fun _ _=>rfl) ⟨BD _,fun i hi=>⟨BD _,fun _ _ _ hR=>hR⟩⟩ hp;have hL: ∀k,(s.L++ [[]]).getD k []=s.L.getD k []:=fun k=>by by_cases hk:k<s.L.length;exact QQ _ _ _ _ hk;rw[Zl _ _ _ _ oG];rw[show s.L.getD k []= [] from by rw[q_a,C2 oG];rfl];by_cases h0:k-s.L.length=0;rw[h0];rfl;rw[q_a,C2 (by simp;omega)];rfl
 refine⟨g,F',h.ext,h.store,⟨by simp[F'],fun k hk=> ?_,fun k hk=> ?_,fun k j hk hj=> ?_,fun k hk=> ?_,h.frame.tlo,fun k b hk hb=>⟨(h.frame.tapart k b hk hb).1,fun j hj=> ?_⟩,h.frame.tinj⟩,h.defers,h.len,fun t ht=>hm _ _ (h.tmps t ht)⟩;simp only[hL] at hk;exact h.frame.lo k hk;simp only[hL] at hk;exact h.frame.apart k hk;simp only[hL] at hk hj;exact h.frame.inj k j hk hj;simp only[hL] at hk⊢;exact(h.frame.holds k hk).mono rfl hm;simp only[hL] at hj;exact(h.frame.tapart k b hk hb).2 j hj
theorem y0w {P:Pg}{E:Ent}{c:Code}{Q:Pe}{s:PFS}(h:PWP P E c Q { s with L:=s.L++ [[]] }):PWP P E c Q s:=Kt (G0k s) h
theorem y0h {l:Lp}(h:l.all PV.quiet=true):Zo l=true:=by
 unfold Zo;refine List.all_eq_true.2 fun p hp=> ?_;have hq:=List.all_eq_true.1 h p hp;have h1:=(y0i hq).1;rw[h1];cases p with
 | agg l=>cases hq
 | _=>rfl
theorem I9 (xs ys:Lp):flat (xs++ys)=flat xs++flat ys:=by simp[flat]
@[go_sem] theorem H2l {Q:Pe}{s:PFS}{id:Nat} :XG id Q .normal s=Q .normal s:=(rfl)
@[go_sem] theorem H2k {Q:Pe}{s:PFS}{id:Nat} :XG id Q .ret s=Q .ret s:=(rfl)
@[go_sem] theorem H2n {Q:Pe}{s:PFS}{id:Nat} :XG id Q (.exit id) s=Q .normal s:=by simp[XG]
@[go_sem] theorem H2m {Q:Pe}{s:PFS}{id id':Nat}(h:id'≠id):XG id Q (.exit id') s=Q (.exit id') s:=by simp[XG,h]
@[go_sem] theorem U2r {Q:Pe}{s:PFS} :Ht Q .ret s=Q .ret s:=(rfl)
@[go_sem] theorem U2s {Q:Pe}{s:PFS}{id:Nat} :Ht Q (.exit id) s=Q (.exit id) s:=(rfl)
theorem XK {P:Pg}{E:Ent}{c:Code}{Q:Pe}{s:PFS}(bs:Ld)(nL nT:Nat)(I:Nat->PFS->Prop)(n:Nat)(h0:s.maskOK bs nL nT/\I n (s.mask bs nL nT))
 (round: ∀n s,I n s->PWP P E c (ZI (fun s'=>s'.maskOK bs nL nT/\ ∃m,m<n/\I m (s'.mask bs nL nT)) Q) s):PWP P E (.loop c) Q s:=by
 refine Od (fun n s=>s.maskOK bs nL nT/\I n (s.mask bs nL nT)) n h0 fun n s ⟨hm,hI⟩=> ?_;refine Kt (G0 hm) (zl (round n _ hI) ?_);intro e s hq;cases e with
 | normal=>obtain⟨hm',m,hlt,hI'⟩:=hq;exact⟨m,hlt,hm',hI'⟩
 | _=>exact hq
def Qv {β:Type}(G:Nat->β×Int):Nat->Nat->List β->List β×Int
 | _,0,acc=>(acc,0)
 | i,k+1,acc=>if (G i).2≠0 then([],(G i).2) else Qv G (i+1) k (acc++ [(G i).1])
theorem K0n {α β:Type}[Inhabited α](F:Nat->α->β×Int): ∀(l:List α) (i:Nat) (acc:List β),ZD F i l acc=Qv (fun j=>F j (l.getD (j-i) default)) i l.length acc
 | [],i,acc=>rfl
 | x::l,i,acc=>by
  have e: ∀j,i+1<=j->j<i+1+l.length->F j (l.getD (j-(i+1)) default)=F j ((x::l).getD (j-i) default):=fun j h1 _=>by rw[show j-i=(j-(i+1))+1 from oG];rfl
  have key: ∀(k i':Nat) (acc:List β),i+1<=i'->i'+k<=i+1+l.length->Qv (fun j=>F j (l.getD (j-(i+1)) default)) i' k acc=Qv (fun j=>F j ((x::l).getD (j-i) default)) i' k acc:=by
   intro k
   induction k with
   | zero=>intro i' acc _ _;rfl
   | succ k ih=>
    intro i' acc h1 h2;simp only[Qv,e i' h1 oG];split;rfl;exact ih _ _ oG oG
  have e0:F i ((x::l).getD (i-i) default)=F i x:=by rw[DD];rfl
  rw[ZD,C1,Qv,e0,K0n F l (i+1),key _ _ _ oG oG]
theorem Gc {α β:Type}[Inhabited α](F:Nat->α->β×Int)(l:List α):ZD F 0 l []=Qv (fun j=>F j (l.getD j default)) 0 l.length []:=by rw[K0n];simp only[Nat.sub_zero]
theorem Cl {β:Type}[Inhabited β]{G:Nat->β×Int} : ∀(k i:Nat) (acc:List β),(Qv G i k acc).2=0->
 (Qv G i k acc).1.length=acc.length+k/\(∀j,j<k->(G (i+j)).2=0)/\ ∀j,j<acc.length+k->(Qv G i k acc).1.getD j default=if j<acc.length then acc.getD j default else(G (i+(j-acc.length))).1
 | 0,i,acc,_=>by refine⟨rfl,fun j h=>oG,fun j h=> ?_⟩;rw[BC oG];rfl
 | k+1,i,acc,h=>by
  simp only[Qv] at h⊢;by_cases h0:(G i).2≠0;rw[BC h0] at h;exact absurd h h0;rw[BA h0] at h⊢;obtain⟨a1,a2,a3⟩:=Cl k (i+1) (acc++ [(G i).1]) h;refine⟨by rw[a1];simp;omega,fun j hj=> ?_,fun j hj=> ?_⟩;cases j with
  | zero=>exact C8.1 h0
  | succ j=>have:=a2 j oG;rw[show i+(j+1)=i+1+j from oG];exact this
  rw[a3 j (by simp;omega)];simp only[BH,C1,D6];by_cases c1:j<acc.length;rw[BC oG,BC c1,q_a,B6 c1,<-q_a];rw[BA c1];by_cases c2:j=acc.length;subst c2;rw[BC oG,DD,B1];simp[q_a];rw[BA oG];rw[show i+1+(j-(acc.length+(0+1)))=i+(j-acc.length) from oG]
theorem j7 {β:Type}[Inhabited β]{G:Nat->β×Int} : ∀(k i:Nat) (acc:List β),(∀j,i<=j->j<i+k->(G j).2=0)->(Qv G i k acc).2=0
 | 0,i,acc,_=>rfl
 | k+1,i,acc,h=>by simp only[Qv];rw[BA (by rw[h i oG oG];decide)];exact j7 k _ _ fun j h1 h2=>h j oG oG
theorem KA {β:Type}[Inhabited β]{G:Nat->β×Int}{k:Nat}(h:(Qv G 0 k []).2=0):(Qv G 0 k []).1.length=k/\(∀j,j<k->(G j).2=0)/\ ∀j,j<k->(Qv G 0 k []).1.getD j default=(G j).1:=by obtain⟨a1,a2,a3⟩:=Cl k 0 [] h;refine⟨by simpa using a1,fun j hj=>by simpa using a2 j hj,fun j hj=> ?_⟩;have:=a3 j (by simpa using hj);simpa using this
theorem W5 {β:Type}{G:Nat->β×Int} : ∀(k i:Nat) (acc:List β),(Qv G i k acc).1.length<=acc.length+k
 | 0,i,acc=>by simp[Qv]
 | k+1,i,acc=>by simp only[Qv];split;simp;have:=W5 (G:=G) k (i+1) (acc++ [(G i).1]);simp at this;omega
theorem z0l {β:Type}{G:Nat->β×Int}(k:Nat)(h:0<k)(e:Int)(he:e≠0)(hf: ∀i,(G i).2=e):Qv G 0 k []=([],e):=by
 cases k with
 | zero=>omega
 | succ k=>simp only[Qv];rw[BC (by rw[hf];exact he),hf]
theorem KS {β:Type}(p:β->Prop){G:Nat->β×Int} : ∀(k i:Nat) (acc:List β),(∀j,i<=j->j<i+k->p (G j).1)->(∀x∈acc,p x)-> ∀x∈(Qv G i k acc).1,p x
 | 0,i,acc,_,h=>h
 | k+1,i,acc,hg,h=>by simp only[Qv];split;intro x hx;cases hx;refine KS p k _ _ (fun j h1 h2=>hg j oG oG) fun x hx=> ?_;rcases DN.1 hx with hx | hx;exact h x hx;rw[C0.1 hx];exact hg i oG oG
theorem KR {β:Type}(G:Nat->β×Int){i n:Nat}(h:i<n)(acc:List β):Qv G i (n-i) acc=if (G i).2≠0 then([],(G i).2) else Qv G (i+1) (n-(i+1)) (acc++ [(G i).1]):=by rw[show n-i=(n-(i+1))+1 from oG,Qv]
theorem Vg {β:Type}(G:Nat->β×Int)(n:Nat)(acc:List β):Qv G n (n-n) acc=(acc,0):=by rw[DD];rfl
abbrev Mx :=List (List Ivl)
def wM (m:Mx):Prop:=m.length<=100000000000/\ ∀i,i<m.length->wB (m.getD i [])
def rightM (m:Mx):Bool:=(m.all fun r=>decide (r.length=m.length)&&rightB r)&&decide (1<=m.length)&&decide (m.length<=4)
theorem Jl {m:Mx}(h:rightM m=true):1<=m.length/\m.length<=4:=by unfold rightM at h;simp only[q_i,BN] at h;exact⟨h.1.2,h.2⟩
theorem KD {m:Mx}(h:rightM m=true){i:Nat}(hi:i<m.length):(m.getD i []).length=m.length/\rightB (m.getD i [])=true:=by unfold rightM at h;simp only[q_i,BN,q_d] at h;have hm:m.getD i []∈m:=(by simp[q_a,BB hi]);have:=h.1.1 _ hm;simpa using this
theorem rightM_iff {m:Mx} :rightM m=true<->(∀i,i<m.length->(m.getD i []).length=m.length/\rightB (m.getD i [])=true)/\1<=m.length/\m.length<=4:=by constructor;intro h;exact⟨fun i hi=>KD h hi,Jl h⟩;rintro⟨h1,h2,h3⟩;unfold rightM;simp only[q_i,BN,q_d];refine⟨⟨fun r hr=> ?_,h2⟩,h3⟩;obtain⟨i,hi,rfl⟩:=List.getElem_of_mem hr;have:=h1 i hi;rw[q_a,BB hi] at this;simpa using this
theorem jY {b:Li}(h:rightB b=true){i:Nat}(hi:i<b.length):Qp (b.getD i default)=true:=by unfold rightB at h;simp only[q_i,q_d] at h;exact h.1.1 _ (by simp[q_a,BB hi])
def atM (m:Mx)(i j:Nat):Ivl:=(m.getD i []).getD j default
theorem qZ {m:Mx}(h:rightM m=true){i j:Nat}(hi:i<m.length)(hj:j<m.length):Qp (atM m i j)=true:=by obtain⟨h1,h2⟩:=KD h hi;exact jY h2 (by rw[h1];exact hj)
def ZN (G:Nat->Nat->Ivl×Int)(n:Nat):Mx×Int:=Qv (fun i=>Qv (fun j=>G i j) 0 n []) 0 n []
def opM (k:Nat)(a b:Mx)(p:Int):Mx×Int:=if rightM a=true/\rightM b=true/\a.length=b.length/\Qt p=true then ZN (fun i j=>opI k (atM a i j) (atM b i j) p) a.length else([],1)
def KQ (x:Ivl)(m:Mx)(p:Int):Mx×Int:=if rightM m=true/\Qp x=true/\Qt p=true then ZN (fun i j=>opI 2 x (atM m i j) p) m.length else([],1)
def Q6 (x y:Nat->Ivl)(p:Int):Nat->Ivl×Int
 | 0=>(default,0)
 | k+1=>
  if (Q6 x y p k).2≠0 then(default,(Q6 x y p k).2) else
  if (opI 2 (x k) (y k) p).2≠0 then(default,(opI 2 (x k) (y k) p).2) else
  if k=0 then opI 2 (x k) (y k) p else
  if (opI 0 (Q6 x y p k).1 (opI 2 (x k) (y k) p).1 p).2≠0 then(default,(opI 0 (Q6 x y p k).1 (opI 2 (x k) (y k) p).1 p).2) else
  opI 0 (Q6 x y p k).1 (opI 2 (x k) (y k) p).1 p
theorem V0b {x x' y y':Nat->Ivl}{p:Int} : ∀n,(∀k,k<n->x k=x' k/\y k=y' k)->Q6 x y p n=Q6 x' y' p n
 | 0,_=>rfl
 | n+1,h=>by obtain⟨h1,h2⟩:=h n oG;simp only[Q6,V0b n (fun k hk=>h k oG),h1,h2]
def Zc (a b:Mx)(p:Int):Mx×Int:=if rightM a=true/\rightM b=true/\a.length=b.length/\Qt p=true then ZN (fun i j=>Q6 (atM a i) (fun k=>atM b k j) p a.length) a.length else([],1)
def Xt (m:Mx)(b:List Ivl)(p:Int):List Ivl×Int:=if rightM m=true/\rightB b=true/\m.length=b.length/\Qt p=true then Qv (fun i=>Q6 (atM m i) (fun k=>b.getD k default) p b.length) 0 m.length [] else([],1)
def KX (m:Mx)(p:Int):List (List Nm)×Int:=if rightM m=true/\Qt p=true then Qv (fun i=>Zk (m.getD i []) p) 0 m.length [] else([],1)
def KG (x:Nm):Nm:=⟨false,x.exp,x.w⟩
def XU (a:Ivl):Nm:=if Qp a=true then Zv (KG a.lo) (KG a.hi) else default
def ZM (r:Nat->Ivl)(p:Int):Nat->Nm×Int
 | 0=>(XU (r 0),0)
 | j+1=>if (ZM r p j).2≠0 then(default,(ZM r p j).2) else Qs 0 (ZM r p j).1 (XU (r (j+1))) p true
def Xd (m:Mx)(p:Int):Nat->Nm×Int
 | 0=>(default,0)
 | i+1=>if (Xd m p i).2≠0 then(default,(Xd m p i).2) else
  if (ZM (atM m i) p (m.length-1)).2≠0 then(default,(ZM (atM m i) p (m.length-1)).2) else
  if Q9 (ZM (atM m i) p (m.length-1)).1 (Xd m p i).1>0 then((ZM (atM m i) p (m.length-1)).1,0) else((Xd m p i).1,0)
theorem Cz {r:Nat->Ivl}{p:Int}{j:Nat}(h:(ZM r p j).2≠0): ∀d,(ZM r p (j+d)).2=(ZM r p j).2
 | 0=>rfl
 | d+1=>by have ih:=Cz h d;rw[show j+(d+1)=(j+d)+1 from oG,ZM,BC (by rw[ih];exact h)];exact ih
theorem Dc {r:Nat->Ivl}{p:Int}{j:Nat}(h:(ZM r p j).2=0):ZM r p (j+1)=Qs 0 (ZM r p j).1 (XU (r (j+1))) p true:=by rw[ZM,BA (by rw[h];decide)]
theorem Tv {m:Mx}{p e:Int}{i:Nat}(he:e≠0)(h:Xd m p i=(default,e)): ∀d,Xd m p (i+d)=(default,e)
 | 0=>h
 | d+1=>by have ih:=Tv he h d;rw[show i+(d+1)=(i+d)+1 from oG,Xd,ih,BC he]
theorem J1z {m:Mx}{p e:Int}{i j:Nat}(he:e≠0)(hi:i<m.length)(hj:j<=m.length-1)(h:(Xd m p i).2=0)(hs:(ZM (atM m i) p j).2=e):Xd m p m.length=(default,e):=by have h1:=Cz (r:=atM m i) (p:=p) (j:=j) (by rw[hs];exact he) (m.length-1-j);rw[show j+(m.length-1-j)=m.length-1 from oG,hs] at h1;have h2:Xd m p (i+1)=(default,e):=(by rw[Xd,BA (by rw[h];decide),BC (by rw[h1];exact he),h1]);have:=Tv he h2 (m.length-(i+1));rwa [show i+1+(m.length-(i+1))=m.length from oG] at this
theorem Tx {m:Mx}{p:Int}{i:Nat}(h:(Xd m p i).2=0)(hs:(ZM (atM m i) p (m.length-1)).2=0):
 Xd m p (i+1)=if Q9 (ZM (atM m i) p (m.length-1)).1 (Xd m p i).1>0 then((ZM (atM m i) p (m.length-1)).1,0) else((Xd m p i).1,0):=by
 rw[Xd,BA (by rw[h];decide),BA (by rw[hs];decide)]
theorem zS {x:Nm}(h:Qh x=true):Qh (KG x)=true:=by
 unfold Qh KG at*
 simp only at h⊢;split;rename_i hw;rw[BC hw] at h;simp at h;simp[h];rename_i hw;rw[BA hw] at h;exact h
theorem YF :Qh default=true:=by decide
theorem Q0x (a:Ivl):Qh (XU a)=true:=by unfold XU;split;rename_i h;have:=Xg h;exact Ho (P:=fun x=>Qh x=true) (zS this.1) (zS this.2.1);exact YF
theorem qG (r:Nat->Ivl)(p:Int): ∀j,Qh (ZM r p j).1=true
 | 0=>Q0x _
 | j+1=>by unfold ZM;split;exact YF;exact XZ _ _ _ _ _
theorem zI (m:Mx)(p:Int): ∀i,Qh (Xd m p i).1=true
 | 0=>YF
 | i+1=>by unfold Xd;split;exact YF;split;exact YF;split;exact qG _ _ _;exact zI m p i
def Zj (m:Mx)(p:Int):Nm×Int:=if rightM m=true/\Qt p=true then Xd m p m.length else(default,1)
def oneN :Nm:=⟨false,0,[1]⟩
def idM (n:Int):Mx:=if 1<=n/\n<=4 then(List.range n.toNat).map fun i=>(List.range n.toNat).map fun j=>if i=j then⟨oneN,oneN⟩ else default else []
def ofM (q:List (List Nm)):Mx:=q.map ofB
theorem zQ (m:Mx)(st:Qd)(hm:wM m):PR 199 [.sl .no (Qw m)] st (.sc (.bool (rightM m))):=by
 have hl:=hm.1;refine Qj Tryz.func199 fun E=> ?_;refine Q3 [true,false,false,false,false,true,true,true] 0 0
  (fun n s=> ∃i,n=m.length-i/\i<=m.length/\(∀j,j<i->(m.getD j []).length=m.length/\rightB (m.getD j [])=true)/\s=⟨[.sl .no (Qw m),.junk,.junk,.junk,.junk,.sl .no (Qw m),.sc (.int .i64 m.length),.sc (.int .i64 (i:Nat))]++jk 22,[],[],st⟩) m.length ?_ ?_
 refine Qr ?_;exact⟨0,oG,oG,fun j hj=>oG,rfl⟩;rintro n s ⟨i,rfl,hi,hr,rfl⟩;refine QM ?_ ?_<;>intro h';have hlt:i<m.length:=(by have:=q_b h';omega);have e1:=Kj m i hlt;have e3:=QN i oG;simp-dsimp only[go_sem,e1];refine⟨oG,?_⟩;refine gkF ?_ ?_<;>intro h2;have hn:=Vs h2;simp-dsimp only[go_sem,h2,e1];refine(K7 _ _ (hm.2 i hlt)).q ?_;simp-dsimp only[go_sem,h2];refine ck ?_ ?_<;>intro h3;have hf:rightB (m.getD i [])=false:=(by simpa using h3);refine Qr ?_;have:rightM m=false:=CS.2 fun e=>by have:=((rightM_iff.1 e).1 i hlt).2;rw[hf] at this;cases this
 rw[this];have ht:rightB (m.getD i [])=true:=(by simpa using h3);simp-dsimp only[go_sem,e3];refine⟨m.length-(i+1),oG,i+1,rfl,oG,fun j hj=> ?_,rfl⟩;by_cases e:j=i;subst e;exact⟨hn,ht⟩;exact hr j oG;have hn:=WK h2;simp-dsimp only[go_sem,h2];have:rightM m=false:=CS.2 fun e=>hn ((rightM_iff.1 e).1 i hlt).1;rw[this];have hge:i=m.length:=(by have:=q_c h';omega);refine Qr ?_;refine Qq ?_;refine gkT ?_ ?_<;>intro h;have h1:1<=m.length:=(oT h);simp-dsimp only[go_sem,h];have:rightM m=decide ((m.length:Int)<=4):=by rw[E6,rightM_iff,D0];exact⟨fun hh=>oG,fun hh=>⟨fun j hj=>hr j oG,h1,oG⟩⟩
 rw[this];have h1: ¬1<=m.length:=(oF h);simp-dsimp only[go_sem,h];have:rightM m=false:=CS.2 fun e=>h1 (rightM_iff.1 e).2.1;rw[this]
def Wb (a b:Mx)(p:Int):Bool:=rightM a&&rightM b&&decide (a.length=b.length)&&Qt p
theorem validM_iff {a b:Mx}{p:Int} :Wb a b p=true<->rightM a=true/\rightM b=true/\a.length=b.length/\Qt p=true:=by unfold Wb;simp only[q_i,BN];exact⟨fun h=>⟨h.1.1.1,h.1.1.2,h.1.2,h.2⟩,fun h=>⟨⟨⟨h.1,h.2.1⟩,h.2.2.1⟩,h.2.2.2⟩⟩
theorem UO (a b:Mx)(p:Int)(st:Qd)(ha:wM a)(hb:wM b):PR 168 [.sl .no (Qw a),.sl .no (Qw b),.sc (.int .i64 p)] st (.sc (.bool (Wb a b p))):=by
 refine Ql none Tryz.func168 rfl fun E=>Qb ?_;unfold Wb;refine Qr ?_;refine(zQ a st ha).q ?_;cases h:rightM a with
 | false=>simp-dsimp only[go_sem];try rfl
 | true=>
  refine Qr ?_;refine(zQ b st hb).q ?_;cases h':rightM b with
  | false=>simp-dsimp only[go_sem];try rfl
  | true=>
   by_cases hn:a.length=b.length
   . have f1:((a.length:Int)==(b.length:Int))=true:=by rw[hn];simp
     rw[q_h hn];simp-dsimp only[go_sem,f1];refine(JY p _).q ?_;simp-dsimp only[go_sem]
     try rfl
   . have f1:((a.length:Int)==(b.length:Int))=false:=by rw[CL];omega
     rw[q_g hn];simp-dsimp only[go_sem,f1]
     try rfl
theorem J1f (q:Ly)(i:Nat)(h:i<q.length):ofM (q.take (i+1))=ofM (q.take i)++ [ofB (q.getD i [])]:=by unfold ofM;rw[HT q i [] h,E5];rfl
def wQ (q:List (List Nm)):Prop:=q.length<=100000000000/\ ∀i,i<q.length->wNs (q.getD i [])
theorem vl (q:Ly)(st:Qd)(hq:wQ q):PR 100 [.sl .no (QL q)] st (.sl (.fresh 1) (Qw (ofM q))):=by
 obtain⟨hl,hw⟩:=hq;refine Qj Tryz.func100 fun E=> ?_;refine X7 3 1 ?_;refine Qr ?_;refine Q3 [false,false,false,true,false,false,true,true,true] 0 1
  (fun n s=> ∃i,n=q.length-i/\i<=q.length/\s=⟨[.junk,.junk,.junk,.sl (.own 0) (Qw (ofM (q.take i))),.junk,.junk,.sl .no (QL q),.sc (.int .i64 q.length),.sc (.int .i64 (i:Nat))]++jk 10,[],[((ofM (q.take i)).length,1)],st⟩) q.length ?_ ?_
 refine Qr ?_;exact⟨0,oG,oG,rfl⟩;rintro n s ⟨i,rfl,hi,rfl⟩;refine QM ?_ ?_<;>intro h';have hlt:i<q.length:=(by have:=q_b h';omega);have e1:=Wt q i hlt;have e3:=QN i oG;have ll:(ofM (q.take i)).length=i:=(by simp[ofM];omega);simp-dsimp only[go_sem,e1];refine⟨oG,?_⟩;refine(Gp _ _ (hw i hlt)).plain.q ?_;simp-dsimp only[go_sem,e3];refine⟨⟨oG,oG⟩,q.length-(i+1),oG,i+1,rfl,oG,?_⟩;rw[J1f q i hlt];simp;have hge:i=q.length:=(by have:=q_c h';omega);refine Qr ?_;refine Qq ?_;rw[hge,B0]
theorem Iz (g:FuncId)(caps:Lp)(G:Nat->Nat->Ivl×Int)(n:Nat)(st:Qd)(hc:Qm Tryz.prog g=true)(hn:n<=100000)(h1:caps.all PV.closed2=true)(h1':caps.all PV.closed1=true)(h2:caps.map PV.forget2=caps)(h2':caps.map PV.forget1=caps)(hlim: ∀k,caps.all (PV.lim1 0 k)=true)
 (h: ∀i j,i<n->j<n->PR g ([.sc (.int .i64 i),.sc (.int .i64 j)]++caps) st (.tup [.agg (Qn (G i j).1),.sc (.int .i64 (G i j).2)])):
 PR 264 [.sc (.int .i64 n),.fn (.func g) [] caps] st (.tup [.sl .no (Qw (ZN G n).1),.sc (.int .i64 (ZN G n).2)]):=by
 refine Qj Tryz.func264 fun E=> ?_;refine X7 6 1 ?_;refine Qr ?_;refine Q3 [true,true,false,false,false,false,true,false,false,false,false,false,true,true] 0 1
  (fun k s=> ∃(i:Nat) (o:Mx),k=n-i/\i<=n/\o.length=i/\ZN G n=Qv (fun i=>Qv (fun j=>G i j) 0 n []) i (n-i) o/\
   s=⟨[.sc (.int .i64 n),.fn (.func g) [] caps,.junk,.junk,.junk,.junk,.sl (.own 0) (Qw o),.junk,.junk,.junk,.junk,.junk,.sc (.int .i64 n),.sc (.int .i64 (i:Nat))]++jk 27,[],[(o.length,1)],st⟩) n ?_ ?_
 simp-dsimp only[go_sem,hlim];exact⟨0,[],oG,oG,rfl,rfl,rfl⟩;rintro k s ⟨i,o,rfl,hi,ho,hr,rfl⟩;refine QM ?_ ?_<;>intro h';have hlt:i<n:=(by have:=q_b h';omega);have e3:=QN i oG;have e4:=KR (fun i=>Qv (fun j=>G i j) 0 n []) hlt o;refine Qr ?_;refine X7 8 6 ?_;refine Qr ?_;refine Q3 [true,true,false,false,false,false,true,true,true,false,false,false,true,true,false,false,true,true] 0 2
  (fun k s=> ∃(j:Nat) (r:Li),k=n-j/\j<=n/\r.length=j/\Qv (fun j=>G i j) 0 n []=Qv (fun j=>G i j) j (n-j) r/\
   s=⟨[.sc (.int .i64 n),.fn (.func g) [] caps,.junk,.junk,.junk,.junk,.sl (.own 0) (Qw o),.sc (.int .i64 (i:Nat)),.sl (.own 1) (Qk r),.junk,.junk,.junk,.sc (.int .i64 n),.sc (.int .i64 (i:Nat)),.junk,.junk,.sc (.int .i64 n),.sc (.int .i64 (j:Nat))]++jk 23,[],[(o.length,1),(r.length,6)],st⟩) n ?_ ?_
 simp-dsimp only[go_sem,hlim];exact⟨0,[],oG,oG,rfl,rfl,rfl⟩;rintro k s ⟨j,r,rfl,hj,hrl,hrr,rfl⟩;refine QM (fun h''=> ?_) (fun h''=> ?_);have hlt2:j<n:=(by have:=q_b h'';omega);have f3:=QN j oG;have f4:=KR (fun j=>G i j) hlt2 r;simp-dsimp only[go_sem,hc,h1,h2];refine(h i j hlt hlt2).Q ?_;refine ck ?_ ?_<;>intro h5;have hne:=XI h5;refine Qr ?_;have q1:Qv (fun j=>G i j) 0 n []=([],(G i j).2):=(by rw[hrr,f4,BC hne]);rw[hr,e4,BC (by rw[q1];exact hne),q1];rfl;have he:=Jf h5;simp-dsimp only[go_sem,f3,hlim];refine⟨⟨oG,oG⟩,n-(j+1),oG,j+1,r++ [(G i j).1],rfl,oG,by simp[hrl],?_,?_⟩;rw[hrr,f4,BA (fun hh=>hh he)];simp[Qk,Qn];have hge:j=n:=(by have:=q_c h'';omega);have q1:Qv (fun j=>G i j) 0 n []=(r,0):=(by rw[hrr,hge];exact Vg _ n r);refine Qr ?_;refine Qq ?_;refine⟨⟨oG,oG⟩,Qb ?_⟩;simp-dsimp only[go_sem,e3,hlim];refine⟨n-(i+1),oG,i+1,o++ [r],rfl,oG,by simp[ho],?_,?_⟩;rw[hr,e4,q1,BA (by simp)];simp;have hge:i=n:=(by have:=q_c h';omega);refine Qr ?_;refine Qq ?_;rw[hr,hge,Vg]
theorem W1k (i j:Nat)(a b:Mx)(p:Int)(st:Qd)(ha:wM a)(hb:wM b)(ai:i<a.length)(aj:j<(a.getD i []).length)(bi:i<b.length)(bj:j<(b.getD i []).length):
 PR 317 ([.sc (.int .i64 i),.sc (.int .i64 j)]++ [.ep [.sl .no (Qw a)] 0,.ep [.sl .no (Qw b)] 0,.ep [.sc (.int .i64 p)] 0]) st (.tup [.agg (Qn (opI 0 (atM a i j) (atM b i j) p).1),.sc (.int .i64 (opI 0 (atM a i j) (atM b i j) p).2)]):=by
 have e1:=Kj a i ai;have e2:=Kj b i bi;have e3:=Zt (a.getD i []) j aj;have e4:=Zt (b.getD i []) j bj;refine Qj Tryz.func317 fun E=> ?_;refine Q5 27 (Qi [0,1,2,3,4,5,6,7,8,9,10,11,12,13,14] (.step 15 [0,7] (Qi [16,17,18,19] .done))) ?_;simp-dsimp only[go_sem,e1,e2,e3,e4];refine⟨oG,oG,oG,oG,?_⟩;refine(YU _ _ p _ ((ha.2 i ai).2 j aj) ((hb.2 i bi).2 j bj)).q ?_;simp-dsimp only[go_sem]
 try rfl
theorem W1j (a b:Mx)(p:Int)(st:Qd)(ha:wM a)(hb:wM b):PR 263 [.sl .no (Qw a),.sl .no (Qw b),.sc (.int .i64 p)] st (.tup [.sl .no (Qw (opM 0 a b p).1),.sc (.int .i64 (opM 0 a b p).2)]):=by
 refine Ql none Tryz.func263 rfl fun E=>Qe (Qb ?_);refine Qr ?_;refine Zz 0 ?_ ?_;exact QA;refine Qr ?_;refine Zz 1 ?_ ?_;exact QA;refine Qr ?_;refine Zz 2 ?_ ?_;exact QA;refine Qq ?_;refine(UO a b p _ ha hb).q ?_;cases hv:Wb a b p with
 | false=>
  refine Qr ?_;rw[opM,BA (fun hh=>by rw[validM_iff.2 hh] at hv;cases hv)];rfl
 | true=>
  obtain⟨v1,v2,v3,v4⟩:=validM_iff.1 hv;have hl:=Jl v1;refine Qr ?_;refine(Iz _ [.ep [.sl .no (Qw a)] 0,.ep [.sl .no (Qw b)] 0,.ep [.sc (.int .i64 p)] 0] (fun i j=>opI 0 (atM a i j) (atM b i j) p) a.length st rfl oG rfl rfl rfl rfl (fun _=>rfl) fun i j hi hj=>
   W1k i j a b p st ha hb hi (by rw[(KD v1 hi).1];exact hj) oG (by rw[(KD v2 oG).1];omega)).mono ?_
  rintro r st ⟨rfl,rfl⟩;refine Qr ?_;rw[opM,BC ⟨v1,v2,v3,v4⟩]
theorem W1d (i j:Nat)(a b:Mx)(p:Int)(st:Qd)(ha:wM a)(hb:wM b)(ai:i<a.length)(aj:j<(a.getD i []).length)(bi:i<b.length)(bj:j<(b.getD i []).length):
 PR 379 ([.sc (.int .i64 i),.sc (.int .i64 j)]++ [.ep [.sl .no (Qw a)] 0,.ep [.sl .no (Qw b)] 0,.ep [.sc (.int .i64 p)] 0]) st (.tup [.agg (Qn (opI 1 (atM a i j) (atM b i j) p).1),.sc (.int .i64 (opI 1 (atM a i j) (atM b i j) p).2)]):=by
 have e1:=Kj a i ai;have e2:=Kj b i bi;have e3:=Zt (a.getD i []) j aj;have e4:=Zt (b.getD i []) j bj;refine Qj Tryz.func379 fun E=> ?_;refine Q5 27 (Qi [0,1,2,3,4,5,6,7,8,9,10,11,12,13,14] (.step 15 [0,7] (Qi [16,17,18,19] .done))) ?_;simp-dsimp only[go_sem,e1,e2,e3,e4];refine⟨oG,oG,oG,oG,?_⟩;refine(Z0p _ _ p _ ((ha.2 i ai).2 j aj) ((hb.2 i bi).2 j bj)).q ?_;simp-dsimp only[go_sem]
 try rfl
theorem W1c (a b:Mx)(p:Int)(st:Qd)(ha:wM a)(hb:wM b):PR 355 [.sl .no (Qw a),.sl .no (Qw b),.sc (.int .i64 p)] st (.tup [.sl .no (Qw (opM 1 a b p).1),.sc (.int .i64 (opM 1 a b p).2)]):=by
 refine Ql none Tryz.func355 rfl fun E=>Qe (Qb ?_);refine Qr ?_;refine Zz 0 ?_ ?_;exact QA;refine Qr ?_;refine Zz 1 ?_ ?_;exact QA;refine Qr ?_;refine Zz 2 ?_ ?_;exact QA;refine Qq ?_;refine(UO a b p _ ha hb).q ?_;cases hv:Wb a b p with
 | false=>
  refine Qr ?_;rw[opM,BA (fun hh=>by rw[validM_iff.2 hh] at hv;cases hv)];rfl
 | true=>
  obtain⟨v1,v2,v3,v4⟩:=validM_iff.1 hv;have hl:=Jl v1;refine Qr ?_;refine(Iz _ [.ep [.sl .no (Qw a)] 0,.ep [.sl .no (Qw b)] 0,.ep [.sc (.int .i64 p)] 0] (fun i j=>opI 1 (atM a i j) (atM b i j) p) a.length st rfl oG rfl rfl rfl rfl (fun _=>rfl) fun i j hi hj=>
   W1d i j a b p st ha hb hi (by rw[(KD v1 hi).1];exact hj) oG (by rw[(KD v2 oG).1];omega)).mono ?_
  rintro r st ⟨rfl,rfl⟩;refine Qr ?_;rw[opM,BC ⟨v1,v2,v3,v4⟩]
theorem W1b (i j:Nat)(x:Ivl)(a:Mx)(p:Int)(st:Qd)(hx:wI x)(ha:wM a)(ai:i<a.length)(aj:j<(a.getD i []).length):
 PR 316 ([.sc (.int .i64 i),.sc (.int .i64 j)]++ [.ep (Qn x) 0,.ep [.sl .no (Qw a)] 0,.ep [.sc (.int .i64 p)] 0]) st (.tup [.agg (Qn (opI 2 x (atM a i j) p).1),.sc (.int .i64 (opI 2 x (atM a i j) p).2)]):=by
 have e1:=Kj a i ai;have e3:=Zt (a.getD i []) j aj;refine Qj Tryz.func316 fun E=> ?_;refine Q5 21 (Qi [0,1,2,3,4,5,6,7,8] (.step 9 [1] (Qi [10,11,12,13] .done))) ?_;simp-dsimp only[go_sem,e1,e3];refine⟨oG,oG,?_⟩;refine(UR _ _ p _ hx ((ha.2 i ai).2 j aj)).q ?_;simp-dsimp only[go_sem]
 try rfl
theorem W1a (x:Ivl)(a:Mx)(p:Int)(st:Qd)(hx:wI x)(ha:wM a):PR 262 [.agg (Qn x),.sl .no (Qw a),.sc (.int .i64 p)] st (.tup [.sl .no (Qw (KQ x a p).1),.sc (.int .i64 (KQ x a p).2)]):=by
 refine Ql none Tryz.func262 rfl fun E=>Qe (Qb ?_);refine Qr ?_;refine Zz 0 ?_ ?_;exact QA;refine Qr ?_;refine Zz 1 ?_ ?_;exact QA;refine Qr ?_;refine Zz 2 ?_ ?_;exact QA;refine Qq ?_;refine(JL x _ hx).q ?_;cases r1:Qp x with
 | false=>
  refine Qr ?_;rw[KQ,BA (by simp[r1])];rfl
 | true=>
  refine Qr ?_;refine(UO a a p _ ha ha).q ?_;cases hv:Wb a a p with
  | false=>
   refine Qr ?_;rw[KQ,BA (fun hh=>by rw[validM_iff.2 ⟨hh.1,hh.1,rfl,hh.2.2⟩] at hv;cases hv)];rfl
  | true=>
   obtain⟨v1,v2,v3,v4⟩:=validM_iff.1 hv;have hl:=Jl v1;refine Qr ?_;refine(Iz _ [.ep (Qn x) 0,.ep [.sl .no (Qw a)] 0,.ep [.sc (.int .i64 p)] 0] (fun i j=>opI 2 x (atM a i j) p) a.length st rfl oG rfl rfl rfl rfl (fun _=>rfl) fun i j hi hj=>
    W1b i j x a p st hx ha hi (by rw[(KD v1 hi).1];exact hj)).mono ?_
   rintro r st ⟨rfl,rfl⟩;refine Qr ?_;rw[KQ,BC ⟨v1,r1,v4⟩]
theorem Q0s (g:FuncId)(caps:Lp)(x y:Nat->Ivl)(n:Nat)(p:Int)(st:Qd)(hc:Qm Tryz.prog g=true)(hn:n<=100000)(h1:caps.all PV.closed2=true)(h1':caps.all PV.closed1=true)(h2:caps.map PV.forget2=caps)(h2':caps.map PV.forget1=caps)(hlim: ∀k,caps.all (PV.lim1 k 0)=true)
 (hw: ∀k,k<n->wI (x k)/\wI (y k)) (hd: ∀k,wI (Q6 x y p k).1)
 (h: ∀k,k<n->PR g ([.sc (.int .i64 k)]++caps) st (.tup [.agg (Qn (x k)),.agg (Qn (y k))])):
 PR 169 [.sc (.int .i64 n),.sc (.int .i64 p),.fn (.func g) [] caps] st (.tup [.agg (Qn (Q6 x y p n).1),.sc (.int .i64 (Q6 x y p n).2)]):=by
 refine Qj Tryz.func169 fun E=> ?_;refine Vm 1 ?_;refine Qr ?_;refine Q3 [false,true,true,false,false,false,true,false,true,false,false,false,false,false,true,true] 2 0
  (fun m s=> ∃k,m=n-k/\k<=n/\(Q6 x y p k).2=0/\s=⟨[.junk,.sc (.int .i64 p),.fn (.func g) [] caps,.junk,.junk,.junk,.lp 0 0,.junk,.lp 1 0,.junk,.junk,.junk,.junk,.junk,.sc (.int .i64 n),.sc (.int .i64 (k:Nat))]++jk 35,
   [[.sc (.bool false),.sc (.int .i64 0),.sl .full [],.sc (.bool false),.sc (.int .i64 0),.sl .full []],Qn (Q6 x y p k).1],[],st⟩) n ?_ ?_
 simp-dsimp only[go_sem,hlim];exact⟨0,oG,oG,rfl,rfl⟩;rintro m s ⟨k,rfl,hk,hz,rfl⟩;refine QM ?_ ?_<;>intro h';have hlt:k<n:=(by have:=q_b h';omega);have e3:=QN k oG;have hdk:=hd k;have hstep:Q6 x y p (k+1)=if (opI 2 (x k) (y k) p).2≠0 then(default,(opI 2 (x k) (y k) p).2) else
  if k=0 then opI 2 (x k) (y k) p else
  if (opI 0 (Q6 x y p k).1 (opI 2 (x k) (y k) p).1 p).2≠0 then(default,(opI 0 (Q6 x y p k).1 (opI 2 (x k) (y k) p).1 p).2) else
  opI 0 (Q6 x y p k).1 (opI 2 (x k) (y k) p).1 p:=by
  rw[Q6,BA (by rw[hz];decide)]
 have hend: ∀e,e≠0->Q6 x y p (k+1)=(default,e)->Q6 x y p n=(default,e):=fun e he h0=>by
  have key: ∀d,Q6 x y p (k+1+d)=(default,e):=by
   intro d
   induction d with
   | zero=>exact h0
   | succ d ih=>rw[show k+1+(d+1)=(k+1+d)+1 from oG,Q6,ih,BC he]
  have:=key (n-(k+1));rwa [show k+1+(n-(k+1))=n from oG] at this
 simp-dsimp only[go_sem,hc,h1,h2];refine(h k hlt).Q ?_;refine(UR _ _ p _ (hw k hlt).1 (hw k hlt).2).q ?_;have hmw:wI (opI 2 (x k) (y k) p).1:=Jg (XT _ _ _ _);by_cases hm:(opI 2 (x k) (y k) p).2=0;rw[BA (fun hh=>hh hm)] at hstep;rw[hm];have z1:((0:Int)==0)=true:=rfl;have z2:((0:Int) !=0)=false:=rfl;by_cases h0:k=0;rw[BC h0] at hstep;have g1:decide ((k:Int)>0)=false:=q_g oG;simp-dsimp only[go_sem,z1,z2,g1,e3,hlim];refine⟨n-(k+1),oG,k+1,rfl,oG,by rw[hstep];exact hm,?_⟩;rw[hstep];rw[BA h0] at hstep;have g1:decide ((k:Int)>0)=true:=q_h oG;simp-dsimp only[go_sem,z1,z2,g1];refine(YU _ _ p _ hdk hmw).q ?_;by_cases ha:(opI 0 (Q6 x y p k).1 (opI 2 (x k) (y k) p).1 p).2=0;rw[BA (fun hh=>hh ha)] at hstep;rw[ha];simp-dsimp only[go_sem,z2,e3,hlim];refine⟨n-(k+1),oG,k+1,rfl,oG,by rw[hstep];exact ha,?_⟩;rw[hstep];rw[BC ha] at hstep;have hq:=hend _ ha hstep;have g2:((opI 0 (Q6 x y p k).1 (opI 2 (x k) (y k) p).1 p).2 !=0)=true:=(by simpa using ha);rw[hq];simp-dsimp only[go_sem,g2];rfl;rw[BC hm] at hstep;have hq:=hend _ hm hstep;have g1:((opI 2 (x k) (y k) p).2==0)=false:=(by simpa using hm);have g2:((opI 2 (x k) (y k) p).2 !=0)=true:=(by simpa using hm);rw[hq];simp-dsimp only[go_sem,g1,g2];rfl;have hge:k=n:=(by have:=q_c h';omega);subst hge;refine Qr ?_;refine Qq ?_;rw[hz]
theorem zb :Qp default=true:=by decide
theorem IL (x y:Nat->Ivl)(p:Int): ∀k,Qp (Q6 x y p k).1=true
 | 0=>zb
 | k+1=>by unfold Q6;split;exact zb;split;exact zb;split;exact XT _ _ _ _;split;exact zb;exact XT _ _ _ _
theorem W1g (i j k:Nat)(a b:Mx)(st:Qd)(ai:i<a.length)(aj:k<(a.getD i []).length)(bi:k<b.length)(bj:j<(b.getD k []).length):
 PR 266 ([.sc (.int .i64 k)]++ [.ep [.sl .no (Qw a)] 0,.ep [.sc (.int .i64 i)] 0,.ep [.sl .no (Qw b)] 0,.ep [.sc (.int .i64 j)] 0]) st (.tup [.agg (Qn (atM a i k)),.agg (Qn (atM b k j))]):=by
 have e1:=Kj a i ai;have e2:=Kj b k bi;have e3:=Zt (a.getD i []) k aj;have e4:=Zt (b.getD k []) j bj;refine Qj Tryz.func266 fun E=> ?_;refine Q5 22 (Qi [0,1,2,3,4,5,6,7,8,9,10,11,12,13] (.step 14 [7,10,11,13] (.step 15 [] (.done)))) ?_;simp-dsimp only[go_sem,e1,e2,e3,e4];exact⟨oG,oG,oG,oG,rfl⟩
theorem W1f (i j:Nat)(a b:Mx)(p:Int)(st:Qd)(ha:wM a)(hb:wM b)(v1:rightM a=true)(v2:rightM b=true)(v3:a.length=b.length)(hi:i<a.length)(hj:j<a.length):
 PR 265 ([.sc (.int .i64 i),.sc (.int .i64 j)]++ [.ep [.sl .no (Qw a)] 0,.ep [.sc (.int .i64 p)] 0,.ep [.sl .no (Qw b)] 0]) st (.tup [.agg (Qn (Q6 (atM a i) (fun k=>atM b k j) p a.length).1),.sc (.int .i64 (Q6 (atM a i) (fun k=>atM b k j) p a.length).2)]):=by
 have hl:=Jl v1;refine Ql none Tryz.func265 rfl fun E=>Qe (Qb ?_);refine Qr ?_;refine Zz 0 ?_ ?_;exact QA;refine Qr ?_;refine Zz 1 ?_ ?_;exact QA;refine Qq ?_;refine(Q0s _ [.ep [.sl .no (Qw a)] 0,.ep [.sc (.int .i64 i)] 0,.ep [.sl .no (Qw b)] 0,.ep [.sc (.int .i64 j)] 0] (atM a i) (fun k=>atM b k j) a.length p st rfl oG rfl rfl rfl rfl (fun _=>rfl)
  (fun k hk=>⟨(ha.2 i hi).2 k (by rw[(KD v1 hi).1];exact hk),(hb.2 k oG).2 j (by rw[(KD v2 oG).1];omega)⟩) (fun k=>Jg (IL _ _ _ _))
  fun k hk=>W1g i j k a b st hi (by rw[(KD v1 hi).1];exact hk) oG (by rw[(KD v2 oG).1];omega)).mono ?_
 rintro r st ⟨rfl,rfl⟩;exact QA
theorem vm (a b:Mx)(p:Int)(st:Qd)(ha:wM a)(hb:wM b):PR 200 [.sl .no (Qw a),.sl .no (Qw b),.sc (.int .i64 p)] st (.tup [.sl .no (Qw (Zc a b p).1),.sc (.int .i64 (Zc a b p).2)]):=by
 refine Ql none Tryz.func200 rfl fun E=>Qe (Qb ?_);refine Qr ?_;refine Zz 0 ?_ ?_;exact QA;refine Qr ?_;refine Zz 1 ?_ ?_;exact QA;refine Qr ?_;refine Zz 2 ?_ ?_;exact QA;refine Qq ?_;refine(UO a b p _ ha hb).q ?_;cases hv:Wb a b p with
 | false=>
  refine Qr ?_;rw[Zc,BA (fun hh=>by rw[validM_iff.2 hh] at hv;cases hv)];rfl
 | true=>
  obtain⟨v1,v2,v3,v4⟩:=validM_iff.1 hv;have hl:=Jl v1;refine Qr ?_;refine(Iz _ [.ep [.sl .no (Qw a)] 0,.ep [.sc (.int .i64 p)] 0,.ep [.sl .no (Qw b)] 0] (fun i j=>Q6 (atM a i) (fun k=>atM b k j) p a.length) a.length st rfl oG rfl rfl rfl rfl (fun _=>rfl) fun i j hi hj=>
   W1f i j a b p st ha hb v1 v2 v3 hi hj).mono ?_
  rintro r st ⟨rfl,rfl⟩;refine Qr ?_;rw[Zc,BC ⟨v1,v2,v3,v4⟩]
theorem V1z (k:Nat)(r b:Li)(st:Qd)(ai:k<r.length)(bi:k<b.length):
 PCalls Tryz.prog 170 ([.sc (.int .i64 k)]++ [.ep [.sl .no (Qk r)] 0,.ep [.sl .no (Qk b)] 0]) st (fun q st'=>q= .tup [.agg (Qn (r.getD k default)),.agg (Qn (b.getD k default))]/\st'=st):=by
 have e1:=Zt r k ai;have e2:=Zt b k bi;refine Qj Tryz.func170 fun E=> ?_;refine Q5 14 (Qi [0,1,2,3,4,5,6,7] (.step 8 [4,7] (.step 9 [] (.done)))) ?_;simp-dsimp only[go_sem,e1,e2];exact⟨oG,oG⟩
theorem W1h (m:Mx)(p:Int)(st:Qd)(hm:wM m):PR 268 [.sl .no (Qw m),.sc (.int .i64 p)] st (.tup [.sl .no (QL (KX m p).1),.sc (.int .i64 (KX m p).2)]):=by
 refine Qj Tryz.func268 fun E=> ?_;refine(UO m m p _ hm hm).q ?_;cases hv:Wb m m p with
 | false=>
  refine Qr ?_;rw[KX,BA (fun hh=>by rw[validM_iff.2 ⟨hh.1,hh.1,rfl,hh.2⟩] at hv;cases hv)];rfl
 | true=>
  obtain⟨v1,v2,v3,v4⟩:=validM_iff.1 hv;have hl:=Jl v1;have hM:KX m p=Qv (fun i=>Zk (m.getD i []) p) 0 m.length []:=BC ⟨v1,v4⟩;rw[hM];refine Qr ?_;refine X7 6 1 ?_;refine Qr ?_;refine Q3 ([false,true,false,false,false,false,true]++rF 9++ [true,true,true]) 0 1
   (fun k s=> ∃(i:Nat) (o:Ly),k=m.length-i/\i<=m.length/\o.length=i/\Qv (fun i=>Zk (m.getD i []) p) 0 m.length []=Qv (fun i=>Zk (m.getD i []) p) i (m.length-i) o/\
    s=⟨[.junk,.sc (.int .i64 p),.junk,.junk,.junk,.junk,.sl (.own 0) (QL o)]++jk 9++ [.sl .no (Qw m),.sc (.int .i64 m.length),.sc (.int .i64 (i:Nat))]++jk 18,[],[(o.length,1)],st⟩) m.length ?_ ?_
  refine Qr ?_;exact⟨0,[],oG,oG,rfl,rfl,rfl⟩;rintro k s ⟨i,o,rfl,hi,ho,hr,rfl⟩;refine QM ?_ ?_<;>intro h';have hlt:i<m.length:=(by have:=q_b h';omega);have e1:=Kj m i hlt;have e3:=QN i oG;have e4:=KR (fun i=>Zk (m.getD i []) p) hlt o;simp-dsimp only[go_sem,e1];refine⟨oG,?_⟩;refine(yt _ p _ (hm.2 i hlt)).Q ?_;refine ck ?_ ?_<;>intro h2;have hne:=XI h2;refine Qr ?_;rw[hr,e4,BC hne];rfl;have he:=Jf h2;simp-dsimp only[go_sem,e3];refine⟨⟨oG,oG⟩,m.length-(i+1),oG,i+1,o++ [(Zk (m.getD i []) p).1],rfl,oG,by simp[ho],?_,?_⟩;rw[hr,e4,BA (fun hh=>hh he)];simp;have hge:i=m.length:=(by have:=q_c h';omega);refine Qr ?_;refine Qq ?_;rw[hr,hge,Vg]
theorem vk (m:Mx)(b:Li)(p:Int)(st:Qd)(hm:wM m)(hb:wB b):PR 99 [.sl .no (Qw m),.sl .no (Qk b),.sc (.int .i64 p)] st (.tup [.sl .no (Qk (Xt m b p).1),.sc (.int .i64 (Xt m b p).2)]):=by
 refine Ql none Tryz.func99 rfl fun E=>Qe (Qb ?_);refine Qr ?_;refine Zz 0 ?_ ?_;exact QA;refine Qq ?_;refine(UO m m p _ hm hm).q ?_;cases hv:Wb m m p with
 | false=>
  refine Qr ?_;rw[Xt,BA (fun hh=>by rw[validM_iff.2 ⟨hh.1,hh.1,rfl,hh.2.2.2⟩] at hv;cases hv)];rfl
 | true=>
  obtain⟨v1,v2,v3,v4⟩:=validM_iff.1 hv;have hl:=Jl v1;refine Qr ?_;refine(K7 b _ hb).q ?_;cases r1:rightB b with
  | false=>
   refine Qr ?_;rw[Xt,BA (fun hh=>by simp[r1] at hh)];rfl
  | true=>
   by_cases hn:m.length=b.length;have f1:((b.length:Int) !=(m.length:Int))=false:=(by rw[hn];simp);have hM:Xt m b p=Qv (fun i=>Q6 (atM m i) (fun k=>b.getD k default) p b.length) 0 m.length []:=BC ⟨v1,r1,hn,v4⟩;rw[hM];simp-dsimp only[go_sem,f1];refine X7 8 6 ?_;refine Qr ?_;refine XK ([false,false,true,false,true,false,false,false,true]++rF 21++ [true,true,true]) 1 1
    (fun k s=> ∃(i:Nat) (o:Li),k=m.length-i/\i<=m.length/\o.length=i/\Qv (fun i=>Q6 (atM m i) (fun k=>b.getD k default) p b.length) 0 m.length []=Qv (fun i=>Q6 (atM m i) (fun k=>b.getD k default) p b.length) i (m.length-i) o/\
     s=⟨[.junk,.junk,.sc (.int .i64 p),.junk,.ep [.sl .no (Qk b)] 0,.junk,.junk,.junk,.sl (.own 0) (Qk o)]++jk 21++ [.sl .no (Qw m),.sc (.int .i64 m.length),.sc (.int .i64 (i:Nat))]++jk 20,[[]],[(o.length,6)],st⟩) m.length ?_ ?_
   refine Qr ?_;exact⟨0,[],oG,oG,rfl,rfl,rfl⟩;rintro k s ⟨i,o,rfl,hi,ho,hr,rfl⟩;refine Qa ?_;refine Qa ?_;refine ck ?_ ?_<;>intro h';have hlt:i<m.length:=(by have:=q_b h';omega);have e1:=Kj m i hlt;have e3:=QN i oG;have e4:=KR (fun i=>Q6 (atM m i) (fun k=>b.getD k default) p b.length) hlt o;obtain⟨q1,q2⟩:=KD v1 hlt;refine Qr ?_;refine Qe (Xx (Qe (Qb ?_)));simp-dsimp only[go_sem,e1];refine⟨oG,?_⟩;refine Zz 1 ?_ ?_;exact QA;refine Qr ?_;refine Qq ?_;refine(Q0s _ [.ep [.sl .no (Qk (m.getD i []))] 0,.ep [.sl .no (Qk b)] 0] (atM m i) (fun k=>b.getD k default) b.length p st rfl oG rfl rfl rfl rfl (fun _=>rfl)
    (fun k hk=>⟨(hm.2 i hlt).2 k oG,hb.2 k hk⟩) (fun k=>Jg (IL _ _ _ _))
    fun k hk=>V1z k (m.getD i []) b st oG hk).mono ?_
   rintro r st ⟨rfl,rfl⟩;refine QM ?_ ?_<;>intro h2;have hne:=XI h2;refine Qr ?_;rw[hr,e4,BC hne];rfl;have he:=Jf h2;refine Qr ?_;refine⟨⟨oG,oG⟩,Qb ?_⟩;simp-dsimp only[go_sem,e3];refine⟨m.length-(i+1),oG,i+1,o++ [(Q6 (atM m i) (fun k=>b.getD k default) p b.length).1],rfl,oG,by simp[ho],?_,?_⟩;rw[hr,e4,BA (fun hh=>hh he)];simp[Qk,Qn];have hge:i=m.length:=(by have:=q_c h';omega);refine Qr ?_;refine Qq ?_;rw[hr,hge,Vg];have f1:((b.length:Int) !=(m.length:Int))=true:=(by rw[BV];omega);simp-dsimp only[go_sem,f1];rw[Xt,BA (fun hh=>hn hh.2.2.1)];rfl
theorem Iv (n:Nat)(st:Qd)(hn:n<9223372036854775808):PR 230 [.sc (.int .i64 n)] st (.agg (Qg (mkX false [UInt64.ofNat n] 0).1)):=by
 have g1:decide ((n:Int)<0)=false:=q_g oG;have g2:IntKind.u64.wrap (n:Int)=n:=U0s n oG;have g3: [PV.sc (.int .u64 n)]=Qf [UInt64.ofNat n]:=by simp only[Qf,DX,LA];rw[UInt64.toNat_ofNat_of_lt' (show n<UInt64.size by unfold UInt64.size;omega)]
 refine Ql none Tryz.func230 rfl fun E=>Qb ?_;simp-dsimp only[go_sem,g1,g2];rw[g3];refine(zF false _ 0 _ (by simp) oG oG).Q0
theorem X1u :(mkX false [1] 0).1=oneN:=by decide+kernel
theorem UL (st:Qd):PR 230 [.sc (.int .i64 1)] st (.agg (Qg oneN)):=by have:=Iv 1 st oG;rw[show UInt64.ofNat 1=1 from rfl,X1u] at this;exact this
theorem vY (x:Nm)(st:Qd):PR 387 [.agg (Qg x)] st (.agg (Qg (KG x))):=by
 refine Ql none Tryz.func387 rfl fun E=>Qb ?_;simp-dsimp only[go_sem]
 try rfl
theorem Dl {x:Nm}(h:sm x):sm (KG x):=h
theorem Z0q (a:Ivl)(st:Qd)(ha:wI a):PR 380 [.agg (Qn a)] st (.agg (Qg (XU a))):=by
 refine Ql none Tryz.func380 rfl fun E=>Qb ?_;unfold XU;refine Qr ?_;refine(JL a _ ha).q ?_;cases h:Qp a with
 | false=>simp-dsimp only[go_sem];rfl
 | true=>
  obtain⟨r1,r2,_⟩:=Xg h;rw[BC rfl];refine Qr ?_;refine Q5 15 (Qi [0,1,3,4] (.step 2 [4] (Qi [5,6,7,8] .done))) ?_;refine Qr ?_;refine(vY a.lo _).Q ?_;refine(vY a.hi _).Q ?_;refine(I4 _ _ _ (Dl (QT r1)) (Dl (QT r2))).Q ?_;refine(yb _ _ (Ho (P:=wN) (ZF (QT (zS r1))) (ZF (QT (zS r2))))).Q0
theorem W1i (i j:Nat)(st:Qd):PR 313 ([.sc (.int .i64 i),.sc (.int .i64 j)]++ []) st (.tup [.agg (Qn (if i=j then⟨oneN,oneN⟩ else default)),.sc (.int .i64 0)]):=by refine Ql none Tryz.func313 rfl fun E=>Qb ?_;by_cases h:i=j;have f1:((i:Int)==(j:Int))=true:=(by rw[h];simp);rw[BC h];simp-dsimp only[go_sem,f1];refine(UL _).Q ?_;refine(KI oneN _ (by unfold wN;decide)).Q0;have f1:((i:Int)==(j:Int))=false:=(by rw[CL];omega);rw[BA h];simp-dsimp only[go_sem,f1];rfl
theorem U1y {n:Nat}(h1:1<=n)(h4:n<=4):ZN (fun i j=>((if i=j then⟨oneN,oneN⟩ else default:Ivl),0)) n=(idM (n:Int),0):=by have:n=1\/n=2\/n=3\/n=4:=oG;rcases this with rfl | rfl | rfl | rfl<;>decide+kernel
theorem vn (n:Int)(st:Qd):PR 260 [.sc (.int .i64 n)] st (.sl .no (Qw (idM n))):=by refine Ql none Tryz.func260 rfl fun E=>Qb ?_;by_cases h1:n<1;have f1:decide (n<1)=true:=q_h h1;simp-dsimp only[go_sem,f1];rw[idM,BA oG];rfl;have f1:decide (n<1)=false:=q_g h1;by_cases h4:n>4;have f2:decide (n>4)=true:=q_h h4;simp-dsimp only[go_sem,f1,f2];rw[idM,BA oG];rfl;have f2:decide (n>4)=false:=q_g h4;obtain⟨k,rfl⟩:=EE (show 0<=n by omega);simp-dsimp only[go_sem,f1,f2];refine(Iz _ [] (fun i j=>((if i=j then⟨oneN,oneN⟩ else default:Ivl),0)) k st rfl oG rfl rfl rfl rfl (fun _=>rfl) fun i j hi hj=>W1i i j st).q ?_;rw[U1y oG oG];exact QA
set_option maxHeartbeats 16000000 in
theorem Q0t (m:Mx)(p:Int)(st:Qd)(hm:wM m):PR 356 [.sl .no (Qw m),.sc (.int .i64 p)] st (.tup [.agg (Qg (Zj m p).1),.sc (.int .i64 (Zj m p).2)]):=by
 refine Qj Tryz.func356 fun E=> ?_;refine(UO m m p _ hm hm).q ?_;cases hv:Wb m m p with
 | false=>
  refine Qr ?_;rw[Zj,BA (fun hh=>by rw[validM_iff.2 ⟨hh.1,hh.1,rfl,hh.2⟩] at hv;cases hv)];rfl
 | true=>
  obtain⟨v1,v2,v3,v4⟩:=validM_iff.1 hv;have hl:=Jl v1;have hM:Zj m p=Xd m p m.length:=BC ⟨v1,v4⟩;rw[hM];refine Qr ?_;refine Vm 1 ?_;refine Qr ?_;refine Q3 ([false,true,false,false,true,false,true]++rF 13++ [true,true,true]) 2 0
   (fun k s=> ∃i,k=m.length-i/\i<=m.length/\(Xd m p i).2=0/\
    s=⟨[.junk,.sc (.int .i64 p),.junk,.junk,.lp 0 0,.junk,.lp 1 0]++jk 13++ [.sl .no (Qw m),.sc (.int .i64 m.length),.sc (.int .i64 (i:Nat))]++jk 35,
     [[.sc (.bool false),.sc (.int .i64 0),.sl .full []],Qg (Xd m p i).1],[],st⟩) m.length ?_ ?_
  refine Qr ?_;exact⟨0,oG,oG,rfl,rfl⟩
  . rintro k s ⟨i,rfl,hi,hz,rfl⟩;refine QM ?_ ?_<;>intro h'
    . have hlt:i<m.length:=by have:=q_b h';omega
      have e1:=Kj m i hlt;have e3:=QN i oG;obtain⟨q1,q2⟩:=KD v1 hlt;have hrl:=WB q2;have e2:=Zt (m.getD i []) 0 oG;simp-dsimp only[go_sem,e1,e2];refine⟨oG,oG,?_⟩;refine(Z0q _ _ ((hm.2 i hlt).2 0 oG)).Q ?_;have t1:(m.getD i []).take (m.getD i []).length=m.getD i []:=B0;have t2:((m.getD i []).drop 1).length=m.length-1:=(by rw[DM,q1]);have hs0:ZM (atM m i) p 0=(XU ((m.getD i []).getD 0 default),0):=rfl;generalize hR:(m.getD i []).drop 1=R at*
      have hget: ∀j,j<R.length->R.getD j default=atM m i (j+1):=fun j hj=>by rw[<-hR];unfold atM;simp only[q_a,DH];rw[EZ 1 j]
      simp-dsimp only[go_sem,t1,hR];refine⟨oG,?_⟩;refine Q3 ([false,true,false,false,true,false,true,false,false,true]++rF 10++ [true,true,true]++rF 8++ [true,true,true]) 3 0
       (fun k s=> ∃j,k=R.length-j/\j<=R.length/\(ZM (atM m i) p j).2=0/\
        s=⟨[.junk,.sc (.int .i64 p),.junk,.junk,.lp 0 0,.junk,.lp 1 0,.junk,.junk,.lp 2 0]++jk 10++ [.sl .no (Qw m),.sc (.int .i64 m.length),.sc (.int .i64 (i:Nat)),.junk,.junk,.junk,.junk,.junk,.junk,.junk,.junk,.sl .no (Qk R),.sc (.int .i64 R.length),.sc (.int .i64 (j:Nat))]++jk 24,
         [[.sc (.bool false),.sc (.int .i64 0),.sl .full []],Qg (Xd m p i).1,Qg (ZM (atM m i) p j).1],[],st⟩) R.length ?_ ?_
      refine Qr ?_;exact⟨0,oG,oG,by rw[hs0],by rw[hs0];rfl⟩
      . rintro k s ⟨j,rfl,hj,hsz,rfl⟩;refine QM ?_ ?_<;>intro h2
        . have hlt2:j<R.length:=oT h2
          have f1:=Zt R j hlt2;have f3:=QN j oG;have f4:=Dc hsz;have f5:=hget j hlt2;have wx:wI (atM m i (j+1)):=(hm.2 i hlt).2 (j+1) oG;simp-dsimp only[go_sem,f1];refine⟨oG,?_⟩;refine Q5 58 (Qi [0,1,3] (.alt (.step 2 [0] (.alt (Qi [4,5,6,7] (.step 8 [0,1] (.step 9 [] (.step 10 [] (.done))))) (.step 8 [0,1] (Qi [4,5,6,7,9,10] .done)))) (.step 8 [0,1] (.step 2 [0] (Qi [4,5,6,7,9,10] .done))))) ?_;refine Qr ?_;have wm:=ZF (QT (Q0x (atM m i (j+1))));have ws:=ZF (QT (qG (atM m i) p j));rw[<-f5] at wx;refine And.intro ?_ ?_
          all_goals
           refine(Z0q _ _ wx).q ?_;rw[f5];simp-dsimp only[go_sem]
          refine And.intro ?_ ?_
          all_goals
           refine(qY _ _ p true _ ws wm).q ?_;refine QM ?_ ?_<;>intro h3;have hne:=XI h3;refine Qr ?_;rw[J1z (j:=j+1) hne hlt oG hz (by rw[f4])];rfl;have he:=Jf h3;simp-dsimp only[go_sem,f3];exact⟨R.length-(j+1),oG,j+1,rfl,oG,by rw[f4];exact he,by rw[f4]⟩
        have hge:j=R.length:=oF h2
        subst hge;have hnx:=Tx hz (by rw[<-t2];exact hsz);rw[<-t2] at hnx;have w1:=ZF (QT (qG (atM m i) p R.length));have w2:=ZF (QT (zI m p i));refine Qr ?_;refine Qq ?_;refine(VJ _ _ _ (by unfold wN at w1;omega) (by unfold wN at w2;omega)).Q ?_;refine ck ?_ ?_<;>intro h3;have hc:=q_b h3;rw[BC hc] at hnx;refine Qr ?_;refine Qb ?_;simp-dsimp only[go_sem,e3];exact⟨m.length-(i+1),oG,i+1,rfl,oG,by rw[hnx],by rw[hnx]⟩;have hc:=q_c h3;rw[BA hc] at hnx;refine Qr ?_;refine Qb ?_;simp-dsimp only[go_sem,e3];exact⟨m.length-(i+1),oG,i+1,rfl,oG,by rw[hnx],by rw[hnx]⟩
    have hge:i=m.length:=by have:=q_c h';omega
    subst hge;refine Qr ?_;refine Qq ?_;rw[hz]
theorem z0i {α:Type}(f:Nat->α)(n i:Nat)(h:i<n):((List.range n).map f).take (i+1)=((List.range n).map f).take i++ [f i]:=by rw[<-List.map_take,<-List.map_take,List.take_range,List.take_range,DA oG,DA oG,List.range_succ,E5];rfl
theorem kD (f:PV->PV)(l:Lp)(o:Nat)(r:Lp):(Qu l o r).map f=Qu (l.map f) o (r.map f):=by simp[Qu,List.map_take,List.map_drop]
theorem zg (f:PV->PV)(n:Nat)(z:Lp):(ZZ n z).map f=ZZ n (z.map f):=by unfold ZZ;rw[List.map_flatten,List.map_replicate]
theorem vK {l r:Lp}{o:Nat}(h1:Zo l=true)(h2:Zo r=true):Zo (Qu l o r)=true:=by
 unfold Zo at*
 rw[q_d] at*
 intro p hp;simp only[Qu,DN] at hp;rcases hp with (hp | hp) | hp;exact h1 p (List.mem_of_mem_take hp);exact h2 p hp;exact h1 p (List.mem_of_mem_drop hp)
theorem vJ {n:Nat}{z:Lp}(h:Zo z=true):Zo (ZZ n z)=true:=by
 unfold Zo at*
 rw[q_d] at*
 intro p hp;simp only[ZZ,List.mem_flatten,List.mem_replicate] at hp;obtain⟨l,⟨_,rfl⟩,hp⟩:=hp;exact h p hp
theorem kg (n:Nat):ZZ n (Qg default)=flat (Qy (List.replicate n default)):=by simp[ZZ,flat,Qy,PV.cells]
def XJ (n i:Nat):List Nm:=(List.replicate n default).set i oneN
def Xc (k:Nat):List (List Nm):=(List.range k).map (XJ k)
theorem YQ (k:Nat):(Xc k).length=k:=by simp[Xc]
def UI (n:Int):List (List Nm):=if 1<=n/\n<=4 then Xc n.toNat else []
theorem X1v (n:Int):ofM (UI n)=idM n:=by unfold UI idM;split;rename_i h;have:n=1\/n=2\/n=3\/n=4:=oG;rcases this with rfl | rfl | rfl | rfl<;>decide+kernel;rfl
theorem qT (n i:Nat):(XJ n i).length=n:=by simp[XJ]
def smM (m:Mx):Prop:=1<=m.length/\m.length<=4/\ ∀i,i<m.length->(m.getD i []).length=m.length/\ ∀j,j<m.length->smI (atM m i j)
theorem smM.right {m:Mx}(h:smM m):rightM m=true:=rightM_iff.2 ⟨fun i hi=>⟨(h.2.2 i hi).1,GV (fun j hj=>by have:=(h.2.2 i hi).2 j (by rw[<-(h.2.2 i hi).1];exact hj);exact this.1) (by rw[(h.2.2 i hi).1];exact h.1) (by rw[(h.2.2 i hi).1];exact h.2.1)⟩,h.1,h.2.1⟩
theorem jX {m:Mx}(h:rightM m=true):wM m:=⟨by have:=Jl h;omega,fun i hi=>zc (KD h hi).2⟩
theorem G0v {m:Mx}(h1:m.length<=100000000000)(h2: ∀r∈m,wB r):wM m:=⟨h1,fun i hi=>h2 _ (Q8 _ _ _ hi)⟩
theorem H0c {b:Li}(h1:b.length<=100000000000)(h2: ∀x∈b,wI x):wB b:=⟨h1,fun i hi=>h2 _ (Q8 _ _ _ hi)⟩
theorem Cj {G:Nat->Ivl×Int}{n:Nat}(hn:n<=100000)(h: ∀i,wI (G i).1):wB (Qv G 0 n []).1:=by refine H0c ?_ (KS wI n 0 [] (fun i _ _=>h i) (fun x hx=>by cases hx));have:=W5 (G:=G) n 0 [];simp at this;omega
theorem vT {G:Nat->Nat->Ivl×Int}{n:Nat}(hn:n<=100000)(h: ∀i j,wI (G i j).1):wM (ZN G n).1:=by refine G0v ?_ (KS wB n 0 [] (fun i _ _=>Cj hn (h i)) (fun x hx=>by cases hx));have:=W5 (G:=fun i=>Qv (fun j=>G i j) 0 n []) n 0 [];simp at this;unfold ZN;omega
theorem Us :wM []:=⟨by simp,fun i hi=>by simp at hi⟩
theorem So (k:Nat)(a b:Mx)(p:Int):wM (opM k a b p).1:=by unfold opM;split;rename_i h;have:=Jl h.1;exact vT oG fun i j=>Jg (XT _ _ _ _);exact Us
theorem vd (a b:Mx)(p:Int):wM (Zc a b p).1:=by unfold Zc;split;rename_i h;have:=Jl h.1;exact vT oG fun i j=>Jg (IL _ _ _ _);exact Us
theorem q0y (x:Ivl)(a:Mx)(p:Int):wM (KQ x a p).1:=by unfold KQ;split;rename_i h;have:=Jl h.1;exact vT oG fun i j=>Jg (XT _ _ _ _);exact Us
theorem jc (a:Mx)(b:Li)(p:Int):wB (Xt a b p).1:=by unfold Xt;split;rename_i h;have:=Jl h.1;exact Cj oG fun i=>Jg (IL _ _ _ _);exact JT
theorem V1s (b:Li)(p:Int):wNs (Zk b p).1:=by unfold Zk;split;rename_i h;have hl:=WB h.1;rw[Gc];have h1:=W5 (G:=fun j=>Kd (b.getD j default) p) b.length 0 [];have h2:=KS wN (G:=fun j=>Kd (b.getD j default) p) b.length 0 [] (fun i _ _=>ZF (QT (vj _ _))) (fun x hx=>by cases hx);rw[D6,CU] at h1;exact⟨oG,fun i hi=>h2 _ (Q8 _ _ _ hi)⟩;exact⟨by simp,fun i hi=>by simp at hi⟩
theorem V1q (a:Mx)(p:Int):wQ (KX a p).1:=by unfold KX;split;rename_i h;have hl:=Jl h.1;have h1:=W5 (G:=fun j=>Zk (a.getD j []) p) a.length 0 [];have h2:=KS wNs (G:=fun j=>Zk (a.getD j []) p) a.length 0 [] (fun i _ _=>V1s _ _) (fun x hx=>by cases hx);rw[D6,CU] at h1;exact⟨oG,fun i hi=>h2 _ (Q8 _ _ _ hi)⟩;exact⟨by simp,fun i hi=>by simp at hi⟩
theorem J1h {q:Lx}(h:wNs q):wB (ofB q):=by refine⟨by unfold ofB;rw[BR];exact h.1,fun i hi=> ?_⟩;have hi':i<q.length:=(by simpa[ofB] using hi);have e:(ofB q).getD i default=⟨q.getD i default,q.getD i default⟩:=(by simp[ofB,q_a,hi']);rw[e];exact⟨h.2 i hi',h.2 i hi'⟩
theorem J1g (q:Ly)(i:Nat)(h:i<q.length):(ofM q).getD i []=ofB (q.getD i []):=by simp[ofM,q_a,h]
theorem kM {q:Ly}(h:wQ q):wM (ofM q):=by refine⟨by unfold ofM;rw[BR];exact h.1,fun i hi=> ?_⟩;have hi':i<q.length:=(by simpa[ofM] using hi);rw[J1g q i hi'];exact J1h (h.2 i hi')
theorem w0c :Qh oneN=true:=by decide
theorem v0l (n i j:Nat)(h:j<n):(XJ n i).getD j default=if i=j then oneN else default:=by unfold XJ;rw[H1e _ _ _ _ _ (by simpa using h)];split;rfl;simp[q_a,h]
theorem Tb (n:Int):wQ (UI n):=by unfold UI;split;rename_i h;refine⟨by rw[YQ];omega,fun i hi=> ?_⟩;rw[YQ] at hi;have e:(Xc n.toNat).getD i []=XJ n.toNat i:=(by simp[Xc,q_a,hi]);rw[e];refine⟨by rw[qT];omega,fun j hj=> ?_⟩;rw[qT] at hj;rw[v0l _ _ _ hj];split;exact ZF (QT w0c);exact ZF (QT YF);exact⟨by simp,fun i hi=>by simp at hi⟩
def luQ (L U:Nat)(x:Rat):Prop:= ∃z:Int,x=qM z (-(L:Int))/\z.natAbs<=2^(L+U)
theorem luQ.up {L U U':Nat}{x:Rat}(h:luQ L U x)(hu:U<=U'):luQ L U' x:=by obtain⟨z,h1,h2⟩:=h;exact⟨z,h1,B7 h2 (BS oG oG)⟩
theorem luQ.down {L L' U:Nat}{x:Rat}(h:luQ L U x)(hl:L<=L'):luQ L' U x:=by obtain⟨z,h1,h2⟩:=h;refine⟨z*2^(L'-L),?_,?_⟩;rw[Vk,h1];congr 1;omega;have e:(z*2^(L'-L)).natAbs=z.natAbs*2^(L'-L):=(by rw[Int.natAbs_mul,Int.natAbs_pow];rfl);rw[e,show L'+U=(L+U)+(L'-L) from oG,B2];exact BG _ h2
theorem luQ.mono {L U L' U':Nat}{x:Rat}(h:luQ L U x)(hl:L<=L')(hu:U<=U'):luQ L' U' x:=(h.down hl).up hu
theorem W1m (v:Vl):(Z0 v).natAbs=v.m:=by unfold Z0;split<;>simp
theorem Ox {m:Nat}(h:m≠0):2^(Qo m-1)<=m:=by apply LB;intro hlt;have:=bitlen_le_iff.2 hlt;have:=Gs h;omega
def luI (L U:Nat)(a:Ivl):Prop:=Qp a=true/\luQ L U (qN a.lo)/\luQ L U (qN a.hi)
theorem luI.mono {L U L' U':Nat}{a:Ivl}(h:luI L U a)(hl:L<=L')(hu:U<=U'):luI L' U' a:=⟨h.1,h.2.1.mono hl hu,h.2.2.mono hl hu⟩
theorem Ov {p:Int}(h:Qt p=true):1<=p.toNat:=by unfold Qt at h;simp only[q_i,BN] at h;omega
def QB (X Y:Nat->Rat):Nat->Rat
 | 0=>0
 | n+1=>QB X Y n+X n*Y n
theorem Q0q :Ke 0 default:=by have e:qN (default:Ivl).lo=0:=J0 0;have e2:qN (default:Ivl).hi=0:=J0 0;exact⟨by rw[e];exact CB,by rw[e2];exact CB⟩
theorem V0a {x y:Nat->Ivl}{p:Int}{X Y:Nat->Rat} : ∀n,(Q6 x y p n).2=0->(∀k,k<n->Ke (X k) (x k)/\Ke (Y k) (y k))->Ke (QB X Y n) (Q6 x y p n).1
 | 0,_,_=>Q0q
 | n+1,h,hm=>by rw[Q6] at h⊢;by_cases c1:(Q6 x y p n).2≠0;rw[BC c1] at h;exact absurd h c1;rw[BA c1] at h⊢;have c1:=C8.1 c1;by_cases c2:(opI 2 (x n) (y n) p).2≠0;rw[BC c2] at h;exact absurd h c2;rw[BA c2] at h⊢;have c2:=C8.1 c2;have ih:=V0a n c1 fun k hk=>hm k oG;have hp:=kJ 2 c2 (hm n oG).1 (hm n oG).2;rw[xj] at hp;by_cases c3:n=0;rw[BC c3] at h⊢;subst c3;show Ke (0+X 0*Y 0) _;rw[Rat.zero_add];exact hp;rw[BA c3] at h⊢;by_cases c4:(opI 0 (Q6 x y p n).1 (opI 2 (x n) (y n) p).1 p).2≠0;rw[BC c4] at h;exact absurd h c4;rw[BA c4] at h⊢;have:=kJ 0 h ih hp;rw[IE] at this;exact this
def Sw :Vl:=Zf false 1 0
theorem y0k :qV Sw=1:=by unfold Sw;rw[y0j];rfl
theorem YI :qN oneN=1:=by have:qN oneN=qM 1 0:=rfl;rw[this];unfold qM;rw[zu,Rat.intCast_one,Rat.mul_one]
theorem YJ :qN (default:Nm)=0:=J0 0
theorem j0l :smI ⟨oneN,oneN⟩:=by
 have hb:bdV 6 12 (ofN oneN):=by refine⟨bitlen_le_iff.2 (by decide),?_,?_⟩;show -((12:Nat):Int)<=0;omega;show(0:Int)<=((12:Nat):Int);omega
 exact⟨by decide,hb,hb⟩
theorem j0m :smI default:=⟨by decide,Y0k,Y0k⟩
theorem UV {n i j:Nat}(h1:1<=n)(h4:n<=4)(hi:i<n)(hj:j<n):(idM (n:Int)).length=n/\((idM (n:Int)).getD i []).length=n/\atM (idM (n:Int)) i j=if i=j then⟨oneN,oneN⟩ else default:=by
 have e:idM (n:Int)=(List.range n).map fun i=>(List.range n).map fun j=>if i=j then⟨oneN,oneN⟩ else default:=by rw[idM,BC oG];rfl
 rw[e];have e2:((List.range n).map fun i=>(List.range n).map fun j=>if i=j then(⟨oneN,oneN⟩:Ivl) else default).getD i []=(List.range n).map fun j=>if i=j then(⟨oneN,oneN⟩:Ivl) else default:=(by simp[q_a,hi]);refine⟨by simp,by rw[e2];simp,?_⟩;unfold atM;rw[e2];simp[q_a,hj]
theorem j0k {n:Nat}(h1:1<=n)(h4:n<=4):smM (idM (n:Int))/\(idM (n:Int)).length=n:=by have hl:=(UV h1 h4 (i:=0) (j:=0) oG oG).1;refine⟨⟨oG,oG,fun i hi=> ?_⟩,hl⟩;rw[hl] at hi⊢;refine⟨(UV h1 h4 hi hi).2.1,fun j hj=> ?_⟩;rw[(UV h1 h4 hi hj).2.2];split;exact j0l;exact j0m
def Jd (i k:Nat):Rat:=if i=k then 1 else 0
theorem V1y {n i k:Nat}(h1:1<=n)(h4:n<=4)(hi:i<n)(hk:k<n):Ke (Jd i k) (atM (idM (n:Int)) i k):=by rw[(UV h1 h4 hi hk).2.2];unfold Jd;split;exact⟨by show qN oneN<=1;rw[YI];exact CB,by show 1<=qN oneN;rw[YI];exact CB⟩;exact Q0q
theorem IK {X Y:Nat->Rat} : ∀n,(∀k,k<n->X k*Y k=0)->QB X Y n=0
 | 0,_=>rfl
 | n+1,h=>by rw[QB,IK n fun k hk=>h k oG,h n oG];exact Rat.add_zero 0
theorem wE {Y:Nat->Rat}{i:Nat} : ∀n,i<n->QB (Jd i) Y n=Y i
 | 0,h=>by omega
 | n+1,h=>by rw[QB];by_cases e:i=n;subst e;rw[IK i fun k hk=>by unfold Jd;rw[BA oG,Rat.zero_mul]];unfold Jd;rw[BC rfl,Rat.zero_add,Rat.one_mul];rw[wE n oG];unfold Jd;rw[BA e,Rat.zero_mul,Rat.add_zero]
theorem wG (X Y:Nat->Rat): ∀n,QB X Y n=QB Y X n
 | 0=>rfl
 | n+1=>by rw[QB,QB,wG X Y n,Rat.mul_comm]
theorem V1v {a:Ivl}(h:Qp a=true):Ke (qN a.lo) a:=⟨CB,by have:=J1 h;rwa [Zb,Zb] at this⟩
theorem V1w {a:Ivl}(h:Qp a=true):Ke (qN a.hi) a:=⟨by have:=J1 h;rwa [Zb,Zb] at this,CB⟩
def Xq (A x:Rat):Prop:= -A<=x/\x<=A
theorem U1x {A B x y:Rat}(hx:Xq A x)(hy:Xq B y):Xq (A*B) (x*y):=by obtain⟨x1,x2⟩:=hx;obtain⟨y1,y2⟩:=hy;have a1:=JI (a:=A-x) (b:=B+y) (by grind) (by grind);have a2:=JI (a:=A+x) (b:=B-y) (by grind) (by grind);have a3:=JI (a:=A-x) (b:=B-y) (by grind) (by grind);have a4:=JI (a:=A+x) (b:=B+y) (by grind) (by grind);exact⟨by grind,by grind⟩
def Jy (A:Nat->Rat):Nat->Rat
 | 0=>0
 | n+1=>Jy A n+A n
theorem wH {X Y A:Nat->Rat}{B:Rat} : ∀n,(∀k,k<n->Xq (A k) (X k)/\Xq B (Y k))->Xq (Jy A n*B) (QB X Y n)
 | 0,_=>by show Xq (0*B) 0;rw[Rat.zero_mul];exact⟨by grind,by grind⟩
 | n+1,h=>by obtain⟨a1,a2⟩:=wH n fun k hk=>h k oG;obtain⟨b1,b2⟩:=U1x (h n oG).1 (h n oG).2;show Xq ((Jy A n+A n)*B) (QB X Y n+X n*Y n);exact⟨by grind,by grind⟩
theorem Ob (x:Nm):qN x<=qN (KG x)/\ -qN x<=qN (KG x)/\0<=qN (KG x):=by
 have e:ZQ (KG x)=(Qc x.w:Int):=by unfold ZQ KG;simp
 have e2:qN (KG x)=qM (Qc x.w:Int) x.exp:=by unfold qN;rw[e];rfl
 rw[e2];have h0:(0:Rat)=qM 0 x.exp:=(J0 _).symm;refine⟨?_,?_,?_⟩;unfold qN ZQ;rw[qM_le];split<;>omega;unfold qN ZQ;rw[<-YL,qM_le];split<;>omega;rw[h0,qM_le];omega
theorem vq {a:Ivl}{X:Rat}(ha:Qp a=true)(h:Ke X a):Xq (qN (XU a)) X/\0<=qN (XU a):=by unfold XU;rw[BC ha];obtain⟨g1,g2,_⟩:=zh (KG a.lo) (KG a.hi);obtain⟨l1,l2,l3⟩:=Ob a.lo;obtain⟨u1,u2,u3⟩:=Ob a.hi;obtain⟨m1,m2⟩:=h;exact⟨⟨by grind,by grind⟩,by grind⟩
theorem Sj (a b:Vl):Kc a b>0<->qV b<qV a:=by have:=Si a b;rw[<-Rat.not_le,<-this];omega
def X1t (n:Nat):List (List Nm):=(List.range n).map fun i=>(List.replicate n default).set i oneN
def Wq (b:List Ivl)(p:Int):Fm×Int:=
 if (Zk b p).2≠0 then(default,(Zk b p).2)
 else if (opB 1 b (ofB (Zk b p).1) p).2≠0 then(default,(opB 1 b (ofB (Zk b p).1) p).2)
 else(⟨(Zk b p).1,X1t b.length,(opB 1 b (ofB (Zk b p).1) p).1⟩,0)
theorem H1f {α:Type}[Inhabited α]{l:List α}{x:α}(h:x∈l): ∃i,i<l.length/\l.getD i default=x:=by obtain⟨i,hi,rfl⟩:=CM.1 h;exact⟨i,hi,by simp[q_a,hi]⟩
end Go.Pv
end
