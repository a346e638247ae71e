/- Parts of the walk: PvAg, PvAh, PvAi. -/
import Derived.Test.YtldalepagmhnmaaGreatDoorZC
set_option linter.unusedVariables false
set_option linter.unusedSimpArgs false
section
namespace Go.Pv
def PFS.addBox (s:PFS)(x:Tmp×List PV):PFS:=({ s with L:=s.L++ [x.2] } :PFS).put (some x.1) (.lp s.L.length 0)
def PFS.exts (s:PFS)(X:List (Tmp×List PV)):PFS:=X.foldl PFS.addBox s
def Req.flat :Req->Bool
 | .box _ | .mks _ _=>false
 | .load _ _ _ n agg=>agg||decide (0<n)
 | _=>true
theorem U0g {α:Type}(l m:List α)(i:Nat)(d:α)(h:i<l.length):(l++m).getD i d=l.getD i d:=by rw[q_a,List.getElem?_append_left h,<-q_a]
theorem Q1j {α:Type}(l:List α)(i:Nat)(d:α)(h:l.length<=i):l.getD i d=d:=by rw[q_a,List.getElem?_eq_none h];rfl
theorem y2t {r:Req}{s s1:PFS}{p:PV}{x:Tmp×List PV}(hf:r.flat=true)(h:r.run s=some (p,s1)):r.run (s.addBox x)=some (p,s1.addBox x):=by
 cases r with
 | val w=>cases h;rfl
 | newsl es=>cases h;rfl
 | fail=>cases h
 | box cs=>cases hf
 | mks cs len=>cases hf
 | need c w=>
  simp only[Req.run] at h⊢;split at h;rename_i hc;cases h;rw[if_pos hc];cases h
 | load gl i off n agg=>
  cases gl with
  | true=>
   simp only[Req.run,if_true] at h⊢;show(if off+n<=((s.st).getD i []).length then some (_,s.addBox x) else none)=_;split at h;rename_i hc;cases h;rw[if_pos hc];rfl;cases h
  | false=>
   simp only[Req.run,Bool.false_eq_true,if_false] at h⊢;show(if off+n<=((s.L++ [x.2]).getD i []).length then some (if agg=true then .agg ((((s.L++ [x.2]).getD i []).drop off).take n) else((s.L++ [x.2]).getD i []).getD off .junk,s.addBox x) else none)=_;split at h;rename_i hc;by_cases hi:i<s.L.length;rw[U0g _ _ _ _ hi,if_pos hc];cases h;rfl;rw[Q1j _ _ _ oG] at hc h;have hz:off=0/\n=0:=(by simp at hc;omega);obtain⟨rfl,rfl⟩:=hz;simp[Req.flat] at hf;subst hf;cases h;rw[if_pos oG];simp;cases h
 | store gl i off cs=>
  cases gl with
  | true=>
   simp only[Req.run,if_true] at h⊢;show(if off+cs.length<=((s.st).getD i []).length/\0<((s.st).getD i []).length then some (PV.junk, { s.addBox x with st:=s.st.set i (over (s.st.getD i []) off cs) }) else none)=_;split at h;rename_i hc;cases h;rw[if_pos hc];rfl;cases h
  | false=>
   simp only[Req.run,Bool.false_eq_true,if_false] at h⊢;show(if off+cs.length<=((s.L++ [x.2]).getD i []).length/\0<((s.L++ [x.2]).getD i []).length then some (PV.junk, { s.addBox x with L:=(s.L++ [x.2]).set i (over ((s.L++ [x.2]).getD i []) off cs) }) else none)=_;split at h;rename_i hc;by_cases hi:i<s.L.length;rw[U0g _ _ _ _ hi,if_pos hc,List.set_append_left _ _ hi];cases h;simp[PFS.addBox,PFS.put];rw[Q1j _ _ _ oG] at hc;simp at hc;cases h
 | app t es ys e=>
  simp only[Req.run] at h⊢;split at h;rename_i hc;rw[if_pos hc];cases t with
  | own k=>
   simp only at h⊢;by_cases hT:s.T.getD k (0,0)=(es.length,e.sz);rw[if_pos hT] at h;have hT':(s.addBox x).T.getD k (0,0)=(es.length,e.sz):=hT;rw[if_pos hT'];cases h;rfl;rw[if_neg hT] at h;cases h
  | full=>
   simp only at h⊢;by_cases hT:es.length=0\/0<ys.length;rw[if_pos hT] at h⊢;cases h;rfl;rw[if_neg hT] at h;cases h
  | _=>cases h
  cases h
def G1p :Op->Bool
 | .alloc _ | .box _ _ | .makeSlice _ _ _=>false
 | _=>true
theorem z0h {r:Req}(h:r.q=true):r.flat=true:=by cases r<;>first | rfl | cases h
theorem x2f (T:Option TI)(x:PV):(j0o T x).flat=true:=by
 unfold j0o;split
 all_goals first | rfl | skip
 all_goals
  rename_i T _ _;simp only[Req.flat];cases T.agg<;>rfl
theorem V2z (T:Option TI)(x y:PV):(v0o T x y).flat=true:=by
 unfold v0o;split
 all_goals first | rfl | (split<;>rfl)
theorem w1j (P:Program)(b:Builtin)(ts:List TypeId)(as:List PV):(Y0r P b ts as).flat=true:=by
 unfold Y0r;split;exact z0h (v3u _ _)
 all_goals first | rfl | skip
 all_goals first | unfold v2s | unfold w1a | skip
 all_goals (repeat' split)
 all_goals rfl
theorem y2x {P:Program}{op:Op}{ty:TypeId}{r:Operand->PV}(h:G1p op=true):(req P op ty r).flat=true:=by
 cases op
 case load t x=>exact x2f _ _
 case store t x y=>exact V2z _ _ _
 case move=>rfl
 case assign=>rfl
 case pick=>exact z0h (W3t _ _ _)
 case build=>exact z0h (v2a _ _)
 case buildSlice=>exact z0h (J1d _ _ _)
 case nilCheck=>exact z0h (v3i _)
 case unOp=>exact z0h (un_q _ _)
 case convert=>exact z0h (Y3v _ _ _)
 case fieldAddr=>exact z0h (W1t _ _ _)
 case field=>exact z0h (j2l _ _ _)
 case indexAddr=>exact z0h (V1z _ _ _)
 case index=>exact z0h (x2w _ _ _)
 case slice=>exact z0h (G2v _ _ _ _ _)
 case makeFunc=>rfl
 case binOp=>exact z0h (y3f _ _ _ _)
 case extract x i=>
  show Req.flat (match r x with | .tup vs=>if i<vs.length then Req.val (vs.getD i .junk) else .fail | _=> .fail)=true;split;split<;>rfl;rfl
 case call c=>
  obtain⟨cal,as,ts⟩:=c;cases cal with
  | value f=>rfl
  | invoke a b=>rfl
  | builtin b=>exact w1j _ _ _ _
 case alloc=>cases h
 case box=>cases h
 case makeSlice=>cases h
 all_goals rfl
theorem z0n (s:PFS)(x:Tmp×List PV)(d:Option Tmp)(v:PV)(h:d≠some x.1):(s.addBox x).put d v=(s.put d v).addBox x:=by
 cases d with
 | none=>rfl
 | some d=>
  have hne:x.1≠d:=fun e=>h (by rw[e]);simp[PFS.addBox,PFS.put,List.set_comm _ _ hne]
theorem Z2w (s:PFS)(x:Tmp×List PV)(d:Option Tmp)(r:PV)(st:Q0f)(h:d≠some x.1):(s.addBox x).recv d r st=(s.recv d r st).addBox x:=by unfold PFS.recv;split;rename_i sz es;exact z0n { s with st:=st,T:=s.T++ [(es.length,sz)] } x d _ h;exact z0n { s with st:=st } x d _ h
section
variable {P:Program} {ops:Array Oper} {o:Oper} {K:PFS->Prop} {s:PFS}
theorem J1e {x:Tmp×List PV}(h1:x.1∉o.looksAt ops): ∀d∈o.looksAt ops,(s.addBox x).pa.getD d .junk=s.pa.getD d .junk:=fun d hd=>by show(PFS.put _ (some x.1) _).pa.getD d .junk=_;exact J0h (s:= { s with L:=s.L++ [x.2] }) fun e=>by cases e;exact h1 hd
theorem U3a {x:Tmp×List PV}(hf:G1p o.op=true)(h1:x.1∉o.looksAt ops)(h2:o.dst≠some x.1)(h:PO P o K s):PO P o (fun s'=> ∃s0,K s0/\s'=s0.addBox x) (s.addBox x):=by
 have he: ∀y∈o.op.operands,(s.addBox x).ev y=s.ev y:=Q1p (ops:=ops) (J1e h1);unfold PO at h⊢;rw[J1b he,v0m he];split;rename_i hn;rw[hn] at h;intro b hb;exact⟨_,h b hb,z0n _ _ _ _ h2⟩;rename_i hn;rw[hn] at h;simp only at h;split;rename_i hc;rw[hc] at h;exact⟨h.1,h.2.mono fun r st q=>⟨_,q,Z2w _ _ _ _ _ h2⟩⟩;rename_i hc;rw[hc] at h;simp only[w0y] at h⊢;rw[V1a he];cases hr:(req P o.op o.type s.ev).run s with
 | none=>rw[hr] at h;exact h.elim
 | some y=>
  obtain⟨p,s1⟩:=y;rw[hr] at h;rw[y2t (y2x hf) hr];exact⟨_,h,z0n _ _ _ _ h2⟩
theorem x3l {x:Tmp×List PV}(hf:G1p o.op=true)(h1:x.1∉o.looksAt ops)(h2:o.dst≠some x.1)(h:POg P ops o K s):POg P ops o (fun s'=> ∃s0,K s0/\s'=s0.addBox x) (s.addBox x):=by unfold POg at h⊢;split;rename_i hg;rw[hg] at h;exact U3a hf h1 h2 h;rename_i j want hg;rw[hg] at h;simp only at h;rw[q0n hg (J1e h1)];split;rename_i b hb;rw[hb] at h;simp only at h;split;rename_i e;rw[if_pos e] at h;exact U3a hf h1 h2 h;rename_i e;rw[if_neg e] at h;exact⟨_,h,z0n _ _ _ _ h2⟩;rename_i hb;rw[hb] at h;exact h
theorem V2l (hf:G1p o.op=true): ∀(X:List (Tmp×List PV)) (s:PFS) (K:PFS->Prop),(∀x∈X,x.1∉o.looksAt ops/\o.dst≠some x.1)->POg P ops o K s->POg P ops o (fun s'=> ∃s0,K s0/\s'=s0.exts X) (s.exts X)
 | [],s,K,hX,h=>k0y h fun s' k=>⟨s',k,rfl⟩
 | x::X,s,K,hX,h=>by have h0:=hX x (List.mem_cons_self ..);have h1:=x3l hf h0.1 h0.2 h;have h2:=V2l hf X (s.addBox x) _ (fun y hy=>hX y (List.mem_cons_of_mem _ hy)) h1;exact k0y h2 fun s' ⟨s0,⟨s1,k,e⟩,e2⟩=>⟨s1,k,by rw[e2,e];rfl⟩
end
def sw (n i:Nat):Nat:=if i=n then n+1 else if i=n+1 then n else i
theorem G3d (n i:Nat):sw n (sw n i)=i:=by unfold sw;by_cases h1:i=n;subst h1;simp;by_cases h2:i=n+1;subst h2;simp;simp[h1,h2]
theorem k3e {n i j:Nat}(h:sw n i=sw n j):i=j:=by rw[<-G3d n i,h,G3d]
theorem k3d {n i:Nat}(h:i<n):sw n i=i:=by unfold sw;rw[if_neg oG,if_neg oG]
theorem k3f {n i:Nat}(h:n+1<i):sw n i=i:=by unfold sw;rw[if_neg oG,if_neg oG]
def Fr.sw (F:Fr)(n:Nat):Fr:= { F with lmu:=fun i=>F.lmu (Go.Pv.sw n i) }
theorem j0p {a b t:Nat}(h:a<=b){p:PV}(hp:p.lim1 a t=true):p.lim1 b t=true:=by unfold PV.lim1 at hp⊢;split at hp;simp at hp⊢;omega;simp at hp⊢;omega;simp at hp⊢;omega;exact hp;cases hp;cases hp;cases hp;rfl
theorem K2b {a b t:Nat}(h:a<=b){p:PV}(hp:p.lim a t=true):p.lim b t=true:=by
 have all: ∀cs:List PV,cs.all (PV.lim1 a t)=true->cs.all (PV.lim1 b t)=true:=fun cs hc=>List.all_eq_true.2 fun q hq=>j0p h (List.all_eq_true.1 hc q hq);cases p with
 | agg cs=>exact all cs hp
 | tup cs=>exact all cs hp
 | fn f bs cs=>exact Bool.and_eq_true_iff.2 ⟨all bs (Bool.and_eq_true_iff.1 hp).1,all cs (Bool.and_eq_true_iff.1 hp).2⟩
 | junk=>rfl
 | sc v=>rfl
 | sl t es=>exact j0p (t:=_) (p:= .sl t es) h hp
 | ms g i o l=>exact j0p (p:= .ms g i o l) h hp
 | mr i n c=>exact j0p (t:=t) (p:= .mr i n c) h hp
 | lp i o=>exact j0p (t:=t) (p:= .lp i o) h hp
 | gp i o=>rfl
 | ep cs o=>rfl
 | pre al n=>rfl
 | gr i n c=>rfl
theorem RepF.lim_sw {w:World}{g:Gh}{F:Fr}{T:List (Nat×Nat)}{v:Value}{p:PV}{n:Nat}(h:RepF w g F T v p)(hp:p.lim n T.length=true):RepF w g (F.sw n) T v p:=by have:=h.lim hp (F':=F.sw n) (fun i hi hin=>⟨hi,by show F.lmu (Go.Pv.sw n i)=_;rw[k3d hin]⟩) rfl;rwa [List.take_length] at this
theorem J3p {E:Ent}{a:Act}{w:World}{g:Gh}{F:Fr}{u u':PFS}{n:Nat}(h:FSRep E a w g F u)(hn:n+1<u.L.length)(hT:u'.T=u.T)(hst:u'.st=u.st)(hpl:u'.pa.length=u.pa.length)(hLl:u'.L.length=u.L.length)
 (hL: ∀i,u'.L.getD i []=u.L.getD (Go.Pv.sw n i) []) (hLc: ∀i,∀p∈u.L.getD i [],p.lim n u.T.length=true)
 (hpa: ∀t,t<u.pa.length->(u'.pa.getD t .junk=u.pa.getD t .junk/\(u.pa.getD t .junk).lim n u.T.length=true)\/(∃i off,u.pa.getD t .junk= .lp i off/\u'.pa.getD t .junk= .lp (Go.Pv.sw n i) off)):
 FSRep E a w g (F.sw n) u':=by
 have hf:=h.frame;refine⟨h.ext,by rw[hst];exact h.store,?_,h.defers,by rw[hpl];exact h.len,fun t ht=> ?_⟩;rw[hT];refine⟨by rw[hLl];exact hf.nl,fun i hi=> ?_,fun i hi=> ?_,fun i j hi hj e=> ?_,fun i hi=> ?_,hf.tlo,fun k b hk hb=>⟨(hf.tapart k b hk hb).1,fun i hi=> ?_⟩,hf.tinj⟩;rw[hL] at hi;exact hf.lo _ hi;rw[hL] at hi;exact hf.apart _ hi;rw[hL] at hi hj;exact k3e (hf.inj _ _ hi hj e);rw[hL] at hi;have hh:=hf.holds _ hi;rw[hL];intro j hj;obtain⟨q1,c,q2,q3⟩:=hh j hj;exact⟨q1,c,q2,q3.lim_sw (hLc _ _ (Q0r _ _ _ hj))⟩;rw[hL] at hi;exact(hf.tapart k b hk hb).2 _ hi;rw[hpl] at ht;have hr:=h.tmps t ht;rw[hT];rcases hpa t ht with ⟨e,hl⟩ | ⟨i,off,e1,e2⟩;rw[e];exact hr.lim_sw hl;rw[e1] at hr;rw[e2];generalize a.tmps.getD t undef=v at hr⊢;cases hr with
 | base _ _ hb=>cases hb
 | lp _ _ hi=>
  have hz:Go.Pv.sw n i<(F.sw n).nl:=by show Go.Pv.sw n i<F.nl;rw[hf.nl] at hi⊢;unfold Go.Pv.sw;split;omega;split<;>omega
  have:=RepF.lp (w:=w) (g:=g) (F:=F.sw n) (T:=u.T) (Go.Pv.sw n i) off hz;have e:(F.sw n).lmu (Go.Pv.sw n i)=F.lmu i:=(by show F.lmu (Go.Pv.sw n (Go.Pv.sw n i))=_;rw[G3d]);rw[e] at this;exact this
def PFS.inScope (s:PFS):Prop:=(∀t,t<s.pa.length->(s.pa.getD t .junk).lim s.L.length s.T.length=true)/\ ∀i,∀p∈s.L.getD i [],p.lim s.L.length s.T.length=true
theorem j2q (X:List (Tmp×List PV)): ∀s:PFS,(s.exts X).L=s.L++X.map (·.2)/\(s.exts X).T=s.T/\(s.exts X).st=s.st/\(s.exts X).pa.length=s.pa.length:=by
 induction X with
 | nil=>intro s;exact⟨by simp[PFS.exts],rfl,rfl,rfl⟩
 | cons x X ih=>
  intro s;obtain⟨h1,h2,h3,h4⟩:=ih (s.addBox x);refine⟨?_,h2,h3,?_⟩;show(PFS.exts (s.addBox x) X).L=_;rw[h1];simp[PFS.addBox,PFS.put];show(PFS.exts (s.addBox x) X).pa.length=_;rw[h4];simp[PFS.addBox,PFS.put]
theorem w1v (s:PFS)(x:Tmp×List PV)(t:Nat)(ht:t<s.pa.length):(s.addBox x).pa.getD t .junk=if x.1=t then .lp s.L.length 0 else s.pa.getD t .junk:=by show(s.pa.set x.1 (.lp s.L.length 0)).getD t .junk=_;by_cases e:x.1=t;rw[if_pos e,e,Q0s _ _ _ _ ht];rw[if_neg e,Q0l _ _ _ _ _ e]
theorem H1s {s:PFS}{x:Tmp×List PV}(h:s.inScope)(hx:x.2.all (PV.lim 0 0)=true):(s.addBox x).inScope:=by
 have hLl:(s.addBox x).L.length=s.L.length+1:=(by simp[PFS.addBox,PFS.put]);have hT:(s.addBox x).T=s.T:=rfl;have hp:(s.addBox x).pa.length=s.pa.length:=(by simp[PFS.addBox,PFS.put]);refine⟨fun t ht=> ?_,fun i p hi=> ?_⟩;rw[hp] at ht;rw[w1v s x t ht,hLl,hT];split;show decide (s.L.length<s.L.length+1)=true;simp;exact K2b oG (h.1 t ht);rw[hLl,hT];have e:(s.addBox x).L=s.L++ [x.2]:=rfl;rw[e] at hi;by_cases hl:i<s.L.length;rw[U0g _ _ _ _ hl] at hi;exact K2b oG (h.2 i p hi);by_cases he:i=s.L.length;subst he;rw[q_a,List.getElem?_append_right (Nat.le_refl _)] at hi;simp at hi;have h0:=List.all_eq_true.1 hx p hi;have key: ∀q:PV,q.lim1 0 0=true->q.lim1 (s.L.length+1) s.T.length=true:=fun q hq=>by unfold PV.lim1 at hq⊢;split at hq;simp at hq;simp at hq;simp at hq;simp at hq;cases hq;cases hq;cases hq;rfl
 have all: ∀cs:List PV,cs.all (PV.lim1 0 0)=true->cs.all (PV.lim1 (s.L.length+1) s.T.length)=true:=fun cs hc=>List.all_eq_true.2 fun q hq=>key q (List.all_eq_true.1 hc q hq);cases p with
 | agg cs=>exact all cs h0
 | tup cs=>exact all cs h0
 | fn f bs cs=>exact Bool.and_eq_true_iff.2 ⟨all bs (Bool.and_eq_true_iff.1 h0).1,all cs (Bool.and_eq_true_iff.1 h0).2⟩
 | junk=>rfl
 | sc v=>rfl
 | sl t es=>exact key (.sl t es) h0
 | ms g i o l=>exact key (.ms g i o l) h0
 | mr i n c=>exact key (.mr i n c) h0
 | lp i o=>exact key (.lp i o) h0
 | gp i o=>rfl
 | ep cs o=>rfl
 | pre al n=>rfl
 | gr i n c=>rfl
 rw[Q1j _ _ _ (by simp;omega)] at hi;cases hi
theorem X3o {a t:Nat}{p:PV}(h0:p.lim 0 0=true):p.lim a t=true:=by
 have key: ∀q:PV,q.lim1 0 0=true->q.lim1 a t=true:=fun q hq=>by unfold PV.lim1 at hq⊢;split at hq;simp at hq;simp at hq;simp at hq;simp at hq;cases hq;cases hq;cases hq;rfl
 have all: ∀cs:List PV,cs.all (PV.lim1 0 0)=true->cs.all (PV.lim1 a t)=true:=fun cs hc=>List.all_eq_true.2 fun q hq=>key q (List.all_eq_true.1 hc q hq);cases p with
 | agg cs=>exact all cs h0
 | tup cs=>exact all cs h0
 | fn f bs cs=>exact Bool.and_eq_true_iff.2 ⟨all bs (Bool.and_eq_true_iff.1 h0).1,all cs (Bool.and_eq_true_iff.1 h0).2⟩
 | junk=>rfl
 | sc v=>rfl
 | sl t es=>exact key (.sl t es) h0
 | ms g i o l=>exact key (.ms g i o l) h0
 | mr i n c=>exact key (.mr i n c) h0
 | lp i o=>exact key (.lp i o) h0
 | gp i o=>rfl
 | ep cs o=>rfl
 | pre al n=>rfl
 | gr i n c=>rfl
def z0y (X:List (Tmp×List PV))(t:Nat):Option Nat:=
 match X with
 | []=>none
 | x::X=>if x.1=t then some 0 else(z0y X t).map (· +1)
theorem Z1q (x:Tmp×List PV)(X:List (Tmp×List PV))(t:Nat):z0y (x::X) t=if x.1=t then some 0 else(z0y X t).map (· +1):=rfl
theorem W2z {X:List (Tmp×List PV)}{t:Nat}(h: ∀x∈X,x.1≠t):z0y X t=none:=by
 induction X with
 | nil=>rfl
 | cons x X ih=>
  rw[Z1q,if_neg (h x (List.mem_cons_self ..)),ih fun y hy=>h y (List.mem_cons_of_mem _ hy)];rfl
theorem Q2w : ∀(X:List (Tmp×List PV)) (s:PFS) (t:Nat),t<s.pa.length->(X.map (·.1)).Nodup->(s.exts X).pa.getD t .junk=match z0y X t with | some q=> .lp (s.L.length+q) 0 | none=>s.pa.getD t .junk
 | [],s,t,ht,hd=>rfl
 | x::X,s,t,ht,hd=>by
  have hd':=List.nodup_cons.1 hd;have hp:(s.addBox x).pa.length=s.pa.length:=(by simp[PFS.addBox,PFS.put]);have hLl:(s.addBox x).L.length=s.L.length+1:=(by simp[PFS.addBox,PFS.put]);have ih:=Q2w X (s.addBox x) t (by rw[hp];exact ht) hd'.2;show((s.addBox x).exts X).pa.getD t .junk=_;rw[ih,w1v s x t ht,hLl,Z1q];by_cases e:x.1=t;have hn:z0y X t=none:=W2z fun y hy e2=>hd'.1 (List.mem_map.2 ⟨y,hy,e2.trans e.symm⟩);rw[if_pos e,if_pos e,hn];rfl;rw[if_neg e,if_neg e];cases z0y X t with
  | none=>rfl
  | some q=>simp only[Option.map_some];congr 1;omega
theorem Y2w {E:Ent}{a:Act}{w:World}{g:Gh}{X Y:List (Tmp×List PV)}(hp:X.Perm Y): ∀(F:Fr) (s:PFS),s.inScope->(X.map (·.1)).Nodup->(∀x∈X,x.2.all (PV.lim 0 0)=true)->
 FSRep E a w g F (s.exts X)-> ∃F',FSRep E a w g F' (s.exts Y):=by
 induction hp with
 | nil=>exact fun F s _ _ _ h=>⟨F,h⟩
 | cons x _ ih=>
  intro F s hs hd hz h;exact ih F (s.addBox x) (H1s hs (hz x (List.mem_cons_self ..))) (List.nodup_cons.1 hd).2 (fun y hy=>hz y (List.mem_cons_of_mem _ hy)) h
 | trans h1 h2 ih1 ih2=>
  intro F s hs hd hz h;obtain⟨F1,k⟩:=ih1 F s hs hd hz h;exact ih2 F1 s hs ((h1.map _).nodup_iff.1 hd) (fun x hx=>hz x (h1.mem_iff.2 hx)) k
 | swap x y l=>
  intro F s hs hd hz h;have hd1:((x::y::l).map (·.1)).Nodup:=((List.Perm.swap y x l).map (·.1)).nodup_iff.2 hd;obtain⟨a1,a2,a3,a4⟩:=j2q (y::x::l) s;obtain⟨b1,b2,b3,b4⟩:=j2q (x::y::l) s;have hne:y.1≠x.1:=fun e=>(List.nodup_cons.1 hd).1 (List.mem_map.2 ⟨x,List.mem_cons_self ..,e.symm⟩);refine⟨F.sw s.L.length,J3p (n:=s.L.length) h (by rw[a1];simp) (by rw[a2,b2]) (by rw[a3,b3]) (by rw[a4,b4]) (by rw[a1,b1];simp) (fun i=> ?_) (fun i p hi=> ?_) (fun t ht=> ?_)⟩;rw[a1,b1];by_cases h1:i<s.L.length;rw[k3d h1,U0g _ _ _ _ h1,U0g _ _ _ _ h1];obtain⟨k,rfl⟩: ∃k,i=s.L.length+k:=⟨i-s.L.length,oG⟩;have g: ∀(M:List (List PV)) (q:Nat),(s.L++M).getD (s.L.length+q) []=M.getD q []:=fun M q=>by rw[q_a,List.getElem?_append_right oG,Nat.add_sub_cancel_left,<-q_a]
  match k with
  | 0=>
   have:Go.Pv.sw s.L.length (s.L.length+0)=s.L.length+1:=by unfold Go.Pv.sw;simp
   rw[this,g,g];rfl
  | 1=>
   have:Go.Pv.sw s.L.length (s.L.length+1)=s.L.length+0:=by unfold Go.Pv.sw;simp
   rw[this,g,g];rfl
  | k+2=>
   rw[k3f oG,g,g];rfl
  rw[a2];rw[a1] at hi;by_cases h1:i<s.L.length;rw[U0g _ _ _ _ h1] at hi;exact hs.2 i p hi;by_cases h2:i<s.L.length+(y::x::l).length;have hm:(s.L++(y::x::l).map (·.2)).getD i []∈(y::x::l).map (·.2):=by rw[q_a,List.getElem?_append_right oG,<-q_a];exact Q0r _ _ _ (by simp at h2⊢;omega)
  obtain⟨z,hz1,hz2⟩:=List.mem_map.1 hm;rw[<-hz2] at hi;exact X3o (List.all_eq_true.1 (hz z hz1) p hi);rw[Q1j _ _ _ (by simp at h2⊢;omega)] at hi;cases hi;rw[a4] at ht;rw[Q2w _ s t ht hd,Q2w _ s t ht hd1,a2];simp only[Z1q];by_cases e1:y.1=t;have e2:x.1≠t:=fun e=>hne (by rw[e1,e]);right;refine⟨s.L.length,0,?_,?_⟩;simp[e1];simp[e1,e2];unfold Go.Pv.sw;simp;by_cases e2:x.1=t;right;refine⟨s.L.length+1,0,?_,?_⟩;simp[e1,e2];simp[e2];unfold Go.Pv.sw;simp;cases hq:z0y l t with
  | none=>
   left;simp[e1,e2,hq];exact hs.1 t ht
  | some q=>
   right;refine⟨s.L.length+(q+1+1),0,?_,?_⟩;simp[e1,e2,hq];simp[e1,e2,hq];rw[k3f oG]
theorem j0m {l m:List Nat}(hd:l.Nodup)(h: ∀i∈l,i∈m):l.length<=m.length:=by
 induction l generalizing m with
 | nil=>exact Nat.zero_le _
 | cons i l ih=>
  have hd':=List.nodup_cons.1 hd;have him:=h i (List.mem_cons_self ..);have:l.length<=(m.erase i).length:=ih hd'.2 fun j hj=>(List.mem_erase_of_ne (fun e:j=i=>hd'.1 (e▸hj))).2 (h j (List.mem_cons_of_mem _ hj));rw[List.length_erase_of_mem him] at this;have:0<m.length:=List.length_pos_of_mem him;simp only[List.length_cons];omega
theorem List.perm_of_nodup_nodup_toFinset_eq' {l m:List Nat}(hl:l.Nodup)(hm:m.Nodup)(h: ∀i∈l,i∈m)(hlen:m.length<=l.length):l.Perm m:=by
 induction l generalizing m with
 | nil=>
  have:m= []:=List.length_eq_zero_iff.1 (by simpa using hlen);subst this;exact .nil
 | cons i l ih=>
  have hd':=List.nodup_cons.1 hl;have him:=h i (List.mem_cons_self ..);have:=ih (m:=m.erase i) hd'.2 (hm.erase i) (fun j hj=>(List.mem_erase_of_ne (fun e:j=i=>hd'.1 (e▸hj))).2 (h j (List.mem_cons_of_mem _ hj))) (by rw[List.length_erase_of_mem him];simp only[List.length_cons] at hlen;omega);exact(this.cons i).trans (List.perm_cons_erase him).symm
section
variable {P:Program} {ops:Array Oper} {K:PFS->Prop}
def w0b (P:Program)(ops:Array Oper)(i:Nat):Option (Tmp×List PV):=
 match ops[i]? with
 | some ⟨some d,.alloc t,_,_,_,none⟩=>match w0l (ti P t) with
  | .box cs=>if cs.all (PV.lim 0 0)=true then some (d,cs) else none
  | _=>none
 | _=>none
def bx (P:Program)(ops:Array Oper)(i:Nat):Tmp×List PV:=(w0b P ops i).getD (0,[])
def J2v (ops:Array Oper)(i:Nat):Bool:=match ops[i]? with | some o=>o.after.all fun e=> !Region.binds .any e | none=>false
def V0l (ops:Array Oper)(ph1:List Nat):Array Oper:=ops.mapIdx fun k o=>if ph1.contains k then o else { o with after:=o.after.push ⟨k,.data⟩ }
def V0f (l:Array Bool)(π:List Nat):Array Bool:=π.foldl (fun l i=>l.setIfInBounds i true) l
structure Late (P:Program) (ops:Array Oper) (ph1 as ph2:List Nat):Prop where
 all: ∀i,i<ops.size->i∈ph1\/i∈as\/i∈ph2
 lt: ∀i,i∈ph1\/i∈as->i<ops.size
 apart: ∀i∈ph1,i∉as
 nodup:as.Nodup
 slots:((as.map (bx P ops)).map (·.1)).Nodup
 alloc: ∀i∈as,(w0b P ops i).isSome=true/\J2v ops i=true
 first: ∀i∈ph1,∀o,ops[i]?=some o->(∀e∈o.after,Region.binds .any e=true->e.on<i/\e.on∈ph1)/\G1p o.op=true/\ ∀j∈as,(bx P ops j).1∉o.looksAt ops/\o.dst≠some (bx P ops j).1
 last: ∀k∈ph2,∀j,j∈ph1\/j∈as->V1e ops j 12 k=true
theorem G0p (l:Array Bool)(π:List Nat):(V0f l π).size=l.size:=by
 induction π generalizing l with
 | nil=>rfl
 | cons i π ih=>exact(ih _).trans (by simp)
theorem J0y {l:Array Bool}{π:List Nat}{k:Nat}(d:Bool):k<l.size->((V0f l π).getD k d=true<->l.getD k d=true\/k∈π):=by
 induction π generalizing l with
 | nil=>intro h;simp[V0f]
 | cons i π ih=>
  intro h;show(V0f (l.setIfInBounds i true) π).getD k d=true<->_;rw[ih (by simpa using h)];by_cases e:i=k;subst e;simp[h];rw[getD_set_ne d e];simp only[List.mem_cons];constructor;rintro(h | h);exact .inl h;exact .inr (.inr h);rintro(h | h | h);exact .inl h;exact absurd h.symm e;exact .inr h
theorem z2z (l:Array Bool)(π:List Nat)(j:Nat)(h:j∉π):(V0f l π).setIfInBounds j true=V0f (l.setIfInBounds j true) π:=by
 induction π generalizing l with
 | nil=>rfl
 | cons i π ih=>
  have hn: ¬(j=i\/j∈π):=fun hh=>h (List.mem_cons.2 hh);have h1:j≠i:=fun e=>hn (.inl e);show(V0f (l.setIfInBounds i true) π).setIfInBounds j true=V0f ((l.setIfInBounds j true).setIfInBounds i true) π;rw[ih _ (fun hh=>hn (.inr hh)),Array.setIfInBounds_comm _ _ (Ne.symm h1)]
theorem Y2i (l:Array Bool)(π:List Nat)(j:Nat):V0f l (π++ [j])=(V0f l π).setIfInBounds j true:=by unfold V0f;rw[List.foldl_append];rfl
theorem j2p (s:PFS)(X:List (Tmp×List PV))(x:Tmp×List PV):s.exts (X++ [x])=(s.exts X).addBox x:=by unfold PFS.exts;rw[List.foldl_append];rfl
theorem W1m (ph1:List Nat)(k:Nat):(V0l ops ph1)[k]?=(ops[k]?).map fun o=>if ph1.contains k then o else { o with after:=o.after.push ⟨k,.data⟩ } :=by unfold V0l;simp
theorem Q1k {ph1:List Nat}{k:Nat}(h:k∈ph1):(V0l ops ph1)[k]?=ops[k]?:=by rw[W1m,List.contains_iff_mem.2 h];cases ops[k]?<;>rfl
theorem w0f {ph1:List Nat}{s:PFS}{j:Nat}{want:Bool} :X0d (V0l ops ph1).toList s j want=X0d ops.toList s j want:=by
 unfold X0d;have e1:(V0l ops ph1).toList[j]?=(V0l ops ph1)[j]?:=(by simp);have e2:ops.toList[j]?=ops[j]?:=(by simp);rw[e1,e2,W1m];cases ops[j]? with
 | none=>rfl
 | some o=>simp only[Option.map_some];cases ph1.contains j<;>rfl
theorem j2c {ph1:List Nat}{i:Nat}(h:i∈ph1){s:PFS} :POp P (V0l ops ph1) i K s=POp P ops i K s:=by unfold POp;rw[Q1k h];split;rfl;unfold POg;split;rfl;simp only[w0f]
theorem W1l {ph1:List Nat}{k:Nat}{listed:Array Bool}(h:k∈Region.ready .any (V0l ops ph1) listed):k∈ph1:=by
 obtain⟨h0,o,ho,hall⟩:=mem_ready.1 h;rw[W1m] at ho;refine Classical.byContradiction fun hn=> ?_;have hc:ph1.contains k=false:=by
  cases hb:ph1.contains k with
  | false=>rfl
  | true=>exact absurd (List.contains_iff_mem.1 hb) hn
 rw[hc] at ho;cases hk:ops[k]? with
 | none=>rw[hk] at ho;cases ho
 | some o'=>
  rw[hk] at ho;simp at ho;subst ho;have:=hall ⟨k,.data⟩ (by simp) rfl;rw[W1i h0] at this;cases this
variable {ph1 as ph2:List Nat} (C:Late P ops ph1 as ph2)
include C
theorem Late.ready {k:Nat}{listed:Array Bool}{π:List Nat}(hsz:listed.size=ops.size)(hk:k∈ph1)(hπ: ∀i∈π,i∈as):
 k∈Region.ready .any (V0l ops ph1) listed<->k∈Region.ready .any ops (V0f listed π):=by
 have hlt:k<listed.size:=by rw[hsz];exact C.lt k (.inl hk)
 have hkp:k∉π:=fun h=>C.apart k hk (hπ k h);rw[mem_ready,mem_ready,Q1k hk];have e0:(V0f listed π).getD k true=false<->listed.getD k true=false:=by
  have:=J0y (l:=listed) (π:=π) (k:=k) true hlt;constructor;intro h;cases hb:listed.getD k true with
  | false=>rfl
  | true=>rw[this.2 (.inl hb)] at h;cases h
  intro h;cases hb:(V0f listed π).getD k true with
  | false=>rfl
  | true=>
   rcases this.1 hb with h1 | h1;rw[h] at h1;cases h1;exact absurd h1 hkp
 rw[e0];refine and_congr_right fun _=> ?_;constructor;rintro⟨o,ho,h⟩;refine⟨o,ho,fun e he hb=> ?_⟩;obtain⟨h1,h2⟩:=(C.first k hk o ho).1 e he hb;exact(J0y (l:=listed) (π:=π) false (by rw[hsz];exact C.lt _ (.inl h2))).2 (.inl (h e he hb));rintro⟨o,ho,h⟩;refine⟨o,ho,fun e he hb=> ?_⟩;obtain⟨h1,h2⟩:=(C.first k hk o ho).1 e he hb;rcases (J0y (l:=listed) (π:=π) false (by rw[hsz];exact C.lt _ (.inl h2))).1 (h e he hb) with h3 | h3;exact h3;exact absurd (hπ _ h3) (C.apart _ h2)
theorem Late.done {listed:Array Bool}(hsz:listed.size=ops.size)(hr:Region.ready .any (V0l ops ph1) listed= []): ∀n k,k<n->k∈ph1->listed.getD k false=true:=by
 intro n
 induction n with
 | zero=>intro k h;omega
 | succ n ih=>
  intro k hkn hk;by_cases hlt:k<n;exact ih k hlt hk;have hkn:k=n:=oG;subst hkn;cases hb:listed.getD k false with
  | true=>rfl
  | false=>
   have hks:k<ops.size:=C.lt k (.inl hk);have:k∈Region.ready .any (V0l ops ph1) listed:=by rw[mem_ready,Q1k hk];refine⟨?_,ops[k],by simp[hks],fun e he hbd=> ?_⟩;have:k<listed.size:=(by rw[hsz];exact hks);simpa[this] using hb;obtain⟨h1,h2⟩:=(C.first k hk ops[k] (by simp[hks])).1 e he hbd;exact ih _ h1 h2
   rw[hr] at this;cases this
theorem Late.closed {listed:Array Bool}{π:List Nat}(hsz:listed.size=ops.size)(hl: ∀k,listed.getD k false=true->k∈ph1)(hcl:Y0u (V0l ops ph1) listed)(hπ: ∀i∈π,i∈as):Y0u ops (V0f listed π):=by intro k o e ho hk he hb;have hks:k<listed.size:=(by rw[hsz];exact(Array.getElem?_eq_some_iff.1 ho).1);rcases (J0y (l:=listed) (π:=π) false hks).1 hk with h | h;have h1:=hl k h;have:=hcl k o e (by rw[Q1k h1];exact ho) h he hb;obtain⟨_,h3⟩:=(C.first k h1 o ho).1 e he hb;exact(J0y (l:=listed) (π:=π) false (by rw[hsz];exact C.lt _ (.inl h3))).2 (.inl this);have:=(C.alloc k (hπ k h)).2;unfold J2v at this;rw[ho] at this;simp only at this;rw[Array.all_eq_true'] at this;have:=this e he;rw[hb] at this;cases this
omit C
theorem J1c {i:Nat}(h:(w0b P ops i).isSome=true): ∃d t ty pos af,ops[i]?=some ⟨some d,.alloc t,ty,pos,af,none⟩/\w0l (ti P t)= .box (bx P ops i).2/\d=(bx P ops i).1/\(bx P ops i).2.all (PV.lim 0 0)=true:=by unfold bx;unfold w0b at h⊢;split at h;rename_i d t ty pos af ho;split at h;rename_i cs hcs;split at h;rename_i hc;refine⟨d,t,ty,pos,af,ho,?_,?_,?_⟩;simp only[hcs,if_pos hc];rfl;simp only[hcs,if_pos hc];rfl;simp only[hcs,if_pos hc];exact hc;cases h;cases h;cases h
theorem x1c {i:Nat}(h:(w0b P ops i).isSome=true){s:PFS} : ∃o,ops[i]?=some o/\o.guard=none/\ ∀K:PFS->Prop,PO P o K s<->K (s.addBox (bx P ops i)):=by obtain⟨d,t,ty,pos,af,ho,hb,hd,_⟩:=J1c h;refine⟨_,ho,rfl,fun K=> ?_⟩;unfold PO;have e1:U0y P (.alloc t) s.ev=none:=rfl;have e2:K0h (.alloc t) s.ev=none:=rfl;simp only[e1,e2,w0y];have e3:req P (.alloc t) ty s.ev= .box (bx P ops i).2:=hb;rw[e3,hd];exact Iff.rfl
theorem U1f {rd:Option Nat}{Q:Exit->Act->World->Prop} : ∀(f:Nat) (listed:Array Bool) (a:Act) (w:World),wpAnyIn (fen rd) 0 P .any ops Q f listed a w->wpAnyIn (fen rd) 0 P .any ops Q (f+1) listed a w
 | 0,listed,a,w,h=>⟨fun _=>h.2,fun i hi=>by rw[h.1] at hi;cases hi⟩
 | f+1,listed,a,w,h=>⟨h.1,fun i hi=>wpOpIn_mono (fun a' w' h'=>U1f f _ a' w' h') (h.2 i hi)⟩
theorem w2m {rd:Option Nat}{Q:Exit->Act->World->Prop}{f f':Nat}(hle:f<=f'){listed:Array Bool}{a:Act}{w:World}(h:wpAnyIn (fen rd) 0 P .any ops Q f listed a w):wpAnyIn (fen rd) 0 P .any ops Q f' listed a w:=by
 obtain⟨k,rfl⟩: ∃k,f'=f+k:=⟨f'-f,oG⟩;clear hle
 induction k with
 | zero=>exact h
 | succ k ih=>exact U1f _ _ _ _ ih
def OA0 (P:Program)(ops:List Oper)(as:List Nat)(K:PFS->Prop):PFS->Prop:=
 match as with
 | []=>K
 | i::as=>fun s=>OS0 P ops (ops[i]?) (OA0 P ops as K) s
theorem V3z {as:List Nat}(h: ∀i∈as,(w0b P ops i).isSome=true): ∀ {s:PFS},OA0 P ops.toList as K s->K (s.exts (as.map (bx P ops))):=by
 induction as with
 | nil=>exact fun h=>h
 | cons i as ih=>
  intro s hs;have h1:=V2n (P:=P) (ops:=ops) (i:=i) hs;obtain⟨o,ho,hg,hk⟩:=x1c (h i (List.mem_cons_self ..)) (s:=s);unfold POp at h1;rw[ho] at h1;simp only at h1;unfold POg at h1;rw[hg] at h1;exact ih (fun j hj=>h j (List.mem_cons_of_mem _ hj)) ((hk _).1 h1)
def PFS.scopedB (s:PFS):Prop:=s.pa.all (PV.lim s.L.length s.T.length)=true/\s.L.all (fun o=>o.all (PV.lim s.L.length s.T.length))=true
theorem H2c {s:PFS}(h:s.scopedB):s.inScope:=by refine⟨fun t ht=>List.all_eq_true.1 h.1 _ (Q0r _ _ _ ht),fun i p hi=> ?_⟩;by_cases hl:i<s.L.length;exact List.all_eq_true.1 (List.all_eq_true.1 h.2 _ (Q0r _ _ _ hl)) p hi;rw[Q1j _ _ _ oG] at hi;cases hi
def KL (P:Program)(ops:Array Oper)(as:List Nat)(p2:Plan)(K:PFS->Prop)(s:PFS):Prop:=s.scopedB/\OA0 P ops.toList as (OW0 P ops.toList p2 K) s
section
variable {E:Ent} {Q:Exit->Act->World->Prop} {N f2:Nat} {p2:Plan}
 (h2:Y0v ops N p2 f2 (V0f (V0f (Array.replicate ops.size false) ph1) as)=true) (h2':X1d ops N (V0f (V0f (Array.replicate ops.size false) ph1) as) p2=true)
 (hK: ∀a' w' g' F' s',FSRep E a' w' g' F' s'->K s'->Q .normal a' w')
include C h2 h2' hK
theorem X3q {listed:Array Bool}{π:List Nat}(hsz:listed.size=ops.size)(hl: ∀k,listed.getD k false=true->k∈ph1)(hcl:Y0u (V0l ops ph1) listed)(hr:Region.ready .any (V0l ops ph1) listed= [])
 (hnd:π.Nodup) (hπ: ∀i∈π,i∈as) (hlen:as.length<=π.length) {s:PFS} (hN:N<=s.pa.length) (hk:KL P ops as p2 K s) {a:Act} {w:World} {g:Gh} {F:Fr} (hrep:FSRep E a w g F (s.exts (π.map (bx P ops)))):
 wpAnyIn (fen E.rd) 0 P .any ops Q f2 (V0f listed π) a w:=by
 have hperm:π.Perm as:=List.perm_of_nodup_nodup_toFinset_eq' hnd C.nodup hπ hlen;have hsc:=H2c hk.1;have hsl:((π.map (bx P ops)).map (·.1)).Nodup:=(((hperm.map (bx P ops)).map (·.1)).nodup_iff).2 C.slots;obtain⟨F',hrep'⟩:=Y2w (hperm.map (bx P ops)) F s hsc hsl (fun x hx=>by obtain⟨i,hi,rfl⟩:=List.mem_map.1 hx;obtain⟨_,_,_,_,_,_,_,_,hz⟩:=J1c (C.alloc i (hπ i hi)).1;exact hz) hrep;have hfull:V0f listed π=V0f (V0f (Array.replicate ops.size false) ph1) as:=(by refine Array.ext (by rw[G0p,G0p,G0p,hsz];simp) fun i h1 h3=> ?_;have hi:i<listed.size:=(by rwa [G0p] at h1);have hi2:i<(V0f (Array.replicate ops.size false) ph1).size:=(by rw[G0p] at h3;exact h3);have hi3:i<(Array.replicate ops.size false).size:=(by rw[G0p] at hi2;exact hi2);have e1:=J0y (l:=listed) (π:=π) false hi;have e2:=J0y (l:=V0f (Array.replicate ops.size false) ph1) (π:=as) false hi2;have e3:=J0y (l:=Array.replicate ops.size false) (π:=ph1) false hi3;have z: ∀(A:Array Bool) (h:i<A.size),A[i]=A.getD i false:=fun A h=>(by simp[h]);rw[z _ h1,z _ h3,Bool.eq_iff_iff,e1,e2,e3];constructor;rintro(h | h);exact .inl (.inr (hl i h));exact .inr (hπ i h);rintro((h | h) | h);simp[Array.getElem?_replicate] at h;split at h<;>simp at h;exact .inl (C.done hsz hr (i+1) i oG h);exact .inr (hperm.mem_iff.2 h));have hO:=V3z (fun i hi=>(C.alloc i hi).1) hk.2;have hcl2:Y0u ops (V0f listed π):=C.closed hsz hl hcl hπ;rw[hfull] at hcl2⊢;have hP:=(Z1p (P:=P) (K:=K) p2 f2 _ h2 hcl2).2 h2' (s.exts (as.map (bx P ops))) (by rw[(j2q _ s).2.2.2];exact hN) hO;exact w0o hK _ _ _ _ _ _ _ hrep' hP
theorem X3r : ∀(fu f:Nat) (listed:Array Bool) (s:PFS) (π:List Nat),f+(as.length-π.length)+f2<=fu->PAny P (V0l ops ph1) (KL P ops as p2 K) f listed s->listed.size=ops.size->(∀k,listed.getD k false=true->k∈ph1)->
 Y0u (V0l ops ph1) listed->π.Nodup->(∀i∈π,i∈as)->N<=s.pa.length-> ∀(a:Act) (w:World) (g:Gh) (F:Fr),FSRep E a w g F (s.exts (π.map (bx P ops)))->wpAnyIn (fen E.rd) 0 P .any ops Q fu (V0f listed π) a w:=by
 have last: ∀(fu f:Nat) (listed:Array Bool) (s:PFS) (π:List Nat),f2<=fu->PAny P (V0l ops ph1) (KL P ops as p2 K) f listed s->listed.size=ops.size->(∀k,listed.getD k false=true->k∈ph1)->
  Y0u (V0l ops ph1) listed->π.Nodup->(∀i∈π,i∈as)->N<=s.pa.length->Region.ready .any (V0l ops ph1) listed= []->as.length<=π.length-> ∀(a:Act) (w:World) (g:Gh) (F:Fr),FSRep E a w g F (s.exts (π.map (bx P ops)))->wpAnyIn (fen E.rd) 0 P .any ops Q fu (V0f listed π) a w:=by
  intro fu f listed s π hfu hP hsz hl hcl hnd hπ hN hr hlen a w g F hrep;have hk:KL P ops as p2 K s:=by
   cases f with
   | zero=>exact hP.2
   | succ f=>exact hP.1 hr
  exact w2m hfu (X3q C h2 h2' hK hsz hl hcl hr hnd hπ hlen hN hk hrep)
 intro fu
 induction fu with
 | zero=>
  intro f listed s π hfu hP hsz hl hcl hnd hπ hN a w g F hrep;have hf:f=0:=oG;subst hf;exact last 0 0 listed s π oG hP hsz hl hcl hnd hπ hN hP.1 oG a w g F hrep
 | succ fu ih=>
  intro f listed s π hfu hP hsz hl hcl hnd hπ hN a w g F hrep;by_cases hA:Region.ready .any (V0l ops ph1) listed= []/\as.length<=π.length;exact last (fu+1) f listed s π oG hP hsz hl hcl hnd hπ hN hA.1 hA.2 a w g F hrep;have hclo:=C.closed hsz hl hcl hπ;have hunl: ∀i∈as,i∉π->(V0f listed π).getD i true=false:=fun i hi hn=>by
   have hlt:i<listed.size:=by rw[hsz];exact C.lt i (.inr hi)
   cases hb:(V0f listed π).getD i true with
   | false=>rfl
   | true=>
    rcases (J0y (l:=listed) (π:=π) true hlt).1 hb with h | h;have:listed.getD i false=true:=(by simpa[hlt] using h);exact absurd hi (C.apart i (hl i this));exact absurd h hn
  refine⟨fun h0=> ?_,fun j hj=> ?_⟩;exfalso;by_cases hr:Region.ready .any (V0l ops ph1) listed= [];have hlen: ¬as.length<=π.length:=fun h=>hA ⟨hr,h⟩;have: ∃i∈as,i∉π:=by refine Classical.byContradiction fun hne=>hlen ?_;exact j0m C.nodup fun i hi=>Classical.byContradiction fun hn=>hne ⟨i,hi,hn⟩
  obtain⟨i,hi,hn⟩:=this;obtain⟨o,ho,_,_⟩:=x1c (C.alloc i hi).1 (s:=s);have:i∈Region.ready .any ops (V0f listed π):=by rw[mem_ready];refine⟨hunl i hi hn,o,ho,fun e he hb=> ?_⟩;have:=(C.alloc i hi).2;unfold J2v at this;rw[ho] at this;simp only at this;rw[Array.all_eq_true'] at this;have:=this e he;rw[hb] at this;cases this
  rw[h0] at this;cases this;obtain⟨k,hk⟩:=List.exists_mem_of_ne_nil _ hr;have:=(C.ready hsz (W1l hk) hπ).1 hk;rw[h0] at this;cases this
  . obtain⟨hju,oj,hoj,hall⟩:=mem_ready.1 hj;have hjlt:=(Array.getElem?_eq_some_iff.1 hoj).1;rcases C.all j hjlt with h1 | h1 | h1
    . --one of the first
      have hjr:=(C.ready hsz h1 hπ).2 hj;cases f with
      | zero=>rw[hP.1] at hjr;cases hjr
      | succ f=>
       have hp:=hP.2 j hjr;rw[j2c h1] at hp;have hp:=w2a hp;unfold POp at hp;rw[hoj] at hp;simp only at hp;obtain⟨_,hflat,hsl⟩:=C.first j h1 oj hoj;have hx:=V2l (ops:=ops) hflat (π.map (bx P ops)) s _ (fun x hx=>by obtain⟨i,hi,rfl⟩:=List.mem_map.1 hx;exact hsl i (hπ i hi)) hp;have next: ∀(a':Act) (w':World) (g':Gh) (F':Fr) (s':PFS),FSRep E a' w' g' F' s'->(∃s0,(((U0c (V0l ops ph1) j=true->K0u P (V0l ops ph1) listed j s0)/\PAny P (V0l ops ph1) (KL P ops as p2 K) f (listed.setIfInBounds j true) s0)/\s0.pa.length=s.pa.length)/\s'=s0.exts (π.map (bx P ops)))->
        wpAnyIn (fen E.rd) 0 P .any ops Q fu ((V0f listed π).setIfInBounds j true) a' w':=by
        rintro a' w' g' F' s' hr' ⟨s0,⟨⟨_,hpa⟩,hlen⟩,rfl⟩;rw[z2z _ _ _ (fun h=>C.apart j h1 (hπ j h))];refine ih f (listed.setIfInBounds j true) s0 π oG hpa (by simpa using hsz) (fun k hk=> ?_) (z0l hcl hjr) hnd hπ oG a' w' g' F' hr';by_cases e:j=k;subst e;exact h1;rw[getD_set_ne false e] at hk;exact hl k hk
       unfold wpOpIn;rw[hoj];simp only;unfold POg at hx;split at hx
       . rename_i hg;rw[if_pos (by simp[Region.wanted,hg])];exact W0f hrep hx next
       . rename_i jj want hg;split at hx
         . rename_i b hb;have hy:=U0e hrep hb;split at hx
           . rename_i he;subst he;rw[if_pos (by unfold Region.wanted;rw[hg];simp only;rw[hy];simp)];exact W0f hrep hx next
           . rename_i he;rw[if_neg (by unfold Region.wanted;rw[hg];simp only;rw[hy];simp[he])];exact⟨H0i,next _ w g F _ (hrep.put oj.dst (.base _ _ (q0z _ _))) hx⟩
         exact hx.elim
    --a box
    have hjn:j∉π:=fun h=>by have:=(J0y (l:=listed) (π:=π) true (by rw[hsz];exact hjlt)).2 (.inr h);rw[hju] at this;cases this
    obtain⟨o,ho,hg,hk⟩:=x1c (C.alloc j h1).1 (s:=s.exts (π.map (bx P ops)));unfold wpOpIn;rw[ho];simp only;rw[if_pos (by simp[Region.wanted,hg])];refine W0f hrep ((hk (fun s'=>s'=(s.exts (π.map (bx P ops))).addBox (bx P ops j))).2 rfl) ?_;rintro a' w' g' F' s' hr' rfl;rw[<-Y2i];have hnd':(π++ [j]).Nodup:=by rw[List.nodup_append];exact⟨hnd,by simp,fun a ha b hb=>by simp at hb;subst hb;exact fun e=>hjn (e▸ha)⟩
    have hsub: ∀i∈π++ [j],i∈as:=fun i hi=>by rcases List.mem_append.1 hi with h | h;exact hπ i h;simp at h;subst h;exact h1
    have hlen':=j0m hnd' hsub;refine ih f listed s (π++ [j]) (by simp at hlen'⊢;omega) hP hsz hl hcl hnd' hsub hN a' w' g' F' ?_;rw[List.map_append];show FSRep E a' w' g' F' (s.exts (π.map (bx P ops)++ [bx P ops j]));rw[j2p];exact hr'
    --one of the last
    exfalso;have hreach: ∀i,i∈ph1\/i∈as->(V0f listed π).getD i false=true:=fun i hi=>z0v hclo 12 j oj hoj hall (C.last j h1 i hi);refine hA ⟨?_,?_⟩;refine List.eq_nil_iff_forall_not_mem.2 fun k hk=> ?_;have hkp:=W1l hk;have hkl:k<listed.size:=(by rw[hsz];exact C.lt k (.inl hkp));have h3:=hreach k (.inl hkp);rcases (J0y (l:=listed) (π:=π) false hkl).1 h3 with h | h;have:=(mem_ready.1 hk).1;rw[W1i this] at h;cases h;exact C.apart k hkp (hπ k h);refine j0m C.nodup fun i hi=> ?_;have hil:i<listed.size:=(by rw[hsz];exact C.lt i (.inr hi));rcases (J0y (l:=listed) (π:=π) false hil).1 (hreach i (.inr hi)) with h | h;exact absurd hi (C.apart i (hl i h));exact h
end
end
def Plan.inB (ph1:List Nat):Plan->Bool
 | .done=>true
 | .step i ws rest=>ph1.contains i&&(ws.all ph1.contains&&rest.inB ph1)
 | .alt a b=>a.inB ph1&&b.inB ph1
section
variable {P:Program} {ops:Array Oper} {ph1:List Nat}
theorem V3x {o:Oper}{K:PFS->Prop}{s:PFS} :OG P (V0l ops ph1).toList o K s=OG P ops.toList o K s:=by simp only[OG,w0f]
theorem V3s {o:Oper}{s:PFS} :WG P (V0l ops ph1).toList o s=WG P ops.toList o s:=by simp only[WG,w0f]
theorem G1o {i:Nat}(h:i∈ph1):(V0l ops ph1).toList[i]?=ops.toList[i]?:=by have:=Q1k (ops:=ops) h;simpa using this
theorem V2j : ∀ {ws:List Nat} {s:PFS},(∀i∈ws,i∈ph1)->WL0 P (V0l ops ph1).toList ws s=WL0 P ops.toList ws s
 | [],s,h=>rfl
 | i::ws,s,h=>by unfold WL0;rw[G1o (h i (List.mem_cons_self ..)),V2j fun j hj=>h j (List.mem_cons_of_mem _ hj)];simp only[V3s]
theorem K1e : ∀(p:Plan) (K:PFS->Prop),p.inB ph1=true->OW0 P (V0l ops ph1).toList p K=OW0 P ops.toList p K
 | .done,K,h=>rfl
 | .step i ws rest,K,h=>by simp only[Plan.inB,q_i] at h;obtain⟨h1,h2,h3⟩:=h;have hi:i∈ph1:=List.contains_iff_mem.1 h1;have hw: ∀j∈ws,j∈ph1:=fun j hj=>List.contains_iff_mem.1 (List.all_eq_true.1 h2 j hj);funext s;unfold OW0;rw[G1o hi,K1e rest K h3];have e:(fun s'=>WL0 P (V0l ops ph1).toList ws s'/\OW0 P ops.toList rest K s')=(fun s'=>WL0 P ops.toList ws s'/\OW0 P ops.toList rest K s'):=funext fun s'=>(by rw[V2j hw]);rw[e];unfold OS0;split;exact V3x;rfl
 | .alt a b,K,h=>by simp only[Plan.inB,q_i] at h;funext s;unfold OW0;rw[K1e a K h.1,K1e b K h.2]
end
def x2l (P:Program)(ops:Array Oper)(N:Nat)(ph1 as ph2:List Nat)(p1 p2:Plan):Bool:=
 (List.range ops.size).all (fun i=>ph1.contains i||(as.contains i||ph2.contains i))&&
 ((ph1++as).all (fun i=>decide (i<ops.size))&&
 (ph1.all (fun i=> !as.contains i)&&
 (decide as.Nodup&&
 (decide ((as.map (bx P ops)).map (·.1)).Nodup&&
 (as.all (fun i=>(w0b P ops i).isSome&&J2v ops i)&&
 (ph1.all (fun i=>match ops[i]? with
  | none=>true
  | some o=>o.after.all (fun e=> !Region.binds .any e||(decide (e.on<i)&&ph1.contains e.on))&&(G1p o.op&&as.all fun j=> !(o.looksAt ops).contains (bx P ops j).1&&o.dst !=some (bx P ops j).1))&&
 (ph2.all (fun k=>(ph1++as).all fun j=>V1e ops j 12 k)&&
 (decide (ph1.length+as.length+ph2.length<=ops.size)&&
 (p1.inB ph1&&
 (Y0v (V0l ops ph1) N p1 ph1.length (Array.replicate ops.size false)&&
 (X1d (V0l ops ph1) N (Array.replicate ops.size false) p1&&
 (Y0v ops N p2 ph2.length (V0f (V0f (Array.replicate ops.size false) ph1) as)&&
 X1d ops N (V0f (V0f (Array.replicate ops.size false) ph1) as) p2))))))))))))
theorem q3g {P:Program}{ops:Array Oper}{N:Nat}{ph1 as ph2:List Nat}{p1 p2:Plan}(h:x2l P ops N ph1 as ph2 p1 p2=true):Late P ops ph1 as ph2:=by simp only[x2l,q_i] at h;obtain⟨h1,h2,h3,h4,h5,h6,h7,h8,_⟩:=h;refine⟨fun i hi=> ?_,fun i hi=> ?_,fun i hi hn=> ?_,q_b h4,q_b h5,fun i hi=>Bool.and_eq_true_iff.1 (List.all_eq_true.1 h6 i hi),fun i hi o ho=> ?_,fun k hk j hj=> ?_⟩;have:=List.all_eq_true.1 h1 i (List.mem_range.2 hi);simp only[Bool.or_eq_true,List.contains_iff_mem] at this;exact this;exact q_b (List.all_eq_true.1 h2 i (List.mem_append.2 hi));have:=List.all_eq_true.1 h3 i hi;rw[List.contains_iff_mem.2 hn] at this;cases this;have:=List.all_eq_true.1 h7 i hi;rw[ho] at this;simp only[q_i] at this;obtain⟨a1,a2,a3⟩:=this;refine⟨fun e he hb=> ?_,a2,fun j hj=> ?_⟩;rw[Array.all_eq_true'] at a1;have:=a1 e he;rw[hb] at this;simp at this;exact this;have:=List.all_eq_true.1 a3 j hj;simp only[q_i,Bool.not_eq_true',bne_iff_ne,ne_eq] at this;refine⟨fun hm=> ?_,this.2⟩;rw[List.contains_iff_mem.2 hm] at this;cases this.1;exact List.all_eq_true.1 (List.all_eq_true.1 h8 k hk) j (List.mem_append.2 hj)
theorem q2i {P:Program}{E:Ent}{id:Nat}{l:List Oper}{Q:Exit->PFS->Prop}{s:PFS}(hm:P.follows .mixedOrders=true)(N:Nat)(ph1 as ph2:List Nat)(p1 p2:Plan)(hB:x2l P l.toArray N ph1 as ph2 p1 p2=true)(hl:N<=s.pa.length)
 (h:OW0 P l p1 (fun s=>s.scopedB/\OA0 P l as (OW0 P l p2 (Q .normal)) s) s):PWP P E (.region id l.toArray true) Q s:=by
 intro a w g F hr;have C:=q3g hB;simp only[x2l,q_i] at hB;obtain⟨_,_,_,_,_,_,_,_,c1,c2,c3,c4,c5,c6⟩:=hB;have hfs:(V0l l.toArray ph1).size=l.toArray.size:=(by simp[V0l]);have hcl:Y0u (V0l l.toArray ph1) (Array.replicate l.toArray.size false):=fun k ok e hk hkl he hb=>by by_cases hkk:k<l.length<;>simp[hkk,q_f,Array.getElem?_replicate] at hkl
 have h':OW0 P (V0l l.toArray ph1).toList p1 (KL P l.toArray as p2 (Q .normal)) s:=by rw[K1e p1 _ c2];exact h
 have hP:=(Z1p (P:=P) (K:=KL P l.toArray as p2 (Q .normal)) p1 _ _ c3 hcl).2 c4 s hl h';have:=X3r C (Q:=fun e a w=>post E Q e a w) c5 c6 (fun a' w' g' F' s' hr' hk=>⟨g',F',s',hr',hk⟩) l.toArray.size ph1.length (Array.replicate l.toArray.size false) s []
  (by have:=q_b c1;simpa using this) hP (by simp) (fun k hk=>by by_cases hkk:k<l.length<;>simp[hkk,q_f,Array.getElem?_replicate] at hk) hcl List.nodup_nil (fun i hi=>by cases hi) hl
 exact wpIn_region_any hm (this _ _ g F hr.drew.1)
section
variable {P:Program} {s:PFS} {K:PFS->Prop}
def OA (P:Program)(ops:List Oper)(as:List Nat)(K:PFS->Prop)[Stop ops][Stop K](s:PFS):Prop:=OA0 P ops as K s
@[go_sem] theorem Y4s {ops:List Oper} :OA P ops [] K s=K s:=(rfl)
@[go_sem] theorem W4q {ops:List Oper}{i:Nat}{as:List Nat} :OA P ops (i::as) K s=OS P ops (ops[i]?) (OA P ops as K) s:=(rfl)
@[go_sem] theorem k3i {pa:List PV}{L st:Q0f}{T:List (Nat×Nat)} :(PFS.mk pa L T st).scopedB=(pa.all (PV.lim L.length T.length)=true/\L.all (fun o=>o.all (PV.lim L.length T.length))=true):=(rfl)
end
theorem W0q {P:Program}{E:Ent}{id:Nat}{l:List Oper}{Q:Exit->PFS->Prop}{s:PFS}(hm:P.follows .mixedOrders=true)(N:Nat)(ph1 as ph2:List Nat)(p1 p2:Plan)(hB:x2l P l.toArray N ph1 as ph2 p1 p2=true)(hl:N<=s.pa.length)
 (h:OW P l p1 (fun s=>s.scopedB/\OA P l as (OW P l p2 (Q .normal)) s) s):PWP P E (.region id l.toArray true) Q s:=q2i hm N ph1 as ph2 p1 p2 hB hl h
end Go.Pv
end
