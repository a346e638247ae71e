/- Parts of the walk: M78, PvBb, PvBf, PvBg. -/
import Derived.Test.YtldalepagmhnmaaGreatDoorZEA
import Derived.Test.YtldalepagmhnmaaGreatDoorZBV
set_option linter.unusedVariables false
set_option linter.unusedSimpArgs false
section
namespace Go.Pv
structure Pb where
 fld:List (List Mn)
 box:List Ivl
 until':Nm
 most:Nm
 least:Nm
 prec:Int
 order:Int
 budget:Int
instance : Inhabited Pb:=⟨⟨[],[],default,default,default,0,0,0⟩⟩
open Go.Proofs
def G4k (f:Fm):List PV:= [.sl .no (J0p f.m),.sl .no (encQ f.a),.sl .no (Q0v f.r)]
attribute [go_sem] G4k
def G4e (s:Sx):List PV:= [.sc (.int .i64 s.idx),.sc (.bool s.t.neg),.sc (.int .i64 s.t.exp),.sl .no (encW s.t.w),.sc (.bool s.h.neg),.sc (.int .i64 s.h.exp),.sl .no (encW s.h.w),.sl .no (J0p s.f.m),.sl .no (encQ s.f.a),.sl .no (Q0v s.f.r)]
attribute [go_sem] G4e
def G4h (p:Pb):List PV:= [.sl .no (Z0q p.fld),.sl .no (Q0v p.box),.sc (.bool p.until'.neg),.sc (.int .i64 p.until'.exp),.sl .no (encW p.until'.w),.sc (.bool p.most.neg),.sc (.int .i64 p.most.exp),.sl .no (encW p.most.w),
 .sc (.bool p.least.neg),.sc (.int .i64 p.least.exp),.sl .no (encW p.least.w),.sc (.int .i64 p.prec),.sc (.int .i64 p.order),.sc (.int .i64 p.budget)]
attribute [go_sem] G4h
def PV.forgetK :PV->PV
 | .sl .full es=> .sl .full es
 | p=>p.forget2
theorem RepF.forgetK {w:World}{g:Gh}{F:Fr}{T:List (Nat×Nat)}{v:Value}{p:PV}(h:RepF w g F T v p)(hc:p.closed2=true):Rep w g v p.forgetK:=by
 cases p with
 | sl t es=>
  cases t with
  | full=>cases h with | base _ _ h=>exact h
  | _=>exact RepF.forget2 h hc
 | _=>exact RepF.forget2 h hc
def PFS.giveK (i:Nat)(s:PFS):PFS:=
 ⟨s.pa.map (PV.giv i s.st.length),(s.L.map fun l=>l.map (PV.giv i s.st.length)).set i [],s.T,s.st++ [(s.L.getD i []).map PV.forgetK]⟩
theorem J2d {E:Ent}{s:PFS}(i:Nat)(hi:s.freezeOK i)(hne:s.L.getD i []≠ []):Weak E s (s.giveK i):=by
 intro a w g F h;obtain⟨l1,l2,l3⟩:=h.frame.lo i hne;have hall:=List.all_eq_true.1 hi
 let g':Gh:= { g with n:=g.n+1,mu:=fun k=>if k=g.n then F.lmu i else g.mu k }
 have hmu: ∀k,k<g.n->g'.mu k=g.mu k:=fun k hk=>if_neg (by omega);have hmun:g'.mu g.n=F.lmu i:=if_pos rfl;have hLe:Le w g w g':=⟨Nat.le_succ _,hmu,fun _=>Nat.le_refl _,fun _ _ _ _ hc=>hc⟩;have htok:v0l w g F s.T w g' F s.T:=⟨Nat.le_refl _,fun k hk=>⟨Nat.le_refl _,fun _ v es hR=>hR.mono fun b hb=>⟨rfl,rfl⟩⟩⟩;have hm: ∀v p,RepF w g F s.T v p->RepF w g' F s.T v p:=fun v p hr=>hr.mono hLe (Nat.le_refl _) (fun _ _=>rfl) htok;have en:s.st.length=g.n:=h.store.n.symm;have hf: ∀v p,RepF w g F s.T v p->RepF w g' F s.T v (p.giv i s.st.length):=fun v p hp=>RepF.giv hm (by rw[en];exact Nat.lt_succ_self _) (by rw[en];exact hmun) hp;have hL: ∀k,((s.L.map fun l=>l.map (PV.giv i s.st.length)).set i []).getD k []≠ []->k≠i/\s.L.getD k []≠ []/\((s.L.map fun l=>l.map (PV.giv i s.st.length)).set i []).getD k []=(s.L.getD k []).map (PV.giv i s.st.length):=fun k hk=>by
  by_cases hki:i=k;subst hki;exfalso;apply hk;exact X0g _ _;have e:((s.L.map fun l=>l.map (PV.giv i s.st.length)).set i []).getD k []=(s.L.getD k []).map (PV.giv i s.st.length):=by rw[<-K0o (f:=fun l=>l.map (PV.giv i s.st.length)) rfl];simp[q_a,List.getElem?_set_ne hki]
  exact⟨fun e=>hki e.symm,fun e0=>hk (by rw[e,e0];rfl),e⟩
 have hst0: ∀j,j<g.n->(s.st++ [(s.L.getD i []).map PV.forgetK]).getD j []=s.st.getD j []:=fun j hj=>(by rw[q_a,List.getElem?_append_left (by omega),<-q_a]);have hst1:(s.st++ [(s.L.getD i []).map PV.forgetK]).getD g.n []=(s.L.getD i []).map PV.forgetK:=(by rw[q_a,List.getElem?_append_right (by omega),<-en];simp);have hst:StoreOK w g' (s.st++ [(s.L.getD i []).map PV.forgetK]):=(by refine⟨by simp[g',h.store.n],fun j k hj hk e=> ?_,fun j hj=> ?_,fun j hj hj0=> ?_,fun j hj=> ?_,h.store.none,h.store.tab⟩;have hj:j<g.n+1:=hj;have hk:k<g.n+1:=hk;by_cases e1:j=g.n;by_cases e2:k=g.n;omega;rw[e1,hmun,hmu k (by omega)] at e;exact absurd e.symm (h.frame.apart i hne k (by omega));by_cases e2:k=g.n;rw[e2,hmun,hmu j (by omega)] at e;exact absurd e (h.frame.apart i hne j (by omega));rw[hmu j (by omega),hmu k (by omega)] at e;exact h.store.inj j k (by omega) (by omega) e;have hj:j<g.n+1:=hj;by_cases e1:j=g.n;rw[e1,hmun];exact l2;rw[hmu j (by omega)];exact h.store.lt j (by omega);have hj:j<g.n+1:=hj;by_cases e1:j=g.n;rw[e1,hmun];exact l3;rw[hmu j (by omega)];rw[hst0 j (by omega)] at hj0;exact h.store.vis j (by omega) hj0;have hj:j<g.n+1:=hj;by_cases e1:j=g.n;subst e1;rw[hmun,hst1];intro k hk;have hk':k<(s.L.getD i []).length:=(by simpa using hk);obtain⟨q1,c,q2,q3⟩:=h.frame.holds i hne k hk';refine⟨q1,c,q2,?_⟩;have e:((s.L.getD i []).map PV.forgetK).getD k .junk=((s.L.getD i []).getD k .junk).forgetK:=Q0z (f:=PV.forgetK) rfl _ _;rw[e];exact(hm _ _ q3).forgetK (Bool.and_eq_true_iff.1 (hall _ (Q0t _ _ _ hk'))).1;rw[hmu j (by omega),hst0 j (by omega)];exact(h.store.holds j (by omega)).mono rfl fun v p hr=>hr.mono hLe);have hext:Ext E.w E.g w g':=(by refine⟨h.ext.le.trans hLe,h.ext.os,h.ext.tape,h.ext.output,h.ext.size,h.ext.old,fun j h1 h2=> ?_⟩;have h2:j<g.n+1:=h2;by_cases e1:j=g.n;rw[e1,hmun];exact l1;rw[hmu j (by omega)];exact h.ext.new j h1 (by omega));refine⟨g',F,⟨hext,hst,⟨by simp[PFS.giveK,h.frame.nl],fun k hk=> ?_,fun k hk j hj=> ?_,fun k j hk hj=> ?_,fun k hk=> ?_,h.frame.tlo,fun k b hk hb=>⟨fun j hj=> ?_,fun j hj=> ?_⟩,h.frame.tinj⟩,h.defers,by simp[PFS.giveK,h.len],fun t ht=> ?_⟩⟩;exact h.frame.lo k (hL k hk).2.1;have hj:j<g.n+1:=hj;obtain⟨h1,h2,h3⟩:=hL k hk;by_cases e1:j=g.n;rw[e1,hmun];exact fun e=>h1 (h.frame.inj k i h2 hne e.symm);rw[hmu j (by omega)];exact h.frame.apart k h2 j (by omega);exact h.frame.inj k j (hL k hk).2.1 (hL j hj).2.1;obtain⟨h1,h2,h3⟩:=hL k hk;show Holds w _ _ (((s.L.map fun l=>l.map (PV.giv i s.st.length)).set i []).getD k []);rw[h3];intro j hj;obtain⟨q1,c,q2,q3⟩:=h.frame.holds k h2 j (by simpa using hj);exact⟨q1,c,q2,by rw[Q0z (f:=PV.giv i s.st.length) rfl];exact hf _ _ q3⟩;have hj:j<g.n+1:=hj;by_cases e1:j=g.n;rw[e1,hmun];exact(h.frame.tapart k b hk hb).2 i hne;rw[hmu j (by omega)];exact(h.frame.tapart k b hk hb).1 j (by omega);exact(h.frame.tapart k b hk hb).2 j (hL j hj).2.1;simp only[PFS.giveK] at ht⊢;show RepF w g' F s.T _ ((s.pa.map (PV.giv i s.st.length)).getD t .junk);rw[Q0z (f:=PV.giv i s.st.length) rfl];exact hf _ _ (h.tmps t (by simpa using ht))
@[go_sem] theorem X4s {i:Nat}{pa:List PV}{L st:Q0f}{T:List (Nat×Nat)} :(PFS.mk pa L T st).giveK i=⟨pa.map (PV.giv i st.length),(L.map fun l=>l.map (PV.giv i st.length)).set i [],T,st++ [(L.getD i []).map PV.forgetK]⟩:=(rfl)
@[go_sem] theorem V3c {es:List PV} :PV.forgetK (.sl .full es)= .sl .full es:=(rfl)
@[go_sem] theorem z3h {es:List PV} :PV.forgetK (.sl .no es)= .sl .no es:=(rfl)
@[go_sem] theorem z3g {v:Value} :PV.forgetK (.sc v)= .sc v:=(rfl)
@[go_sem] theorem z3j {i o:Nat} :PV.forgetK (.gp i o)= .gp i o:=(rfl)
theorem G2j {P:Program}{E:Ent}{c:Code}{Q:Exit->PFS->Prop}{s:PFS}(i:Nat)(hi:s.freezeOK i)(hne:s.L.getD i []≠ [])(h:PWP P E c Q (s.giveK i)):PWP P E c Q s:=J0u (J2d i hi hne) h
end Go.Pv
end
