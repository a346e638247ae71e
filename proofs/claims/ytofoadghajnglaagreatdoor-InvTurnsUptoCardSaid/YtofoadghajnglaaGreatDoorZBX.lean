/- Parts of the walk: PvAu, N78, PvAv, PvAw, PvAx, PvAy, M68, M69, M70, PvBc, PvBd, PvBe. -/
import Derived.Test.YtofoadghajnglaaGreatDoorZBD
import Derived.Test.YtofoadghajnglaaGreatDoorZBI
import Derived.Test.YtofoadghajnglaaGreatDoorZAN
import Derived.Test.YtofoadghajnglaaGreatDoorZBN
import Derived.Test.YtofoadghajnglaaGreatDoorZBV
set_option linter.unusedVariables false
set_option linter.unusedSimpArgs false
section
/-A slice of larger elements that is handed back to be written:an object of the store,which becomes a plain slice again. -/
namespace Go.Pv
theorem K2m {E:Ent} (s:PFS) (t i len cap:Nat) (ht:s.pa.getD t .junk= .mr i len cap) (hl:0<len):Weak E s { s with pa:=s.pa.set t (.ms false i 0 len) } :=by
 intro a w g F h
 refine⟨g,F,h.ext,h.store,h.frame,h.defers,by simp [h.len],fun k hk=> ?_⟩
 simp only [List.length_set] at hk⊢
 by_cases e:t=k
 · subst e
   rw [Q0u _ _ _ _ hk]
   have:=h.tmps t hk
   rw [ht] at this
   generalize a.tmps.getD t undef=v at this⊢
   cases this with
   | base _ _ h'=>cases h'
   | lmr _ _ _ hi hcap=>exact .lms i 0 len cap hi hcap
   | lmr0 _ _ _=>omega
 · rw [Q0q _ _ _ _ _ e]
   exact h.tmps k hk
theorem x2n {P:Program} {E:Ent} {c:Code} {Q:Exit→PFS→Prop} {s:PFS} (t i len cap:Nat) (ht:s.pa.getD t .junk= .mr i len cap) (hl:0<len) (h:PWP P E c Q { s with pa:=s.pa.set t (.ms false i 0 len) }):PWP P E c Q s:=V0g (K2m s t i len cap ht hl) h
def PV.frzH1 (k sz:Nat) (cs:List PV):PV→PV
 | .ms true k' off len=>if k'=k∧off+len*sz≤cs.length then .sl .no (x1c sz len (cs.drop off)) else .ms true k' off len
 | p=>p
def PV.frzH (k sz:Nat) (cs:List PV):PV→PV
 | .agg l=> .agg (l.map (PV.frzH1 k sz cs))
 | .tup l=> .tup (l.map (PV.frzH1 k sz cs))
 | .fn f l m=> .fn f (l.map (PV.frzH1 k sz cs)) (m.map (PV.frzH1 k sz cs))
 | p=>p.frzH1 k sz cs
structure SolidH (w:World) (g':Gh) (k sz:Nat) (cs:List PV):Prop where
 sl: ∀v off len,k<g'.n→Rep w g' v (.ms true k off len)→off+len*sz≤cs.length→Rep w g' v (.sl .no (x1c sz len (cs.drop off)))
section
variable {w:World} {g g':Gh} {F:Fr} {T:List (Nat×Nat)} {k sz:Nat} {cs:List PV}
end
def PFS.freezeH (k sz:Nat) (s:PFS):PFS:=⟨s.pa.map (PV.frzH k sz (s.st.getD k [])),s.L.map fun l=>l.map (PV.frzH k sz (s.st.getD k [])),s.T,s.st.set k []⟩
section
variable {k sz:Nat} {cs:List PV}
@[go_sem] theorem Y3o {k sz:Nat} {pa:List PV} {L st:Q0d} {T:List (Nat×Nat)} :(PFS.mk pa L T st).freezeH k sz=⟨pa.map (PV.frzH k sz (st.getD k [])),L.map fun l=>l.map (PV.frzH k sz (st.getD k [])),T,st.set k []⟩:=(rfl)
@[go_sem] theorem q3z :PV.frzH k sz cs .junk= .junk:=(rfl)
@[go_sem] theorem K4e {v:Value} :PV.frzH k sz cs (.sc v)=(.sc v):=(rfl)
@[go_sem] theorem K4g {i o:Nat} :PV.frzH k sz cs (.lp i o)=(.lp i o):=(rfl)
@[go_sem] theorem K4h {i o:Nat} :PV.frzH k sz cs (.gp i o)=(.gp i o):=(rfl)
@[go_sem] theorem K4d {t:Tag} {es:List PV} :PV.frzH k sz cs (.sl t es)=(.sl t es):=(rfl)
@[go_sem] theorem K4i {es:List PV} {o:Nat} :PV.frzH k sz cs (.ep es o)=(.ep es o):=(rfl)
@[go_sem] theorem w3a {i o n:Nat} :PV.frzH k sz cs (.ms false i o n)=(.ms false i o n):=(rfl)
@[go_sem] theorem K4f {i n c:Nat} :PV.frzH k sz cs (.mr i n c)=(.mr i n c):=(rfl)
@[go_sem] theorem w3b {l:List PV} :PV.frzH k sz cs (.agg l)= .agg (l.map (PV.frzH1 k sz cs)):=(rfl)
@[go_sem] theorem v3z {l:List PV} :PV.frzH k sz cs (.tup l)= .tup (l.map (PV.frzH1 k sz cs)):=(rfl)
@[go_sem] theorem Y3l :PV.frzH1 k sz cs .junk= .junk:=(rfl)
@[go_sem] theorem w3d {v:Value} :PV.frzH1 k sz cs (.sc v)=(.sc v):=(rfl)
@[go_sem] theorem w3c {t:Tag} {es:List PV} :PV.frzH1 k sz cs (.sl t es)=(.sl t es):=(rfl)
end
end Go.Pv
end
section
/-Small numbers,intervals,boxes,fields out of the deck,more narrowly. -/
set_option maxRecDepth 100000
namespace Go.Pv
open Go.Proofs
def tI (a:Ivl):Prop:=smI a∧luI 6 8 a
end Go.Pv
end
section
/-Boxes of the frame's own lent for a call:the function sees them,and cannot write them. -/
namespace Go.Pv
def PV.lend1 (L:Q0d):PV→PV
 | .mr j n _=> .sl .no (((L.getD j []).take n).map PV.forget1)
 | p=>p.forget1
def PV.lend2 (L:Q0d):PV→PV
 | .lp i off=> .ep ((L.getD i []).map (PV.lend1 L)) off
 | .mr j n _=> .sl .no (((L.getD j []).take n).map PV.forget1)
 | p=>p.forget2
def PV.notU :PV→Bool
 | .sl _ _ | .mr _ _ _ | .sc (.bool _) | .sc (.int .i64 _)=>true
 | _=>false
def K3b (L:Q0d) (e:List Nat):PV→Prop
 | .mr j n _=>n≤e.getD j 0∧ ∀o,o<n→((L.getD j []).getD o .junk).closed1=true
 | p=>p.closed1=true
def K3a (L:Q0d) (e:List Nat):PV→Prop
 | .lp i _=>(L.getD i []).length≤e.getD i 0∧0<(L.getD i []).length∧ ∀o,o<(L.getD i []).length→K3b L e ((L.getD i []).getD o .junk)
 | .mr j n _=>n≤e.getD j 0∧ ∀o,o<n→((L.getD j []).getD o .junk).closed1=true
 | p=>p.closed2=true
structure LendOK (L:Q0d) (e:List Nat) (xs:List PV):Prop where
 ext: ∀i o,o<e.getD i 0→o<(L.getD i []).length∧((L.getD i []).getD o .junk).notU=true
 args: ∀a∈xs,K3a L e a
 low: ∀a∈xs,Low 0 (a.lend2 L)
def uwV (v:Value):Prop:= ∃x,v= .int .u64 x∨v= .int .u32 x
inductive Wordy :PV→Prop
 | sc (v:Value):Wordy (.sc v)
 | agg (cs:List PV) (h: ∀c∈cs,Wordy c):Wordy (.agg cs)
 | tup (cs:List PV) (h: ∀c∈cs,Wordy c):Wordy (.tup cs)
 | sl (es:List PV) (h: ∀j,j<es.length→ ∃x,uwV x∧es.getD j .junk= .sc x):Wordy (.sl .no es)
theorem Wordy.turn {w:World} {g g':Gh} (hv: ∀b off x,uwV x→off<g.vis b→w.cell? ⟨b,off,none⟩=some x→g'.vis b=g.vis b): ∀ {p:PV},Wordy p→ ∀ {v:Value},Rep w g v p→Rep w g' v p:=by
 intro p hp
 induction hp with
 | sc v=>intro v' h;cases h;exact .sc _
 | agg cs hc ih=>intro v h;cases h with | agg vs _ hl h=>exact .agg vs cs hl fun j hj=>ih _ (Q0r _ _ _ hj) (h j hj)
 | tup cs hc ih=>intro v h;cases h with | tup vs _ hl h=>exact .tup vs cs hl fun j hj=>ih _ (Q0r _ _ _ hj) (h j hj)
 | sl es hes=>
  intro v h
  cases h with
  | nil t ad ht=>exact .nil _ _ rfl
  | sl t es b off sz cap cf ht hfull hcap hsz hvis hc hr=>
   by_cases h0:es= []
   · subst h0
     exact .sl _ [] b off sz cap cf rfl hfull hcap hsz (fun h=>by simp at h) (fun i j hi=>by simp at hi) (fun i j hi=>by simp at hi)
   have hl:0<es.length:=List.length_pos_iff.2 h0
   have hs:sz=1:=by
    have h1:=hsz 0 hl
    obtain⟨x,_,hx⟩:=hes 0 hl
    rw [hx] at h1
    exact h1.symm
   subst hs
   have hvb:g'.vis b=g.vis b:=by
    have h1:=hr 0 0 hl (by omega)
    have h2:=hc 0 0 hl (by omega)
    obtain⟨x,hxw,hx⟩:=hes 0 hl
    rw [hx] at h1
    rw [show cf 0 0=x from Rep.sc_inv h1] at h2
    exact hv b (off+0*1+0) x hxw (by have:=hvis hl;omega) h2
   refine .sl _ es b off 1 cap cf rfl hfull hcap hsz (by rw [hvb];exact hvis) hc fun i j hi hj=> ?_
   have h1:=hr i j hi hj
   have h3:j=0:=by omega
   subst h3
   obtain⟨x,_,hx⟩:=hes i hi
   rw [hx] at h1⊢
   rw [show cf i 0=x from Rep.sc_inv h1]
   exact .sc _
theorem Low.mk {p:PV} (h:Low 0 p) {w:World} {g:Gh} {v:Value} (vis:Nat→Nat) (hv: ∀b,g.vis b≤vis b) (hr:Rep w g v p):Rep w ⟨0,fun _=>0,vis⟩ v p:=
 Rep.mono (w:=w) (g:= { g with n:=0 }) (w':=w) (g':=⟨0,fun _=>0,vis⟩) ⟨Nat.le_refl 0,fun i hi=>absurd hi (Nat.not_lt_zero _),hv,fun _ _ _ _ hc=>hc⟩ (h w g v hr (Nat.zero_le _))
noncomputable def J3z (g:Gh) (F:Fr) (L:Q0d) (e:List Nat) (b:Nat):Nat:=
 open Classical in if h: ∃i,L.getD i []≠ []∧F.lmu i=b∧0<e.getD i 0 then e.getD h.choose 0 else g.vis b
section
variable {P:Program} {E:Ent} {a:Act} {w:World} {g:Gh} {F:Fr} {s:PFS} {e:List Nat}
noncomputable def U4p (g:Gh) (F:Fr) (L:Q0d) (e:List Nat):Gh:=⟨g.n,g.mu,J3z g F L e⟩
theorem Wordy.res {B:Nat} {w:World} {g:Gh} {v:Value} {R:PV} (hw:Wordy R):RepRes B w g v R=Rep w g v R:=by
 cases hw<;>rfl
end
def POl0 (P:Program) (o:Oper) (e:List Nat) (K:PFS→Prop) (s:PFS):Prop:=
 match J0e o.op s.ev with
 | some (f,xs)=>Q0c P f=true∧LendOK s.L e xs∧ ∃R,Wordy R∧PCalls P f (xs.map (PV.lend2 s.L)) [] (fun r st'=>r=R∧st'= [])∧K (s.recv o.dst R s.st)
 | none=>False
section
variable {P:Program} {E:Ent} {a:Act} {w:World} {g:Gh} {F:Fr} {s:PFS} {e:List Nat}
end
def OLl0 (P:Program) (ops:List Oper) (e:List Nat):List Bool→List Oper→(PFS→Prop)→PFS→Prop
 | _,[],K,s=>K s
 | [],rest,K,s=>OL0 P ops rest K s
 | true::bs,o::rest,K,s=>o.guard=none∧POl0 P o e (OLl0 P ops e bs rest K) s
 | false::bs,o::rest,K,s=>o.guard=none∧OC0 P o (OLl0 P ops e bs rest K) s
def OLl (P:Program) (ops:List Oper) (e:List Nat) (bs:List Bool) (rest:List Oper) (K:PFS→Prop) [Stop ops] [Stop rest] [Stop K] (s:PFS):Prop:=OLl0 P ops e bs rest K s
def LC0 (P:Program) (e:List Nat) (fv:PV) (xs:List PV) (s:PFS) (K:PV→Prop):Prop:=
 match fv with
 | .fn (.func f) bs cs=>Q0c P f=true∧LendOK s.L e (bs++xs++cs)∧ ∃R,Wordy R∧PCalls P f ((bs++xs++cs).map (PV.lend2 s.L)) [] (fun r st'=>r=R∧st'= [])∧K R
 | _=>False
def LC (P:Program) (e:List Nat) (fv:PV) (xs:List PV) (s:PFS) (K:PV→Prop) [Stop K]:Prop:=LC0 P e fv xs s K
section
variable {P:Program} {s:PFS} {K:PFS→Prop} {d:Option Tmp} {ty:TypeId} {pos:String} {af:Array Edge} {e:List Nat}
@[go_sem] theorem W4y {ops:List Oper} {bs:List Bool} :OLl P ops e bs [] K s=K s:=by cases bs<;>rfl
@[go_sem] theorem W4z {ops rest:List Oper} :OLl P ops e [] rest K s=OL P ops rest K s:=by cases rest<;>rfl
@[go_sem] theorem G4f {ops rest:List Oper} {bs:List Bool} {op:Op} :OLl P ops e (false::bs) (⟨d,op,ty,pos,af,none⟩::rest) K s=OC P ⟨d,op,ty,pos,af,none⟩ (OLl P ops e bs rest K) s:=by
 show((none:Option (Nat×Bool))=none∧_)=_
 simp only [true_and];rfl
theorem k3k {ops rest:List Oper} {bs:List Bool} {f:Operand} {xs:List Operand} {ts:Array TypeId} :OLl P ops e (true::bs) (⟨d,.call ⟨.value f,xs.toArray,ts⟩,ty,pos,af,none⟩::rest) K s=LC0 P e (s.ev f) (xs.map s.ev) s (fun R=>OLl P ops e bs rest K (s.recv d R s.st)):=by
 show((none:Option (Nat×Bool))=none∧_)=_
 simp only [true_and]
 unfold POl0 LC0 J0e
 simp only
 cases s.ev f with
 | fn g bs cs=>cases g<;>rfl
 | _=>rfl
@[go_sem] theorem G4e {ops rest:List Oper} {bs:List Bool} {f:Operand} {xs:List Operand} {ts:Array TypeId} :OLl P ops e (true::bs) (⟨d,.call ⟨.value f,xs.toArray,ts⟩,ty,pos,af,none⟩::rest) K s=LC P e (s.ev f) (xs.map s.ev) s (fun R=>OLl P ops e bs rest K (s.recv d R s.st)):=k3k
end
end Go.Pv
end
section
/-A literal that keeps a slice without room;a box's cell with known room;statements in which such literals and appends to slices with known room stand. -/
namespace Go.Pv
section
variable {P:Program} {E:Ent} {a:Act} {w:World} {g:Gh} {F:Fr} {s:PFS}
end
def POk0 (P:Program) (o:Oper) (K:PFS→Prop) (s:PFS):Prop:=
 match o.op with
 | .buildSlice t 1 parts=>
  match parts.toList with
  | [(0,x)]=>match ti P t,s.ev x with
   | some ⟨_,_,.slice e,_⟩,.sl .full es=>(e.sz=1∧e.zok=true)∧K (s.put o.dst (.sl .full [.sl .full es]))
   | _,_=>False
  | _=>False
 | _=>False
section
variable {P:Program} {E:Ent} {a:Act} {w:World} {g:Gh} {F:Fr} {s:PFS}
end
inductive Mk where
 | no | room | keep
def OLk0 (P:Program) (ops:List Oper):List Mk→List Oper→(PFS→Prop)→PFS→Prop
 | _,[],K,s=>K s
 | [],rest,K,s=>OL0 P ops rest K s
 | .room::bs,o::rest,K,s=>o.guard=none∧POr0 P o (OLk0 P ops bs rest K) s
 | .keep::bs,o::rest,K,s=>o.guard=none∧POk0 P o (OLk0 P ops bs rest K) s
 | .no::bs,o::rest,K,s=>o.guard=none∧OC0 P o (OLk0 P ops bs rest K) s
def OLk (P:Program) (ops:List Oper) (bs:List Mk) (rest:List Oper) (K:PFS→Prop) [Stop ops] [Stop rest] [Stop K] (s:PFS):Prop:=OLk0 P ops bs rest K s
def U2e (T:Option TI) (x:PV) (K:PV→Prop) [Stop K]:Prop:=
 match T,x with
 | some ⟨_,_,.slice e,_⟩,.sl .full es=>(e.sz=1∧e.zok=true)∧K (.sl .full [.sl .full es])
 | _,_=>False
section
variable {P:Program} {s:PFS} {K:PFS→Prop} {d:Option Tmp} {ty:TypeId} {pos:String} {af:Array Edge}
@[go_sem] theorem Y4a {ops:List Oper} {bs:List Mk} :OLk P ops bs [] K s=K s:=by
 cases bs with
 | nil=>rfl
 | cons b bs=>cases b<;>rfl
@[go_sem] theorem Y4b {ops rest:List Oper} :OLk P ops [] rest K s=OL P ops rest K s:=by cases rest<;>rfl
@[go_sem] theorem U4h {ops rest:List Oper} {bs:List Mk} {op:Op} :OLk P ops (.no::bs) (⟨d,op,ty,pos,af,none⟩::rest) K s=OC P ⟨d,op,ty,pos,af,none⟩ (OLk P ops bs rest K) s:=by
 show((none:Option (Nat×Bool))=none∧_)=_
 simp only [true_and];rfl
@[go_sem] theorem Z4p {ops rest:List Oper} {bs:List Mk} {op:Op} :OLk P ops (.room::bs) (⟨d,op,ty,pos,af,none⟩::rest) K s=POr P ⟨d,op,ty,pos,af,none⟩ (OLk P ops bs rest K) s:=by
 show((none:Option (Nat×Bool))=none∧_)=_
 simp only [true_and];rfl
@[go_sem] theorem Z4q {ops rest:List Oper} {bs:List Mk} {t:TypeId} {x:Operand} :OLk P ops (.keep::bs) (⟨d,.buildSlice t 1 [(0,x)].toArray,ty,pos,af,none⟩::rest) K s=U2e (ti P t) (s.ev x) (fun p=>OLk P ops bs rest K (s.put d p)):=by
 show((none:Option (Nat×Bool))=none∧POk0 P _ _ s)=_
 simp only [true_and]
 unfold POk0 U2e
 simp only
 rfl
@[go_sem] theorem q3s {e:EI} {x1:Bool} {x2:Nat} {x4:Option Value} {es:List PV} {K:PV→Prop} :U2e (some ⟨x1,x2,.slice e,x4⟩) (.sl .full es) K=((e.sz=1∧e.zok=true)∧K (.sl .full [.sl .full es])):=(rfl)
end
end Go.Pv
end
section
/-Plain values:scalars,aggregates,slices of such. -/
namespace Go.Pv
inductive Tame :PV→Prop
 | sc (v:Value):Tame (.sc v)
 | agg {cs:List PV} (h: ∀c∈cs,Tame c):Tame (.agg cs)
 | sl {t:Tag} {es:List PV} (h: ∀e∈es,Tame e):Tame (.sl t es)
theorem Tame.low {p:PV} (h:Tame p) (n:Nat):Low n p∧ ∀c∈p.cells,Low n c:=by
 induction h with
 | sc v=>exact⟨y2y n v,fun c hc=>by rw [List.mem_singleton.1 hc];exact y2y n v⟩
 | agg h ih=>exact⟨J3v fun c hc=>(ih c hc).1,fun c hc=>(ih c hc).1⟩
 | @sl t es h ih=>
  have:=q3l (n:=n) (t:=t) fun e he c hc=>(ih e he).2 c hc
  exact⟨this,fun c hc=>by rw [List.mem_singleton.1 hc];exact this⟩
theorem K2s (t:Tag) (w:List UInt64):Tame (.sl t (encW w)):= .sl fun e he=>by
 simp only [encW,List.mem_map] at he
 obtain⟨x,_,rfl⟩:=he
 exact .sc _
theorem w1e (x:Nm): ∀c∈encN x,Tame c:=fun c hc=>by
 simp only [encN,List.mem_cons,List.not_mem_nil,or_false] at hc
 rcases hc with rfl | rfl | rfl
 · exact .sc _
 · exact .sc _
 · exact K2s _ _
theorem y2e (x:Ivl): ∀c∈encI x,Tame c:=fun c hc=>by
 have hc:c∈encN x.lo++encN x.hi:=hc
 rcases List.mem_append.1 hc with hc | hc
 · exact w1e _ _ hc
 · exact w1e _ _ hc
theorem X3a (t:Tag) (l:List Ivl):Tame (.sl t (Z0q l)):= .sl fun e he=>by
 simp only [Z0q,List.mem_map] at he
 obtain⟨x,_,rfl⟩:=he
 exact .agg (y2e x)
theorem G3v (t:Tag) (l:List (List Ivl)):Tame (.sl t (encM l)):= .sl fun e he=>by
 simp only [encM,List.mem_map] at he
 obtain⟨x,_,rfl⟩:=he
 exact X3a _ x
theorem Z3r (w:List UInt64):Wordy (.sl .no (encW w)):= .sl _ fun j hj=>by
 have hj':j<w.length:=by simpa [encW] using hj
 exact⟨_,⟨_,.inl rfl⟩,by simp only [encW,List.getD_eq_getElem?_getD,List.getElem?_map,List.getElem?_eq_getElem hj'];rfl⟩
theorem K2i (x:Nm): ∀c∈encN x,Wordy c:=fun c hc=>by
 simp only [encN,List.mem_cons,List.not_mem_nil,or_false] at hc
 rcases hc with rfl | rfl | rfl
 · exact .sc _
 · exact .sc _
 · exact Z3r _
end Go.Pv
end
section
/-Lists of exact values,and lists of such lists. -/
namespace Go.Pv
open Go.Proofs
def J0s (l:List Vl):List PV:=l.map fun c=>(.agg (encV c))
@[go_sem] theorem Q1e (l:List Vl):(J0s l).length=l.length:=by simp [J0s]
@[go_sem] theorem z3t :J0s []= []:=(rfl)
@[go_sem] theorem y3f (l:List Vl):(J0s l).all (fun x=>x.cells.length==3)=true:=by simp [J0s,PV.cells,encV]
@[go_sem] theorem y3g (l:List Vl):(J0s l).all (fun x=>(x.cells.length==3)&&x.cells.all PV.cellOK)=true:=by simp [J0s,PV.cells,PV.cellOK,Value.oneCell',encV]
@[go_sem] theorem Y3y (l:List Vl) (n:Nat):(J0s l).take n=J0s (l.take n):=by simp [J0s]
@[go_sem] theorem U3a (l:List Vl) (n:Nat):(J0s l).drop n=J0s (l.drop n):=by simp [J0s]
@[go_sem] theorem z3v (l m:List Vl):J0s l++J0s m=J0s (l++m):=by simp [J0s]
@[go_sem] theorem Y3z (l:List Vl) (c:Vl):J0s l++ [.agg (encV c)]=J0s (l++ [c]):=by simp [J0s]
theorem J1w (l:List Vl) (n:Nat) (h:n<l.length):(J0s l).getD n .junk= .agg (encV (l.getD n default)):=by
 simp [J0s,List.getD_eq_getElem?_getD,h]
@[go_sem] theorem z3u (l:List Vl) (i:Nat) (cs:List PV):(J0s l).map (PV.frz i cs)=J0s l:=by
 simp only [J0s,List.map_map]
 exact List.map_congr_left fun a _=>rfl
def X0t (l:List (List Vl)):List PV:=l.map fun c=>(.sl .no (J0s c))
@[go_sem] theorem Q3t (l:List (List Vl)):(X0t l).length=l.length:=by simp [X0t]
@[go_sem] theorem z3w :X0t []= []:=(rfl)
@[go_sem] theorem y3h (l:List (List Vl)):(X0t l).all (fun x=>x.cells.length==1)=true:=by simp [X0t,PV.cells]
@[go_sem] theorem y3i (l:List (List Vl)):(X0t l).all (fun x=>(x.cells.length==1)&&x.cells.all PV.cellOK)=true:=by simp [X0t,PV.cells,PV.cellOK,Value.oneCell']
@[go_sem] theorem U3b (l:List (List Vl)) (n:Nat):(X0t l).take n=X0t (l.take n):=by simp [X0t]
@[go_sem] theorem U3d (l:List (List Vl)) (n:Nat):(X0t l).drop n=X0t (l.drop n):=by simp [X0t]
@[go_sem] theorem z3z (l m:List (List Vl)):X0t l++X0t m=X0t (l++m):=by simp [X0t]
@[go_sem] theorem U3c (l:List (List Vl)) (c:(List Vl)):X0t l++ [.sl .no (J0s c)]=X0t (l++ [c]):=by simp [X0t]
theorem z1m (l:List (List Vl)) (n:Nat) (h:n<l.length):(X0t l).getD n .junk= .sl .no (J0s (l.getD n [])):=by
 simp [X0t,List.getD_eq_getElem?_getD,h]
@[go_sem] theorem z3y (l:List (List Vl)) (i:Nat) (cs:List PV):(X0t l).map (PV.frz i cs)=X0t l:=by
 simp only [X0t,List.map_map]
 exact List.map_congr_left fun a _=>rfl
@[go_sem] theorem z3x (l:List (List Vl)) (a b:Nat):(X0t l).all (PV.lim a b)=true:=by
 simp [X0t,PV.lim,PV.lim1]
@[go_sem] theorem y3j (l:List (List Vl)):fzOK (X0t l)=true:=by
 simp [X0t,fzOK,PV.closed2,PV.closed1]
@[go_sem] theorem Q3u (l:List (List Vl)):(X0t l).map PV.forget2=X0t l:=by
 simp only [X0t,List.map_map]
 exact List.map_congr_left fun a _=>rfl
@[go_sem] theorem Q3v (l:List (List Vl)):(X0t l).all PV.closed2=true:=by
 simp [X0t,PV.closed2,PV.closed1]
theorem v1d (l:List Vl): ∀i,i<(J0s l).length→((J0s l).getD i .junk).cells.length=3:=fun i hi=>by
 rw [Q1e] at hi
 rw [J1w l i hi];rfl
@[go_sem] theorem Q3h (l:List Vl):(flat (J0s l)).length=l.length*3:=by rw [J0p (v1d l),Q1e]
theorem k0t {l:List Vl} {p:PV} (h:p∈flat (J0s l)): ∃x:Vl,p∈encV x:=by
 obtain⟨y,hy,hp⟩:=Y1z h
 obtain⟨x,_,rfl⟩:=List.mem_map.1 hy
 exact⟨x,hp⟩
@[go_sem] theorem Q3i (l:List Vl):(flat (J0s l)).map PV.forget2=flat (J0s l):=G0r fun p hp=>by
 obtain⟨x,hx⟩:=k0t hp
 simp [encV] at hx
 rcases hx with rfl | rfl | rfl<;>rfl
@[go_sem] theorem Y3s (l:List Vl) (i sz:Nat) (cs:List PV):(flat (J0s l)).map (PV.frzN i sz cs)=flat (J0s l):=G0r fun p hp=>by
 obtain⟨x,hx⟩:=k0t hp
 simp [encV] at hx
 rcases hx with rfl | rfl | rfl<;>rfl
@[go_sem] theorem w3s (l:List Vl):fzOK (flat (J0s l))=true:=by
 unfold fzOK
 rw [List.all_eq_true]
 intro p hp
 obtain⟨x,hx⟩:=k0t hp
 simp [encV] at hx
 rcases hx with rfl | rfl | rfl<;>rfl
@[go_sem] theorem z3i (l:List Vl) (a b:Nat):(flat (J0s l)).all (PV.lim a b)=true:=by
 rw [List.all_eq_true]
 intro p hp
 obtain⟨x,hx⟩:=k0t hp
 simp [encV] at hx
 rcases hx with rfl | rfl | rfl<;>rfl
end Go.Pv
end
section
/-Values of one form that stand for a number;lists of them. No program in it. -/
namespace Go.Pv
def RV (x:Rat) (v:Vl):Prop:=canV v∧qV v=x
theorem RV.zero :RV 0 ⟨false,0,0⟩:=⟨.inr rfl,by decide+kernel⟩
theorem RV.plus {x y:Rat} {u v:Vl} (h:RV x u) (h':RV y v):RV (x+y) (q0m u v):=⟨z0l h.1 h'.1,by rw [V0k,h.2,h'.2]⟩
theorem RV.by {x y:Rat} {u v:Vl} (h:RV x u) (h':RV y v):RV (x*y) (byV u v):=⟨G1b h.1 h'.1,by rw [H0m,h.2,h'.2]⟩
theorem RV.whole (n:Nat):RV (n:Rat) (oddV false n 0):=⟨q0c _ _ _,w1y n⟩
theorem RV.num {x:Nm} (h:Q0h x=true):RV (qN x) (ofN x):=⟨X0g h,Z0g x⟩
theorem RV.sm {x:Rat} {v:Vl} (h:RV x v) {L U:Nat} (hl:luQ L U x) (hb:L+U≤1000000):smV v:=by
 rw [←h.2] at hl
 have:=Y2u h.1 hl
 exact⟨by have:=this.1;omega,by have:=this.2.1;omega,by have:=this.2.2;omega⟩
end Go.Pv
end
section
/-Slices that lie in the store and are appended to:the block is an object of the store,its room is known. -/
namespace Go.Pv
theorem FSRep.store_new {E:Ent} {a:Act} {w:World} {g:Gh} {F:Fr} {s:PFS} (h:FSRep E a w g F s) (ty:TypeId) (vs:Array Value) (X:List PV) (hl:X.length≤vs.size)
 (hr: ∀j,j<X.length→Rep w g (vs.getD j undef) (X.getD j .junk)):
 ∃g',FSRep E a (w.alloc (.cells vs ty)) g' F { s with st:=s.st++ [X] } ∧g'.mu s.st.length=w.heap.size∧s.st.length<g'.n:=by
 obtain⟨k,hz⟩:=v0w w g (.cells vs ty) 0 h.store.none
 obtain⟨h1,hm1⟩:=h.still k rfl hz
 let g1:Gh:= { g with vis:=fun b=>if b=w.heap.size then 0 else g.vis b }
 let g':Gh:= { g1 with n:=g.n+1,mu:=fun k=>if k=g.n then w.heap.size else g.mu k }
 have hmu: ∀k,k<g.n→g'.mu k=g.mu k:=fun k hk=>if_neg (by omega)
 have hmun:g'.mu g.n=w.heap.size:=if_pos rfl
 have hLe:Le (w.alloc (.cells vs ty)) g1 (w.alloc (.cells vs ty)) g':=⟨Nat.le_succ _,hmu,fun _=>Nat.le_refl _,fun _ _ _ _ hc=>hc⟩
 have htok:y0s (w.alloc (.cells vs ty)) g1 F s.T (w.alloc (.cells vs ty)) g' F s.T:=⟨Nat.le_refl _,fun k hk=>⟨Nat.le_refl _,fun _ v es hR=>hR.mono fun b hb=>⟨rfl,rfl⟩⟩⟩
 have hm: ∀v p,RepF (w.alloc (.cells vs ty)) g1 F s.T v p→RepF (w.alloc (.cells vs ty)) g' F s.T v p:=fun v p hr=>hr.mono hLe (Nat.le_refl _) (fun _ _=>rfl) htok
 have en:s.st.length=g.n:=h.store.n.symm
 have hst0: ∀j,j<g.n→(s.st++ [X]).getD j []=s.st.getD j []:=fun j hj=>by
  rw [List.getD_eq_getElem?_getD,List.getElem?_append_left (by omega),←List.getD_eq_getElem?_getD]
 have hst1:(s.st++ [X]).getD g.n []=X:=by
  rw [List.getD_eq_getElem?_getD,List.getElem?_append_right (by omega),←en];simp
 have hsz:(w.alloc (.cells vs ty)).heap.size=w.heap.size+1:=by simp
 have hlt: ∀j,j<g.n→g.mu j<w.heap.size:=fun j hj=>h.store.lt j hj
 have hst:StoreOK (w.alloc (.cells vs ty)) g' (s.st++ [X]):=by
  refine⟨by simp [g',h.store.n],fun j k hj hk e=> ?_,fun j hj=> ?_,fun j hj hj0=> ?_,fun j hj=> ?_,hz,h1.store.tab⟩
  · have hj:j<g.n+1:=hj
    have hk:k<g.n+1:=hk
    by_cases e1:j=g.n
    · by_cases e2:k=g.n
      · omega
      · rw [e1,hmun,hmu k (by omega)] at e
        have:=hlt k (by omega);omega
    · by_cases e2:k=g.n
      · rw [e2,hmun,hmu j (by omega)] at e
        have:=hlt j (by omega);omega
      · rw [hmu j (by omega),hmu k (by omega)] at e
        exact h.store.inj j k (by omega) (by omega) e
  · have hj:j<g.n+1:=hj
    by_cases e1:j=g.n
    · rw [e1,hmun,hsz];omega
    · rw [hmu j (by omega),hsz];have:=hlt j (by omega);omega
  · have hj:j<g.n+1:=hj
    by_cases e1:j=g.n
    · rw [e1,hmun];exact if_pos rfl
    · rw [hmu j (by omega)]
      rw [hst0 j (by omega)] at hj0
      exact h1.store.vis j (show j<g.n by omega) hj0
  · have hj:j<g.n+1:=hj
    by_cases e1:j=g.n
    · subst e1
      rw [hmun,hst1]
      intro k2 hk2
      refine⟨World.frozen?_alloc_new w vs ty k2,vs.getD k2 undef,?_,?_⟩
      · rw [World.cell?_alloc_new,Array.getD_eq_getD_getElem?,Array.getElem?_eq_getElem (by omega)];rfl
      · exact((hr k2 hk2).mono k.le).mono hLe
    · rw [hmu j (by omega),hst0 j (by omega)]
      exact(h1.store.holds j (show j<g.n by omega)).mono rfl fun v p hr=>hr.mono hLe
 have hext:Ext E.w E.g (w.alloc (.cells vs ty)) g':=by
  refine⟨h1.ext.le.trans hLe,h1.ext.os,h1.ext.tape,h1.ext.output,h1.ext.size,h1.ext.old,fun j q1 q2=> ?_⟩
  have q2:j<g.n+1:=q2
  by_cases e1:j=g.n
  · rw [e1,hmun];exact h.ext.size
  · rw [hmu j (by omega)];exact h.ext.new j q1 (by omega)
 refine⟨g',⟨hext,hst,⟨h.frame.nl,fun k hk=>h1.frame.lo k hk,fun k hk j hj=> ?_,fun k j hk hj=>h.frame.inj k j hk hj,fun k hk=>(h1.frame.holds k hk).mono rfl hm,h1.frame.tlo,fun k b hk hb=>⟨fun j hj=> ?_,fun j hj=>(h.frame.tapart k b hk hb).2 j hj⟩,h.frame.tinj⟩,h.defers,h.len,fun t ht=>hm _ _ (h1.tmps t ht)⟩,by rw [en];exact hmun,by rw [en];exact Nat.lt_succ_self _⟩
 · have hj:j<g.n+1:=hj
   by_cases e1:j=g.n
   · rw [e1,hmun];have:=(h.frame.lo k hk).2.1;omega
   · rw [hmu j (by omega)];exact h.frame.apart k hk j (by omega)
 · have hj:j<g.n+1:=hj
   by_cases e1:j=g.n
   · rw [e1,hmun];have:=(h.frame.tlo k b hk hb).2.1;omega
   · rw [hmu j (by omega)];exact(h.frame.tapart k b hk hb).1 j (by omega)
def GrowOK (cs:List PV) (len cap:Nat) (ys:List PV) (e:EI):Prop:=
 e.zok=true∧0<e.sz∧cs.length=cap*e.sz∧len+ys.length≤1152921504606846976∧(len+ys.length)*e.by_≤140737488355328∧
  ys.all (fun x=>(x.cells.length==e.sz)&&x.cells.all PV.cellOK)=true∧0<ys.length
def GrowTo (st:Q0d) (j len cap:Nat) (ys:List PV) (sz j' cap':Nat) (st':Q0d):Prop:=
 (len+ys.length≤cap∧j'=j∧cap'=cap∧st'=st.set j (over (st.getD j []) (len*sz) (flat ys)))∨
 (cap<len+ys.length∧len+ys.length≤cap'∧j'=st.length∧ ∃R,R.length=(cap'-(len+ys.length))*sz∧st'=st++ [(st.getD j []).take (len*sz)++(flat ys++R)])
section
variable {P:Program} {E:Ent} {a:Act} {w:World} {g:Gh} {F:Fr} {s:PFS} {t tx e':TypeId} {e:EI}
theorem Q2m (hu:P.underlying t=some (.slice e.id)) (hei:ei P e.id=some e) (hu2:P.underlying tx=some (.slice e')) {ys cs:List PV} {x:Value} {ty:TypeId} {len cap:Nat} {base:Option Addr} {olds:List Value}
 (h:FSRep E a w g F s) (hx:Rep w g x (.sl .no ys)) (c1:e.zok=true) (c2:len+ys.length≤1152921504606846976) (c3:(len+ys.length)*e.by_≤140737488355328)
 (c5:ys.all (fun x=>(x.cells.length==e.sz)&&x.cells.all PV.cellOK)=true) (hcap:cap<len+ys.length) (hol:olds.length=len*e.sz) (hcl:len*e.sz≤cs.length)
 (hold:(Builtin.firstCells e.sz len (.slice base len cap)).run P w.drew= .ok olds.toArray w.drew) (hr: ∀m,m<len*e.sz→Rep w g (olds.getD m undef) (cs.getD m .junk)):
 ∃cap' R,len+ys.length≤cap'∧R.length=(cap'-(len+ys.length))*e.sz∧
  Does P E a w (do pure (.value (←Builtin.append_ #[t,tx] ty #[.slice base len cap,x]))) (.gr s.st.length (len+ys.length) cap') { s with st:=s.st++ [cs.take (len*e.sz)++(flat ys++R)] } :=by
 obtain⟨news,hs⟩:=q0q (P:=P) hu2 hx c5
 obtain⟨ti,u,hi,hu',he⟩:=W0l hei
 have e1:ti.size=e.sz:=by rw [he]
 have e2:ti.bytes=e.by_:=by rw [he]
 obtain⟨z,hz,hzs⟩: ∃z,ti.zero=some z∧z.cells.size=ti.size:=by
  have:=congrArg EI.zok he
  rw [c1] at this
  simp only at this
  split at this
  · rename_i z hz;exact⟨z,hz,by simpa using this.symm⟩
  · cases this
 have hfl:=J0p hs.each
 have hnl:news.length=ys.length*e.sz:=hs.src.newsLen
 have hs0:=hs
 rw [←e1] at hs hold
 have hrun:=run_append_grow_src (P:=P) w t tx ty e.id ti z hu hi hz base len cap olds hold x ys.length news hs.src hcap (by omega) (growslice_fits hcap (by rw [e2];exact c3))
 generalize hvs:(olds++news).toArray++Builtin.zeroCells z.cells (grownCap w (len+ys.length) cap e.id-(len+ys.length))=vs at hrun
 have hge:=grownCap_ge w (len+ys.length) cap e.id
 generalize grownCap w (len+ys.length) cap e.id=C at*
 obtain⟨d1,d2⟩:=h.drew
 have dle:=(Z1c w g).le
 have hvsz:vs.size=C*e.sz:=by
  rw [←hvs,Array.size_append,size_zeroCells,hzs,e1]
  simp only [List.size_toArray,List.length_append,hol,hnl,←Nat.add_mul]
  congr 1
  omega
 let R:=List.replicate ((C-(len+ys.length))*e.sz) PV.junk
 have hlenX:(cs.take (len*e.sz)).length=len*e.sz:=by
  rw [List.length_take];omega
 have hX:(cs.take (len*e.sz)++(flat ys++R)).length=C*e.sz:=by
  rw [List.length_append,List.length_append,hlenX,hfl,List.length_replicate,←Nat.add_mul,←Nat.add_mul]
  congr 1;omega
 obtain⟨g',f1,f2,f3⟩:=d1.store_new e.id vs (cs.take (len*e.sz)++(flat ys++R)) (by omega) (fun m hm=>by
  by_cases h1:m<len*e.sz
  · have hlo:m<(olds++news).toArray.size:=by simp only [List.size_toArray,List.length_append,hol];omega
    rw [←hvs,Array.getD_append_left' _ _ _ _ hlo,X0m,Q0i _ _ _ _ (by omega),Q0i _ _ _ _ (by omega),G0u _ _ _ _ h1]
    exact(hr m h1).mono dle
  · rw [Q0k _ _ _ _ (by omega),hlenX]
    by_cases h2:m-len*e.sz<(flat ys).length
    · have h3:m-len*e.sz<ys.length*e.sz:=by omega
      have hlo:m<(olds++news).toArray.size:=by simp only [List.size_toArray,List.length_append,hol];omega
      rw [←hvs,Array.getD_append_left' _ _ _ _ hlo,X0m,Q0k _ _ _ _ (by omega),hol,Q0i _ _ _ _ h2,G0w hs0.each _ h3]
      exact(hs0.rep _ h3).mono dle
    · rw [Q0k _ _ _ _ (by omega),Y0x]
      exact .junk _)
 refine⟨C,R,hge,by simp [R],_,_,g',F,by simp only [Sem.run_bind,hrun,Result.andThen_ok,Sem.run_pure];rfl,f1,.inl ⟨_,rfl,?_⟩⟩
 have:=Rep.gr (w:=w.drew.alloc (.cells vs e.id)) (g:=g') s.st.length (len+ys.length) C f3 hge
 rw [f2] at this
 exact .base _ _ this
theorem H2z (hu:P.underlying t=some (.slice e.id)) (hei:ei P e.id=some e) (hu2:P.underlying tx=some (.slice e')) {ys:List PV} {v x:Value} {ty:TypeId} {j len cap:Nat}
 (h:FSRep E a w g F s) (hv:RepF w g F s.T v (.gr j len cap)) (hx:Rep w g x (.sl .no ys)) (hok:GrowOK (s.st.getD j []) len cap ys e):
 ∃j' cap' st',GrowTo s.st j len cap ys e.sz j' cap' st'∧Does P E a w (do pure (.value (←Builtin.append_ #[t,tx] ty #[v,x]))) (.gr j' (len+ys.length) cap') { s with st:=st' } :=by
 obtain⟨c1,c0,cl,c2,c3,c5,c6⟩:=hok
 obtain⟨news,hs⟩:=q0q (P:=P) hu2 hx c5
 obtain⟨ti,u,hi,hu',he⟩:=W0l hei
 have e1:ti.size=e.sz:=by rw [he]
 have hfl:=J0p hs.each
 have hnl:news.length=ys.length*e.sz:=hs.src.newsLen
 have hs0:=hs
 rw [←e1] at hs
 obtain⟨hjn,hle,rfl⟩:j<g.n∧len≤cap∧v= .slice (some ⟨g.mu j,0,none⟩) len cap:=by
  cases hv with
  | base _ _ h=>cases h with | gr i len cap hi hcap=>exact⟨hi,hcap,rfl⟩
 have hh:=h.store.holds j hjn
 by_cases hroom:len+ys.length≤cap
 · have hne:s.st.getD j []≠ []:=fun e0=>by
    rw [e0] at cl
    have:=Nat.mul_pos (show 0<cap by omega) c0
    simp at cl;omega
   have hfit:len*e.sz+(flat ys).length≤(s.st.getD j []).length:=by
    rw [hfl,cl,←Nat.add_mul];exact Nat.mul_le_mul_right _ hroom
   have hrun:=run_append_room_src (P:=P) w t tx ty e.id ti hu hi (g.mu j) 0 len cap x ys.length news hs.src hroom (fun k hk=>by
    obtain⟨_,c,q2,_⟩:=hh (0+len*ti.size+k) (by rw [e1];omega)
    rw [q2];rfl) (fun k hk=>(hh (0+len*ti.size+k) (by rw [e1];omega)).1)
   rw [e1,Nat.zero_add] at hrun
   have f1:=h.storeG h.ext.le.n j (len*e.sz) news (flat ys) (by rw [hnl,hfl]) hjn hne hfit (fun k hk=>by
    have hk':k<ys.length*e.sz:=by omega
    rw [G0w hs0.each k hk']
    exact hs0.rep k hk')
   exact⟨j,cap,_,.inl ⟨hroom,rfl,rfl,rfl⟩,_,_,g,F,by simp only [Sem.run_bind,hrun,Result.andThen_ok,Sem.run_pure],f1,.inl ⟨_,rfl,.base _ _ (.gr j _ cap hjn hroom)⟩⟩
 · obtain⟨cf,hcf⟩:=hh.pick
   have hle2:len*e.sz≤(s.st.getD j []).length:=by rw [cl];exact Nat.mul_le_mul_right _ hle
   obtain⟨cap',R,q1,q2,q3⟩:=Q2m (ty:=ty) (cs:=s.st.getD j []) (base:=some ⟨g.mu j,0,none⟩) (olds:=(List.range (len*e.sz)).map cf) hu hei hu2 h hx c1 c2 c3 c5 (by omega) (by simp) hle2
    (run_firstCells_some w.drew e.sz len ⟨g.mu j,0,none⟩ len cap _ (by simp) (fun k u hk=>by
     rw [Addr.add_mid,World.cell?_drew,Nat.zero_add]
     have hk':k<len*e.sz:=by
      have:=(List.getElem?_eq_some_iff.1 hk).1
      simpa using this
     rw [(hcf k (by omega)).1]
     simp [List.getElem?_range hk'] at hk
     rw [hk]))
    (fun m hm=>by
     have e0:((List.range (len*e.sz)).map cf).getD m undef=cf m:=by simp [List.getD_eq_getElem?_getD,hm]
     rw [e0];exact(hcf m (by omega)).2)
   exact⟨s.st.length,cap',_,.inr ⟨by omega,q1,rfl,R,q2,rfl⟩,q3⟩
theorem K2a (hu:P.underlying t=some (.slice e.id)) (hei:ei P e.id=some e) (hu2:P.underlying tx=some (.slice e')) {ys:List PV} {v x:Value} {ty:TypeId}
 (h:FSRep E a w g F s) (hv:RepF w g F s.T v (.sl .full [])) (hx:Rep w g x (.sl .no ys)) (hok:GrowOK [] 0 0 ys e):
 ∃cap' R,ys.length≤cap'∧R.length=(cap'-ys.length)*e.sz∧Does P E a w (do pure (.value (←Builtin.append_ #[t,tx] ty #[v,x]))) (.gr s.st.length ys.length cap') { s with st:=s.st++ [flat ys++R] } :=by
 obtain⟨c1,c0,cl,c2,c3,c5,c6⟩:=hok
 obtain⟨ad,rfl⟩:=Q2p hv
 rw [Nat.zero_add] at c2 c3
 obtain⟨cap',R,q1,q2,q3⟩:=Q2m (ty:=ty) (cs:= []) (base:=ad) (len:=0) (cap:=0) (olds:= []) hu hei hu2 h hx c1 (by omega) (by rw [Nat.zero_add];exact c3) c5 (by omega) (by simp) (by simp)
  (by cases ad with
   | none=>exact run_firstCells_none _ _ _ _ _
   | some a=>simp [Builtin.firstCells,loadCells,loadCellsFrom])
  (fun m hm=>by simp at hm)
 rw [Nat.zero_add] at q1 q2 q3
 rw [Nat.zero_mul,List.take_zero,List.nil_append] at q3
 exact⟨cap',R,q1,q2,q3⟩
end
def W3u (T U:Option TI) (x y:PV) (s:PFS) (K:PV→PFS→Prop):Prop:=
 match T,U,x,y with
 | some ⟨_,_,.slice e,_⟩,some ⟨_,_,.slice _,_⟩,.gr j len cap,.sl _ ys=>GrowOK (s.st.getD j []) len cap ys e∧ ∀j' cap' st',GrowTo s.st j len cap ys e.sz j' cap' st'→K (.gr j' (len+ys.length) cap') { s with st:=st' }
 | some ⟨_,_,.slice e,_⟩,some ⟨_,_,.slice _,_⟩,.sl .full [],.sl _ ys=>GrowOK [] 0 0 ys e∧ ∀cap' R,ys.length≤cap'→R.length=(cap'-ys.length)*e.sz→K (.gr s.st.length ys.length cap') { s with st:=s.st++ [flat ys++R] }
 | _,_,_,_=>False
def PGr0 (P:Program) (o:Oper) (K:PFS→Prop) (s:PFS):Prop:=
 match o.op with
 | .call { callee:= .builtin .append,args,argTypes } =>
  match argTypes.toList,args.toList with
  | [t,u],[x,y]=>W3u (ti P t) (ti P u) (s.ev x) (s.ev y) s (fun p s'=>K (s'.put o.dst p))
  | _,_=>False
 | _=>False
theorem K2d {P:Program} {E:Ent} {a:Act} {w:World} {g:Gh} {F:Fr} {s:PFS} {o:Oper} {K:PFS→Prop} (h:FSRep E a w g F s) (hp:PGr0 P o K s) {next:Act→World→Prop} {Q:Exit→Act→World→Prop}
 (hn: ∀a' w' g' F' s',FSRep E a' w' g' F' s'→K s'→next a' w'):o.wp P a w next Q:=by
 unfold PGr0 at hp
 split at hp
 rotate_left
 · exact hp.elim
 rename_i args ts heq
 split at hp
 rotate_left
 · exact hp.elim
 rename_i t u o1 o2 hts hargs
 have ha:args= #[o1,o2]:=by rw [←hargs]
 have ht:ts= #[t,u]:=by rw [←hts]
 have hex: ∀nx w',(do pure (Next.value (←Builtin.append_ #[t,u] o.type (Array.map a.eval #[o1,o2]))):Sem Next).run P w= .ok nx w'→(execOp a.eval o).run P w= .ok nx w':=fun nx w' r1=>by
  subst ha ht
  unfold execOp
  simp only [heq,resolve,invoke,Sem.run_bind,Sem.run_pure,Result.andThen_ok]
  show(do pure (Next.value (←Builtin.append_ #[t,u] o.type (Array.map a.eval #[o1,o2]))):Sem Next).run P w=_
  exact r1
 unfold W3u at hp
 split at hp
 · rename_i e _ _ _ e2 _ j len cap tg ys hT hU h1 h2
   obtain⟨c1,hk⟩:=hp
   obtain⟨_,_,_,hu,hT'⟩:=Q0z hT
   obtain⟨rfl,hei⟩:=Z0p (congrArg TI.ud hT').symm
   obtain⟨_,_,_,hu2,hU'⟩:=Q0z hU
   obtain⟨rfl,_⟩:=Z0p (congrArg TI.ud hU').symm
   have hv:=h.ev o1
   rw [h1] at hv
   have hx:=h.ev o2
   rw [h2] at hx
   obtain⟨j',cap',st',hg,nx,w',g',F',r1,r2,r3⟩:=H2z (P:=P) (ty:=o.type) hu hei hu2 h hv hx.slNo c1
   unfold Oper.wp
   rw [hex nx w' (by rw [←r1];simp)]
   rcases r3 with ⟨v,rfl,hv⟩ | ⟨rfl,hj⟩
   · exact hn _ _ _ _ _ (r2.put o.dst hv) (hk j' cap' st' hg)
   · cases hj
 · rename_i e _ _ _ e2 _ tg ys hT hU h1 h2
   obtain⟨c1,hk⟩:=hp
   obtain⟨_,_,_,hu,hT'⟩:=Q0z hT
   obtain⟨rfl,hei⟩:=Z0p (congrArg TI.ud hT').symm
   obtain⟨_,_,_,hu2,hU'⟩:=Q0z hU
   obtain⟨rfl,_⟩:=Z0p (congrArg TI.ud hU').symm
   have hv:=h.ev o1
   rw [h1] at hv
   have hx:=h.ev o2
   rw [h2] at hx
   obtain⟨cap',R,hc1,hc2,nx,w',g',F',r1,r2,r3⟩:=K2a (P:=P) (ty:=o.type) hu hei hu2 h hv hx.slNo c1
   unfold Oper.wp
   rw [hex nx w' (by rw [←r1];simp)]
   rcases r3 with ⟨v,rfl,hv⟩ | ⟨rfl,hj⟩
   · exact hn _ _ _ _ _ (r2.put o.dst hv) (hk cap' R hc1 hc2)
   · cases hj
 · exact hp.elim
theorem k3j {P:Program} {o:Oper} {K:PFS→Prop} {s:PFS} (hp:PGr0 P o K s): ∀c,o.op≠ .defer c:=by
 intro c hc
 unfold PGr0 at hp
 rw [hc] at hp
 exact hp
theorem q2m {P:Program} {E:Ent} {a:Act} {w:World} {g:Gh} {F:Fr} {s:PFS} {o:Oper} {K:PFS→Prop} (h:FSRep E a w g F s) (hp:PGr0 P o K s) {next:Act→World→Prop} {Q:Exit→Act→World→Prop}
 (hn: ∀a' w' g' F' s',FSRep E a' w' g' F' s'→K s'→next a' w'):o.wpIn (fen E.rd) 0 P a w next Q:=
 K2h E.rd (k3j hp) (K2d h hp hn)
def OLg0 (P:Program) (ops:List Oper):List Bool→List Oper→(PFS→Prop)→PFS→Prop
 | _,[],K,s=>K s
 | [],rest,K,s=>OL0 P ops rest K s
 | true::bs,o::rest,K,s=>o.guard=none∧PGr0 P o (OLg0 P ops bs rest K) s
 | false::bs,o::rest,K,s=>
  match o.guard with
  | none=>OC0 P o (OLg0 P ops bs rest K) s
  | some (j,want)=>GK0 (Z0l ops s j want) want (OC0 P o (OLg0 P ops bs rest K) s) (OLg0 P ops bs rest K (s.put o.dst (.tup [])))
theorem K1j {P:Program} {E:Ent} {ops:Array Oper} {Q:Exit→Act→World→Prop} {K:PFS→Prop} (hK: ∀a' w' g' F' s',FSRep E a' w' g' F' s'→K s'→Q .normal a' w'):
 ∀(bs:List Bool) (rest:List Oper) (a:Act) (w:World) (g:Gh) (F:Fr) (s:PFS),FSRep E a w g F s→OLg0 P ops.toList bs rest K s→wpListIn (fen E.rd) 0 P ops Q rest a w
 | bs,[],a,w,g,F,s,h,hp=>hK a w g F s h (by unfold OLg0 at hp;exact hp)
 | [],o::rest,a,w,g,F,s,h,hp=>w0c hK (o::rest) a w g F s h (Z1e hp)
 | true::bs,o::rest,a,w,g,F,s,h,hp=>by
  obtain⟨hg,hp⟩:=hp
  have ih:=K1j (P:=P) (ops:=ops) hK bs rest
  unfold wpListIn
  rw [if_pos (by simp [Region.wanted,hg])]
  exact q2m h hp fun a' w' g' F' s' hr hk=>ih a' w' g' F' s' hr hk
 | false::bs,o::rest,a,w,g,F,s,h,hp=>by
  have ih:=K1j (P:=P) (ops:=ops) hK bs rest
  unfold OLg0 at hp
  unfold wpListIn
  cases hg:o.guard with
  | none=>
   rw [hg] at hp
   rw [if_pos (by simp [Region.wanted,hg])]
   exact U0y h (U0z hp) fun a' w' g' F' s' hr hk=>ih a' w' g' F' s' hr hk
  | some x=>
   obtain⟨j,want⟩:=x
   rw [hg] at hp
   simp only at hp
   cases hb:Z0l ops.toList s j want with
   | none=>rw [hb] at hp;exact hp.elim
   | some b=>
    rw [hb] at hp
    obtain⟨h1,h2⟩:=hp
    have hy:=H0x h hb
    by_cases e:b=want
    · have hx:=h1 e
      subst e
      rw [if_pos (by unfold Region.wanted;rw [hg];simp only;rw [hy];simp)]
      exact U0y h (U0z hx) fun a' w' g' F' s' hr hk=>ih a' w' g' F' s' hr hk
    · rw [if_neg (by unfold Region.wanted;rw [hg];simp only;rw [hy];simp [e])]
      exact⟨z0c,ih _ w g F _ (h.put o.dst (.base _ _ (k0h _ _))) (h2 e)⟩
def OLg (P:Program) (ops:List Oper) (bs:List Bool) (rest:List Oper) (K:PFS→Prop) [Stop ops] [Stop rest] [Stop K] (s:PFS):Prop:=OLg0 P ops bs rest K s
def PGr (P:Program) (o:Oper) (K:PFS→Prop) [Stop o] [Stop K] (s:PFS):Prop:=PGr0 P o K s
theorem k0n {P:Program} {E:Ent} {id:Nat} {l:List Oper} {Q:Exit→PFS→Prop} {s:PFS} (bs:List Bool) (h:OLg P l bs l (Q .normal) s):PWP P E (.region id l.toArray false) Q s:=fun a w g F hr=>
 wpIn_region_list (K1j (fun a' w' g' F' s' hr' hk=>⟨g',F',s',hr',hk⟩) bs l a w g F s hr h)
section
variable {P:Program} {s:PFS} {K:PFS→Prop} {d:Option Tmp} {ty:TypeId} {pos:String} {af:Array Edge} {pa:List PV} {L st:Q0d} {T:List (Nat×Nat)}
@[go_sem] theorem Y4c {ops:List Oper} {bs:List Bool} :OLg P ops bs [] K s=K s:=by cases bs<;>rfl
@[go_sem] theorem Y4d {ops rest:List Oper} :OLg P ops [] rest K s=OL P ops rest K s:=by cases rest<;>rfl
@[go_sem] theorem G4g {ops rest:List Oper} {bs:List Bool} {op:Op} :OLg P ops (true::bs) (⟨d,op,ty,pos,af,none⟩::rest) K s=PGr P ⟨d,op,ty,pos,af,none⟩ (OLg P ops bs rest K) s:=by
 show((none:Option (Nat×Bool))=none∧_)=_
 simp only [true_and];rfl
@[go_sem] theorem G4h {ops rest:List Oper} {bs:List Bool} {op:Op} :OLg P ops (false::bs) (⟨d,op,ty,pos,af,none⟩::rest) K s=OC P ⟨d,op,ty,pos,af,none⟩ (OLg P ops bs rest K) s:=(rfl)
@[go_sem] theorem U4i {ops rest:List Oper} {bs:List Bool} {op:Op} {j:Nat} {want:Bool} :OLg P ops (false::bs) (⟨d,op,ty,pos,af,some (j,want)⟩::rest) K s=
 GK (Z0l ops s j want) want (OC P ⟨d,op,ty,pos,af,some (j,want)⟩ (OLg P ops bs rest K) s) (OLg P ops bs rest K (s.put d (.tup []))):=rfl
def q2a (T U:Option TI) (x y:PV) (s:PFS) (K:PV→PFS→Prop) [Stop K]:Prop:=W3u T U x y s K
@[go_sem] theorem W4n {x y:Operand} {t u:TypeId} :PGr P ⟨d,.call ⟨.builtin .append,[x,y].toArray,[t,u].toArray⟩,ty,pos,af,none⟩ K s=q2a (ti P t) (ti P u) (s.ev x) (s.ev y) s (fun p s'=>K (s'.put d p)):=(rfl)
@[go_sem] theorem k3b {e e':EI} {x1 y1:Bool} {x2 y2:Nat} {x4 y4:Option Value} {t:Tag} {j len cap:Nat} {ys:List PV} {K:PV→PFS→Prop} :q2a (some ⟨x1,x2,.slice e,x4⟩) (some ⟨y1,y2,.slice e',y4⟩) (.gr j len cap) (.sl t ys) (PFS.mk pa L T st) K=
 (GrowOK (st.getD j []) len cap ys e∧ ∀j' cap' st',GrowTo st j len cap ys e.sz j' cap' st'→K (.gr j' (len+ys.length) cap') (PFS.mk pa L T st')):=(rfl)
@[go_sem] theorem G3c {e e':EI} {x1 y1:Bool} {x2 y2:Nat} {x4 y4:Option Value} {t:Tag} {ys:List PV} {K:PV→PFS→Prop} :q2a (some ⟨x1,x2,.slice e,x4⟩) (some ⟨y1,y2,.slice e',y4⟩) (.sl .full []) (.sl t ys) (PFS.mk pa L T st) K=
 (GrowOK [] 0 0 ys e∧ ∀cap' R,ys.length≤cap'→R.length=(cap'-ys.length)*e.sz→K (.gr st.length ys.length cap') (PFS.mk pa L T (st++ [flat ys++R]))):=(rfl)
@[go_sem] theorem Q4q {i n c:Nat} :(PV.gr i n c).cells= [.gr i n c]:=(rfl)
@[go_sem] theorem X4p {i n c:Nat} {st':Q0d} :(PFS.mk pa L T st).recv d (.gr i n c) st'=(PFS.mk pa L T st').put d (.gr i n c):=(rfl)
@[go_sem] theorem J4y {i n c:Nat} {l:List PV} :fzOK (.gr i n c::l)=fzOK l:=by simp [fzOK,PV.closed2,PV.closed1]
@[go_sem] theorem J4m {i k n c:Nat} :PV.kill i (.gr k n c)= .gr k n c:=(rfl)
@[go_sem] theorem v3t {i k n c:Nat} :PV.kill1 i (.gr k n c)= .gr k n c:=(rfl)
@[go_sem] theorem K4n {i k n c:Nat} {cs:List PV} :PV.frzG i cs (.gr k n c)= .gr k n c:=(rfl)
@[go_sem] theorem w3m {i k n c:Nat} {cs:List PV} :PV.frzG1 i cs (.gr k n c)= .gr k n c:=(rfl)
end
end Go.Pv
end
section
/-Statements whose order is drawn,in which marked operations append to slices that lie in the store. -/
namespace Go.Pv
section
variable {P:Program} {ops:Array Oper} {o:Oper} {K K':PFS→Prop} {s:PFS} {m:Bool} {M:List Bool}
def PDm (P:Program) (ops:Array Oper) (m:Bool) (o:Oper) (K:PFS→Prop) (s:PFS):Prop:=if m=true then(o.guard=none∧PGr0 P o K s) else POg P ops o K s
def POx (P:Program) (ops:Array Oper) (M:List Bool) (i:Nat) (K:PFS→Prop) (s:PFS):Prop:=
 match ops[i]? with
 | none=>False
 | some o=>PDm P ops (M.getD i false) o K s
def PAx (P:Program) (ops:Array Oper) (M:List Bool) (K:PFS→Prop):Nat→Array Bool→PFS→Prop
 | 0,listed,s=>Region.ready .any ops listed= []∧K s
 | fuel+1,listed,s=>
  (Region.ready .any ops listed= []→K s)∧
  ∀i∈Region.ready .any ops listed,POx P ops M i (fun s'=>(v0c ops i=true→G0g P ops listed i s')∧PAx P ops M K fuel (listed.setIfInBounds i true) s') s
def OSx0 (P:Program) (ops:List Oper) (m:Bool) (o:Option Oper) (K:PFS→Prop) (s:PFS):Prop:=match o with | some o=>(match m with | true=>o.guard=none∧PGr0 P o K s | false=>OG P ops o K s) | none=>False
def OWx (P:Program) (ops:List Oper) (M:List Bool):Plan→(PFS→Prop)→PFS→Prop
 | .done,K,s=>K s
 | .step i ws rest,K,s=>OSx0 P ops (M.getD i false) (ops[i]?) (fun s'=>WL0 P ops ws s'∧OWx P ops M rest K s') s
 | .alt a b,K,s=>OWx P ops M a K s∧OWx P ops M b K s
end
section
variable {P:Program} {s:PFS} {K:PFS→Prop} {d:Option Tmp} {ty:TypeId} {pos:String} {af:Array Edge} {M:List Bool}
def OX (P:Program) (ops:List Oper) (M:List Bool) (p:Plan) (K:PFS→Prop) [Stop ops] [Stop p] [Stop K] (s:PFS):Prop:=OWx P ops M p K s
def OSX (P:Program) (ops:List Oper) (m:Bool) (o:Option Oper) (K:PFS→Prop) [Stop ops] [Stop K] (s:PFS):Prop:=OSx0 P ops m o K s
@[go_sem] theorem W4p {ops:List Oper} :OX P ops M .done K s=K s:=(rfl)
@[go_sem] theorem W4o {ops:List Oper} {i:Nat} {rest:Plan} :OX P ops M (.step i [] rest) K s=OSX P ops (M.getD i false) (ops[i]?) (OX P ops M rest K) s:=by
 simp only [OX,OWx,OSX,WL0,true_and];rfl
@[go_sem] theorem Z4k {ops:List Oper} {i k:Nat} {ws:List Nat} {rest:Plan} :OX P ops M (.step i (k::ws) rest) K s=OSX P ops (M.getD i false) (ops[i]?) (fun s'=>WL P ops (k::ws) s'∧OX P ops M rest K s') s:=(rfl)
@[go_sem] theorem U4b {ops:List Oper} {a b:Plan} :OX P ops M (.alt a b) K s=(OX P ops M a K s∧OX P ops M b K s):=(rfl)
@[go_sem] theorem Z4n {ops:List Oper} {op:Op} :OSX P ops false (some ⟨d,op,ty,pos,af,none⟩) K s=OC P ⟨d,op,ty,pos,af,none⟩ K s:=(rfl)
@[go_sem] theorem Z4m {ops:List Oper} {op:Op} {j:Nat} {want:Bool} :OSX P ops false (some ⟨d,op,ty,pos,af,some (j,want)⟩) K s=GK (Z0l ops s j want) want (OC P ⟨d,op,ty,pos,af,some (j,want)⟩ K s) (K (s.put d (.tup []))):=(rfl)
@[go_sem] theorem Z4o {ops:List Oper} {op:Op} :OSX P ops true (some ⟨d,op,ty,pos,af,none⟩) K s=PGr P ⟨d,op,ty,pos,af,none⟩ K s:=by
 show((none:Option (Nat×Bool))=none∧_)=_
 simp only [true_and];rfl
end
end Go.Pv
end
section
/-What such an append leaves,fact by fact. -/
namespace Go.Pv
theorem GrowTo.facts {st st':Q0d} {j len cap sz j' cap':Nat} {es ys R:List PV} (h:GrowTo st j len cap ys sz j' cap' st') (hj:j<st.length) (hc:st.getD j []=flat es++R) (he:(flat es).length=len*sz) (hy:(flat ys).length=ys.length*sz)
 (hR:R.length=(cap-len)*sz) (hle:len≤cap):
 ∃R',st'.getD j' []=flat es++(flat ys++R')∧R'.length=(cap'-(len+ys.length))*sz∧len+ys.length≤cap'∧j'<st'.length∧(j'=j∨j'=st.length)∧st.length≤st'.length∧ ∀p,p<st.length→p≠j→st'.getD p []=st.getD p []:=by
 rcases h with ⟨h1,rfl,rfl,rfl⟩ | ⟨h1,h2,rfl,R',h3,rfl⟩
 · refine⟨R.drop (ys.length*sz),?_,?_,h1,by simpa using hj,.inl rfl,by simp,fun p hp hne=>Q0q _ _ _ _ _ (fun e=>hne e.symm)⟩
   · rw [Q0u _ _ _ _ hj,hc]
     unfold over
     rw [←he,List.take_left,List.drop_append,List.drop_eq_nil_of_le (by omega),List.nil_append,hy,show(flat es).length+ys.length*sz-(flat es).length=ys.length*sz from by omega,List.append_assoc]
   · rw [List.length_drop,hR,←Nat.sub_mul];congr 1;omega
 · refine⟨R',?_,h3,h2,by simp,.inr rfl,by simp,fun p hp hne=>Q0i _ _ _ _ hp⟩
   rw [Q0k _ _ _ _ (Nat.le_refl _),Nat.sub_self,List.getD_cons_zero,hc,←he,List.take_left]
theorem GrowOK.mk_one {cs:List PV} {len cap:Nat} {y:PV} {id:TypeId} {sz by_:Nat} {x y' z:Bool} (hz:(⟨id,sz,by_,x,y',z⟩:EI).zok=true) (h0:0<sz) (hc:cs.length=cap*sz) (hl:len≤100000) (hb:by_≤100000) (hy:y.cells.length=sz) (hok:y.cells.all PV.cellOK=true):
 GrowOK cs len cap [y] ⟨id,sz,by_,x,y',z⟩:=by
 refine⟨hz,h0,hc,by simp;omega,?_,by simp [hy,hok],by simp⟩
 show(len+ [y].length)*by_≤_
 have:(len+ [y].length)*by_≤100001*100000:=Nat.mul_le_mul (by simp;omega) hb
 omega
end Go.Pv
end
