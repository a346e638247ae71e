/- Parts of the walk: PvAv, PvAw, PvAx. -/
import Derived.Test.YtofoadghajnglaaGreatDoorQBI
import Derived.Test.YtofoadghajnglaaGreatDoorQBQ
import Derived.Test.YtofoadghajnglaaGreatDoorQBD
import Derived.Test.YtofoadghajnglaaGreatDoorQAN
set_option linter.unusedVariables false
set_option linter.unusedSimpArgs false
section
/-Boxes of the frame's own lent for a call:the function sees them,and cannot write them. -/
namespace Go.Pv
def PV.lend1 (L:Q0c):PV→PV
 | .mr j n _=> .sl .no (((L.getD j []).take n).map PV.forget1)
 | p=>p.forget1
def PV.lend2 (L:Q0c):PV→PV
 | .lp i off=> .ep ((L.getD i []).map (PV.lend1 L)) off
 | .mr j n _=> .sl .no (((L.getD j []).take n).map PV.forget1)
 | p=>p.forget2
def PV.notU :PV→Bool
 | .sl _ _ | .mr _ _ _ | .sc (.bool _) | .sc (.int .i64 _)=>true
 | _=>false
def z2m (L:Q0c) (e:List Nat):PV→Prop
 | .mr j n _=>n≤e.getD j 0∧ ∀o,o<n→((L.getD j []).getD o .junk).closed1=true
 | p=>p.closed1=true
def z2l (L:Q0c) (e:List Nat):PV→Prop
 | .lp i _=>(L.getD i []).length≤e.getD i 0∧0<(L.getD i []).length∧ ∀o,o<(L.getD i []).length→z2m L e ((L.getD i []).getD o .junk)
 | .mr j n _=>n≤e.getD j 0∧ ∀o,o<n→((L.getD j []).getD o .junk).closed1=true
 | p=>p.closed2=true
structure LendOK (L:Q0c) (e:List Nat) (xs:List PV):Prop where
 ext: ∀i o,o<e.getD i 0→o<(L.getD i []).length∧((L.getD i []).getD o .junk).notU=true
 args: ∀a∈xs,z2l L e a
 low: ∀a∈xs,Low 0 (a.lend2 L)
def uwV (v:Value):Prop:= ∃x,v= .int .u64 x∨v= .int .u32 x
inductive Wordy :PV→Prop
 | sc (v:Value):Wordy (.sc v)
 | agg (cs:List PV) (h: ∀c∈cs,Wordy c):Wordy (.agg cs)
 | tup (cs:List PV) (h: ∀c∈cs,Wordy c):Wordy (.tup cs)
 | sl (es:List PV) (h: ∀j,j<es.length→ ∃x,uwV x∧es.getD j .junk= .sc x):Wordy (.sl .no es)
theorem Wordy.turn {w:World} {g g':Gh} (hv: ∀b off x,uwV x→off<g.vis b→w.cell? ⟨b,off,none⟩=some x→g'.vis b=g.vis b): ∀ {p:PV},Wordy p→ ∀ {v:Value},Rep w g v p→Rep w g' v p:=by
 intro p hp
 induction hp with
 | sc v=>intro v' h;cases h;exact .sc _
 | agg cs hc ih=>intro v h;cases h with | agg vs _ hl h=>exact .agg vs cs hl fun j hj=>ih _ (Q0m _ _ _ hj) (h j hj)
 | tup cs hc ih=>intro v h;cases h with | tup vs _ hl h=>exact .tup vs cs hl fun j hj=>ih _ (Q0m _ _ _ hj) (h j hj)
 | sl es hes=>
  intro v h
  cases h with
  | nil t ad ht=>exact .nil _ _ rfl
  | sl t es b off sz cap cf ht hfull hcap hsz hvis hc hr=>
   by_cases h0:es= []
   · subst h0
     exact .sl _ [] b off sz cap cf rfl hfull hcap hsz (fun h=>by simp at h) (fun i j hi=>by simp at hi) (fun i j hi=>by simp at hi)
   have hl:0<es.length:=List.length_pos_iff.2 h0
   have hs:sz=1:=by
    have h1:=hsz 0 hl
    obtain⟨x,_,hx⟩:=hes 0 hl
    rw [hx] at h1
    exact h1.symm
   subst hs
   have hvb:g'.vis b=g.vis b:=by
    have h1:=hr 0 0 hl (by omega)
    have h2:=hc 0 0 hl (by omega)
    obtain⟨x,hxw,hx⟩:=hes 0 hl
    rw [hx] at h1
    rw [show cf 0 0=x from Rep.sc_inv h1] at h2
    exact hv b (off+0*1+0) x hxw (by have:=hvis hl;omega) h2
   refine .sl _ es b off 1 cap cf rfl hfull hcap hsz (by rw [hvb];exact hvis) hc fun i j hi hj=> ?_
   have h1:=hr i j hi hj
   have h3:j=0:=by omega
   subst h3
   obtain⟨x,_,hx⟩:=hes i hi
   rw [hx] at h1⊢
   rw [show cf i 0=x from Rep.sc_inv h1]
   exact .sc _
theorem Low.mk {p:PV} (h:Low 0 p) {w:World} {g:Gh} {v:Value} (vis:Nat→Nat) (hv: ∀b,g.vis b≤vis b) (hr:Rep w g v p):Rep w ⟨0,fun _=>0,vis⟩ v p:=
 Rep.mono (w:=w) (g:= { g with n:=0 }) (w':=w) (g':=⟨0,fun _=>0,vis⟩) ⟨Nat.le_refl 0,fun i hi=>absurd hi (Nat.not_lt_zero _),hv,fun _ _ _ _ hc=>hc⟩ (h w g v hr (Nat.zero_le _))
noncomputable def z2k (g:Gh) (F:Fr) (L:Q0c) (e:List Nat) (b:Nat):Nat:=
 open Classical in if h: ∃i,L.getD i []≠ []∧F.lmu i=b∧0<e.getD i 0 then e.getD h.choose 0 else g.vis b
section
variable {P:Program} {E:Ent} {a:Act} {w:World} {g:Gh} {F:Fr} {s:PFS} {e:List Nat}
noncomputable def k3a (g:Gh) (F:Fr) (L:Q0c) (e:List Nat):Gh:=⟨g.n,g.mu,z2k g F L e⟩
theorem Wordy.res {B:Nat} {w:World} {g:Gh} {v:Value} {R:PV} (hw:Wordy R):RepRes B w g v R=Rep w g v R:=by
 cases hw<;>rfl
end
def POl0 (P:Program) (o:Oper) (e:List Nat) (K:PFS→Prop) (s:PFS):Prop:=
 match X0e o.op s.ev with
 | some (f,xs)=>Q0d P f=true∧LendOK s.L e xs∧ ∃R,Wordy R∧PCalls P f (xs.map (PV.lend2 s.L)) [] (fun r st'=>r=R∧st'= [])∧K (s.recv o.dst R s.st)
 | none=>False
section
variable {P:Program} {E:Ent} {a:Act} {w:World} {g:Gh} {F:Fr} {s:PFS} {e:List Nat}
end
def OLl0 (P:Program) (ops:List Oper) (e:List Nat):List Bool→List Oper→(PFS→Prop)→PFS→Prop
 | _,[],K,s=>K s
 | [],rest,K,s=>OL0 P ops rest K s
 | true::bs,o::rest,K,s=>o.guard=none∧POl0 P o e (OLl0 P ops e bs rest K) s
 | false::bs,o::rest,K,s=>o.guard=none∧OC0 P o (OLl0 P ops e bs rest K) s
def OLl (P:Program) (ops:List Oper) (e:List Nat) (bs:List Bool) (rest:List Oper) (K:PFS→Prop) [Stop ops] [Stop rest] [Stop K] (s:PFS):Prop:=OLl0 P ops e bs rest K s
def LC0 (P:Program) (e:List Nat) (fv:PV) (xs:List PV) (s:PFS) (K:PV→Prop):Prop:=
 match fv with
 | .fn (.func f) bs cs=>Q0d P f=true∧LendOK s.L e (bs++xs++cs)∧ ∃R,Wordy R∧PCalls P f ((bs++xs++cs).map (PV.lend2 s.L)) [] (fun r st'=>r=R∧st'= [])∧K R
 | _=>False
def LC (P:Program) (e:List Nat) (fv:PV) (xs:List PV) (s:PFS) (K:PV→Prop) [Stop K]:Prop:=LC0 P e fv xs s K
section
variable {P:Program} {s:PFS} {K:PFS→Prop} {d:Option Tmp} {ty:TypeId} {pos:String} {af:Array Edge} {e:List Nat}
@[go_sem] theorem x3j {ops:List Oper} {bs:List Bool} :OLl P ops e bs [] K s=K s:=by cases bs<;>rfl
@[go_sem] theorem x3k {ops rest:List Oper} :OLl P ops e [] rest K s=OL P ops rest K s:=by cases rest<;>rfl
@[go_sem] theorem k3p {ops rest:List Oper} {bs:List Bool} {op:Op} :OLl P ops e (false::bs) (⟨d,op,ty,pos,af,none⟩::rest) K s=OC P ⟨d,op,ty,pos,af,none⟩ (OLl P ops e bs rest K) s:=by
 show((none:Option (Nat×Bool))=none∧_)=_
 simp only [true_and];rfl
theorem J3d {ops rest:List Oper} {bs:List Bool} {f:Operand} {xs:List Operand} {ts:Array TypeId} :OLl P ops e (true::bs) (⟨d,.call ⟨.value f,xs.toArray,ts⟩,ty,pos,af,none⟩::rest) K s=LC0 P e (s.ev f) (xs.map s.ev) s (fun R=>OLl P ops e bs rest K (s.recv d R s.st)):=by
 show((none:Option (Nat×Bool))=none∧_)=_
 simp only [true_and]
 unfold POl0 LC0 X0e
 simp only
 cases s.ev f with
 | fn g bs cs=>cases g<;>rfl
 | _=>rfl
@[go_sem] theorem k3o {ops rest:List Oper} {bs:List Bool} {f:Operand} {xs:List Operand} {ts:Array TypeId} :OLl P ops e (true::bs) (⟨d,.call ⟨.value f,xs.toArray,ts⟩,ty,pos,af,none⟩::rest) K s=LC P e (s.ev f) (xs.map s.ev) s (fun R=>OLl P ops e bs rest K (s.recv d R s.st)):=J3d
end
end Go.Pv
end
section
/-A literal that keeps a slice without room;a box's cell with known room;statements in which such literals and appends to slices with known room stand. -/
namespace Go.Pv
section
variable {P:Program} {E:Ent} {a:Act} {w:World} {g:Gh} {F:Fr} {s:PFS}
end
def POk0 (P:Program) (o:Oper) (K:PFS→Prop) (s:PFS):Prop:=
 match o.op with
 | .buildSlice t 1 parts=>
  match parts.toList with
  | [(0,x)]=>match ti P t,s.ev x with
   | some ⟨_,_,.slice e,_⟩,.sl .full es=>(e.sz=1∧e.zok=true)∧K (s.put o.dst (.sl .full [.sl .full es]))
   | _,_=>False
  | _=>False
 | _=>False
section
variable {P:Program} {E:Ent} {a:Act} {w:World} {g:Gh} {F:Fr} {s:PFS}
end
inductive Mk where
 | no | room | keep
def OLk0 (P:Program) (ops:List Oper):List Mk→List Oper→(PFS→Prop)→PFS→Prop
 | _,[],K,s=>K s
 | [],rest,K,s=>OL0 P ops rest K s
 | .room::bs,o::rest,K,s=>o.guard=none∧POr0 P o (OLk0 P ops bs rest K) s
 | .keep::bs,o::rest,K,s=>o.guard=none∧POk0 P o (OLk0 P ops bs rest K) s
 | .no::bs,o::rest,K,s=>o.guard=none∧OC0 P o (OLk0 P ops bs rest K) s
def OLk (P:Program) (ops:List Oper) (bs:List Mk) (rest:List Oper) (K:PFS→Prop) [Stop ops] [Stop rest] [Stop K] (s:PFS):Prop:=OLk0 P ops bs rest K s
def y1c (T:Option TI) (x:PV) (K:PV→Prop) [Stop K]:Prop:=
 match T,x with
 | some ⟨_,_,.slice e,_⟩,.sl .full es=>(e.sz=1∧e.zok=true)∧K (.sl .full [.sl .full es])
 | _,_=>False
section
variable {P:Program} {s:PFS} {K:PFS→Prop} {d:Option Tmp} {ty:TypeId} {pos:String} {af:Array Edge}
@[go_sem] theorem x3l {ops:List Oper} {bs:List Mk} :OLk P ops bs [] K s=K s:=by
 cases bs with
 | nil=>rfl
 | cons b bs=>cases b<;>rfl
@[go_sem] theorem x3m {ops rest:List Oper} :OLk P ops [] rest K s=OL P ops rest K s:=by cases rest<;>rfl
@[go_sem] theorem j3s {ops rest:List Oper} {bs:List Mk} {op:Op} :OLk P ops (.no::bs) (⟨d,op,ty,pos,af,none⟩::rest) K s=OC P ⟨d,op,ty,pos,af,none⟩ (OLk P ops bs rest K) s:=by
 show((none:Option (Nat×Bool))=none∧_)=_
 simp only [true_and];rfl
@[go_sem] theorem U3b {ops rest:List Oper} {bs:List Mk} {op:Op} :OLk P ops (.room::bs) (⟨d,op,ty,pos,af,none⟩::rest) K s=POr P ⟨d,op,ty,pos,af,none⟩ (OLk P ops bs rest K) s:=by
 show((none:Option (Nat×Bool))=none∧_)=_
 simp only [true_and];rfl
@[go_sem] theorem U3c {ops rest:List Oper} {bs:List Mk} {t:TypeId} {x:Operand} :OLk P ops (.keep::bs) (⟨d,.buildSlice t 1 [(0,x)].toArray,ty,pos,af,none⟩::rest) K s=y1c (ti P t) (s.ev x) (fun p=>OLk P ops bs rest K (s.put d p)):=by
 show((none:Option (Nat×Bool))=none∧POk0 P _ _ s)=_
 simp only [true_and]
 unfold POk0 y1c
 simp only
 rfl
@[go_sem] theorem y2y {e:EI} {x1:Bool} {x2:Nat} {x4:Option Value} {es:List PV} {K:PV→Prop} :y1c (some ⟨x1,x2,.slice e,x4⟩) (.sl .full es) K=((e.sz=1∧e.zok=true)∧K (.sl .full [.sl .full es])):=(rfl)
end
end Go.Pv
end
section
/-Plain values:scalars,aggregates,slices of such. -/
namespace Go.Pv
inductive Tame :PV→Prop
 | sc (v:Value):Tame (.sc v)
 | agg {cs:List PV} (h: ∀c∈cs,Tame c):Tame (.agg cs)
 | sl {t:Tag} {es:List PV} (h: ∀e∈es,Tame e):Tame (.sl t es)
theorem Tame.low {p:PV} (h:Tame p) (n:Nat):Low n p∧ ∀c∈p.cells,Low n c:=by
 induction h with
 | sc v=>exact⟨U2q n v,fun c hc=>by rw [List.mem_singleton.1 hc];exact U2q n v⟩
 | agg h ih=>exact⟨z2g fun c hc=>(ih c hc).1,fun c hc=>(ih c hc).1⟩
 | @sl t es h ih=>
  have:=y2t (n:=n) (t:=t) fun e he c hc=>(ih e he).2 c hc
  exact⟨this,fun c hc=>by rw [List.mem_singleton.1 hc];exact this⟩
theorem j1u (t:Tag) (w:List UInt64):Tame (.sl t (encW w)):= .sl fun e he=>by
 simp only [encW,List.mem_map] at he
 obtain⟨x,_,rfl⟩:=he
 exact .sc _
theorem G1d (x:Nm): ∀c∈encN x,Tame c:=fun c hc=>by
 simp only [encN,List.mem_cons,List.not_mem_nil,or_false] at hc
 rcases hc with rfl | rfl | rfl
 · exact .sc _
 · exact .sc _
 · exact j1u _ _
theorem U2a (x:Ivl): ∀c∈encI x,Tame c:=fun c hc=>by
 have hc:c∈encN x.lo++encN x.hi:=hc
 rcases List.mem_append.1 hc with hc | hc
 · exact G1d _ _ hc
 · exact G1d _ _ hc
theorem H2m (t:Tag) (l:List Ivl):Tame (.sl t (Z0e l)):= .sl fun e he=>by
 simp only [Z0e,List.mem_map] at he
 obtain⟨x,_,rfl⟩:=he
 exact .agg (U2a x)
theorem w2m (t:Tag) (l:List (List Ivl)):Tame (.sl t (encM l)):= .sl fun e he=>by
 simp only [encM,List.mem_map] at he
 obtain⟨x,_,rfl⟩:=he
 exact H2m _ x
theorem H2d (w:List UInt64):Wordy (.sl .no (encW w)):= .sl _ fun j hj=>by
 have hj':j<w.length:=by simpa [encW] using hj
 exact⟨_,⟨_,.inl rfl⟩,by simp only [encW,List.getD_eq_getElem?_getD,List.getElem?_map,List.getElem?_eq_getElem hj'];rfl⟩
theorem j1j (x:Nm): ∀c∈encN x,Wordy c:=fun c hc=>by
 simp only [encN,List.mem_cons,List.not_mem_nil,or_false] at hc
 rcases hc with rfl | rfl | rfl
 · exact .sc _
 · exact .sc _
 · exact H2d _
end Go.Pv
end
