/- Parts of the walk: PvAu, N78, PvAv, PvAw, PvAx. -/
import Derived.Test.YthichlfphjbadaaGreatZBD
import Derived.Test.YthichlfphjbadaaGreatZBI
import Derived.Test.YthichlfphjbadaaGreatZAN
import Derived.Test.YthichlfphjbadaaGreatZBN
import Derived.Test.YthichlfphjbadaaGreatZBV
set_option linter.unusedVariables false
set_option linter.unusedSimpArgs false
section
/-A slice of larger elements that is handed back to be written:an object of the store,which becomes a plain slice again. -/
namespace Go.Pv
theorem J2p {E:Ent} (s:PFS) (t i len cap:Nat) (ht:s.pa.getD t .junk= .mr i len cap) (hl:0<len):Weak E s { s with pa:=s.pa.set t (.ms false i 0 len) } :=by
 intro a w g F h
 refine⟨g,F,h.ext,h.store,h.frame,h.defers,by simp [h.len],fun k hk=> ?_⟩
 simp only [List.length_set] at hk⊢
 by_cases e:t=k
 · subst e
   rw [Q0n _ _ _ _ hk]
   have:=h.tmps t hk
   rw [ht] at this
   generalize a.tmps.getD t undef=v at this⊢
   cases this with
   | base _ _ h'=>cases h'
   | lmr _ _ _ hi hcap=>exact .lms i 0 len cap hi hcap
   | lmr0 _ _ _=>omega
 · rw [Q0i _ _ _ _ _ e]
   exact h.tmps k hk
theorem z2c {P:Program} {E:Ent} {c:Code} {Q:Exit→PFS→Prop} {s:PFS} (t i len cap:Nat) (ht:s.pa.getD t .junk= .mr i len cap) (hl:0<len) (h:PWP P E c Q { s with pa:=s.pa.set t (.ms false i 0 len) }):PWP P E c Q s:=J0v (J2p s t i len cap ht hl) h
def PV.frzH1 (k sz:Nat) (cs:List PV):PV→PV
 | .ms true k' off len=>if k'=k∧off+len*sz≤cs.length then .sl .no (W0n sz len (cs.drop off)) else .ms true k' off len
 | p=>p
def PV.frzH (k sz:Nat) (cs:List PV):PV→PV
 | .agg l=> .agg (l.map (PV.frzH1 k sz cs))
 | .tup l=> .tup (l.map (PV.frzH1 k sz cs))
 | .fn f l m=> .fn f (l.map (PV.frzH1 k sz cs)) (m.map (PV.frzH1 k sz cs))
 | p=>p.frzH1 k sz cs
structure SolidH (w:World) (g':Gh) (k sz:Nat) (cs:List PV):Prop where
 sl: ∀v off len,k<g'.n→Rep w g' v (.ms true k off len)→off+len*sz≤cs.length→Rep w g' v (.sl .no (W0n sz len (cs.drop off)))
section
variable {w:World} {g g':Gh} {F:Fr} {T:List (Nat×Nat)} {k sz:Nat} {cs:List PV}
theorem RepF.frzH1 {v:Value} {p:PV} (hk:k<g'.n) (hm: ∀v p,RepF w g F T v p→RepF w g' F T v p) (hz:SolidH w g' k sz cs) (h:RepF w g F T v p):RepF w g' F T v (p.frzH1 k sz cs):=by
 have h':=hm _ _ h
 cases p with
 | ms gl k' off len=>
  cases gl with
  | false=>exact h'
  | true=>
   simp only [PV.frzH1]
   split
   · rename_i e
     obtain⟨rfl,hle⟩:=e
     cases h' with
     | base _ _ h'=>exact .base _ _ (hz.sl _ _ _ hk h' hle)
   · exact h'
 | _=>exact h'
theorem RepF.frzH {v:Value} {p:PV} (hk:k<g'.n) (hm: ∀v p,RepF w g F T v p→RepF w g' F T v p) (hz:SolidH w g' k sz cs) (h:RepF w g F T v p):RepF w g' F T v (p.frzH k sz cs):=by
 have gm: ∀(l:List PV) (j:Nat),(l.map (PV.frzH1 k sz cs)).getD j .junk=(l.getD j .junk).frzH1 k sz cs:=fun l j=>Q0u rfl l j
 cases p with
 | agg l=>
  cases h with
  | base _ _ h=>
   cases h with
   | agg vs cs' hl h=>exact .agg vs _ (by simpa using hl) fun j hj=>by rw [gm];exact RepF.frzH1 hk hm hz (.base _ _ (h j (by simpa using hj)))
  | agg vs cs' hl h=>exact .agg vs _ (by simpa using hl) fun j hj=>by rw [gm];exact RepF.frzH1 hk hm hz (h j (by simpa using hj))
 | tup l=>
  cases h with
  | base _ _ h=>
   cases h with
   | tup vs cs' hl h=>exact .tup vs _ (by simpa using hl) fun j hj=>by rw [gm];exact RepF.frzH1 hk hm hz (.base _ _ (h j (by simpa using hj)))
  | tup vs cs' hl h=>exact .tup vs _ (by simpa using hl) fun j hj=>by rw [gm];exact RepF.frzH1 hk hm hz (h j (by simpa using hj))
 | fn f l m=>
  cases h with
  | base _ _ h=>
   cases h with
   | fn f us vs bs cs' hk' hl h0 h=>
    exact .fn f us vs _ _ (by simpa using hk') (by simpa using hl) (fun j hj=>by rw [gm];exact RepF.frzH1 hk hm hz (.base _ _ (h0 j (by simpa using hj)))) fun j hj=>by rw [gm];exact RepF.frzH1 hk hm hz (.base _ _ (h j (by simpa using hj)))
  | fn f us vs bs cs' hk' hl h0 h=>
   exact .fn f us vs _ _ (by simpa using hk') (by simpa using hl) (fun j hj=>by rw [gm];exact RepF.frzH1 hk hm hz (h0 j (by simpa using hj))) fun j hj=>by rw [gm];exact RepF.frzH1 hk hm hz (h j (by simpa using hj))
 | _=>exact RepF.frzH1 hk hm hz h
end
def PFS.freezeH (k sz:Nat) (s:PFS):PFS:=⟨s.pa.map (PV.frzH k sz (s.st.getD k [])),s.L.map fun l=>l.map (PV.frzH k sz (s.st.getD k [])),s.T,s.st.set k []⟩
section
variable {k sz:Nat} {cs:List PV}
@[go_sem] theorem V3p {k sz:Nat} {pa:List PV} {L st:Q0g} {T:List (Nat×Nat)} :(PFS.mk pa L T st).freezeH k sz=⟨pa.map (PV.frzH k sz (st.getD k [])),L.map fun l=>l.map (PV.frzH k sz (st.getD k [])),T,st.set k []⟩:=(rfl)
@[go_sem] theorem G3r :PV.frzH k sz cs .junk= .junk:=(rfl)
@[go_sem] theorem Q4x {v:Value} :PV.frzH k sz cs (.sc v)=(.sc v):=(rfl)
@[go_sem] theorem Q4z {i o:Nat} :PV.frzH k sz cs (.lp i o)=(.lp i o):=(rfl)
@[go_sem] theorem Z4a {i o:Nat} :PV.frzH k sz cs (.gp i o)=(.gp i o):=(rfl)
@[go_sem] theorem Q4w {t:Tag} {es:List PV} :PV.frzH k sz cs (.sl t es)=(.sl t es):=(rfl)
@[go_sem] theorem Z4b {es:List PV} {o:Nat} :PV.frzH k sz cs (.ep es o)=(.ep es o):=(rfl)
@[go_sem] theorem j3e {i o n:Nat} :PV.frzH k sz cs (.ms false i o n)=(.ms false i o n):=(rfl)
@[go_sem] theorem Q4y {i n c:Nat} :PV.frzH k sz cs (.mr i n c)=(.mr i n c):=(rfl)
@[go_sem] theorem j3f {l:List PV} :PV.frzH k sz cs (.agg l)= .agg (l.map (PV.frzH1 k sz cs)):=(rfl)
@[go_sem] theorem j3d {l:List PV} :PV.frzH k sz cs (.tup l)= .tup (l.map (PV.frzH1 k sz cs)):=(rfl)
@[go_sem] theorem V3m :PV.frzH1 k sz cs .junk= .junk:=(rfl)
@[go_sem] theorem j3h {v:Value} :PV.frzH1 k sz cs (.sc v)=(.sc v):=(rfl)
@[go_sem] theorem j3g {t:Tag} {es:List PV} :PV.frzH1 k sz cs (.sl t es)=(.sl t es):=(rfl)
end
end Go.Pv
end
section
/-Small numbers,intervals,boxes,fields out of the deck,more narrowly. -/
set_option maxRecDepth 100000
namespace Go.Pv
open Go.Proofs
def tN (x:Nm):Prop:=smN x∧luQ 6 8 (qN x)
def tI (a:Ivl):Prop:=smI a∧luI 6 8 a
theorem Q3m {neg:Bool} {w:List UInt64} {e:Int} (hw:Q0j (valW w)≤6) (h1: -6≤e) (h2:e≤2):tN (U0e neg w e).1:=by
 refine⟨v1p hw h1 (by omega),?_⟩
 unfold U0e
 split
 · show luQ 6 8 (qN default);rw [G0o];exact H0u _ _
 · split
   · show luQ 6 8 (qN default);rw [G0o];exact H0u _ _
   · have hb:=K1b (neg:=neg) (m:=valW w) (e:=e) (n:=6) (k:=6) hw (by omega) (by omega)
     have hf:=v0h hb (by omega) (by omega)
     rw [(J0f (q0c _ _ _) hf).2,v0d]
     have hm:=bitlen_le_iff.1 hw
     have hz: ∃z:Int,(if neg then -(valW w:Int) else(valW w:Int))=z∧z.natAbs<2^6:=⟨_,rfl,by split<;>omega⟩
     obtain⟨z,hz,hz2⟩:=hz
     rw [hz]
     obtain⟨d,hd⟩: ∃d:Nat,e= -6+d:=⟨(e+6).toNat,by omega⟩
     have hd8:d≤8:=by omega
     refine⟨z*2^d,?_,?_⟩
     · rw [W0m,hd];rfl
     · rw [Int.natAbs_mul,Int.natAbs_pow,show 6+8=14 from rfl,show(2:Nat)^14=2^6*2^8 from rfl]
       exact Nat.mul_le_mul (Nat.le_of_lt hz2) (Nat.pow_le_pow_right (by decide) hd8)
def K4k (n:Nat) (D:Int) (m:Mn):Prop:=okKs n D m.ks∧tN m.c
end Go.Pv
end
section
/-Boxes of the frame's own lent for a call:the function sees them,and cannot write them. -/
namespace Go.Pv
def PV.lend1 (L:Q0g):PV→PV
 | .mr j n _=> .sl .no (((L.getD j []).take n).map PV.forget1)
 | p=>p.forget1
def PV.lend2 (L:Q0g):PV→PV
 | .lp i off=> .ep ((L.getD i []).map (PV.lend1 L)) off
 | .mr j n _=> .sl .no (((L.getD j []).take n).map PV.forget1)
 | p=>p.forget2
def PV.notU :PV→Bool
 | .sl _ _ | .mr _ _ _ | .sc (.bool _) | .sc (.int .i64 _)=>true
 | _=>false
def X3k (L:Q0g) (e:List Nat):PV→Prop
 | .mr j n _=>n≤e.getD j 0∧ ∀o,o<n→((L.getD j []).getD o .junk).closed1=true
 | p=>p.closed1=true
def X3j (L:Q0g) (e:List Nat):PV→Prop
 | .lp i _=>(L.getD i []).length≤e.getD i 0∧0<(L.getD i []).length∧ ∀o,o<(L.getD i []).length→X3k L e ((L.getD i []).getD o .junk)
 | .mr j n _=>n≤e.getD j 0∧ ∀o,o<n→((L.getD j []).getD o .junk).closed1=true
 | p=>p.closed2=true
structure LendOK (L:Q0g) (e:List Nat) (xs:List PV):Prop where
 ext: ∀i o,o<e.getD i 0→o<(L.getD i []).length∧((L.getD i []).getD o .junk).notU=true
 args: ∀a∈xs,X3j L e a
 low: ∀a∈xs,Low 0 (a.lend2 L)
def uwV (v:Value):Prop:= ∃x,v= .int .u64 x∨v= .int .u32 x
inductive Wordy :PV→Prop
 | sc (v:Value):Wordy (.sc v)
 | agg (cs:List PV) (h: ∀c∈cs,Wordy c):Wordy (.agg cs)
 | tup (cs:List PV) (h: ∀c∈cs,Wordy c):Wordy (.tup cs)
 | sl (es:List PV) (h: ∀j,j<es.length→ ∃x,uwV x∧es.getD j .junk= .sc x):Wordy (.sl .no es)
theorem Wordy.turn {w:World} {g g':Gh} (hv: ∀b off x,uwV x→off<g.vis b→w.cell? ⟨b,off,none⟩=some x→g'.vis b=g.vis b): ∀ {p:PV},Wordy p→ ∀ {v:Value},Rep w g v p→Rep w g' v p:=by
 intro p hp
 induction hp with
 | sc v=>intro v' h;cases h;exact .sc _
 | agg cs hc ih=>intro v h;cases h with | agg vs _ hl h=>exact .agg vs cs hl fun j hj=>ih _ (Q0y _ _ _ hj) (h j hj)
 | tup cs hc ih=>intro v h;cases h with | tup vs _ hl h=>exact .tup vs cs hl fun j hj=>ih _ (Q0y _ _ _ hj) (h j hj)
 | sl es hes=>
  intro v h
  cases h with
  | nil t ad ht=>exact .nil _ _ rfl
  | sl t es b off sz cap cf ht hfull hcap hsz hvis hc hr=>
   by_cases h0:es= []
   · subst h0
     exact .sl _ [] b off sz cap cf rfl hfull hcap hsz (fun h=>by simp at h) (fun i j hi=>by simp at hi) (fun i j hi=>by simp at hi)
   have hl:0<es.length:=List.length_pos_iff.2 h0
   have hs:sz=1:=by
    have h1:=hsz 0 hl
    obtain⟨x,_,hx⟩:=hes 0 hl
    rw [hx] at h1
    exact h1.symm
   subst hs
   have hvb:g'.vis b=g.vis b:=by
    have h1:=hr 0 0 hl (by omega)
    have h2:=hc 0 0 hl (by omega)
    obtain⟨x,hxw,hx⟩:=hes 0 hl
    rw [hx] at h1
    rw [show cf 0 0=x from Rep.sc_inv h1] at h2
    exact hv b (off+0*1+0) x hxw (by have:=hvis hl;omega) h2
   refine .sl _ es b off 1 cap cf rfl hfull hcap hsz (by rw [hvb];exact hvis) hc fun i j hi hj=> ?_
   have h1:=hr i j hi hj
   have h3:j=0:=by omega
   subst h3
   obtain⟨x,_,hx⟩:=hes i hi
   rw [hx] at h1⊢
   rw [show cf i 0=x from Rep.sc_inv h1]
   exact .sc _
theorem Low.mk {p:PV} (h:Low 0 p) {w:World} {g:Gh} {v:Value} (vis:Nat→Nat) (hv: ∀b,g.vis b≤vis b) (hr:Rep w g v p):Rep w ⟨0,fun _=>0,vis⟩ v p:=
 Rep.mono (w:=w) (g:= { g with n:=0 }) (w':=w) (g':=⟨0,fun _=>0,vis⟩) ⟨Nat.le_refl 0,fun i hi=>absurd hi (Nat.not_lt_zero _),hv,fun _ _ _ _ hc=>hc⟩ (h w g v hr (Nat.zero_le _))
noncomputable def X3i (g:Gh) (F:Fr) (L:Q0g) (e:List Nat) (b:Nat):Nat:=
 open Classical in if h: ∃i,L.getD i []≠ []∧F.lmu i=b∧0<e.getD i 0 then e.getD h.choose 0 else g.vis b
section
variable {P:Program} {E:Ent} {a:Act} {w:World} {g:Gh} {F:Fr} {s:PFS} {e:List Nat}
noncomputable def V4v (g:Gh) (F:Fr) (L:Q0g) (e:List Nat):Gh:=⟨g.n,g.mu,X3i g F L e⟩
end
def POl0 (P:Program) (o:Oper) (e:List Nat) (K:PFS→Prop) (s:PFS):Prop:=
 match X0v o.op s.ev with
 | some (f,xs)=>Q0c P f=true∧LendOK s.L e xs∧ ∃R,Wordy R∧PCalls P f (xs.map (PV.lend2 s.L)) [] (fun r st'=>r=R∧st'= [])∧K (s.recv o.dst R s.st)
 | none=>False
section
variable {P:Program} {E:Ent} {a:Act} {w:World} {g:Gh} {F:Fr} {s:PFS} {e:List Nat}
end
def OLl0 (P:Program) (ops:List Oper) (e:List Nat):List Bool→List Oper→(PFS→Prop)→PFS→Prop
 | _,[],K,s=>K s
 | [],rest,K,s=>OL0 P ops rest K s
 | true::bs,o::rest,K,s=>o.guard=none∧POl0 P o e (OLl0 P ops e bs rest K) s
 | false::bs,o::rest,K,s=>o.guard=none∧OC0 P o (OLl0 P ops e bs rest K) s
def OLl (P:Program) (ops:List Oper) (e:List Nat) (bs:List Bool) (rest:List Oper) (K:PFS→Prop) [Stop ops] [Stop rest] [Stop K] (s:PFS):Prop:=OLl0 P ops e bs rest K s
def LC0 (P:Program) (e:List Nat) (fv:PV) (xs:List PV) (s:PFS) (K:PV→Prop):Prop:=
 match fv with
 | .fn (.func f) bs cs=>Q0c P f=true∧LendOK s.L e (bs++xs++cs)∧ ∃R,Wordy R∧PCalls P f ((bs++xs++cs).map (PV.lend2 s.L)) [] (fun r st'=>r=R∧st'= [])∧K R
 | _=>False
def LC (P:Program) (e:List Nat) (fv:PV) (xs:List PV) (s:PFS) (K:PV→Prop) [Stop K]:Prop:=LC0 P e fv xs s K
section
variable {P:Program} {s:PFS} {K:PFS→Prop} {d:Option Tmp} {ty:TypeId} {pos:String} {af:Array Edge} {e:List Nat}
@[go_sem] theorem J4q {ops:List Oper} {bs:List Bool} :OLl P ops e bs [] K s=K s:=by cases bs<;>rfl
@[go_sem] theorem J4r {ops rest:List Oper} :OLl P ops e [] rest K s=OL P ops rest K s:=by cases rest<;>rfl
@[go_sem] theorem W4t {ops rest:List Oper} {bs:List Bool} {op:Op} :OLl P ops e (false::bs) (⟨d,op,ty,pos,af,none⟩::rest) K s=OC P ⟨d,op,ty,pos,af,none⟩ (OLl P ops e bs rest K) s:=by
 show((none:Option (Nat×Bool))=none∧_)=_
 simp only [true_and];rfl
theorem z3p {ops rest:List Oper} {bs:List Bool} {f:Operand} {xs:List Operand} {ts:Array TypeId} :OLl P ops e (true::bs) (⟨d,.call ⟨.value f,xs.toArray,ts⟩,ty,pos,af,none⟩::rest) K s=LC0 P e (s.ev f) (xs.map s.ev) s (fun R=>OLl P ops e bs rest K (s.recv d R s.st)):=by
 show((none:Option (Nat×Bool))=none∧_)=_
 simp only [true_and]
 unfold POl0 LC0 X0v
 simp only
 cases s.ev f with
 | fn g bs cs=>cases g<;>rfl
 | _=>rfl
@[go_sem] theorem W4s {ops rest:List Oper} {bs:List Bool} {f:Operand} {xs:List Operand} {ts:Array TypeId} :OLl P ops e (true::bs) (⟨d,.call ⟨.value f,xs.toArray,ts⟩,ty,pos,af,none⟩::rest) K s=LC P e (s.ev f) (xs.map s.ev) s (fun R=>OLl P ops e bs rest K (s.recv d R s.st)):=z3p
end
end Go.Pv
end
section
/-A literal that keeps a slice without room;a box's cell with known room;statements in which such literals and appends to slices with known room stand. -/
namespace Go.Pv
section
variable {P:Program} {E:Ent} {a:Act} {w:World} {g:Gh} {F:Fr} {s:PFS}
end
def POk0 (P:Program) (o:Oper) (K:PFS→Prop) (s:PFS):Prop:=
 match o.op with
 | .buildSlice t 1 parts=>
  match parts.toList with
  | [(0,x)]=>match ti P t,s.ev x with
   | some ⟨_,_,.slice e,_⟩,.sl .full es=>(e.sz=1∧e.zok=true)∧K (s.put o.dst (.sl .full [.sl .full es]))
   | _,_=>False
  | _=>False
 | _=>False
section
variable {P:Program} {E:Ent} {a:Act} {w:World} {g:Gh} {F:Fr} {s:PFS}
end
inductive Mk where
 | no | room | keep
def OLk0 (P:Program) (ops:List Oper):List Mk→List Oper→(PFS→Prop)→PFS→Prop
 | _,[],K,s=>K s
 | [],rest,K,s=>OL0 P ops rest K s
 | .room::bs,o::rest,K,s=>o.guard=none∧POr0 P o (OLk0 P ops bs rest K) s
 | .keep::bs,o::rest,K,s=>o.guard=none∧POk0 P o (OLk0 P ops bs rest K) s
 | .no::bs,o::rest,K,s=>o.guard=none∧OC0 P o (OLk0 P ops bs rest K) s
def OLk (P:Program) (ops:List Oper) (bs:List Mk) (rest:List Oper) (K:PFS→Prop) [Stop ops] [Stop rest] [Stop K] (s:PFS):Prop:=OLk0 P ops bs rest K s
def Y2m (T:Option TI) (x:PV) (K:PV→Prop) [Stop K]:Prop:=
 match T,x with
 | some ⟨_,_,.slice e,_⟩,.sl .full es=>(e.sz=1∧e.zok=true)∧K (.sl .full [.sl .full es])
 | _,_=>False
section
variable {P:Program} {s:PFS} {K:PFS→Prop} {d:Option Tmp} {ty:TypeId} {pos:String} {af:Array Edge}
@[go_sem] theorem J4s {ops:List Oper} {bs:List Mk} :OLk P ops bs [] K s=K s:=by
 cases bs with
 | nil=>rfl
 | cons b bs=>cases b<;>rfl
@[go_sem] theorem J4t {ops rest:List Oper} :OLk P ops [] rest K s=OL P ops rest K s:=by cases rest<;>rfl
@[go_sem] theorem V4g {ops rest:List Oper} {bs:List Mk} {op:Op} :OLk P ops (.no::bs) (⟨d,op,ty,pos,af,none⟩::rest) K s=OC P ⟨d,op,ty,pos,af,none⟩ (OLk P ops bs rest K) s:=by
 show((none:Option (Nat×Bool))=none∧_)=_
 simp only [true_and];rfl
@[go_sem] theorem w3j {ops rest:List Oper} {bs:List Mk} {op:Op} :OLk P ops (.room::bs) (⟨d,op,ty,pos,af,none⟩::rest) K s=POr P ⟨d,op,ty,pos,af,none⟩ (OLk P ops bs rest K) s:=by
 show((none:Option (Nat×Bool))=none∧_)=_
 simp only [true_and];rfl
@[go_sem] theorem w3k {ops rest:List Oper} {bs:List Mk} {t:TypeId} {x:Operand} :OLk P ops (.keep::bs) (⟨d,.buildSlice t 1 [(0,x)].toArray,ty,pos,af,none⟩::rest) K s=Y2m (ti P t) (s.ev x) (fun p=>OLk P ops bs rest K (s.put d p)):=by
 show((none:Option (Nat×Bool))=none∧POk0 P _ _ s)=_
 simp only [true_and]
 unfold POk0 Y2m
 simp only
 rfl
@[go_sem] theorem G3n {e:EI} {x1:Bool} {x2:Nat} {x4:Option Value} {es:List PV} {K:PV→Prop} :Y2m (some ⟨x1,x2,.slice e,x4⟩) (.sl .full es) K=((e.sz=1∧e.zok=true)∧K (.sl .full [.sl .full es])):=(rfl)
end
end Go.Pv
end
section
/-Plain values:scalars,aggregates,slices of such. -/
namespace Go.Pv
inductive Tame :PV→Prop
 | sc (v:Value):Tame (.sc v)
 | agg {cs:List PV} (h: ∀c∈cs,Tame c):Tame (.agg cs)
 | sl {t:Tag} {es:List PV} (h: ∀e∈es,Tame e):Tame (.sl t es)
theorem Tame.low {p:PV} (h:Tame p) (n:Nat):Low n p∧ ∀c∈p.cells,Low n c:=by
 induction h with
 | sc v=>exact⟨y1f n v,fun c hc=>by rw [List.mem_singleton.1 hc];exact y1f n v⟩
 | agg h ih=>exact⟨X3f fun c hc=>(ih c hc).1,fun c hc=>(ih c hc).1⟩
 | @sl t es h ih=>
  have:=G3f (n:=n) (t:=t) fun e he c hc=>(ih e he).2 c hc
  exact⟨this,fun c hc=>by rw [List.mem_singleton.1 hc];exact this⟩
theorem K2b (t:Tag) (w:List UInt64):Tame (.sl t (encW w)):= .sl fun e he=>by
 simp only [encW,List.mem_map] at he
 obtain⟨x,_,rfl⟩:=he
 exact .sc _
theorem K2d (x:Nm): ∀c∈encN x,Tame c:=fun c hc=>by
 simp only [encN,List.mem_cons,List.not_mem_nil,or_false] at hc
 rcases hc with rfl | rfl | rfl
 · exact .sc _
 · exact .sc _
 · exact K2b _ _
theorem Y3p (x:Ivl): ∀c∈encI x,Tame c:=fun c hc=>by
 have hc:c∈encN x.lo++encN x.hi:=hc
 rcases List.mem_append.1 hc with hc | hc
 · exact K2d _ _ hc
 · exact K2d _ _ hc
theorem K2e (t:Tag) (l:List Ivl):Tame (.sl t (Q0t l)):= .sl fun e he=>by
 simp only [Q0t,List.mem_map] at he
 obtain⟨x,_,rfl⟩:=he
 exact .agg (Y3p x)
end Go.Pv
end
