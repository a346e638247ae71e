/- Parts of the walk: PvAv, PvAw, PvAx. -/
import Derived.Test.YtagacielooaapaaGreatDoorZBX
import Derived.Test.YtagacielooaapaaGreatDoorZBQ
import Derived.Test.YtagacielooaapaaGreatDoorZBD
import Derived.Test.YtagacielooaapaaGreatDoorZAN
set_option linter.unusedVariables false
set_option linter.unusedSimpArgs false
section
/-Boxes of the frame's own lent for a call:the function sees them,and cannot write them. -/
namespace Go.Pv
def PV.lend1 (L:Q0e):PV→PV
 | .mr j n _=> .sl .no (((L.getD j []).take n).map PV.forget1)
 | p=>p.forget1
def PV.lend2 (L:Q0e):PV→PV
 | .lp i off=> .ep ((L.getD i []).map (PV.lend1 L)) off
 | .mr j n _=> .sl .no (((L.getD j []).take n).map PV.forget1)
 | p=>p.forget2
def PV.notU :PV→Bool
 | .sl _ _ | .mr _ _ _ | .sc (.bool _) | .sc (.int .i64 _)=>true
 | _=>false
def H2b (L:Q0e) (e:List Nat):PV→Prop
 | .mr j n _=>n≤e.getD j 0∧ ∀o,o<n→((L.getD j []).getD o .junk).closed1=true
 | p=>p.closed1=true
def H2a (L:Q0e) (e:List Nat):PV→Prop
 | .lp i _=>(L.getD i []).length≤e.getD i 0∧0<(L.getD i []).length∧ ∀o,o<(L.getD i []).length→H2b L e ((L.getD i []).getD o .junk)
 | .mr j n _=>n≤e.getD j 0∧ ∀o,o<n→((L.getD j []).getD o .junk).closed1=true
 | p=>p.closed2=true
structure LendOK (L:Q0e) (e:List Nat) (xs:List PV):Prop where
 ext: ∀i o,o<e.getD i 0→o<(L.getD i []).length∧((L.getD i []).getD o .junk).notU=true
 args: ∀a∈xs,H2a L e a
 low: ∀a∈xs,Low 0 (a.lend2 L)
def K3e (v:Value):Prop:= ∃x,v= .int .u64 x∨v= .int .u32 x
inductive Wordy :PV→Prop
 | sc (v:Value):Wordy (.sc v)
 | agg (cs:List PV) (h: ∀c∈cs,Wordy c):Wordy (.agg cs)
 | tup (cs:List PV) (h: ∀c∈cs,Wordy c):Wordy (.tup cs)
 | sl (es:List PV) (h: ∀j,j<es.length→ ∃x,K3e x∧es.getD j .junk= .sc x):Wordy (.sl .no es)
theorem Wordy.turn {w:World} {g g':Gh} (hv: ∀b off x,K3e x→off<g.vis b→w.cell? ⟨b,off,none⟩=some x→g'.vis b=g.vis b): ∀ {p:PV},Wordy p→ ∀ {v:Value},Rep w g v p→Rep w g' v p:=by
 intro p hp
 induction hp with
 | sc v=>intro v' h;cases h;exact .sc _
 | agg cs hc ih=>intro v h;cases h with | agg vs _ hl h=>exact .agg vs cs hl fun j hj=>ih _ (Q0t _ _ _ hj) (h j hj)
 | tup cs hc ih=>intro v h;cases h with | tup vs _ hl h=>exact .tup vs cs hl fun j hj=>ih _ (Q0t _ _ _ hj) (h j hj)
 | sl es hes=>
  intro v h
  cases h with
  | nil t ad ht=>exact .nil _ _ rfl
  | sl t es b off sz cap cf ht hfull hcap hsz hvis hc hr=>
   by_cases h0:es= []
   · subst h0
     exact .sl _ [] b off sz cap cf rfl hfull hcap hsz (fun h=>by simp at h) (fun i j hi=>by simp at hi) (fun i j hi=>by simp at hi)
   have hl:0<es.length:=List.length_pos_iff.2 h0
   have hs:sz=1:=by
    have h1:=hsz 0 hl
    obtain⟨x,_,hx⟩:=hes 0 hl
    rw [hx] at h1
    exact h1.symm
   subst hs
   have hvb:g'.vis b=g.vis b:=by
    have h1:=hr 0 0 hl (by omega)
    have h2:=hc 0 0 hl (by omega)
    obtain⟨x,hxw,hx⟩:=hes 0 hl
    rw [hx] at h1
    rw [show cf 0 0=x from Rep.sc_inv h1] at h2
    exact hv b (off+0*1+0) x hxw (by have:=hvis hl;omega) h2
   refine .sl _ es b off 1 cap cf rfl hfull hcap hsz (by rw [hvb];exact hvis) hc fun i j hi hj=> ?_
   have h1:=hr i j hi hj
   have h3:j=0:=by omega
   subst h3
   obtain⟨x,_,hx⟩:=hes i hi
   rw [hx] at h1⊢
   rw [show cf i 0=x from Rep.sc_inv h1]
   exact .sc _
theorem W3k {w:World} {g:Gh} {F:Fr} {T:List (Nat×Nat)} {v:Value} {p:PV} (h:RepF w g F T v p) (hp:p.notU=true) {y:Value} (hy:K3e y):v≠y:=by
 intro e
 subst e
 obtain⟨x,rfl | rfl⟩:=hy<;>
 cases h with
 | base _ _ h=>cases h with
  | sc v=>cases hp
  | junk v=>cases hp
 | own k es _ h hk hle hr=>cases h
theorem Low.mk {p:PV} (h:Low 0 p) {w:World} {g:Gh} {v:Value} (vis:Nat→Nat) (hv: ∀b,g.vis b≤vis b) (hr:Rep w g v p):Rep w ⟨0,fun _=>0,vis⟩ v p:=
 Rep.mono (w:=w) (g:= { g with n:=0 }) (w':=w) (g':=⟨0,fun _=>0,vis⟩) ⟨Nat.le_refl 0,fun i hi=>absurd hi (Nat.not_lt_zero _),hv,fun _ _ _ _ hc=>hc⟩ (h w g v hr (Nat.zero_le _))
noncomputable def V0l (g:Gh) (F:Fr) (L:Q0e) (e:List Nat) (b:Nat):Nat:=
 open Classical in if h: ∃i,L.getD i []≠ []∧F.lmu i=b∧0<e.getD i 0 then e.getD h.choose 0 else g.vis b
section
variable {P:Program} {E:Ent} {a:Act} {w:World} {g:Gh} {F:Fr} {s:PFS} {e:List Nat}
theorem K1c (h:FSRep E a w g F s) (i:Nat) (hi:s.L.getD i []≠ []):V0l g F s.L e (F.lmu i)=e.getD i 0:=by
 unfold V0l
 split
 · rename_i hx
   obtain⟨h1,h2,h3⟩:=hx.choose_spec
   rw [h.frame.inj _ _ h1 hi h2]
 · rename_i hx
   rw [(h.frame.lo i hi).2.2]
   by_cases h0:0<e.getD i 0
   · exact absurd ⟨i,hi,rfl,h0⟩ hx
   · omega
theorem Q1p (h:FSRep E a w g F s) (b:Nat):g.vis b≤V0l g F s.L e b:=by
 unfold V0l
 split
 · rename_i hx
   obtain⟨h1,h2,h3⟩:=hx.choose_spec
   have:=(h.frame.lo _ h1).2.2
   rw [h2] at this
   omega
 · exact Nat.le_refl _
theorem w0x (b:Nat) (hb:V0l g F s.L e b≠g.vis b): ∃i,s.L.getD i []≠ []∧F.lmu i=b∧V0l g F s.L e b=e.getD i 0:=by
 unfold V0l at hb⊢
 split
 · rename_i hx
   obtain⟨h1,h2,h3⟩:=hx.choose_spec
   exact⟨_,h1,h2,rfl⟩
 · rename_i hx
   rw [dif_neg hx] at hb
   exact absurd rfl hb
noncomputable def v1v (g:Gh) (F:Fr) (L:Q0e) (e:List Nat):Gh:=⟨g.n,g.mu,V0l g F L e⟩
theorem G1u (h:FSRep E a w g F s):Le w g w (v1v g F s.L e):=⟨Nat.le_refl _,fun _ _=>rfl,Q1p h,fun _ _ _ _ hc=>hc⟩
theorem G2x (h:FSRep E a w g F s) (hx: ∀i o,o<e.getD i 0→o<(s.L.getD i []).length∧((s.L.getD i []).getD o .junk).notU=true) {v:Value} {j n cap:Nat}
 (hr:RepF w g F s.T v (.mr j n cap)) (h1:n≤e.getD j 0) (h2: ∀o,o<n→((s.L.getD j []).getD o .junk).closed1=true):
 Rep w (v1v g F s.L e) v (.sl .no (((s.L.getD j []).take n).map PV.forget1)):=by
 cases hr with
 | base _ _ hr=>cases hr
 | lmr0 i ad hi=>simp only [List.take_zero,List.map_nil];exact .nil _ _ rfl
 | lmr i len cap hi hcap=>
  by_cases h0:n=0
  · subst h0
    simp only [List.take_zero,List.map_nil]
    exact .sl _ [] (F.lmu j) 0 1 cap (fun _ _=>undef) rfl (fun h=>by cases h) hcap (fun i hi=>by simp at hi) (fun h=>by simp at h) (fun i j hi=>by simp at hi) (fun i j hi=>by simp at hi)
  have hlen:=(hx j (n-1) (by omega)).1
  have hne:s.L.getD j []≠ []:=fun h=>by rw [h] at hlen;simp at hlen
  have hh:=h.frame.holds j hne
  have hl:(((s.L.getD j []).take n).map PV.forget1).length=n:=by rw [List.length_map,List.length_take];omega
  have hg: ∀o,o<n→(((s.L.getD j []).take n).map PV.forget1).getD o .junk=((s.L.getD j []).getD o .junk).forget1:=fun o ho=>by
   rw [Z0y _ _ _ _ .junk (by rw [List.length_take];omega),Y0h _ _ _ _ ho]
  have hce: ∀o,o<n→((s.L.getD j []).getD o .junk).forget1.cells= [((s.L.getD j []).getD o .junk).forget1]:=fun o ho=>by
   have:=h2 o ho
   generalize (s.L.getD j []).getD o .junk=p at this⊢
   cases p with
   | agg l=>cases this
   | _=>rfl
  have:=Rep.sl (w:=w) (g:=v1v g F s.L e) .no (((s.L.getD j []).take n).map PV.forget1) (F.lmu j) 0 1 cap (fun o _=>(w.cell? ⟨F.lmu j,o,none⟩).getD undef) rfl (fun h=>by cases h) (by rw [hl];exact hcap)
   (fun i hi=>by rw [hl] at hi;rw [hg i hi,hce i hi];rfl)
   (fun _=>by
    rw [hl]
    show 0+n*1≤V0l g F s.L e (F.lmu j)
    rw [K1c h j hne];omega)
   (fun i k hi hk=>by
    rw [hl] at hi
    obtain⟨_,c,q1,q2⟩:=hh i (by omega)
    have:k=0:=by omega
    subst this
    rw [show 0+i*1+0=i by omega,q1];rfl)
   (fun i k hi hk=>by
    rw [hl] at hi
    obtain⟨_,c,q1,q2⟩:=hh i (by omega)
    have:k=0:=by omega
    subst this
    rw [hg i hi,hce i hi,q1]
    exact((q2.forget1 (h2 i hi)).mono (G1u h)))
  rw [hl] at this
  exact this
theorem G2y (h:FSRep E a w g F s) (hx: ∀i o,o<e.getD i 0→o<(s.L.getD i []).length∧((s.L.getD i []).getD o .junk).notU=true) {v:Value} {p:PV}
 (hr:RepF w g F s.T v p) (hp:H2b s.L e p):Rep w (v1v g F s.L e) v (p.lend1 s.L):=by
 cases p with
 | mr j n cap=>exact G2x h hx hr hp.1 hp.2
 | _=>exact(hr.forget1 hp).mono (G1u h)
theorem w2i (h:FSRep E a w g F s) (hx: ∀i o,o<e.getD i 0→o<(s.L.getD i []).length∧((s.L.getD i []).getD o .junk).notU=true) {v:Value} {p:PV}
 (hr:RepF w g F s.T v p) (hp:H2a s.L e p):Rep w (v1v g F s.L e) v (p.lend2 s.L):=by
 cases p with
 | mr j n cap=>exact G2x h hx hr hp.1 hp.2
 | lp i off=>
  obtain⟨h1,h2,h3⟩:=hp
  have hne:s.L.getD i []≠ []:=fun h=>by rw [h] at h2;simp at h2
  have hh:=h.frame.holds i hne
  cases hr with
  | base _ _ hr=>cases hr
  | lp _ _ hi=>
   have:=Rep.ep (w:=w) (g:=v1v g F s.L e) ((s.L.getD i []).map (PV.lend1 s.L)) off (F.lmu i) 0 (fun o=>(w.cell? ⟨F.lmu i,o,none⟩).getD undef)
    (by
     rw [List.length_map]
     show _≤V0l g F s.L e (F.lmu i)
     rw [K1c h i hne];omega)
    (fun o ho=>by
     rw [List.length_map] at ho
     obtain⟨_,c,q1,q2⟩:=hh o ho
     rw [Nat.zero_add,q1];rfl)
    (fun o ho=>by
     rw [List.length_map] at ho
     obtain⟨_,c,q1,q2⟩:=hh o ho
     rw [Z0y _ _ _ _ .junk ho,q1]
     exact G2y h hx q2 (h3 o ho))
   rw [Nat.zero_add] at this
   exact this
 | _=>exact(hr.forget2 hp).mono (G1u h)
theorem Wordy.res {B:Nat} {w:World} {g:Gh} {v:Value} {R:PV} (hw:Wordy R):RepRes B w g v R=Rep w g v R:=by
 cases hw<;>rfl
theorem G2z (h:FSRep E a w g F s) {f:FuncId} {xs:List PV} {vs:Array Value} {R:PV} (v1:vs.size=xs.length) (v2: ∀j,j<xs.length→RepF w g F s.T (vs.getD j undef) (xs.getD j .junk))
 (ho:LendOK s.L e xs) (hw:Wordy R) (hc:PCalls P f (xs.map (PV.lend2 s.L)) [] (fun r st'=>r=R∧st'= [])):
 Calls P f vs w (fun en w'=> ∃v g',en= .returned v∧Ext w g w' g'∧StoreOK w' g' s.st∧RepRes w.heap.size w' g' v R):=by
 have hs:=h.store
 let g0:Gh:=⟨0,fun _=>0,V0l g F s.L e⟩
 have hnone: ∀b,w.heap.size≤b→V0l g F s.L e b=0:=fun b hb=>by
  by_cases hq:V0l g F s.L e b=g.vis b
  · rw [hq];exact hs.none b hb
  · obtain⟨i,h1,h2,_⟩:=w0x b hq
    have:=(h.frame.lo i h1).2.1
    omega
 have hs0:StoreOK w g0 []:=by
  refine⟨rfl,fun i j hi=>by simp [g0] at hi,fun i hi=>by simp [g0] at hi,fun i hi=>by simp [g0] at hi,fun i hi=>by simp [g0] at hi,hnone,fun t ht=>⟨Nat.le_trans (hs.tab t ht).1 (Q1p h _),(hs.tab t ht).2⟩⟩
 have hr0:Reps w g0 vs (xs.map (PV.lend2 s.L)):=by
  refine⟨by simpa using v1,fun j hj=> ?_⟩
  rw [List.length_map] at hj
  rw [Z0y _ _ _ _ .junk hj]
  have hm:=Q0t xs j PV.junk hj
  exact Low.mk (g:=v1v g F s.L e) (ho.low _ hm) _ (fun _=>Nat.le_refl _) (w2i h ho.ext (v2 j hj) (ho.args _ hm))
 refine(hc w g0 vs hs0 hr0).mono ?_
 rintro en w' ⟨v,g1,r,st1,rfl,hx,hoo,hrr,rfl,rfl⟩
 rw [hw.res] at hrr
 have hold: ∀c,c<w.heap.size→w'.heap[c]?=w.heap[c]?∧g1.vis c=V0l g F s.L e c:=fun c hc=>hx.old c hc (fun i hi=>by simp [g0] at hi)
 let g2:Gh:=⟨g.n,g.mu,fun c=>if c<w.heap.size then g.vis c else g1.vis c⟩
 have hle:Le w g w' g2:=by
  refine⟨Nat.le_refl _,fun _ _=>rfl,fun c=> ?_,fun c o v ho hc=>hx.le.cell c o v (Nat.lt_of_lt_of_le ho (Q1p h c)) hc⟩
  show g.vis c≤if c<w.heap.size then g.vis c else g1.vis c
  split
  · exact Nat.le_refl _
  · rename_i hn;rw [hs.none c (by omega)];exact Nat.zero_le _
 have hext:Ext w g w' g2:=by
  refine⟨hle,hx.os,hx.tape,hx.output,hx.size,fun c hc _=>⟨(hold c hc).1,if_pos hc⟩,fun i h1 h2=> ?_⟩
  have h2':i<g.n:=h2
  omega
 have hst:StoreOK w' g2 s.st:=by
  refine⟨hs.n,hs.inj,fun i hi=>Nat.lt_of_lt_of_le (hs.lt i hi) hx.size,fun i hi h0=> ?_,fun i hi=> ?_,fun c hc=> ?_,hs.tab.mono hle⟩
  · show(if g.mu i<w.heap.size then g.vis (g.mu i) else _)=0
    rw [if_pos (hs.lt i hi)];exact hs.vis i hi h0
  · exact(hs.holds i hi).mono (hold _ (hs.lt i hi)).1 fun v p hp=>hp.mono hle
  · show(if c<w.heap.size then g.vis c else g1.vis c)=0
    have:=hx.size
    rw [if_neg (by omega)];exact hoo.none c hc
 refine⟨v,g2,rfl,hext,hst,?_⟩
 rw [hw.res]
 have:=Wordy.turn (g':=g2) (fun b off x hxw hoff hcell=> ?_) hw hrr
 · exact this
 show(if b<w.heap.size then g.vis b else g1.vis b)=g1.vis b
 split
 · rename_i hb
   obtain⟨q1,q2⟩:=hold b hb
   rw [q2] at hoff⊢
   by_cases hq:V0l g F s.L e b=g.vis b
   · exact hq.symm
   · obtain⟨i,h1,h2,h3⟩:=w0x b hq
     rw [h3] at hoff
     obtain⟨o1,o2⟩:=ho.ext i off hoff
     obtain⟨_,c,c1,c2⟩:=h.frame.holds i h1 off o1
     rw [h2] at c1
     have hcw:w'.cell? ⟨b,off,none⟩=w.cell? ⟨b,off,none⟩:=World.cell?_of_block (w:=w) (w':=w') (a:=⟨b,off,none⟩) q1
     rw [hcw,c1] at hcell
     exact absurd (Option.some.inj hcell) (W3k c2 o2 hxw)
 · rfl
end
def POl0 (P:Program) (o:Oper) (e:List Nat) (K:PFS→Prop) (s:PFS):Prop:=
 match X0m o.op s.ev with
 | some (f,xs)=>Q0c P f=true∧LendOK s.L e xs∧ ∃R,Wordy R∧PCalls P f (xs.map (PV.lend2 s.L)) [] (fun r st'=>r=R∧st'= [])∧K (s.recv o.dst R s.st)
 | none=>False
section
variable {P:Program} {E:Ent} {a:Act} {w:World} {g:Gh} {F:Fr} {s:PFS} {e:List Nat}
theorem W2b {o:Oper} {K:PFS→Prop} (h:FSRep E a w g F s) (hp:POl0 P o e K s) {next:Act→World→Prop} {Q:Exit→Act→World→Prop}
 (hn: ∀a' w' g' F' s',FSRep E a' w' g' F' s'→K s'→next a' w'):o.wp P a w next Q:=by
 unfold POl0 at hp
 split at hp
 · rename_i f xs hc
   obtain⟨h2,ho,R,hw,hcall,hK⟩:=hp
   obtain⟨vs,v1,v2,v3⟩:=j1c h hc h2
   unfold Oper.wp
   rw [v3,Oper.upon_enter]
   refine(G2z h v1 v2 ho hw hcall).mono ?_
   rintro en w' ⟨v,g',rfl,hx,hs,hr⟩
   obtain⟨F',hf⟩:=h.recv hx hs hr o.dst
   exact hn _ _ _ _ _ hf hK
 · exact hp.elim
theorem y3o {o:Oper} {K:PFS→Prop} (hp:POl0 P o e K s): ∀c,o.op≠ .defer c:=by
 intro c hc
 unfold POl0 at hp
 rw [hc] at hp
 exact hp
theorem x2n {o:Oper} {K:PFS→Prop} (h:FSRep E a w g F s) (hp:POl0 P o e K s) {next:Act→World→Prop} {Q:Exit→Act→World→Prop}
 (hn: ∀a' w' g' F' s',FSRep E a' w' g' F' s'→K s'→next a' w'):o.wpIn (fen E.rd) 0 P a w next Q:=
 W2i E.rd (y3o hp) (W2b h hp hn)
end
def OLl0 (P:Program) (ops:List Oper) (e:List Nat):List Bool→List Oper→(PFS→Prop)→PFS→Prop
 | _,[],K,s=>K s
 | [],rest,K,s=>OL0 P ops rest K s
 | true::bs,o::rest,K,s=>o.guard=none∧POl0 P o e (OLl0 P ops e bs rest K) s
 | false::bs,o::rest,K,s=>o.guard=none∧OC0 P o (OLl0 P ops e bs rest K) s
theorem V1j {P:Program} {E:Ent} {e:List Nat} {ops:Array Oper} {Q:Exit→Act→World→Prop} {K:PFS→Prop} (hK: ∀a' w' g' F' s',FSRep E a' w' g' F' s'→K s'→Q .normal a' w'):
 ∀(bs:List Bool) (rest:List Oper) (a:Act) (w:World) (g:Gh) (F:Fr) (s:PFS),FSRep E a w g F s→OLl0 P ops.toList e bs rest K s→wpListIn (fen E.rd) 0 P ops Q rest a w
 | bs,[],a,w,g,F,s,h,hp=>hK a w g F s h (by unfold OLl0 at hp;exact hp)
 | [],o::rest,a,w,g,F,s,h,hp=>q0e hK (o::rest) a w g F s h (j0l hp)
 | true::bs,o::rest,a,w,g,F,s,h,hp=>by
  obtain⟨hg,hp⟩:=hp
  have ih:=V1j (P:=P) (ops:=ops) (e:=e) hK bs rest
  unfold wpListIn
  rw [if_pos (by simp [Region.wanted,hg])]
  exact x2n h hp fun a' w' g' F' s' hr hk=>ih a' w' g' F' s' hr hk
 | false::bs,o::rest,a,w,g,F,s,h,hp=>by
  obtain⟨hg,hp⟩:=hp
  have ih:=V1j (P:=P) (ops:=ops) (e:=e) hK bs rest
  unfold wpListIn
  rw [if_pos (by simp [Region.wanted,hg])]
  exact V0j h (Y0z hp) fun a' w' g' F' s' hr hk=>ih a' w' g' F' s' hr hk
def OLl (P:Program) (ops:List Oper) (e:List Nat) (bs:List Bool) (rest:List Oper) (K:PFS→Prop) [Stop ops] [Stop rest] [Stop K] (s:PFS):Prop:=OLl0 P ops e bs rest K s
theorem k2g {P:Program} {E:Ent} {id:Nat} {l:List Oper} {Q:Exit→PFS→Prop} {s:PFS} (e:List Nat) (bs:List Bool) (h:OLl P l e bs l (Q .normal) s):PWP P E (.region id l.toArray false) Q s:=fun a w g F hr=>
 wpIn_region_list (V1j (fun a' w' g' F' s' hr' hk=>⟨g',F',s',hr',hk⟩) bs l a w g F s hr h)
def LC0 (P:Program) (e:List Nat) (fv:PV) (xs:List PV) (s:PFS) (K:PV→Prop):Prop:=
 match fv with
 | .fn (.func f) bs cs=>Q0c P f=true∧LendOK s.L e (bs++xs++cs)∧ ∃R,Wordy R∧PCalls P f ((bs++xs++cs).map (PV.lend2 s.L)) [] (fun r st'=>r=R∧st'= [])∧K R
 | _=>False
def LC (P:Program) (e:List Nat) (fv:PV) (xs:List PV) (s:PFS) (K:PV→Prop) [Stop K]:Prop:=LC0 P e fv xs s K
section
variable {P:Program} {s:PFS} {K:PFS→Prop} {d:Option Tmp} {ty:TypeId} {pos:String} {af:Array Edge} {e:List Nat}
@[go_sem] theorem G4r {ops:List Oper} {bs:List Bool} :OLl P ops e bs [] K s=K s:=by cases bs<;>rfl
@[go_sem] theorem G4s {ops rest:List Oper} :OLl P ops e [] rest K s=OL P ops rest K s:=by cases rest<;>rfl
@[go_sem] theorem z4k {ops rest:List Oper} {bs:List Bool} {op:Op} :OLl P ops e (false::bs) (⟨d,op,ty,pos,af,none⟩::rest) K s=OC P ⟨d,op,ty,pos,af,none⟩ (OLl P ops e bs rest K) s:=by
 show((none:Option (Nat×Bool))=none∧_)=_
 simp only [true_and];rfl
theorem y3s {ops rest:List Oper} {bs:List Bool} {f:Operand} {xs:List Operand} {ts:Array TypeId} :OLl P ops e (true::bs) (⟨d,.call ⟨.value f,xs.toArray,ts⟩,ty,pos,af,none⟩::rest) K s=LC0 P e (s.ev f) (xs.map s.ev) s (fun R=>OLl P ops e bs rest K (s.recv d R s.st)):=by
 show((none:Option (Nat×Bool))=none∧_)=_
 simp only [true_and]
 unfold POl0 LC0 X0m
 simp only
 cases s.ev f with
 | fn g bs cs=>cases g<;>rfl
 | _=>rfl
@[go_sem] theorem z4j {ops rest:List Oper} {bs:List Bool} {f:Operand} {xs:List Operand} {ts:Array TypeId} :OLl P ops e (true::bs) (⟨d,.call ⟨.value f,xs.toArray,ts⟩,ty,pos,af,none⟩::rest) K s=LC P e (s.ev f) (xs.map s.ev) s (fun R=>OLl P ops e bs rest K (s.recv d R s.st)):=y3s
theorem H4c {f:FuncId} {bs cs xs:List PV} {K:PV→Prop} (R:PV) (hc:Q0c P f=true) (hl:LendOK s.L e (bs++xs++cs)) (hw:Wordy R)
 (hp:PCalls P f ((bs++xs++cs).map (PV.lend2 s.L)) [] (fun r st'=>r=R∧st'= [])) (hk:K R):LC P e (.fn (.func f) bs cs) xs s K:=⟨hc,hl,R,hw,hp,hk⟩
end
end Go.Pv
end
section
/-A literal that keeps a slice without room;a box's cell with known room;statements in which such literals and appends to slices with known room stand. -/
namespace Go.Pv
section
variable {P:Program} {E:Ent} {a:Act} {w:World} {g:Gh} {F:Fr} {s:PFS}
end
def POk0 (P:Program) (o:Oper) (K:PFS→Prop) (s:PFS):Prop:=
 match o.op with
 | .buildSlice t 1 parts=>
  match parts.toList with
  | [(0,x)]=>match ti P t,s.ev x with
   | some ⟨_,_,.slice e,_⟩,.sl .full es=>(e.sz=1∧e.zok=true)∧K (s.put o.dst (.sl .full [.sl .full es]))
   | _,_=>False
  | _=>False
 | _=>False
section
variable {P:Program} {E:Ent} {a:Act} {w:World} {g:Gh} {F:Fr} {s:PFS}
end
inductive Mk where
 | no | room | keep
def OLk0 (P:Program) (ops:List Oper):List Mk→List Oper→(PFS→Prop)→PFS→Prop
 | _,[],K,s=>K s
 | [],rest,K,s=>OL0 P ops rest K s
 | .room::bs,o::rest,K,s=>o.guard=none∧POr0 P o (OLk0 P ops bs rest K) s
 | .keep::bs,o::rest,K,s=>o.guard=none∧POk0 P o (OLk0 P ops bs rest K) s
 | .no::bs,o::rest,K,s=>o.guard=none∧OC0 P o (OLk0 P ops bs rest K) s
def OLk (P:Program) (ops:List Oper) (bs:List Mk) (rest:List Oper) (K:PFS→Prop) [Stop ops] [Stop rest] [Stop K] (s:PFS):Prop:=OLk0 P ops bs rest K s
def H2i (T:Option TI) (x:PV) (K:PV→Prop) [Stop K]:Prop:=
 match T,x with
 | some ⟨_,_,.slice e,_⟩,.sl .full es=>(e.sz=1∧e.zok=true)∧K (.sl .full [.sl .full es])
 | _,_=>False
section
variable {P:Program} {s:PFS} {K:PFS→Prop} {d:Option Tmp} {ty:TypeId} {pos:String} {af:Array Edge}
@[go_sem] theorem G4t {ops:List Oper} {bs:List Mk} :OLk P ops bs [] K s=K s:=by
 cases bs with
 | nil=>rfl
 | cons b bs=>cases b<;>rfl
@[go_sem] theorem G4u {ops rest:List Oper} :OLk P ops [] rest K s=OL P ops rest K s:=by cases rest<;>rfl
@[go_sem] theorem q4d {ops rest:List Oper} {bs:List Mk} {op:Op} :OLk P ops (.no::bs) (⟨d,op,ty,pos,af,none⟩::rest) K s=OC P ⟨d,op,ty,pos,af,none⟩ (OLk P ops bs rest K) s:=by
 show((none:Option (Nat×Bool))=none∧_)=_
 simp only [true_and];rfl
@[go_sem] theorem K4m {ops rest:List Oper} {bs:List Mk} {op:Op} :OLk P ops (.room::bs) (⟨d,op,ty,pos,af,none⟩::rest) K s=POr P ⟨d,op,ty,pos,af,none⟩ (OLk P ops bs rest K) s:=by
 show((none:Option (Nat×Bool))=none∧_)=_
 simp only [true_and];rfl
@[go_sem] theorem K4n {ops rest:List Oper} {bs:List Mk} {t:TypeId} {x:Operand} :OLk P ops (.keep::bs) (⟨d,.buildSlice t 1 [(0,x)].toArray,ty,pos,af,none⟩::rest) K s=H2i (ti P t) (s.ev x) (fun p=>OLk P ops bs rest K (s.put d p)):=by
 show((none:Option (Nat×Bool))=none∧POk0 P _ _ s)=_
 simp only [true_and]
 unfold POk0 H2i
 simp only
 rfl
@[go_sem] theorem j3u {e:EI} {x1:Bool} {x2:Nat} {x4:Option Value} {es:List PV} {K:PV→Prop} :H2i (some ⟨x1,x2,.slice e,x4⟩) (.sl .full es) K=((e.sz=1∧e.zok=true)∧K (.sl .full [.sl .full es])):=(rfl)
end
end Go.Pv
end
section
/-Plain values:scalars,aggregates,slices of such. -/
namespace Go.Pv
inductive Tame :PV→Prop
 | sc (v:Value):Tame (.sc v)
 | agg {cs:List PV} (h: ∀c∈cs,Tame c):Tame (.agg cs)
 | sl {t:Tag} {es:List PV} (h: ∀e∈es,Tame e):Tame (.sl t es)
theorem Tame.low {p:PV} (h:Tame p) (n:Nat):Low n p∧ ∀c∈p.cells,Low n c:=by
 induction h with
 | sc v=>exact⟨Y1c n v,fun c hc=>by rw [List.mem_singleton.1 hc];exact Y1c n v⟩
 | agg h ih=>exact⟨W3u fun c hc=>(ih c hc).1,fun c hc=>(ih c hc).1⟩
 | @sl t es h ih=>
  have:=G2t (n:=n) (t:=t) fun e he c hc=>(ih e he).2 c hc
  exact⟨this,fun c hc=>by rw [List.mem_singleton.1 hc];exact this⟩
theorem z3r (t:Tag) (w:List UInt64):Tame (.sl t (encW w)):= .sl fun e he=>by
 simp only [encW,List.mem_map] at he
 obtain⟨x,_,rfl⟩:=he
 exact .sc _
theorem z3q (t:Tag) (l:List Int):Tame (.sl t (encZ l)):= .sl fun e he=>by
 simp only [encZ,List.mem_map] at he
 obtain⟨x,_,rfl⟩:=he
 exact .sc _
theorem z3t (x:Nm): ∀c∈encN x,Tame c:=fun c hc=>by
 simp only [encN,List.mem_cons,List.not_mem_nil,or_false] at hc
 rcases hc with rfl | rfl | rfl
 · exact .sc _
 · exact .sc _
 · exact z3r _ _
theorem K3v (m:Mn): ∀c∈j0r m,Tame c:=fun c hc=>by
 have hc:c∈encN m.c++ [.sl .no (encZ m.ks)]:=hc
 rcases List.mem_append.1 hc with hc | hc
 · exact z3t _ _ hc
 · rw [List.mem_singleton.1 hc];exact z3q _ _
theorem K3u (t:Tag) (l:List Mn):Tame (.sl t (X0c l)):= .sl fun e he=>by
 simp only [X0c,List.mem_map] at he
 obtain⟨x,_,rfl⟩:=he
 exact .agg (K3v x)
end Go.Pv
end
