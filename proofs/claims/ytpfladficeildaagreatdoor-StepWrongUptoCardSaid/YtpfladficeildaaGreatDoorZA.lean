/- Walk. -/
import Derived.WalkKit
import Derived.WalkSpells
import Derived.WalkLawsBesides
import Derived.Deep.MidRow
import Derived.Deep.AppendSrc
import Derived.RangeFuncLeaves
import Derived.RangeFuncCalls
import Derived.TacticsIn
import Derived.OrdersIn
import Derived.Scope
set_option linter.all false
set_option maxHeartbeats 160000000
theorem q_a.{u}{α:Type u}{l:List α}{i:Nat}{a:α}:l.getD i a=l[i]?.getD a:=List.getD_eq_getElem?_getD
theorem q_b{p:Prop}[Decidable p](h:decide p=true):p:=of_decide_eq_true h
theorem q_c{p:Prop}[Decidable p](h:decide p=false):¬p:=of_decide_eq_false h
theorem q_d.{u}{α:Type u}{p:α→Bool}{l:List α}:l.all p=true↔∀x,x∈l→p x=true:=List.all_eq_true
theorem q_e{n m k:Nat}(h:n<m)(g:m≤k):n<k:=Nat.lt_of_lt_of_le h g
theorem q_f.{u}{α:Type u}{xs:Array α}{i:Nat}{d:α}:xs.getD i d=xs[i]?.getD d:=Array.getD_eq_getD_getElem?
theorem q_g{p:Prop}[Decidable p](h:¬p):decide p=false:=decide_eq_false h
theorem q_h{p:Prop}[Decidable p](h:p):decide p=true:=decide_eq_true h
theorem q_i(a b:Bool):((a&&b)=true)=(a=true∧b=true):=Bool.and_eq_true a b
abbrev BA.{u0}:=@if_neg.{u0}
abbrev BB.{u0}:=@List.getElem?_eq_getElem.{u0}
abbrev BC.{u0}:=@if_pos.{u0}
abbrev BD:=@Nat.le_refl
abbrev BE:=@Classical.byContradiction
abbrev BF.{u0}:=@List.take_of_length_le.{u0}
abbrev BG:=@Nat.mul_le_mul_right
abbrev BH.{u0}:=@List.length_append.{u0}
abbrev BJ:=@Nat.mod_eq_of_lt
abbrev BL.{u0}:=@List.length_set.{u0}
abbrev BM:=@Nat.mul_comm
abbrev BN:=@decide_eq_true_eq
abbrev BP.{u0}:=@List.append_assoc.{u0}
abbrev BQ:=@Nat.add_mul
abbrev BR.{u0,u1}:=@List.length_map.{u0,u1}
abbrev BS:=@Nat.pow_le_pow_right
abbrev BT:=@UInt64.toNat_lt
abbrev BU.{u0}:=@Option.some.injEq.{u0}
abbrev BV.{u0}:=@bne_iff_ne.{u0}
abbrev BW:=@Nat.mul_assoc
abbrev BX.{u0}:=@List.length_take.{u0}
abbrev BY.{u0}:=@List.eq_nil_of_length_eq_zero.{u0}
abbrev BZ.{u0}:=@List.length_eq_zero_iff.{u0}
abbrev B0.{u0}:=@List.take_length.{u0}
abbrev B1:=@Nat.add_zero
abbrev B2:=@Nat.pow_add
abbrev B3:=@Bool.false_eq_true
abbrev B4.{u0,u1}:=@congrArg.{u0,u1}
abbrev B5:=@Nat.pow_succ
abbrev B6.{u0}:=@List.getElem?_append_left.{u0}
abbrev B7:=@Nat.le_trans
abbrev B8.{u0,u1}:=@List.getElem?_map.{u0,u1}
abbrev B9.{u0}:=@List.append_nil.{u0}
abbrev CA.{u0}:=@List.getElem?_append_right.{u0}
abbrev CB:=@Rat.le_refl
abbrev CD:=@Nat.not_lt_zero
abbrev CE:=@Nat.mul_add
abbrev CF.{u0,u1}:=@List.mem_map.{u0,u1}
abbrev CG:=@Nat.mod_lt
abbrev CH:=@UInt32.toNat_lt
abbrev CJ.{u0}:=@List.set_append_right.{u0}
abbrev CL.{u0}:=@beq_eq_false_iff_ne.{u0}
abbrev CM.{u0}:=@List.mem_iff_getElem.{u0}
abbrev CN:=@Int.natCast_mul
abbrev CP:=@Nat.div_eq_of_lt
abbrev CQ.{u0}:=@List.nil_append.{u0}
abbrev CR:=@Bool.and_eq_true_iff
abbrev CS:=@Bool.eq_false_iff
abbrev CT:=@Nat.two_pow_pos
abbrev CU:=@Nat.zero_add
abbrev CV:=@Nat.div_div_eq_div_mul
abbrev CW.{u0}:=@Array.getElem?_eq_getElem.{u0}
abbrev CX:=@Nat.zero_le
abbrev CY:=@Nat.one_mul
abbrev CZ.{u0,u1}:=@Prod.mk.injEq.{u0,u1}
abbrev C0.{u0}:=@List.mem_singleton.{u0}
abbrev C1.{u0}:=@List.length_cons.{u0}
abbrev C2.{u0}:=@List.getElem?_eq_none.{u0}
abbrev C3.{u0}:=@Array.getElem?_eq_some_iff.{u0}
abbrev C4.{u0,u1}:=@List.map_congr_left.{u0,u1}
abbrev C5:=@Nat.mul_lt_mul_of_pos_right
abbrev C6.{u0}:=@List.drop_of_length_le.{u0}
abbrev C7:=@Int.natCast_add
abbrev C8:=@Classical.not_not
abbrev C9.{u0}:=@List.ext_getElem.{u0}
abbrev DA:=@Nat.min_eq_left
abbrev DB:=@Nat.div_le_self
abbrev DC:=@Nat.zero_mul
abbrev DD:=@Nat.sub_self
abbrev DE:=@Nat.div_lt_of_lt_mul
abbrev DF:=@Bool.or_eq_true
abbrev DG.{u0}:=@List.mem_cons_self.{u0}
abbrev DH.{u0}:=@List.getElem?_drop.{u0}
abbrev DJ:=@Nat.pow_pos
abbrev DK:=@Nat.add_assoc
abbrev DL.{u0}:=@List.mem_cons_of_mem.{u0}
abbrev DM.{u0}:=@List.length_drop.{u0}
abbrev DN.{u0}:=@List.mem_append.{u0}
abbrev DP:=@Nat.mul_le_mul_left
abbrev DQ:=@Nat.mul_zero
abbrev DR.{u0}:=@List.getElem?_set_ne.{u0}
abbrev DS.{u0}:=@List.set_eq_take_append_cons_drop.{u0}
abbrev DT.{u0}:=@if_false.{u0}
abbrev DU:=@Int.neg_mul
abbrev DV:=@Nat.div_lt_iff_lt_mul
abbrev DW:=@Nat.mul_le_mul
abbrev DX.{u0,u1}:=@List.map_cons.{u0,u1}
abbrev DY:=@Nat.add_sub_cancel_left
abbrev DZ.{u0,u1,u2}:=@List.map_map.{u0,u1,u2}
abbrev D0:=@decide_eq_true_iff
abbrev D1:=@Nat.lt_of_le_of_lt
abbrev D2:=@BitVec.toNat_ofNat
abbrev D3:=@Rat.mul_le_mul_of_nonneg_right
abbrev D4.{u0}:=@if_true.{u0}
abbrev D5:=@Nat.div_add_mod
abbrev D6.{u0}:=@List.length_nil.{u0}
abbrev D7:=@Nat.add_mul_mod_self_left
abbrev D8.{u0}:=@List.mem_cons.{u0}
abbrev D9.{u0}:=@Option.getD_some.{u0}
abbrev EA.{u0}:=@List.getElem_mem.{u0}
abbrev EB:=@List.getElem?_range
abbrev ED.{u0}:=@List.getElem?_take.{u0}
abbrev EE:=@Int.eq_ofNat_of_zero_le
abbrev EF.{u0}:=@beq_self_eq_true.{u0}
abbrev EG.{u0}:=@List.cons_append.{u0}
abbrev EH:=@Nat.mul_one
abbrev EJ:=@Nat.mul_left_comm
abbrev EK:=@Bool.not_eq_true'
abbrev EL.{u0}:=@List.length_pos_iff.{u0}
abbrev EM.{u0}:=@List.drop_zero.{u0}
abbrev EN:=@Nat.le_div_iff_mul_le
abbrev EP.{u0}:=@List.length_replicate.{u0}
abbrev EQ.{u0}:=@List.contains_iff_mem.{u0}
abbrev ER:=@Int.mul_le_mul_of_nonneg_right
abbrev ES:=@Nat.lt_of_not_le
abbrev ET.{u0}:=@List.drop_append_of_le_length.{u0}
abbrev EU:=@Nat.add_mul_div_left
abbrev EV:=@Nat.mul_div_cancel_left
abbrev EW:=@Nat.add_comm
abbrev EX:=@List.mem_range
abbrev EY.{u0}:=@List.size_toArray.{u0}
abbrev EZ:=@Nat.mul_add_mod
abbrev E0:=@Nat.mul_add_div
abbrev E2.{u0,u1}:=@List.map_append.{u0,u1}
abbrev E3:=@Bool.eq_iff_iff
abbrev E4.{u0}:=@List.drop_eq_nil_of_le.{u0}
abbrev E5:=@Rat.le_trans
abbrev E6.{u0,u1}:=@List.map_set.{u0,u1}
abbrev E7.{u0}:=@List.getElem?_eq_some_iff.{u0}
abbrev E8.{u0}:=@List.drop_eq_getElem_cons.{u0}
abbrev E9.{u0}:=@Array.getElem?_replicate.{u0}
abbrev FA:=@Nat.and_two_pow_sub_one_eq_mod
abbrev FB:=@Bool.true_and
abbrev FC:=@UInt64.toNat_ofNat'
abbrev FD:=@decide_eq_decide
abbrev FE:=@UInt64.toNat.inj
abbrev FF.{u0}:=@List.drop_length.{u0}
abbrev FG.{u0}:=@List.take_append_of_le_length.{u0}
abbrev FH:=@Nat.mod_add_div
abbrev FJ.{u0}:=@List.cons.injEq.{u0}
abbrev FK.{u0}:=@List.singleton_append.{u0}
abbrev FL.{u0}:=@beq_iff_eq.{u0}
abbrev FM:=@Bool.not_true
abbrev FN:=@Int.toNat_natCast
abbrev FP.{u0}:=@List.append_eq.{u0}
abbrev FQ:=@Nat.mod_one
abbrev FR.{u0}:=@List.reverse_append.{u0}
abbrev FT.{u0,u1}:=@Option.map_some.{u0,u1}
abbrev FU:=@Nat.mul_ne_zero
abbrev FV.{u0}:=@List.take_succ_eq_append_getElem.{u0}
abbrev FW.{u0}:=@List.getElem?_set_self.{u0}
abbrev FX.{u0}:=@Array.getElem?_eq_none.{u0}
abbrev FY:=@Nat.or_lt_two_pow
abbrev FZ.{u0}:=@List.reverse_cons.{u0}
abbrev F0:=@Nat.le_of_lt
abbrev F4.{u0,u1}:=@List.map_nil.{u0,u1}
abbrev F5:=@Nat.le_of_not_lt
abbrev F6:=@List.range_eq_range'
abbrev F7:=@true_and
abbrev F8:=@Int.not_lt
abbrev F9:=@Nat.div_one
abbrev LA.{u0}:=@List.nodup_cons.{u0}
abbrev LB.{u0}:=@List.getD_cons_zero.{u0}
abbrev LC:=@Int.le_of_lt
abbrev LD.{u0}:=@List.set_cons_succ.{u0}
abbrev LF:=@Int.natAbs_natCast
abbrev Lu:=List UInt64
abbrev Ln:=List Nat
abbrev Lo:=List Go.Oper
abbrev Pg:=Go.Program
abbrev Lv:=List (Nat×Nat)
abbrev Lw:=Go.World
abbrev Lt:=Go.TypeId
abbrev La:=Array Go.Oper
abbrev Lb:=Array Go.Value
abbrev Lc:=Array Bool
abbrev Ld:=List Bool
abbrev Ls:=List UInt32
abbrev Po:=Option Go.Tmp
abbrev Pq:=List Int
abbrev Pr:=Option Go.Value
abbrev Ps:=List Go.Value
abbrev Pt:=Go.Exit->Go.Act->Go.World->Prop
theorem oG{p:Prop}(h:p:=by omega):p:=h
theorem oW{p q:Prop}(h:p)(k:p->q:=by omega):q:=k h
theorem oT{p q:Prop}[Decidable p](h:decide p=true)(k:p->q:=by omega):q:=k (of_decide_eq_true h)
theorem oF{p q:Prop}[Decidable p](h:decide p=false)(k:¬p->q:=by omega):q:=k (of_decide_eq_false h)
section
namespace Go.Pv
inductive Tag where
 | no | full | own (k:Nat) | fresh (sz:Nat)
 deriving DecidableEq
inductive PV where
 | junk
 | sc (v:Value)
 | agg (cs:List PV)
 | tup (vs:List PV)
 | sl (t:Tag) (es:List PV)
 | ms (g:Bool) (i off len:Nat)
 | mr (i len cap:Nat)
 | lp (i off:Nat)
 | gp (i off:Nat)
 | ep (cs:List PV) (off:Nat)
 | fn (f:Fn) (first caps:List PV)
 | pre (all:List PV) (n:Nat)
 | gr (i len cap:Nat)
abbrev Lp :=List PV
instance : Inhabited PV:=⟨.junk⟩
def PV.cells :PV->List PV
 | .agg cs=>cs
 | p=> [p]
structure Gh where
 n:Nat
 mu:Nat->Nat
 vis:Nat->Nat
def Tag.still :Tag->Bool
 | .no | .full=>true
 | _=>false
inductive Rep (w:World) (g:Gh):Value->PV->Prop
 | junk (v:Value):Rep w g v .junk
 | sc (v:Value):Rep w g v (.sc v)
 | agg (vs:Array Value) (cs:List PV) (hl:vs.size=cs.length)
  (h: ∀j,j<cs.length->Rep w g (vs.getD j undef) (cs.getD j .junk)):Rep w g (.agg vs) (.agg cs)
 | tup (vs:Array Value) (cs:List PV) (hl:vs.size=cs.length)
  (h: ∀j,j<cs.length->Rep w g (vs.getD j undef) (cs.getD j .junk)):Rep w g (.tuple vs) (.tup cs)
 | nil (t:Tag) (ad:Option Addr) (ht:t.still=true):Rep w g (.slice ad 0 0) (.sl t [])
 | sl (t:Tag) (es:List PV) (b off sz cap:Nat) (cf:Nat->Nat->Value) (ht:t.still=true) (hfull:t= .full->cap=es.length) (hcap:es.length<=cap)
  (hsz: ∀i,i<es.length->(es.getD i .junk).cells.length=sz) (hvis:0<es.length->off+es.length*sz<=g.vis b)
  (hc: ∀i j,i<es.length->j<sz->w.cell? ⟨b,off+i*sz+j,none⟩=some (cf i j))
  (hr: ∀i j,i<es.length->j<sz->Rep w g (cf i j) ((es.getD i .junk).cells.getD j .junk)):
  Rep w g (.slice (some ⟨b,off,none⟩) es.length cap) (.sl t es)
 | gms (i off len cap:Nat) (hi:i<g.n) (hcap:len<=cap):Rep w g (.slice (some ⟨g.mu i,off,none⟩) len cap) (.ms true i off len)
 | gp (i off:Nat) (hi:i<g.n):Rep w g (.pointer (some ⟨g.mu i,off,none⟩)) (.gp i off)
 | ep (cs:List PV) (off b base:Nat) (cf:Nat->Value) (hvis:base+cs.length<=g.vis b)
  (hc: ∀j,j<cs.length->w.cell? ⟨b,base+j,none⟩=some (cf j))
  (hr: ∀j,j<cs.length->Rep w g (cf j) (cs.getD j .junk)):
  Rep w g (.pointer (some ⟨b,base+off,none⟩)) (.ep cs off)
 | fn (f:Fn) (us vs:Array Value) (bs cs:List PV) (hk:us.size=bs.length) (hl:vs.size=cs.length)
  (h0: ∀j,j<bs.length->Rep w g (us.getD j undef) (bs.getD j .junk))
  (h: ∀j,j<cs.length->Rep w g (vs.getD j undef) (cs.getD j .junk)):Rep w g (.func f us vs) (.fn f bs cs)
 | pre (all:List PV) (n b off sz cap:Nat) (cf:Nat->Nat->Value) (hn:n<=all.length) (hcap:all.length<=cap)
  (hsz: ∀i,i<all.length->(all.getD i .junk).cells.length=sz) (hvis:0<all.length->off+all.length*sz<=g.vis b)
  (hc: ∀i j,i<all.length->j<sz->w.cell? ⟨b,off+i*sz+j,none⟩=some (cf i j))
  (hr: ∀i j,i<all.length->j<sz->Rep w g (cf i j) ((all.getD i .junk).cells.getD j .junk)):
  Rep w g (.slice (some ⟨b,off,none⟩) n cap) (.pre all n)
 | gr (i len cap:Nat) (hi:i<g.n) (hcap:len<=cap):Rep w g (.slice (some ⟨g.mu i,0,none⟩) len cap) (.gr i len cap)
structure Le (w:World) (g:Gh) (w':World) (g':Gh):Prop where
 n:g.n<=g'.n
 mu: ∀i,i<g.n->g'.mu i=g.mu i
 vis: ∀b,g.vis b<=g'.vis b
 cell: ∀b o c,o<g.vis b->w.cell? ⟨b,o,none⟩=some c->w'.cell? ⟨b,o,none⟩=some c
theorem Le.refl (w:Lw)(g:Gh):Le w g w g:=⟨BD _,fun _ _=>rfl,fun _=>BD _,fun _ _ _ _ h=>h⟩
theorem Le.trans {w g w1 g1 w2 g2}(h:Le w g w1 g1)(k:Le w1 g1 w2 g2):Le w g w2 g2:=
 ⟨B7 h.n k.n,fun i hi=>(k.mu i (q_e hi h.n)).trans (h.mu i hi),fun b=>B7 (h.vis b) (k.vis b),
  fun b o c ho hc=>k.cell b o c (q_e ho (h.vis b)) (h.cell b o c ho hc)⟩
theorem Vf {i j n sz:Nat}(hi:i<n)(hj:j<sz):i*sz+j<n*sz:=by have:(i+1)*sz<=n*sz:=BG _ hi;rw[BQ,CY] at this;omega
theorem Rep.mono {w g w' g'}(h:Le w g w' g'): ∀ {v p},Rep w g v p->Rep w' g' v p:=by
 intro v p hr
 induction hr with
 | junk v=>exact .junk v
 | sc v=>exact .sc v
 | agg vs cs hl _ ih=>exact .agg vs cs hl ih
 | tup vs cs hl _ ih=>exact .tup vs cs hl ih
 | nil t ad ht=>exact .nil t ad ht
 | sl t es b off sz cap cf ht hfull hcap hsz hvis hc _ ih=>
  refine .sl t es b off sz cap cf ht hfull hcap hsz (fun h0=>B7 (hvis h0) (h.vis b)) (fun i j hi hj=> ?_) ih;exact h.cell _ _ _ (by have:=Vf hi hj;omega) (hc i j hi hj)
 | gms i off len cap hi hcap=>
  rw[<-h.mu i hi];exact .gms i off len cap (q_e hi h.n) hcap
 | gp i off hi=>
  rw[<-h.mu i hi];exact .gp i off (q_e hi h.n)
 | ep cs off b base cf hvis hc _ ih=>
  exact .ep cs off b base cf (B7 hvis (h.vis b)) (fun j hj=>h.cell _ _ _ oG (hc j hj)) ih
 | fn f us vs bs cs hk hl _ _ ih0 ih=>exact .fn f us vs bs cs hk hl ih0 ih
 | gr i len cap hi hcap=>
  rw[<-h.mu i hi];exact .gr i len cap (q_e hi h.n) hcap
 | pre all n b off sz cap cf hn hcap hsz hvis hc _ ih=>
  exact .pre all n b off sz cap cf hn hcap hsz (fun h0=>B7 (hvis h0) (h.vis b)) (fun i j hi hj=>h.cell _ _ _ (by have:=Vf hi hj;omega) (hc i j hi hj)) ih
structure Fr where
 nl:Nat
 lmu:Nat->Nat
 tb:Nat->Option Nat
def Right (w:World)(g:Gh)(tb:Option Nat)(sz:Nat)(v:Value)(es:List PV):Prop:=
 match tb with
 | some b=> ∃off cap,v= .slice (some ⟨b,off,none⟩) es.length cap/\(∀i,i<es.length->(es.getD i .junk).cells.length=sz)/\off+es.length*sz=g.vis b/\
  es.length<=cap/\ ∀o,o<off+cap*sz->(w.cell? ⟨b,o,none⟩).isSome=true
 | none=>(v= .slice none 0 0\/ ∃a,v= .slice a es.length es.length)/\es.length=0
inductive RepF (w:World) (g:Gh) (F:Fr) (T:List (Nat×Nat)):Value->PV->Prop
 | base (v:Value) (p:PV) (h:Rep w g v p):RepF w g F T v p
 | lp (i off:Nat) (hi:i<F.nl):RepF w g F T (.pointer (some ⟨F.lmu i,off,none⟩)) (.lp i off)
 | lms (i off len cap:Nat) (hi:i<F.nl) (hcap:len<=cap):RepF w g F T (.slice (some ⟨F.lmu i,off,none⟩) len cap) (.ms false i off len)
 | lmr (i len cap:Nat) (hi:i<F.nl) (hcap:len<=cap):RepF w g F T (.slice (some ⟨F.lmu i,0,none⟩) len cap) (.mr i len cap)
 | lmr0 (i:Nat) (ad:Option Addr) (hi:i<F.nl):RepF w g F T (.slice ad 0 0) (.mr i 0 0)
 | own (k:Nat) (es:List PV) (v:Value) (h:Rep w g v (.sl .no es)) (hk:k<T.length) (hle:es.length<=(T.getD k (0,0)).1)
  (hr:es.length=(T.getD k (0,0)).1->Right w g (F.tb k) (T.getD k (0,0)).2 v es):RepF w g F T v (.sl (.own k) es)
 | agg (vs:Array Value) (cs:List PV) (hl:vs.size=cs.length)
  (h: ∀j,j<cs.length->RepF w g F T (vs.getD j undef) (cs.getD j .junk)):RepF w g F T (.agg vs) (.agg cs)
 | tup (vs:Array Value) (cs:List PV) (hl:vs.size=cs.length)
  (h: ∀j,j<cs.length->RepF w g F T (vs.getD j undef) (cs.getD j .junk)):RepF w g F T (.tuple vs) (.tup cs)
 | fn (f:Fn) (us vs:Array Value) (bs cs:List PV) (hk:us.size=bs.length) (hl:vs.size=cs.length)
  (h0: ∀j,j<bs.length->RepF w g F T (us.getD j undef) (bs.getD j .junk))
  (h: ∀j,j<cs.length->RepF w g F T (vs.getD j undef) (cs.getD j .junk)):RepF w g F T (.func f us vs) (.fn f bs cs)
abbrev Qc :=List (List PV)
def Holds (w:World)(R:Value->PV->Prop)(b:Nat)(ps:List PV):Prop:=
 ∀j,j<ps.length->w.frozen? ⟨b,j,none⟩=false/\ ∃c,w.cell? ⟨b,j,none⟩=some c/\R c (ps.getD j .junk)
def theTab :List (Nat×List Value):= [(0,[.int .u8 0,.int .u8 1,.int .u8 56,.int .u8 2,.int .u8 57,.int .u8 49,.int .u8 28,.int .u8 3,.int .u8 61,.int .u8 58,.int .u8 42,.int .u8 50,.int .u8 38,.int .u8 29,.int .u8 17,.int .u8 4,.int .u8 62,.int .u8 47,.int .u8 59,.int .u8 36,.int .u8 45,.int .u8 43,.int .u8 51,.int .u8 22,.int .u8 53,.int .u8 39,.int .u8 33,.int .u8 30,.int .u8 24,.int .u8 18,.int .u8 12,.int .u8 5,.int .u8 63,.int .u8 55,.int .u8 48,.int .u8 27,.int .u8 60,.int .u8 41,.int .u8 37,.int .u8 16,.int .u8 46,.int .u8 35,.int .u8 44,.int .u8 21,.int .u8 52,.int .u8 32,.int .u8 23,.int .u8 11,.int .u8 54,.int .u8 26,.int .u8 40,.int .u8 15,.int .u8 34,.int .u8 20,.int .u8 31,.int .u8 10,.int .u8 25,.int .u8 14,.int .u8 19,.int .u8 9,.int .u8 13,.int .u8 8,.int .u8 7,.int .u8 6])]
def TabOK (w:World)(g:Gh):Prop:= ∀t,t∈theTab->t.2.length<=g.vis t.1/\ ∀j,j<t.2.length->w.cell? ⟨t.1,j,none⟩=some (t.2.getD j undef)
theorem TabOK.mono {w g w' g'}(h:TabOK w g)(hl:Le w g w' g'):TabOK w' g':=fun t ht=>
 ⟨B7 (h t ht).1 (hl.vis t.1),fun j hj=>hl.cell _ _ _ (q_e hj (h t ht).1) ((h t ht).2 j hj)⟩
def zd (n:Nat):PV:=
 match theTab.find? (fun t=>t.1==n) with
 | some t=> .ep (t.2.map .sc) 0
 | none=> .junk
structure StoreOK (w:World) (g:Gh) (st:Qc):Prop where
 n:g.n=st.length
 inj: ∀i j,i<g.n->j<g.n->g.mu i=g.mu j->i=j
 lt: ∀i,i<g.n->g.mu i<w.heap.size
 vis: ∀i,i<g.n->st.getD i []≠ []->g.vis (g.mu i)=0
 holds: ∀i,i<g.n->Holds w (Rep w g) (g.mu i) (st.getD i [])
 none: ∀b,w.heap.size<=b->g.vis b=0
 tab:TabOK w g
structure FrameOK (w:World) (g:Gh) (F:Fr) (L:Qc) (T:List (Nat×Nat)) (B:Nat):Prop where
 nl:F.nl=L.length
 lo: ∀i,L.getD i []≠ []->B<=F.lmu i/\F.lmu i<w.heap.size/\g.vis (F.lmu i)=0
 apart: ∀i,L.getD i []≠ []-> ∀j,j<g.n->g.mu j≠F.lmu i
 inj: ∀i j,L.getD i []≠ []->L.getD j []≠ []->F.lmu i=F.lmu j->i=j
 holds: ∀i,L.getD i []≠ []->Holds w (RepF w g F T) (F.lmu i) (L.getD i [])
 tlo: ∀k b,k<T.length->F.tb k=some b->B<=b/\b<w.heap.size/\ ∃c e,w.heap[b]?=some (.cells c e (0,0))
 tapart: ∀k b,k<T.length->F.tb k=some b->(∀j,j<g.n->g.mu j≠b)/\ ∀i,L.getD i []≠ []->F.lmu i≠b
 tinj: ∀k k' b,k<T.length->k'<T.length->F.tb k=some b->F.tb k'=some b->k=k'
structure Ext (w:World) (g:Gh) (w':World) (g':Gh):Prop where
 le:Le w g w' g'
 os:w'.os=w.os
 tape:w'.tape=w.tape
 output:w'.output=w.output
 size:w.heap.size<=w'.heap.size
 old: ∀b,b<w.heap.size->(∀i,i<g.n->g.mu i≠b)->w'.heap[b]?=w.heap[b]?/\g'.vis b=g.vis b
 new: ∀i,g.n<=i->i<g'.n->w.heap.size<=g'.mu i
theorem Ext.refl (w:Lw)(g:Gh):Ext w g w g:=
 ⟨.refl _ _,rfl,rfl,rfl,BD _,fun _ _ _=>⟨rfl,rfl⟩,fun i h h'=>oG⟩
theorem Ext.trans {w g w1 g1 w2 g2}(h:Ext w g w1 g1)(k:Ext w1 g1 w2 g2):Ext w g w2 g2:=by refine⟨h.le.trans k.le,k.os.trans h.os,k.tape.trans h.tape,k.output.trans h.output,B7 h.size k.size,fun b hb hn=> ?_,fun i hi hi'=> ?_⟩;have h1:=h.old b hb hn;have h2:=k.old b (q_e hb h.size) (fun i hi e=>by by_cases hin:i<g.n;exact hn i hin (by rw[<-h.le.mu i hin];exact e);have:=h.new i oG hi;omega);exact⟨h2.1.trans h1.1,h2.2.trans h1.2⟩;by_cases hin:i<g1.n;rw[k.le.mu i hin];exact h.new i hi hin;have:=k.new i oG hi';have:=h.size;omega
def jk (k:Nat):List PV:=List.replicate k .junk
def rF (k:Nat):List Bool:=List.replicate k false
@[simp, go_sem] theorem W2m (k:Nat):jk k=List.replicate k .junk:=rfl
@[simp, go_sem] theorem K2o (k:Nat):rF k=List.replicate k false:=rfl
structure EI where
 id:TypeId
 sz:Nat
 by_:Nat
 agg:Bool
 zok:Bool
 u8:Bool
inductive UD where
 | slice (e:EI) | struct (fs:List (Nat×EI)) | arr (n:Nat) (e:EI) | ptr | int (k:IntKind) | str | bool | other
structure TI where
 agg:Bool
 size:Nat
 ud:UD
 zero:Option Value
abbrev Pu :=Option TI
def xT :TypeDesc->Bool
 | .struct _ | .array _ _=>true
 | _=>false
def qR :TypeDesc->Bool
 | .int .u8=>true
 | _=>false
def ei (P:Program)(t:TypeId):Option EI:=
 match P.info? t,P.underlying t with
 | some i,some u=>some ⟨t,i.size,i.bytes,xT u,match i.zero with | some z=>z.cells.size==i.size | none=>false,qR u⟩
 | _,_=>none
def YH (P:Program):List Field->Option (List (Nat×EI))
 | []=>some []
 | f::fs=>match ei P f.type,YH P fs with
  | some e,some es=>some ((f.offset,e)::es)
  | _,_=>none
def XO (P:Program):TypeDesc->UD
 | .slice e=>match ei P e with | some x=> .slice x | none=> .other
 | .struct fs=>match YH P fs.toList with | some l=> .struct l | none=> .other
 | .array n e=>match ei P e with | some x=> .arr n x | none=> .other
 | .pointer _=> .ptr
 | .int k=> .int k
 | .string=> .str
 | .bool=> .bool
 | _=> .other
def ti (P:Program)(t:TypeId):Option TI:=
 match P.info? t,P.underlying t with
 | some i,some u=>some ⟨xT u,i.size,XO P u,i.zero⟩
 | _,_=>none
def Kf :Value->PV
 | .slice none 0 0=> .sl .full []
 | .agg _=> .junk
 | .tuple _=> .junk
 | v=> .sc v
def Xa :Value->PV
 | .agg cs=> .agg (cs.toList.map Kf)
 | v=>Kf v
structure PFS where
 pa:List PV
 L:Qc
 T:List (Nat×Nat)
 st:Qc
abbrev Pw :=PV->PFS->Prop
abbrev Pe :=Exit->PFS->Prop
abbrev Pf :=PFS->Prop
def PFS.put (s:PFS)(d:Option Tmp)(v:PV):PFS:=
 match d with
 | some d=> { s with pa:=s.pa.set d v }
 | none=>s
def PFS.ev (s:PFS):Operand->PV
 | .tmp t=>s.pa.getD t .junk
 | .const v=>Xa v
 | .global n=>zd n
 | .func f=> .fn (.func f) [] []
structure Ent where
 w:World
 g:Gh
 rd:Option Nat
 df:List Deferred
structure FSRep (E:Ent) (a:Act) (w:World) (g:Gh) (F:Fr) (s:PFS):Prop where
 ext:Ext E.w E.g w g
 store:StoreOK w g s.st
 frame:FrameOK w g F s.L s.T E.w.heap.size
 defers:a.defers=E.df
 len:a.tmps.size=s.pa.length
 tmps: ∀t,t<s.pa.length->RepF w g F s.T (a.tmps.getD t undef) (s.pa.getD t .junk)
theorem Oh (w g)(v:Value):Rep w g v (Kf v):=by unfold Kf;split;exact .nil .full none rfl;exact .junk _;exact .junk _;exact .sc _
theorem Ij (w g)(v:Value):Rep w g v (Xa v):=by unfold Xa;split;rename_i cs;refine .agg cs _ (by simp) (fun j hj=> ?_);have hj':j<cs.size:=(by simpa using hj);simp only[q_a,B8,Array.getElem?_toList,q_f,CW hj',FT,D9];exact Oh w g _;exact Oh w g _
theorem FSRep.ev {E a w g F s}(h:FSRep E a w g F s)(x:Operand):RepF w g F s.T (a.eval x) (s.ev x):=by
 cases x with
 | tmp t=>
  simp only[Act.eval,PFS.ev];by_cases ht:t<s.pa.length;exact h.tmps t ht;have e:s.pa.getD t .junk= .junk:=(by simp[q_a,C2 (F5 ht)]);rw[e];exact .base _ _ (.junk _)
 | const v=>exact .base _ _ (Ij w g v)
 | global n=>
  simp only[Act.eval,PFS.ev,zd];split;rename_i t ht;have hm:=List.mem_of_find?_eq_some ht;have hn:t.1=n:=(by simpa using List.find?_some ht);subst hn;obtain⟨h1,h2⟩:=h.store.tab t hm;have:=Rep.ep (w:=w) (g:=g) (t.2.map .sc) 0 t.1 0 (fun j=>t.2.getD j undef) (by simpa using h1) (fun j hj=>by simpa using h2 j (by simpa using hj)) (fun j hj=>by have hj':j<t.2.length:=(by simpa using hj);have e:(t.2.map PV.sc).getD j .junk= .sc (t.2.getD j undef):=(by simp[q_a,BB hj']);rw[e];exact .sc _);exact .base _ _ this;exact .base _ _ (.junk _)
 | func f=>exact .base _ _ (.fn (.func f) #[] #[] [] [] rfl rfl (fun j hj=>by simp at hj) (fun j hj=>by simp at hj))
theorem RepF.sc_inv {w g F T v u}(h:RepF w g F T v (.sc u)):v=u:=by
 cases h with
 | base _ _ h=>cases h;rfl
theorem Rep.sc_inv {w g v u}(h:Rep w g v (.sc u)):v=u:=by cases h;rfl
def fen :Option Nat->Fence
 | none=>Fence.wide
 | some l=>Fence.wide.inRound l
theorem z1y (rd:Option Nat)(f:FuncId):(fen rd).fn f:=by cases rd<;>exact trivial
theorem z1z (rd:Option Nat):(fen rd).depth=none:=by cases rd<;>rfl
theorem V0d (rd:Option Nat):(fen rd).round=rd:=by cases rd<;>rfl
theorem V7 {rd:Option Nat}{x:Option FuncId} : ∀f,x=some f->(fen rd).fn f:=fun f _=>z1y rd f
theorem x1a {P:Pg}(rd:Option Nat){n:Nat}{f:FuncId}{args:Lb}{w:Lw}{R:Ending->World->Prop}(h:Calls P f args w R):CallsIn (fen rd) n P f args w R:=by have h1:CallsIn Fence.wide n P f args w R:=callsIn_wide.2 h;cases rd<;>exact h1
theorem z1x {P:Pg}(rd:Option Nat){n:Nat}{row:String}{args:Lb}{w:Lw}{R:Value->World->Prop}(h:Rows P row args w R):RowsIn (fen rd) n P row args w R:=by
 have h1:RowsIn Fence.wide n P row args w R:=fun c cs _=>let ⟨v,w',r,s⟩:=h c cs;⟨v,w',r,stepsIn_wide.2 s⟩
 cases rd<;>exact h1
theorem Gp {P:Pg}{o:Oper}{a:Act}{w:Lw}{next:Act->World->Prop}{Q:Pt}(rd:Option Nat)(hd: ∀c,o.op≠ .defer c)(h:o.wp P a w next Q):
 o.wpIn (fen rd) 0 P a w next Q:=by
 refine⟨V7,?_⟩;rw[V0d,Oper.semAt_eq _ _ _ hd];unfold Oper.wp at h;generalize (execOp a.eval o).run P w=r at h⊢;have hn:(fen rd).depth.isSome=true->1<=0:=fun e=>(by rw[z1z] at e;cases e);cases r with
 | ok x w'=>
  cases x with
  | value v=>exact h
  | skip=>exact h
  | defer d=>exact h
  | enter f args=>exact⟨hn,x1a rd (Calls.mono h fun e w'' he=>by cases e<;>exact he)⟩
  | row r args=>exact⟨hn,z1x rd h⟩
  | _=>exact h.elim
 | halt x w'=>cases x<;>first | exact h | exact h.elim
def post (E:Ent)(Q:Exit->PFS->Prop)(e:Exit)(a:Act)(w:World):Prop:= ∃g F s,FSRep E a w g F s/\Q e s
def PWP (P:Program)(E:Ent)(c:Code)(Q:Exit->PFS->Prop)(s:PFS):Prop:=
 ∀a w g F,FSRep E a w g F s->c.wpIn (fen E.rd) 0 P (post E Q) a w
section control
variable {P:Program} {E:Ent} {Q Q':Exit->PFS->Prop} {s:PFS}
theorem zF {c:Code}(h:PWP P E c Q s)(hq: ∀e s,Q e s->Q' e s):PWP P E c Q' s:=
 fun a w g F hr=>wpIn_mono (h a w g F hr) fun e a w ⟨g,F,s,hr,hq'⟩=>⟨g,F,s,hr,hq e s hq'⟩
theorem Q1t (h:Q .normal s):PWP P E .skip Q s:=fun _ _ g F hr=>wpIn_skip ⟨g,F,s,hr,h⟩
theorem Z1b {l:Nat}(h:Q .normal s):PWP P E (.label l) Q s:=fun _ _ g F hr=>wpIn_label ⟨g,F,s,hr,h⟩
theorem Z1d {id:Nat}(h:Q (.exit id) s):PWP P E (.exit id) Q s:=fun _ _ g F hr=>wpIn_exit ⟨g,F,s,hr,h⟩
theorem Q1u (h:Q .ret s):PWP P E .ret Q s:=fun _ _ g F hr=>wpIn_ret ⟨g,F,s,hr,h⟩
def ZO (K:PFS->Prop)(Q:Exit->PFS->Prop):Exit->PFS->Prop
 | .normal,s=>K s
 | e,s=>Q e s
theorem Qe {x y:Code}(h:PWP P E x (ZO (PWP P E y Q) Q) s):PWP P E (.seq x y) Q s:=by
 intro a w g F hr;refine wpIn_seq (wpIn_mono (h a w g F hr) ?_);rintro e a w ⟨g,F,s,hr,hq⟩;cases e with
 | normal=>exact hq a w g F hr
 | _=>exact⟨g,F,s,hr,hq⟩
def XL (id:Nat)(Q:Exit->PFS->Prop):Exit->PFS->Prop
 | .exit id',s=>if id'=id then Q .normal s else Q (.exit id') s
 | e,s=>Q e s
theorem Xp {id:Nat}{c:Code}(h:PWP P E c (XL id Q) s):PWP P E (.block id c) Q s:=by
 intro a w g F hr;refine wpIn_block (wpIn_mono (h a w g F hr) ?_);rintro e a w ⟨g,F,s,hr,hq⟩;cases e with
 | exit id'=>
  simp only[Exit.inBlock,XL] at hq⊢;split;rename_i h;rw[BC h] at hq;exact⟨g,F,s,hr,hq⟩;rename_i h;rw[BA h] at hq;exact⟨g,F,s,hr,hq⟩
 | _=>exact⟨g,F,s,hr,hq⟩
theorem KH {c:Operand}{x y:Code}{t:Bool}(hc:s.ev c= .sc (.bool t))(ht:t=true->PWP P E x Q s)(hf:t=false->PWP P E y Q s):PWP P E (.cond c x y) Q s:=by intro a w g F hr;have h1:=hr.ev c;rw[hc] at h1;exact wpIn_cond_split h1.sc_inv (fun h=>ht h a w g F hr) (fun h=>hf h a w g F hr)
theorem Rl {c:Code}(I:Nat->PFS->Prop)(n:Nat)(h0:I n s)
 (round: ∀n s,I n s->PWP P E c (ZO (fun s'=> ∃m,m<n/\I m s') Q) s):PWP P E (.loop c) Q s:=by
 intro a w g F hr b k cs hro hbf hrm;have key: ∀n s a w g F,I n s->FSRep E a w g F s->
  ∃e a' w',post E Q e a' w'/\ArrivesIn (Machine.fenced P (fen E.rd)) P (lone (b.atR a (.code c:: .inLoop c::k)) cs w) b k cs e a' w':=by
  intro n
  induction n using Nat.strongRecOn with
  | _ n ih=>
   intro s a w g F hI hr;obtain⟨e,a₁,w₁,⟨g1,F1,s1,hr1,hq⟩,harr⟩:=round n s hI a w g F hr b (.inLoop c::k) cs hro hbf hrm;cases e with
   | normal=>
    obtain⟨m,hm,hI₁⟩:=hq;obtain⟨e₂,a₂,w₂,hq₂,harr₂⟩:=ih m hm s1 a₁ w₁ g1 F1 hI₁ hr1;exact⟨e₂,a₂,w₂,hq₂,.of_steps (StepsIn.trans harr (.one (fenced_calm hbf hrm rfl) stepR_inLoop)) harr₂⟩
   | exit id=>exact⟨_,a₁,w₁,⟨g1,F1,s1,hr1,hq⟩,.pass (x:= .inLoop c) rfl (fun _ _=> .inl (by simp)) harr⟩
   | goto l=>exact⟨_,a₁,w₁,⟨g1,F1,s1,hr1,hq⟩,.pass (x:= .inLoop c) rfl (fun _ _=> .inl (by simp)) harr⟩
   | ret=>exact⟨_,a₁,w₁,⟨g1,F1,s1,hr1,hq⟩,.pass (x:= .inLoop c) rfl (fun _ _=> .inl (by simp)) harr⟩
   | panic ch=>exact⟨_,a₁,w₁,⟨g1,F1,s1,hr1,hq⟩,.pass (x:= .inLoop c) rfl (fun _ _=> .inl (by simp)) harr⟩
   | outgrown=>exact⟨_,a₁,w₁,⟨g1,F1,s1,hr1,hq⟩,.pass (x:= .inLoop c) rfl (fun _ _=> .inl (by simp)) harr⟩
 obtain⟨e,a',w',hq,harr⟩:=key n s a w g F h0 hr;exact⟨e,a',w',hq,.of_steps (.one (fenced_calm hbf hrm rfl) stepR_loop) harr⟩
def Weak (E:Ent)(s s':PFS):Prop:= ∀a w g F,FSRep E a w g F s-> ∃g' F',FSRep E a w g' F' s'
theorem Weak.trans {s1 s2 s3:PFS}(h:Weak E s1 s2)(k:Weak E s2 s3):Weak E s1 s3:=fun a w g F hr=>by obtain⟨g1,F1,h1⟩:=h a w g F hr;exact k a w g1 F1 h1
theorem J0 {c:Code}{s':PFS}(hw:Weak E s s')(h:PWP P E c Q s'):PWP P E c Q s:=fun a w g F hr=>by obtain⟨g1,F1,h1⟩:=hw a w g F hr;exact h a w g1 F1 h1
end control
def PV.forget1 :PV->PV
 | .sl _ es=> .sl .no es
 | .pre all n=> .sl .no (all.take n)
 | p=>p
def PV.forget2 :PV->PV
 | .agg cs=> .agg (cs.map PV.forget1)
 | .fn f bs cs=> .fn f (bs.map PV.forget1) (cs.map PV.forget1)
 | p=>p.forget1
def PV.forgetAll :PV->PV
 | .tup cs=> .tup (cs.map PV.forget2)
 | p=>p.forget2
def PV.closed1 :PV->Bool
 | .lp _ _ | .ms false _ _ _ | .mr _ _ _ | .agg _ | .tup _ | .fn _ _ _=>false
 | .sl (.fresh _) _=>false
 | _=>true
def PV.closed2 :PV->Bool
 | .agg cs=>cs.all PV.closed1
 | .fn _ bs cs=>bs.all PV.closed1&&cs.all PV.closed1
 | p=>p.closed1
def PV.closed :PV->Bool
 | .tup cs=>cs.all PV.closed2
 | p=>p.closed2
theorem Jb {α β:Type}(f:α->β)(l:List α)(j:Nat)(d:β)(d':α)(h:j<l.length):(l.map f).getD j d=f (l.getD j d'):=by simp[q_a,BB h]
theorem QE {α:Type}(l:List α)(j:Nat)(d:α)(h:j<l.length):l.getD j d∈l:=by simp[q_a,BB h]
theorem Rep.toNo {w g v t es}(h:Rep w g v (.sl t es)):Rep w g v (.sl .no es):=by
 cases h with
 | nil t ad ht=>exact .nil .no ad rfl
 | sl t es b off sz cap cf ht hfull hcap hsz hvis hc hr=>exact .sl .no es b off sz cap cf rfl (fun h=>by cases h) hcap hsz hvis hc hr
theorem WB {α:Type}(l:List α)(n j:Nat)(d:α)(h:j<n):(l.take n).getD j d=l.getD j d:=by simp[q_a,ED,h]
theorem Rep.preNo {w g v all n}(h:Rep w g v (.pre all n)):Rep w g v (.sl .no (all.take n)):=by
 cases h with
 | pre all n b off sz cap cf hn hcap hsz hvis hc hr=>
  have hl:(all.take n).length=n:=by rw[BX];omega
  have:=Rep.sl (w:=w) (g:=g) .no (all.take n) b off sz cap cf rfl (fun h=>by cases h) oG (fun i hi=>by rw[WB _ _ _ _ oG];exact hsz i oG)
   (fun h0=>by rw[hl] at h0⊢;exact B7 (Nat.add_le_add_left (BG _ hn) _) (hvis oG)) (fun i j hi hj=>hc i j oG hj) (fun i j hi hj=>by rw[WB _ _ _ _ oG];exact hr i j oG hj)
  rw[hl] at this;exact this
theorem Rep.forget1 {w g v p}(h:Rep w g v p):Rep w g v p.forget1:=by
 cases p with
 | sl t es=>exact h.toNo
 | pre all n=>exact h.preNo
 | _=>exact h
theorem Rep.forget2 {w g v p}(h:Rep w g v p):Rep w g v p.forget2:=by
 cases p with
 | agg cs=>
  cases h with
  | agg vs cs hl h=>exact .agg vs _ (by simpa using hl) fun j hj=>by rw[Jb _ _ _ _ .junk (by simpa using hj)];exact(h j (by simpa using hj)).forget1
 | fn f bs cs=>
  cases h with
  | fn f us vs bs cs hk hl h0 h=>
   exact .fn f us vs _ _ (by simpa using hk) (by simpa using hl) (fun j hj=>by rw[Jb _ _ _ _ .junk (by simpa using hj)];exact(h0 j (by simpa using hj)).forget1)
    (fun j hj=>by rw[Jb _ _ _ _ .junk (by simpa using hj)];exact(h j (by simpa using hj)).forget1)
 | _=>exact h.forget1
theorem Rep.forgetAll {w g v p}(h:Rep w g v p):Rep w g v p.forgetAll:=by
 cases p with
 | tup cs=>
  cases h with
  | tup vs cs hl h=>exact .tup vs _ (by simpa using hl) fun j hj=>by rw[Jb _ _ _ _ .junk (by simpa using hj)];exact(h j (by simpa using hj)).forget2
 | _=>exact h.forget2
theorem RepF.forget1 {w g F T v p}(h:RepF w g F T v p)(hc:p.closed1=true):Rep w g v p.forget1:=by
 cases h with
 | base _ _ h=>exact h.forget1
 | lp i off hi=>cases hc
 | lms i off len cap hi hcap=>cases hc
 | lmr i len cap hi hcap=>cases hc
 | lmr0 i ad hi=>cases hc
 | own k es v h=>exact h
 | agg vs cs hl h=>cases hc
 | tup vs cs hl h=>cases hc
 | fn f us vs bs cs hk hl h0 h=>cases hc
theorem RepF.forget2 {w g F T v p}(h:RepF w g F T v p)(hc:p.closed2=true):Rep w g v p.forget2:=by
 cases h with
 | base _ _ h=>exact h.forget2
 | lp i off hi=>cases hc
 | lms i off len cap hi hcap=>cases hc
 | lmr i len cap hi hcap=>cases hc
 | lmr0 i ad hi=>cases hc
 | own k es v h=>exact h
 | agg vs cs hl h=>
  exact .agg vs _ (by simpa using hl) fun j hj=>by rw[Jb _ _ _ _ .junk (by simpa using hj)];exact(h j (by simpa using hj)).forget1 (List.all_eq_true.1 hc _ (QE _ _ _ (by simpa using hj)))
 | tup vs cs hl h=>cases hc
 | fn f us vs bs cs hk hl h0 h=>
  have hc:=CR.1 hc;exact .fn f us vs _ _ (by simpa using hk) (by simpa using hl) (fun j hj=>by
   rw[Jb _ _ _ _ .junk (by simpa using hj)];exact(h0 j (by simpa using hj)).forget1 (List.all_eq_true.1 hc.1 _ (QE _ _ _ (by simpa using hj)))) (fun j hj=>by
   rw[Jb _ _ _ _ .junk (by simpa using hj)];exact(h j (by simpa using hj)).forget1 (List.all_eq_true.1 hc.2 _ (QE _ _ _ (by simpa using hj))))
theorem RepF.forgetAll {w g F T v p}(h:RepF w g F T v p)(hc:p.closed=true):Rep w g v p.forgetAll:=by
 cases h with
 | base _ _ h=>exact h.forgetAll
 | lp i off hi=>cases hc
 | lms i off len cap hi hcap=>cases hc
 | lmr i len cap hi hcap=>cases hc
 | lmr0 i ad hi=>cases hc
 | own k es v h=>exact h
 | agg vs cs hl h=>exact(RepF.agg (T:=T) vs cs hl h).forget2 hc
 | tup vs cs hl h=>
  exact .tup vs _ (by simpa using hl) fun j hj=>by rw[Jb _ _ _ _ .junk (by simpa using hj)];exact(h j (by simpa using hj)).forget2 (List.all_eq_true.1 hc _ (QE _ _ _ (by simpa using hj)))
 | fn f us vs bs cs hk hl h0 h=>exact(RepF.fn (T:=T) f us vs bs cs hk hl h0 h).forget2 hc
def X2y (B:Nat)(w:World)(g:Gh)(sz:Nat)(v:Value)(es:List PV):Prop:=
 (∃b,Right w g (some b) sz v es/\B<=b/\b<w.heap.size/\(∀i,i<g.n->g.mu i≠b)/\ ∃c e,w.heap[b]?=some (.cells c e (0,0)))\/Right w g none sz v es
def RepRes (B:Nat)(w:World)(g:Gh)(v:Value):PV->Prop
 | .sl (.fresh sz) es=>Rep w g v (.sl .no es)/\X2y B w g sz v es
 | p=>Rep w g v p
def WI (w:World)(g:Gh)(vs:Array Value)(ps:List PV):Prop:=vs.size=ps.length/\ ∀j,j<ps.length->Rep w g (vs.getD j undef) (ps.getD j .junk)
def G0o (w:World)(g:Gh)(Q:PV->Qc->Prop)(e:Ending)(w':World):Prop:=
 ∃v g' r st,e= .returned v/\Ext w g w' g'/\StoreOK w' g' st/\RepRes w.heap.size w' g' v r/\Q r st
def PCalls (P:Program)(f:FuncId)(args:List PV)(st:Qc)(Q:PV->Qc->Prop):Prop:=
 ∀w g vs,StoreOK w g st->WI w g vs args->Calls P f vs w (G0o w g Q)
theorem PCalls.mono {P f args st}{Q Q':PV->Qc->Prop}(h:PCalls P f args st Q)(hq: ∀r st,Q r st->Q' r st):PCalls P f args st Q':=
 fun w g vs hs hr=>(h w g vs hs hr).mono fun _ _ ⟨v,g',r,st',he,hx,ho,hv,q⟩=>⟨v,g',r,st',he,hx,ho,hv,hq _ _ q⟩
theorem PCalls.q {P f args st}{K:PV->Qc->Prop}{R:PV}{S:Qc}(h:PCalls P f args st (fun r st'=>r=R/\st'=S))(k:K R S):PCalls P f args st K:=h.mono fun _ _ a=>by rw[a.1,a.2];exact k
theorem PCalls.w {P f args st}{K:PV->Qc->Prop}{R:PV}{S:Qc}(h:PCalls P f args st (fun r st'=>r=R/\st'=S))(k: ∀st',st'=S->K R st'):PCalls P f args st K:=h.mono fun _ _ a=>by rw[a.1];exact k _ a.2
theorem PCalls.Q {P f args st}{K:PV->Qc->Prop}{R:PV}{S:Qc}{B:Prop}(h:PCalls P f args st (fun r st'=>r=R/\st'=S))(k:B)(e:K R S=B:=by simp-dsimp only[go_sem];exact rfl):PCalls P f args st K:=h.q (e.mpr k)
theorem PCalls.Q0 {P f args st}{K:PV->Qc->Prop}{R:PV}{S:Qc}(h:PCalls P f args st (fun r st'=>r=R/\st'=S))(k:K R S:=by simp-dsimp only[go_sem]):PCalls P f args st K:=h.q k
def Ii (P:Program)(s:PFS):ResultVar->Option PV
 | .tmp t=>some (s.pa.getD t .junk)
 | .cell a t=>
  match s.pa.getD a .junk,ti P t with
  | .lp i 0,some T=>
   if T.agg then(if T.size<=(s.L.getD i []).length then some (.agg ((s.L.getD i []).take T.size)) else none)
   else(if 0<(s.L.getD i []).length then some ((s.L.getD i []).getD 0 .junk) else none)
  | .gp i 0,some T=>
   if T.agg then(if T.size<=(s.st.getD i []).length then some (.agg ((s.st.getD i []).take T.size)) else none)
   else(if 0<(s.st.getD i []).length then some ((s.st.getD i []).getD 0 .junk) else none)
  | _,_=>none
def GO (P:Program)(s:PFS):List ResultVar->Option (List PV)
 | []=>some []
 | r::rs=>match Ii P s r,GO P s rs with
  | some p,some ps=>some (p::ps)
  | _,_=>none
def WX (fz:Option Nat)(s:PFS):PV->Option PV
 | .sl .full es=>match fz,es with
  | some sz,[]=>some (.sl (.fresh sz) [])
  | _,es=>some (.sl .no es)
 | .sl (.own k) es=>some (if (s.T.getD k (0,0)).1=es.length/\k<s.T.length then .sl (.fresh (s.T.getD k (0,0)).2) es else .sl .no es)
 | p=>if p.closed then some p.forgetAll else none
def U1 (P:Program)(fz:Option Nat)(s:PFS)(rs:List ResultVar):Option PV:=
 match GO P s rs with
 | some [p]=>WX fz s p
 | some ps=>if (PV.tup ps).closed then some (PV.tup ps).forgetAll else none
 | none=>none
def Gk (P:Program)(fz:Option Nat)(fn:Func)(Q:PV->Qc->Prop):Exit->PFS->Prop
 | .normal,s | .ret,s=> ∃r,U1 P fz s fn.results.toList=some r/\Q r s.st
 | _,_=>False
theorem v0o {P:Pg}{t:Lt}{T:TI}(h:ti P t=some T)(w:Lw):(isAgg t).run P w= .ok T.agg w:=by unfold ti at h;split at h;rename_i i u hi hu;cases h;simp only[isAgg,Sem.run_bind,run_underlying hu,Result.andThen_ok];cases u<;>rfl;cases h
theorem Mq {P:Pg}{t:Lt}{T:TI}(h:ti P t=some T)(w:Lw):(sizeOf t).run P w= .ok T.size w:=by unfold ti at h;split at h;rename_i i u hi hu;cases h;simp[sizeOf,typeInfo,hi];cases h
theorem My {P:Pg}(w:Lw)(b o n:Nat)(cf:Nat->Value)(h: ∀j,j<n->w.cell? ⟨b,o+j,none⟩=some (cf j)):
 (loadCells ⟨b,o,none⟩ n).run P w= .ok ((List.range n).map cf).toArray w:=by
 have:=run_loadCells_list (P:=P) w ⟨b,o,none⟩ ((List.range n).map cf) (fun j v hv=>by
  rw[Addr.add_mid];have hj:j<n:=by have:=(E7.1 hv).1;simpa using this
  rw[h j hj];simp[EB hj] at hv;rw[hv])
 simpa using this
theorem GH {P:Pg}{t:Lt}{T:TI}(h:ti P t=some T)(w:Lw)(b o:Nat)(cf:Nat->Value)
 (hc: ∀j,j<(if T.agg then T.size else 1)->w.cell? ⟨b,o+j,none⟩=some (cf j)):
 (loadVar t ⟨b,o,none⟩).run P w= .ok (if T.agg then .agg ((List.range T.size).map cf).toArray else cf 0) w:=by
 simp only[loadVar,Sem.run_bind,v0o h,Result.andThen_ok];cases ha:T.agg with
 | true=>
  rw[ha] at hc;simp only[D4,Sem.run_bind,Mq h,Result.andThen_ok,My w b o T.size cf hc,Sem.run_pure]
 | false=>
  rw[ha] at hc;have:=hc 0 (by simp);simp only[B1] at this;simp[this]
theorem FSRep.box {E a w g F s}(h:FSRep E a w g F s)(i:Nat):Holds w (RepF w g F s.T) (F.lmu i) (s.L.getD i []):=by by_cases hn:s.L.getD i []= [];rw[hn];intro j hj;simp at hj;exact h.frame.holds i hn
theorem Holds.pick {w:Lw}{R:Value->PV->Prop}{b:Nat}{ps:Lp}(h:Holds w R b ps):
 ∃cf:Nat->Value,∀j,j<ps.length->w.cell? ⟨b,j,none⟩=some (cf j)/\R (cf j) (ps.getD j .junk):=by
 have hh: ∀j:Nat,∃c,j<ps.length->w.cell? ⟨b,j,none⟩=some c/\R c (ps.getD j .junk):=fun j=>by by_cases hj:j<ps.length;obtain⟨_,c,h1,h2⟩:=h j hj;exact⟨c,fun _=>⟨h1,h2⟩⟩;exact⟨undef,fun h=>absurd h hj⟩
 obtain⟨cf,hcf⟩:=Classical.axiomOfChoice hh;exact⟨cf,hcf⟩
def U0 (tmps:Array Value):ResultVar->Sem Value
 | .tmp t=>pure (tmps.getD t undef)
 | .cell a t=>do loadVar t (<-asAddr (tmps.getD a undef))
theorem w0y (fn:Func)(tmps:Lb):results fn tmps=(do
 let vs<-fn.results.mapM (U0 tmps)
 pure (if h:vs.size=1 then vs[0] else .tuple vs)):=by
 unfold results;congr 1
theorem FSRep.len_eq {E a w g F s}(h:FSRep E a w g F s)(t:Tmp):RepF w g F s.T (a.tmps.getD t undef) (s.pa.getD t .junk):=h.ev (.tmp t)
theorem RepF.lp_inv {w g F T v i off}(h:RepF w g F T v (.lp i off)):v= .pointer (some ⟨F.lmu i,off,none⟩):=by
 cases h with
 | base _ _ h=>cases h
 | lp=>rfl
theorem y0b {P:Pg}{E a w g F s}(h:FSRep E a w g F s){rv:ResultVar}{p:PV}(hp:Ii P s rv=some p):
 ∃v,(U0 a.tmps rv).run P w= .ok v w/\RepF w g F s.T v p:=by
 cases rv with
 | tmp t=>
  simp only[Ii,BU] at hp;subst hp;exact⟨_,rfl,h.len_eq t⟩
 | cell x t=>
  simp only[Ii] at hp;split at hp;rename_i i T hx hT;have hv:=h.len_eq x;rw[hx] at hv;have hv:=hv.lp_inv;obtain⟨cf,hcf⟩:=(h.box i).pick;cases ha:T.agg with
  | true=>
   simp only[ha,D4] at hp;split at hp;rename_i hsz;cases hp;refine⟨.agg ((List.range T.size).map cf).toArray,?_,.agg _ _ (by simp only[EY,BR,List.length_range,BX];omega) fun j hj=> ?_⟩;have:=GH hT w (F.lmu i) 0 cf (fun j hj=>by rw[ha] at hj;simp only[D4] at hj;rw[CU];exact(hcf j oG).1);simp only[U0,hv,asAddr,Sem.run_bind,Sem.run_pure,Result.andThen_ok,this,ha,D4];have hj':j<T.size:=(by simp only[BX] at hj;omega);have e1:((List.range T.size).map cf).toArray.getD j undef=cf j:=(by simp[q_f,hj']);have e2:((s.L.getD i []).take T.size).getD j .junk=(s.L.getD i []).getD j .junk:=(by simp only[q_a,ED,hj',D4]);rw[e1,e2];exact(hcf j oG).2;cases hp
  | false=>
   simp only[ha,B3,DT] at hp;split at hp;rename_i hsz;cases hp;refine⟨cf 0,?_,(hcf 0 hsz).2⟩;have:=GH hT w (F.lmu i) 0 cf (fun j hj=>by rw[ha] at hj;simp at hj;subst hj;exact(hcf 0 hsz).1);simp only[U0,hv,asAddr,Sem.run_bind,Sem.run_pure,Result.andThen_ok,this,ha,B3,DT];cases hp
  rename_i i T hx hT;have hv:=h.len_eq x;rw[hx] at hv;obtain⟨hv,hi⟩:a.tmps.getD x undef= .pointer (some ⟨g.mu i,0,none⟩)/\i<g.n:=by
   generalize a.tmps.getD x undef=v at hv;cases hv with
   | base _ _ hv=>cases hv with | gp i off hi=>exact⟨rfl,hi⟩
  obtain⟨cf,hcf⟩:=(h.store.holds i hi).pick;cases ha:T.agg with
  | true=>
   simp only[ha,D4] at hp;split at hp;rename_i hsz;cases hp;refine⟨.agg ((List.range T.size).map cf).toArray,?_,.agg _ _ (by simp only[EY,BR,List.length_range,BX];omega) fun j hj=> ?_⟩;have:=GH hT w (g.mu i) 0 cf (fun j hj=>by rw[ha] at hj;simp only[D4] at hj;rw[CU];exact(hcf j oG).1);simp only[U0,hv,asAddr,Sem.run_bind,Sem.run_pure,Result.andThen_ok,this,ha,D4];have hj':j<T.size:=(by simp only[BX] at hj;omega);have e1:((List.range T.size).map cf).toArray.getD j undef=cf j:=(by simp[q_f,hj']);have e2:((s.st.getD i []).take T.size).getD j .junk=(s.st.getD i []).getD j .junk:=(by simp only[q_a,ED,hj',D4]);rw[e1,e2];exact .base _ _ (hcf j oG).2;cases hp
  | false=>
   simp only[ha,B3,DT] at hp;split at hp;rename_i hsz;cases hp;refine⟨cf 0,?_,.base _ _ (hcf 0 hsz).2⟩;have:=GH hT w (g.mu i) 0 cf (fun j hj=>by rw[ha] at hj;simp at hj;subst hj;exact(hcf 0 hsz).1);simp only[U0,hv,asAddr,Sem.run_bind,Sem.run_pure,Result.andThen_ok,this,ha,B3,DT];cases hp
  cases hp
theorem Og {P:Pg}{E a w g F s}(h:FSRep E a w g F s): ∀(rs:List ResultVar) (ps:Lp),GO P s rs=some ps->
 ∃vs:List Value,(rs.mapM (U0 a.tmps)).run P w= .ok vs w/\vs.length=ps.length/\ ∀j,j<ps.length->RepF w g F s.T (vs.getD j undef) (ps.getD j .junk)
 | [],ps,hp=>by cases hp;exact⟨[],rfl,rfl,fun j hj=>by simp at hj⟩
 | r::rs,ps,hp=>by
  simp only[GO] at hp;split at hp;rename_i p ps' h1 h2;cases hp;obtain⟨v,hv,hr⟩:=y0b h h1;obtain⟨vs,hvs,hl,hrs⟩:=Og h rs ps' h2;refine⟨v::vs,?_,by simp[hl],fun j hj=> ?_⟩;simp only[List.mapM_cons,Sem.run_bind,hv,Result.andThen_ok,hvs,Sem.run_pure];cases j with
  | zero=>simpa using hr
  | succ j=>simpa using hrs j (by simpa using hj)
  cases hp
theorem RepF.own_inv {w g F T v k es}(h:RepF w g F T v (.sl (.own k) es)):Rep w g v (.sl .no es)/\k<T.length/\es.length<=(T.getD k (0,0)).1/\
 (es.length=(T.getD k (0,0)).1->Right w g (F.tb k) (T.getD k (0,0)).2 v es):=by
 cases h with
 | base _ _ h=>
  cases h with
  | nil t ad ht=>cases ht
  | sl t es b off sz cap cf ht=>cases ht
 | own k es v h hk hle hr=>exact⟨h,hk,hle,hr⟩
theorem jX {B w g v}{p:PV}(h:Rep w g v p)(hn: ∀sz es,p≠ .sl (.fresh sz) es):RepRes B w g v p:=by
 cases p with
 | sl t es=>
  cases t with
  | fresh sz=>exact absurd rfl (hn sz es)
  | _=>exact h
 | _=>exact h
theorem w7 {p:PV}(sz:Nat)(es:Lp):p.forgetAll≠ .sl (.fresh sz) es:=by cases p<;>simp[PV.forgetAll,PV.forget2,PV.forget1]
theorem y0c {fz:Option Nat}{E a w g F s v p r}(h:FSRep E a w g F s)(hv:RepF w g F s.T v p)(hr:WX fz s p=some r):RepRes E.w.heap.size w g v r:=by
 by_cases hp: ∃k es,p= .sl (.own k) es;obtain⟨k,es,rfl⟩:=hp;simp only[WX,BU] at hr;subst hr;obtain⟨h1,h2,h3,h4⟩:=hv.own_inv;split;rename_i hl;refine⟨h1,?_⟩;have hR:=h4 hl.1.symm;cases htb:F.tb k with
 | none=>rw[htb] at hR;exact .inr hR
 | some b=>
  rw[htb] at hR;obtain⟨t1,t2,t3⟩:=h.frame.tlo k b h2 htb;exact .inl ⟨b,hR,t1,t2,(h.frame.tapart k b h2 htb).1,t3⟩
 exact h1;by_cases hpf: ∃es,p= .sl .full es;obtain⟨es,rfl⟩:=hpf;have hfull:Rep w g v (.sl .full es):=by
  cases hv with
  | base _ _ hv=>exact hv
 cases fz with
 | none=>simp only[WX,BU] at hr;subst hr;exact hfull.toNo
 | some sz=>
  cases hes:es with
  | nil=>
   rw[hes] at hr;simp only[WX,BU] at hr;subst hr;refine⟨by rw[<-hes];exact hfull.toNo,.inr ⟨?_,rfl⟩⟩;cases hfull with
   | nil t ad ht=>exact .inr ⟨_,rfl⟩
   | sl t es b off sz cap cf ht hf hcap hsz hvis hc hr=>exact .inr ⟨_,by rw[hf rfl,hes]⟩
  | cons x es'=>
   rw[hes] at hr;simp only[WX,BU] at hr;subst hr;rw[<-hes];exact hfull.toNo
 have e:WX fz s p=if p.closed then some p.forgetAll else none:=by unfold WX;split;rename_i es;exact absurd ⟨es,rfl⟩ hpf;rename_i k es;exact absurd ⟨k,es,rfl⟩ hp;rfl
 rw[e] at hr;split at hr;rename_i hc;cases hr;exact jX (hv.forgetAll hc) w7;cases hr
theorem zx {P:Pg}{fz:Option Nat}{E a w g F s}(h:FSRep E a w g F s){fn:Func}{r:PV}(hr:U1 P fz s fn.results.toList=some r):
 ∃v,(results fn a.tmps).run P w= .ok v w/\RepRes E.w.heap.size w g v r:=by
 unfold U1 at hr;cases hp:GO P s fn.results.toList with
 | none=>rw[hp] at hr;cases hr
 | some ps=>
  rw[hp] at hr;obtain⟨vs,hvs,hl,hrs⟩:=Og h _ _ hp;have hrun:(results fn a.tmps).run P w= .ok (if h:vs.toArray.size=1 then vs.toArray[0] else .tuple vs.toArray) w:=by rw[w0y,Array.mapM_eq_mapM_toList];simp only[Sem.run_bind,Sem.run_map,hvs,Result.andThen_ok,Sem.run_pure]
  match ps,hr,hl,hrs with
  | [p],hr,hl,hrs=>
   match vs,hl,hrs,hrun with
   | [v],hl,hrs,hrun=>
    refine⟨v,by simpa using hrun,?_⟩;have:=hrs 0 (by simp);exact y0c h (by simpa using this) hr
  | [],hr,hl,hrs=>
   have hn: ¬(vs.toArray.size=1):=(by simp[hl]);rw[dif_neg hn] at hrun;refine⟨_,hrun,?_⟩;simp only at hr;split at hr;rename_i hc;cases hr;exact jX (RepF.forgetAll (F:=F) (T:=s.T) (.tup vs.toArray [] (by simpa using hl) (fun j hj=>by simp at hj)) hc) w7;cases hr
  | p::q::ps,hr,hl,hrs=>
   have hn: ¬(vs.toArray.size=1):=(by simp[hl]);rw[dif_neg hn] at hrun;refine⟨_,hrun,?_⟩;simp only at hr;split at hr;rename_i hc;cases hr;refine jX (RepF.forgetAll (F:=F) (T:=s.T) (.tup vs.toArray _ (by simpa using hl) (fun j hj=> ?_)) hc) w7;have:=hrs j hj;simpa[q_a,q_f] using this;cases hr
def Vx (fn:Func)(args:List PV)(st:Qc):PFS:=⟨args++List.replicate (fn.ntmps-args.length) .junk,[],[],st⟩
theorem Qh (fz:Option Nat){P:Pg}{f:FuncId}{fn:Func}{c:Code}{args:Lp}{st:Qc}{Q:PV->Qc->Prop}
 (hf:P.funcs[f]?=some fn) (hb:fn.body=some c) (h: ∀E,PWP P E c (Gk P fz fn Q) (Vx fn args st)):PCalls P f args st Q:=by
 intro w g vs hs hr;refine calls_of_wp hf hb ((wpIn_wide (n:=0)).1 (wpIn_mono (F:=Fence.wide) (h ⟨w,g,none,[]⟩ _ w g ⟨0,fun _=>0,fun _=>none⟩ ?_) ?_));refine⟨.refl _ _,hs,?_,rfl,by simp[Vx,hr.1],fun t ht=> ?_⟩;constructor<;>intros<;>simp_all [Vx];simp only[Vx];by_cases hlt:t<args.length;have e1:(args++List.replicate (fn.ntmps-args.length) PV.junk).getD t .junk=args.getD t .junk:=by simp[q_a,B6 hlt]
 have e2:(vs++Array.replicate (fn.ntmps-vs.size) undef).getD t undef=vs.getD t undef:=by
  have:t<vs.size:=by rw[hr.1];exact hlt
  simp[q_f,Array.getElem?_append_left this]
 rw[e1,e2];exact .base _ _ (hr.2 t hlt);have e1:(args++List.replicate (fn.ntmps-args.length) PV.junk).getD t .junk= .junk:=by rw[q_a,CA oG,List.getElem?_replicate];split<;>rfl
 rw[e1];exact .base _ _ (.junk _);rintro e a w' ⟨g',F,s,hrep,hq⟩;cases e with
 | normal=>
  obtain⟨r,hr1,hq⟩:=hq;obtain⟨v,hv,hres⟩:=zx hrep hr1;exact⟨hrep.defers,v,hv,v,g',r,s.st,rfl,hrep.ext,hrep.store,hres,hq⟩
 | ret=>
  obtain⟨r,hr1,hq⟩:=hq;obtain⟨v,hv,hres⟩:=zx hrep hr1;exact⟨hrep.defers,v,hv,v,g',r,s.st,rfl,hrep.ext,hrep.store,hres,hq⟩
 | _=>exact hq.elim
structure Chg (w:World) (g:Gh) (w':World) (g':Gh) (X:Nat->Prop):Prop where
 le:Le w g w' g'
 os:w'.os=w.os
 tape:w'.tape=w.tape
 output:w'.output=w.output
 size:w.heap.size<=w'.heap.size
 old: ∀b,b<w.heap.size-> ¬X b->w'.heap[b]?=w.heap[b]?/\g'.vis b=g.vis b
 new: ∀i,g.n<=i->i<g'.n->w.heap.size<=g'.mu i
theorem Ext.chg {w g w' g'}(h:Ext w g w' g'):Chg w g w' g' (fun b=> ∃i,i<g.n/\g.mu i=b):=
 ⟨h.le,h.os,h.tape,h.output,h.size,fun b hb hn=>h.old b hb (fun i hi e=>hn ⟨i,hi,e⟩),h.new⟩
theorem Ext.step {w0 g0 w g w' g' X}(h:Ext w0 g0 w g)(k:Chg w g w' g' X)(hX: ∀b,X b->w0.heap.size<=b\/ ∃i,i<g0.n/\g0.mu i=b):Ext w0 g0 w' g':=by refine⟨h.le.trans k.le,k.os.trans h.os,k.tape.trans h.tape,k.output.trans h.output,B7 h.size k.size,fun b hb hn=> ?_,fun i hi hi'=> ?_⟩;have h1:=h.old b hb hn;have h2:=k.old b (q_e hb h.size) (fun hx=>by rcases hX b hx with h | ⟨i,hi,e⟩;omega;exact hn i hi e);exact⟨h2.1.trans h1.1,h2.2.trans h1.2⟩;by_cases hin:i<g.n;rw[k.le.mu i hin];exact h.new i hi hin;have:=k.new i oG hi';have:=h.size;omega
def K6 (w:World)(g:Gh)(F:Fr)(T:List (Nat×Nat))(w':World)(g':Gh)(F':Fr)(T':List (Nat×Nat)):Prop:=
 T.length<=T'.length/\ ∀k,k<T.length->(T.getD k (0,0)).1<=(T'.getD k (0,0)).1/\
  ((T.getD k (0,0)).1=(T'.getD k (0,0)).1-> ∀v es,Right w g (F.tb k) (T.getD k (0,0)).2 v es->Right w' g' (F'.tb k) (T'.getD k (0,0)).2 v es)
theorem RepF.mono {w g F T w' g' F' T'}(h:Le w g w' g')(hl:F.nl<=F'.nl)(hm: ∀i,i<F.nl->F'.lmu i=F.lmu i)(ht:K6 w g F T w' g' F' T'):
 ∀ {v p},RepF w g F T v p->RepF w' g' F' T' v p:=by
 intro v p hr
 induction hr with
 | base v p hp=>exact .base v p (hp.mono h)
 | lp i off hi=>rw[<-hm i hi];exact .lp i off (q_e hi hl)
 | lms i off len cap hi hcap=>rw[<-hm i hi];exact .lms i off len cap (q_e hi hl) hcap
 | lmr i len cap hi hcap=>rw[<-hm i hi];exact .lmr i len cap (q_e hi hl) hcap
 | lmr0 i ad hi=>exact .lmr0 i ad (q_e hi hl)
 | own k es v hp hk hle hr=>
  obtain⟨t1,t2⟩:=ht.2 k hk;exact .own k es v (hp.mono h) (q_e hk ht.1) (B7 hle t1) (fun e=>t2 oG v es (hr oG))
 | agg vs cs hl' _ ih=>exact .agg vs cs hl' ih
 | tup vs cs hl' _ ih=>exact .tup vs cs hl' ih
 | fn f us vs bs cs hk hl' _ _ ih0 ih=>exact .fn f us vs bs cs hk hl' ih0 ih
theorem Holds.mono {w w':Lw}{R R':Value->PV->Prop}{b:Nat}{ps:Lp}(h:Holds w R b ps)(hb:w'.heap[b]?=w.heap[b]?)(hr: ∀v p,R v p->R' v p):Holds w' R' b ps:=by intro j hj;obtain⟨h1,c,h2,h3⟩:=h j hj;exact⟨(World.frozen?_of_block (w:=w) (w':=w') (a:=⟨b,j,none⟩) hb).trans h1,c,(World.cell?_of_block (w:=w) (w':=w') (a:=⟨b,j,none⟩) hb).trans h2,hr _ _ h3⟩
theorem Right.mono {w g w' g' tb sz v es}(h:Right w g tb sz v es)(hb: ∀b,tb=some b->w'.heap[b]?=w.heap[b]?/\g'.vis b=g.vis b):Right w' g' tb sz v es:=by
 cases tb with
 | none=>exact h
 | some b=>
  obtain⟨off,cap,h1,h2,h3,h4,h5⟩:=h;obtain⟨e1,e2⟩:=hb b rfl;exact⟨off,cap,h1,h2,by rw[e2];exact h3,h4,fun o ho=>by rw[World.cell?_of_block (w:=w) (w':=w') (a:=⟨b,o,none⟩) e1];exact h5 o ho⟩
theorem FrameOK.step {w g F L T B w' g' X}(h:FrameOK w g F L T B)(k:Chg w g w' g' X)(hL: ∀i,L.getD i []≠ []-> ¬X (F.lmu i))(hT: ∀i b,i<T.length->F.tb i=some b-> ¬X b):
 FrameOK w' g' F L T B/\ ∀v p,RepF w g F T v p->RepF w' g' F T v p:=by
 have ht:K6 w g F T w' g' F T:=⟨BD _,fun i hi=>⟨BD _,fun _ v es hR=>hR.mono fun b hb=>k.old b (h.tlo i b hi hb).2.1 (hT i b hi hb)⟩⟩;have hm: ∀v p,RepF w g F T v p->RepF w' g' F T v p:=fun v p hr=>hr.mono k.le (BD _) (fun _ _=>rfl) ht;refine⟨⟨h.nl,fun i hi=> ?_,fun i hi j hj e=> ?_,h.inj,fun i hi=> ?_,fun i b hi hb=> ?_,fun i b hi hb=> ?_,h.tinj⟩,hm⟩;obtain⟨a1,a2,a3⟩:=h.lo i hi;exact⟨a1,q_e a2 k.size,(k.old _ a2 (hL i hi)).2.trans a3⟩;by_cases hj':j<g.n;rw[k.le.mu j hj'] at e;exact h.apart i hi j hj' e;have:=k.new j oG hj;have:=(h.lo i hi).2.1;omega;exact(h.holds i hi).mono (k.old _ (h.lo i hi).2.1 (hL i hi)).1 hm;obtain⟨a1,a2,c,e,a3⟩:=h.tlo i b hi hb;exact⟨a1,q_e a2 k.size,c,e,(k.old _ a2 (hT i b hi hb)).1.trans a3⟩;obtain⟨a1,a2⟩:=h.tapart i b hi hb;refine⟨fun j hj e=> ?_,a2⟩;by_cases hj':j<g.n;rw[k.le.mu j hj'] at e;exact a1 j hj' e;have:=k.new j oG hj;have:=(h.tlo i b hi hb).2.1;omega
theorem StoreOK.step {w g st w' g' X}(h:StoreOK w g st)(k:Chg w g w' g' X)(hn:g'.n=g.n)(hX: ∀i,i<g.n-> ¬X (g.mu i))(hz: ∀b,w'.heap.size<=b->g'.vis b=0):StoreOK w' g' st:=by refine⟨hn.trans h.n,fun i j hi hj e=> ?_,fun i hi=> ?_,fun i hi hne=> ?_,fun i hi=> ?_,hz,h.tab.mono k.le⟩;rw[hn] at hi hj;rw[k.le.mu i hi,k.le.mu j hj] at e;exact h.inj i j hi hj e;rw[hn] at hi;rw[k.le.mu i hi];exact q_e (h.lt i hi) k.size;rw[hn] at hi;rw[k.le.mu i hi,(k.old _ (h.lt i hi) (hX i hi)).2];exact h.vis i hi hne;rw[hn] at hi;rw[k.le.mu i hi];exact(h.holds i hi).mono (k.old _ (h.lt i hi) (hX i hi)).1 fun v p hr=>hr.mono k.le
theorem FSRep.still {E a w g F s w' g'}(h:FSRep E a w g F s)(k:Chg w g w' g' (fun _=>False))(hn:g'.n=g.n)(hz: ∀b,w'.heap.size<=b->g'.vis b=0):
 FSRep E a w' g' F s/\ ∀v p,RepF w g F s.T v p->RepF w' g' F s.T v p:=by
 obtain⟨f1,f2⟩:=h.frame.step k (fun _ _ h=>h) (fun _ _ _ _ h=>h);exact⟨⟨h.ext.step k (fun _ h=>h.elim),h.store.step k hn (fun _ _ h=>h) hz,f1,h.defers,h.len,fun t ht=>f2 _ _ (h.tmps t ht)⟩,f2⟩
theorem FSRep.put {E a w g F s}(h:FSRep E a w g F s)(d:Po){v:Value}{p:PV}(hv:RepF w g F s.T v p):FSRep E (a.put d v) w g F (s.put d p):=by
 cases d with
 | none=>exact h
 | some d=>
  refine⟨h.ext,h.store,h.frame,h.defers,by simp[Act.put,PFS.put,h.len],fun t ht=> ?_⟩;simp only[Act.put,PFS.put,BL] at ht⊢;by_cases hd:d=t;subst hd;have e1:(a.tmps.setIfInBounds d v).getD d undef=v:=by rw[q_f,Array.getElem?_setIfInBounds_self_of_lt (by rw[h.len];exact ht)];rfl
  have e2:(s.pa.set d p).getD d .junk=p:=by rw[q_a,FW ht];rfl
  rw[e1,e2];exact hv;have e1:(a.tmps.setIfInBounds d v).getD t undef=a.tmps.getD t undef:=(by rw[q_f,Array.getElem?_setIfInBounds_ne hd,<-q_f]);have e2:(s.pa.set d p).getD t .junk=s.pa.getD t .junk:=(by rw[q_a,DR hd,<-q_a]);rw[e1,e2];exact h.tmps t ht
theorem qb (w:Lw)(g:Gh)(o:Obj)(n:Nat)(hz: ∀b,w.heap.size<=b->g.vis b=0):
 Chg w g (w.alloc o) { g with vis:=fun b=>if b=w.heap.size then n else g.vis b } (fun _=>False)/\
 ∀b,(w.alloc o).heap.size<=b->(if b=w.heap.size then n else g.vis b)=0:=by
 refine⟨⟨⟨BD _,fun _ _=>rfl,fun b=> ?_,fun b o' c ho hc=> ?_⟩,rfl,rfl,rfl,by simp,fun b hb _=>⟨heap_alloc_old w o hb,by simp[Nat.ne_of_lt hb]⟩,fun i h1 h2=>by simp at h2;omega⟩,fun b hb=> ?_⟩;simp only;split;rename_i e;subst e;rw[hz _ (BD _)];exact CX _;exact BD _;have:=World.block_lt_of_cell? w _ hc;rw[World.cell?_alloc_lt w o _ this];exact hc;rw[World.size_alloc] at hb;rw[BA oG];exact hz b oG
theorem qa (w:Lw)(g:Gh):Chg w g w.drew g (fun _=>False):=
 ⟨⟨BD _,fun _ _=>rfl,fun _=>BD _,fun b o c _ hc=>hc⟩,rfl,rfl,rfl,BD _,fun _ _ _=>⟨rfl,rfl⟩,fun i h1 h2=>oG⟩
theorem FSRep.drew {E a w g F s}(h:FSRep E a w g F s):FSRep E a w.drew g F s/\ ∀v p,RepF w g F s.T v p->RepF w.drew g F s.T v p:=
 h.still (qa w g) rfl h.store.none
theorem FSRep.box_new_le {E a w g F s}(h:FSRep E a w g F s)(ty:Lt)(vs:Lb)(ps:Lp)(hl:ps.length<=vs.size)
 (hr: ∀j,j<ps.length->RepF w g F s.T (vs.getD j undef) (ps.getD j .junk)):
 ∃g' F',FSRep E a (w.alloc (.cells vs ty)) g' F' { s with L:=s.L++ [ps] } /\F'.lmu s.L.length=w.heap.size/\s.L.length<F'.nl/\
  ∀v p,RepF w g F s.T v p->RepF (w.alloc (.cells vs ty)) g' F' s.T v p:=by
 obtain⟨k,hz⟩:=qb w g (.cells vs ty) 0 h.store.none;obtain⟨f1,f2⟩:=h.frame.step k (fun _ _ h=>h) (fun _ _ _ _ h=>h)
 let F':Fr:=⟨s.L.length+1,fun i=>if i=s.L.length then w.heap.size else F.lmu i,F.tb⟩
 have hnl:=h.frame.nl;have hm: ∀v p,RepF w g F s.T v p->RepF (w.alloc (.cells vs ty)) { g with vis:=fun b=>if b=w.heap.size then 0 else g.vis b } F' s.T v p:=fun v p hp=>
  RepF.mono (F:=F) (F':=F') (.refl _ _) (by simp[F',hnl]) (fun i hi=>by simp only[F'];rw[BA oG]) ⟨BD _,fun i hi=>⟨BD _,fun _ _ _ hR=>hR⟩⟩ (f2 v p hp)
 have hgetL: ∀i,(s.L++ [ps]).getD i []≠ []->(i<s.L.length/\(s.L++ [ps]).getD i []=s.L.getD i []/\F'.lmu i=F.lmu i)\/(i=s.L.length/\(s.L++ [ps]).getD i []=ps/\F'.lmu i=w.heap.size):=by intro i hi;by_cases hlt:i<s.L.length;refine .inl ⟨hlt,?_,by simp only[F'];rw[BA oG]⟩;rw[q_a,B6 hlt,<-q_a];by_cases he:i=s.L.length;subst he;exact .inr ⟨rfl,by simp[q_a],by simp[F']⟩;exfalso;apply hi;rw[q_a,C2 (by simp;omega)];rfl
 refine⟨_,F',⟨h.ext.step k (fun _ h=>h.elim),h.store.step k rfl (fun _ _ h=>h) hz,?_,h.defers,h.len,fun t ht=>hm _ _ (h.tmps t ht)⟩,by simp[F'],by simp[F'],hm⟩;refine⟨by simp[F'],fun i hi=> ?_,fun i hi j hj e=> ?_,fun i j hi hj e=> ?_,fun i hi=> ?_,f1.tlo,fun i b hi hb=>⟨(f1.tapart i b hi hb).1,fun i' hi' e=> ?_⟩,f1.tinj⟩;rcases hgetL i hi with ⟨_,e1,e2⟩ | ⟨_,e1,e2⟩;rw[e1] at hi;rw[e2];exact f1.lo i hi;rw[e2];exact⟨h.ext.size,by simp,by simp⟩;rcases hgetL i hi with ⟨_,e1,e2⟩ | ⟨_,e1,e2⟩;rw[e1] at hi;rw[e2] at e;exact f1.apart i hi j hj e;rw[e2] at e;have:=h.store.lt j hj;simp only at e;omega;rcases hgetL i hi with ⟨l1,e1,e2⟩ | ⟨l1,e1,e2⟩<;>rcases hgetL j hj with ⟨l1',e1',e2'⟩ | ⟨l1',e1',e2'⟩;rw[e1] at hi;rw[e1'] at hj;rw[e2,e2'] at e;exact f1.inj i j hi hj e;rw[e1] at hi;rw[e2,e2'] at e;have:=(h.frame.lo i hi).2.1;omega;rw[e1'] at hj;rw[e2,e2'] at e;have:=(h.frame.lo j hj).2.1;omega;omega;rcases hgetL i hi with ⟨_,e1,e2⟩ | ⟨_,e1,e2⟩;rw[e1] at hi;rw[e1,e2];exact(h.frame.holds i hi).mono (heap_alloc_old w _ (h.frame.lo i hi).2.1) hm;rw[e1,e2];intro j hj;refine⟨World.frozen?_alloc_new w vs ty j,vs.getD j undef,?_,hm _ _ (hr j hj)⟩;rw[World.cell?_alloc_new,q_f,CW oG];rfl;rcases hgetL i' hi' with ⟨_,e1,e2⟩ | ⟨_,e1,e2⟩;rw[e1] at hi';rw[e2] at e;exact(f1.tapart i b hi hb).2 i' hi' e;rw[e2] at e;have:=(h.frame.tlo i b hi hb).2.1;omega
theorem FSRep.box_new {E a w g F s}(h:FSRep E a w g F s)(ty:Lt)(vs:Lb)(ps:Lp)(hl:vs.size=ps.length)
 (hr: ∀j,j<ps.length->RepF w g F s.T (vs.getD j undef) (ps.getD j .junk)):
 ∃g' F',FSRep E a (w.alloc (.cells vs ty)) g' F' { s with L:=s.L++ [ps] } /\F'.lmu s.L.length=w.heap.size/\s.L.length<F'.nl/\
  ∀v p,RepF w g F s.T v p->RepF (w.alloc (.cells vs ty)) g' F' s.T v p:=h.box_new_le ty vs ps oG hr
def Q4 {α:Type}(l:List α)(o:Nat)(r:List α):List α:=l.take o++r++l.drop (o+r.length)
theorem Y4 {α:Type}(l:List α)(o:Nat)(r:List α)(h:o+r.length<=l.length):(Q4 l o r).length=l.length:=by simp[Q4];omega
theorem Y5 {α:Type}(l:List α)(o:Nat)(r:List α)(h:o+r.length<=l.length)(j:Nat)(d:α):
 (Q4 l o r).getD j d=if o<=j/\j<o+r.length then r.getD (j-o) d else l.getD j d:=by
 unfold Q4;simp only[q_a];by_cases h1:j<o;rw[BA oG,BP,B6 (by simp;omega),List.getElem?_take_of_lt h1];by_cases h2:j<o+r.length;rw[BC ⟨oG,h2⟩,BP,CA (by simp;omega)];have e:j-(l.take o).length=j-o:=(by simp;omega);rw[e,B6 oG];rw[BA oG,CA (by simp;omega),DH];congr 2;simp;omega
theorem jH (b:Nat): ∀(vs:Ps) (o:Nat) (w:Lw) (b':Nat),b'≠b->(w.setCells b o vs).heap[b']?=w.heap[b']?
 | [],_,_,_,_=>rfl
 | v::r,o,w,b',h=>by simp only[World.setCells];rw[jH b r (o+1) _ b' h];simp only[World.setCell,Array.getElem?_modify];rw[BA oG]
theorem WT (b:Nat): ∀(vs:Ps) (o:Nat) (w:Lw),(w.setCells b o vs).heap.size=w.heap.size
 | [],_,_=>rfl
 | v::r,o,w=>by simp only[World.setCells];rw[WT b r (o+1) _];simp
theorem Md (b:Nat): ∀(vs:Ps) (o:Nat) (w:Lw),(w.setCells b o vs).os=w.os/\(w.setCells b o vs).tape=w.tape/\(w.setCells b o vs).output=w.output
 | [],_,_=>⟨rfl,rfl,rfl⟩
 | v::r,o,w=>by simp only[World.setCells];exact Md b r (o+1) _
theorem yq {w:Lw}{g:Gh}(b o:Nat)(vs:Ps)(hv:g.vis b<=o):Chg w g (w.setCells b o vs) g (fun x=>x=b):=by obtain⟨e1,e2,e3⟩:=Md b vs o w;refine⟨⟨BD _,fun _ _=>rfl,fun _=>BD _,fun b' o' c ho hc=> ?_⟩,e1,e2,e3,by rw[WT];exact BD _,fun b' _ hb=>⟨jH b vs o w b' hb,rfl⟩,fun i h1 h2=>oG⟩;rw[World.cell?_setCells_out b vs o w ⟨b',o',none⟩ (fun h _=> .inl (by simp only at h⊢;subst h;omega))];exact hc
theorem Holds.set {w:Lw}{R R':Value->PV->Prop}{b:Nat}{ps:Lp}(h:Holds w R b ps)(o:Nat)(vs:Ps)(qs:Lp)(hl:vs.length=qs.length)(hlen:o+qs.length<=ps.length)
 (hR: ∀v p,R v p->R' v p) (hq: ∀j,j<qs.length->R' (vs.getD j undef) (qs.getD j .junk)):Holds (w.setCells b o vs) R' b (Q4 ps o qs):=by
 intro j hj;rw[Y4 _ _ _ hlen] at hj;obtain⟨h1,c,h2,h3⟩:=h j hj;refine⟨by rw[World.frozen?_setCells];exact h1,?_⟩;rw[Y5 _ _ _ hlen];by_cases hin:o<=j/\j<o+qs.length;rw[BC hin];obtain⟨k,rfl⟩:=Nat.exists_eq_add_of_le hin.1;have hk:k<vs.length:=oG;refine⟨vs.getD k undef,?_,?_⟩;rw[World.cell?_setCells_in b vs o w (fun j hj=>by obtain⟨_,c,hc,_⟩:=h (o+j) oG;rw[hc];rfl) k hk];simp[q_a,hk];rw[DY];exact hq k oG;rw[BA hin];refine⟨c,?_,hR _ _ h3⟩;rw[World.cell?_setCells_out b vs o w ⟨b,j,none⟩ (fun _ _=>by simp only;omega)];exact h2
theorem Z0 {α:Type}(l:List α)(i:Nat)(x d:α)(h:i<l.length):(l.set i x).getD i d=x:=by rw[q_a,FW h];rfl
theorem Z3 {α:Type}(l:List α)(i j:Nat)(x d:α)(h:i≠j):(l.set i x).getD j d=l.getD j d:=by rw[q_a,DR h,<-q_a]
theorem FSRep.storeL {E a w g F s}(h:FSRep E a w g F s)(i o:Nat)(vs:Ps)(qs:Lp)(hl:vs.length=qs.length)(hne:s.L.getD i []≠ [])(hlen:o+qs.length<=(s.L.getD i []).length)
 (hq: ∀j,j<qs.length->RepF w g F s.T (vs.getD j undef) (qs.getD j .junk)):
 FSRep E a (w.setCells (F.lmu i) o vs) g F { s with L:=s.L.set i (Q4 (s.L.getD i []) o qs) } /\ ∀v p,RepF w g F s.T v p->RepF (w.setCells (F.lmu i) o vs) g F s.T v p:=by
 obtain⟨l1,l2,l3⟩:=h.frame.lo i hne;have k:=yq (w:=w) (g:=g) (F.lmu i) o vs (by rw[l3];exact CX _);have hi:i<s.L.length:=by apply ES;intro hle;apply hne;rw[q_a,C2 hle];rfl
 have ht:K6 w g F s.T (w.setCells (F.lmu i) o vs) g F s.T:=⟨BD _,fun t ht=>⟨BD _,fun _ v es hR=>hR.mono fun b hb=>
  k.old b (h.frame.tlo t b ht hb).2.1 (fun e=>(h.frame.tapart t b ht hb).2 i hne e.symm)⟩⟩
 have hm: ∀v p,RepF w g F s.T v p->RepF (w.setCells (F.lmu i) o vs) g F s.T v p:=fun v p hr=>RepF.mono (F:=F) (F':=F) k.le (BD _) (fun _ _=>rfl) ht hr;have hg: ∀j,(s.L.set i (Q4 (s.L.getD i []) o qs)).getD j []≠ []->s.L.getD j []≠ []/\(j≠i->(s.L.set i (Q4 (s.L.getD i []) o qs)).getD j []=s.L.getD j []):=by intro j hj;by_cases e:i=j;subst e;exact⟨hne,fun h=>absurd rfl h⟩;rw[Z3 _ _ _ _ _ e] at hj⊢;exact⟨hj,fun _=>rfl⟩
 refine⟨⟨h.ext.step k (fun b e=> .inl (by subst e;exact l1)),h.store.step k rfl (fun j hj e=>h.frame.apart i hne j hj e) (fun b hb=>by rw[WT] at hb;exact h.store.none b hb),?_,h.defers,h.len,fun t ht=>hm _ _ (h.tmps t ht)⟩,hm⟩;refine⟨by simp[h.frame.nl],fun j hj=> ?_,fun j hj=>h.frame.apart j (hg j hj).1,fun j j' hj hj'=>h.frame.inj j j' (hg j hj).1 (hg j' hj').1,fun j hj=> ?_,fun t b ht hb=> ?_,fun t b ht hb=>⟨(h.frame.tapart t b ht hb).1,fun j hj=>(h.frame.tapart t b ht hb).2 j (hg j hj).1⟩,h.frame.tinj⟩;obtain⟨a1,a2,a3⟩:=h.frame.lo j (hg j hj).1;exact⟨a1,by rw[WT];exact a2,a3⟩;by_cases e:j=i;subst e;simp only;rw[Z0 _ _ _ _ hi];exact(h.frame.holds j hne).set o vs qs hl hlen hm (fun j hj=>hm _ _ (hq j hj));simp only;rw[(hg j hj).2 e];exact(h.frame.holds j (hg j hj).1).mono (k.old _ (h.frame.lo j (hg j hj).1).2.1 (fun e'=>e (h.frame.inj j i (hg j hj).1 hne e'))).1 hm;obtain⟨a1,a2,c,e,a3⟩:=h.frame.tlo t b ht hb;exact⟨a1,by rw[WT];exact a2,c,e,by rw[jH _ _ _ _ _ (fun e=>(h.frame.tapart t b ht hb).2 i hne e.symm)];exact a3⟩
theorem FSRep.storeG {E a w g F s}(h:FSRep E a w g F s)(hin:E.g.n<=g.n)(i o:Nat)(vs:Ps)(qs:Lp)(hl:vs.length=qs.length)(hi:i<g.n)(hne:s.st.getD i []≠ [])(hlen:o+qs.length<=(s.st.getD i []).length)
 (hq: ∀j,j<qs.length->Rep w g (vs.getD j undef) (qs.getD j .junk)):
 FSRep E a (w.setCells (g.mu i) o vs) g F { s with st:=s.st.set i (Q4 (s.st.getD i []) o qs) } :=by
 have l2:=h.store.lt i hi;have l3:=h.store.vis i hi hne;have k:=yq (w:=w) (g:=g) (g.mu i) o vs (by rw[l3];exact CX _);obtain⟨f1,f2⟩:=h.frame.step k (fun j hj e=>h.frame.apart j hj i hi e.symm) (fun t b ht hb e=>(h.frame.tapart t b ht hb).1 i hi e.symm);have hi':i<s.st.length:=(by rw[<-h.store.n];exact hi);have hg: ∀j,j<g.n->j≠i->(s.st.set i (Q4 (s.st.getD i []) o qs)).getD j []=s.st.getD j []:=fun j hj e=>Z3 _ _ _ _ _ (fun e'=>e e'.symm);refine⟨h.ext.step k (fun b e=> ?_),⟨?_,h.store.inj,fun j hj=>by rw[WT];exact h.store.lt j hj,fun j hj hn=> ?_,fun j hj=> ?_,fun b hb=>by rw[WT] at hb;exact h.store.none b hb,h.store.tab.mono k.le⟩,f1,h.defers,h.len,fun t ht=>f2 _ _ (h.tmps t ht)⟩;subst e;by_cases hin':i<E.g.n;exact .inr ⟨i,hin',(h.ext.le.mu i hin').symm⟩;exact .inl (h.ext.new i oG hi);simp[h.store.n];by_cases e:j=i;subst e;exact l3;simp only at hn;rw[hg j hj e] at hn;exact h.store.vis j hj hn;simp only;by_cases e:j=i;subst e;rw[Z0 _ _ _ _ hi'];exact(h.store.holds j hj).set o vs qs hl hlen (fun v p hr=>hr.mono k.le) (fun j hj=>(hq j hj).mono k.le);rw[hg j hj e];exact(h.store.holds j hj).mono (k.old _ (h.store.lt j hj) (fun e'=>e (h.store.inj j i hj hi e'))).1 fun v p hr=>hr.mono k.le
theorem FSRep.called {E a w g F s w' g' st'}(h:FSRep E a w g F s)(hx:Ext w g w' g')(hs:StoreOK w' g' st'):
 FSRep E a w' g' F { s with st:=st' } /\ ∀v p,RepF w g F s.T v p->RepF w' g' F s.T v p:=by
 have k:=hx.chg;obtain⟨f1,f2⟩:=h.frame.step k (fun i hi ⟨j,hj,e⟩=>h.frame.apart i hi j hj e) (fun t b ht hb ⟨j,hj,e⟩=>(h.frame.tapart t b ht hb).1 j hj e);exact⟨⟨h.ext.trans hx,hs,f1,h.defers,h.len,fun t ht=>f2 _ _ (h.tmps t ht)⟩,f2⟩
theorem FSRep.mint {E a w g F s}(h:FSRep E a w g F s)(n sz:Nat)(tb:Option Nat)
 (ht: ∀b,tb=some b->E.w.heap.size<=b/\b<w.heap.size/\(∃c e,w.heap[b]?=some (.cells c e (0,0)))/\(∀j,j<g.n->g.mu j≠b)/\(∀i,s.L.getD i []≠ []->F.lmu i≠b)/\ ∀k,k<s.T.length->F.tb k≠some b):
 ∃F',FSRep E a w g F' { s with T:=s.T++ [(n,sz)] } /\F'.tb s.T.length=tb/\F'.lmu=F.lmu/\F'.nl=F.nl/\ ∀v p,RepF w g F s.T v p->RepF w g F' (s.T++ [(n,sz)]) v p:=by
 let F':Fr:=⟨F.nl,F.lmu,fun k=>if k=s.T.length then tb else F.tb k⟩
 have old: ∀k,k<s.T.length->F'.tb k=F.tb k:=fun k hk=>by simp only[F'];rw[BA oG]
 have oldT: ∀k,k<s.T.length->(s.T++ [(n,sz)]).getD k (0,0)=s.T.getD k (0,0):=fun k hk=>(by rw[q_a,B6 hk,<-q_a]);have htl:K6 w g F s.T w g F' (s.T++ [(n,sz)]):=⟨by simp,fun k hk=>by rw[oldT k hk,old k hk];exact⟨BD _,fun _ v es hR=>hR⟩⟩;have hm: ∀v p,RepF w g F s.T v p->RepF w g F' (s.T++ [(n,sz)]) v p:=fun v p hr=>RepF.mono (F:=F) (F':=F') (.refl _ _) (BD _) (fun _ _=>rfl) htl hr;have case: ∀k,k<(s.T++ [(n,sz)]).length->k<s.T.length\/k=s.T.length:=fun k hk=>by simp at hk;omega
 have htb:F'.tb s.T.length=tb:=(by simp[F']);refine⟨F',⟨h.ext,h.store,⟨h.frame.nl,h.frame.lo,h.frame.apart,h.frame.inj,fun i hi=>(h.frame.holds i hi).mono rfl hm,fun k b hk hb=> ?_,fun k b hk hb=> ?_,fun k k' b hk hk' hb hb'=> ?_⟩,h.defers,h.len,fun t ht=>hm _ _ (h.tmps t ht)⟩,htb,rfl,rfl,hm⟩
 . rcases case k hk with hk | rfl
   rw[old k hk] at hb;exact h.frame.tlo k b hk hb;rw[htb] at hb;obtain⟨a1,a2,a3,_⟩:=ht b hb;exact⟨a1,a2,a3⟩
 . rcases case k hk with hk | rfl
   rw[old k hk] at hb;exact h.frame.tapart k b hk hb;rw[htb] at hb;obtain⟨_,_,_,a4,a5,_⟩:=ht b hb;exact⟨a4,a5⟩
 . rcases case k hk with hk | rfl<;>rcases case k' hk' with hk' | rfl
   rw[old k hk] at hb;rw[old k' hk'] at hb';exact h.frame.tinj k k' b hk hk' hb hb';rw[old k hk] at hb;rw[htb] at hb';exact absurd hb ((ht b hb').2.2.2.2.2 k hk);rw[old k' hk'] at hb';rw[htb] at hb;exact absurd hb' ((ht b hb).2.2.2.2.2 k' hk');rfl
theorem H2 {m n sz:Nat}(h:m<n*sz):m/sz<n/\m % sz<sz:=by rcases Nat.eq_zero_or_pos sz with rfl | hp;simp at h;exact⟨(DV hp).2 h,CG _ hp⟩
theorem Rep.sl_cells {w g v t es}(h:Rep w g v (.sl t es))(sz:Nat)(hsz: ∀i,i<es.length->(es.getD i .junk).cells.length=sz):
 (∃ad,v= .slice ad 0 0/\es= [])\/ ∃(b off cap:Nat) (cell:Nat->Value),v= .slice (some ⟨b,off,none⟩) es.length cap/\es.length<=cap/\(t= .full->cap=es.length)/\off+es.length*sz<=g.vis b+(if es.length=0 then off else 0)/\
  ∀m,m<es.length*sz->w.cell? ⟨b,off+m,none⟩=some (cell m)/\Rep w g (cell m) ((es.getD (m/sz) .junk).cells.getD (m % sz) .junk):=by
 cases h with
 | nil t ad ht=>exact .inl ⟨ad,rfl,rfl⟩
 | sl t es b off sz' cap cf ht hfull hcap hsz' hvis hc hr=>
  refine .inr ⟨b,off,cap,fun m=>cf (m/sz) (m % sz),rfl,hcap,hfull,?_,fun m hm=> ?_⟩;by_cases h0:es.length=0;rw[BC h0,h0];omega;have e:sz'=sz:=(hsz' 0 oG).symm.trans (hsz 0 oG);rw[BA h0,<-e];omega;obtain⟨h1,h2⟩:=H2 hm;have h0:0<es.length:=D1 (CX _) h1;have e:sz'=sz:=(hsz' 0 h0).symm.trans (hsz 0 h0);subst e;have:=hc (m/sz') (m % sz') h1 h2;have e2:off+m/sz'*sz'+m % sz'=off+m:=(by rw[DK,Nat.div_add_mod']);rw[e2] at this;exact⟨this,hr _ _ h1 h2⟩
theorem FSRep.slice_new {E a w g F s}(h:FSRep E a w g F s)(ty:Lt)(vs:Lb)(es:Lp)(sz cap:Nat)(hsz: ∀i,i<es.length->(es.getD i .junk).cells.length=sz)
 (hcap:es.length<=cap) (hl:vs.size=cap*sz)
 (hr: ∀m,m<es.length*sz->Rep w g (vs.getD m undef) ((es.getD (m/sz) .junk).cells.getD (m % sz) .junk)):
 ∃g',Chg w g (w.alloc (.cells vs ty)) g' (fun _=>False)/\g'.n=g.n/\g'.mu=g.mu/\FSRep E a (w.alloc (.cells vs ty)) g' F s/\(∀v p,RepF w g F s.T v p->RepF (w.alloc (.cells vs ty)) g' F s.T v p)/\
  (∀t:Tag,t.still=true->(t= .full->cap=es.length)->Rep (w.alloc (.cells vs ty)) g' (.slice (some ⟨w.heap.size,0,none⟩) es.length cap) (.sl t es))/\
  Right (w.alloc (.cells vs ty)) g' (some w.heap.size) sz (.slice (some ⟨w.heap.size,0,none⟩) es.length cap) es:=by
 obtain⟨k,hz⟩:=qb w g (.cells vs ty) (es.length*sz) h.store.none;obtain⟨f1,f2⟩:=h.still k rfl hz;have hle:es.length*sz<=vs.size:=(by rw[hl];exact BG _ hcap);refine⟨_,k,rfl,rfl,f1,f2,fun t ht hf=> ?_,?_⟩;refine .sl t es _ 0 sz cap (fun i j=>vs.getD (i*sz+j) undef) ht hf hcap hsz (by simp) (fun i j hi hj=> ?_) (fun i j hi hj=> ?_);have:=Vf hi hj;rw[World.cell?_alloc_new,q_f,CU,CW oG];rfl;have hb:=Vf hi hj;have:=(hr (i*sz+j) hb).mono k.le;have hp:0<sz:=oG;rw[BM i sz,E0 hp,CP hj,B1,EZ,BJ hj] at this;rw[BM i sz];exact this;refine⟨0,cap,rfl,hsz,by simp,hcap,fun o ho=> ?_⟩;rw[World.cell?_alloc_new,CW (by rw[hl];omega)];rfl
theorem FSRep.tok_step {E a w g F s w' g' X}(h:FSRep E a w g F s)(kk:Nat)(hk:kk<s.T.length)(k:Chg w g w' g' X)(hX: ∀b,X b->F.tb kk=some b)(hn:g'.n=g.n)(hz: ∀b,w'.heap.size<=b->g'.vis b=0)
 (n' sz':Nat) (hlt:(s.T.getD kk (0,0)).1<n') (b':Nat)
 (hb':E.w.heap.size<=b'/\b'<w'.heap.size/\(∃c e,w'.heap[b']?=some (.cells c e (0,0)))/\(∀j,j<g.n->g.mu j≠b')/\(∀i,s.L.getD i []≠ []->F.lmu i≠b')/\ ∀k',k'<s.T.length->k'≠kk->F.tb k'≠some b'):
 ∃F',FSRep E a w' g' F' { s with T:=s.T.set kk (n',sz') } /\F'.tb kk=some b'/\ ∀v p,RepF w g F s.T v p->RepF w' g' F' (s.T.set kk (n',sz')) v p:=by
 let F':Fr:=⟨F.nl,F.lmu,fun k=>if k=kk then some b' else F.tb k⟩
 have old: ∀k,k≠kk->F'.tb k=F.tb k:=fun k hk=>by simp only[F'];rw[BA hk]
 have new:F'.tb kk=some b':=(by simp[F']);have hXL: ∀i,s.L.getD i []≠ []-> ¬X (F.lmu i):=fun i hi hx=>(h.frame.tapart kk _ hk (hX _ hx)).2 i hi rfl;have hXT: ∀i b,i<s.T.length->i≠kk->F.tb i=some b-> ¬X b:=fun i b hi hne hb hx=>hne (h.frame.tinj i kk b hi hk hb (hX _ hx));have htl:K6 w g F s.T w' g' F' (s.T.set kk (n',sz')):=by refine⟨by simp,fun i hi=> ?_⟩;by_cases e:i=kk;subst e;rw[Z0 _ _ _ _ hk];exact⟨F0 hlt,fun e=>by simp only at e;omega⟩;rw[Z3 _ _ _ _ _ (fun e'=>e e'.symm),old i e];exact⟨BD _,fun _ v es hR=>hR.mono fun b hb=>k.old b (h.frame.tlo i b hi hb).2.1 (hXT i b hi e hb)⟩
 have hm: ∀v p,RepF w g F s.T v p->RepF w' g' F' (s.T.set kk (n',sz')) v p:=fun v p hr=>RepF.mono (F:=F) (F':=F') k.le (BD _) (fun _ _=>rfl) htl hr;have hmu: ∀j,j<g'.n->g'.mu j=g.mu j:=fun j hj=>k.le.mu j oG;refine⟨F',⟨h.ext.step k (fun b hx=> .inl (h.frame.tlo kk b hk (hX b hx)).1),h.store.step k hn (fun i hi hx=>(h.frame.tapart kk _ hk (hX _ hx)).1 i hi rfl) hz,⟨h.frame.nl,fun i hi=> ?_,fun i hi j hj e=> ?_,h.frame.inj,fun i hi=> ?_,fun i b hi hb=> ?_,fun i b hi hb=> ?_,fun i i' b hi hi' hb hb2=> ?_⟩,h.defers,h.len,fun t ht=>hm _ _ (h.tmps t ht)⟩,new,hm⟩;obtain⟨a1,a2,a3⟩:=h.frame.lo i hi;exact⟨a1,q_e a2 k.size,(k.old _ a2 (hXL i hi)).2.trans a3⟩;rw[hmu j hj] at e;exact h.frame.apart i hi j oG e;exact(h.frame.holds i hi).mono (k.old _ (h.frame.lo i hi).2.1 (hXL i hi)).1 hm;simp only[BL] at hi;by_cases e:i=kk;subst e;rw[new] at hb;cases hb;exact⟨hb'.1,hb'.2.1,hb'.2.2.1⟩;rw[old i e] at hb;obtain⟨a1,a2,c,e',a3⟩:=h.frame.tlo i b hi hb;exact⟨a1,q_e a2 k.size,c,e',(k.old _ a2 (hXT i b hi e hb)).1.trans a3⟩;simp only[BL] at hi;by_cases e:i=kk;subst e;rw[new] at hb;cases hb;exact⟨fun j hj=>by rw[hmu j hj];exact hb'.2.2.2.1 j oG,hb'.2.2.2.2.1⟩;rw[old i e] at hb;obtain⟨a1,a2⟩:=h.frame.tapart i b hi hb;exact⟨fun j hj=>by rw[hmu j hj];exact a1 j oG,a2⟩;simp only[BL] at hi hi';by_cases e:i=kk<;>by_cases e':i'=kk;omega;subst e;rw[new] at hb;cases hb;rw[old i' e'] at hb2;exact absurd hb2 (hb'.2.2.2.2.2 i' hi' e');subst e';rw[new] at hb2;cases hb2;rw[old i e] at hb;exact absurd hb (hb'.2.2.2.2.2 i hi e);rw[old i e] at hb;rw[old i' e'] at hb2;exact h.frame.tinj i i' b hi hi' hb hb2
theorem QV {α:Type}(l r:List α)(i:Nat)(d:α)(h:i<l.length):(l++r).getD i d=l.getD i d:=by rw[q_a,B6 h,<-q_a]
theorem Zi {α:Type}(l r:List α)(i:Nat)(d:α)(h:l.length<=i):(l++r).getD i d=r.getD (i-l.length) d:=by rw[q_a,CA h,<-q_a]
structure Source (P:Program) (w:World) (g:Gh) (sz:Nat) (tx:TypeId) (x:Value) (ys:List PV) (news:List Value):Prop where
 src:Src P sz tx x ys.length news w
 each: ∀i,i<ys.length->(ys.getD i .junk).cells.length=sz
 rep: ∀m,m<ys.length*sz->Rep w g (news.getD m undef) ((ys.getD (m/sz) .junk).cells.getD (m % sz) .junk)
theorem Vh {α:Type}(l:List α)(i:Nat)(d:α):l.toArray.getD i d=l.getD i d:=by simp[q_f,q_a]
theorem Array.getD_append_left' {α:Type}(l r:Array α)(i:Nat)(d:α)(h:i<l.size):(l++r).getD i d=l.getD i d:=by rw[q_f,Array.getElem?_append_left h,<-q_f]
theorem Z2e {es ys:Lp}{sz m:Nat}(hm:m<(es++ys).length*sz):
 (m<es.length*sz/\(es++ys).getD (m/sz) .junk=es.getD (m/sz) .junk)\/
 (es.length*sz<=m/\m-es.length*sz<ys.length*sz/\(es++ys).getD (m/sz) .junk=ys.getD ((m-es.length*sz)/sz) .junk/\m % sz=(m-es.length*sz) % sz):=by
 obtain⟨h1,h2⟩:=H2 hm;have hp:0<sz:=oG;by_cases hlt:m<es.length*sz;exact .inl ⟨hlt,QV _ _ _ _ (H2 hlt).1⟩
 . refine .inr ⟨oG,?_,?_,?_⟩;rw[BH,BQ] at hm;omega;have hge:es.length<=m/sz:=(EN hp).2 oG;rw[Zi _ _ _ _ hge];congr 1;rw[BM,Nat.sub_mul_div]
   . conv=>lhs;rw[show m=(m-es.length*sz)+es.length*sz from oG]
     rw[Nat.add_mul_mod_self_right]
theorem Z2d {es ys:Lp}{sz:Nat}(h1: ∀i,i<es.length->(es.getD i .junk).cells.length=sz)(h2: ∀i,i<ys.length->(ys.getD i .junk).cells.length=sz):
 ∀i,i<(es++ys).length->((es++ys).getD i .junk).cells.length=sz:=by
 intro i hi;rw[BH] at hi;by_cases hlt:i<es.length;rw[QV _ _ _ _ hlt];exact h1 i hlt;rw[Zi _ _ _ _ oG];exact h2 _ oG
theorem FSRep.append0 {P:Pg}{E a w g F s}(h:FSRep E a w g F s){t tx ty e:Lt}{i:TypeInfo}{z:Value}(ht:P.underlying t=some (.slice e))(hi:P.info? e=some i)(hz:i.zero=some z)(hzs:z.cells.size=i.size)
 {k:Nat} {es:Lp} {v:Value} (hrep:Rep w g v (.sl .no es)) (hk:k<s.T.length) (hT:s.T.getD k (0,0)=(es.length,i.size)) (hes: ∀j,j<es.length->(es.getD j .junk).cells.length=i.size)
 {x:Value} {ys:Lp} {news:Ps} (hv:ys.length=0->RepF w g F s.T v (.sl (.own k) es)) (hR:Right w g (F.tb k) i.size v es\/(∃a,v= .slice a es.length es.length)/\0<ys.length) (hs:Source P w g i.size tx x ys news) (h63:es.length+ys.length<=9223372036854775807) (hby:(es.length+ys.length)*i.bytes<=140737488355328):
 ∃v' w' g' F',(Builtin.append_ #[t,tx] ty #[v,x]).run P w= .ok v' w'/\FSRep E a w' g' F' { s with T:=s.T.set k (es.length+ys.length,i.size) } /\
  RepF w' g' F' (s.T.set k (es.length+ys.length,i.size)) v' (.sl (.own k) (es++ys)):=by
 have hlen:(es++ys).length=es.length+ys.length:=BH;have hszs:=Z2d hes hs.each;have hnl:news.length=ys.length*i.size:=hs.src.newsLen
 --nothing is appended
 by_cases hm:ys.length=0;have hy:ys= []:=BY hm;subst hy;have hn:news= []:=BY (by simpa using hnl);subst hn;have hT':s.T.set k (es.length+([]:Lp).length,i.size)=s.T:=by apply List.ext_getElem?;intro j;by_cases e:k=j;subst e;rw[FW hk];have:=hT;rw[q_a,BB hk] at this;rw[BB hk];simpa using this.symm;rw[DR e]
 refine⟨v,w,g,F,?_,by rw[hT'];exact h,by rw[hT',B9];exact hv rfl⟩;rcases hrep.sl_cells i.size hes with ⟨ad,rfl,rfl⟩ | ⟨b,off,cap,cell,rfl,hcap,_,_,_⟩;have hc:(Builtin.firstCells i.size 0 x).run P w= .ok #[] w:=hs.src.cells;rcases hs.src.kind with ⟨e',hk'⟩ | hk'<;>cases ad<;>
  simp[Builtin.append_,run_underlying ht,run_underlying hk',sizeOf,typeInfo,hi,hs.src.len,hc,storeCells]
 have:=run_append_room_src (P:=P) w t tx ty e i ht hi b off es.length cap x 0 [] hs.src (by simpa using hcap) (fun j hj=>by simp at hj) (fun j hj=>by simp at hj);simpa[World.setCells] using this
 . have hlt:(s.T.getD k (0,0)).1<es.length+ys.length:=by rw[hT];simp only;omega
   --it grows
   have grow: ∀(base:Option Addr) (cap:Nat),v= .slice base es.length cap->cap<es.length+ys.length->(olds:Ps)->olds.length=es.length*i.size->
    (Builtin.firstCells i.size es.length (.slice base es.length cap)).run P w.drew= .ok olds.toArray w.drew->
    (∀m,m<es.length*i.size->Rep w g (olds.getD m undef) ((es.getD (m/i.size) .junk).cells.getD (m % i.size) .junk))->
    ∃v' w' g' F',(Builtin.append_ #[t,tx] ty #[v,x]).run P w= .ok v' w'/\FSRep E a w' g' F' { s with T:=s.T.set k (es.length+ys.length,i.size) } /\
     RepF w' g' F' (s.T.set k (es.length+ys.length,i.size)) v' (.sl (.own k) (es++ys)):=by
    intro base cap hvb hcap olds hol hold hrolds;subst hvb;have hrun:=run_append_grow_src (P:=P) w t tx ty e i z ht hi hz base es.length cap olds hold x ys.length news hs.src hcap oG (growslice_fits hcap hby);generalize hvs:(olds++news).toArray++Builtin.zeroCells z.cells (grownCap w (es.length+ys.length) cap e-(es.length+ys.length))=vs at hrun;have hge:=grownCap_ge w (es.length+ys.length) cap e;obtain⟨d1,d2⟩:=h.drew;have hvsz:vs.size=grownCap w (es.length+ys.length) cap e*i.size:=by rw[<-hvs,Array.size_append,size_zeroCells,hzs];simp only[EY,BH,hol,hnl,<-BQ];congr 1;omega
    have hrepd: ∀ {v p},Rep w g v p->Rep w.drew g v p:=fun hr=>hr.mono (qa w g).le;obtain⟨g',kc,hn',hmu',n1,n2,n3,n4⟩:=d1.slice_new e vs (es++ys) i.size (grownCap w (es.length+ys.length) cap e) hszs (by rw[hlen];exact hge) hvsz (fun m hm=>by
     have hlo:m<(olds++news).toArray.size:=by simp only[EY,BH,hol,hnl,<-BQ];rw[hlen] at hm;exact hm
     rw[<-hvs,Array.getD_append_left' _ _ _ _ hlo,Vh];rcases Z2e hm with ⟨q1,q2⟩ | ⟨q1,q2,q3,q4⟩;rw[q2,QV _ _ _ _ (by rw[hol];exact q1)];exact hrepd (hrolds m q1);rw[q3,q4,Zi _ _ _ _ (by rw[hol];exact q1),hol];exact hrepd (hs.rep _ q2))
    have kc':Chg w g (w.drew.alloc (.cells vs e)) g' (fun _=>False):=⟨(qa w g).le.trans kc.le,kc.os,kc.tape,kc.output,kc.size,kc.old,kc.new⟩;obtain⟨F',r1,r2,r3⟩:=h.tok_step k hk kc' (fun _ hx=>hx.elim) hn' n1.store.none (es.length+ys.length) i.size hlt w.heap.size
     ⟨h.ext.size,by simp,⟨vs,e,heap_alloc_new w.drew _⟩,fun j hj e'=>by have:=h.store.lt j hj;omega,fun j hj e'=>by have:=(h.frame.lo j hj).2.1;omega,fun k' hk' _ e'=>by have:=(h.frame.tlo k' _ hk' e').2.1;omega⟩
    refine⟨_,_,g',F',hrun,r1,.own k _ _ ?_ (by simpa using hk) (by rw[Z0 _ _ _ _ hk,hlen];exact BD _) (fun _=> ?_)⟩;have:=n3 .no rfl (fun h=>by cases h);rw[hlen] at this;exact this;rw[Z0 _ _ _ _ hk,r2];have:=n4;rw[hlen] at this;exact this
   rcases hrep.sl_cells i.size hes with ⟨ad,rfl,rfl⟩ | ⟨b,off,cap,cell,rfl,hcap,_,hvis,hcell⟩;exact grow ad 0 rfl (by simp;omega) [] (by simp) (by cases ad with | none=>exact run_firstCells_none _ _ _ _ _ | some a=>simp[Builtin.firstCells,loadCells,loadCellsFrom]) (fun m hm=>by simp at hm)
   . by_cases hroom:es.length+ys.length<=cap
     . --in J4
       rcases hR with hR | ⟨⟨a',ha'⟩,hpos⟩;rotate_left;simp only[Value.slice.injEq] at ha';omega;cases htb:F.tb k with
       | none=>
        rw[htb] at hR;rcases hR.1 with hR | ⟨_,hR⟩;cases hR;simp only[Value.slice.injEq] at hR;omega
       | some b'=>
        rw[htb] at hR;obtain⟨off',cap',e1,e2,e3,e4,e5⟩:=hR;simp only[Value.slice.injEq,BU,Addr.mk.injEq,and_true,F7] at e1;obtain⟨⟨rfl,rfl⟩,rfl⟩:=e1;obtain⟨t1,t2,c0,el,t3⟩:=h.frame.tlo k b hk htb;have hfr: ∀o,w.frozen? ⟨b,o,none⟩=false:=fun o=>(by simp[World.frozen?,t3]);have hin: ∀j,j<news.length->(w.cell? ⟨b,off+es.length*i.size+j,none⟩).isSome=true:=fun j hj=>e5 _ (by have:(es.length+ys.length)*i.size<=cap*i.size:=BG _ hroom;rw[BQ] at this;omega);have hrun:=run_append_room_src (P:=P) w t tx ty e i ht hi b off es.length cap x ys.length news hs.src hroom hin (fun j _=>hfr _)
        let g':Gh:= { g with vis:=fun x=>if x=b then off+(es.length+ys.length)*i.size else g.vis x }
        have k0:=yq (w:=w) (g:=g) b (off+es.length*i.size) news oG;have hvle: ∀x,g.vis x<=g'.vis x:=fun x=>by simp only[g'];split;rename_i e;subst e;rw[<-e3,BQ];omega;exact BD _
        have kc:Chg w g (w.setCells b (off+es.length*i.size) news) g' (fun x=>x=b):=
         ⟨⟨BD _,fun _ _=>rfl,hvle,k0.le.cell⟩,k0.os,k0.tape,k0.output,k0.size,fun x hx hne=>⟨(k0.old x hx hne).1,by simp only[g'];rw[BA hne]⟩,fun j h1 h2=>by simp only[g'] at h2;omega⟩
        have hcells: ∀o,(w.cell? ⟨b,o,none⟩).isSome=true->((w.setCells b (off+es.length*i.size) news).cell? ⟨b,o,none⟩).isSome=true:=fun o ho=>World.isSome_setCells b news _ w ⟨b,o,none⟩ ho;have hblock: ∃c e,(w.setCells b (off+es.length*i.size) news).heap[b]?=some (.cells c e (0,0)):=by
         have: ∀(vs:Ps) (o:Nat) (w:Lw) (c:Lb),w.heap[b]?=some (.cells c el (0,0))-> ∃c',(w.setCells b o vs).heap[b]?=some (.cells c' el (0,0)):=by
          intro vs
          induction vs with
          | nil=>exact fun o w c hc=>⟨c,hc⟩
          | cons v r ih=>
           intro o w c hc;simp only[World.setCells];refine ih _ _ (c.setIfInBounds o v) ?_;simp[World.setCell,Array.getElem?_modify,hc]
         obtain⟨c',hc'⟩:=this news (off+es.length*i.size) w c0 t3;exact⟨c',el,hc'⟩
        obtain⟨F',r1,r2,r3⟩:=h.tok_step k hk kc (fun x hx=>by subst hx;exact htb) rfl (fun x hx=>by
         simp only[g'];rw[WT] at hx;rw[BA oG];exact h.store.none x hx) (es.length+ys.length) i.size hlt b
         ⟨t1,by rw[WT];exact t2,hblock,(h.frame.tapart k b hk htb).1,(h.frame.tapart k b hk htb).2,fun k' hk' hne e'=>hne (h.frame.tinj k' k b hk' hk e' htb)⟩
        refine⟨_,_,g',F',hrun,r1,.own k _ _ ?_ (by simpa using hk) (by rw[Z0 _ _ _ _ hk,hlen];exact BD _) (fun _=> ?_)⟩
        . rw[<-hlen];refine .sl .no (es++ys) b off i.size cap (fun i' j=>if i'<es.length then cell (i'*i.size+j) else news.getD ((i'-es.length)*i.size+j) undef) rfl (fun h=>by cases h) (by rw[hlen];exact hroom) hszs (by simp[g',hlen]) (fun i' j hi' hj=> ?_) (fun i' j hi' hj=> ?_)
          . by_cases hlo:i'<es.length;simp only[hlo,D4];have hb:=Vf hlo hj;rw[World.cell?_setCells_out b news _ w ⟨b,off+i'*i.size+j,none⟩ (fun _ _=> .inl (by simp only;omega)),DK];exact(hcell _ hb).1
            . simp only[hlo,DT];have hi2:i'-es.length<ys.length:=(by rw[hlen] at hi';omega);have hb:=Vf hi2 hj;have hb':(i'-es.length)*i.size+j<news.length:=(by rw[hnl];exact hb);have e:off+i'*i.size+j=off+es.length*i.size+((i'-es.length)*i.size+j):=by
               conv=>lhs;rw[show i'=es.length+(i'-es.length) from oG,BQ]
               omega
              rw[e,World.cell?_setCells_in b news _ w hin _ hb',q_a,BB hb'];rfl
          by_cases hlo:i'<es.length;simp only[hlo,D4];have hb:=Vf hlo hj;have hp:0<i.size:=oG;have:=((hcell _ hb).2).mono kc.le;rw[BM i' i.size,E0 hp,CP hj,B1,EZ,BJ hj] at this;rw[QV _ _ _ _ hlo,BM i' i.size];exact this;simp only[hlo,DT];have hi2:i'-es.length<ys.length:=(by rw[hlen] at hi';omega);have hb:=Vf hi2 hj;have hp:0<i.size:=oG;have:=(hs.rep _ hb).mono kc.le;rw[BM (i'-es.length) i.size,E0 hp,CP hj,B1,EZ,BJ hj] at this;rw[Zi _ _ _ _ oG,BM (i'-es.length) i.size];exact this
        rw[Z0 _ _ _ _ hk,r2];refine⟨off,cap,by rw[hlen],hszs,by simp[g',hlen],by rw[hlen];exact hroom,fun o ho=>hcells o (e5 o ho)⟩
     have hc': ∀m,m<es.length*i.size->w.cell? ⟨b,off+m,none⟩=some (cell m):=fun m hm=>(hcell m hm).1;refine grow (some ⟨b,off,none⟩) cap rfl oG ((List.range (es.length*i.size)).map cell) (by simp) ?_ (fun m hm=> ?_);refine run_firstCells_some w.drew i.size es.length ⟨b,off,none⟩ es.length cap _ (by simp) (fun j u hu=> ?_);rw[Addr.add_mid,World.cell?_drew];have hj:j<es.length*i.size:=by have:=(E7.1 hu).1;simpa using this
     rw[hc' j hj];simp[EB hj] at hu;rw[hu];have e:((List.range (es.length*i.size)).map cell).getD m undef=cell m:=(by simp[q_a,hm]);rw[e];exact(hcell m hm).2
theorem FSRep.append {P:Pg}{E a w g F s}(h:FSRep E a w g F s){t tx ty e:Lt}{i:TypeInfo}{z:Value}(ht:P.underlying t=some (.slice e))(hi:P.info? e=some i)(hz:i.zero=some z)(hzs:z.cells.size=i.size)
 {k:Nat} {es:Lp} {v:Value} (hv:RepF w g F s.T v (.sl (.own k) es)) (hT:s.T.getD k (0,0)=(es.length,i.size)) (hes: ∀j,j<es.length->(es.getD j .junk).cells.length=i.size)
 {x:Value} {ys:Lp} {news:Ps} (hs:Source P w g i.size tx x ys news) (h63:es.length+ys.length<=9223372036854775807) (hby:(es.length+ys.length)*i.bytes<=140737488355328):
 ∃v' w' g' F',(Builtin.append_ #[t,tx] ty #[v,x]).run P w= .ok v' w'/\FSRep E a w' g' F' { s with T:=s.T.set k (es.length+ys.length,i.size) } /\
  RepF w' g' F' (s.T.set k (es.length+ys.length,i.size)) v' (.sl (.own k) (es++ys)):=by
 obtain⟨hrep,hk,hle,hright⟩:=hv.own_inv;have hR:=hright (by rw[hT]);rw[hT] at hR;exact h.append0 ht hi hz hzs hrep hk hT hes (fun _=>hv) (.inl hR) hs h63 hby
inductive Req where
 | val (v:PV)
 | need (c:Bool) (v:PV)
 | load (gl:Bool) (i off n:Nat) (agg:Bool)
 | store (gl:Bool) (i off:Nat) (cs:List PV)
 | box (cs:List PV)
 | mks (cs:List PV) (len:Nat)
 | newsl (es:List PV)
 | app (t:Tag) (es ys:List PV) (e:EI)
 | fail
def PV.cellOK :PV->Bool
 | .sc v=>v.oneCell'
 | .junk | .agg _ | .tup _=>false
 | _=>true
def ZV (k:IntKind)(a b:Int):Int:=k.wrap (BitVec.ofInt k.bits a&&&BitVec.ofInt k.bits b).toNat
def bOr (k:IntKind)(a b:Int):Int:=k.wrap (BitVec.ofInt k.bits a|||BitVec.ofInt k.bits b).toNat
def qr (k:IntKind)(a b:Int):Int:=k.wrap (BitVec.ofInt k.bits a^^^BitVec.ofInt k.bits b).toNat
def yF (k:IntKind)(a b:Int):Int:=k.wrap (BitVec.ofInt k.bits a&&& ~~~BitVec.ofInt k.bits b).toNat
def Jr (k:IntKind)(a b:Int):Int:=k.wrap (a*2^min b.toNat k.bits)
def Z7 (k:IntKind)(a b:Int):Int:=a.fdiv (2^min b.toNat k.bits)
def Jp (op:BinOp)(k:IntKind)(a b:Int):Req:=
 match op with
 | .add=> .val (.sc (.int k (k.wrap (a+b))))
 | .sub=> .val (.sc (.int k (k.wrap (a-b))))
 | .mul=> .val (.sc (.int k (k.wrap (a*b))))
 | .quo=> .need (b !=0) (.sc (.int k (k.wrap (a.tdiv b))))
 | .rem=> .need (b !=0) (.sc (.int k (a.tmod b)))
 | .and=> .val (.sc (.int k (ZV k a b)))
 | .or=> .val (.sc (.int k (bOr k a b)))
 | .xor=> .val (.sc (.int k (qr k a b)))
 | .andNot=> .val (.sc (.int k (yF k a b)))
 | .eql=> .val (.sc (.bool (a==b)))
 | .neq=> .val (.sc (.bool (a !=b)))
 | .lss=> .val (.sc (.bool (decide (a<b))))
 | .leq=> .val (.sc (.bool (decide (a<=b))))
 | .gtr=> .val (.sc (.bool (decide (a>b))))
 | .geq=> .val (.sc (.bool (decide (a>=b))))
 | _=> .fail
def Zf (op:BinOp)(T:Option TI)(x y:PV):Req:=
 match op,x,y with
 | .shl,.sc (.int k a),.sc (.int _ b)=> .need (decide (0<=b)) (.sc (.int k (Jr k a b)))
 | .shr,.sc (.int k a),.sc (.int _ b)=> .need (decide (0<=b)) (.sc (.int k (Z7 k a b)))
 | op,.sc (.int k a),.sc (.int k' b)=>if k=k' then Jp op k a b else .fail
 | .eql,.sc (.string a),.sc (.string b)=> .val (.sc (.bool (a.toList==b.toList)))
 | .neq,.sc (.string a),.sc (.string b)=> .val (.sc (.bool (!(a.toList==b.toList))))
 | .add,.sc (.string a),.sc (.string b)=> .need (decide (a.size+b.size<=9223372036854775807)) (.sc (.string (a++b)))
 | .eql,.sc (.bool a),.sc (.bool b)=>match T with | some ⟨_,_,.bool,_⟩=> .val (.sc (.bool (a==b))) | _=> .fail
 | .neq,.sc (.bool a),.sc (.bool b)=>match T with | some ⟨_,_,.bool,_⟩=> .val (.sc (.bool (!(a==b)))) | _=> .fail
 | .eql,.gp _ _,.sc (.pointer none)=>match T with | some ⟨_,_,.ptr,_⟩=> .val (.sc (.bool false)) | _=> .fail
 | .neq,.gp _ _,.sc (.pointer none)=>match T with | some ⟨_,_,.ptr,_⟩=> .val (.sc (.bool true)) | _=> .fail
 | .eql,.sc (.pointer none),.sc (.pointer none)=>match T with | some ⟨_,_,.ptr,_⟩=> .val (.sc (.bool true)) | _=> .fail
 | .neq,.sc (.pointer none),.sc (.pointer none)=>match T with | some ⟨_,_,.ptr,_⟩=> .val (.sc (.bool false)) | _=> .fail
 | _,_,_=> .fail
def Uh (op:UnOp)(x:PV):Req:=
 match op,x with
 | .neg,.sc (.int k n)=> .val (.sc (.int k (k.wrap (0-n))))
 | .xor,.sc (.int k n)=> .val (.sc (.int k (qr k (if k.signed then -1 else k.max) n)))
 | .not,.sc (.bool b)=> .val (.sc (.bool !b))
 | _,_=> .fail
def GS :List PV->Option (List UInt8)
 | []=>some []
 | .sc (.int .u8 n)::r=>match GS r with | some l=>some (UInt8.ofNat n.toNat::l) | none=>none
 | _=>none
def Ga (S D:Option TI)(x:PV):Req:=
 match S,D,x with
 | some _,some ⟨_,_,.int k,_⟩,.sc (.int _ n)=> .val (.sc (.int k (k.wrap n)))
 | some ⟨_,_,.slice e,_⟩,some ⟨_,_,.str,_⟩,.sl _ es=>if e.u8 then(match GS es with | some l=> .val (.sc (.string ⟨l.toArray⟩)) | none=> .fail) else .fail
 | some ⟨_,_,.slice e,_⟩,some ⟨_,_,.str,_⟩,.pre all n=>if e.u8 then(match GS (all.take n) with | some l=> .val (.sc (.string ⟨l.toArray⟩)) | none=> .fail) else .fail
 | some ⟨_,_,.str,_⟩,some ⟨_,_,.str,_⟩,.sc (.string s)=> .val (.sc (.string s))
 | _,_,_=> .fail
def V6 (T:Option TI)(x:PV)(f:Nat):Req:=
 match T with
 | some ⟨_,_,.struct fs,_⟩=>
  match fs[f]? with
  | some (o,e)=>
   if e.sz=0 then .fail else
   match x with
   | .lp i off=> .val (.lp i (off+o))
   | .gp i off=> .val (.gp i (off+o))
   | .ep cs off=> .val (.ep cs (off+o))
   | _=> .fail
  | none=> .fail
 | _=> .fail
def US (T:Option TI)(x:PV)(f:Nat):Req:=
 match T,x with
 | some ⟨_,_,.struct fs,_⟩,.agg cs=>
  match fs[f]? with
  | some (o,e)=>if e.agg then(if o+e.sz<=cs.length then .val (.agg ((cs.drop o).take e.sz)) else .fail) else(if o<cs.length then .val (cs.getD o .junk) else .fail)
  | none=> .fail
 | _,_=> .fail
def UP (T:Option TI)(x i:PV):Req:=
 match T,x,i with
 | some ⟨_,_,.slice e,_⟩,.sl _ es,.sc (.int _ n)=>
  .need (decide (0<=n)&&decide (n.toNat<es.length)&&decide ((es.getD n.toNat .junk).cells.length=e.sz)) (.ep (es.getD n.toNat .junk).cells 0)
 | some ⟨_,_,.slice e,_⟩,.ms gl o off len,.sc (.int _ n)=>
  .need (decide (0<=n)&&decide (n.toNat<len)) (if gl then .gp o (off+n.toNat*e.sz) else .lp o (off+n.toNat*e.sz))
 | some ⟨_,_,.slice e,_⟩,.mr o len _,.sc (.int _ n)=> .need (decide (0<=n)&&decide (n.toNat<len)) (.lp o (n.toNat*e.sz))
 | some ⟨_,_,.slice e,_⟩,.gr o len _,.sc (.int _ n)=> .need (decide (0<=n)&&decide (n.toNat<len)) (.gp o (n.toNat*e.sz))
 | some ⟨_,_,.arr m e,_⟩,.ep cs off,.sc (.int _ n)=> .need (decide (0<=n)&&decide (n.toNat<m)) (.ep cs (off+n.toNat*e.sz))
 | _,_,_=> .fail
def UO (T:Option TI)(x i:PV):Req:=
 match T,x,i with
 | some ⟨_,_,.str,_⟩,.sc (.string s),.sc (.int _ n)=> .need (decide (0<=n)&&decide (n.toNat<s.size)) (.sc (.int .u8 (s.data.getD n.toNat 0).toNat))
 | _,_,_=> .fail
def VF :Option PV->Nat->Option Int
 | none,d=>some d
 | some (.sc (.int _ n)),_=>some n
 | _,_=>none
def ye (t:Tag)(es:List PV)(lo hi:Option PV)(l h:Int):PV:=
 match lo,hi,t with
 | none,some _,.own _=> .pre es h.toNat
 | _,_,_=> .sl .no ((es.take h.toNat).drop l.toNat)
def yf (t:Tag)(es:List PV)(lo hi:Option PV):Bool:=
 match lo,hi,t with
 | none,some _,.own _=>decide (0<es.length)
 | _,_,_=>true
def GB (e:EI)(es:List PV)(lo hi:Option PV)(m:Int):Req:=
 match VF lo 0,hi with
 | some l,some (.sc (.int _ h))=>
  .need (decide (0<=l)&&decide (l<=h)&&decide (h<=m)&&decide (m<=es.length)&&es.all (fun x=>x.cells.length==e.sz))
   (.sl (if m=h then .full else .no) ((es.take h.toNat).drop l.toNat))
 | _,_=> .fail
def GC (e:EI)(t:Tag)(es:List PV)(lo hi:Option PV):Req:=
 match VF lo 0,VF hi es.length with
 | some l,some h=> .need (decide (0<=l)&&decide (l<=h)&&decide (h<=es.length)&&es.all (fun x=>x.cells.length==e.sz)&&yf t es lo hi) (ye t es lo hi l h)
 | _,_=> .fail
def G9 (s:ByteArray)(lo hi:Option PV):Req:=
 match VF lo 0,VF hi s.size with
 | some l,some h=> .need (decide (0<=l)&&decide (l<=h)&&decide (h<=s.size)) (.sc (.string (s.extract l.toNat h.toNat)))
 | _,_=> .fail
def GA (e:EI)(gl:Bool)(o off len:Nat)(lo hi:Option PV):Req:=
 match VF lo 0,VF hi len with
 | some l,some h=> .need (decide (0<=l)&&decide (l<h)&&decide (h<=len)) (.ms gl o (off+l.toNat*e.sz) (h.toNat-l.toNat))
 | _,_=> .fail
def Uq (T:Option TI)(x:PV)(lo hi mx:Option PV):Req:=
 match T,x,lo,hi,mx with
 | some ⟨_,_,.slice e,_⟩,.sl t es,lo,hi,none=>GC e t es lo hi
 | some ⟨_,_,.slice e,_⟩,.sl _ es,lo,hi,some (.sc (.int _ m))=>GB e es lo hi m
 | some ⟨_,_,.slice e,_⟩,.pre all n,none,some (.sc (.int _ h)),none=> .need (decide (0<=h)&&decide (h<=all.length)&&all.all (fun x=>x.cells.length==e.sz)) (.sl .no (all.take h.toNat))
 | some ⟨_,_,.str,_⟩,.sc (.string s),lo,hi,none=>G9 s lo hi
 | some ⟨_,_,.slice e,_⟩,.ms gl o off len,lo,hi,none=>GA e gl o off len lo hi
 | _,_,_,_,_=> .fail
def IH (J4:Nat->Option (Nat×Nat))(cs:List PV):List (Nat×PV)->Option (List PV)
 | []=>some cs
 | (i,p)::r=>
  match J4 i with
  | none=>none
  | some (off,sz)=>if p.cells.length=sz/\off+sz<=cs.length/\p.cells.all PV.cellOK=true then IH J4 (Q4 cs off p.cells) r else none
def Gg (T:Option TI)(parts:List (Nat×PV)):Req:=
 match T with
 | some ⟨_,_,.struct fs,some (.agg z)⟩=>match IH (fun i=>(fs[i]?).map fun x=>(x.1,x.2.sz)) (z.toList.map Kf) parts with | some cs=> .val (.agg cs) | none=> .fail
 | _=> .fail
def Gf (T:Option TI)(len:Nat)(parts:List (Nat×PV)):Req:=
 match T with
 | some ⟨_,_,.slice e,_⟩=>
  if parts.map (·.1)=List.range len/\len*e.sz<=16777216/\e.zok=true/\
   parts.all (fun x=>x.2.closed2&&(x.2.cells.length==e.sz)&&x.2.cells.all PV.cellOK)=true then .newsl (parts.map fun x=>x.2.forget2) else .fail
 | _=> .fail
def Hj (T:Option TI)(x:PV):Req:=
 match T,x with
 | some ⟨_,_,.slice _,_⟩,.sl _ es=> .val (.sc (.int .i64 es.length))
 | some ⟨_,_,.slice _,_⟩,.pre _ n=> .val (.sc (.int .i64 n))
 | some ⟨_,_,.slice _,_⟩,.ms _ _ _ n=> .val (.sc (.int .i64 n))
 | some ⟨_,_,.slice _,_⟩,.mr _ n _=> .val (.sc (.int .i64 n))
 | some ⟨_,_,.slice _,_⟩,.gr _ n _=> .val (.sc (.int .i64 n))
 | some ⟨_,_,.str,_⟩,.sc (.string s)=> .val (.sc (.int .i64 s.size))
 | _,_=> .fail
def qx (S X:Option TI)(s x:PV):Req:=
 match S,s with
 | some ⟨_,_,.slice e,_⟩,.sl t es=>
  match X,x with
  | some ⟨_,_,.slice _,_⟩,.sl _ ys=> .app t es ys e
  | some ⟨_,_,.slice _,_⟩,.pre all n=> .app t es (all.take n) e
  | some ⟨_,_,.str,_⟩,.sc (.string b)=> .app t es (b.data.toList.map fun c=> .sc (.int .u8 c.toNat)) e
  | _,_=> .fail
 | _,_=> .fail
def PV.scal :PV->Bool
 | .sc v=>v.oneCell'
 | _=>false
def IV (S:Option TI)(d x:PV):Req:=
 match S,d,x with
 | some ⟨_,_,.slice e,_⟩,.ms gl i off n,.sl _ ys=>if e.sz=1/\ys.all PV.scal=true then .store gl i off (ys.take n) else .fail
 | _,_,_=> .fail
def Yl (P:Program)(b:Builtin)(ts:List TypeId)(xs:List PV):Req:=
 match b,ts,xs with
 | .len,t::_,x::_=>Hj (ti P t) x
 | .append,[t,u],[s,x]=>qx (ti P t) (ti P u) s x
 | .copy,[t,_],[d,x]=>IV (ti P t) d x
 | .min,_,[.sc (.int k a),.sc (.int k' b)]=>if k=k' then .val (.sc (.int k (if b<a then b else a))) else .fail
 | .max,_,[.sc (.int k a),.sc (.int k' b)]=>if k=k' then .val (.sc (.int k (if b>a then b else a))) else .fail
 | _,_,_=> .fail
def VY (T:Option TI)(x:PV):Req:=
 match T,x with
 | some T,.lp i off=> .load false i off (if T.agg then T.size else 1) T.agg
 | some T,.gp i off=> .load true i off (if T.agg then T.size else 1) T.agg
 | some T,.ep cs off=> .need (decide (off+(if T.agg then T.size else 1)<=cs.length)) (if T.agg then .agg ((cs.drop off).take T.size) else cs.getD off .junk)
 | _,_=> .fail
def Um (T:Option TI)(x y:PV):Req:=
 match T,x with
 | some T,.lp i off=>if y.cells.length=T.size/\y.cells.all PV.cellOK=true then .store false i off y.cells else .fail
 | some T,.gp i off=>if y.cells.length=T.size/\y.cells.all PV.cellOK=true/\y.closed2=true then .store true i off y.forget2.cells else .fail
 | _,_=> .fail
def U6 (c a b:PV):Req:=
 match c,a,b with
 | .sc (.bool c),.sc (.bool x),.sc (.bool y)=> .val (.sc (.bool (if c then x else y)))
 | .sc (.bool c),a,b=> .val (if c then a else b)
 | _,_,_=> .fail
def UE :PV->Req
 | .lp i o=> .val (.lp i o)
 | .gp i o=> .val (.gp i o)
 | .ep cs o=> .val (.ep cs o)
 | _=> .fail
def XI (n:Nat)(cs:List PV):List PV:=(List.replicate n cs).flatten
def I2 (P:Program)(t:TypeId)(len cap:PV):Req:=
 match ti P t,len,cap with
 | some ⟨_,_,.slice e,_⟩,.sc (.int .i64 n),.sc (.int .i64 c)=>
  match ti P e.id with
  | some T=>match T.zero with
   | some (.agg zs)=>
    if 0<=n/\n=c/\n.toNat*e.by_<=140737488355328/\n<=9223372036854775807/\(Xa (.agg zs)).cells.length=e.sz/\0<e.sz then .mks (XI n.toNat (Xa (.agg zs)).cells) n.toNat else .fail
   | some z=>
    if 0<=n/\n=c/\n.toNat*e.by_<=140737488355328/\n<=9223372036854775807/\z.oneCell'=true/\e.sz=1 then .mks (List.replicate n.toNat (Xa z)) n.toNat else .fail
   | none=> .fail
  | none=> .fail
 | _,_,_=> .fail
def Gl (T:Option TI):Req:=
 match T with
 | some ⟨_,_,_,some (.tuple _)⟩=> .fail
 | some ⟨_,_,_,some z⟩=> .box (Xa z).cells
 | _=> .fail
def qk (x:PV):Req:=if x.cells.all PV.cellOK=true then .box x.cells else .fail
def req (P:Program)(op:Op)(ty:TypeId)(r:Operand->PV):Req:=
 match op with
 | .move x | .assign x=> .val (r x)
 | .pick c a b=>U6 (r c) (r a) (r b)
 | .alloc t=>Gl (ti P t)
 | .box _ x=>qk (r x)
 | .build t ps=>Gg (ti P t) (ps.toList.map fun x=>(x.1,r x.2))
 | .buildSlice t len ps=>Gf (ti P t) len (ps.toList.map fun x=>(x.1,r x.2))
 | .load t x=>VY (ti P t) (r x)
 | .store t x y=>Um (ti P t) (r x) (r y)
 | .nilCheck x=>UE (r x)
 | .binOp op t x y _=>Zf op (ti P t) (r x) (r y)
 | .unOp op _ x=>Uh op (r x)
 | .convert s d x=>Ga (ti P s) (ti P d) (r x)
 | .fieldAddr t x f=>V6 (ti P t) (r x) f
 | .field t x f=>US (ti P t) (r x) f
 | .indexAddr t x i=>UP (ti P t) (r x) (r i)
 | .index t x i=>UO (ti P t) (r x) (r i)
 | .slice t x lo hi mx=>Uq (ti P t) (r x) (lo.map r) (hi.map r) (mx.map r)
 | .makeFunc f bs cs=> .val (.fn f (bs.toList.map r) (cs.toList.map r))
 | .makeSlice t l c=>I2 P t (r l) (r c)
 | .extract x i=>match r x with | .tup vs=>if i<vs.length then .val (vs.getD i .junk) else .fail | _=> .fail
 | .call { callee:= .builtin b,args,argTypes } =>Yl P b argTypes.toList (args.toList.map r)
 | _=> .fail
def Req.run (s:PFS):Req->Option (PV×PFS)
 | .val v=>some (v,s)
 | .need c v=>if c=true then some (v,s) else none
 | .load gl i off n agg=>
  let o:=(if gl then s.st else s.L).getD i []
  if off+n<=o.length then some (if agg then .agg ((o.drop off).take n) else o.getD off .junk,s) else none
 | .store gl i off cs=>
  let o:=(if gl then s.st else s.L).getD i []
  if off+cs.length<=o.length/\0<o.length then
   some (.junk,if gl then { s with st:=s.st.set i (Q4 o off cs) } else { s with L:=s.L.set i (Q4 o off cs) })
  else none
 | .box cs=>some (.lp s.L.length 0, { s with L:=s.L++ [cs] })
 | .mks cs len=>some (.ms false s.L.length 0 len, { s with L:=s.L++ [cs] })
 | .newsl es=>some (.sl .full es,s)
 | .app t es ys e=>
  if e.zok=true/\es.length+ys.length<=1152921504606846976/\(es.length+ys.length)*e.by_<=140737488355328/\
   es.all (fun x=>x.cells.length==e.sz)=true/\ys.all (fun x=>(x.cells.length==e.sz)&&x.cells.all PV.cellOK)=true then
   match t with
   | .own k=>if s.T.getD k (0,0)=(es.length,e.sz) then some (.sl (.own k) (es++ys), { s with T:=s.T.set k (es.length+ys.length,e.sz) }) else none
   | .full=>if es.length=0\/0<ys.length then some (.sl (.own s.T.length) (es++ys), { s with T:=s.T++ [(es.length+ys.length,e.sz)] }) else none
   | _=>none
  else none
 | .fail=>none
theorem QU {P:Pg}{t:Lt}{T:TI}(h:ti P t=some T): ∃i u,P.info? t=some i/\P.underlying t=some u/\T=⟨xT u,i.size,XO P u,i.zero⟩:=by unfold ti at h;split at h;rename_i i u hi hu;cases h;exact⟨i,u,hi,hu,rfl⟩;cases h
theorem JW {P:Pg}{t:Lt}{e:EI}(h:ei P t=some e): ∃i u,P.info? t=some i/\P.underlying t=some u/\e=⟨t,i.size,i.bytes,xT u,match i.zero with | some z=>z.cells.size==i.size | none=>false,qR u⟩:=by unfold ei at h;split at h;rename_i i u hi hu;cases h;exact⟨i,u,hi,hu,rfl⟩;cases h
theorem V0q {P:Pg}{t:Lt}{e:EI}(h:ei P t=some e):e.id=t:=by obtain⟨i,u,_,_,rfl⟩:=JW h;rfl
theorem ZH {P:Pg}{u:TypeDesc}{e:EI}(h:XO P u= .slice e):u= .slice e.id/\ei P e.id=some e:=by
 cases u<;>simp only[XO] at h<;>try cases h
 case slice t=>
  split at h;rename_i x hx;cases h;have:=V0q hx;subst this;exact⟨rfl,hx⟩;cases h
 all_goals (split at h<;>cases h)
theorem q0g {P:Pg}{u:TypeDesc}{m:Nat}{e:EI}(h:XO P u= .arr m e):u= .array m e.id/\ei P e.id=some e:=by
 cases u<;>simp only[XO] at h<;>try cases h
 case array n t=>
  split at h;rename_i x hx;cases h;have:=V0q hx;subst this;exact⟨rfl,hx⟩;cases h
 all_goals (split at h<;>cases h)
theorem jr {P:Pg}{u:TypeDesc}{l:List (Nat×EI)}(h:XO P u= .struct l): ∃fs,u= .struct fs/\YH P fs.toList=some l:=by
 cases u<;>simp only[XO] at h<;>try cases h
 case struct fs=>
  split at h;rename_i x hx;cases h;exact⟨fs,rfl,hx⟩;cases h
 all_goals (split at h<;>cases h)
theorem V0t {P:Pg} : ∀ {fs:List Field} {l:List (Nat×EI)},YH P fs=some l-> ∀k:Nat,l[k]?=(fs[k]?).bind (fun f=>(ei P f.type).map (f.offset, ·))/\(k<fs.length-> ∃f e,fs[k]?=some f/\ei P f.type=some e/\l[k]?=some (f.offset,e))
 | [],l,h,k=>by cases h;simp
 | f::fs,l,h,k=>by
  simp only[YH] at h;split at h;rename_i e es h1 h2;cases h;cases k with
  | zero=>simp[h1]
  | succ k=>have:=V0t h2 k;simpa using this
  cases h
theorem V0s {P:Pg}{fs:Array Field}{l:List (Nat×EI)}(h:YH P fs.toList=some l){k o:Nat}{e:EI}(hk:l[k]?=some (o,e)): ∃f,fs[k]?=some f/\f.offset=o/\ei P f.type=some e:=by
 have h1:=(V0t h k).1;rw[hk] at h1;cases hf:fs.toList[k]? with
 | none=>rw[hf] at h1;cases h1
 | some f=>
  rw[hf] at h1;simp only[Option.bind_some] at h1;cases he:ei P f.type with
  | none=>rw[he] at h1;cases h1
  | some e'=>
   rw[he] at h1;simp at h1;exact⟨f,by simpa using hf,h1.1.symm,by rw[he,h1.2]⟩
theorem Wf {P:Pg}{t:Lt}{e:EI}(h:ei P t=some e)(w:Lw):(sizeOf t).run P w= .ok e.sz w:=by obtain⟨i,u,hi,hu,rfl⟩:=JW h;simp[sizeOf,typeInfo,hi]
theorem V0r {P:Pg}{t:Lt}{e:EI}(h:ei P t=some e)(w:Lw):(isAgg t).run P w= .ok e.agg w:=by obtain⟨i,u,hi,hu,rfl⟩:=JW h;simp only[isAgg,Sem.run_bind,run_underlying hu,Result.andThen_ok];cases u<;>rfl
theorem RepF.slNo {w g F T v t es}(h:RepF w g F T v (.sl t es)):Rep w g v (.sl .no es):=by
 cases h with
 | base _ _ h=>exact h.toNo
 | own k es v h=>exact h
theorem RepF.pre_inv {w g F T v all n}(h:RepF w g F T v (.pre all n)):Rep w g v (.pre all n):=by
 cases h with
 | base _ _ h=>exact h
theorem RepF.gp_inv {w g F T v i off}(h:RepF w g F T v (.gp i off)):v= .pointer (some ⟨g.mu i,off,none⟩)/\i<g.n:=by
 cases h with
 | base _ _ h=>cases h with | gp i off hi=>exact⟨rfl,hi⟩
theorem RepF.ep_inv {w g F T v cs off}(h:RepF w g F T v (.ep cs off)):Rep w g v (.ep cs off):=by
 cases h with
 | base _ _ h=>exact h
theorem RepF.agg_inv {w g F T v cs}(h:RepF w g F T v (.agg cs)): ∃vs:Array Value,v= .agg vs/\vs.size=cs.length/\ ∀j,j<cs.length->RepF w g F T (vs.getD j undef) (cs.getD j .junk):=by
 cases h with
 | base _ _ h=>cases h with | agg vs cs hl h=>exact⟨vs,rfl,hl,fun j hj=> .base _ _ (h j hj)⟩
 | agg vs cs hl h=>exact⟨vs,rfl,hl,h⟩
theorem RepF.tup_inv {w g F T v cs}(h:RepF w g F T v (.tup cs)): ∃vs:Array Value,v= .tuple vs/\vs.size=cs.length/\ ∀j,j<cs.length->RepF w g F T (vs.getD j undef) (cs.getD j .junk):=by
 cases h with
 | base _ _ h=>cases h with | tup vs cs hl h=>exact⟨vs,rfl,hl,fun j hj=> .base _ _ (h j hj)⟩
 | tup vs cs hl h=>exact⟨vs,rfl,hl,h⟩
theorem Rep.len_sl {w g v t es}(h:Rep w g v (.sl t es)): ∃a cap,v= .slice a es.length cap:=by
 cases h with
 | nil t ad=>exact⟨ad,0,rfl⟩
 | sl t es b off sz cap=>exact⟨_,_,rfl⟩
theorem Rep.len_pre {w g v all n}(h:Rep w g v (.pre all n)): ∃a cap,v= .slice a n cap:=by
 cases h with
 | pre all n b off sz cap=>exact⟨_,_,rfl⟩
theorem RepF.len_ms {w g F T v gl i off n}(h:RepF w g F T v (.ms gl i off n)): ∃a cap,v= .slice (some ⟨a,off,none⟩) n cap:=by
 cases h with
 | base _ _ h=>cases h with | gms i off len cap hi hcap=>exact⟨_,_,rfl⟩
 | lms i off len cap hi hcap=>exact⟨_,_,rfl⟩
theorem RepF.len_gr {w g F T v i n c}(h:RepF w g F T v (.gr i n c)): ∃a,v= .slice a n c:=by
 cases h with
 | base _ _ h=>cases h with | gr i len cap hi hcap=>exact⟨_,rfl⟩
theorem RepF.len_mr {w g F T v i n c}(h:RepF w g F T v (.mr i n c)): ∃a,v= .slice a n c:=by
 cases h with
 | base _ _ h=>cases h
 | lmr i len cap hi hcap=>exact⟨_,rfl⟩
 | lmr0 i ad hi=>exact⟨_,rfl⟩
theorem qe {w g F T v p}(h:RepF w g F T v p)(hc:p.cellOK=true):v.oneCell'=true:=by
 cases h with
 | base _ _ h=>cases h<;>first | rfl | exact hc | cases hc
 | own k es v h=>cases h<;>rfl
 | _=>first | rfl | cases hc
theorem RepF.cells {w g F T v p}(h:RepF w g F T v p)(hc:p.cells.all PV.cellOK=true):
 v.cells.size=p.cells.length/\(∀j,j<p.cells.length->RepF w g F T (v.cells.getD j undef) (p.cells.getD j .junk))/\ ∀u∈v.cells.toList,u.oneCell'=true:=by
 by_cases hp: ∃cs,p= .agg cs;obtain⟨cs,rfl⟩:=hp;obtain⟨vs,rfl,hl,hv⟩:=h.agg_inv;refine⟨hl,hv,fun u hu=> ?_⟩;simp only[Value.cells] at hu;obtain⟨j,hj,rfl⟩:=List.getElem_of_mem hu;have hj':j<cs.length:=(by simp at hj;omega);have:=qe (hv j hj') (List.all_eq_true.1 hc _ (QE cs j .junk hj'));have e:vs.getD j undef=vs.toList[j]:=(by simp at hj;simp[q_f,hj]);rw[e] at this;exact this;have hpc:p.cells= [p]:=by cases p<;>first | rfl | exact absurd ⟨_,rfl⟩ hp
 rw[hpc] at hc⊢;have hone:=qe h (by simpa using hc);have hvc:v.cells= #[v]:=by cases v<;>first | rfl | cases hone
 rw[hvc];refine⟨rfl,fun j hj=> ?_,fun u hu=>by simp at hu;subst hu;exact hone⟩;simp at hj;subst hj;exact h
def Val (P:Program)(m:Sem Value)(w:World)(R:Value->Prop):Prop:= ∃v,m.run P w= .ok v w/\R v
theorem wL {P:Pg}(op:BinOp)(t:Lt)(x y:Operand)(a b:Value)(w:Lw)(ha: ∀cs,a≠ .agg cs)(hn:a≠ .nilIface):(eqGuard op t x y a b).run P w= .ok () w:=by
 unfold eqGuard;cases op<;>simp
 all_goals
  split;exact absurd rfl hn;exact absurd rfl (ha _);simp
theorem G1x {P:Pg}{op:BinOp}{k:IntKind}{a b:Int}{t:Lt}{p:PV}{s s':PFS}(w:Lw)(h:(Jp op k a b).run s=some (p,s'))(h1:op≠ .shl)(h2:op≠ .shr):
 s'=s/\ ∃v,p= .sc v/\(binOp op t (.int k a) (.int k b)).run P w= .ok v w:=by
 cases op<;>simp only[Jp,Req.run] at h<;>try cases h
 case quo=>
  split at h;rename_i hb;cases h;have hb:b≠0:=(by simpa using hb);exact⟨rfl,_,rfl,by simp[binOp,Op.intDiv,hb]⟩;cases h
 case rem=>
  split at h;rename_i hb;cases h;have hb:b≠0:=(by simpa using hb);exact⟨rfl,_,rfl,by simp[binOp,Op.intDiv,hb]⟩;cases h
 all_goals first
  | exact absurd rfl h1
  | exact absurd rfl h2
  | exact⟨rfl,_,rfl,by simp[binOp,Op.intArith,Op.intBits,Op.intCmp,ZV,bOr,qr,yF]⟩
theorem v0h {P:Pg}(w:Lw)(t:Lt){a b:ByteArray}(h:a.size+b.size<=9223372036854775807):(binOp .add t (.string a) (.string b)).run P w= .ok (.string (a++b)) w:=by
 have e: ¬(((a.size+b.size:Nat):Int)>IntKind.i64.max):=by have:IntKind.i64.max=9223372036854775807:=(by decide);rw[this];omega
 simp only[binOp,Op.stringOp,BA e];rfl
theorem Nc {P:Pg}(w:Lw){t:Lt}(hu:P.underlying t=some .bool)(a b:Bool):(Op.equal t (.bool a) (.bool b)).run P w= .ok (a==b) w:=by have: ∀d,(Op.equalIn (d+1) t (.bool a) (.bool b)).run P w= .ok (a==b) w:=fun d=>(by simp[Op.equalIn,run_underlying hu]);exact this 9999
theorem Nb {P:Pg}(w:Lw){t e:Lt}(hu:P.underlying t=some (.pointer e)):(Op.equal t (.pointer none) (.pointer none)).run P w= .ok true w:=by have: ∀d,(Op.equalIn (d+1) t (.pointer none) (.pointer none)).run P w= .ok true w:=fun d=>(by simp[Op.equalIn,run_underlying hu]);exact this 9999
theorem Mz {P:Pg}(w:Lw){t e:Lt}(hu:P.underlying t=some (.pointer e))(a:Addr):(Op.equal t (.pointer (some a)) (.pointer none)).run P w= .ok false w:=by have: ∀d,(Op.equalIn (d+1) t (.pointer (some a)) (.pointer none)).run P w= .ok false w:=fun d=>(by simp[Op.equalIn,run_underlying hu]);exact this 9999
theorem y1x {P:Pg}{op:BinOp}{t:Lt}{x y:PV}{p:PV}{s s':PFS}{w:Lw}{g:Gh}{F:Fr}{T:Lv}{a b:Value}(ox oy:Operand)
 (h:(Zf op (ti P t) x y).run s=some (p,s')) (hx:RepF w g F T a x) (hy:RepF w g F T b y):
 s'=s/\Val P (do eqGuard op t ox oy a b;binOp op t a b) w (fun v=>RepF w g F T v p):=by
 have fin: ∀ {u},(∀cs,a≠ .agg cs)->a≠ .nilIface->(binOp op t a b).run P w= .ok u w->RepF w g F T u p->Val P (do eqGuard op t ox oy a b;binOp op t a b) w (fun v=>RepF w g F T v p):=
  fun h1 h2 h3 h4=>⟨_,by simp only[Sem.run_bind,wL op t ox oy a b w h1 h2,Result.andThen_ok,h3],h4⟩
 unfold Zf at h;split at h
 --shl
 simp only[Req.run] at h;split at h;rename_i hb;cases h;have:=hx.sc_inv;subst this;have:=hy.sc_inv;subst this;have hb: ¬(_:Int)<0:=F8.2 (q_b hb);exact⟨rfl,fin (by simp) (by simp) (by simp[binOp,Op.shift,hb,Jr]) (.base _ _ (.sc _))⟩;cases h
 --shr
 simp only[Req.run] at h;split at h;rename_i hb;cases h;have:=hx.sc_inv;subst this;have:=hy.sc_inv;subst this;have hb: ¬(_:Int)<0:=F8.2 (q_b hb);exact⟨rfl,fin (by simp) (by simp) (by simp[binOp,Op.shift,hb,Z7]) (.base _ _ (.sc _))⟩;cases h
 --integers
 split at h;rename_i n1 n2 hk;subst hk;have:=hx.sc_inv;subst this;have:=hy.sc_inv;subst this;obtain⟨rfl,v,rfl,hv⟩:=G1x (P:=P) (t:=t) w h (by rintro rfl;simp_all) (by rintro rfl;simp_all);exact⟨rfl,fin (by simp) (by simp) hv (.base _ _ (.sc _))⟩;cases h;cases h;have:=hx.sc_inv;subst this;have:=hy.sc_inv;subst this;exact⟨rfl,fin (by simp) (by simp) (by simp[binOp,Op.stringOp]) (.base _ _ (.sc _))⟩;cases h;have:=hx.sc_inv;subst this;have:=hy.sc_inv;subst this;exact⟨rfl,fin (by simp) (by simp) (by simp[binOp,Op.stringOp]) (.base _ _ (.sc _))⟩;simp only[Req.run] at h;split at h;rename_i hb;cases h;have:=hx.sc_inv;subst this;have:=hy.sc_inv;subst this;have hb:=q_b hb;exact⟨rfl,fin (by simp) (by simp) (v0h w t hb) (.base _ _ (.sc _))⟩;cases h;split at h;rename_i hT;cases h;obtain⟨i,u,hi,hu,hTe⟩:=QU hT;have hud:=B4 TI.ud hTe;simp only at hud;refine⟨rfl,?_⟩;cases u<;>simp only[XO] at hud<;>(try split at hud)<;>try cases hud
 have:=hx.sc_inv;subst this;have:=hy.sc_inv;subst this;exact fin (by simp) (by simp) (by simp only[binOp,Sem.run_bind,Nc w hu,Result.andThen_ok,Sem.run_pure]) (.base _ _ (.sc _));cases h;split at h;rename_i hT;cases h;obtain⟨i,u,hi,hu,hTe⟩:=QU hT;have hud:=B4 TI.ud hTe;simp only at hud;refine⟨rfl,?_⟩;cases u<;>simp only[XO] at hud<;>(try split at hud)<;>try cases hud
 have:=hx.sc_inv;subst this;have:=hy.sc_inv;subst this;exact fin (by simp) (by simp) (by simp only[binOp,Sem.run_bind,Nc w hu,Result.andThen_ok,Sem.run_pure]) (.base _ _ (.sc _));cases h;split at h;rename_i hT;cases h;obtain⟨i,u,hi,hu,hTe⟩:=QU hT;have hud:=B4 TI.ud hTe;simp only at hud;refine⟨rfl,?_⟩;cases u<;>simp only[XO] at hud<;>(try split at hud)<;>try cases hud
 have:=hx.gp_inv.1;subst this;have:=hy.sc_inv;subst this;exact fin (by simp) (by simp) (by simp only[binOp,Sem.run_bind,Mz w hu,Result.andThen_ok,Sem.run_pure]) (.base _ _ (.sc _));cases h;split at h;rename_i hT;cases h;obtain⟨i,u,hi,hu,hTe⟩:=QU hT;have hud:=B4 TI.ud hTe;simp only at hud;refine⟨rfl,?_⟩;cases u<;>simp only[XO] at hud<;>(try split at hud)<;>try cases hud
 have:=hx.gp_inv.1;subst this;have:=hy.sc_inv;subst this;exact fin (by simp) (by simp) (by simp only[binOp,Sem.run_bind,Mz w hu,Result.andThen_ok,Sem.run_pure,Bool.not_false]) (.base _ _ (.sc _));cases h;split at h;rename_i hT;cases h;obtain⟨i,u,hi,hu,hTe⟩:=QU hT;have hud:=B4 TI.ud hTe;simp only at hud;refine⟨rfl,?_⟩;cases u<;>simp only[XO] at hud<;>(try split at hud)<;>try cases hud
 have:=hx.sc_inv;subst this;have:=hy.sc_inv;subst this;exact fin (by simp) (by simp) (by simp only[binOp,Sem.run_bind,Nb w hu,Result.andThen_ok,Sem.run_pure]) (.base _ _ (.sc _));cases h;split at h;rename_i hT;cases h;obtain⟨i,u,hi,hu,hTe⟩:=QU hT;have hud:=B4 TI.ud hTe;simp only at hud;refine⟨rfl,?_⟩;cases u<;>simp only[XO] at hud<;>(try split at hud)<;>try cases hud
 have:=hx.sc_inv;subst this;have:=hy.sc_inv;subst this;exact fin (by simp) (by simp) (by simp only[binOp,Sem.run_bind,Nb w hu,Result.andThen_ok,Sem.run_pure,FM]) (.base _ _ (.sc _));cases h;cases h
end Go.Pv
end
