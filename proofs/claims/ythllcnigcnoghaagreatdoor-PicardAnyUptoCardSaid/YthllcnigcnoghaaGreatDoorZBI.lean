/- Parts of the walk: PvAo, PvAp. -/
import Derived.Test.YthllcnigcnoghaaGreatDoorZBD
set_option linter.unusedVariables false
set_option linter.unusedSimpArgs false
section
/- Long drawn statements: the same check of a plan, out of a list of the operations' few facts, that the kernel reckons fast. -/
namespace Go.Pv
def lstN (n m : Nat) : Array Bool := ((List.range n).map m.testBit).toArray
def forceN (n : Nat) (k : Nat → Bool) : Bool := Nat.casesOn (motive := fun _ => Bool) n (k 0) (fun m => k (m + 1))
def amL : List Edge → Nat
  | [] => 0
  | e :: r => if Region.binds .any e then amL r ||| (1 <<< e.on) else amL r
structure OpSm where
  j : Nat
  am : Nat
  ld : Bool
  ef : Bool
  deriving DecidableEq
def sumL : Nat → List Oper → List OpSm
  | _, [] => []
  | j, o :: r => ⟨j, amL o.after.toList, loadOp o.op, !quietOp o.op⟩ :: sumL (j + 1) r
def stepSm (ops : Array Oper) (S : List OpSm) (i : Nat) (ws : List Nat) (m : Nat) : Bool :=
  S.any fun x => x.j == i && !m.testBit i && (x.am &&& m == x.am) && (!x.ef || S.all fun y => !y.ld || !m.testBit y.j || ws.contains y.j || reach ops y.j i)
def fullSm (ops : Array Oper) (S : List OpSm) (N m : Nat) (p : Plan) : Bool :=
  (S.all fun x => m.testBit x.j || !(x.am &&& m == x.am) || p.heads.contains x.j) || (match p with | .step i _ _ => freeB ops N (lstN ops.size m) i | _ => false)
def planSm (ops : Array Oper) (S : List OpSm) (N : Nat) : Plan → Nat → Nat → Bool
  | .done, _, _ => true
  | .step _ _ _, 0, _ => false
  | .step i ws rest, f + 1, m => stepSm ops S i ws m && forceN (m ||| (1 <<< i)) (fun m' => planSm ops S N rest f m' && fullSm ops S N m' rest)
  | .alt a b, f, m => planSm ops S N a f m && planSm ops S N b f m
section
variable {ops : Array Oper} {S : List OpSm} (hS : sumL 0 ops.toList = S) (hn : (S.all fun x => decide (x.am < 2 ^ ops.size)) = true)
include hS
end
def drawS (ops : Array Oper) (S : List OpSm) (N : Nat) (p : Plan) : Bool := planSm ops S N p ops.size 0 && fullSm ops S N 0 p && S.all fun x => decide (x.am < 2 ^ ops.size)
end Go.Pv
end

section
/- Slices of the frame's own that are written and appended to: their room is known. -/
namespace Go.Pv
def PV.kill1 (i : Nat) : PV → PV
  | .lp k off => if k = i then .junk else .lp k off
  | .ms false k off len => if k = i then .junk else .ms false k off len
  | .mr k len cap => if k = i then .junk else .mr k len cap
  | .agg _ | .tup _ | .fn _ _ _ => .junk
  | p => p
def PV.kill2 (i : Nat) : PV → PV
  | .agg l => .agg (l.map (PV.kill1 i))
  | .fn f l m => .fn f (l.map (PV.kill1 i)) (m.map (PV.kill1 i))
  | p => p.kill1 i
def PV.kill (i : Nat) : PV → PV
  | .tup l => .tup (l.map (PV.kill2 i))
  | p => p.kill2 i
def PV.quiet : PV → Bool
  | .lp _ _ | .ms false _ _ _ | .mr _ _ _ | .agg _ | .tup _ | .fn _ _ _ | .sl (.own _) _ | .sl (.fresh _) _ => false
  | _ => true
section
variable {w w' : World} {g g' : Gh} {F F' : Fr} {T : List (Nat × Nat)} {i : Nat}
theorem RepF.kill1 {v : Value} {p : PV} (hle : Le w g w' g') (hnl : F.nl ≤ F'.nl) (hmu : ∀ j, j < F.nl → j ≠ i → F'.lmu j = F.lmu j) (ht : TokLe w g F T w' g' F' T) (h : RepF w g F T v p) : RepF w' g' F' T v (p.kill1 i) := by
  cases h with
  | base v p hp =>
    have hp' := hp.mono hle
    cases p with
    | lp k off => cases hp
    | ms gl k off len => cases gl with
      | true => exact .base _ _ hp'
      | false => cases hp
    | mr k len cap => cases hp
    | agg l => exact .base _ _ (.junk _)
    | tup l => exact .base _ _ (.junk _)
    | fn f l m => exact .base _ _ (.junk _)
    | _ => exact .base _ _ hp'
  | lp k off hk =>
    simp only [PV.kill1]
    split
    · exact .base _ _ (.junk _)
    · rename_i hne; rw [← hmu k hk hne]; exact .lp k off (Nat.lt_of_lt_of_le hk hnl)
  | lms k off len cap hk hcap =>
    simp only [PV.kill1]
    split
    · exact .base _ _ (.junk _)
    · rename_i hne; rw [← hmu k hk hne]; exact .lms k off len cap (Nat.lt_of_lt_of_le hk hnl) hcap
  | lmr k len cap hk hcap =>
    simp only [PV.kill1]
    split
    · exact .base _ _ (.junk _)
    · rename_i hne; rw [← hmu k hk hne]; exact .lmr k len cap (Nat.lt_of_lt_of_le hk hnl) hcap
  | lmr0 k ad hk =>
    simp only [PV.kill1]
    split
    · exact .base _ _ (.junk _)
    · exact .lmr0 k ad (Nat.lt_of_lt_of_le hk hnl)
  | own k es v hp hk hle' hr =>
    obtain ⟨t1, t2⟩ := ht.2 k hk
    exact .own k es v (hp.mono hle) (Nat.lt_of_lt_of_le hk ht.1) (Nat.le_trans hle' t1) (fun e => t2 (by omega) v es (hr (by omega)))
  | agg vs cs hl h => exact .base _ _ (.junk _)
  | tup vs cs hl h => exact .base _ _ (.junk _)
  | fn f us vs bs cs hk hl h0 h => exact .base _ _ (.junk _)
theorem RepF.kill2 {v : Value} {p : PV} (hle : Le w g w' g') (hnl : F.nl ≤ F'.nl) (hmu : ∀ j, j < F.nl → j ≠ i → F'.lmu j = F.lmu j) (ht : TokLe w g F T w' g' F' T) (h : RepF w g F T v p) : RepF w' g' F' T v (p.kill2 i) := by
  have gm : ∀ (l : List PV) (j : Nat), (l.map (PV.kill1 i)).getD j .junk = (l.getD j .junk).kill1 i := fun l j => getD_map_j rfl l j
  cases p with
  | agg l =>
    obtain ⟨vs, rfl, hl, hv⟩ := h.agg_inv
    exact .agg vs _ (by simpa using hl) fun j hj => by rw [gm]; exact (hv j (by simpa using hj)).kill1 hle hnl hmu ht
  | fn f l m =>
    cases h with
    | base _ _ h =>
      cases h with
      | fn f us vs bs cs' hk hl h0 h =>
        exact .fn f us vs _ _ (by simpa using hk) (by simpa using hl) (fun j hj => by rw [gm]; exact (RepF.base _ _ (h0 j (by simpa using hj))).kill1 hle hnl hmu ht) fun j hj => by rw [gm]; exact (RepF.base _ _ (h j (by simpa using hj))).kill1 hle hnl hmu ht
    | fn f us vs bs cs' hk hl h0 h =>
      exact .fn f us vs _ _ (by simpa using hk) (by simpa using hl) (fun j hj => by rw [gm]; exact (h0 j (by simpa using hj)).kill1 hle hnl hmu ht) fun j hj => by rw [gm]; exact (h j (by simpa using hj)).kill1 hle hnl hmu ht
  | _ => exact RepF.kill1 hle hnl hmu ht h
theorem RepF.kill {v : Value} {p : PV} (hle : Le w g w' g') (hnl : F.nl ≤ F'.nl) (hmu : ∀ j, j < F.nl → j ≠ i → F'.lmu j = F.lmu j) (ht : TokLe w g F T w' g' F' T) (h : RepF w g F T v p) : RepF w' g' F' T v (p.kill i) := by
  cases p with
  | tup l =>
    obtain ⟨vs, rfl, hl, hv⟩ := h.tup_inv
    exact .tup vs _ (by simpa using hl) fun j hj => by
      rw [show (l.map (PV.kill2 i)).getD j .junk = (l.getD j .junk).kill2 i from getD_map_j rfl l j]
      exact (hv j (by simpa using hj)).kill2 hle hnl hmu ht
  | _ => exact RepF.kill2 hle hnl hmu ht h
end
def PFS.room (i : Nat) (X : List PV) (s : PFS) : PFS := ⟨s.pa.map (PV.kill i), (s.L.map fun l => l.map (PV.kill i)).set i X, s.T, s.st⟩
def RoomOK (cs : List PV) (len cap : Nat) (ys : List PV) (e : EI) : Prop :=
  e.zok = true ∧ 0 < e.sz ∧ cs.length = cap * e.sz ∧ len + ys.length ≤ 1152921504606846976 ∧ (len + ys.length) * e.by_ ≤ 140737488355328 ∧
    ys.all (fun x => (x.cells.length == e.sz) && x.cells.all PV.cellOK) = true ∧ cs.all PV.quiet = true ∧ (flat ys).all PV.quiet = true
def appr0 (T U : Option TI) (x y : PV) (s : PFS) (K : PV → PFS → Prop) : Prop :=
  match T, U, x, y with
  | some ⟨_, _, .slice e, _⟩, some ⟨_, _, .slice _, _⟩, .mr i len cap, .sl _ ys => RoomOK (s.L.getD i []) len cap ys e ∧ ∀ cap' R, len + ys.length ≤ cap' → R.length = (cap' - (len + ys.length)) * e.sz → R.all PV.quiet = true →
      K (.mr i (len + ys.length) cap') (s.room i ((s.L.getD i []).take (len * e.sz) ++ (flat ys ++ R)))
  | _, _, _, _ => False
def POr0 (P : Program) (o : Oper) (K : PFS → Prop) (s : PFS) : Prop :=
  match o.op with
  | .call { callee := .builtin .append, args, argTypes } =>
    match argTypes.toList, args.toList with
    | [t, u], [x, y] => appr0 (ti P t) (ti P u) (s.ev x) (s.ev y) s (fun p s' => K (s'.put o.dst p))
    | _, _ => False
  | _ => False
def OLr0 (P : Program) (ops : List Oper) : List Bool → List Oper → (PFS → Prop) → PFS → Prop
  | _, [], K, s => K s
  | [], rest, K, s => OL0 P ops rest K s
  | true :: bs, o :: rest, K, s => o.guard = none ∧ POr0 P o (OLr0 P ops bs rest K) s
  | false :: bs, o :: rest, K, s =>
    match o.guard with
    | none => OC0 P o (OLr0 P ops bs rest K) s
    | some (j, want) => GK0 (guardVal ops s j want) want (OC0 P o (OLr0 P ops bs rest K) s) (OLr0 P ops bs rest K (s.put o.dst (.tup [])))
def OLr (P : Program) (ops : List Oper) (bs : List Bool) (rest : List Oper) (K : PFS → Prop) [Stop ops] [Stop rest] [Stop K] (s : PFS) : Prop := OLr0 P ops bs rest K s
def POr (P : Program) (o : Oper) (K : PFS → Prop) [Stop o] [Stop K] (s : PFS) : Prop := POr0 P o K s
section
variable {P : Program} {s : PFS} {K : PFS → Prop} {d : Option Tmp} {ty : TypeId} {pos : String} {af : Array Edge}
@[go_sem] theorem OLr_nil {ops : List Oper} {bs : List Bool} : OLr P ops bs [] K s = K s := by cases bs <;> rfl
@[go_sem] theorem OLr_end {ops rest : List Oper} : OLr P ops [] rest K s = OL P ops rest K s := by cases rest <;> rfl
@[go_sem] theorem OLr_t {ops rest : List Oper} {bs : List Bool} {op : Op} : OLr P ops (true :: bs) (⟨d, op, ty, pos, af, none⟩ :: rest) K s = POr P ⟨d, op, ty, pos, af, none⟩ (OLr P ops bs rest K) s := by
  show ((none : Option (Nat × Bool)) = none ∧ _) = _
  simp only [true_and]; rfl
@[go_sem] theorem OLr_f {ops rest : List Oper} {bs : List Bool} {op : Op} : OLr P ops (false :: bs) (⟨d, op, ty, pos, af, none⟩ :: rest) K s = OC P ⟨d, op, ty, pos, af, none⟩ (OLr P ops bs rest K) s := (rfl)
@[go_sem] theorem OLr_fg {ops rest : List Oper} {bs : List Bool} {op : Op} {j : Nat} {want : Bool} : OLr P ops (false :: bs) (⟨d, op, ty, pos, af, some (j, want)⟩ :: rest) K s =
    GK (guardVal ops s j want) want (OC P ⟨d, op, ty, pos, af, some (j, want)⟩ (OLr P ops bs rest K) s) (OLr P ops bs rest K (s.put d (.tup []))) := rfl
def apprPV (T U : Option TI) (x y : PV) (s : PFS) (K : PV → PFS → Prop) [Stop K] : Prop := appr0 T U x y s K
@[go_sem] theorem POr_app {x y : Operand} {t u : TypeId} : POr P ⟨d, .call ⟨.builtin .append, [x, y].toArray, [t, u].toArray⟩, ty, pos, af, none⟩ K s = apprPV (ti P t) (ti P u) (s.ev x) (s.ev y) s (fun p s' => K (s'.put d p)) := (rfl)
@[go_sem] theorem apprPV_ok {e e' : EI} {x1 y1 : Bool} {x2 y2 : Nat} {x4 y4 : Option Value} {t : Tag} {i len cap : Nat} {ys : List PV} {K : PV → PFS → Prop} : apprPV (some ⟨x1, x2, .slice e, x4⟩) (some ⟨y1, y2, .slice e', y4⟩) (.mr i len cap) (.sl t ys) s K =
    (RoomOK (s.L.getD i []) len cap ys e ∧ ∀ cap' R, len + ys.length ≤ cap' → R.length = (cap' - (len + ys.length)) * e.sz → R.all PV.quiet = true → K (.mr i (len + ys.length) cap') (s.room i ((s.L.getD i []).take (len * e.sz) ++ (flat ys ++ R)))) := (rfl)
@[go_sem] theorem room_mk {i : Nat} {X pa : List PV} {L st : Store} {T : List (Nat × Nat)} : (PFS.mk pa L T st).room i X = ⟨pa.map (PV.kill i), (L.map fun l => l.map (PV.kill i)).set i X, T, st⟩ := (rfl)
@[go_sem] theorem kill_junk {i : Nat} : PV.kill i .junk = .junk := (rfl)
@[go_sem] theorem kill_sc {i : Nat} {v : Value} : PV.kill i (.sc v) = .sc v := (rfl)
@[go_sem] theorem kill_gp {i k o : Nat} : PV.kill i (.gp k o) = .gp k o := (rfl)
@[go_sem] theorem kill_sl {i : Nat} {t : Tag} {es : List PV} : PV.kill i (.sl t es) = .sl t es := (rfl)
@[go_sem] theorem kill_ep {i o : Nat} {es : List PV} : PV.kill i (.ep es o) = .ep es o := (rfl)
@[go_sem] theorem kill_pre {i n : Nat} {es : List PV} : PV.kill i (.pre es n) = .pre es n := (rfl)
@[go_sem] theorem kill_mst {i k o n : Nat} : PV.kill i (.ms true k o n) = .ms true k o n := (rfl)
@[go_sem] theorem kill_msf {i k o n : Nat} : PV.kill i (.ms false k o n) = if k = i then .junk else .ms false k o n := (rfl)
@[go_sem] theorem kill_mr {i k n c : Nat} : PV.kill i (.mr k n c) = if k = i then .junk else .mr k n c := (rfl)
@[go_sem] theorem kill_lp {i k o : Nat} : PV.kill i (.lp k o) = if k = i then .junk else .lp k o := (rfl)
@[go_sem] theorem kill_agg {i : Nat} {l : List PV} : PV.kill i (.agg l) = .agg (l.map (PV.kill1 i)) := (rfl)
@[go_sem] theorem kill_tup {i : Nat} {l : List PV} : PV.kill i (.tup l) = .tup (l.map (PV.kill2 i)) := (rfl)
@[go_sem] theorem kill_fn {i : Nat} {f : Fn} {l m : List PV} : PV.kill i (.fn f l m) = .fn f (l.map (PV.kill1 i)) (m.map (PV.kill1 i)) := (rfl)
@[go_sem] theorem kill2_junk {i : Nat} : PV.kill2 i .junk = .junk := (rfl)
@[go_sem] theorem kill2_sc {i : Nat} {v : Value} : PV.kill2 i (.sc v) = .sc v := (rfl)
@[go_sem] theorem kill2_sl {i : Nat} {t : Tag} {es : List PV} : PV.kill2 i (.sl t es) = .sl t es := (rfl)
@[go_sem] theorem kill2_agg {i : Nat} {l : List PV} : PV.kill2 i (.agg l) = .agg (l.map (PV.kill1 i)) := (rfl)
@[go_sem] theorem kill1_junk {i : Nat} : PV.kill1 i .junk = .junk := (rfl)
@[go_sem] theorem kill1_sc {i : Nat} {v : Value} : PV.kill1 i (.sc v) = .sc v := (rfl)
@[go_sem] theorem kill1_gp {i k o : Nat} : PV.kill1 i (.gp k o) = .gp k o := (rfl)
@[go_sem] theorem kill1_sl {i : Nat} {t : Tag} {es : List PV} : PV.kill1 i (.sl t es) = .sl t es := (rfl)
@[go_sem] theorem kill1_ep {i o : Nat} {es : List PV} : PV.kill1 i (.ep es o) = .ep es o := (rfl)
@[go_sem] theorem kill1_lp {i k o : Nat} : PV.kill1 i (.lp k o) = if k = i then .junk else .lp k o := (rfl)
@[go_sem] theorem kill1_msf {i k o n : Nat} : PV.kill1 i (.ms false k o n) = if k = i then .junk else .ms false k o n := (rfl)
@[go_sem] theorem kill1_mst {i k o n : Nat} : PV.kill1 i (.ms true k o n) = .ms true k o n := (rfl)
@[go_sem] theorem kill1_mr {i k n c : Nat} : PV.kill1 i (.mr k n c) = if k = i then .junk else .mr k n c := (rfl)
@[go_sem] theorem cells_mr {i n c : Nat} : (PV.mr i n c).cells = [.mr i n c] := (rfl)
end
end Go.Pv
end
