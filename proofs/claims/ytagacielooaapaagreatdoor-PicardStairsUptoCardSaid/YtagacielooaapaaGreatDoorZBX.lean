/- Parts of the walk: PvAu. -/
import Derived.Test.YtagacielooaapaaGreatDoorZBD
import Derived.Test.YtagacielooaapaaGreatDoorZBI
import Derived.Test.YtagacielooaapaaGreatDoorZAN
set_option linter.unusedVariables false
set_option linter.unusedSimpArgs false
section
/-A slice of larger elements that is handed back to be written:an object of the store,which becomes a plain slice again. -/
namespace Go.Pv
theorem W2l {E:Ent} (s:PFS) (t i len cap:Nat) (ht:s.pa.getD t .junk= .mr i len cap) (hl:0<len):Weak E s { s with pa:=s.pa.set t (.ms false i 0 len) } :=by
 intro a w g F h
 refine⟨g,F,h.ext,h.store,h.frame,h.defers,by simp [h.len],fun k hk=> ?_⟩
 simp only [List.length_set] at hk⊢
 by_cases e:t=k
 · subst e
   rw [Q0r _ _ _ _ hk]
   have:=h.tmps t hk
   rw [ht] at this
   generalize a.tmps.getD t undef=v at this⊢
   cases this with
   | base _ _ h'=>cases h'
   | lmr _ _ _ hi hcap=>exact .lms i 0 len cap hi hcap
   | lmr0 _ _ _=>omega
 · rw [Q0q _ _ _ _ _ e]
   exact h.tmps k hk
theorem k2f {P:Program} {E:Ent} {c:Code} {Q:Exit→PFS→Prop} {s:PFS} (t i len cap:Nat) (ht:s.pa.getD t .junk= .mr i len cap) (hl:0<len) (h:PWP P E c Q { s with pa:=s.pa.set t (.ms false i 0 len) }):PWP P E c Q s:=J0t (W2l s t i len cap ht hl) h
def PV.frzH1 (k sz:Nat) (cs:List PV):PV→PV
 | .ms true k' off len=>if k'=k∧off+len*sz≤cs.length then .sl .no (W0j sz len (cs.drop off)) else .ms true k' off len
 | p=>p
def PV.frzH (k sz:Nat) (cs:List PV):PV→PV
 | .agg l=> .agg (l.map (PV.frzH1 k sz cs))
 | .tup l=> .tup (l.map (PV.frzH1 k sz cs))
 | .fn f l m=> .fn f (l.map (PV.frzH1 k sz cs)) (m.map (PV.frzH1 k sz cs))
 | p=>p.frzH1 k sz cs
structure SolidH (w:World) (g':Gh) (k sz:Nat) (cs:List PV):Prop where
 sl: ∀v off len,k<g'.n→Rep w g' v (.ms true k off len)→off+len*sz≤cs.length→Rep w g' v (.sl .no (W0j sz len (cs.drop off)))
section
variable {w:World} {g g':Gh} {F:Fr} {T:List (Nat×Nat)} {k sz:Nat} {cs:List PV}
theorem RepF.frzH1 {v:Value} {p:PV} (hk:k<g'.n) (hm: ∀v p,RepF w g F T v p→RepF w g' F T v p) (hz:SolidH w g' k sz cs) (h:RepF w g F T v p):RepF w g' F T v (p.frzH1 k sz cs):=by
 have h':=hm _ _ h
 cases p with
 | ms gl k' off len=>
  cases gl with
  | false=>exact h'
  | true=>
   simp only [PV.frzH1]
   split
   · rename_i e
     obtain⟨rfl,hle⟩:=e
     cases h' with
     | base _ _ h'=>exact .base _ _ (hz.sl _ _ _ hk h' hle)
   · exact h'
 | _=>exact h'
theorem RepF.frzH {v:Value} {p:PV} (hk:k<g'.n) (hm: ∀v p,RepF w g F T v p→RepF w g' F T v p) (hz:SolidH w g' k sz cs) (h:RepF w g F T v p):RepF w g' F T v (p.frzH k sz cs):=by
 have gm: ∀(l:List PV) (j:Nat),(l.map (PV.frzH1 k sz cs)).getD j .junk=(l.getD j .junk).frzH1 k sz cs:=fun l j=>Q0w rfl l j
 cases p with
 | agg l=>
  cases h with
  | base _ _ h=>
   cases h with
   | agg vs cs' hl h=>exact .agg vs _ (by simpa using hl) fun j hj=>by rw [gm];exact RepF.frzH1 hk hm hz (.base _ _ (h j (by simpa using hj)))
  | agg vs cs' hl h=>exact .agg vs _ (by simpa using hl) fun j hj=>by rw [gm];exact RepF.frzH1 hk hm hz (h j (by simpa using hj))
 | tup l=>
  cases h with
  | base _ _ h=>
   cases h with
   | tup vs cs' hl h=>exact .tup vs _ (by simpa using hl) fun j hj=>by rw [gm];exact RepF.frzH1 hk hm hz (.base _ _ (h j (by simpa using hj)))
  | tup vs cs' hl h=>exact .tup vs _ (by simpa using hl) fun j hj=>by rw [gm];exact RepF.frzH1 hk hm hz (h j (by simpa using hj))
 | fn f l m=>
  cases h with
  | base _ _ h=>
   cases h with
   | fn f us vs bs cs' hk' hl h0 h=>
    exact .fn f us vs _ _ (by simpa using hk') (by simpa using hl) (fun j hj=>by rw [gm];exact RepF.frzH1 hk hm hz (.base _ _ (h0 j (by simpa using hj)))) fun j hj=>by rw [gm];exact RepF.frzH1 hk hm hz (.base _ _ (h j (by simpa using hj)))
  | fn f us vs bs cs' hk' hl h0 h=>
   exact .fn f us vs _ _ (by simpa using hk') (by simpa using hl) (fun j hj=>by rw [gm];exact RepF.frzH1 hk hm hz (h0 j (by simpa using hj))) fun j hj=>by rw [gm];exact RepF.frzH1 hk hm hz (h j (by simpa using hj))
 | _=>exact RepF.frzH1 hk hm hz h
end
def PFS.freezeH (k sz:Nat) (s:PFS):PFS:=⟨s.pa.map (PV.frzH k sz (s.st.getD k [])),s.L.map fun l=>l.map (PV.frzH k sz (s.st.getD k [])),s.T,s.st.set k []⟩
section
variable {k sz:Nat} {cs:List PV}
@[go_sem] theorem H3l {k sz:Nat} {pa:List PV} {L st:Q0e} {T:List (Nat×Nat)} :(PFS.mk pa L T st).freezeH k sz=⟨pa.map (PV.frzH k sz (st.getD k [])),L.map fun l=>l.map (PV.frzH k sz (st.getD k [])),T,st.set k []⟩:=(rfl)
@[go_sem] theorem k3d :PV.frzH k sz cs .junk= .junk:=(rfl)
@[go_sem] theorem Y4d {v:Value} :PV.frzH k sz cs (.sc v)=(.sc v):=(rfl)
@[go_sem] theorem Y4f {i o:Nat} :PV.frzH k sz cs (.lp i o)=(.lp i o):=(rfl)
@[go_sem] theorem Y4g {i o:Nat} :PV.frzH k sz cs (.gp i o)=(.gp i o):=(rfl)
@[go_sem] theorem Y4c {t:Tag} {es:List PV} :PV.frzH k sz cs (.sl t es)=(.sl t es):=(rfl)
@[go_sem] theorem Y4h {es:List PV} {o:Nat} :PV.frzH k sz cs (.ep es o)=(.ep es o):=(rfl)
@[go_sem] theorem Z4f {i o n:Nat} :PV.frzH k sz cs (.ms false i o n)=(.ms false i o n):=(rfl)
@[go_sem] theorem Y4e {i n c:Nat} :PV.frzH k sz cs (.mr i n c)=(.mr i n c):=(rfl)
@[go_sem] theorem Z4g {l:List PV} :PV.frzH k sz cs (.agg l)= .agg (l.map (PV.frzH1 k sz cs)):=(rfl)
@[go_sem] theorem Z4e {l:List PV} :PV.frzH k sz cs (.tup l)= .tup (l.map (PV.frzH1 k sz cs)):=(rfl)
@[go_sem] theorem H3i :PV.frzH1 k sz cs .junk= .junk:=(rfl)
@[go_sem] theorem Z4i {v:Value} :PV.frzH1 k sz cs (.sc v)=(.sc v):=(rfl)
@[go_sem] theorem Z4h {t:Tag} {es:List PV} :PV.frzH1 k sz cs (.sl t es)=(.sl t es):=(rfl)
end
end Go.Pv
end
