/- Parts of the walk: PvAj, PvAk. -/
import Derived.Test.YtofoadghajnglaaGreatDoorZAA
import Derived.Test.YtofoadghajnglaaGreatDoorZC
import Derived.Test.YtofoadghajnglaaGreatDoorZE
set_option linter.unusedVariables false
set_option linter.unusedSimpArgs false
section
/-What is appended to an empty slice may be written:a box of the frame's own. Boxes of larger elements that are written no more. -/
namespace Go.Pv
def flat (ys:List PV):List PV:=(ys.map PV.cells).flatten
theorem v0m (y:PV) (ys:List PV):flat (y::ys)=y.cells++flat ys:=by simp [flat]
theorem J0i {sz:Nat} : ∀ {ys:List PV},(∀i,i<ys.length→(ys.getD i .junk).cells.length=sz)→(flat ys).length=ys.length*sz
 | [],_=>by simp [flat]
 | y::ys,h=>by
  have h0:y.cells.length=sz:=h 0 (by simp)
  rw [v0m,List.length_append,h0,J0i (ys:=ys) (fun i hi=>h (i+1) (by simpa using hi)),List.length_cons,Nat.add_mul]
  omega
theorem G0x {sz:Nat} : ∀ {ys:List PV},(∀i,i<ys.length→(ys.getD i .junk).cells.length=sz)→ ∀m,m<ys.length*sz→(flat ys).getD m .junk=(ys.getD (m/sz) .junk).cells.getD (m % sz) .junk
 | [],_,m,hm=>by simp at hm
 | y::ys,h,m,hm=>by
  have h0:y.cells.length=sz:=h 0 (by simp)
  have hp:0<sz:=by
   refine Nat.pos_of_ne_zero fun e=> ?_
   rw [e] at hm;simp at hm
  rw [v0m]
  by_cases hlt:m<sz
  · rw [Q0i _ _ _ _ (by omega),Nat.div_eq_of_lt hlt,Nat.mod_eq_of_lt hlt];rfl
  · have hm':m-sz<ys.length*sz:=by rw [List.length_cons,Nat.add_mul] at hm;omega
    rw [Q0n _ _ _ _ (by omega),h0,G0x (ys:=ys) (fun i hi=>h (i+1) (by simpa using hi)) _ hm']
    have e1:m/sz=(m-sz)/sz+1:=Nat.div_eq_sub_div hp (by omega)
    rw [e1,←Nat.mod_eq_sub_mod (by omega)]
    rfl
theorem q2q {w:World} {g:Gh} {F:Fr} {T:List (Nat×Nat)} {v:Value} (h:RepF w g F T v (.sl .full [])): ∃ad,v= .slice ad 0 0:=by
 have h':Rep w g v (.sl .full []):=by cases h with | base _ _ h=>exact h
 have key: ∀es:List PV,es= []→Rep w g v (.sl .full es)→ ∃ad,v= .slice ad 0 0:=fun es he h=>by
  cases h with
  | nil t ad ht=>exact⟨ad,rfl⟩
  | sl t es b off sz cap cf ht hf hcap hsz hvis hc hr=>
   have:=hf rfl
   subst he
   exact⟨_,by rw [this];rfl⟩
 exact key [] rfl h'
def G3f (T U:Option TI) (x y:PV) (s:PFS) (K:PV→PFS→Prop):Prop:=
 match T,U,x,y with
 | some ⟨_,_,.slice e,_⟩,some ⟨_,_,.slice _,_⟩,.sl .full [],.sl _ ys=>(Y1t [] ys e∧0<ys.length)∧K (.ms false s.L.length 0 ys.length) { s with L:=s.L++ [flat ys] }
 | _,_,_,_=>False
def POm0 (P:Program) (o:Oper) (K:PFS→Prop) (s:PFS):Prop:=
 match o.op with
 | .call { callee:= .builtin .append,args,argTypes } =>
  match argTypes.toList,args.toList with
  | [t,u],[x,y]=>G3f (ti P t) (ti P u) (s.ev x) (s.ev y) s (fun p s'=>K (s'.put o.dst p))
  | _,_=>False
 | _=>False
def OLm0 (P:Program) (ops:List Oper):List Bool→List Oper→(PFS→Prop)→PFS→Prop
 | _,[],K,s=>K s
 | [],rest,K,s=>OL0 P ops rest K s
 | true::bs,o::rest,K,s=>o.guard=none∧POm0 P o (OLm0 P ops bs rest K) s
 | false::bs,o::rest,K,s=>
  match o.guard with
  | none=>OC0 P o (OLm0 P ops bs rest K) s
  | some (j,want)=>GK0 (Z0j ops s j want) want (OC0 P o (OLm0 P ops bs rest K) s) (OLm0 P ops bs rest K (s.put o.dst (.tup [])))
def OLm (P:Program) (ops:List Oper) (bs:List Bool) (rest:List Oper) (K:PFS→Prop) [Stop ops] [Stop rest] [Stop K] (s:PFS):Prop:=OLm0 P ops bs rest K s
def POm (P:Program) (o:Oper) (K:PFS→Prop) [Stop o] [Stop K] (s:PFS):Prop:=POm0 P o K s
section
variable {P:Program} {s:PFS} {K:PFS→Prop} {d:Option Tmp} {ty:TypeId} {pos:String} {af:Array Edge}
@[go_sem] theorem Q4q {ops:List Oper} {bs:List Bool} :OLm P ops bs [] K s=K s:=by cases bs<;>rfl
@[go_sem] theorem Q4r {ops rest:List Oper} :OLm P ops [] rest K s=OL P ops rest K s:=by cases rest<;>rfl
@[go_sem] theorem X4v {ops rest:List Oper} {bs:List Bool} {op:Op} :OLm P ops (true::bs) (⟨d,op,ty,pos,af,none⟩::rest) K s=POm P ⟨d,op,ty,pos,af,none⟩ (OLm P ops bs rest K) s:=by
 show((none:Option (Nat×Bool))=none∧_)=_
 simp only [true_and];rfl
@[go_sem] theorem X4w {ops rest:List Oper} {bs:List Bool} {op:Op} :OLm P ops (false::bs) (⟨d,op,ty,pos,af,none⟩::rest) K s=OC P ⟨d,op,ty,pos,af,none⟩ (OLm P ops bs rest K) s:=(rfl)
@[go_sem] theorem X4a {ops rest:List Oper} {bs:List Bool} {op:Op} {j:Nat} {want:Bool} :OLm P ops (false::bs) (⟨d,op,ty,pos,af,some (j,want)⟩::rest) K s=
 GK (Z0j ops s j want) want (OC P ⟨d,op,ty,pos,af,some (j,want)⟩ (OLm P ops bs rest K) s) (OLm P ops bs rest K (s.put d (.tup []))):=rfl
def k2r (T U:Option TI) (x y:PV) (s:PFS) (K:PV→PFS→Prop) [Stop K]:Prop:=G3f T U x y s K
@[go_sem] theorem Q4f {x y:Operand} {t u:TypeId} :POm P ⟨d,.call ⟨.builtin .append,[x,y].toArray,[t,u].toArray⟩,ty,pos,af,none⟩ K s=k2r (ti P t) (ti P u) (s.ev x) (s.ev y) s (fun p s'=>K (s'.put d p)):=(rfl)
@[go_sem] theorem G3e {e e':EI} {x1 y1:Bool} {x2 y2:Nat} {x4 y4:Option Value} {t:Tag} {ys:List PV} {K:PV→PFS→Prop} :k2r (some ⟨x1,x2,.slice e,x4⟩) (some ⟨y1,y2,.slice e',y4⟩) (.sl .full []) (.sl t ys) s K=
 ((Y1t [] ys e∧0<ys.length)∧K (.ms false s.L.length 0 ys.length) { s with L:=s.L++ [flat ys] }):=(rfl)
end
def Y0e (sz:Nat):Nat→List PV→List PV
 | 0,_=> []
 | n+1,cs=> .agg (cs.take sz)::Y0e sz n (cs.drop sz)
theorem Z0v (sz:Nat): ∀(n:Nat) (cs:List PV),(Y0e sz n cs).length=n
 | 0,_=>rfl
 | n+1,cs=>by simp [Y0e,Z0v sz n]
theorem U0l (sz:Nat): ∀(n:Nat) (cs:List PV) (i:Nat),i<n→(Y0e sz n cs).getD i .junk= .agg ((cs.drop (i*sz)).take sz)
 | 0,_,i,h=>by omega
 | n+1,cs,0,h=>by simp [Y0e]
 | n+1,cs,i+1,h=>by
  have:=U0l sz n (cs.drop sz) i (by omega)
  show(Y0e sz n (cs.drop sz)).getD i .junk=_
  rw [this,List.drop_drop,Nat.add_mul,Nat.one_mul,Nat.add_comm]
theorem J1d {sz:Nat} : ∀ {ys:List PV} (r:List PV),(∀y∈ys,y= .agg y.cells∧y.cells.length=sz)→Y0e sz ys.length (flat ys++r)=ys
 | [],r,_=>rfl
 | y::ys,r,h=>by
  obtain⟨h1,h2⟩:=h y (by simp)
  have ih:=J1d (ys:=ys) r (fun z hz=>h z (by simp [hz]))
  simp only [List.length_cons,Y0e,v0m]
  rw [List.append_assoc,List.take_append_of_le_length (by omega),List.take_of_length_le (by omega),List.drop_append_of_le_length (by omega),List.drop_of_length_le (by omega),List.nil_append,ih,←h1]
def PV.frzN1 (i sz:Nat) (cs:List PV):PV→PV
 | .lp k off=>if k=i then .ep cs off else .lp k off
 | .ms false k off len=>if k=i then(if off+len*sz≤cs.length then .sl .no (Y0e sz len (cs.drop off)) else .junk) else .ms false k off len
 | .mr k len cap=>if k=i then(if len*sz≤cs.length then .sl .no (Y0e sz len cs) else .junk) else .mr k len cap
 | p=>p
def PV.frzN (i sz:Nat) (cs:List PV):PV→PV
 | .agg l=> .agg (l.map (PV.frzN1 i sz cs))
 | .tup l=> .tup (l.map (PV.frzN1 i sz cs))
 | .fn f l m=> .fn f (l.map (PV.frzN1 i sz cs)) (m.map (PV.frzN1 i sz cs))
 | p=>p.frzN1 i sz cs
def PFS.freezeN (i sz:Nat) (s:PFS):PFS:=
 let cs:=(s.L.getD i []).map PV.forget2
 ⟨s.pa.map (PV.frzN i sz cs),(s.L.map fun l=>l.map (PV.frzN i sz cs)).set i [],s.T,s.st⟩
section
variable {w:World} {g g':Gh} {F:Fr} {T:List (Nat×Nat)} {i sz:Nat} {cs:List PV}
theorem RepF.frzN1 {v:Value} {p:PV} (hm: ∀v p,RepF w g F T v p→RepF w g' F T v p) (hz:Frozen w g' (F.lmu i) cs) (h:RepF w g F T v p):RepF w g' F T v (p.frzN1 i sz cs):=by
 obtain⟨cf,hcf⟩:=hz.cf
 have h':=hm _ _ h
 cases p with
 | lp k off=>
  simp only [PV.frzN1]
  split
  · rename_i e;subst e
    cases h' with
    | base _ _ h'=>cases h'
    | lp k off hi=>
     have:=Rep.ep (w:=w) (g:=g') cs off (F.lmu k) 0 cf (by simpa using hz.vis) (fun j hj=>by simpa using(hcf j hj).1) (fun j hj=>(hcf j hj).2)
     rw [Nat.zero_add] at this
     exact .base _ _ this
  · exact h'
 | ms gl k off len=>
  cases gl with
  | true=>exact h'
  | false=>
   simp only [PV.frzN1]
   split
   · rename_i e;subst e
     split
     · rename_i hle
       cases h' with
       | base _ _ h'=>cases h'
       | lms k off len cap hi hcap=>
        have hin: ∀a b,a<len→b<sz→off+a*sz+b<cs.length:=fun a b ha hb=>by have:=J0o ha hb;omega
        have hfit: ∀a,a<len→a*sz+sz≤len*sz:=fun a ha=>by
         have:(a+1)*sz≤len*sz:=Nat.mul_le_mul_right _ ha
         rw [Nat.add_mul,Nat.one_mul] at this;exact this
        have:=Rep.sl (w:=w) (g:=g') .no (Y0e sz len (cs.drop off)) (F.lmu k) off sz cap (fun a b=>cf (off+a*sz+b)) rfl (fun h=>by cases h) (by rw [Z0v];exact hcap)
         (fun a ha=>by
          rw [Z0v] at ha
          rw [U0l _ _ _ _ ha]
          show((List.drop (a*sz) (List.drop off cs)).take sz).length=sz
          rw [List.length_take,List.length_drop,List.length_drop]
          have:=hfit a ha
          omega) (fun _=>by rw [Z0v];have:=hz.vis;omega)
         (fun a b ha hb=>by
          rw [Z0v] at ha
          exact(hcf _ (hin a b ha hb)).1)
         (fun a b ha hb=>by
          rw [Z0v] at ha
          rw [U0l _ _ _ _ ha]
          show Rep w g' _ (((List.drop (a*sz) (List.drop off cs)).take sz).getD b .junk)
          rw [U0f _ _ _ _ hb]
          simp only [List.getD_eq_getElem?_getD,List.getElem?_drop]
          have:=(hcf _ (hin a b ha hb)).2
          rw [List.getD_eq_getElem?_getD] at this
          rw [show off+(a*sz+b)=off+a*sz+b from by omega]
          exact this)
        rw [Z0v] at this
        exact .base _ _ this
     · exact .base _ _ (.junk _)
   · exact h'
 | mr k len cap=>
  simp only [PV.frzN1]
  split
  · rename_i e;subst e
    split
    · rename_i hle
      cases h' with
      | base _ _ h'=>cases h'
      | lmr0 k ad hi=>exact .base _ _ (.nil .no ad rfl)
      | lmr k len cap hi hcap=>
       have hin: ∀a b,a<len→b<sz→a*sz+b<cs.length:=fun a b ha hb=>by have:=J0o ha hb;omega
       have hfit: ∀a,a<len→a*sz+sz≤len*sz:=fun a ha=>by
        have:(a+1)*sz≤len*sz:=Nat.mul_le_mul_right _ ha
        rw [Nat.add_mul,Nat.one_mul] at this;exact this
       have:=Rep.sl (w:=w) (g:=g') .no (Y0e sz len cs) (F.lmu k) 0 sz cap (fun a b=>cf (a*sz+b)) rfl (fun h=>by cases h) (by rw [Z0v];exact hcap)
        (fun a ha=>by
         rw [Z0v] at ha
         rw [U0l _ _ _ _ ha]
         show((List.drop (a*sz) cs).take sz).length=sz
         rw [List.length_take,List.length_drop]
         have:=hfit a ha
         omega) (fun _=>by rw [Z0v];have:=hz.vis;omega)
        (fun a b ha hb=>by
         rw [Z0v] at ha
         rw [Nat.zero_add]
         exact(hcf _ (hin a b ha hb)).1)
        (fun a b ha hb=>by
         rw [Z0v] at ha
         rw [U0l _ _ _ _ ha]
         show Rep w g' _ (((List.drop (a*sz) cs).take sz).getD b .junk)
         rw [U0f _ _ _ _ hb]
         simp only [List.getD_eq_getElem?_getD,List.getElem?_drop]
         have:=(hcf _ (hin a b ha hb)).2
         rw [List.getD_eq_getElem?_getD] at this
         exact this)
       rw [Z0v] at this
       exact .base _ _ this
    · exact .base _ _ (.junk _)
  · exact h'
 | _=>exact h'
theorem RepF.frzN {v:Value} {p:PV} (hm: ∀v p,RepF w g F T v p→RepF w g' F T v p) (hz:Frozen w g' (F.lmu i) cs) (h:RepF w g F T v p):RepF w g' F T v (p.frzN i sz cs):=by
 have gm: ∀(l:List PV) (j:Nat),(l.map (PV.frzN1 i sz cs)).getD j .junk=(l.getD j .junk).frzN1 i sz cs:=fun l j=>X0f rfl l j
 cases p with
 | agg l=>
  cases h with
  | base _ _ h=>
   cases h with
   | agg vs cs' hl h=>exact .agg vs _ (by simpa using hl) fun j hj=>by rw [gm];exact RepF.frzN1 hm hz (.base _ _ (h j (by simpa using hj)))
  | agg vs cs' hl h=>exact .agg vs _ (by simpa using hl) fun j hj=>by rw [gm];exact RepF.frzN1 hm hz (h j (by simpa using hj))
 | tup l=>
  cases h with
  | base _ _ h=>
   cases h with
   | tup vs cs' hl h=>exact .tup vs _ (by simpa using hl) fun j hj=>by rw [gm];exact RepF.frzN1 hm hz (.base _ _ (h j (by simpa using hj)))
  | tup vs cs' hl h=>exact .tup vs _ (by simpa using hl) fun j hj=>by rw [gm];exact RepF.frzN1 hm hz (h j (by simpa using hj))
 | fn f l m=>
  cases h with
  | base _ _ h=>
   cases h with
   | fn f us vs bs cs' hk hl h0 h=>
    exact .fn f us vs _ _ (by simpa using hk) (by simpa using hl) (fun j hj=>by rw [gm];exact RepF.frzN1 hm hz (.base _ _ (h0 j (by simpa using hj)))) fun j hj=>by rw [gm];exact RepF.frzN1 hm hz (.base _ _ (h j (by simpa using hj)))
  | fn f us vs bs cs' hk hl h0 h=>
   exact .fn f us vs _ _ (by simpa using hk) (by simpa using hl) (fun j hj=>by rw [gm];exact RepF.frzN1 hm hz (h0 j (by simpa using hj))) fun j hj=>by rw [gm];exact RepF.frzN1 hm hz (h j (by simpa using hj))
 | _=>exact RepF.frzN1 (sz:=sz) hm hz h
end
theorem Y1v {E:Ent} {s:PFS} (i sz:Nat) (hi:s.freezeOK i):Weak E s (s.freezeN i sz):=by
 intro a w g F h
 by_cases hne:s.L.getD i []= []
 · --a box without cells
   have hz:Frozen w g (F.lmu i) []:=⟨Nat.zero_le _,(fun p hp=>by cases hp),⟨fun _=>undef,fun j hj=>by simp at hj⟩⟩
   have hf: ∀v p,RepF w g F s.T v p→RepF w g F s.T v (p.frzN i sz []):=fun v p hp=>RepF.frzN (fun _ _ h=>h) hz hp
   have hL: ∀k,((s.L.map fun l=>l.map (PV.frzN i sz [])).set i []).getD k []≠ []→s.L.getD k []≠ []∧((s.L.map fun l=>l.map (PV.frzN i sz [])).set i []).getD k []=(s.L.getD k []).map (PV.frzN i sz []):=fun k hk=>by
    by_cases hki:i=k
    · subst hki
      exfalso;apply hk
      exact K0u _ _
    · have e:((s.L.map fun l=>l.map (PV.frzN i sz [])).set i []).getD k []=(s.L.getD k []).map (PV.frzN i sz []):=by
       rw [←W0v (f:=fun l=>l.map (PV.frzN i sz [])) rfl]
       simp [List.getD_eq_getElem?_getD,List.getElem?_set_ne hki]
      refine⟨fun e0=>hk (by rw [e,e0];rfl),e⟩
   have hcs:(s.L.getD i []).map PV.forget2= []:=by rw [hne];rfl
   refine⟨g,F,?_⟩
   unfold PFS.freezeN
   rw [hcs]
   refine⟨h.ext,h.store,⟨by simp [h.frame.nl],fun k hk=>h.frame.lo k (hL k hk).1,fun k hk=>h.frame.apart k (hL k hk).1,fun k j hk hj=>h.frame.inj k j (hL k hk).1 (hL j hj).1,fun k hk=> ?_,h.frame.tlo,fun k b hk hb=>⟨(h.frame.tapart k b hk hb).1,fun j hj=>(h.frame.tapart k b hk hb).2 j (hL j hj).1⟩,h.frame.tinj⟩,h.defers,by simp [h.len],fun t ht=> ?_⟩
   · obtain⟨h1,h2⟩:=hL k hk
     simp only at hk⊢
     rw [h2]
     intro j hj
     obtain⟨q1,c,q2,q3⟩:=h.frame.holds k h1 j (by simpa using hj)
     exact⟨q1,c,q2,by rw [X0f (f:=PV.frzN i sz []) rfl];exact hf _ _ q3⟩
   · simp only at ht⊢
     rw [X0f (f:=PV.frzN i sz []) rfl]
     exact hf _ _ (h.tmps t (by simpa using ht))
 · let cs:=(s.L.getD i []).map PV.forget2
   obtain⟨l1,l2,l3⟩:=h.frame.lo i hne
   obtain⟨k1,k2⟩:=j1a w g (F.lmu i) cs.length (.inl l2) h.store.none
   have hall:=List.all_eq_true.1 hi
   --all but the box
   have hLe:=k1.le
   let g':Gh:= { g with vis:=fun c=>if c=F.lmu i then max cs.length (g.vis c) else g.vis c }
   have htok:Y1p w g F s.T w g' F s.T:=⟨Nat.le_refl _,fun k hk=>⟨Nat.le_refl _,fun _ v es hR=>hR.mono fun b hb=>⟨rfl,if_neg fun e=>(h.frame.tapart k b hk hb).2 i hne e.symm⟩⟩⟩
   have hm: ∀v p,RepF w g F s.T v p→RepF w g' F s.T v p:=fun v p hr=>hr.mono hLe (Nat.le_refl _) (fun _ _=>rfl) htok
   have hcell: ∀j,j<cs.length→ ∃c,w.cell? ⟨F.lmu i,j,none⟩=some c∧Rep w g' c (cs.getD j .junk):=fun j hj=>by
    have hj':j<(s.L.getD i []).length:=by simpa [cs] using hj
    obtain⟨q1,c,q2,q3⟩:=h.frame.holds i hne j hj'
    refine⟨c,q2,?_⟩
    have e:cs.getD j .junk=((s.L.getD i []).getD j .junk).forget2:=X0f (f:=PV.forget2) rfl _ _
    rw [e]
    exact(hm _ _ q3).forget2 (Bool.and_eq_true_iff.1 (hall _ (Q0p _ _ _ hj'))).1
   have hz:Frozen w g' (F.lmu i) cs:=by
    refine⟨?_,fun p hp=> ?_,⟨fun j=>if h:j<cs.length then(hcell j h).choose else undef,fun j hj=> ?_⟩⟩
    · show cs.length≤(if F.lmu i=F.lmu i then max cs.length (g.vis (F.lmu i)) else _)
      rw [if_pos rfl];exact Nat.le_max_left _ _
    · simp only [cs,List.mem_map] at hp
      obtain⟨q,hq,rfl⟩:=hp
      have:=X1r (Bool.and_eq_true_iff.1 (hall _ hq)).2
      exact⟨by rw [this];rfl,this⟩
    · simp only [dif_pos hj];exact(hcell j hj).choose_spec
   have hf: ∀v p,RepF w g F s.T v p→RepF w g' F s.T v (p.frzN i sz cs):=fun v p hp=>RepF.frzN hm hz hp
   have hL: ∀k,((s.L.map fun l=>l.map (PV.frzN i sz cs)).set i []).getD k []≠ []→k≠i∧s.L.getD k []≠ []∧((s.L.map fun l=>l.map (PV.frzN i sz cs)).set i []).getD k []=(s.L.getD k []).map (PV.frzN i sz cs):=fun k hk=>by
    by_cases hki:i=k
    · subst hki
      exfalso;apply hk
      exact K0u _ _
    · have e:((s.L.map fun l=>l.map (PV.frzN i sz cs)).set i []).getD k []=(s.L.getD k []).map (PV.frzN i sz cs):=by
       rw [←W0v (f:=fun l=>l.map (PV.frzN i sz cs)) rfl]
       simp [List.getD_eq_getElem?_getD,List.getElem?_set_ne hki]
      exact⟨fun e=>hki e.symm,fun e0=>hk (by rw [e,e0];rfl),e⟩
   have hvis: ∀k,k≠i→s.L.getD k []≠ []→g'.vis (F.lmu k)=g.vis (F.lmu k):=fun k hk hk0=>if_neg fun e=>hk (h.frame.inj k i hk0 hne e)
   have hst:StoreOK w g' s.st:=by
    refine⟨h.store.n,h.store.inj,h.store.lt,fun j hj hj0=> ?_,fun j hj=> ?_,k2,h.store.tab.mono hLe⟩
    · have:g'.vis (g.mu j)=g.vis (g.mu j):=if_neg fun e=>h.frame.apart i hne j hj e
      exact this.trans (h.store.vis j hj hj0)
    · exact(h.store.holds j hj).mono rfl fun v p hr=>hr.mono hLe
   refine⟨g',F,⟨h.ext.step k1 (fun b hb=> .inl (by rw [hb];exact l1)),hst,⟨by simp [PFS.freezeN,h.frame.nl],fun k hk=> ?_,fun k hk=> ?_,fun k j hk hj=> ?_,fun k hk=> ?_,h.frame.tlo,fun k b hk hb=>⟨(h.frame.tapart k b hk hb).1,fun j hj=> ?_⟩,h.frame.tinj⟩,h.defers,by simp [PFS.freezeN,h.len],fun t ht=> ?_⟩⟩
   · obtain⟨h1,h2,h3⟩:=hL k hk
     obtain⟨a1,a2,a3⟩:=h.frame.lo k h2
     exact⟨a1,a2,(hvis k h1 h2).trans a3⟩
   · exact h.frame.apart k (hL k hk).2.1
   · exact h.frame.inj k j (hL k hk).2.1 (hL j hj).2.1
   · obtain⟨h1,h2,h3⟩:=hL k hk
     simp only [PFS.freezeN] at hk⊢
     show Holds w _ _ (((s.L.map fun l=>l.map (PV.frzN i sz cs)).set i []).getD k [])
     rw [h3]
     intro j hj
     obtain⟨q1,c,q2,q3⟩:=h.frame.holds k h2 j (by simpa using hj)
     exact⟨q1,c,q2,by rw [X0f (f:=PV.frzN i sz cs) rfl];exact hf _ _ q3⟩
   · exact(h.frame.tapart k b hk hb).2 j (hL j hj).2.1
   · simp only [PFS.freezeN] at ht⊢
     show RepF w g' F s.T _ ((s.pa.map (PV.frzN i sz cs)).getD t .junk)
     rw [X0f (f:=PV.frzN i sz cs) rfl]
     exact hf _ _ (h.tmps t (by simpa using ht))
@[go_sem] theorem X3r {i sz:Nat} {pa:List PV} {L st:Q0f} {T:List (Nat×Nat)} :(PFS.mk pa L T st).freezeN i sz=⟨pa.map (PV.frzN i sz ((L.getD i []).map PV.forget2)),(L.map fun l=>l.map (PV.frzN i sz ((L.getD i []).map PV.forget2))).set i [],T,st⟩:=(rfl)
attribute [go_sem] PV.frzN PV.frzN1
theorem z1j {P:Program} {E:Ent} {c:Code} {Q:Exit→PFS→Prop} {s:PFS} (i sz:Nat) (hi:s.freezeOK i) (h:PWP P E c Q (s.freezeN i sz)):PWP P E c Q s:=W0k (Y1v i sz hi) h
end Go.Pv
end
section
/-Boxes of intervals,of numbers,one behind the other. -/
namespace Go.Pv
theorem K2q {sz:Nat} {ys:List PV} (h: ∀i,i<ys.length→(ys.getD i .junk).cells.length=sz) {i o:Nat} {c:List PV} (hi:i<ys.length) (ho:o+c.length≤sz):
 over (flat ys) (i*sz+o) c=flat (ys.set i (.agg (over (ys.getD i .junk).cells o c))):=by
 have hl:=J0i h
 have hb:i*sz+sz≤ys.length*sz:=by
  have:(i+1)*sz≤ys.length*sz:=Nat.mul_le_mul_right _ hi
  rw [Nat.add_mul,Nat.one_mul] at this;exact this
 have hg: ∀j,j<ys.length→(ys.set i (.agg (over (ys.getD i .junk).cells o c))).getD j .junk=if j=i then .agg (over (ys.getD i .junk).cells o c) else ys.getD j .junk:=fun j hj=>by
  by_cases e:j=i
  · subst e;rw [if_pos rfl];simp [List.getD_eq_getElem?_getD,hj]
  · rw [if_neg e];simp [List.getD_eq_getElem?_getD,List.getElem?_set_ne (Ne.symm e)]
 have h': ∀j,j<(ys.set i (.agg (over (ys.getD i .junk).cells o c))).length→((ys.set i (.agg (over (ys.getD i .junk).cells o c))).getD j .junk).cells.length=sz:=fun j hj=>by
  rw [List.length_set] at hj
  rw [hg j hj]
  split
  · show(over _ o c).length=sz
    rw [K0s _ _ _ (by rw [h i hi];exact ho)];exact h i hi
  · exact h j hj
 have hl':=J0i h'
 rw [List.length_set] at hl'
 have hov:i*sz+o+c.length≤(flat ys).length:=by omega
 apply List.ext_getElem
 · rw [K0s _ _ _ hov,hl,hl']
 · intro m h1 h2
   have e1:=W0t (flat ys) (i*sz+o) c hov m .junk
   have hm:m<ys.length*sz:=by rw [hl'] at h2;exact h2
   have e2:=G0x h' m (by rw [List.length_set];exact hm)
   have e3:=G0x h m hm
   obtain⟨d1,d2⟩:=Y0p hm
   rw [List.getD_eq_getElem?_getD,List.getElem?_eq_getElem h1,Option.getD_some] at e1
   rw [List.getD_eq_getElem?_getD,List.getElem?_eq_getElem h2,Option.getD_some] at e2
   rw [e1,e2,hg _ d1]
   have hdm:=Nat.div_add_mod m sz
   by_cases e:m/sz=i
   · rw [if_pos e]
     show _=(over (ys.getD i .junk).cells o c).getD (m % sz) .junk
     rw [W0t _ _ _ (by rw [h i hi];exact ho)]
     rw [e,Nat.mul_comm] at hdm
     by_cases c1:o≤m % sz∧m % sz<o+c.length
     · rw [if_pos c1,if_pos (by omega)];congr 1;omega
     · rw [if_neg c1,if_neg (by omega),e3,e]
   · rw [if_neg e,←e3,if_neg]
     intro hc
     apply e
     have a1:i*sz≤m:=by omega
     have a2:m<i*sz+sz:=by omega
     have hp:0<sz:=by omega
     have b1:i≤m/sz:=(Nat.le_div_iff_mul_le hp).2 a1
     have b2:m/sz<i+1:=(Nat.div_lt_iff_lt_mul hp).2 (by rw [Nat.add_mul,Nat.one_mul];exact a2)
     omega
theorem x1s (l:List Ivl): ∀i,i<(Z0d l).length→((Z0d l).getD i .junk).cells.length=6:=fun i hi=>by
 rw [W0w] at hi
 rw [X0d l i hi];rfl
theorem X1v (l:List Nm): ∀i,i<(Z0c l).length→((Z0c l).getD i .junk).cells.length=3:=fun i hi=>by
 rw [J0w] at hi
 rw [J0q l i hi];rfl
@[go_sem] theorem j2x (l:List Ivl):(flat (Z0d l)).length=l.length*6:=by rw [J0i (x1s l),W0w]
@[go_sem] theorem j2v (l:List Nm):(flat (Z0c l)).length=l.length*3:=by rw [J0i (X1v l),J0w]
theorem K2r (l:List Nm) (i:Nat) (x:Nm) (h:i<l.length):over (flat (Z0c l)) (i*3) (encN x)=flat (Z0c (l.set i x)):=by
 have:=K2q (X1v l) (i:=i) (o:=0) (c:=encN x) (by rw [J0w];exact h) (by simp [encN])
 rw [Nat.add_zero] at this
 rw [this,J0q l i h]
 congr 1
 simp [Z0c,List.map_set,over,encN,PV.cells]
theorem v1f {ys:List PV} {p:PV} (h:p∈flat ys): ∃y∈ys,p∈y.cells:=by
 simp only [flat,List.mem_flatten,List.mem_map] at h
 obtain⟨l,⟨y,hy,rfl⟩,hp⟩:=h
 exact⟨y,hy,hp⟩
theorem v0b {l:List Ivl} {p:PV} (h:p∈flat (Z0d l)): ∃x:Ivl,p∈encI x:=by
 obtain⟨y,hy,hp⟩:=v1f h
 obtain⟨x,_,rfl⟩:=List.mem_map.1 hy
 exact⟨x,hp⟩
theorem v0a {l:List Nm} {p:PV} (h:p∈flat (Z0c l)): ∃x:Nm,p∈encN x:=by
 obtain⟨y,hy,hp⟩:=v1f h
 obtain⟨x,_,rfl⟩:=List.mem_map.1 hy
 exact⟨x,hp⟩
theorem v0c {f:PV→PV} {l:List PV} (h: ∀p∈l,f p=p):l.map f=l:=by
 conv=>rhs;rw [←List.map_id l]
 exact List.map_congr_left fun p hp=>h p hp
@[go_sem] theorem j2y (l:List Ivl):(flat (Z0d l)).map PV.forget2=flat (Z0d l):=v0c fun p hp=>by
 obtain⟨x,hx⟩:=v0b hp
 simp [encI] at hx
 rcases hx with rfl | rfl | rfl | rfl | rfl | rfl<;>rfl
@[go_sem] theorem j2w (l:List Nm):(flat (Z0c l)).map PV.forget2=flat (Z0c l):=v0c fun p hp=>by
 obtain⟨x,hx⟩:=v0a hp
 simp [encN] at hx
 rcases hx with rfl | rfl | rfl<;>rfl
@[go_sem] theorem X3x (l:List Ivl) (i sz:Nat) (cs:List PV):(flat (Z0d l)).map (PV.frzN i sz cs)=flat (Z0d l):=v0c fun p hp=>by
 obtain⟨x,hx⟩:=v0b hp
 simp [encI] at hx
 rcases hx with rfl | rfl | rfl | rfl | rfl | rfl<;>rfl
@[go_sem] theorem X3w (l:List Nm) (i sz:Nat) (cs:List PV):(flat (Z0c l)).map (PV.frzN i sz cs)=flat (Z0c l):=v0c fun p hp=>by
 obtain⟨x,hx⟩:=v0a hp
 simp [encN] at hx
 rcases hx with rfl | rfl | rfl<;>rfl
@[go_sem] theorem q3x (l:List Ivl):fzOK (flat (Z0d l))=true:=by
 unfold fzOK
 rw [List.all_eq_true]
 intro p hp
 obtain⟨x,hx⟩:=v0b hp
 simp [encI] at hx
 rcases hx with rfl | rfl | rfl | rfl | rfl | rfl<;>rfl
@[go_sem] theorem q3w (l:List Nm):fzOK (flat (Z0c l))=true:=by
 unfold fzOK
 rw [List.all_eq_true]
 intro p hp
 obtain⟨x,hx⟩:=v0a hp
 simp [encN] at hx
 rcases hx with rfl | rfl | rfl<;>rfl
@[go_sem] theorem W3x (l:List Ivl) (a b:Nat):(flat (Z0d l)).all (PV.lim a b)=true:=by
 rw [List.all_eq_true]
 intro p hp
 obtain⟨x,hx⟩:=v0b hp
 simp [encI] at hx
 rcases hx with rfl | rfl | rfl | rfl | rfl | rfl<;>rfl
@[go_sem] theorem W3w (l:List Nm) (a b:Nat):(flat (Z0c l)).all (PV.lim a b)=true:=by
 rw [List.all_eq_true]
 intro p hp
 obtain⟨x,hx⟩:=v0a hp
 simp [encN] at hx
 rcases hx with rfl | rfl | rfl<;>rfl
theorem Z3o (l:List Nm):Y0e 3 l.length (flat (Z0c l))=Z0c l:=by
 have:=J1d (sz:=3) (ys:=Z0c l) [] (fun y hy=>by
  obtain⟨x,_,rfl⟩:=List.mem_map.1 hy
  exact⟨rfl,rfl⟩)
 rw [J0w,List.append_nil] at this;exact this
theorem z2t (l:List Nm) (n:Nat) (h:n=l.length):Y0e 3 n (flat (Z0c l))=Z0c l:=by subst h;exact Z3o l
def encM (l:List (List Ivl)):List PV:=l.map fun c=> .sl .no (Z0d c)
@[go_sem] theorem Q3s (l:List (List Ivl)):(encM l).length=l.length:=by simp [encM]
@[go_sem] theorem z3r :encM []= []:=(rfl)
@[go_sem] theorem w3y (l:List (List Ivl)):(encM l).all (fun x=>x.cells.length==1)=true:=by simp [encM,PV.cells]
@[go_sem] theorem w3z (l:List (List Ivl)):(encM l).all (fun x=>(x.cells.length==1)&&x.cells.all PV.cellOK)=true:=by simp [encM,PV.cells,PV.cellOK]
@[go_sem] theorem Y3v (l:List (List Ivl)) (n:Nat):(encM l).take n=encM (l.take n):=by simp [encM]
@[go_sem] theorem Y3x (l:List (List Ivl)) (n:Nat):(encM l).drop n=encM (l.drop n):=by simp [encM]
@[go_sem] theorem z3s (l m:List (List Ivl)):encM l++encM m=encM (l++m):=by simp [encM]
@[go_sem] theorem Y3w (l:List (List Ivl)) (c:List Ivl):encM l++ [.sl .no (Z0d c)]=encM (l++ [c]):=by simp [encM]
theorem K0i (l:List (List Ivl)) (n:Nat) (h:n<l.length):(encM l).getD n .junk= .sl .no (Z0d (l.getD n [])):=by
 simp [encM,List.getD_eq_getElem?_getD,h]
def encQ (l:List (List Nm)):List PV:=l.map fun c=> .sl .no (Z0c c)
@[go_sem] theorem Q3r (l:List (List Nm)):(encQ l).length=l.length:=by simp [encQ]
@[go_sem] theorem z3l :encQ []= []:=(rfl)
@[go_sem] theorem w3v (l:List (List Nm)):(encQ l).all (fun x=>x.cells.length==1)=true:=by simp [encQ,PV.cells]
@[go_sem] theorem w3w (l:List (List Nm)):(encQ l).all (fun x=>(x.cells.length==1)&&x.cells.all PV.cellOK)=true:=by simp [encQ,PV.cells,PV.cellOK]
@[go_sem] theorem Y3m (l:List (List Nm)) (n:Nat):(encQ l).take n=encQ (l.take n):=by simp [encQ]
@[go_sem] theorem Y3o (l:List (List Nm)) (n:Nat):(encQ l).drop n=encQ (l.drop n):=by simp [encQ]
@[go_sem] theorem z3m (l m:List (List Nm)):encQ l++encQ m=encQ (l++m):=by simp [encQ]
@[go_sem] theorem Y3n (l:List (List Nm)) (c:List Nm):encQ l++ [.sl .no (Z0c c)]=encQ (l++ [c]):=by simp [encQ]
theorem V0j (l:List (List Nm)) (n:Nat) (h:n<l.length):(encQ l).getD n .junk= .sl .no (Z0c (l.getD n [])):=by
 simp [encQ,List.getD_eq_getElem?_getD,h]
end Go.Pv
end
