/- Parts of the walk: PvAa, M10, M11, M12, G2, G3. -/
import Derived.Test.YtofoadghajnglaaGreatDoorZE
import Derived.Test.YtofoadghajnglaaGreatDoorZK
set_option linter.unusedVariables false
set_option linter.unusedSimpArgs false
section
/-A box that a frame gives away:it becomes an object of the store. -/
namespace Go.Pv
def PV.giv1 (i n:Nat):PV→PV
 | .lp k off=>if k=i then .gp n off else .lp k off
 | .ms false k off len=>if k=i then .ms true n off len else .ms false k off len
 | p=>p
def PV.giv (i n:Nat):PV→PV
 | .agg l=> .agg (l.map (PV.giv1 i n))
 | .tup l=> .tup (l.map (PV.giv1 i n))
 | .fn f l m=> .fn f (l.map (PV.giv1 i n)) (m.map (PV.giv1 i n))
 | p=>p.giv1 i n
def PFS.give (i:Nat) (s:PFS):PFS:=
 ⟨s.pa.map (PV.giv i s.st.length),(s.L.map fun l=>l.map (PV.giv i s.st.length)).set i [],s.T,s.st++ [(s.L.getD i []).map PV.forget2]⟩
section
variable {w:World} {g g':Gh} {F:Fr} {T:List (Nat×Nat)} {i n:Nat}
theorem RepF.giv1 {v:Value} {p:PV} (hm: ∀v p,RepF w g F T v p→RepF w g' F T v p) (hn:n<g'.n) (hz:g'.mu n=F.lmu i) (h:RepF w g F T v p):RepF w g' F T v (p.giv1 i n):=by
 have h':=hm _ _ h
 cases p with
 | lp k off=>
  simp only [PV.giv1]
  split
  · rename_i e;subst e
    cases h' with
    | base _ _ h'=>cases h'
    | lp k off hi=>
     rw [←hz]
     exact .base _ _ (.gp n off hn)
  · exact h'
 | ms gl k off len=>
  cases gl with
  | true=>exact h'
  | false=>
   simp only [PV.giv1]
   split
   · rename_i e;subst e
     cases h' with
     | base _ _ h'=>cases h'
     | lms k off len cap hi hcap=>
      rw [←hz]
      exact .base _ _ (.gms n off len cap hn hcap)
   · exact h'
 | _=>exact h'
theorem RepF.giv {v:Value} {p:PV} (hm: ∀v p,RepF w g F T v p→RepF w g' F T v p) (hn:n<g'.n) (hz:g'.mu n=F.lmu i) (h:RepF w g F T v p):RepF w g' F T v (p.giv i n):=by
 have gm: ∀(l:List PV) (j:Nat),(l.map (PV.giv1 i n)).getD j .junk=(l.getD j .junk).giv1 i n:=fun l j=>Q0w rfl l j
 cases p with
 | agg l=>
  cases h with
  | base _ _ h=>
   cases h with
   | agg vs cs' hl h=>exact .agg vs _ (by simpa using hl) fun j hj=>by rw [gm];exact RepF.giv1 hm hn hz (.base _ _ (h j (by simpa using hj)))
  | agg vs cs' hl h=>exact .agg vs _ (by simpa using hl) fun j hj=>by rw [gm];exact RepF.giv1 hm hn hz (h j (by simpa using hj))
 | tup l=>
  cases h with
  | base _ _ h=>
   cases h with
   | tup vs cs' hl h=>exact .tup vs _ (by simpa using hl) fun j hj=>by rw [gm];exact RepF.giv1 hm hn hz (.base _ _ (h j (by simpa using hj)))
  | tup vs cs' hl h=>exact .tup vs _ (by simpa using hl) fun j hj=>by rw [gm];exact RepF.giv1 hm hn hz (h j (by simpa using hj))
 | fn f l m=>
  cases h with
  | base _ _ h=>
   cases h with
   | fn f us vs bs cs' hk hl h0 h=>
    exact .fn f us vs _ _ (by simpa using hk) (by simpa using hl) (fun j hj=>by rw [gm];exact RepF.giv1 hm hn hz (.base _ _ (h0 j (by simpa using hj)))) fun j hj=>by rw [gm];exact RepF.giv1 hm hn hz (.base _ _ (h j (by simpa using hj)))
  | fn f us vs bs cs' hk hl h0 h=>
   exact .fn f us vs _ _ (by simpa using hk) (by simpa using hl) (fun j hj=>by rw [gm];exact RepF.giv1 hm hn hz (h0 j (by simpa using hj))) fun j hj=>by rw [gm];exact RepF.giv1 hm hn hz (h j (by simpa using hj))
 | _=>exact RepF.giv1 hm hn hz h
end
theorem G0c {E:Ent} {s:PFS} (i:Nat) (hi:s.freezeOK i) (hne:s.L.getD i []≠ []):Weak E s (s.give i):=by
 intro a w g F h
 obtain⟨l1,l2,l3⟩:=h.frame.lo i hne
 have hall:=List.all_eq_true.1 hi
 let g':Gh:= { g with n:=g.n+1,mu:=fun k=>if k=g.n then F.lmu i else g.mu k }
 have hmu: ∀k,k<g.n→g'.mu k=g.mu k:=fun k hk=>if_neg (by omega)
 have hmun:g'.mu g.n=F.lmu i:=if_pos rfl
 have hLe:Le w g w g':=⟨Nat.le_succ _,hmu,fun _=>Nat.le_refl _,fun _ _ _ _ hc=>hc⟩
 have htok:j0a w g F s.T w g' F s.T:=⟨Nat.le_refl _,fun k hk=>⟨Nat.le_refl _,fun _ v es hR=>hR.mono fun b hb=>⟨rfl,rfl⟩⟩⟩
 have hm: ∀v p,RepF w g F s.T v p→RepF w g' F s.T v p:=fun v p hr=>hr.mono hLe (Nat.le_refl _) (fun _ _=>rfl) htok
 have en:s.st.length=g.n:=h.store.n.symm
 have hf: ∀v p,RepF w g F s.T v p→RepF w g' F s.T v (p.giv i s.st.length):=fun v p hp=>RepF.giv hm (by rw [en];exact Nat.lt_succ_self _) (by rw [en];exact hmun) hp
 have hL: ∀k,((s.L.map fun l=>l.map (PV.giv i s.st.length)).set i []).getD k []≠ []→k≠i∧s.L.getD k []≠ []∧((s.L.map fun l=>l.map (PV.giv i s.st.length)).set i []).getD k []=(s.L.getD k []).map (PV.giv i s.st.length):=fun k hk=>by
  by_cases hki:i=k
  · subst hki
    exfalso;apply hk
    exact Z0q _ _
  · have e:((s.L.map fun l=>l.map (PV.giv i s.st.length)).set i []).getD k []=(s.L.getD k []).map (PV.giv i s.st.length):=by
     rw [←J0q (f:=fun l=>l.map (PV.giv i s.st.length)) rfl]
     simp [List.getD_eq_getElem?_getD,List.getElem?_set_ne hki]
    exact⟨fun e=>hki e.symm,fun e0=>hk (by rw [e,e0];rfl),e⟩
 have hst0: ∀j,j<g.n→(s.st++ [(s.L.getD i []).map PV.forget2]).getD j []=s.st.getD j []:=fun j hj=>by
  rw [List.getD_eq_getElem?_getD,List.getElem?_append_left (by omega),←List.getD_eq_getElem?_getD]
 have hst1:(s.st++ [(s.L.getD i []).map PV.forget2]).getD g.n []=(s.L.getD i []).map PV.forget2:=by
  rw [List.getD_eq_getElem?_getD,List.getElem?_append_right (by omega),←en];simp
 have hst:StoreOK w g' (s.st++ [(s.L.getD i []).map PV.forget2]):=by
  refine⟨by simp [g',h.store.n],fun j k hj hk e=> ?_,fun j hj=> ?_,fun j hj hj0=> ?_,fun j hj=> ?_,h.store.none,h.store.tab⟩
  · have hj:j<g.n+1:=hj
    have hk:k<g.n+1:=hk
    by_cases e1:j=g.n
    · by_cases e2:k=g.n
      · omega
      · rw [e1,hmun,hmu k (by omega)] at e
        exact absurd e.symm (h.frame.apart i hne k (by omega))
    · by_cases e2:k=g.n
      · rw [e2,hmun,hmu j (by omega)] at e
        exact absurd e (h.frame.apart i hne j (by omega))
      · rw [hmu j (by omega),hmu k (by omega)] at e
        exact h.store.inj j k (by omega) (by omega) e
  · have hj:j<g.n+1:=hj
    by_cases e1:j=g.n
    · rw [e1,hmun];exact l2
    · rw [hmu j (by omega)];exact h.store.lt j (by omega)
  · have hj:j<g.n+1:=hj
    by_cases e1:j=g.n
    · rw [e1,hmun];exact l3
    · rw [hmu j (by omega)]
      rw [hst0 j (by omega)] at hj0
      exact h.store.vis j (by omega) hj0
  · have hj:j<g.n+1:=hj
    by_cases e1:j=g.n
    · subst e1
      rw [hmun,hst1]
      intro k hk
      have hk':k<(s.L.getD i []).length:=by simpa using hk
      obtain⟨q1,c,q2,q3⟩:=h.frame.holds i hne k hk'
      refine⟨q1,c,q2,?_⟩
      have e:((s.L.getD i []).map PV.forget2).getD k .junk=((s.L.getD i []).getD k .junk).forget2:=Q0w (f:=PV.forget2) rfl _ _
      rw [e]
      exact(hm _ _ q3).forget2 (Bool.and_eq_true_iff.1 (hall _ (Q0t _ _ _ hk'))).1
    · rw [hmu j (by omega),hst0 j (by omega)]
      exact(h.store.holds j (by omega)).mono rfl fun v p hr=>hr.mono hLe
 have hext:Ext E.w E.g w g':=by
  refine⟨h.ext.le.trans hLe,h.ext.os,h.ext.tape,h.ext.output,h.ext.size,h.ext.old,fun j h1 h2=> ?_⟩
  have h2:j<g.n+1:=h2
  by_cases e1:j=g.n
  · rw [e1,hmun];exact l1
  · rw [hmu j (by omega)];exact h.ext.new j h1 (by omega)
 refine⟨g',F,⟨hext,hst,⟨by simp [PFS.give,h.frame.nl],fun k hk=> ?_,fun k hk j hj=> ?_,fun k j hk hj=> ?_,fun k hk=> ?_,h.frame.tlo,fun k b hk hb=>⟨fun j hj=> ?_,fun j hj=> ?_⟩,h.frame.tinj⟩,h.defers,by simp [PFS.give,h.len],fun t ht=> ?_⟩⟩
 · exact h.frame.lo k (hL k hk).2.1
 · have hj:j<g.n+1:=hj
   obtain⟨h1,h2,h3⟩:=hL k hk
   by_cases e1:j=g.n
   · rw [e1,hmun];exact fun e=>h1 (h.frame.inj k i h2 hne e.symm)
   · rw [hmu j (by omega)];exact h.frame.apart k h2 j (by omega)
 · exact h.frame.inj k j (hL k hk).2.1 (hL j hj).2.1
 · obtain⟨h1,h2,h3⟩:=hL k hk
   show Holds w _ _ (((s.L.map fun l=>l.map (PV.giv i s.st.length)).set i []).getD k [])
   rw [h3]
   intro j hj
   obtain⟨q1,c,q2,q3⟩:=h.frame.holds k h2 j (by simpa using hj)
   exact⟨q1,c,q2,by rw [Q0w (f:=PV.giv i s.st.length) rfl];exact hf _ _ q3⟩
 · have hj:j<g.n+1:=hj
   by_cases e1:j=g.n
   · rw [e1,hmun];exact(h.frame.tapart k b hk hb).2 i hne
   · rw [hmu j (by omega)];exact(h.frame.tapart k b hk hb).1 j (by omega)
 · exact(h.frame.tapart k b hk hb).2 j (hL j hj).2.1
 · simp only [PFS.give] at ht⊢
   show RepF w g' F s.T _ ((s.pa.map (PV.giv i s.st.length)).getD t .junk)
   rw [Q0w (f:=PV.giv i s.st.length) rfl]
   exact hf _ _ (h.tmps t (by simpa using ht))
@[go_sem] theorem v3v {i:Nat} {pa:List PV} {L st:Q0e} {T:List (Nat×Nat)} :(PFS.mk pa L T st).give i=⟨pa.map (PV.giv i st.length),(L.map fun l=>l.map (PV.giv i st.length)).set i [],T,st++ [(L.getD i []).map PV.forget2]⟩:=(rfl)
attribute [go_sem] PV.giv PV.giv1
@[go_sem] theorem Z4j {ps:List PV} {b:List Bool} {p:PV} :noL (false::b) (p::ps)=p::noL b ps:=(rfl)
theorem z0f {P:Program} {E:Ent} {c:Code} {Q:Exit→PFS→Prop} {s:PFS} (i:Nat) (hi:s.freezeOK i) (hne:s.L.getD i []≠ []) (h:PWP P E c Q (s.give i)):PWP P E c Q s:=X0z (G0c i hi hne) h
end Go.Pv
end
section
/-The document's values as numbers. No program in it. -/
namespace Go.Pv
def numV (v:Vl):Nm×Int:=
 if v.m=0 then(default,0) else if 64<(Q0q v.m).length∨v.e< -65536∨65536<v.e then(default,2) else(⟨v.neg,v.e,Q0q v.m⟩,0)
def Q1u (neg:Bool) (w:List UInt64) (e:Int):Nm×Int:=
 if valW w=0 then(default,0) else if 65536<e∨e< -65536-(tz (valW w):Int) then(default,2) else numV (oddV neg (valW w) e)
def okV (v:Vl):Prop:=v.m % 2=1∨v.m=0
theorem y2h (neg:Bool) (m:Nat) (e:Int):okV (oddV neg m e):=by
 unfold oddV okV
 split
 · exact .inr rfl
 · exact .inl (Y0a m (by assumption))
theorem j0f (l:List UInt64):valW l % 2=(l.getD 0 0).toNat % 2:=by
 cases l with
 | nil=>rfl
 | cons x l=>
  have:=Y0l [x] l
  have h1:valW [x]=x.toNat:=by simp [valW,nW,val]
  rw [show x::l= [x]++l from rfl,this,h1]
  simp only [List.length_singleton,List.singleton_append,List.getD_cons_zero,Nat.pow_one]
  omega
theorem W0f :Q0r (default:Nm)=true:=by decide
theorem J0s {v:Vl} (h:okV v):Q0r (numV v).1=true:=by
 unfold numV
 split
 · exact W0f
 · rename_i h0
   split
   · exact W0f
   · rename_i h1
     have hw:Q0q v.m≠ []:=fun e=>h0 (wordsOf_nil.1 e)
     unfold Q0r
     rw [if_neg hw,W0p]
     have h2:=j0f (Q0q v.m)
     rw [Z0a] at h2
     have h3:v.m % 2=1:=h.resolve_right h0
     simp only [Bool.and_eq_true,decide_eq_true_eq]
     refine⟨⟨⟨⟨trivial,?_⟩,?_⟩,?_⟩,?_⟩<;>omega
theorem y2g {x:Nm} (h:Q0r x=true):okV (ofN x):=by
 unfold okV ofN
 simp only
 by_cases hw:x.w= []
 · rw [hw];exact .inr rfl
 · unfold Q0r at h
   rw [if_neg hw] at h
   simp only [Bool.and_eq_true,decide_eq_true_eq] at h
   exact .inl (by rw [j0f];exact h.1.1.2)
theorem Y1i (neg:Bool) (w:List UInt64) (e:Int):Q0r (Q1u neg w e).1=true:=by
 unfold Q1u
 split
 · exact W0f
 · split
   · exact W0f
   · exact J0s (y2h _ _ _)
theorem j1k (e:Int):mkV 0 e=⟨false,0,0⟩:=by simp [mkV,oddV]
theorem natAbs_pow (s:Int) (j:Nat):(s*2^j).natAbs=s.natAbs*2^j:=by
 rw [Int.natAbs_mul,Int.natAbs_pow];rfl
theorem U2k (m j:Nat) (h:m≠0):tz (m*2^j)=tz m+j:=by
 obtain⟨q,hq,e⟩:=v0f m h
 have:m*2^j=2^(tz m+j)*q:=by
  conv=>lhs;rw [e]
  rw [Nat.pow_add,Nat.mul_assoc,Nat.mul_assoc,Nat.mul_comm q]
 rw [this,W1n _ _ hq]
end Go.Pv
end
section
/-Words out of half words. No program in it. -/
namespace Go.Pv
def pk (a:List UInt32) (k:Nat):List UInt64:=(List.range k).map fun j=>UInt64.ofNat ((a.getD (2*j) 0).toNat+4294967296*(a.getD (2*j+1) 0).toNat)
theorem G0f (a:List UInt32) (k:Nat):(pk a k).length=k:=by simp [pk]
theorem q1f (a:List UInt32) (k:Nat):pk a (k+1)=pk a k++ [UInt64.ofNat ((a.getD (2*k) 0).toNat+4294967296*(a.getD (2*k+1) 0).toNat)]:=by
 simp [pk,List.range_succ]
theorem q1e (a:List UInt32) (k:Nat):(UInt64.ofNat ((a.getD (2*k) 0).toNat+4294967296*(a.getD (2*k+1) 0).toNat)).toNat=(a.getD (2*k) 0).toNat+4294967296*(a.getD (2*k+1) 0).toNat:=by
 have h1:=(a.getD (2*k) 0).toNat_lt
 have h2:=(a.getD (2*k+1) 0).toNat_lt
 exact Z0p _ (by omega)
theorem Q2o (a:List UInt32): ∀k,valW (pk a k)=valD (a.take (2*k))
 | 0=>rfl
 | k+1=>by
  rw [q1f,Y0l,Q2o a k,G0f,show 2*(k+1)=2*k+1+1 from by omega,J0j,J0j]
  have h1:valW [UInt64.ofNat ((a.getD (2*k) 0).toNat+4294967296*(a.getD (2*k+1) 0).toNat)]=(a.getD (2*k) 0).toNat+4294967296*(a.getD (2*k+1) 0).toNat:=by
   simp only [valW,nW,val,List.map,Nat.mul_zero,Nat.add_zero]
   exact q1e a k
  have h2:18446744073709551616^k=4294967296^(2*k):=by rw [Nat.pow_mul]
  rw [h1,h2,Nat.pow_succ,Nat.mul_add,Nat.mul_assoc,Nat.add_assoc]
theorem G1j (l:List UInt32) (h:l≠ []):(cutD l).length=l.length↔l.getD (l.length-1) 0≠0:=by
 obtain⟨i,x,rfl⟩: ∃i x,l=i++ [x]:=⟨l.dropLast,l.getLast h,(List.dropLast_concat_getLast h).symm⟩
 rw [G1i]
 have e:(i++ [x]).getD ((i++ [x]).length-1) 0=x:=by simp [List.getD_eq_getElem?_getD]
 rw [e]
 have:=Z3q i
 by_cases hx:x=0
 · simp [hx];omega
 · simp [hx]
theorem H2j (m:Nat):pk (Q0d m) (((Q0d m).length+1)/2)=Q0q m:=by
 have hv:valW (pk (Q0d m) (((Q0d m).length+1)/2))=m:=by
  rw [Q2o,List.take_of_length_le (by omega),Q0y]
 have hw:Q0q m=cutW (pk (Q0d m) (((Q0d m).length+1)/2)):=by rw [←Q0v,hv]
 rw [hw]
 have hl:=G0f (Q0d m) (((Q0d m).length+1)/2)
 refine(z1i _ _ (Nat.le_refl _) (fun j h1 h2=>by omega) ?_|>.trans (List.take_length ..)).symm
 by_cases h0:Q0d m= []
 · exact .inl (by rw [hl,h0];rfl)
 · refine .inr fun e=> ?_
   have hc:cutD (Q0d m)≠ []:=by rw [H0a];exact h0
   have hp:=List.length_pos_iff.2 h0
   have hlast:(Q0d m).getD ((Q0d m).length-1) 0≠0:=by
    have hr:(cutD (Q0d m)).length=(Q0d m).length:=by rw [H0a]
    exact(G1j _ h0).1 hr
   rw [hl] at e
   obtain⟨k,hk⟩: ∃k,((Q0d m).length+1)/2=k+1:=⟨((Q0d m).length+1)/2-1,by omega⟩
   rw [hk,q1f] at e
   have e1:(pk (Q0d m) k++ [UInt64.ofNat (((Q0d m).getD (2*k) 0).toNat+4294967296*((Q0d m).getD (2*k+1) 0).toNat)]).getD (k+1-1) 0=UInt64.ofNat (((Q0d m).getD (2*k) 0).toNat+4294967296*((Q0d m).getD (2*k+1) 0).toNat):=by
    rw [List.getD_eq_getElem?_getD,List.getElem?_append_right (by rw [G0f];omega),G0f];simp
   rw [e1] at e
   have e2:=(y0e _).1 e
   rw [q1e] at e2
   have:(Q0d m).length-1=2*k∨(Q0d m).length-1=2*k+1:=by omega
   rcases this with h | h
   · rw [h] at hlast;exact hlast ((q0u _).2 (by omega))
   · rw [h] at hlast;exact hlast ((q0u _).2 (by omega))
end Go.Pv
end
section
/-Tubes that are built piece by piece. No program in it. -/
namespace Go.Pv
theorem V0m {x:Nm} (h:Q0r x=true):wN x:=H1q (J0l h)
def betw (a b:Nm):Ivl:=if 0<cmpR a b then⟨b,a⟩ else⟨a,b⟩
theorem y1x {a b:Nm} (ha:Q0r a=true) (hb:Q0r b=true):Q0m (betw a b)=true:=by
 have e:cmpR a b=cmpN a b:=if_pos ⟨ha,hb⟩
 unfold betw
 rw [e]
 split
 · exact H0s hb ha (by have:=Z1s a b;simp only;omega)
 · exact H0s ha hb (by simp only;omega)
theorem x0m {a:Nm} (ha:Q0r a=true):Q0m ⟨a,a⟩=true:=H0s ha ha (by have:=q0i a;simp only;omega)
theorem V3k {α:Type} (a:List α) (x:α) (i:Nat) (d:α) (h:i<a.length):(a++ [x]).getD i d=a.getD i d:=by
 rw [List.getD_eq_getElem?_getD,List.getElem?_append_left h,←List.getD_eq_getElem?_getD]
theorem j2u {α:Type} (a:List α) (x:α) (d:α):(a++ [x]).getD a.length d=x:=by
 rw [List.getD_eq_getElem?_getD,List.getElem?_append_right (Nat.le_refl _)];simp
end Go.Pv
end
section
/-A law whose calls leave objects behind;one argument that is a slice of words. -/
set_option maxRecDepth 100000
namespace Go.Pv
open Go Go.Proofs Go.ChangeShapes Go.WideShapes Go.ChangeAt Go.RowKit
theorem z1t {P:Program} {f:FuncId} {vs:Array Value} {ps:List PV} {w:World} (ht:TabOK w (allG w)) (h:PCalls P f ps [] (fun r st'=>r= .sc (.bool true))) (hr:Reps w (allG w) vs ps):
 Calls P f vs w (fun e w'=>e= .returned (.bool true)∧Below w.heap.size w w'):=by
 refine(h w (allG w) vs (v1h w ht) hr).mono ?_
 rintro e w' ⟨v,g',r,st,rfl,hx,hs,hrr,rfl⟩
 refine⟨?_,hx.os,hx.tape,hx.output,hx.size,fun k hk=>(hx.old k hk (fun i hi=>by simp [allG] at hi)).1⟩
 have:Rep w' g' v (.sc (.bool true)):=hrr
 rw [this.sc_inv]
theorem X2s :ownKnob Tryz.prog.godebug=none:=by kernel_rfl
theorem q1u :laidOutB Tryz.prog=true:=by kernel_rfl
end Go.Pv
end
section
/-Reading the arguments of a law,one by one. -/
set_option maxRecDepth 100000
namespace Go.Pv
open Go Go.Proofs Go.ChangeShapes Go.WideShapes Go.ChangeAt Go.RowKit Go.Proofs.YtofoadghajnglaaGreatDoor.Rows
section
variable {P:Program} {t e:TypeId} {W:World} {base:Nat} {v:Value} {H:Type} {tok:TypeId×Value→H} {d:DataW H} {p:List MemPlace}
theorem Y2d {α:Type} {enc:α→List PV} {ok:Nat→α→Prop} (hT:Ty P t 1 (fun l:α=> [.sl .no (enc l)]) ok) (hu:P.underlying t=some (.slice e)) (hv:Value.okWide P W .any base t v)
 (hd:DataW.Trod tok P W 0 (fun _=>true) true t v d p): ∃l,Rep W (allG W) v (.sl .no (enc l))∧ok (uptoBulk d) l:=by
 obtain⟨a,len,cap,rfl⟩:=okWide_slice hu hv
 obtain⟨fuel,hf⟩:=hd
 obtain⟨l,_,hrep,hok⟩:=hT.rd tok W fuel _ _ hf
 exact⟨l,hrep 0 (by omega),hok⟩
theorem X3f {n:Nat} {α:Type} {enc:α→List PV} {ok:Nat→α→Prop} {fs:Array Field} (hT:Ty P t n enc ok) (hu:P.underlying t=some (.struct fs)) (hv:Value.okWide P W .any base t v)
 (hd:DataW.Trod tok P W 0 (fun _=>true) true t v d p): ∃x,Rep W (allG W) v (.agg (enc x))∧ok (uptoBulk d) x:=by
 obtain⟨cs,rfl,hc⟩:=okWide_struct hu hv
 obtain⟨fuel,hf⟩:=hd
 obtain⟨x,hl,hrep,hok⟩:=hT.rd tok W fuel _ _ hf
 have e1:(Value.agg cs).cells.toList=cs.toList:=rfl
 rw [e1] at hl hrep
 have hlen:=hT.len x
 refine⟨x,.agg cs (enc x) (by rw [hlen,←hl];simp) fun j hj=> ?_,hok⟩
 have h:=hrep j (by omega)
 simpa [List.getD_eq_getElem?_getD,Array.getD_eq_getD_getElem?] using h
theorem X3e (hu:P.underlying t=some (.int .i64)) (hv:Value.okWide P W .any base t v) (hd:DataW.Trod tok P W 0 (fun _=>true) true t v d p):
 ∃n,v= .int .i64 n∧ -9223372036854775808≤n∧n≤9223372036854775807:=by
 obtain⟨n,rfl,_,_,hw⟩:=open_int hu hv hd
 exact⟨n,rfl,by simpa [Lit.wf,IntKind.min,IntKind.max,IntKind.signed,IntKind.bits] using hw⟩
end
end Go.Pv
end
