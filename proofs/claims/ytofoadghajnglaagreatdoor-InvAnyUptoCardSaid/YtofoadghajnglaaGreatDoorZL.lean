/- Parts of the walk: PvAa, M10, M11, M12, G2, G3. -/
import Derived.Test.YtofoadghajnglaaGreatDoorZE
import Derived.Test.YtofoadghajnglaaGreatDoorZK
set_option linter.unusedVariables false
set_option linter.unusedSimpArgs false
section
/-A box that a frame gives away:it becomes an object of the store. -/
namespace Go.Pv
def PV.giv1 (i n:Nat):PV→PV
 | .lp k off=>if k=i then .gp n off else .lp k off
 | .ms false k off len=>if k=i then .ms true n off len else .ms false k off len
 | p=>p
def PV.giv (i n:Nat):PV→PV
 | .agg l=> .agg (l.map (PV.giv1 i n))
 | .tup l=> .tup (l.map (PV.giv1 i n))
 | .fn f l m=> .fn f (l.map (PV.giv1 i n)) (m.map (PV.giv1 i n))
 | p=>p.giv1 i n
def PFS.give (i:Nat) (s:PFS):PFS:=
 ⟨s.pa.map (PV.giv i s.st.length),(s.L.map fun l=>l.map (PV.giv i s.st.length)).set i [],s.T,s.st++ [(s.L.getD i []).map PV.forget2]⟩
section
variable {w:World} {g g':Gh} {F:Fr} {T:List (Nat×Nat)} {i n:Nat}
theorem RepF.giv1 {v:Value} {p:PV} (hm: ∀v p,RepF w g F T v p→RepF w g' F T v p) (hn:n<g'.n) (hz:g'.mu n=F.lmu i) (h:RepF w g F T v p):RepF w g' F T v (p.giv1 i n):=by
 have h':=hm _ _ h
 cases p with
 | lp k off=>
  simp only [PV.giv1]
  split
  · rename_i e;subst e
    cases h' with
    | base _ _ h'=>cases h'
    | lp k off hi=>
     rw [←hz]
     exact .base _ _ (.gp n off hn)
  · exact h'
 | ms gl k off len=>
  cases gl with
  | true=>exact h'
  | false=>
   simp only [PV.giv1]
   split
   · rename_i e;subst e
     cases h' with
     | base _ _ h'=>cases h'
     | lms k off len cap hi hcap=>
      rw [←hz]
      exact .base _ _ (.gms n off len cap hn hcap)
   · exact h'
 | _=>exact h'
theorem RepF.giv {v:Value} {p:PV} (hm: ∀v p,RepF w g F T v p→RepF w g' F T v p) (hn:n<g'.n) (hz:g'.mu n=F.lmu i) (h:RepF w g F T v p):RepF w g' F T v (p.giv i n):=by
 have gm: ∀(l:List PV) (j:Nat),(l.map (PV.giv1 i n)).getD j .junk=(l.getD j .junk).giv1 i n:=fun l j=>X0f rfl l j
 cases p with
 | agg l=>
  cases h with
  | base _ _ h=>
   cases h with
   | agg vs cs' hl h=>exact .agg vs _ (by simpa using hl) fun j hj=>by rw [gm];exact RepF.giv1 hm hn hz (.base _ _ (h j (by simpa using hj)))
  | agg vs cs' hl h=>exact .agg vs _ (by simpa using hl) fun j hj=>by rw [gm];exact RepF.giv1 hm hn hz (h j (by simpa using hj))
 | tup l=>
  cases h with
  | base _ _ h=>
   cases h with
   | tup vs cs' hl h=>exact .tup vs _ (by simpa using hl) fun j hj=>by rw [gm];exact RepF.giv1 hm hn hz (.base _ _ (h j (by simpa using hj)))
  | tup vs cs' hl h=>exact .tup vs _ (by simpa using hl) fun j hj=>by rw [gm];exact RepF.giv1 hm hn hz (h j (by simpa using hj))
 | fn f l m=>
  cases h with
  | base _ _ h=>
   cases h with
   | fn f us vs bs cs' hk hl h0 h=>
    exact .fn f us vs _ _ (by simpa using hk) (by simpa using hl) (fun j hj=>by rw [gm];exact RepF.giv1 hm hn hz (.base _ _ (h0 j (by simpa using hj)))) fun j hj=>by rw [gm];exact RepF.giv1 hm hn hz (.base _ _ (h j (by simpa using hj)))
  | fn f us vs bs cs' hk hl h0 h=>
   exact .fn f us vs _ _ (by simpa using hk) (by simpa using hl) (fun j hj=>by rw [gm];exact RepF.giv1 hm hn hz (h0 j (by simpa using hj))) fun j hj=>by rw [gm];exact RepF.giv1 hm hn hz (h j (by simpa using hj))
 | _=>exact RepF.giv1 hm hn hz h
end
theorem Z2e {E:Ent} {s:PFS} (i:Nat) (hi:s.freezeOK i) (hne:s.L.getD i []≠ []):Weak E s (s.give i):=by
 intro a w g F h
 obtain⟨l1,l2,l3⟩:=h.frame.lo i hne
 have hall:=List.all_eq_true.1 hi
 let g':Gh:= { g with n:=g.n+1,mu:=fun k=>if k=g.n then F.lmu i else g.mu k }
 have hmu: ∀k,k<g.n→g'.mu k=g.mu k:=fun k hk=>if_neg (by omega)
 have hmun:g'.mu g.n=F.lmu i:=if_pos rfl
 have hLe:Le w g w g':=⟨Nat.le_succ _,hmu,fun _=>Nat.le_refl _,fun _ _ _ _ hc=>hc⟩
 have htok:Y1p w g F s.T w g' F s.T:=⟨Nat.le_refl _,fun k hk=>⟨Nat.le_refl _,fun _ v es hR=>hR.mono fun b hb=>⟨rfl,rfl⟩⟩⟩
 have hm: ∀v p,RepF w g F s.T v p→RepF w g' F s.T v p:=fun v p hr=>hr.mono hLe (Nat.le_refl _) (fun _ _=>rfl) htok
 have en:s.st.length=g.n:=h.store.n.symm
 have hf: ∀v p,RepF w g F s.T v p→RepF w g' F s.T v (p.giv i s.st.length):=fun v p hp=>RepF.giv hm (by rw [en];exact Nat.lt_succ_self _) (by rw [en];exact hmun) hp
 have hL: ∀k,((s.L.map fun l=>l.map (PV.giv i s.st.length)).set i []).getD k []≠ []→k≠i∧s.L.getD k []≠ []∧((s.L.map fun l=>l.map (PV.giv i s.st.length)).set i []).getD k []=(s.L.getD k []).map (PV.giv i s.st.length):=fun k hk=>by
  by_cases hki:i=k
  · subst hki
    exfalso;apply hk
    exact K0u _ _
  · have e:((s.L.map fun l=>l.map (PV.giv i s.st.length)).set i []).getD k []=(s.L.getD k []).map (PV.giv i s.st.length):=by
     rw [←W0v (f:=fun l=>l.map (PV.giv i s.st.length)) rfl]
     simp [List.getD_eq_getElem?_getD,List.getElem?_set_ne hki]
    exact⟨fun e=>hki e.symm,fun e0=>hk (by rw [e,e0];rfl),e⟩
 have hst0: ∀j,j<g.n→(s.st++ [(s.L.getD i []).map PV.forget2]).getD j []=s.st.getD j []:=fun j hj=>by
  rw [List.getD_eq_getElem?_getD,List.getElem?_append_left (by omega),←List.getD_eq_getElem?_getD]
 have hst1:(s.st++ [(s.L.getD i []).map PV.forget2]).getD g.n []=(s.L.getD i []).map PV.forget2:=by
  rw [List.getD_eq_getElem?_getD,List.getElem?_append_right (by omega),←en];simp
 have hst:StoreOK w g' (s.st++ [(s.L.getD i []).map PV.forget2]):=by
  refine⟨by simp [g',h.store.n],fun j k hj hk e=> ?_,fun j hj=> ?_,fun j hj hj0=> ?_,fun j hj=> ?_,h.store.none,h.store.tab⟩
  · have hj:j<g.n+1:=hj
    have hk:k<g.n+1:=hk
    by_cases e1:j=g.n
    · by_cases e2:k=g.n
      · omega
      · rw [e1,hmun,hmu k (by omega)] at e
        exact absurd e.symm (h.frame.apart i hne k (by omega))
    · by_cases e2:k=g.n
      · rw [e2,hmun,hmu j (by omega)] at e
        exact absurd e (h.frame.apart i hne j (by omega))
      · rw [hmu j (by omega),hmu k (by omega)] at e
        exact h.store.inj j k (by omega) (by omega) e
  · have hj:j<g.n+1:=hj
    by_cases e1:j=g.n
    · rw [e1,hmun];exact l2
    · rw [hmu j (by omega)];exact h.store.lt j (by omega)
  · have hj:j<g.n+1:=hj
    by_cases e1:j=g.n
    · rw [e1,hmun];exact l3
    · rw [hmu j (by omega)]
      rw [hst0 j (by omega)] at hj0
      exact h.store.vis j (by omega) hj0
  · have hj:j<g.n+1:=hj
    by_cases e1:j=g.n
    · subst e1
      rw [hmun,hst1]
      intro k hk
      have hk':k<(s.L.getD i []).length:=by simpa using hk
      obtain⟨q1,c,q2,q3⟩:=h.frame.holds i hne k hk'
      refine⟨q1,c,q2,?_⟩
      have e:((s.L.getD i []).map PV.forget2).getD k .junk=((s.L.getD i []).getD k .junk).forget2:=X0f (f:=PV.forget2) rfl _ _
      rw [e]
      exact(hm _ _ q3).forget2 (Bool.and_eq_true_iff.1 (hall _ (Q0p _ _ _ hk'))).1
    · rw [hmu j (by omega),hst0 j (by omega)]
      exact(h.store.holds j (by omega)).mono rfl fun v p hr=>hr.mono hLe
 have hext:Ext E.w E.g w g':=by
  refine⟨h.ext.le.trans hLe,h.ext.os,h.ext.tape,h.ext.output,h.ext.size,h.ext.old,fun j h1 h2=> ?_⟩
  have h2:j<g.n+1:=h2
  by_cases e1:j=g.n
  · rw [e1,hmun];exact l1
  · rw [hmu j (by omega)];exact h.ext.new j h1 (by omega)
 refine⟨g',F,⟨hext,hst,⟨by simp [PFS.give,h.frame.nl],fun k hk=> ?_,fun k hk j hj=> ?_,fun k j hk hj=> ?_,fun k hk=> ?_,h.frame.tlo,fun k b hk hb=>⟨fun j hj=> ?_,fun j hj=> ?_⟩,h.frame.tinj⟩,h.defers,by simp [PFS.give,h.len],fun t ht=> ?_⟩⟩
 · exact h.frame.lo k (hL k hk).2.1
 · have hj:j<g.n+1:=hj
   obtain⟨h1,h2,h3⟩:=hL k hk
   by_cases e1:j=g.n
   · rw [e1,hmun];exact fun e=>h1 (h.frame.inj k i h2 hne e.symm)
   · rw [hmu j (by omega)];exact h.frame.apart k h2 j (by omega)
 · exact h.frame.inj k j (hL k hk).2.1 (hL j hj).2.1
 · obtain⟨h1,h2,h3⟩:=hL k hk
   show Holds w _ _ (((s.L.map fun l=>l.map (PV.giv i s.st.length)).set i []).getD k [])
   rw [h3]
   intro j hj
   obtain⟨q1,c,q2,q3⟩:=h.frame.holds k h2 j (by simpa using hj)
   exact⟨q1,c,q2,by rw [X0f (f:=PV.giv i s.st.length) rfl];exact hf _ _ q3⟩
 · have hj:j<g.n+1:=hj
   by_cases e1:j=g.n
   · rw [e1,hmun];exact(h.frame.tapart k b hk hb).2 i hne
   · rw [hmu j (by omega)];exact(h.frame.tapart k b hk hb).1 j (by omega)
 · exact(h.frame.tapart k b hk hb).2 j (hL j hj).2.1
 · simp only [PFS.give] at ht⊢
   show RepF w g' F s.T _ ((s.pa.map (PV.giv i s.st.length)).getD t .junk)
   rw [X0f (f:=PV.giv i s.st.length) rfl]
   exact hf _ _ (h.tmps t (by simpa using ht))
@[go_sem] theorem v3l {i:Nat} {pa:List PV} {L st:Q0f} {T:List (Nat×Nat)} :(PFS.mk pa L T st).give i=⟨pa.map (PV.giv i st.length),(L.map fun l=>l.map (PV.giv i st.length)).set i [],T,st++ [(L.getD i []).map PV.forget2]⟩:=(rfl)
attribute [go_sem] PV.giv PV.giv1
@[go_sem] theorem Z4k {ps:List PV} {b:List Bool} {p:PV} :noL (false::b) (p::ps)=p::noL b ps:=(rfl)
theorem H0h {P:Program} {E:Ent} {c:Code} {Q:Exit→PFS→Prop} {s:PFS} (i:Nat) (hi:s.freezeOK i) (hne:s.L.getD i []≠ []) (h:PWP P E c Q (s.give i)):PWP P E c Q s:=W0k (Z2e i hi hne) h
end Go.Pv
end
section
/-The document's values as numbers. No program in it. -/
namespace Go.Pv
def numV (v:Vl):Nm×Int:=
 if v.m=0 then(default,0) else if 64<(Q0l v.m).length∨v.e< -65536∨65536<v.e then(default,2) else(⟨v.neg,v.e,Q0l v.m⟩,0)
def okV (v:Vl):Prop:=v.m % 2=1∨v.m=0
theorem j0s (l:List UInt64):valW l % 2=(l.getD 0 0).toNat % 2:=by
 cases l with
 | nil=>rfl
 | cons x l=>
  have:=K0m [x] l
  have h1:valW [x]=x.toNat:=by simp [valW,nW,val]
  rw [show x::l= [x]++l from rfl,this,h1]
  simp only [List.length_singleton,List.singleton_append,List.getD_cons_zero,Nat.pow_one]
  omega
theorem W0i :Q0h (default:Nm)=true:=by decide
theorem Y0w {v:Vl} (h:okV v):Q0h (numV v).1=true:=by
 unfold numV
 split
 · exact W0i
 · rename_i h0
   split
   · exact W0i
   · rename_i h1
     have hw:Q0l v.m≠ []:=fun e=>h0 (wordsOf_nil.1 e)
     unfold Q0h
     rw [if_neg hw,W0y]
     have h2:=j0s (Q0l v.m)
     rw [Q0y] at h2
     have h3:v.m % 2=1:=h.resolve_right h0
     simp only [Bool.and_eq_true,decide_eq_true_eq]
     refine⟨⟨⟨⟨trivial,?_⟩,?_⟩,?_⟩,?_⟩<;>omega
theorem w2r {x:Nm} (h:Q0h x=true):okV (ofN x):=by
 unfold okV ofN
 simp only
 by_cases hw:x.w= []
 · rw [hw];exact .inr rfl
 · unfold Q0h at h
   rw [if_neg hw] at h
   simp only [Bool.and_eq_true,decide_eq_true_eq] at h
   exact .inl (by rw [j0s];exact h.1.1.2)
theorem v1e (e:Int):mkV 0 e=⟨false,0,0⟩:=by simp [mkV,oddV]
theorem natAbs_pow (s:Int) (j:Nat):(s*2^j).natAbs=s.natAbs*2^j:=by
 rw [Int.natAbs_mul,Int.natAbs_pow];rfl
theorem Y2r (m j:Nat) (h:m≠0):tz (m*2^j)=tz m+j:=by
 obtain⟨q,hq,e⟩:=v0z m h
 have:m*2^j=2^(tz m+j)*q:=by
  conv=>lhs;rw [e]
  rw [Nat.pow_add,Nat.mul_assoc,Nat.mul_assoc,Nat.mul_comm q]
 rw [this,Y1y _ _ hq]
end Go.Pv
end
section
/-Words out of half words. No program in it. -/
namespace Go.Pv
def pk (a:List UInt32) (k:Nat):List UInt64:=(List.range k).map fun j=>UInt64.ofNat ((a.getD (2*j) 0).toNat+4294967296*(a.getD (2*j+1) 0).toNat)
theorem G0p (a:List UInt32) (k:Nat):(pk a k).length=k:=by simp [pk]
theorem z1n (a:List UInt32) (k:Nat):pk a (k+1)=pk a k++ [UInt64.ofNat ((a.getD (2*k) 0).toNat+4294967296*(a.getD (2*k+1) 0).toNat)]:=by
 simp [pk,List.range_succ]
theorem z1m (a:List UInt32) (k:Nat):(UInt64.ofNat ((a.getD (2*k) 0).toNat+4294967296*(a.getD (2*k+1) 0).toNat)).toNat=(a.getD (2*k) 0).toNat+4294967296*(a.getD (2*k+1) 0).toNat:=by
 have h1:=(a.getD (2*k) 0).toNat_lt
 have h2:=(a.getD (2*k+1) 0).toNat_lt
 exact Z0x _ (by omega)
theorem Z2g (a:List UInt32): ∀k,valW (pk a k)=valD (a.take (2*k))
 | 0=>rfl
 | k+1=>by
  rw [z1n,K0m,Z2g a k,G0p,show 2*(k+1)=2*k+1+1 from by omega,J0m,J0m]
  have h1:valW [UInt64.ofNat ((a.getD (2*k) 0).toNat+4294967296*(a.getD (2*k+1) 0).toNat)]=(a.getD (2*k) 0).toNat+4294967296*(a.getD (2*k+1) 0).toNat:=by
   simp only [valW,nW,val,List.map,Nat.mul_zero,Nat.add_zero]
   exact z1m a k
  have h2:18446744073709551616^k=4294967296^(2*k):=by rw [Nat.pow_mul]
  rw [h1,h2,Nat.pow_succ,Nat.mul_add,Nat.mul_assoc,Nat.add_assoc]
theorem H1r (l:List UInt32) (h:l≠ []):(cutD l).length=l.length↔l.getD (l.length-1) 0≠0:=by
 obtain⟨i,x,rfl⟩: ∃i x,l=i++ [x]:=⟨l.dropLast,l.getLast h,(List.dropLast_concat_getLast h).symm⟩
 rw [H1q]
 have e:(i++ [x]).getD ((i++ [x]).length-1) 0=x:=by simp [List.getD_eq_getElem?_getD]
 rw [e]
 have:=Z3e i
 by_cases hx:x=0
 · simp [hx];omega
 · simp [hx]
theorem G2f (m:Nat):pk (Q0c m) (((Q0c m).length+1)/2)=Q0l m:=by
 have hv:valW (pk (Q0c m) (((Q0c m).length+1)/2))=m:=by
  rw [Z2g,List.take_of_length_le (by omega),Q0x]
 have hw:Q0l m=cutW (pk (Q0c m) (((Q0c m).length+1)/2)):=by rw [←Q0u,hv]
 rw [hw]
 have hl:=G0p (Q0c m) (((Q0c m).length+1)/2)
 refine(x1v _ _ (Nat.le_refl _) (fun j h1 h2=>by omega) ?_|>.trans (List.take_length ..)).symm
 by_cases h0:Q0c m= []
 · exact .inl (by rw [hl,h0];rfl)
 · refine .inr fun e=> ?_
   have hc:cutD (Q0c m)≠ []:=by rw [H0s];exact h0
   have hp:=List.length_pos_iff.2 h0
   have hlast:(Q0c m).getD ((Q0c m).length-1) 0≠0:=by
    have hr:(cutD (Q0c m)).length=(Q0c m).length:=by rw [H0s]
    exact(H1r _ h0).1 hr
   rw [hl] at e
   obtain⟨k,hk⟩: ∃k,((Q0c m).length+1)/2=k+1:=⟨((Q0c m).length+1)/2-1,by omega⟩
   rw [hk,z1n] at e
   have e1:(pk (Q0c m) k++ [UInt64.ofNat (((Q0c m).getD (2*k) 0).toNat+4294967296*((Q0c m).getD (2*k+1) 0).toNat)]).getD (k+1-1) 0=UInt64.ofNat (((Q0c m).getD (2*k) 0).toNat+4294967296*((Q0c m).getD (2*k+1) 0).toNat):=by
    rw [List.getD_eq_getElem?_getD,List.getElem?_append_right (by rw [G0p];omega),G0p];simp
   rw [e1] at e
   have e2:=(y0v _).1 e
   rw [z1m] at e2
   have:(Q0c m).length-1=2*k∨(Q0c m).length-1=2*k+1:=by omega
   rcases this with h | h
   · rw [h] at hlast;exact hlast ((z0k _).2 (by omega))
   · rw [h] at hlast;exact hlast ((z0k _).2 (by omega))
end Go.Pv
end
section
/-Tubes that are built piece by piece. No program in it. -/
namespace Go.Pv
theorem Q0s {x:Nm} (h:Q0h x=true):wN x:=x0r (Z0k h)
theorem X2f {x:Ivl} (h:Q0v x=true):wI x:=⟨Q0s (Q0w h).1,Q0s (Q0w h).2.1⟩
theorem z1l {a:Nm} (ha:Q0h a=true):Q0v ⟨a,a⟩=true:=Z1e ha ha (by have:=z0g a;simp only;omega)
theorem X2g {b:List Ivl} (h:rightB b=true):wB b:=⟨by have:=z0s h;omega,fun i hi=>X2f (y1c h i hi)⟩
end Go.Pv
end
section
/-A law whose calls leave objects behind;one argument that is a slice of words. -/
set_option maxRecDepth 100000
namespace Go.Pv
open Go Go.Proofs Go.ChangeShapes Go.WideShapes Go.ChangeAt Go.RowKit
theorem j1d {P:Program} {f:FuncId} {vs:Array Value} {ps:List PV} {w:World} (ht:TabOK w (allG w)) (h:PCalls P f ps [] (fun r st'=>r= .sc (.bool true))) (hr:Reps w (allG w) vs ps):
 Calls P f vs w (fun e w'=>e= .returned (.bool true)∧Below w.heap.size w w'):=by
 refine(h w (allG w) vs (w1q w ht) hr).mono ?_
 rintro e w' ⟨v,g',r,st,rfl,hx,hs,hrr,rfl⟩
 refine⟨?_,hx.os,hx.tape,hx.output,hx.size,fun k hk=>(hx.old k hk (fun i hi=>by simp [allG] at hi)).1⟩
 have:Rep w' g' v (.sc (.bool true)):=hrr
 rw [this.sc_inv]
theorem X2z :ownKnob Tryz.prog.godebug=none:=by kernel_rfl
theorem x1b :laidOutB Tryz.prog=true:=by kernel_rfl
end Go.Pv
end
section
/-Reading the arguments of a law,one by one. -/
set_option maxRecDepth 100000
namespace Go.Pv
open Go Go.Proofs Go.ChangeShapes Go.WideShapes Go.ChangeAt Go.RowKit Go.Proofs.YtofoadghajnglaaGreatDoor.Rows
section
variable {P:Program} {t e:TypeId} {W:World} {base:Nat} {v:Value} {H:Type} {tok:TypeId×Value→H} {d:DataW H} {p:List MemPlace}
theorem Z3w {α:Type} {enc:α→List PV} {ok:Nat→α→Prop} (hT:Ty P t 1 (fun l:α=> [.sl .no (enc l)]) ok) (hu:P.underlying t=some (.slice e)) (hv:Value.okWide P W .any base t v)
 (hd:DataW.Trod tok P W 0 (fun _=>true) true t v d p): ∃l,Rep W (allG W) v (.sl .no (enc l))∧ok (uptoBulk d) l:=by
 obtain⟨a,len,cap,rfl⟩:=okWide_slice hu hv
 obtain⟨fuel,hf⟩:=hd
 obtain⟨l,_,hrep,hok⟩:=hT.rd tok W fuel _ _ hf
 exact⟨l,hrep 0 (by omega),hok⟩
theorem Z3x (hu:P.underlying t=some (.int .i64)) (hv:Value.okWide P W .any base t v) (hd:DataW.Trod tok P W 0 (fun _=>true) true t v d p):
 ∃n,v= .int .i64 n∧ -9223372036854775808≤n∧n≤9223372036854775807:=by
 obtain⟨n,rfl,_,_,hw⟩:=open_int hu hv hd
 exact⟨n,rfl,by simpa [Lit.wf,IntKind.min,IntKind.max,IntKind.signed,IntKind.bits] using hw⟩
end
end Go.Pv
end
