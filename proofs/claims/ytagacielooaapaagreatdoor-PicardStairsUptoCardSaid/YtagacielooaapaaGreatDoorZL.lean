/- Parts of the walk: PvAa, M10, M11, M12, G2, G3. -/
import Derived.Test.YtagacielooaapaaGreatDoorZE
import Derived.Test.YtagacielooaapaaGreatDoorZK
set_option linter.unusedVariables false
set_option linter.unusedSimpArgs false
section
/-A box that a frame gives away:it becomes an object of the store. -/
namespace Go.Pv
def PV.giv1 (i n:Nat):PV→PV
 | .lp k off=>if k=i then .gp n off else .lp k off
 | .ms false k off len=>if k=i then .ms true n off len else .ms false k off len
 | p=>p
def PV.giv (i n:Nat):PV→PV
 | .agg l=> .agg (l.map (PV.giv1 i n))
 | .tup l=> .tup (l.map (PV.giv1 i n))
 | .fn f l m=> .fn f (l.map (PV.giv1 i n)) (m.map (PV.giv1 i n))
 | p=>p.giv1 i n
def PFS.give (i:Nat) (s:PFS):PFS:=
 ⟨s.pa.map (PV.giv i s.st.length),(s.L.map fun l=>l.map (PV.giv i s.st.length)).set i [],s.T,s.st++ [(s.L.getD i []).map PV.forget2]⟩
section
variable {w:World} {g g':Gh} {F:Fr} {T:List (Nat×Nat)} {i n:Nat}
theorem RepF.giv1 {v:Value} {p:PV} (hm: ∀v p,RepF w g F T v p→RepF w g' F T v p) (hn:n<g'.n) (hz:g'.mu n=F.lmu i) (h:RepF w g F T v p):RepF w g' F T v (p.giv1 i n):=by
 have h':=hm _ _ h
 cases p with
 | lp k off=>
  simp only [PV.giv1]
  split
  · rename_i e;subst e
    cases h' with
    | base _ _ h'=>cases h'
    | lp k off hi=>
     rw [←hz]
     exact .base _ _ (.gp n off hn)
  · exact h'
 | ms gl k off len=>
  cases gl with
  | true=>exact h'
  | false=>
   simp only [PV.giv1]
   split
   · rename_i e;subst e
     cases h' with
     | base _ _ h'=>cases h'
     | lms k off len cap hi hcap=>
      rw [←hz]
      exact .base _ _ (.gms n off len cap hn hcap)
   · exact h'
 | _=>exact h'
theorem RepF.giv {v:Value} {p:PV} (hm: ∀v p,RepF w g F T v p→RepF w g' F T v p) (hn:n<g'.n) (hz:g'.mu n=F.lmu i) (h:RepF w g F T v p):RepF w g' F T v (p.giv i n):=by
 have gm: ∀(l:List PV) (j:Nat),(l.map (PV.giv1 i n)).getD j .junk=(l.getD j .junk).giv1 i n:=fun l j=>Q0w rfl l j
 cases p with
 | agg l=>
  cases h with
  | base _ _ h=>
   cases h with
   | agg vs cs' hl h=>exact .agg vs _ (by simpa using hl) fun j hj=>by rw [gm];exact RepF.giv1 hm hn hz (.base _ _ (h j (by simpa using hj)))
  | agg vs cs' hl h=>exact .agg vs _ (by simpa using hl) fun j hj=>by rw [gm];exact RepF.giv1 hm hn hz (h j (by simpa using hj))
 | tup l=>
  cases h with
  | base _ _ h=>
   cases h with
   | tup vs cs' hl h=>exact .tup vs _ (by simpa using hl) fun j hj=>by rw [gm];exact RepF.giv1 hm hn hz (.base _ _ (h j (by simpa using hj)))
  | tup vs cs' hl h=>exact .tup vs _ (by simpa using hl) fun j hj=>by rw [gm];exact RepF.giv1 hm hn hz (h j (by simpa using hj))
 | fn f l m=>
  cases h with
  | base _ _ h=>
   cases h with
   | fn f us vs bs cs' hk hl h0 h=>
    exact .fn f us vs _ _ (by simpa using hk) (by simpa using hl) (fun j hj=>by rw [gm];exact RepF.giv1 hm hn hz (.base _ _ (h0 j (by simpa using hj)))) fun j hj=>by rw [gm];exact RepF.giv1 hm hn hz (.base _ _ (h j (by simpa using hj)))
  | fn f us vs bs cs' hk hl h0 h=>
   exact .fn f us vs _ _ (by simpa using hk) (by simpa using hl) (fun j hj=>by rw [gm];exact RepF.giv1 hm hn hz (h0 j (by simpa using hj))) fun j hj=>by rw [gm];exact RepF.giv1 hm hn hz (h j (by simpa using hj))
 | _=>exact RepF.giv1 hm hn hz h
end
theorem U0k {E:Ent} {s:PFS} (i:Nat) (hi:s.freezeOK i) (hne:s.L.getD i []≠ []):Weak E s (s.give i):=by
 intro a w g F h
 obtain⟨l1,l2,l3⟩:=h.frame.lo i hne
 have hall:=List.all_eq_true.1 hi
 let g':Gh:= { g with n:=g.n+1,mu:=fun k=>if k=g.n then F.lmu i else g.mu k }
 have hmu: ∀k,k<g.n→g'.mu k=g.mu k:=fun k hk=>if_neg (by omega)
 have hmun:g'.mu g.n=F.lmu i:=if_pos rfl
 have hLe:Le w g w g':=⟨Nat.le_succ _,hmu,fun _=>Nat.le_refl _,fun _ _ _ _ hc=>hc⟩
 have htok:Q1z w g F s.T w g' F s.T:=⟨Nat.le_refl _,fun k hk=>⟨Nat.le_refl _,fun _ v es hR=>hR.mono fun b hb=>⟨rfl,rfl⟩⟩⟩
 have hm: ∀v p,RepF w g F s.T v p→RepF w g' F s.T v p:=fun v p hr=>hr.mono hLe (Nat.le_refl _) (fun _ _=>rfl) htok
 have en:s.st.length=g.n:=h.store.n.symm
 have hf: ∀v p,RepF w g F s.T v p→RepF w g' F s.T v (p.giv i s.st.length):=fun v p hp=>RepF.giv hm (by rw [en];exact Nat.lt_succ_self _) (by rw [en];exact hmun) hp
 have hL: ∀k,((s.L.map fun l=>l.map (PV.giv i s.st.length)).set i []).getD k []≠ []→k≠i∧s.L.getD k []≠ []∧((s.L.map fun l=>l.map (PV.giv i s.st.length)).set i []).getD k []=(s.L.getD k []).map (PV.giv i s.st.length):=fun k hk=>by
  by_cases hki:i=k
  · subst hki
    exfalso;apply hk
    exact X0q _ _
  · have e:((s.L.map fun l=>l.map (PV.giv i s.st.length)).set i []).getD k []=(s.L.getD k []).map (PV.giv i s.st.length):=by
     rw [←K0r (f:=fun l=>l.map (PV.giv i s.st.length)) rfl]
     simp [List.getD_eq_getElem?_getD,List.getElem?_set_ne hki]
    exact⟨fun e=>hki e.symm,fun e0=>hk (by rw [e,e0];rfl),e⟩
 have hst0: ∀j,j<g.n→(s.st++ [(s.L.getD i []).map PV.forget2]).getD j []=s.st.getD j []:=fun j hj=>by
  rw [List.getD_eq_getElem?_getD,List.getElem?_append_left (by omega),←List.getD_eq_getElem?_getD]
 have hst1:(s.st++ [(s.L.getD i []).map PV.forget2]).getD g.n []=(s.L.getD i []).map PV.forget2:=by
  rw [List.getD_eq_getElem?_getD,List.getElem?_append_right (by omega),←en];simp
 have hst:StoreOK w g' (s.st++ [(s.L.getD i []).map PV.forget2]):=by
  refine⟨by simp [g',h.store.n],fun j k hj hk e=> ?_,fun j hj=> ?_,fun j hj hj0=> ?_,fun j hj=> ?_,h.store.none,h.store.tab⟩
  · have hj:j<g.n+1:=hj
    have hk:k<g.n+1:=hk
    by_cases e1:j=g.n
    · by_cases e2:k=g.n
      · omega
      · rw [e1,hmun,hmu k (by omega)] at e
        exact absurd e.symm (h.frame.apart i hne k (by omega))
    · by_cases e2:k=g.n
      · rw [e2,hmun,hmu j (by omega)] at e
        exact absurd e (h.frame.apart i hne j (by omega))
      · rw [hmu j (by omega),hmu k (by omega)] at e
        exact h.store.inj j k (by omega) (by omega) e
  · have hj:j<g.n+1:=hj
    by_cases e1:j=g.n
    · rw [e1,hmun];exact l2
    · rw [hmu j (by omega)];exact h.store.lt j (by omega)
  · have hj:j<g.n+1:=hj
    by_cases e1:j=g.n
    · rw [e1,hmun];exact l3
    · rw [hmu j (by omega)]
      rw [hst0 j (by omega)] at hj0
      exact h.store.vis j (by omega) hj0
  · have hj:j<g.n+1:=hj
    by_cases e1:j=g.n
    · subst e1
      rw [hmun,hst1]
      intro k hk
      have hk':k<(s.L.getD i []).length:=by simpa using hk
      obtain⟨q1,c,q2,q3⟩:=h.frame.holds i hne k hk'
      refine⟨q1,c,q2,?_⟩
      have e:((s.L.getD i []).map PV.forget2).getD k .junk=((s.L.getD i []).getD k .junk).forget2:=Q0w (f:=PV.forget2) rfl _ _
      rw [e]
      exact(hm _ _ q3).forget2 (Bool.and_eq_true_iff.1 (hall _ (Q0t _ _ _ hk'))).1
    · rw [hmu j (by omega),hst0 j (by omega)]
      exact(h.store.holds j (by omega)).mono rfl fun v p hr=>hr.mono hLe
 have hext:Ext E.w E.g w g':=by
  refine⟨h.ext.le.trans hLe,h.ext.os,h.ext.tape,h.ext.output,h.ext.size,h.ext.old,fun j h1 h2=> ?_⟩
  have h2:j<g.n+1:=h2
  by_cases e1:j=g.n
  · rw [e1,hmun];exact l1
  · rw [hmu j (by omega)];exact h.ext.new j h1 (by omega)
 refine⟨g',F,⟨hext,hst,⟨by simp [PFS.give,h.frame.nl],fun k hk=> ?_,fun k hk j hj=> ?_,fun k j hk hj=> ?_,fun k hk=> ?_,h.frame.tlo,fun k b hk hb=>⟨fun j hj=> ?_,fun j hj=> ?_⟩,h.frame.tinj⟩,h.defers,by simp [PFS.give,h.len],fun t ht=> ?_⟩⟩
 · exact h.frame.lo k (hL k hk).2.1
 · have hj:j<g.n+1:=hj
   obtain⟨h1,h2,h3⟩:=hL k hk
   by_cases e1:j=g.n
   · rw [e1,hmun];exact fun e=>h1 (h.frame.inj k i h2 hne e.symm)
   · rw [hmu j (by omega)];exact h.frame.apart k h2 j (by omega)
 · exact h.frame.inj k j (hL k hk).2.1 (hL j hj).2.1
 · obtain⟨h1,h2,h3⟩:=hL k hk
   show Holds w _ _ (((s.L.map fun l=>l.map (PV.giv i s.st.length)).set i []).getD k [])
   rw [h3]
   intro j hj
   obtain⟨q1,c,q2,q3⟩:=h.frame.holds k h2 j (by simpa using hj)
   exact⟨q1,c,q2,by rw [Q0w (f:=PV.giv i s.st.length) rfl];exact hf _ _ q3⟩
 · have hj:j<g.n+1:=hj
   by_cases e1:j=g.n
   · rw [e1,hmun];exact(h.frame.tapart k b hk hb).2 i hne
   · rw [hmu j (by omega)];exact(h.frame.tapart k b hk hb).1 j (by omega)
 · exact(h.frame.tapart k b hk hb).2 j (hL j hj).2.1
 · simp only [PFS.give] at ht⊢
   show RepF w g' F s.T _ ((s.pa.map (PV.giv i s.st.length)).getD t .junk)
   rw [Q0w (f:=PV.giv i s.st.length) rfl]
   exact hf _ _ (h.tmps t (by simpa using ht))
@[go_sem] theorem W4u {i:Nat} {pa:List PV} {L st:Q0e} {T:List (Nat×Nat)} :(PFS.mk pa L T st).give i=⟨pa.map (PV.giv i st.length),(L.map fun l=>l.map (PV.giv i st.length)).set i [],T,st++ [(L.getD i []).map PV.forget2]⟩:=(rfl)
attribute [go_sem] PV.giv PV.giv1
@[go_sem] theorem H4j {ps:List PV} {b:List Bool} {p:PV} :noL (false::b) (p::ps)=p::noL b ps:=(rfl)
theorem w0a {P:Program} {E:Ent} {c:Code} {Q:Exit→PFS→Prop} {s:PFS} (i:Nat) (hi:s.freezeOK i) (hne:s.L.getD i []≠ []) (h:PWP P E c Q (s.give i)):PWP P E c Q s:=J0t (U0k i hi hne) h
end Go.Pv
end
section
/-The document's values as numbers. No program in it. -/
namespace Go.Pv
def numV (v:Vl):Nm×Int:=
 if v.m=0 then(default,0) else if 64<(Q0o v.m).length∨v.e< -65536∨65536<v.e then(default,2) else(⟨v.neg,v.e,Q0o v.m⟩,0)
def Q1o (neg:Bool) (w:List UInt64) (e:Int):Nm×Int:=
 if valW w=0 then(default,0) else if 65536<e∨e< -65536-(tz (valW w):Int) then(default,2) else numV (oddV neg (valW w) e)
def z3y (a b:Nm):Nm×Int:=if Q0g a=true∧Q0g b=true then numV (K0o (ofN a) (ofN b)) else(default,1)
def okV (v:Vl):Prop:=v.m % 2=1∨v.m=0
theorem U2y (neg:Bool) (m:Nat) (e:Int):okV (oddV neg m e):=by
 unfold oddV okV
 split
 · exact .inr rfl
 · exact .inl (W0k m (by assumption))
theorem v0l (l:List UInt64):valW l % 2=(l.getD 0 0).toNat % 2:=by
 cases l with
 | nil=>rfl
 | cons x l=>
  have:=U0l [x] l
  have h1:valW [x]=x.toNat:=by simp [valW,nW,val]
  rw [show x::l= [x]++l from rfl,this,h1]
  simp only [List.length_singleton,List.singleton_append,List.getD_cons_zero,Nat.pow_one]
  omega
theorem X0n :Q0g (default:Nm)=true:=by decide
theorem X0w {v:Vl} (h:okV v):Q0g (numV v).1=true:=by
 unfold numV
 split
 · exact X0n
 · rename_i h0
   split
   · exact X0n
   · rename_i h1
     have hw:Q0o v.m≠ []:=fun e=>h0 (wordsOf_nil.1 e)
     unfold Q0g
     rw [if_neg hw,Y0k]
     have h2:=v0l (Q0o v.m)
     rw [Z0q] at h2
     have h3:v.m % 2=1:=h.resolve_right h0
     simp only [Bool.and_eq_true,decide_eq_true_eq]
     refine⟨⟨⟨⟨trivial,?_⟩,?_⟩,?_⟩,?_⟩<;>omega
theorem v1o {x:Nm} (h:Q0g x=true):okV (ofN x):=by
 unfold okV ofN
 simp only
 by_cases hw:x.w= []
 · rw [hw];exact .inr rfl
 · unfold Q0g at h
   rw [if_neg hw] at h
   simp only [Bool.and_eq_true,decide_eq_true_eq] at h
   exact .inl (by rw [v0l];exact h.1.1.2)
theorem q1u (neg:Bool) (w:List UInt64) (e:Int):Q0g (Q1o neg w e).1=true:=by
 unfold Q1o
 split
 · exact X0n
 · split
   · exact X0n
   · exact X0w (U2y _ _ _)
theorem Z2i (e:Int):mkV 0 e=⟨false,0,0⟩:=by simp [mkV,oddV]
theorem natAbs_pow (s:Int) (j:Nat):(s*2^j).natAbs=s.natAbs*2^j:=by
 rw [Int.natAbs_mul,Int.natAbs_pow];rfl
theorem y1n (m j:Nat) (h:m≠0):tz (m*2^j)=tz m+j:=by
 obtain⟨q,hq,e⟩:=y0s m h
 have:m*2^j=2^(tz m+j)*q:=by
  conv=>lhs;rw [e]
  rw [Nat.pow_add,Nat.mul_assoc,Nat.mul_assoc,Nat.mul_comm q]
 rw [this,q1b _ _ hq]
theorem K2q (neg:Bool) (m j:Nat) (e:Int):oddV neg (m*2^j) e=oddV neg m (e+j):=by
 unfold oddV
 by_cases h:m=0
 · subst h;simp
 · have hp:0<2^j:=Nat.pow_pos (by decide)
   have h2:m*2^j≠0:=Nat.mul_ne_zero h (by omega)
   rw [if_neg h,if_neg h2,y1n m j h,Nat.pow_add,Nat.mul_div_mul_right _ _ hp]
   congr 1
   omega
theorem v2w (s e:Int) (h:s≠0):e≤(mkV s e).e∧Z0u (mkV s e)*2^((mkV s e).e-e).toNat=s∧(mkV s e).m≠0:=by
 have h1:s.natAbs≠0:=by omega
 have h2:s.natAbs/2^tz s.natAbs≠0:=by have:=W0k s.natAbs h1;omega
 unfold mkV oddV
 rw [if_neg h1]
 refine⟨by simp only;omega,?_,h2⟩
 simp only [Z0u]
 have e1:(e+(tz s.natAbs:Int)-e).toNat=tz s.natAbs:=by omega
 rw [e1]
 have e2:((s.natAbs/2^tz s.natAbs:Nat):Int)*2^tz s.natAbs=(s.natAbs:Int):=by
  have:=W1c s.natAbs
  conv=>rhs;rw [←this]
  rw [Int.natCast_mul,Int.natCast_pow];rfl
 by_cases hs:s<0
 · rw [decide_eq_true hs,if_pos rfl,Int.neg_mul,e2];omega
 · rw [decide_eq_false hs];simp only [Bool.false_eq_true,if_false];rw [e2];omega
def tq (q:Nat):Nm:=(numV (mkV q (-3))).1
theorem G2c (q:Nat) (h:q<1152921504606846976):numV (mkV q (-3))=(tq q,0)∧ofN (tq q)=mkV q (-3):=by
 by_cases h0:q=0
 · subst h0;decide
 · have h1:(q:Int)≠0:=by omega
   obtain⟨a1,a2,a3⟩:=v2w (q:Int) (-3) h1
   have hle:(mkV (q:Int) (-3)).m≤q∧(mkV (q:Int) (-3)).e≤100:=by
    unfold mkV oddV
    simp only [Int.natAbs_natCast]
    rw [if_neg h0]
    have hb:Q0i q≤60:=bitlen_le_iff.2 h
    have:=G0o q h0
    exact⟨Nat.div_le_self _ _,by simp only;omega⟩
   have hb:Q0i (mkV (q:Int) (-3)).m≤60:=bitlen_le_iff.2 (Nat.lt_of_le_of_lt hle.1 h)
   have hw:=X1p (mkV (q:Int) (-3)).m
   have e1:numV (mkV (q:Int) (-3))=(⟨(mkV (q:Int) (-3)).neg,(mkV (q:Int) (-3)).e,Q0o (mkV (q:Int) (-3)).m⟩,0):=by
    unfold numV
    rw [if_neg a3,if_neg (by omega)]
   refine⟨by unfold tq;rw [e1],?_⟩
   unfold tq
   rw [e1]
   simp only [ofN,Z0q]
theorem q1t (q:Nat):Q0g (tq q)=true:=X0w (U2y _ _ _)
theorem W3r (c j:Nat) (h:c<1000) (hj:j<4) (hc:0<c):Q1o false [UInt64.ofNat c] ((j:Int)-3)=(tq (c*2^j),0):=by
 have hv:valW [UInt64.ofNat c]=c:=by
  simp only [valW,nW,val,List.map,Nat.mul_zero,Nat.add_zero,UInt64.toNat_ofNat]
  exact Nat.mod_eq_of_lt (by omega)
 have hp:2^j≤8:=Nat.pow_le_pow_right (by decide) (by omega:j≤3)
 have hq:c*2^j<1152921504606846976:=Nat.lt_of_le_of_lt (Nat.mul_le_mul (Nat.le_of_lt h) hp) (by decide)
 unfold Q1o
 rw [hv,if_neg (by omega),if_neg (by omega),←(G2c _ hq).1]
 congr 1
 unfold mkV
 have:((c*2^j:Nat):Int).natAbs=c*2^j:=Int.natAbs_natCast _
 rw [this,K2q,decide_eq_false (by omega)]
 congr 1
end Go.Pv
end
section
/-Words out of half words. No program in it. -/
namespace Go.Pv
def pk (a:List UInt32) (k:Nat):List UInt64:=(List.range k).map fun j=>UInt64.ofNat ((a.getD (2*j) 0).toNat+4294967296*(a.getD (2*j+1) 0).toNat)
theorem H0s (a:List UInt32) (k:Nat):(pk a k).length=k:=by simp [pk]
theorem v1j (a:List UInt32) (k:Nat):pk a (k+1)=pk a k++ [UInt64.ofNat ((a.getD (2*k) 0).toNat+4294967296*(a.getD (2*k+1) 0).toNat)]:=by
 simp [pk,List.range_succ]
theorem v1i (a:List UInt32) (k:Nat):(UInt64.ofNat ((a.getD (2*k) 0).toNat+4294967296*(a.getD (2*k+1) 0).toNat)).toNat=(a.getD (2*k) 0).toNat+4294967296*(a.getD (2*k+1) 0).toNat:=by
 have h1:=(a.getD (2*k) 0).toNat_lt
 have h2:=(a.getD (2*k+1) 0).toNat_lt
 exact Z0z _ (by omega)
theorem W2p (a:List UInt32): ∀k,valW (pk a k)=valD (a.take (2*k))
 | 0=>rfl
 | k+1=>by
  rw [v1j,U0l,W2p a k,H0s,show 2*(k+1)=2*k+1+1 from by omega,J0l,J0l]
  have h1:valW [UInt64.ofNat ((a.getD (2*k) 0).toNat+4294967296*(a.getD (2*k+1) 0).toNat)]=(a.getD (2*k) 0).toNat+4294967296*(a.getD (2*k+1) 0).toNat:=by
   simp only [valW,nW,val,List.map,Nat.mul_zero,Nat.add_zero]
   exact v1i a k
  have h2:18446744073709551616^k=4294967296^(2*k):=by rw [Nat.pow_mul]
  rw [h1,h2,Nat.pow_succ,Nat.mul_add,Nat.mul_assoc,Nat.add_assoc]
theorem q2y (l:List UInt32) (h:l≠ []):(cutD l).length=l.length↔l.getD (l.length-1) 0≠0:=by
 obtain⟨i,x,rfl⟩: ∃i x,l=i++ [x]:=⟨l.dropLast,l.getLast h,(List.dropLast_concat_getLast h).symm⟩
 rw [j1q]
 have e:(i++ [x]).getD ((i++ [x]).length-1) 0=x:=by simp [List.getD_eq_getElem?_getD]
 rw [e]
 have:=U3u i
 by_cases hx:x=0
 · simp [hx];omega
 · simp [hx]
theorem k2w (m:Nat):pk (Q0d m) (((Q0d m).length+1)/2)=Q0o m:=by
 have hv:valW (pk (Q0d m) (((Q0d m).length+1)/2))=m:=by
  rw [W2p,List.take_of_length_le (by omega),Z0e]
 have hw:Q0o m=cutW (pk (Q0d m) (((Q0d m).length+1)/2)):=by rw [←Q0x,hv]
 rw [hw]
 have hl:=H0s (Q0d m) (((Q0d m).length+1)/2)
 refine(w1r _ _ (Nat.le_refl _) (fun j h1 h2=>by omega) ?_|>.trans (List.take_length ..)).symm
 by_cases h0:Q0d m= []
 · exact .inl (by rw [hl,h0];rfl)
 · refine .inr fun e=> ?_
   have hc:cutD (Q0d m)≠ []:=by rw [y0k];exact h0
   have hp:=List.length_pos_iff.2 h0
   have hlast:(Q0d m).getD ((Q0d m).length-1) 0≠0:=by
    have hr:(cutD (Q0d m)).length=(Q0d m).length:=by rw [y0k]
    exact(q2y _ h0).1 hr
   rw [hl] at e
   obtain⟨k,hk⟩: ∃k,((Q0d m).length+1)/2=k+1:=⟨((Q0d m).length+1)/2-1,by omega⟩
   rw [hk,v1j] at e
   have e1:(pk (Q0d m) k++ [UInt64.ofNat (((Q0d m).getD (2*k) 0).toNat+4294967296*((Q0d m).getD (2*k+1) 0).toNat)]).getD (k+1-1) 0=UInt64.ofNat (((Q0d m).getD (2*k) 0).toNat+4294967296*((Q0d m).getD (2*k+1) 0).toNat):=by
    rw [List.getD_eq_getElem?_getD,List.getElem?_append_right (by rw [H0s];omega),H0s];simp
   rw [e1] at e
   have e2:=(Z1w _).1 e
   rw [v1i] at e2
   have:(Q0d m).length-1=2*k∨(Q0d m).length-1=2*k+1:=by omega
   rcases this with h | h
   · rw [h] at hlast;exact hlast ((v0n _).2 (by omega))
   · rw [h] at hlast;exact hlast ((v0n _).2 (by omega))
end Go.Pv
end
section
/-Tubes that are built piece by piece. No program in it. -/
namespace Go.Pv
theorem V0a {x:Nm} (h:Q0g x=true):wN x:=q0h (Q0u h)
theorem q1w {x:Ivl} (h:Q0h x=true):wI x:=⟨V0a (Q0n h).1,V0a (Q0n h).2.1⟩
def betw (a b:Nm):Ivl:=if 0<cmpR a b then⟨b,a⟩ else⟨a,b⟩
theorem V2y {a b:Nm} (ha:Q0g a=true) (hb:Q0g b=true):Q0h (betw a b)=true:=by
 have e:cmpR a b=cmpN a b:=if_pos ⟨ha,hb⟩
 unfold betw
 rw [e]
 split
 · exact V0y hb ha (by have:=V1d a b;simp only;omega)
 · exact V0y ha hb (by simp only;omega)
theorem J1o {a:Nm} (ha:Q0g a=true):Q0h ⟨a,a⟩=true:=V0y ha ha (by have:=x0j a;simp only;omega)
theorem q1h {α:Type} (a:List α) (x:α) (i:Nat) (d:α) (h:i<a.length):(a++ [x]).getD i d=a.getD i d:=by
 rw [List.getD_eq_getElem?_getD,List.getElem?_append_left h,←List.getD_eq_getElem?_getD]
theorem Z1b {α:Type} (a:List α) (x:α) (d:α):(a++ [x]).getD a.length d=x:=by
 rw [List.getD_eq_getElem?_getD,List.getElem?_append_right (Nat.le_refl _)];simp
def z4c (n:Nat) (a:List Sg) (at' q:Nat):Prop:=
 (∀i,i<a.length→x3h a i=true∧(a.getD i default).box.length=n)∧(a.length=0→at'=0∧q=0)∧
 (a.length≠0→(a.getD (a.length-1) default).to=at'∧(a.getD (a.length-1) default).t1=tq q∧(a.getD 0 default).fr=1∧(a.getD 0 default).t0=tq 0)∧
 at'≤5*a.length∧q≤64*a.length
end Go.Pv
end
section
/-A law whose calls leave objects behind;one argument that is a slice of words. -/
set_option maxRecDepth 100000
namespace Go.Pv
open Go Go.Proofs Go.ChangeShapes Go.WideShapes Go.ChangeAt Go.RowKit
theorem y1a {P:Program} {f:FuncId} {vs:Array Value} {ps:List PV} {w:World} (ht:TabOK w (allG w)) (h:PCalls P f ps [] (fun r st'=>r= .sc (.bool true))) (hr:Reps w (allG w) vs ps):
 Calls P f vs w (fun e w'=>e= .returned (.bool true)∧Below w.heap.size w w'):=by
 refine(h w (allG w) vs (J2h w ht) hr).mono ?_
 rintro e w' ⟨v,g',r,st,rfl,hx,hs,hrr,rfl⟩
 refine⟨?_,hx.os,hx.tape,hx.output,hx.size,fun k hk=>(hx.old k hk (fun i hi=>by simp [allG] at hi)).1⟩
 have:Rep w' g' v (.sc (.bool true)):=hrr
 rw [this.sc_inv]
theorem U2r :ownKnob Tryz.prog.godebug=none:=by kernel_rfl
theorem w1a :laidOutB Tryz.prog=true:=by kernel_rfl
end Go.Pv
end
section
/-Reading the arguments of a law,one by one. -/
set_option maxRecDepth 100000
namespace Go.Pv
open Go Go.Proofs Go.ChangeShapes Go.WideShapes Go.ChangeAt Go.RowKit Go.Proofs.YtagacielooaapaaGreatDoor.Rows
section
variable {P:Program} {t e:TypeId} {W:World} {base:Nat} {v:Value} {H:Type} {tok:TypeId×Value→H} {d:DataW H} {p:List MemPlace}
theorem G3o {α:Type} {enc:α→List PV} {ok:Nat→α→Prop} (hT:Ty P t 1 (fun l:α=> [.sl .no (enc l)]) ok) (hu:P.underlying t=some (.slice e)) (hv:Value.okWide P W .any base t v)
 (hd:DataW.Trod tok P W 0 (fun _=>true) true t v d p): ∃l,Rep W (allG W) v (.sl .no (enc l))∧ok (uptoBulk d) l:=by
 obtain⟨a,len,cap,rfl⟩:=okWide_slice hu hv
 obtain⟨fuel,hf⟩:=hd
 obtain⟨l,_,hrep,hok⟩:=hT.rd tok W fuel _ _ hf
 exact⟨l,hrep 0 (by omega),hok⟩
end
end Go.Pv
end
