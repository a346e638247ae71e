/- Parts of the walk: PvAb, PvAc, PvAd, M17, M18, M19, C1, C2, PvAe, PvAf. -/
import Derived.Test.YthichlfphjbadaaGreatZK
import Derived.Test.YthichlfphjbadaaGreatZE
import Derived.Test.YthichlfphjbadaaGreatZF
set_option linter.unusedVariables false
set_option linter.unusedSimpArgs false
section
/-A slice without room in a box's cell becomes one that may be appended to. -/
namespace Go.Pv
def PFS.claimBox (i j sz:Nat) (s:PFS):PFS:=
 match (s.L.getD i []).getD j .junk with
 | .sl .full []=>⟨s.pa,s.L.set i ((s.L.getD i []).set j (.sl (.own s.T.length) [])),s.T++ [(0,sz)],s.st⟩
 | _=>s
theorem Y1i {E:Ent} {s:PFS} (i j sz:Nat):Weak E s (s.claimBox i j sz):=by
 intro a w g F h
 unfold PFS.claimBox
 split
 · rename_i he
   have key: ∀es:List PV,es.length=0→(s.L.getD i []).getD j .junk= .sl .full es→ ∃g' F',FSRep E a w g' F' ⟨s.pa,s.L.set i ((s.L.getD i []).set j (.sl (.own s.T.length) es)),s.T++ [(es.length,sz)],s.st⟩:=by
    intro es hes he
    have hj:j<(s.L.getD i []).length:=by
     refine Nat.lt_of_not_le fun hn=> ?_
     rw [List.getD_eq_getElem?_getD,List.getElem?_eq_none hn] at he
     cases he
    have hne0:s.L.getD i []≠ []:=fun e=>by rw [e] at hj;simp at hj
    have hil:i<s.L.length:=by
     refine Nat.lt_of_not_le fun hn=>hne0 ?_
     rw [List.getD_eq_getElem?_getD,List.getElem?_eq_none hn];rfl
    have hbase: ∀v,RepF w g F s.T v (.sl .full es)→Rep w g v (.sl .full es):=fun v hv=>by cases hv with | base _ _ h=>exact h
    have hri: ∀v,Rep w g v (.sl .full es)→Right w g none sz v es:=fun v hv=>by
     cases hv with
     | nil t ad ht=>exact⟨.inr ⟨_,rfl⟩,rfl⟩
     | sl t es b off sz cap cf ht hf hcap hsz hvis hc hr=>exact⟨.inr ⟨_,by rw [hf rfl]⟩,hes⟩
    obtain⟨F',m1,m2,m3,m4,m5⟩:=h.mint es.length sz none (fun b hb=>by cases hb)
    have hlast:(s.T++ [(es.length,sz)]).getD s.T.length (0,0)=(es.length,sz):=by simp [List.getD_eq_getElem?_getD]
    have hown: ∀v,Rep w g v (.sl .full es)→RepF w g F' (s.T++ [(es.length,sz)]) v (.sl (.own s.T.length) es):=fun v hv=>by
     refine .own _ _ _ hv.toNo (by simp) (by rw [hlast];exact Nat.le_refl _) fun _=> ?_
     rw [hlast,m2]
     exact hri _ hv
    have hne: ∀k,(s.L.set i ((s.L.getD i []).set j (.sl (.own s.T.length) es))).getD k []≠ []→s.L.getD k []≠ []:=fun k hk=>by
     by_cases e:i=k
     · subst e;exact hne0
     · rwa [Q0i _ _ _ _ _ e] at hk
    refine⟨g,F',m1.ext,m1.store,⟨by simpa using m1.frame.nl,fun k hk=>m1.frame.lo k (hne k hk),fun k hk=>m1.frame.apart k (hne k hk),fun k j hk hj=>m1.frame.inj k j (hne k hk) (hne j hj),fun k hk=> ?_,m1.frame.tlo,fun k b h1 h2=>⟨(m1.frame.tapart k b h1 h2).1,fun j hj=>(m1.frame.tapart k b h1 h2).2 j (hne j hj)⟩,m1.frame.tinj⟩,m1.defers,m1.len,m1.tmps⟩
    have hh:=m1.frame.holds k (hne k hk)
    by_cases e:i=k
    · subst e
      rw [Q0n _ _ _ _ hil]
      intro q hq
      have hq':q<(s.L.getD i []).length:=by simpa using hq
      obtain⟨q1,c,q2,q3⟩:=hh q hq'
      refine⟨q1,c,q2,?_⟩
      by_cases ej:j=q
      · subst ej
        rw [Q0n _ _ _ _ hj]
        refine hown _ ?_
        have q3':RepF w g F' (s.T++ [(es.length,sz)]) c (.sl .full es):=by
         have:(s.L.getD i []).getD j .junk= .sl .full es:=he
         rw [←this];exact q3
        cases q3' with | base _ _ h=>exact h
      · rw [Q0i _ _ _ _ _ ej];exact q3
    · rw [Q0i _ _ _ _ _ e];exact hh
   exact key [] rfl he
 · exact⟨g,F,h⟩
theorem q0u {P:Program} {E:Ent} {c:Code} {Q:Exit→PFS→Prop} {s:PFS} (i j sz:Nat) (h:PWP P E c Q (s.claimBox i j sz)):PWP P E c Q s:=J0v (Y1i i j sz) h
def clmB (p:PV) (i j sz:Nat) (pa:List PV) (L:Q0g) (T:List (Nat×Nat)) (st:Q0g):PFS:=
 match p with
 | .sl .full []=>⟨pa,L.set i ((L.getD i []).set j (.sl (.own T.length) [])),T++ [(0,sz)],st⟩
 | _=>⟨pa,L,T,st⟩
@[go_sem] theorem K3l {i j sz:Nat} {pa:List PV} {L st:Q0g} {T:List (Nat×Nat)} :(PFS.mk pa L T st).claimBox i j sz=clmB ((L.getD i []).getD j .junk) i j sz pa L T st:=by
 unfold PFS.claimBox clmB
 rfl
@[go_sem] theorem q3u {i j sz:Nat} {pa:List PV} {L st:Q0g} {T:List (Nat×Nat)} :clmB (.sl .full []) i j sz pa L T st=⟨pa,L.set i ((L.getD i []).set j (.sl (.own T.length) [])),T++ [(0,sz)],st⟩:=(rfl)
theorem Z3i {P:Program} {E:Ent} {x y:Code} {Q:Exit→PFS→Prop} {s:PFS} (R:PFS→Prop) (h1:PWP P E x (z0h R Q) s) (h2: ∀s,R s→PWP P E y Q s):PWP P E (.seq x y) Q s:=
 Q0h (Q1n h1 fun e s hq=>by
  cases e with
  | normal=>exact h2 s hq
  | _=>exact hq)
theorem Z0y {P:Program} {E:Ent} {x y:Code} {Q:Exit→PFS→Prop} {s:PFS} (bs:List Bool) (nL nT:Nat) (R:PFS→Prop)
 (h1:VC P E x (z0h (fun s=>s.maskOK bs nL nT∧R (s.mask bs nL nT)) Q) s) (h2: ∀s,R s→PWP P E y Q s):PWP P E (.seq x y) Q s:=
 Z3i _ (Q0a h1) fun s h=>J0v (Z1b h.1) (h2 _ h.2)
end Go.Pv
end
section
/-Strings made of bytes. -/
namespace Go.Pv
theorem J2b (bs:ByteArray): ∀(n i:Nat) (r:List UInt8),bs.size-i=n→ByteArray.toList.loop bs i r=r.reverse++bs.data.toList.drop i:=by
 intro n
 induction n with
 | zero=>
  intro i r h
  have hs:bs.data.toList.length=bs.size:=rfl
  rw [ByteArray.toList.loop,if_neg (by omega),List.drop_eq_nil_of_le (by omega),List.append_nil]
 | succ n ih=>
  intro i r h
  have hs:bs.data.toList.length=bs.size:=rfl
  have hi:i<bs.data.toList.length:=by omega
  have hg:bs.get! i=bs.data.toList[i]:=by
   have h3:i<bs.data.size:=by simpa using hi
   show bs.data[i]! =_
   simp [getElem!_pos bs.data i h3]
  rw [ByteArray.toList.loop,if_pos (by omega),ih (i+1) _ (by omega),List.drop_eq_getElem_cons hi,hg]
  simp
@[go_sem] theorem y2e (l:List UInt8):(ByteArray.mk l.toArray).toList=l:=by
 rw [ByteArray.toList,J2b _ _ 0 [] rfl];simp
@[go_sem] theorem q1i : ∀l:List UInt8,q0v (encB l)=some l
 | []=>rfl
 | c::l=>by
  have h:=q1i l
  show(match q0v (encB l) with | some l=>some (UInt8.ofNat (c.toNat:Int).toNat::l) | none=>none)=_
  rw [h];simp
end Go.Pv
end
section
/-What a call hands back fresh may be written:an object of the store. Objects that are written no more. Tokens by another number. -/
namespace Go.Pv
inductive NoG :PV→Prop
 | junk:NoG .junk
 | sc (v:Value):NoG (.sc v)
 | agg (cs:List PV) (h: ∀j,j<cs.length→NoG (cs.getD j .junk)):NoG (.agg cs)
 | sl (t:Tag) (es:List PV) (h: ∀i j,i<es.length→j<(es.getD i .junk).cells.length→NoG ((es.getD i .junk).cells.getD j .junk)):NoG (.sl t es)
def frzS (p:PV) (k:Nat) (cs:List PV):PV:=
 match p with
 | .ms true k' off len=>if k'=k∧off+len≤cs.length then .sl .no ((cs.drop off).take len) else .junk
 | _=> .junk
def PFS.freezeG (k t:Nat) (s:PFS):PFS:=⟨s.pa.set t (frzS (s.pa.getD t .junk) k (s.st.getD k [])),s.L,s.T,s.st.set k []⟩
@[go_sem] theorem V3q {k t:Nat} {pa:List PV} {L st:Q0g} {T:List (Nat×Nat)} :(PFS.mk pa L T st).freezeG k t=⟨pa.set t (frzS (pa.getD t .junk) k (st.getD k [])),L,T,st.set k []⟩:=(rfl)
@[go_sem] theorem Q4v {k k' off len:Nat} {cs:List PV} :frzS (.ms true k' off len) k cs=if k'=k∧off+len≤cs.length then .sl .no ((cs.drop off).take len) else .junk:=(rfl)
@[go_sem] theorem y3h {d:Option Tmp} {gl:Bool} {i o n:Nat} {pa:List PV} {L st st':Q0g} {T:List (Nat×Nat)} :(PFS.mk pa L T st).recv d (.ms gl i o n) st'=(PFS.mk pa L T st').put d (.ms gl i o n):=(rfl)
def rtok :PV→PV
 | .sl (.own _) es=> .sl (.own 0) es
 | _=> .junk
def ktok :PV→Nat
 | .sl (.own k) _=>k
 | _=>0
def PFS.retok (bs:List Bool) (nL t:Nat) (s:PFS):PFS:=⟨(U0d bs (s.pa.set t .junk)).set t (rtok (s.pa.getD t .junk)),s.L.take nL,[s.T.getD (ktok (s.pa.getD t .junk)) (0,0)],s.st⟩
def PFS.retokOK (bs:List Bool) (nL t:Nat) (s:PFS):Prop:=(U0d bs (s.pa.set t .junk)).all (PV.lim nL 0)=true∧(s.L.take nL).all (fun o=>o.all (PV.lim nL 0))=true
@[go_sem] theorem z3w {bs:List Bool} {nL t:Nat} {pa:List PV} {L st:Q0g} {T:List (Nat×Nat)} :(PFS.mk pa L T st).retok bs nL t=⟨(U0d bs (pa.set t .junk)).set t (rtok (pa.getD t .junk)),L.take nL,[T.getD (ktok (pa.getD t .junk)) (0,0)],st⟩:=(rfl)
@[go_sem] theorem V3h {bs:List Bool} {nL t:Nat} {pa:List PV} {L st:Q0g} {T:List (Nat×Nat)} :(PFS.mk pa L T st).retokOK bs nL t=((U0d bs (pa.set t .junk)).all (PV.lim nL 0)=true∧(L.take nL).all (fun o=>o.all (PV.lim nL 0))=true):=(rfl)
@[go_sem] theorem z3v {k:Nat} {es:List PV} :rtok (.sl (.own k) es)= .sl (.own 0) es:=(rfl)
@[go_sem] theorem x3k {k:Nat} {es:List PV} :ktok (.sl (.own k) es)=k:=(rfl)
end Go.Pv
end
section
/-Numbers,intervals,boxes as bytes. No program in it. -/
namespace Go.Pv
def zig (i:Int):Nat:=if 0≤i then 2*i.toNat else 2*(-(i+1)).toNat+1
theorem Q1y {i:Int} (h1: -9223372036854775808≤i) (h2:i≤9223372036854775807):zig i<18446744073709551616:=by
 unfold zig;split<;>omega
def U0a (w:Nat) (n:Nat):List UInt8:=(List.range n).map fun i=>UInt8.ofNat (w/2^(8*i))
def Z0w (l:List UInt64):List UInt8:=l.flatMap fun w=>U0a w.toNat 8
def J0c (x:Nm):Nat:=2*x.w.length+(if x.neg then 1 else 0)
def numB (x:Nm):List UInt8:=if Q0f x=true then uvar (J0c x)++(if x.w= [] then [] else uvar (zig x.exp)++Z0w x.w) else []
def ivB (a:Ivl):List UInt8:=if Q0l a=true then numB a.lo++numB a.hi else []
def boxB (l:List Ivl):List UInt8:=if rightB l=true then uvar l.length++l.flatMap ivB else []
theorem v1j (x:Nat) (h:x<18446744073709551616):x^^^18446744073709551615=18446744073709551615-x:=by
 have e1:(BitVec.ofNat 64 x^^^BitVec.allOnes 64).toNat=x^^^18446744073709551615:=by
  rw [BitVec.toNat_xor,BitVec.toNat_ofNat,Nat.mod_eq_of_lt (by omega:x<2^64)];rfl
 have e2:(BitVec.ofNat 64 x^^^BitVec.allOnes 64).toNat=18446744073709551615-x:=by
  rw [BitVec.xor_allOnes,BitVec.toNat_not,BitVec.toNat_ofNat,Nat.mod_eq_of_lt (by omega:x<2^64)]
 rw [←e1,e2]
theorem G1v {v:Int} (h1: -18446744073709551616≤v) (h2:v<0):IntKind.u64.wrap v=((v+18446744073709551616).toNat:Int):=by
 simp [IntKind.wrap,IntKind.bits,IntKind.signed]
 omega
theorem x2z {v:Int} (h1: -9223372036854775808≤v) (h2:v≤9223372036854775807):
 bXor .u64 (bShl .u64 (IntKind.u64.wrap v) 1) (IntKind.u64.wrap (bShr .i64 v 63))=(zig v:Int):=by
 have hs:bShr .i64 v 63=if 0≤v then 0 else -1:=by
  unfold bShr
  show v.fdiv (2^min (63:Int).toNat 64)=_
  have e:((2:Int)^min (63:Int).toNat 64)=9223372036854775808:=by decide
  rw [e,Int.fdiv_eq_ediv_of_nonneg _ (by decide)]
  split<;>omega
 rw [hs]
 by_cases h:0≤v
 · obtain⟨n,rfl⟩: ∃n:Nat,v=n:=⟨v.toNat,by omega⟩
   rw [if_pos h,Z0c n (by omega),show(1:Int)=((1:Nat):Int) from rfl,W0f n 1 (by omega),show IntKind.u64.wrap 0=((0:Nat):Int) from rfl,y1z _ _ (Nat.mod_lt _ (by decide)) (by omega)]
   unfold zig
   rw [if_pos h,Nat.xor_zero]
   omega
 · rw [if_neg h,G1v (by omega) (by omega),show(1:Int)=((1:Nat):Int) from rfl,W0f _ 1 (by omega),show IntKind.u64.wrap (-((1:Nat):Int))=((18446744073709551615:Nat):Int) from rfl,
    y1z _ _ (Nat.mod_lt _ (by decide)) (by decide),v1j _ (Nat.mod_lt _ (by decide))]
   unfold zig
   rw [if_neg h]
   omega
theorem Y2p {v:Int} (h1: -9223372036854775808≤v) (h2:v<0):
 bOr .u64 (bShl .u64 (IntKind.u64.wrap (IntKind.i64.wrap (0-IntKind.i64.wrap (v+1)))) 1) 1=(zig v:Int):=by
 have e1:IntKind.i64.wrap (v+1)=v+1:=Q0p _ (by omega) (by omega)
 have e2:IntKind.i64.wrap (0-(v+1))=(((-(v+1)).toNat:Nat):Int):=by rw [Q0p _ (by omega) (by omega)];omega
 rw [e1,e2,Z0c _ (by omega),show(1:Int)=((1:Nat):Int) from rfl,W0f _ 1 (by omega),k0d _ _ (Nat.mod_lt _ (by decide)) (by omega),Nat.or_comm,y0w _ _ 1 (by omega) (by omega)]
 unfold zig
 rw [if_neg (by omega)]
 omega
theorem z0q (w n:Nat):U0a w (n+1)=U0a w n++ [UInt8.ofNat (w/2^(8*n))]:=by simp [U0a,List.range_succ]
theorem X0c (w n:Nat):(U0a w n).length=n:=by simp [U0a]
theorem H0l (l:List UInt64) (i:Nat) (h:i<l.length):Z0w (l.take (i+1))=Z0w (l.take i)++U0a (l.getD i 0).toNat 8:=by
 rw [Y0d l i 0 h];simp [Z0w]
theorem K0u (l:List UInt64):(Z0w l).length=8*l.length:=by
 unfold Z0w
 induction l with
 | nil=>rfl
 | cons x l ih=>rw [List.flatMap_cons,List.length_append,ih,X0c,List.length_cons];omega
theorem Z0l {v:Nat} (h:v<18446744073709551616):(uvar v).length≤10:=Z1e 9 v (by omega)
end Go.Pv
end
section
/-What is read of bytes. No program in it. -/
namespace Go.Pv
def K0i :Nat→Nat→List UInt8→Nat×Nat×Int
 | i,v,[]=>(0,0,if 10≤i then 11 else 10)
 | i,v,c::l=>if 10≤i then(0,0,11) else if 128≤c.toNat then K0i (i+1) (v+c.toNat % 128*2^(7*i)) l
  else if (c.toNat=0∧0<i)∨(i=9∧1<c.toNat) then(0,0,11) else(v+c.toNat*2^(7*i),i+1,0)
def Q0s (l:List UInt8) (e:Int):Nat×List UInt8×Int:=if e≠0 then(0,l,e) else if (K0i 0 0 l).2.2=0 then((K0i 0 0 l).1,l.drop (K0i 0 0 l).2.1,0) else(0,l,(K0i 0 0 l).2.2)
theorem X2u {α:Type} (l:List α) (i:Nat) (d:α) (h:i<l.length):l.drop i=l.getD i d::l.drop (i+1):=by
 rw [List.drop_eq_getElem_cons h,List.getD_eq_getElem?_getD,List.getElem?_eq_getElem h];rfl
theorem U1t (i v:Nat) (l:List UInt8) (h:10≤i):(K0i i v l)=(0,0,11):=by
 cases l with
 | nil=>rw [K0i,if_pos h]
 | cons c l=>rw [K0i,if_pos h]
def H1a (v:Nat):Int:=if v % 2=0 then((v/2:Nat):Int) else -((v/2:Nat):Int)-1
theorem J2u (i:Int):H1a (zig i)=i:=by
 unfold H1a zig
 split<;>split<;>omega
theorem J2k (v:Nat):zig (H1a v)=v:=by
 unfold H1a zig
 split<;>split<;>omega
end Go.Pv
end
section
/-What is read is a word;the sign of what is read. No program in it. -/
namespace Go.Pv
theorem y1h : ∀(l:List UInt8) (i v:Nat),i≤9→v<2^(7*i)→(K0i i v l).1<18446744073709551616
 | [],i,v,_,_=>by rw [K0i];simp
 | c::l,i,v,hi,hv=>by
  have hc:=c.toNat_lt
  have hp:2^(7*(i+1))=128*2^(7*i):=by rw [show 7*(i+1)=7*i+7 from by omega,Nat.pow_add,Nat.mul_comm]
  have hm: ∀d,d≤127→d*2^(7*i)≤127*2^(7*i):=fun d h=>Nat.mul_le_mul_right _ h
  rw [K0i,if_neg (by omega)]
  split
  · by_cases h9:i=9
    · rw [U1t _ _ _ (by omega)];simp
    · refine y1h l (i+1) _ (by omega) ?_
      have:=hm (c.toNat % 128) (by omega)
      omega
  · split
    · simp
    · rename_i h1 h2
      simp only
      by_cases h9:i=9
      · have h3:c.toNat≤1:=by omega
        subst h9
        have:c.toNat*2^(7*9)≤1*2^(7*9):=Nat.mul_le_mul_right _ h3
        omega
      · have h4:2^(7*(i+1))≤2^63:=Nat.pow_le_pow_right (by decide) (by omega)
        have:=hm c.toNat (by omega)
        omega
theorem H0m (l:List UInt8) (e:Int):(Q0s l e).1<18446744073709551616:=by
 unfold Q0s
 split
 · simp
 · split
   · exact y1h l 0 0 (by omega) (by omega)
   · simp
theorem Y0h (l:List UInt8) (e:Int):(Q0s l e).2.1.length≤l.length:=by
 unfold Q0s
 split
 · exact Nat.le_refl _
 · split
   · simp
   · exact Nat.le_refl _
theorem J2e (x:Nat) (h:x<9223372036854775808):bXor .i64 (x:Int) 0=(x:Int):=by
 unfold bXor
 have e:(BitVec.ofInt IntKind.i64.bits (x:Int)^^^BitVec.ofInt IntKind.i64.bits 0).toNat=x:=by
  have e1:BitVec.ofInt IntKind.i64.bits (x:Int)=BitVec.ofNat 64 x:=by simp [IntKind.bits]
  have e2:BitVec.ofInt IntKind.i64.bits 0=BitVec.ofNat 64 0:=by simp [IntKind.bits]
  rw [e1,e2]
  show(BitVec.ofNat 64 x^^^BitVec.ofNat 64 0).toNat=x
  rw [BitVec.toNat_xor,BitVec.toNat_ofNat,BitVec.toNat_ofNat,Nat.mod_eq_of_lt (by omega:x<2^64)];simp
 rw [e]
 exact Q0k _ h
theorem v1e (x:Nat) (h:x<9223372036854775808):bXor .i64 (x:Int) (-1)= -(x:Int)-1:=by
 unfold bXor
 have e:(BitVec.ofInt IntKind.i64.bits (x:Int)^^^BitVec.ofInt IntKind.i64.bits (-1)).toNat=18446744073709551615-x:=by
  have e1:BitVec.ofInt IntKind.i64.bits (x:Int)=BitVec.ofNat 64 x:=by simp [IntKind.bits]
  have e2:BitVec.ofInt IntKind.i64.bits (-1)=BitVec.ofNat 64 18446744073709551615:=rfl
  rw [e1,e2]
  show(BitVec.ofNat 64 x^^^BitVec.ofNat 64 18446744073709551615).toNat=_
  rw [BitVec.toNat_xor,BitVec.toNat_ofNat,BitVec.toNat_ofNat,Nat.mod_eq_of_lt (by omega:x<2^64),Nat.mod_eq_of_lt (by decide:18446744073709551615<2^64),v1j x (by omega)]
 rw [e]
 simp [IntKind.wrap,IntKind.bits,IntKind.signed]
 omega
theorem j2a (v:Nat) (h:v<18446744073709551616):
 bXor .i64 (IntKind.i64.wrap (bShr .u64 (v:Int) 1)) (IntKind.i64.wrap (0-IntKind.i64.wrap (bAnd .u64 (v:Int) 1)))=H1a v:=by
 have e1:bShr .u64 (v:Int) 1=((v/2:Nat):Int):=V0e v 1 (by omega)
 have e2:bAnd .u64 (v:Int) 1=((v % 2:Nat):Int):=by
  rw [show(1:Int)=((1:Nat):Int) from rfl,W0g _ _ h (by omega),show v&&&1=v % 2 from Nat.and_two_pow_sub_one_eq_mod v 1]
 rw [e1,e2,Q0k _ (by omega),Q0k _ (by omega)]
 unfold H1a
 by_cases hv:v % 2=0
 · rw [if_pos hv,hv,show IntKind.i64.wrap (0-((0:Nat):Int))=0 from rfl,J2e _ (by omega)]
 · rw [if_neg hv,show v % 2=1 from by omega,show IntKind.i64.wrap (0-((1:Nat):Int))= -1 from rfl,v1e _ (by omega)]
end Go.Pv
end
section
/-code.Int;the document's Uint,Int. -/
set_option maxRecDepth 100000
namespace Go.Pv
open Go.Proofs
theorem y2c (l:List UInt8) (v:Int) (st:Q0g) (hl:l.length≤100000000000000) (h1: -9223372036854775808≤v) (h2:v≤9223372036854775807):PCalls Tryz.prog 83 [.sl .no (encB l),.sc (.int .i64 v)] st (fun r st'=>r= .sl (.fresh 1) (encB (l++uvar (zig v)))∧st'=st):=by
 refine Q0b (some 1) Tryz.func83 rfl fun E=>Q0a ?_
 have hz:=Q1y h1 h2
 simp -dsimp only [go_sem,x2z h1 h2]
 refine(y0l l (zig v) st (by omega) hz).mono ?_
 rintro r st ⟨rfl,rfl⟩
 simp -dsimp only [go_sem]
theorem j0o (l:List UInt8) (v:Nat) (st:Q0g) (hl:l.length≤100000000000300) (hv:v<18446744073709551616):PCalls Tryz.prog 42 [.sl .no (encB l),.sc (.int .u64 v)] st (fun r st'=>r= .sl (.fresh 1) (encB (l++uvar v))∧st'=st):=by
 refine Q0b (some 1) Tryz.func42 rfl fun E=>Q0a ?_
 simp -dsimp only [go_sem]
 refine⟨by omega,?_⟩
 have h10:(uvar v).length≤10:=Z0l hv
 refine Q0e [false,true,false,false,false,true] 0 1 (fun n s=> ∃l',n<18446744073709551616∧l'++uvar n=l++uvar v∧s=⟨[.junk,.sc (.int .u64 n),.junk,.junk,.junk,.sl (.own 0) (encB l')]++List.replicate 19 .junk,[],[(l'.length,1)],st⟩) v ?_ ?_
 · simp -dsimp only [go_sem]
   exact⟨l,hv,rfl,rfl⟩
 · rintro n s ⟨l',hv',hlv,rfl⟩
   have hlen:l'.length≤l.length+10:=by have:=congrArg List.length hlv;simp at this;omega
   simp -dsimp only [go_sem]
   refine ck (fun h=> ?_) (fun h=> ?_)
   · have hn:128≤n:=by have:=of_decide_eq_true h;omega
     have e1:bShr .u64 (n:Int) 7=((n/128:Nat):Int):=U0h .u64 n 7 (by decide)
     have e2:bOr .u8 (IntKind.u8.wrap (bAnd .u64 (n:Int) 127)) 128=((UInt8.ofNat (n % 128+128)).toNat:Int):=by
      rw [show(127:Int)=((127:Nat):Int) from rfl,W0g _ _ (by omega) (by omega),show n&&&127=n % 128 from Nat.and_two_pow_sub_one_eq_mod n 7,H0k,Y1f _ (by omega)];simp;omega
     simp -dsimp only [go_sem,e1,e2]
     exact⟨by omega,n/128,by omega,l'++ [UInt8.ofNat (n % 128+128)],by omega,by rw [←hlv,k0k hn];simp,by simp⟩
   · have hn:n<128:=by have:=of_decide_eq_false h;omega
     have e2:IntKind.u8.wrap (n:Int)=((UInt8.ofNat n).toNat:Int):=by rw [H0k];simp
     simp -dsimp only [go_sem]
     refine Q0a ?_
     simp -dsimp only [go_sem,e2]
     refine⟨by omega,?_⟩
     rw [←hlv,K0b hn]
theorem v2r (l:List UInt8) (v:Int) (st:Q0g) (hl:l.length≤100000000000000) (h1: -9223372036854775808≤v) (h2:v≤9223372036854775807):PCalls Tryz.prog 85 [.sl .no (encB l),.sc (.int .i64 v)] st (fun r st'=>r= .sl (.fresh 1) (encB (l++uvar (zig v)))∧st'=st):=by
 refine Q0b (some 1) Tryz.func85 rfl fun E=>Q0a ?_
 have hz:=Q1y h1 h2
 simp -dsimp only [go_sem]
 refine ck (fun h=> ?_) (fun h=> ?_)
 · have h0:=of_decide_eq_true h
   have e:bShl .u64 (IntKind.u64.wrap v) 1=(zig v:Int):=by
    obtain⟨n,rfl⟩: ∃n:Nat,v=n:=⟨v.toNat,by omega⟩
    rw [Z0c n (by omega),show(1:Int)=((1:Nat):Int) from rfl,W0f n 1 (by omega)]
    unfold zig
    rw [if_pos (by omega)];omega
   simp -dsimp only [go_sem,e]
   refine(j0o l (zig v) st (by omega) hz).mono ?_
   rintro r st ⟨rfl,rfl⟩
   simp -dsimp only [go_sem]
 · have h0:=of_decide_eq_false h
   have e:=Y2p h1 (by omega)
   simp -dsimp only [go_sem,e]
   refine(j0o l (zig v) st (by omega) hz).mono ?_
   rintro r st ⟨rfl,rfl⟩
   simp -dsimp only [go_sem]
end Go.Pv
end
section
/-code.Num,the document's Num. -/
set_option maxRecDepth 100000
namespace Go.Pv
open Go.Proofs
theorem w0i {x:Nm} (h:Q0f x=true): -65536≤x.exp∧x.exp≤65536∧x.w.length≤64:=by
 unfold Q0f at h
 split at h
 · rename_i hw
   simp at h
   rw [hw];simp;omega
 · simp only [Bool.and_eq_true,decide_eq_true_eq] at h
   omega
set_option maxHeartbeats 1000000 in
theorem J1x (l:List UInt8) (x:Nm) (st:Q0g) (hl:l.length≤10000000000000) (hw:wN x):PCalls Tryz.prog 39 [.sl .no (encB l),.agg (encN x)] st (fun r st'=>r= .sl (.fresh 1) (encB (l++numB x))∧st'=st):=by
 unfold wN at hw
 refine Q0b (some 1) Tryz.func39 rfl fun E=>Q0a ?_
 simp -dsimp only [go_sem]
 refine(X0x x st (by omega)).mono ?_
 rintro r st ⟨rfl,rfl⟩
 simp -dsimp only [go_sem]
 refine ck (fun h=> ?_) (fun h=> ?_)
 · have hr:Q0f x=false:=by simpa using h
   simp -dsimp only [go_sem]
   refine(J1t l st (by omega)).mono ?_
   rintro r st ⟨rfl,rfl⟩
   simp -dsimp only [go_sem]
   rw [numB,if_neg (by simp [hr]),List.append_nil]
 · have hr:Q0f x=true:=by simpa using h
   obtain⟨r1,r2,r3⟩:=w0i hr
   have hhead:J0c x<18446744073709551616:=by unfold J0c;split<;>omega
   have s1:bShl .u64 (IntKind.u64.wrap (x.w.length:Int)) 1=((2*x.w.length:Nat):Int):=by
    rw [Z0c _ (by omega),show(1:Int)=((1:Nat):Int) from rfl,W0f _ 1 (by omega)];omega
   have s2:bOr .u64 ((2*x.w.length:Nat):Int) 1=((2*x.w.length+1:Nat):Int):=by
    rw [show(1:Int)=((1:Nat):Int) from rfl,k0d _ _ (by omega) (by omega),Nat.or_comm,y0w _ _ 1 (by omega) (by omega)]
    congr 1;omega
   simp -dsimp only [go_sem,s1]
   have h10:=Z0l hhead
   have hz:=Q1y (i:=x.exp) (by omega) (by omega)
   have h11:=Z0l hz
   refine ck (fun hn=> ?_) (fun hn=> ?_)
   · have hd:2*x.w.length+1=J0c x:=by unfold J0c;rw [hn];rfl
     simp -dsimp only [go_sem,s2,hd]
     refine(y0l l (J0c x) st (by omega) hhead).mono ?_
     rintro r st ⟨rfl,rfl⟩
     simp -dsimp only [go_sem]
     refine ck (fun h0=> ?_) (fun h0=> ?_)
     · have hw0:x.w= []:=List.length_eq_zero_iff.1 (Y0z (b:=0) h0)
       simp -dsimp only [go_sem]
       rw [numB,if_pos hr,if_pos hw0,List.append_nil]
     · have hw0:x.w≠ []:=fun e=>G0f (b:=0) h0 (by rw [e];rfl)
       simp -dsimp only [go_sem]
       refine(y2c (l++uvar (J0c x)) x.exp st (by simp;omega) (by omega) (by omega)).mono ?_
       rintro r st ⟨rfl,rfl⟩
       simp -dsimp only [go_sem]
       obtain⟨T0,hT0⟩: ∃n,n=l.length+(uvar (J0c x)).length:=⟨_,rfl⟩
       obtain⟨base,hbase⟩: ∃b,b=l++uvar (J0c x)++uvar (zig x.exp):=⟨_,rfl⟩
       have hbl:base.length≤l.length+20:=by rw [hbase];simp;omega
       have hb2:base.length=l.length+(uvar (J0c x)).length+(uvar (zig x.exp)).length:=by rw [hbase];simp;omega
       simp only [←hbase]
       have hnum:l++numB x=base++Z0w x.w:=by rw [numB,if_pos hr,if_neg hw0,hbase];simp
       refine Q0e [false,false,false,false,false,false,true,false,false,false,false,false,false,false,false,false,false,false,false,false,false,false,false,false,false,false,false,false,false,false,false,false,false,false,false,false,false,true,true,true] 0 2
        (fun n s=> ∃i,n=x.w.length-i∧i≤x.w.length∧s=⟨List.replicate 6 .junk++([.sl (.own 1) (encB (base++Z0w (x.w.take i)))]++(List.replicate 30 .junk++([.sl .no (encW x.w),.sc (.int .i64 x.w.length),.sc (.int .i64 (i:Nat))]++List.replicate 17 .junk))),[],[(T0,1),((base++Z0w (x.w.take i)).length,1)],st⟩) x.w.length ?_ ?_
       · simp -dsimp only [go_sem]
         refine⟨0,by omega,by omega,?_⟩
         simp [Z0w,hT0,hb2]
       · rintro n s ⟨i,rfl,hi,rfl⟩
         have hwl:=K0u (x.w.take i)
         rw [List.length_take,Nat.min_eq_left hi] at hwl
         simp -dsimp only [go_sem]
         refine ck (fun h1=> ?_) (fun h1=> ?_)
         · have hlt:i<x.w.length:=by have:=of_decide_eq_true h1;omega
           have g1:=X0t x.w i hlt
           obtain⟨w,hwe⟩: ∃w,w=(x.w.getD i 0).toNat:=⟨_,rfl⟩
           rw [←hwe] at g1
           have hwlt:w<18446744073709551616:=by rw [hwe];exact(x.w.getD i 0).toNat_lt
           have x1:IntKind.i64.wrap ((i:Int)+1)=((i+1:Nat):Int):=by rw [show((i:Int)+1)=((i+1:Nat):Int) from rfl,Q0k _ (by omega)]
           simp -dsimp only [go_sem,g1]
           refine⟨⟨by omega,hlt⟩,?_⟩
           obtain⟨b2,hb3⟩: ∃b2,b2=base++Z0w (x.w.take i):=⟨_,rfl⟩
           have hb4:b2.length=base.length+(Z0w (x.w.take i)).length:=by rw [hb3];simp
           simp only [←hb3,←hb4]
           refine Q0e [false,false,false,false,false,false,true,false,true,false,false,false,false,false,false,false,false,false,false,false,false,false,false,false,false,false,false,false,false,false,false,false,false,false,false,false,false,true,true,true,false,false,false,true] 0 2
            (fun n s=> ∃k,n=8-k∧k≤8∧s=⟨List.replicate 6 .junk++([.sl (.own 1) (encB (b2++U0a w k)),.junk,.sc (.int .u64 (w:Nat))]++(List.replicate 28 .junk++([.sl .no (encW x.w),.sc (.int .i64 x.w.length),.sc (.int .i64 (i:Nat)),.junk,.junk,.junk,.sc (.int .i64 (k:Nat))]++List.replicate 13 .junk))),[],[(T0,1),((b2++U0a w k).length,1)],st⟩) 8 ?_ ?_
           · simp -dsimp only [go_sem]
             refine⟨0,by omega,by omega,?_⟩
             simp [U0a]
           · rintro n s ⟨k,rfl,hk,rfl⟩
             have hkl:=X0c w k
             simp -dsimp only [go_sem]
             refine ck (fun h2=> ?_) (fun h2=> ?_)
             · have hk8:k<8:=by have:=of_decide_eq_true h2;omega
               have m1:IntKind.i64.wrap (8*(k:Int))=((8*k:Nat):Int):=by rw [show 8*(k:Int)=((8*k:Nat):Int) from by omega,Q0k _ (by omega)]
               have m2:IntKind.u8.wrap (bShr .u64 (w:Int) ((8*k:Nat):Int))=((UInt8.ofNat (w/2^(8*k))).toNat:Int):=by
                rw [V0e _ _ (by omega),H0k];simp
               have x2:IntKind.i64.wrap ((k:Int)+1)=((k+1:Nat):Int):=by rw [show((k:Int)+1)=((k+1:Nat):Int) from rfl,Q0k _ (by omega)]
               simp -dsimp only [go_sem,m1,m2,x2]
               exact⟨by omega,by omega,8-(k+1),by omega,k+1,rfl,by omega,by rw [z0q,←List.append_assoc];simp [Nat.add_assoc]⟩
             · have hk8:k=8:=by have:=of_decide_eq_false h2;omega
               simp -dsimp only [go_sem]
               refine Q0a ?_
               simp -dsimp only [go_sem,x1]
               refine⟨x.w.length-(i+1),by omega,i+1,rfl,by omega,?_⟩
               rw [hk8,H0l x.w i hlt,←hwe,hb3]
               simp [Nat.add_assoc]
         · have hge:i=x.w.length:=by have:=of_decide_eq_false h1;omega
           simp -dsimp only [go_sem]
           refine Q0a ?_
           simp -dsimp only [go_sem]
           rw [hnum,hge,List.take_length]
   · have hd:2*x.w.length=J0c x:=by unfold J0c;rw [hn];rfl
     simp -dsimp only [go_sem,hd]
     refine(y0l l (J0c x) st (by omega) hhead).mono ?_
     rintro r st ⟨rfl,rfl⟩
     simp -dsimp only [go_sem]
     refine ck (fun h0=> ?_) (fun h0=> ?_)
     · have hw0:x.w= []:=List.length_eq_zero_iff.1 (Y0z (b:=0) h0)
       simp -dsimp only [go_sem]
       rw [numB,if_pos hr,if_pos hw0,List.append_nil]
     · have hw0:x.w≠ []:=fun e=>G0f (b:=0) h0 (by rw [e];rfl)
       simp -dsimp only [go_sem]
       refine(y2c (l++uvar (J0c x)) x.exp st (by simp;omega) (by omega) (by omega)).mono ?_
       rintro r st ⟨rfl,rfl⟩
       simp -dsimp only [go_sem]
       obtain⟨T0,hT0⟩: ∃n,n=l.length+(uvar (J0c x)).length:=⟨_,rfl⟩
       obtain⟨base,hbase⟩: ∃b,b=l++uvar (J0c x)++uvar (zig x.exp):=⟨_,rfl⟩
       have hbl:base.length≤l.length+20:=by rw [hbase];simp;omega
       have hb2:base.length=l.length+(uvar (J0c x)).length+(uvar (zig x.exp)).length:=by rw [hbase];simp;omega
       simp only [←hbase]
       have hnum:l++numB x=base++Z0w x.w:=by rw [numB,if_pos hr,if_neg hw0,hbase];simp
       refine Q0e [false,false,false,false,false,false,true,false,false,false,false,false,false,false,false,false,false,false,false,false,false,false,false,false,false,false,false,false,false,false,false,false,false,false,false,false,false,true,true,true] 0 2
        (fun n s=> ∃i,n=x.w.length-i∧i≤x.w.length∧s=⟨List.replicate 6 .junk++([.sl (.own 1) (encB (base++Z0w (x.w.take i)))]++(List.replicate 30 .junk++([.sl .no (encW x.w),.sc (.int .i64 x.w.length),.sc (.int .i64 (i:Nat))]++List.replicate 17 .junk))),[],[(T0,1),((base++Z0w (x.w.take i)).length,1)],st⟩) x.w.length ?_ ?_
       · simp -dsimp only [go_sem]
         refine⟨0,by omega,by omega,?_⟩
         simp [Z0w,hT0,hb2]
       · rintro n s ⟨i,rfl,hi,rfl⟩
         have hwl:=K0u (x.w.take i)
         rw [List.length_take,Nat.min_eq_left hi] at hwl
         simp -dsimp only [go_sem]
         refine ck (fun h1=> ?_) (fun h1=> ?_)
         · have hlt:i<x.w.length:=by have:=of_decide_eq_true h1;omega
           have g1:=X0t x.w i hlt
           obtain⟨w,hwe⟩: ∃w,w=(x.w.getD i 0).toNat:=⟨_,rfl⟩
           rw [←hwe] at g1
           have hwlt:w<18446744073709551616:=by rw [hwe];exact(x.w.getD i 0).toNat_lt
           have x1:IntKind.i64.wrap ((i:Int)+1)=((i+1:Nat):Int):=by rw [show((i:Int)+1)=((i+1:Nat):Int) from rfl,Q0k _ (by omega)]
           simp -dsimp only [go_sem,g1]
           refine⟨⟨by omega,hlt⟩,?_⟩
           obtain⟨b2,hb3⟩: ∃b2,b2=base++Z0w (x.w.take i):=⟨_,rfl⟩
           have hb4:b2.length=base.length+(Z0w (x.w.take i)).length:=by rw [hb3];simp
           simp only [←hb3,←hb4]
           refine Q0e [false,false,false,false,false,false,true,false,true,false,false,false,false,false,false,false,false,false,false,false,false,false,false,false,false,false,false,false,false,false,false,false,false,false,false,false,false,true,true,true,false,false,false,true] 0 2
            (fun n s=> ∃k,n=8-k∧k≤8∧s=⟨List.replicate 6 .junk++([.sl (.own 1) (encB (b2++U0a w k)),.junk,.sc (.int .u64 (w:Nat))]++(List.replicate 28 .junk++([.sl .no (encW x.w),.sc (.int .i64 x.w.length),.sc (.int .i64 (i:Nat)),.junk,.junk,.junk,.sc (.int .i64 (k:Nat))]++List.replicate 13 .junk))),[],[(T0,1),((b2++U0a w k).length,1)],st⟩) 8 ?_ ?_
           · simp -dsimp only [go_sem]
             refine⟨0,by omega,by omega,?_⟩
             simp [U0a]
           · rintro n s ⟨k,rfl,hk,rfl⟩
             have hkl:=X0c w k
             simp -dsimp only [go_sem]
             refine ck (fun h2=> ?_) (fun h2=> ?_)
             · have hk8:k<8:=by have:=of_decide_eq_true h2;omega
               have m1:IntKind.i64.wrap (8*(k:Int))=((8*k:Nat):Int):=by rw [show 8*(k:Int)=((8*k:Nat):Int) from by omega,Q0k _ (by omega)]
               have m2:IntKind.u8.wrap (bShr .u64 (w:Int) ((8*k:Nat):Int))=((UInt8.ofNat (w/2^(8*k))).toNat:Int):=by
                rw [V0e _ _ (by omega),H0k];simp
               have x2:IntKind.i64.wrap ((k:Int)+1)=((k+1:Nat):Int):=by rw [show((k:Int)+1)=((k+1:Nat):Int) from rfl,Q0k _ (by omega)]
               simp -dsimp only [go_sem,m1,m2,x2]
               exact⟨by omega,by omega,8-(k+1),by omega,k+1,rfl,by omega,by rw [z0q,←List.append_assoc];simp [Nat.add_assoc]⟩
             · have hk8:k=8:=by have:=of_decide_eq_false h2;omega
               simp -dsimp only [go_sem]
               refine Q0a ?_
               simp -dsimp only [go_sem,x1]
               refine⟨x.w.length-(i+1),by omega,i+1,rfl,by omega,?_⟩
               rw [hk8,H0l x.w i hlt,←hwe,hb3]
               simp [Nat.add_assoc]
         · have hge:i=x.w.length:=by have:=of_decide_eq_false h1;omega
           simp -dsimp only [go_sem]
           refine Q0a ?_
           simp -dsimp only [go_sem]
           rw [hnum,hge,List.take_length]
end Go.Pv
end
section
/-An object of scalars lent to a function that only reads it and hands back a new slice of scalars. -/
namespace Go.Pv
theorem j1h {w:World} {g g':Gh} {v:Value} {rs:List PV} (hrs: ∀j,j<rs.length→ ∃x,rs.getD j .junk= .sc x) (h:Rep w g v (.sl .no rs))
 (hv: ∀b off n cap,v= .slice (some ⟨b,off,none⟩) n cap→g'.vis b=g.vis b):Rep w g' v (.sl .no rs):=by
 cases h with
 | nil t ad ht=>exact .nil _ _ rfl
 | sl t es b off sz cap cf ht hfull hcap hsz hvis hc hr=>
  refine .sl _ _ b off sz cap cf rfl hfull hcap hsz (by rw [hv b off _ cap rfl];exact hvis) hc fun i j hi hj=> ?_
  have:=hr i j hi hj
  obtain⟨x,hx⟩:=hrs i hi
  have e:(rs.getD i .junk).cells= [.sc x]:=by rw [hx];rfl
  have hs:=hsz i hi
  rw [e] at this hs⊢
  have:j=0:=by simp at hs;omega
  subst this
  rw [show cf i 0=x from Rep.sc_inv (by assumption)]
  exact .sc _
theorem PCalls.lent {P:Program} {f:FuncId} {es rs:List PV} (hes: ∀j,j<es.length→ ∃v,es.getD j .junk= .sc v) (hrs: ∀j,j<rs.length→ ∃v,rs.getD j .junk= .sc v)
 (h:PCalls P f [.sl .no es] [] (fun r st'=>r= .sl (.fresh 1) rs∧st'= [])) (st:Q0g) (k off:Nat) (hk:k<st.length) (ho:off+es.length≤(st.getD k []).length)
 (he: ∀j,j<es.length→(st.getD k []).getD (off+j) .junk=es.getD j .junk):
 PCalls P f [.ms true k off es.length] st (fun r st'=>r= .sl (.fresh 1) rs∧st'=st):=by
 intro w g vs hs hr
 have hkn:k<g.n:=by rw [hs.n];exact hk
 let g0:Gh:=⟨0,fun _=>0,fun b=>if b=g.mu k then max (st.getD k []).length (g.vis b) else g.vis b⟩
 have hv0: ∀b,g.vis b≤g0.vis b:=fun b=>by
  show _≤if _ then _ else _
  split
  · exact Nat.le_max_right _ _
  · exact Nat.le_refl _
 have hs0:StoreOK w g0 []:=by
  refine⟨rfl,fun i j hi=>by simp [g0] at hi,fun i hi=>by simp [g0] at hi,fun i hi=>by simp [g0] at hi,fun i hi=>by simp [g0] at hi,fun b hb=> ?_,fun t ht=>⟨Nat.le_trans (hs.tab t ht).1 (hv0 _),(hs.tab t ht).2⟩⟩
  show(if b=g.mu k then _ else _)=0
  have:=hs.lt k hkn
  rw [if_neg (by omega)];exact hs.none b hb
 have hr0:Reps w g0 vs [.sl .no es]:=by
  refine⟨hr.1,fun j hj=> ?_⟩
  have hj0:j=0:=by simp at hj;omega
  subst hj0
  have hv:=hr.2 0 (by simp)
  simp only [List.getD_cons_zero] at hv⊢
  generalize vs.getD 0 undef=v at hv⊢
  cases hv with
  | gms _ _ _ cap hi hcap=>
   have hh:=hs.holds k hkn
   refine .sl .no es (g.mu k) off 1 cap (fun a _=>match es.getD a .junk with | .sc v=>v | _=>undef) rfl (fun h=>by cases h) hcap (fun i hi=> ?_) ?_ (fun i j hi hj=> ?_) (fun i j hi hj=> ?_)
   · obtain⟨x,hx⟩:=hes i hi;rw [hx];rfl
   · intro _
     show _≤if g.mu k=g.mu k then max (st.getD k []).length (g.vis (g.mu k)) else _
     rw [if_pos rfl]
     have:=Nat.le_max_left (st.getD k []).length (g.vis (g.mu k))
     omega
   · have:j=0:=by omega
     subst this
     obtain⟨x,hx⟩:=hes i hi
     obtain⟨_,c,q1,q2⟩:=hh (off+i) (by omega)
     rw [he i hi,hx] at q2
     rw [hx]
     have e:c=x:=Rep.sc_inv q2
     subst e
     simpa using q1
   · have:j=0:=by omega
     subst this
     obtain⟨x,hx⟩:=hes i hi
     rw [hx]
     exact .sc _
 refine(h w g0 vs hs0 hr0).mono ?_
 rintro e w' ⟨v,g1,r,st1,rfl,hx,hoo,hrr,rfl,rfl⟩
 have hold: ∀c,c<w.heap.size→w'.heap[c]?=w.heap[c]?∧g1.vis c=g0.vis c:=fun c hc=>hx.old c hc (fun i hi=>by simp [g0] at hi)
 let g2:Gh:=⟨g.n,g.mu,fun c=>if c<w.heap.size then g.vis c else g1.vis c⟩
 have hle:Le w g w' g2:=by
  refine⟨Nat.le_refl _,fun _ _=>rfl,fun c=> ?_,fun c o v ho hc=>hx.le.cell c o v (Nat.lt_of_lt_of_le ho (hv0 c)) hc⟩
  show g.vis c≤if c<w.heap.size then g.vis c else g1.vis c
  split
  · exact Nat.le_refl _
  · rename_i hn;rw [hs.none c (by omega)];exact Nat.zero_le _
 have hext:Ext w g w' g2:=by
  refine⟨hle,hx.os,hx.tape,hx.output,hx.size,fun c hc _=>⟨(hold c hc).1,if_pos hc⟩,fun i h1 h2=> ?_⟩
  have h2':i<g.n:=h2
  omega
 have hst:StoreOK w' g2 st:=by
  refine⟨hs.n,hs.inj,fun i hi=>Nat.lt_of_lt_of_le (hs.lt i hi) hx.size,fun i hi h0=> ?_,fun i hi=> ?_,fun c hc=> ?_,hs.tab.mono hle⟩
  · show(if g.mu i<w.heap.size then g.vis (g.mu i) else _)=0
    rw [if_pos (hs.lt i hi)];exact hs.vis i hi h0
  · exact(hs.holds i hi).mono (hold _ (hs.lt i hi)).1 fun v p hp=>hp.mono hle
  · show(if c<w.heap.size then g.vis c else g1.vis c)=0
    have:=hx.size
    rw [if_neg (by omega)];exact hoo.none c hc
 obtain⟨hrep,hfr⟩:=hrr
 refine⟨v,g2,.sl (.fresh 1) rs,st,rfl,hext,hst,?_,rfl,rfl⟩
 rcases hfr with ⟨b,⟨off',cap,hv,hsz,hvis,hcap,hex⟩,hb1,hb2,_,c0,el,hblk⟩ | ⟨hz,hz2⟩
 · have hvb:g2.vis b=g1.vis b:=if_neg (by omega)
   refine⟨j1h hrs hrep fun b' off2 n' cap' hv'=> ?_,.inl ⟨b,⟨off',cap,hv,hsz,by rw [hvb];exact hvis,hcap,hex⟩,hb1,hb2,fun i hi e=> ?_,c0,el,hblk⟩⟩
   · rw [hv] at hv'
     simp only [Value.slice.injEq,Option.some.injEq,Addr.mk.injEq,and_true] at hv'
     rw [←hv'.1.1];exact hvb
   · have:=hs.lt i hi
     have e':g.mu i=b:=e
     omega
 · have:rs= []:=List.length_eq_zero_iff.1 hz2
   subst this
   refine⟨?_,.inr ⟨hz,rfl⟩⟩
   rcases hz with rfl | ⟨a,rfl⟩
   · exact .nil _ _ rfl
   · exact .nil _ _ rfl
end Go.Pv
end
section
/-A dead object at the store's end is forgotten when a call is over. -/
namespace Go.Pv
inductive Bnd (n:Nat):PV→Prop
 | junk:Bnd n .junk
 | sc (v:Value):Bnd n (.sc v)
 | agg (cs:List PV) (h: ∀j,j<cs.length→Bnd n (cs.getD j .junk)):Bnd n (.agg cs)
 | tup (cs:List PV) (h: ∀j,j<cs.length→Bnd n (cs.getD j .junk)):Bnd n (.tup cs)
 | nil (t:Tag):Bnd n (.sl t [])
 | sl (t:Tag) (es:List PV) (sz:Nat) (hsz: ∀i,i<es.length→(es.getD i .junk).cells.length=sz) (h: ∀i j,i<es.length→j<sz→Bnd n ((es.getD i .junk).cells.getD j .junk)):Bnd n (.sl t es)
 | gms (i off len:Nat) (hi:i<n):Bnd n (.ms true i off len)
 | gr (i len cap:Nat) (hi:i<n):Bnd n (.gr i len cap)
 | gp (i off:Nat) (hi:i<n):Bnd n (.gp i off)
 | ep (cs:List PV) (off:Nat) (h: ∀j,j<cs.length→Bnd n (cs.getD j .junk)):Bnd n (.ep cs off)
 | fn (f:Fn) (bs cs:List PV) (h0: ∀j,j<bs.length→Bnd n (bs.getD j .junk)) (h: ∀j,j<cs.length→Bnd n (cs.getD j .junk)):Bnd n (.fn f bs cs)
 | pre (all:List PV) (m sz:Nat) (hsz: ∀i,i<all.length→(all.getD i .junk).cells.length=sz) (h: ∀i j,i<all.length→j<sz→Bnd n ((all.getD i .junk).cells.getD j .junk)):Bnd n (.pre all m)
theorem Rep.bnd {w:World} {g:Gh} {v:Value} {p:PV} (h:Rep w g v p):Bnd g.n p:=by
 induction h with
 | junk v=>exact .junk
 | sc v=>exact .sc v
 | agg vs cs hl _ ih=>exact .agg cs ih
 | tup vs cs hl _ ih=>exact .tup cs ih
 | nil t ad ht=>exact .nil t
 | sl t es b off sz cap cf ht hfull hcap hsz hvis hc hr ih=>exact .sl t es sz hsz ih
 | gms i off len cap hi hcap=>exact .gms i off len hi
 | gr i len cap hi hcap=>exact .gr i len cap hi
 | gp i off hi=>exact .gp i off hi
 | ep cs off b base cf hvis hc hr ih=>exact .ep cs off ih
 | fn f us vs bs cs hk hl _ _ ih0 ih=>exact .fn f bs cs ih0 ih
 | pre all n b off sz cap cf hn hcap hsz hvis hc hr ih=>exact .pre all n sz hsz ih
theorem Rep.less {w:World} {g:Gh} (n:Nat) {v:Value} {p:PV} (h:Rep w g v p):Bnd n p→Rep w { g with n:=n } v p:=by
 induction h with
 | junk v=>exact fun _=> .junk v
 | sc v=>exact fun _=> .sc v
 | agg vs cs hl _ ih=>intro hb;cases hb with | agg _ h=>exact .agg vs cs hl fun j hj=>ih j hj (h j hj)
 | tup vs cs hl _ ih=>intro hb;cases hb with | tup _ h=>exact .tup vs cs hl fun j hj=>ih j hj (h j hj)
 | nil t ad ht=>exact fun _=> .nil t ad ht
 | sl t es b off sz cap cf ht hfull hcap hsz hvis hc hr ih=>
  intro hb
  refine .sl t es b off sz cap cf ht hfull hcap hsz hvis hc fun i j hi hj=>ih i j hi hj ?_
  cases hb with
  | nil t=>simp at hi
  | sl _ _ sz' hsz' h=>
   have:sz=sz':=(hsz i hi).symm.trans (hsz' i hi)
   subst this
   exact h i j hi hj
 | gms i off len cap hi hcap=>intro hb;cases hb with | gms _ _ _ h=>exact Rep.gms (g:= { g with n:=n }) i off len cap h hcap
 | gr i len cap hi hcap=>intro hb;cases hb with | gr _ _ _ h=>exact Rep.gr (g:= { g with n:=n }) i len cap h hcap
 | gp i off hi=>intro hb;cases hb with | gp _ _ h=>exact Rep.gp (g:= { g with n:=n }) i off h
 | ep cs off b base cf hvis hc hr ih=>intro hb;cases hb with | ep _ _ h=>exact .ep cs off b base cf hvis hc fun j hj=>ih j hj (h j hj)
 | fn f us vs bs cs hk hl _ _ ih0 ih=>intro hb;cases hb with | fn _ _ _ h0 h=>exact .fn f us vs bs cs hk hl (fun j hj=>ih0 j hj (h0 j hj)) fun j hj=>ih j hj (h j hj)
 | pre all m b off sz cap cf hn hcap hsz hvis hc hr ih=>
  intro hb
  refine .pre all m b off sz cap cf hn hcap hsz hvis hc fun i j hi hj=>ih i j hi hj ?_
  cases hb with
  | pre _ _ sz' hsz' h=>
   have:sz=sz':=(hsz i hi).symm.trans (hsz' i hi)
   subst this
   exact h i j hi hj
theorem RepRes.less {B:Nat} {w:World} {g:Gh} (n:Nat) (hn:n≤g.n) {v:Value} {p:PV} (h:RepRes B w g v p) (hb:Bnd n p):RepRes B w { g with n:=n } v p:=by
 by_cases hp: ∃sz es,p= .sl (.fresh sz) es
 · obtain⟨sz,es,rfl⟩:=hp
   obtain⟨h1,h2⟩:=h
   refine⟨h1.less n ?_,?_⟩
   · cases hb with
     | nil t=>exact .nil _
     | sl _ _ sz' hsz' h=>exact .sl _ _ sz' hsz' h
   · rcases h2 with ⟨b,hR,b1,b2,b3,b4⟩ | hR
     · exact .inl ⟨b,hR,b1,b2,fun i hi=>b3 i (Nat.lt_of_lt_of_le hi hn),b4⟩
     · exact .inr hR
 · unfold RepRes at h⊢
   split
   · exact absurd ⟨_,_,rfl⟩ hp
   · rename_i hq
     split at h
     · exact absurd ⟨_,_,rfl⟩ hp
     · exact h.less n hb
theorem PCalls.drop {P:Program} {f:FuncId} {args:List PV} {st:Q0g} {Q:PV→Q0g→Prop}
 (h:PCalls P f args st (fun r st'=>Bnd st.length r∧ ∃more,st'=st++more∧Q r st)):PCalls P f args st Q:=by
 intro w g vs hs hr
 refine(h w g vs hs hr).mono ?_
 rintro e w' ⟨v,g',r,st',rfl,hx,ho,hrr,hb,more,rfl,hq⟩
 have hn:g.n≤g'.n:=hx.le.n
 have hgn:g.n=st.length:=hs.n
 have hget: ∀i,i<g.n→(st++more).getD i []=st.getD i []:=fun i hi=>by
  rw [List.getD_eq_getElem?_getD,List.getElem?_append_left (by omega),←List.getD_eq_getElem?_getD]
 refine⟨v, { g' with n:=g.n },r,st,rfl,⟨⟨Nat.le_refl _,hx.le.mu,hx.le.vis,hx.le.cell⟩,hx.os,hx.tape,hx.output,hx.size,hx.old,fun i h1 h2=> ?_⟩,⟨hgn,fun i j hi hj=>ho.inj i j (Nat.lt_of_lt_of_le hi hn) (Nat.lt_of_lt_of_le hj hn),fun i hi=>ho.lt i (Nat.lt_of_lt_of_le hi hn),fun i hi h0=> ?_,fun i hi=> ?_,ho.none,ho.tab⟩,?_,hq⟩
 · have h2':i<g.n:=h2
   omega
 · exact ho.vis i (Nat.lt_of_lt_of_le hi hn) (by rw [hget i hi];exact h0)
 · have hi':i<g.n:=hi
   have hh:=ho.holds i (Nat.lt_of_lt_of_le hi hn)
   rw [hget i hi'] at hh
   intro j hj
   obtain⟨q1,c,q2,q3⟩:=hh j hj
   obtain⟨_,c0,_,q4⟩:=hs.holds i hi' j hj
   exact⟨q1,c,q2,q3.less g.n q4.bnd⟩
 · rw [←hgn] at hb
   exact hrr.less g.n hn hb
end Go.Pv
end
