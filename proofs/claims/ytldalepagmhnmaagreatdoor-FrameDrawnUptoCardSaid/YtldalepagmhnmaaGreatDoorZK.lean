/- Parts of the walk: PvZ, G1, PvAa, M10, M11, M12, G2, G3. -/
import Derived.Test.YtldalepagmhnmaaGreatDoorRows
import Derived.Test.YtldalepagmhnmaaGreatDoorZE
import Derived.ProofKit
import Derived.OpenShut
import Derived.JoinedCond
import Derived.ChangeSame
import Derived.Carry
set_option linter.unusedVariables false
set_option linter.unusedSimpArgs false
section
namespace Go.Pv
open Go.Proofs Go.ChangeShapes Go.WideShapes Go.ChangeAt Go.RowKit
open Go.Proofs.YtldalepagmhnmaaGreatDoor.Rows (uptoBulk uptoBulkAll)
def allG (w:World):Gh:=⟨0,fun _=>0,fun b=>match w.heap[b]? with | some (.cells c _ _)=>c.size | _=>0⟩
theorem z1p {w:World}{b o:Nat}{c:Value}(h:w.cell? ⟨b,o,none⟩=some c):o<(allG w).vis b:=by unfold World.cell? at h;simp only[allG];split at h;rename_i c' t f hh;simp only at hh;rw[hh];simp at h;exact(Array.getElem?_eq_some_iff.1 h).1;cases h
theorem W2a (w:World)(ht:TabOK w (allG w)):StoreOK w (allG w) []:=by refine⟨rfl,fun i j hi=>by simp[allG] at hi,fun i hi=>by simp[allG] at hi,fun i hi=>by simp[allG] at hi,fun i hi=>by simp[allG] at hi,fun b hb=> ?_,ht⟩;simp only[allG];rw[Array.getElem?_eq_none hb]
theorem V3f {H:Type}(d:DataW H):1<=uptoBulk d:=by
 cases d with
 | lit l=>cases l<;>simp[uptoBulk]
 | nil=>simp[uptoBulk]
 | ptr d=>simp[uptoBulk]
 | slice elems spare=>simp[uptoBulk]
 | agg parts=>simp[uptoBulk]
 | iface t d=>simp[uptoBulk]
 | map entries=>simp[uptoBulk]
 | held h=>simp[uptoBulk]
theorem w1i {H:Type}{d:DataW H}{l:List (DataW H)}(h:d∈l):uptoBulk d<=uptoBulkAll l:=by
 induction l with
 | nil=>cases h
 | cons x r ih=>
  simp only[uptoBulkAll];cases List.mem_cons.1 h with
  | inl e=>subst e;omega
  | inr e=>have:=ih e;omega
theorem Z2t {H:Type}(l:List (DataW H)):l.length<=uptoBulkAll l:=by
 induction l with
 | nil=>simp[uptoBulkAll]
 | cons x r ih=>have:=V3f x;simp only[uptoBulkAll,List.length_cons];omega
structure Ty (P:Program) (t:TypeId) (n:Nat) {α:Type} (enc:α->List PV) (ok:Nat->α->Prop):Prop where
 cells:P.cellsOf t=n
 len: ∀x,(enc x).length=n
 mono: ∀ {k k' x},ok k x->k<=k'->ok k' x
 rd: ∀ {H:Type} (tok:TypeId×Value->H) (w:World) (fuel:Nat) (cs:List Value) (x:DataW H×List MemPlace),
  DataW.trod tok P w 0 (fun _=>true) true fuel t cs=some x-> ∃y,cs.length=n/\(∀j,j<n->Rep w (allG w) (cs.getD j undef) ((enc y).getD j .junk))/\ok (uptoBulk x.1) y
section
variable {P:Program} {t e:TypeId}
theorem j3z {n:Nat}{α β:Type}{enc:α->List PV}{ok:Nat->α->Prop}(h:Ty P t n enc ok)(f:α->β){enc':β->List PV}{ok':Nat->β->Prop}(he: ∀x,enc' (f x)=enc x)(hl: ∀x,(enc' x).length=n)(hok: ∀k x,ok k x->ok' k (f x))(hm: ∀ {k k' x},ok' k x->k<=k'->ok' k' x):Ty P t n enc' ok':=
 ⟨h.cells,hl,hm,fun tok w fuel cs x hx=>by obtain⟨y,h1,h2,h3⟩:=h.rd tok w fuel cs x hx;exact⟨f y,h1,by rw[he];exact h2,hok _ _ h3⟩⟩
theorem j3y (hu:P.underlying t=some (.int .u64))(hc:P.cellsOf t=1):Ty P t 1 (fun c:UInt64=> [.sc (.int .u64 c.toNat)]) (fun _ _=>True):=
 ⟨hc,fun _=>rfl,fun _ _=>trivial,fun tok w fuel cs x hx=>by obtain⟨n,rfl,_,hw⟩:=DataW.trod_int hu hx;have hr:0<=n/\n<=18446744073709551615:=(by simpa[Lit.wf,IntKind.min,IntKind.max,IntKind.signed,IntKind.bits] using hw);have e:n=((UInt64.ofNat n.toNat).toNat:Int):=(by rw[UInt64.toNat_ofNat'];omega);refine⟨UInt64.ofNat n.toNat,rfl,fun j hj=> ?_,trivial⟩;have:j=0:=oG;subst this;rw[<-e];exact .sc _⟩
theorem w1f {w:World}{b:Addr}{n:Nat}{cs:List Value}(h:w.cells? 0 b n=some cs):cs.length=n/\ ∀j,j<n->w.cell? (b.add j)=some (cs.getD j undef):=by
 unfold World.cells? at h;rw[if_pos (Nat.zero_le _)] at h;have key: ∀(l:List Nat) (cs:List Value),(l.mapM fun i=>w.cell? (b.add i))=some cs->cs.length=l.length/\ ∀j,j<l.length->w.cell? (b.add (l.getD j 0))=some (cs.getD j undef):=by
  intro l
  induction l with
  | nil=>intro cs h;simp at h;subst h;exact⟨rfl,fun j hj=>by simp at hj⟩
  | cons i l ih=>
   intro cs h;rw[List.mapM_cons] at h;simp only[Option.bind_eq_bind,Option.bind_eq_some_iff] at h;obtain⟨c,h1,cs',h2,h3⟩:=h;cases h3;obtain⟨a1,a2⟩:=ih cs' h2;refine⟨by simp[a1],fun j hj=> ?_⟩;cases j with
   | zero=>simpa using h1
   | succ j=>simpa using a2 j (by simpa using hj)
 obtain⟨h1,h2⟩:=key _ _ h;simp at h1;refine⟨h1,fun j hj=> ?_⟩;have:=h2 j (by simpa using hj);simpa[q_a,hj] using this
theorem w2w {n:Nat}{α:Type}{enc:α->List PV}{ok:Nat->α->Prop}[Inhabited α](hu:P.underlying t=some (.slice e))(hc:P.cellsOf t=1)(he:Ty P e n enc ok)(hn:0<n)(elem:α->PV)(hel: ∀x,(elem x).cells=enc x):
 Ty P t 1 (fun l:List α=> [.sl .no (l.map elem)]) (fun k l=>l.length<=k/\ ∀i,i<l.length->ok k (l.getD i default)):=
 ⟨hc,fun _=>rfl,fun h hk=>⟨Nat.le_trans h.1 hk,fun i hi=>he.mono (h.2 i hi) hk⟩,fun tok w fuel cs x hx=>by
  rcases DataW.trod_slice hu hx with ⟨rfl,_⟩ | ⟨a,len,cap,elems,rest,m,_,rfl,hxe,_,hlc,_,hlen,hel1,hrest,_⟩;refine⟨[],rfl,fun j hj=> ?_,by simp,fun i hi=>by simp at hi⟩;have:j=0:=oG;subst this;exact .nil .no none rfl
  . rw[he.cells] at hel1 hrest;have hel2: ∀i,i<len-> ∃(cs':List Value) (y:DataW _×List MemPlace) (v:α),elems[i]?=some y/\cs'.length=n/\(∀j,j<n->w.cell? ((a.add (i*n)).add j)=some (cs'.getD j undef))/\(∀j,j<n->Rep w (allG w) (cs'.getD j undef) ((enc v).getD j .junk))/\ok (uptoBulk y.1) v:=fun i hi=>by have h1:=hel1 i hi;rw[List.getElem?_eq_getElem (by omega:i<elems.length)] at h1;simp only[Option.bind_eq_some_iff] at h1;obtain⟨cs',c1,c2⟩:=h1;obtain⟨d1,d2⟩:=w1f c1;obtain⟨v,v1,v2,v3⟩:=he.rd tok w m cs' _ c2;exact⟨cs',_,v,List.getElem?_eq_getElem oG,d1,d2,v2,v3⟩
    have hpick: ∀i:Nat,∃p:List Value×α,i<len-> ∃y:DataW _×List MemPlace,elems[i]?=some y/\(∀j,j<n->w.cell? ((a.add (i*n)).add j)=some (p.1.getD j undef))/\(∀j,j<n->Rep w (allG w) (p.1.getD j undef) ((enc p.2).getD j .junk))/\ok (uptoBulk y.1) p.2:=fun i=>by by_cases hi:i<len;obtain⟨cs',y,v,h1,h2,h3,h4,h5⟩:=hel2 i hi;exact⟨(cs',v),fun _=>⟨y,h1,h3,h4,h5⟩⟩;exact⟨([],default),fun h=>absurd h hi⟩
    obtain⟨pf,hpf⟩:=Classical.axiomOfChoice hpick;have hbulk:uptoBulk x.1=uptoBulkAll (elems.map (·.1))+uptoBulkAll (rest.map (·.1))+1:=(by rw[hxe];simp[uptoBulk]);have hgl: ∀i,i<len->((List.range len).map fun i=>(pf i).2).getD i default=(pf i).2:=fun i hi=>(by simp[q_a,hi]);refine⟨(List.range len).map fun i=>(pf i).2,rfl,fun j hj=> ?_,?_,fun i hi=> ?_⟩
    . have:j=0:=oG;subst this;show Rep w (allG w) (.slice (some a) len cap) (.sl .no _);by_cases h0:cap=0;have hl0:len=0:=oG;subst hl0;subst h0;exact .nil .no (some a) rfl
      . --the first cell lies there
        have hfirst: ∃c,w.cell? a=some c:=by by_cases hl0:len=0;have:=(hrest rfl).2 0 oG;have hr:=(hrest rfl).1;rw[List.getElem?_eq_getElem (by omega:0<rest.length)] at this;simp only[Option.bind_eq_some_iff] at this;obtain⟨cs',c1,_⟩:=this;have:=(w1f c1).2 0 hn;have e0:(a.add ((len+0)*n)).add 0=a:=(by subst hl0;simp[Addr.add]);rw[e0] at this;exact⟨_,this⟩;obtain⟨y,_,h3,_⟩:=hpf 0 oG;have:=h3 0 hn;have e0:(a.add (0*n)).add 0=a:=(by simp[Addr.add]);rw[e0] at this;exact⟨_,this⟩
        obtain⟨c0,hc0⟩:=hfirst;obtain⟨b,off,spot⟩:=a;have hs:spot=none:=World.cell?_spot hc0;subst hs;have hlen2:((List.range len).map fun i=>elem (pf i).2).length=len:=(by simp);have hge: ∀i,i<len->(((List.range len).map fun i=>elem (pf i).2).getD i .junk)=elem (pf i).2:=fun i hi=>(by simp[q_a,hi]);have hmm:((List.range len).map fun i=>(pf i).2).map elem=(List.range len).map fun i=>elem (pf i).2:=(by simp[List.map_map,Function.comp_def]);rw[hmm];have hcell: ∀i j,i<len->j<n->w.cell? ⟨b,off+i*n+j,none⟩=some ((pf i).1.getD j undef):=fun i j hi hj=>(by obtain⟨y,_,h3,_⟩:=hpf i hi;have:=h3 j hj;have e1:((⟨b,off,none⟩:Addr).add (i*n)).add j=⟨b,off+i*n+j,none⟩:=(by rw[Addr.add_mid,Addr.add_mid]);rw[e1] at this;exact this);have:=Rep.sl (w:=w) (g:=allG w) .no ((List.range len).map fun i=>elem (pf i).2) b off n cap (fun i j=>(pf i).1.getD j undef) rfl (fun h=>by cases h) (by rw[hlen2];exact hlc)
         (fun i hi=>by rw[hlen2] at hi;rw[hge i hi,hel,he.len]) ?_ (fun i j hi hj=>by rw[hlen2] at hi;exact hcell i j hi hj) (fun i j hi hj=>by rw[hlen2] at hi;rw[hge i hi,hel];obtain⟨y,_,_,h4,_⟩:=hpf i hi;exact h4 j hj)
        rw[hlen2] at this;exact this
        . intro _;rw[hlen2];by_cases hl0:len=0;subst hl0;have:=z1p hc0;omega
          . have:=z1p (hcell (len-1) (n-1) oG oG);have e2:(len-1)*n+n=len*n:=by
             have:len=(len-1)+1:=oG
             conv=>rhs;rw[this,Nat.add_mul,Nat.one_mul]
            omega
    have:=Z2t (elems.map (·.1));simp at this⊢;omega;have hi':i<len:=(by simpa using hi);rw[hgl i hi'];obtain⟨y,h1,_,_,h5⟩:=hpf i hi';refine he.mono h5 ?_;have hm:y.1∈elems.map (·.1):=List.mem_map.2 ⟨y,List.mem_of_getElem? h1,rfl⟩;have:=w1i hm;omega⟩
def X4q (P:Program)(fl:List Field)(base n:Nat){α:Type}(enc:α->List PV)(ok:Nat->α->Prop):Prop:=
 (∀x,(enc x).length=n)/\(∀ {k k' x},ok k x->k<=k'->ok k' x)/\
 ∀ {H:Type} (tok:TypeId×Value->H) (w:World) (fuel:Nat) (cs:List Value) (xs:List (DataW H×List MemPlace)),xs.length=fl.length->
  (∀(i:Nat) (f:Field),fl[i]?=some f->DataW.trod tok P w 0 (fun _=>true) true fuel f.type ((cs.drop f.offset).take (P.cellsOf f.type))=xs[i]?)->
  ∃y,(∀j,j<n->Rep w (allG w) (cs.getD (base+j) undef) ((enc y).getD j .junk))/\ok (uptoBulkAll (xs.map (·.1))) y
end
theorem w0v {H:Type}{enc:TypeId×Value->H}{P:Program}(hl:laidOutB P=true){W W':World}(hb:Below W.heap.size W W'){sp:Nat->Bool} :
 ∀ {ts:List TypeId} {vs:List Value} {ds:List (DataW H)} {ps:List MemPlace},(∀t∈ts,P.readableRec t=true/\t<P.types.size)->DataW.TrodAll enc P W 0 (fun _=>true) true ts vs ds ps->
  (∀p∈ps,p.block<W.heap.size)->(∀p∈ps,sp p.block=true)->DataW.TrodAll enc P W' 0 sp true ts vs ds ps
 | [],_,_,_,hr,h,h1,h2=>by obtain⟨rfl,rfl,rfl⟩:=trodAll_nil h;exact trodAll_mk0
 | t::ts,_,_,_,hr,h,h1,h2=>by
  obtain⟨v,vs,d,ds,p,q,rfl,rfl,rfl,hd,hrest⟩:=trodAll_cons h;refine⟨p,q,WideElems.Trod_stays hl (hr t List.mem_cons_self).1 (hr t List.mem_cons_self).2 hd (fun x hx=>hb.same (h1 x (List.mem_append_left _ hx))) (fun x hx=>h2 x (List.mem_append_left _ hx)),
   w0v hl hb (fun t ht=>hr t (List.mem_cons_of_mem _ ht)) hrest (fun x hx=>h1 x (List.mem_append_right _ hx)) (fun x hx=>h2 x (List.mem_append_right _ hx)),rfl⟩
theorem W2y {H:Type}{enc:TypeId×Value->H}{P:Program}{f:Func}{s:ChangeSpec}{apart fresh handsOn again:Bool}{W W':World}{args:Array Value}{ds gs:List (DataW H)}{before:List MemPlace}{tb:TypeId}
 (hl:laidOutB P=true) (hr: ∀t∈f.params.toList,P.readableRec t=true/\t<P.types.size) (hs:s.vars= [])
 (hW:DataW.Whole enc P f.params.toList s.vars apart W args.toList ds gs before) (hfn:s.fn H (ds++gs)= { results:= [.lit (.bool true)],args:=ds }) (hb:Below W.heap.size W W')
 (hres:f.resultTypes= #[tb]) (ht:P.underlying tb=some .bool):s.post enc P f apart fresh handsOn again W args (.bool true) W':=by
 have hlt: ∀p∈before,p.block<W.heap.size:=fun p hp=>hW.lt p hp;have hW':=hW;obtain⟨p,q,hA,hV,hpq,hz,hn⟩:=hW;rw[hs] at hV;obtain⟨rfl,rfl⟩:=trodVars_none hV;rw[List.append_nil] at hpq;subst hpq;have hargs: ∀sp:Nat->Bool,(∀x∈before,sp x.block=true)->DataW.TrodAll enc P W' 0 sp true f.params.toList args.toList (s.fn H (ds++ [])).args before:=fun sp hsp=>by rw[hfn];exact w0v hl hb hr hA hlt hsp
 have hresT: ∀(b:Nat) (sp:Nat->Bool) (hd:Bool),DataW.TrodAll enc P W' b sp hd f.resultTypes.toList ((Value.bool true).resultList f.resultTypes.size) (s.fn H (ds++ [])).results []:=fun b sp hd=>by rw[hfn,hres];exact trodAll_mk1 (shut_bool ht _)
 have hvars: ∀sp:Nat->Bool,DataW.TrodVars enc P W' sp s.vars (s.fn H (ds++ [])).vars []:=fun sp=>by rw[hfn,hs];exact rfl
 refine⟨ds,[],before,[],before,[],hW',hresT _ _ _,hargs _ (fun x hx=>by simpa using hlt x hx),hvars _,World.keptBut_mono (fun x hx=>⟨hx,.inr (.inl hx)⟩) (hb.frame _),fun _=> ?_⟩;refine⟨ok_one hres rfl (okWide_bool_mk ht _),_,_,([]++before)++ [],⟨[]++before,[],trodAll_append (hargs _ (fun _ _=>rfl)) (hresT _ _ _),hvars _,rfl,?_,?_⟩,?_⟩;intro b off hp;have hp':MemPlace.cell b off∈before:=(by simpa using hp);rw[hb.frozen (p:=⟨b,off,none⟩) (hlt _ hp')];exact hz b off hp';intro ha;simpa using hn ha;intro x hx _;simpa using hx
open Go.Proofs
theorem U3u :Ty Tryz.prog 22 1 (fun l:List UInt64=> [.sl .no (encW l)]) (fun k l=>l.length<=k):=
 j3z (w2w Tryz.underlying22 (by kernel_rfl) (j3y Tryz.underlying89 (by kernel_rfl)) (by decide) (fun c=> .sc (.int .u64 c.toNat)) (fun _=>rfl)) id (fun _=>rfl) (fun _=>rfl) (fun _ _ h=>h.1) (fun h hk=>Nat.le_trans h hk)
theorem U2e {H:Type}{l:List (DataW H)}(hk:Go.Proofs.YtldalepagmhnmaaGreatDoor.Rows.uptoSmall H l=true):Go.Proofs.YtldalepagmhnmaaGreatDoor.Rows.uptoBulkAll l<=1048576:=by simpa[Go.Proofs.YtldalepagmhnmaaGreatDoor.Rows.uptoSmall] using hk
def PV.giv1 (i n:Nat):PV->PV
 | .lp k off=>if k=i then .gp n off else .lp k off
 | .ms false k off len=>if k=i then .ms true n off len else .ms false k off len
 | p=>p
def PV.giv (i n:Nat):PV->PV
 | .agg l=> .agg (l.map (PV.giv1 i n))
 | .tup l=> .tup (l.map (PV.giv1 i n))
 | .fn f l m=> .fn f (l.map (PV.giv1 i n)) (m.map (PV.giv1 i n))
 | p=>p.giv1 i n
def PFS.give (i:Nat)(s:PFS):PFS:=
 ⟨s.pa.map (PV.giv i s.st.length),(s.L.map fun l=>l.map (PV.giv i s.st.length)).set i [],s.T,s.st++ [(s.L.getD i []).map PV.forget2]⟩
section
variable {w:World} {g g':Gh} {F:Fr} {T:List (Nat×Nat)} {i n:Nat}
theorem RepF.giv1 {v:Value}{p:PV}(hm: ∀v p,RepF w g F T v p->RepF w g' F T v p)(hn:n<g'.n)(hz:g'.mu n=F.lmu i)(h:RepF w g F T v p):RepF w g' F T v (p.giv1 i n):=by
 have h':=hm _ _ h;cases p with
 | lp k off=>
  simp only[PV.giv1];split;rename_i e;subst e;cases h' with
  | base _ _ h'=>cases h'
  | lp k off hi=>
   rw[<-hz];exact .base _ _ (.gp n off hn)
  exact h'
 | ms gl k off len=>
  cases gl with
  | true=>exact h'
  | false=>
   simp only[PV.giv1];split;rename_i e;subst e;cases h' with
   | base _ _ h'=>cases h'
   | lms k off len cap hi hcap=>
    rw[<-hz];exact .base _ _ (.gms n off len cap hn hcap)
   exact h'
 | _=>exact h'
theorem RepF.giv {v:Value}{p:PV}(hm: ∀v p,RepF w g F T v p->RepF w g' F T v p)(hn:n<g'.n)(hz:g'.mu n=F.lmu i)(h:RepF w g F T v p):RepF w g' F T v (p.giv i n):=by
 have gm: ∀(l:List PV) (j:Nat),(l.map (PV.giv1 i n)).getD j .junk=(l.getD j .junk).giv1 i n:=fun l j=>Z0v rfl l j;cases p with
 | agg l=>
  cases h with
  | base _ _ h=>
   cases h with
   | agg vs cs' hl h=>exact .agg vs _ (by simpa using hl) fun j hj=>by rw[gm];exact RepF.giv1 hm hn hz (.base _ _ (h j (by simpa using hj)))
  | agg vs cs' hl h=>exact .agg vs _ (by simpa using hl) fun j hj=>by rw[gm];exact RepF.giv1 hm hn hz (h j (by simpa using hj))
 | tup l=>
  cases h with
  | base _ _ h=>
   cases h with
   | tup vs cs' hl h=>exact .tup vs _ (by simpa using hl) fun j hj=>by rw[gm];exact RepF.giv1 hm hn hz (.base _ _ (h j (by simpa using hj)))
  | tup vs cs' hl h=>exact .tup vs _ (by simpa using hl) fun j hj=>by rw[gm];exact RepF.giv1 hm hn hz (h j (by simpa using hj))
 | fn f l m=>
  cases h with
  | base _ _ h=>
   cases h with
   | fn f us vs bs cs' hk hl h0 h=>
    exact .fn f us vs _ _ (by simpa using hk) (by simpa using hl) (fun j hj=>by rw[gm];exact RepF.giv1 hm hn hz (.base _ _ (h0 j (by simpa using hj)))) fun j hj=>by rw[gm];exact RepF.giv1 hm hn hz (.base _ _ (h j (by simpa using hj)))
  | fn f us vs bs cs' hk hl h0 h=>
   exact .fn f us vs _ _ (by simpa using hk) (by simpa using hl) (fun j hj=>by rw[gm];exact RepF.giv1 hm hn hz (h0 j (by simpa using hj))) fun j hj=>by rw[gm];exact RepF.giv1 hm hn hz (h j (by simpa using hj))
 | _=>exact RepF.giv1 hm hn hz h
end
theorem G2a {E:Ent}{s:PFS}(i:Nat)(hi:s.freezeOK i)(hne:s.L.getD i []≠ []):Weak E s (s.give i):=by
 intro a w g F h;obtain⟨l1,l2,l3⟩:=h.frame.lo i hne;have hall:=List.all_eq_true.1 hi
 let g':Gh:= { g with n:=g.n+1,mu:=fun k=>if k=g.n then F.lmu i else g.mu k }
 have hmu: ∀k,k<g.n->g'.mu k=g.mu k:=fun k hk=>if_neg oG;have hmun:g'.mu g.n=F.lmu i:=if_pos rfl;have hLe:Le w g w g':=⟨Nat.le_succ _,hmu,fun _=>Nat.le_refl _,fun _ _ _ _ hc=>hc⟩;have htok:Q1x w g F s.T w g' F s.T:=⟨Nat.le_refl _,fun k hk=>⟨Nat.le_refl _,fun _ v es hR=>hR.mono fun b hb=>⟨rfl,rfl⟩⟩⟩;have hm: ∀v p,RepF w g F s.T v p->RepF w g' F s.T v p:=fun v p hr=>hr.mono hLe (Nat.le_refl _) (fun _ _=>rfl) htok;have en:s.st.length=g.n:=h.store.n.symm;have hf: ∀v p,RepF w g F s.T v p->RepF w g' F s.T v (p.giv i s.st.length):=fun v p hp=>RepF.giv hm (by rw[en];exact Nat.lt_succ_self _) (by rw[en];exact hmun) hp;have hL: ∀k,((s.L.map fun l=>l.map (PV.giv i s.st.length)).set i []).getD k []≠ []->k≠i/\s.L.getD k []≠ []/\((s.L.map fun l=>l.map (PV.giv i s.st.length)).set i []).getD k []=(s.L.getD k []).map (PV.giv i s.st.length):=fun k hk=>by
  by_cases hki:i=k;subst hki;exfalso;apply hk;exact J0r _ _;have e:((s.L.map fun l=>l.map (PV.giv i s.st.length)).set i []).getD k []=(s.L.getD k []).map (PV.giv i s.st.length):=by rw[<-Y0g (f:=fun l=>l.map (PV.giv i s.st.length)) rfl];simp[q_a,List.getElem?_set_ne hki]
  exact⟨fun e=>hki e.symm,fun e0=>hk (by rw[e,e0];rfl),e⟩
 have hst0: ∀j,j<g.n->(s.st++ [(s.L.getD i []).map PV.forget2]).getD j []=s.st.getD j []:=fun j hj=>(by rw[q_a,List.getElem?_append_left oG,<-q_a]);have hst1:(s.st++ [(s.L.getD i []).map PV.forget2]).getD g.n []=(s.L.getD i []).map PV.forget2:=(by rw[q_a,List.getElem?_append_right oG,<-en];simp);have hst:StoreOK w g' (s.st++ [(s.L.getD i []).map PV.forget2]):=(by refine⟨by simp[g',h.store.n],fun j k hj hk e=> ?_,fun j hj=> ?_,fun j hj hj0=> ?_,fun j hj=> ?_,h.store.none,h.store.tab⟩;have hj:j<g.n+1:=hj;have hk:k<g.n+1:=hk;by_cases e1:j=g.n;by_cases e2:k=g.n;omega;rw[e1,hmun,hmu k oG] at e;exact absurd e.symm (h.frame.apart i hne k oG);by_cases e2:k=g.n;rw[e2,hmun,hmu j oG] at e;exact absurd e (h.frame.apart i hne j oG);rw[hmu j oG,hmu k oG] at e;exact h.store.inj j k oG oG e;have hj:j<g.n+1:=hj;by_cases e1:j=g.n;rw[e1,hmun];exact l2;rw[hmu j oG];exact h.store.lt j oG;have hj:j<g.n+1:=hj;by_cases e1:j=g.n;rw[e1,hmun];exact l3;rw[hmu j oG];rw[hst0 j oG] at hj0;exact h.store.vis j oG hj0;have hj:j<g.n+1:=hj;by_cases e1:j=g.n;subst e1;rw[hmun,hst1];intro k hk;have hk':k<(s.L.getD i []).length:=(by simpa using hk);obtain⟨q1,c,q2,q3⟩:=h.frame.holds i hne k hk';refine⟨q1,c,q2,?_⟩;have e:((s.L.getD i []).map PV.forget2).getD k .junk=((s.L.getD i []).getD k .junk).forget2:=Z0v (f:=PV.forget2) rfl _ _;rw[e];exact(hm _ _ q3).forget2 (Bool.and_eq_true_iff.1 (hall _ (Q0r _ _ _ hk'))).1;rw[hmu j oG,hst0 j oG];exact(h.store.holds j oG).mono rfl fun v p hr=>hr.mono hLe);have hext:Ext E.w E.g w g':=(by refine⟨h.ext.le.trans hLe,h.ext.os,h.ext.tape,h.ext.output,h.ext.size,h.ext.old,fun j h1 h2=> ?_⟩;have h2:j<g.n+1:=h2;by_cases e1:j=g.n;rw[e1,hmun];exact l1;rw[hmu j oG];exact h.ext.new j h1 oG);refine⟨g',F,⟨hext,hst,⟨by simp[PFS.give,h.frame.nl],fun k hk=> ?_,fun k hk j hj=> ?_,fun k j hk hj=> ?_,fun k hk=> ?_,h.frame.tlo,fun k b hk hb=>⟨fun j hj=> ?_,fun j hj=> ?_⟩,h.frame.tinj⟩,h.defers,by simp[PFS.give,h.len],fun t ht=> ?_⟩⟩;exact h.frame.lo k (hL k hk).2.1;have hj:j<g.n+1:=hj;obtain⟨h1,h2,h3⟩:=hL k hk;by_cases e1:j=g.n;rw[e1,hmun];exact fun e=>h1 (h.frame.inj k i h2 hne e.symm);rw[hmu j oG];exact h.frame.apart k h2 j oG;exact h.frame.inj k j (hL k hk).2.1 (hL j hj).2.1;obtain⟨h1,h2,h3⟩:=hL k hk;show Holds w _ _ (((s.L.map fun l=>l.map (PV.giv i s.st.length)).set i []).getD k []);rw[h3];intro j hj;obtain⟨q1,c,q2,q3⟩:=h.frame.holds k h2 j (by simpa using hj);exact⟨q1,c,q2,by rw[Z0v (f:=PV.giv i s.st.length) rfl];exact hf _ _ q3⟩;have hj:j<g.n+1:=hj;by_cases e1:j=g.n;rw[e1,hmun];exact(h.frame.tapart k b hk hb).2 i hne;rw[hmu j oG];exact(h.frame.tapart k b hk hb).1 j oG;exact(h.frame.tapart k b hk hb).2 j (hL j hj).2.1;simp only[PFS.give] at ht⊢;show RepF w g' F s.T _ ((s.pa.map (PV.giv i s.st.length)).getD t .junk);rw[Z0v (f:=PV.giv i s.st.length) rfl];exact hf _ _ (h.tmps t (by simpa using ht))
@[go_sem] theorem K4c {i:Nat}{pa:List PV}{L st:Q0f}{T:List (Nat×Nat)} :(PFS.mk pa L T st).give i=⟨pa.map (PV.giv i st.length),(L.map fun l=>l.map (PV.giv i st.length)).set i [],T,st++ [(L.getD i []).map PV.forget2]⟩:=(rfl)
attribute [go_sem] PV.giv PV.giv1
@[go_sem] theorem Y4b {ps:List PV}{b:List Bool}{p:PV} :noL (false::b) (p::ps)=p::noL b ps:=(rfl)
theorem H0w {P:Program}{E:Ent}{c:Code}{Q:Exit->PFS->Prop}{s:PFS}(i:Nat)(hi:s.freezeOK i)(hne:s.L.getD i []≠ [])(h:PWP P E c Q (s.give i)):PWP P E c Q s:=K0l (G2a i hi hne) h
def numV (v:Vl):Nm×Int:=
 if v.m=0 then(default,0) else if 64<(Q0p v.m).length\/v.e< -65536\/65536<v.e then(default,2) else(⟨v.neg,v.e,Q0p v.m⟩,0)
def V1u (neg:Bool)(w:List UInt64)(e:Int):Nm×Int:=
 if valW w=0 then(default,0) else if 65536<e\/e< -65536-(tz (valW w):Int) then(default,2) else numV (oddV neg (valW w) e)
def okV (v:Vl):Prop:=v.m % 2=1\/v.m=0
theorem H3j (neg:Bool)(m:Nat)(e:Int):okV (oddV neg m e):=by unfold oddV okV;split;exact .inr rfl;exact .inl (G0j m (by assumption))
theorem w0r (l:List UInt64):valW l % 2=(l.getD 0 0).toNat % 2:=by
 cases l with
 | nil=>rfl
 | cons x l=>
  have:=V0n [x] l;have h1:valW [x]=x.toNat:=(by simp[valW,nW,val]);rw[show x::l= [x]++l from rfl,this,h1];simp only[List.length_singleton,List.singleton_append,List.getD_cons_zero,Nat.pow_one];omega
theorem X0t :Q0h (default:Nm)=true:=by decide
theorem K0t {v:Vl}(h:okV v):Q0h (numV v).1=true:=by unfold numV;split;exact X0t;rename_i h0;split;exact X0t;rename_i h1;have hw:Q0p v.m≠ []:=fun e=>h0 (wordsOf_nil.1 e);unfold Q0h;rw[if_neg hw,G0b];have h2:=w0r (Q0p v.m);rw[Z0i] at h2;have h3:v.m % 2=1:=h.resolve_right h0;simp only[q_i,decide_eq_true_eq];refine⟨⟨⟨⟨trivial,?_⟩,?_⟩,?_⟩,?_⟩<;>omega
theorem Q2c {x:Nm}(h:Q0h x=true):okV (ofN x):=by unfold okV ofN;simp only;by_cases hw:x.w= [];rw[hw];exact .inr rfl;unfold Q0h at h;rw[if_neg hw] at h;simp only[q_i,decide_eq_true_eq] at h;exact .inl (by rw[w0r];exact h.1.1.2)
theorem j1g (neg:Bool)(w:List UInt64)(e:Int):Q0h (V1u neg w e).1=true:=by unfold V1u;split;exact X0t;split;exact X0t;exact K0t (H3j _ _ _)
theorem K2a (e:Int):mkV 0 e=⟨false,0,0⟩:=by simp[mkV,oddV]
theorem natAbs_pow (s:Int)(j:Nat):(s*2^j).natAbs=s.natAbs*2^j:=by rw[Int.natAbs_mul,Int.natAbs_pow];rfl
theorem w2v (m j:Nat)(h:m≠0):tz (m*2^j)=tz m+j:=by
 obtain⟨q,hq,e⟩:=Z1d m h;have:m*2^j=2^(tz m+j)*q:=by
  conv=>lhs;rw[e]
  rw[Nat.pow_add,Nat.mul_assoc,Nat.mul_assoc,Nat.mul_comm q]
 rw[this,x1l _ _ hq]
def pk (a:List UInt32)(k:Nat):List UInt64:=(List.range k).map fun j=>UInt64.ofNat ((a.getD (2*j) 0).toNat+4294967296*(a.getD (2*j+1) 0).toNat)
theorem z0a (a:List UInt32)(k:Nat):(pk a k).length=k:=by simp[pk]
theorem y1w (a:List UInt32)(k:Nat):pk a (k+1)=pk a k++ [UInt64.ofNat ((a.getD (2*k) 0).toNat+4294967296*(a.getD (2*k+1) 0).toNat)]:=by simp[pk,List.range_succ]
theorem y1v (a:List UInt32)(k:Nat):(UInt64.ofNat ((a.getD (2*k) 0).toNat+4294967296*(a.getD (2*k+1) 0).toNat)).toNat=(a.getD (2*k) 0).toNat+4294967296*(a.getD (2*k+1) 0).toNat:=by have h1:=(a.getD (2*k) 0).toNat_lt;have h2:=(a.getD (2*k+1) 0).toNat_lt;exact Z0s _ oG
theorem G2f (a:List UInt32): ∀k,valW (pk a k)=valD (a.take (2*k))
 | 0=>rfl
 | k+1=>by
  rw[y1w,V0n,G2f a k,z0a,show 2*(k+1)=2*k+1+1 from oG,K0n,K0n];have h1:valW [UInt64.ofNat ((a.getD (2*k) 0).toNat+4294967296*(a.getD (2*k+1) 0).toNat)]=(a.getD (2*k) 0).toNat+4294967296*(a.getD (2*k+1) 0).toNat:=by simp only[valW,nW,val,List.map,Nat.mul_zero,Nat.add_zero];exact y1v a k
  have h2:18446744073709551616^k=4294967296^(2*k):=(by rw[Nat.pow_mul]);rw[h1,h2,Nat.pow_succ,Nat.mul_add,Nat.mul_assoc,Nat.add_assoc]
theorem v1z (l:List UInt32)(h:l≠ []):(cutD l).length=l.length<->l.getD (l.length-1) 0≠0:=by obtain⟨i,x,rfl⟩: ∃i x,l=i++ [x]:=⟨l.dropLast,l.getLast h,(List.dropLast_concat_getLast h).symm⟩;rw[v1y];have e:(i++ [x]).getD ((i++ [x]).length-1) 0=x:=(by simp[q_a]);rw[e];have:=z3p i;by_cases hx:x=0;simp[hx];omega;simp[hx]
theorem Q3u (m:Nat):pk (Q0g m) (((Q0g m).length+1)/2)=Q0p m:=by have hv:valW (pk (Q0g m) (((Q0g m).length+1)/2))=m:=(by rw[G2f,List.take_of_length_le oG,Z0g]);have hw:Q0p m=cutW (pk (Q0g m) (((Q0g m).length+1)/2)):=(by rw[<-Z0a,hv]);rw[hw];have hl:=z0a (Q0g m) (((Q0g m).length+1)/2);refine(Z2i _ _ (Nat.le_refl _) (fun j h1 h2=>oG) ?_|>.trans (List.take_length ..)).symm;by_cases h0:Q0g m= [];exact .inl (by rw[hl,h0];rfl);refine .inr fun e=> ?_;have hc:cutD (Q0g m)≠ []:=(by rw[x0f];exact h0);have hp:=List.length_pos_iff.2 h0;have hlast:(Q0g m).getD ((Q0g m).length-1) 0≠0:=(by have hr:(cutD (Q0g m)).length=(Q0g m).length:=(by rw[x0f]);exact(v1z _ h0).1 hr);rw[hl] at e;obtain⟨k,hk⟩: ∃k,((Q0g m).length+1)/2=k+1:=⟨((Q0g m).length+1)/2-1,oG⟩;rw[hk,y1w] at e;have e1:(pk (Q0g m) k++ [UInt64.ofNat (((Q0g m).getD (2*k) 0).toNat+4294967296*((Q0g m).getD (2*k+1) 0).toNat)]).getD (k+1-1) 0=UInt64.ofNat (((Q0g m).getD (2*k) 0).toNat+4294967296*((Q0g m).getD (2*k+1) 0).toNat):=(by rw[q_a,List.getElem?_append_right (by rw[z0a];omega),z0a];simp);rw[e1] at e;have e2:=(J1m _).1 e;rw[y1v] at e2;have:(Q0g m).length-1=2*k\/(Q0g m).length-1=2*k+1:=oG;rcases this with h | h;rw[h] at hlast;exact hlast ((k0e _).2 oG);rw[h] at hlast;exact hlast ((k0e _).2 oG)
theorem Q0o {x:Nm}(h:Q0h x=true):wN x:=x0q (Z0n h)
theorem H2m {x:Ivl}(h:Q0w x=true):wI x:=⟨Q0o (Q0x h).1,Q0o (Q0x h).2.1⟩
def betw (a b:Nm):Ivl:=if 0<cmpR a b then⟨b,a⟩ else⟨a,b⟩
theorem U2h {a b:Nm}(ha:Q0h a=true)(hb:Q0h b=true):Q0w (betw a b)=true:=by have e:cmpR a b=cmpN a b:=if_pos ⟨ha,hb⟩;unfold betw;rw[e];split;exact j0d hb ha (by have:=Y1e a b;simp only;omega);exact j0d ha hb (by simp only;omega)
theorem v0w {a:Nm}(ha:Q0h a=true):Q0w ⟨a,a⟩=true:=j0d ha ha (by have:=k0a a;simp only;omega)
theorem x1t {α:Type}(a:List α)(x:α)(i:Nat)(d:α)(h:i<a.length):(a++ [x]).getD i d=a.getD i d:=by rw[q_a,List.getElem?_append_left h,<-q_a]
theorem X1s {α:Type}(a:List α)(x:α)(d:α):(a++ [x]).getD a.length d=x:=by rw[q_a,List.getElem?_append_right (Nat.le_refl _)];simp
theorem G0v {b:List Ivl}(h:rightB b=true):wB b:=⟨by have:=Y0b h;omega,fun i hi=>H2m (U1v h i hi)⟩
set_option maxRecDepth 100000
open Go Go.Proofs Go.ChangeShapes Go.WideShapes Go.ChangeAt Go.RowKit
theorem Z2r {P:Program}{f:FuncId}{vs:Array Value}{ps:List PV}{w:World}(ht:TabOK w (allG w))(h:PCalls P f ps [] (fun r st'=>r= .sc (.bool true)))(hr:Reps w (allG w) vs ps):
 Calls P f vs w (fun e w'=>e= .returned (.bool true)/\Below w.heap.size w w'):=by
 refine(h w (allG w) vs (W2a w ht) hr).mono ?_;rintro e w' ⟨v,g',r,st,rfl,hx,hs,hrr,rfl⟩;refine⟨?_,hx.os,hx.tape,hx.output,hx.size,fun k hk=>(hx.old k hk (fun i hi=>by simp[allG] at hi)).1⟩;have:Rep w' g' v (.sc (.bool true)):=hrr;rw[this.sc_inv]
theorem q2r :ownKnob Tryz.prog.godebug=none:=by kernel_rfl
theorem Q2o :laidOutB Tryz.prog=true:=by kernel_rfl
open Go Go.Proofs Go.ChangeShapes Go.WideShapes Go.ChangeAt Go.RowKit Go.Proofs.YtldalepagmhnmaaGreatDoor.Rows
section
variable {P:Program} {t e:TypeId} {W:World} {base:Nat} {v:Value} {H:Type} {tok:TypeId×Value->H} {d:DataW H} {p:List MemPlace}
theorem x3g {α:Type}{enc:α->List PV}{ok:Nat->α->Prop}(hT:Ty P t 1 (fun l:α=> [.sl .no (enc l)]) ok)(hu:P.underlying t=some (.slice e))(hv:Value.okWide P W .any base t v)
 (hd:DataW.Trod tok P W 0 (fun _=>true) true t v d p): ∃l,Rep W (allG W) v (.sl .no (enc l))/\ok (uptoBulk d) l:=by
 obtain⟨a,len,cap,rfl⟩:=okWide_slice hu hv;obtain⟨fuel,hf⟩:=hd;obtain⟨l,_,hrep,hok⟩:=hT.rd tok W fuel _ _ hf;exact⟨l,hrep 0 oG,hok⟩
end
end Go.Pv
end
