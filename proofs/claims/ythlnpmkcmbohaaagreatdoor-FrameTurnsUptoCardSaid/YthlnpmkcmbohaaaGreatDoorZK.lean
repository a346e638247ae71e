/- Parts of the walk: PvZ, G1, PvAa, M10, M11, M12, G2, G3. -/
import Derived.Test.YthlnpmkcmbohaaaGreatDoorRows
import Derived.Test.YthlnpmkcmbohaaaGreatDoorZE
import Derived.ProofKit
import Derived.OpenShut
import Derived.JoinedCond
import Derived.ChangeSame
import Derived.Carry
set_option linter.unusedVariables false
set_option linter.unusedSimpArgs false
section
namespace Go.Pv
open Go.Proofs Go.ChangeShapes Go.WideShapes Go.ChangeAt Go.RowKit
open Go.Proofs.YthlnpmkcmbohaaaGreatDoor.Rows (uptoBulk uptoBulkAll)
def zy (w:World):Gh:=⟨0,fun _=>0,fun b=>match w.heap[b]? with | some (.cells c _ _)=>c.size | _=>0⟩
theorem jU {w:World}{b o:Nat}{c:Value}(h:w.cell? ⟨b,o,none⟩=some c):o<(zy w).vis b:=by unfold World.cell? at h;simp only[zy];split at h;rename_i c' t f hh;simp only at hh;rw[hh];simp at h;exact(C3.1 h).1;cases h
theorem V0t (w:World)(ht:TabOK w (zy w)):StoreOK w (zy w) []:=by refine⟨rfl,fun i j hi=>by simp[zy] at hi,fun i hi=>by simp[zy] at hi,fun i hi=>by simp[zy] at hi,fun i hi=>by simp[zy] at hi,fun b hb=> ?_,ht⟩;simp only[zy];rw[F0 hb]
theorem V1n {H:Type}(d:DataW H):1<=uptoBulk d:=by
 cases d with
 | lit l=>cases l<;>simp[uptoBulk]
 | nil=>simp[uptoBulk]
 | ptr d=>simp[uptoBulk]
 | slice elems spare=>simp[uptoBulk]
 | agg parts=>simp[uptoBulk]
 | iface t d=>simp[uptoBulk]
 | map entries=>simp[uptoBulk]
 | held h=>simp[uptoBulk]
theorem G7 {H:Type}{d:DataW H}{l:List (DataW H)}(h:d∈l):uptoBulk d<=uptoBulkAll l:=by
 induction l with
 | nil=>cases h
 | cons x r ih=>
  simp only[uptoBulkAll];cases EA.1 h with
  | inl e=>subst e;omega
  | inr e=>have:=ih e;omega
theorem Z0s {H:Type}(l:List (DataW H)):l.length<=uptoBulkAll l:=by
 induction l with
 | nil=>simp[uptoBulkAll]
 | cons x r ih=>have:=V1n x;simp only[uptoBulkAll,C1];omega
structure Ty (P:Program) (t:TypeId) (n:Nat) {α:Type} (enc:α->List PV) (ok:Nat->α->Prop):Prop where
 cells:P.cellsOf t=n
 len: ∀x,(enc x).length=n
 mono: ∀ {k k' x},ok k x->k<=k'->ok k' x
 rd: ∀ {H:Type} (tok:TypeId×Value->H) (w:World) (fuel:Nat) (cs:List Value) (x:DataW H×List MemPlace),
  DataW.trod tok P w 0 (fun _=>true) true fuel t cs=some x-> ∃y,cs.length=n/\(∀j,j<n->Rep w (zy w) (cs.getD j undef) ((enc y).getD j .junk))/\ok (uptoBulk x.1) y
section
variable {P:Program} {t e:TypeId}
theorem k1u {n:Nat}{α β:Type}{enc:α->List PV}{ok:Nat->α->Prop}(h:Ty P t n enc ok)(f:α->β){enc':β->List PV}{ok':Nat->β->Prop}(he: ∀x,enc' (f x)=enc x)(hl: ∀x,(enc' x).length=n)(hok: ∀k x,ok k x->ok' k (f x))(hm: ∀ {k k' x},ok' k x->k<=k'->ok' k' x):Ty P t n enc' ok':=
 ⟨h.cells,hl,hm,fun tok w fuel cs x hx=>by obtain⟨y,h1,h2,h3⟩:=h.rd tok w fuel cs x hx;exact⟨f y,h1,by rw[he];exact h2,hok _ _ h3⟩⟩
theorem k1t (hu:P.underlying t=some (.int .u64))(hc:P.cellsOf t=1):Ty P t 1 (fun c:UInt64=> [.sc (.int .u64 c.toNat)]) (fun _ _=>True):=
 ⟨hc,fun _=>rfl,fun _ _=>trivial,fun tok w fuel cs x hx=>by obtain⟨n,rfl,_,hw⟩:=DataW.trod_int hu hx;have hr:0<=n/\n<=18446744073709551615:=(by simpa[Lit.wf,IntKind.min,IntKind.max,IntKind.signed,IntKind.bits] using hw);have e:n=((UInt64.ofNat n.toNat).toNat:Int):=(by rw[FF];omega);refine⟨UInt64.ofNat n.toNat,rfl,fun j hj=> ?_,trivial⟩;have:j=0:=oG;subst this;rw[<-e];exact .sc _⟩
theorem ya {w:World}{b:Addr}{n:Nat}{cs:List Value}(h:w.cells? 0 b n=some cs):cs.length=n/\ ∀j,j<n->w.cell? (b.add j)=some (cs.getD j undef):=by
 unfold World.cells? at h;rw[BC (CX _)] at h;have key: ∀(l:List Nat) (cs:List Value),(l.mapM fun i=>w.cell? (b.add i))=some cs->cs.length=l.length/\ ∀j,j<l.length->w.cell? (b.add (l.getD j 0))=some (cs.getD j undef):=by
  intro l
  induction l with
  | nil=>intro cs h;simp at h;subst h;exact⟨rfl,fun j hj=>by simp at hj⟩
  | cons i l ih=>
   intro cs h;rw[List.mapM_cons] at h;simp only[Option.bind_eq_bind,Option.bind_eq_some_iff] at h;obtain⟨c,h1,cs',h2,h3⟩:=h;cases h3;obtain⟨a1,a2⟩:=ih cs' h2;refine⟨by simp[a1],fun j hj=> ?_⟩;cases j with
   | zero=>simpa using h1
   | succ j=>simpa using a2 j (by simpa using hj)
 obtain⟨h1,h2⟩:=key _ _ h;simp at h1;refine⟨h1,fun j hj=> ?_⟩;have:=h2 j (by simpa using hj);simpa[q_a,hj] using this
theorem y0b {n:Nat}{α:Type}{enc:α->List PV}{ok:Nat->α->Prop}[Inhabited α](hu:P.underlying t=some (.slice e))(hc:P.cellsOf t=1)(he:Ty P e n enc ok)(hn:0<n)(elem:α->PV)(hel: ∀x,(elem x).cells=enc x):
 Ty P t 1 (fun l:List α=> [.sl .no (l.map elem)]) (fun k l=>l.length<=k/\ ∀i,i<l.length->ok k (l.getD i default)):=
 ⟨hc,fun _=>rfl,fun h hk=>⟨B7 h.1 hk,fun i hi=>he.mono (h.2 i hi) hk⟩,fun tok w fuel cs x hx=>by
  rcases DataW.trod_slice hu hx with ⟨rfl,_⟩ | ⟨a,len,cap,elems,rest,m,_,rfl,hxe,_,hlc,_,hlen,hel1,hrest,_⟩;refine⟨[],rfl,fun j hj=> ?_,by simp,fun i hi=>by simp at hi⟩;have:j=0:=oG;subst this;exact .nil .no none rfl
  . rw[he.cells] at hel1 hrest;have hel2: ∀i,i<len-> ∃(cs':List Value) (y:DataW _×List MemPlace) (v:α),elems[i]?=some y/\cs'.length=n/\(∀j,j<n->w.cell? ((a.add (i*n)).add j)=some (cs'.getD j undef))/\(∀j,j<n->Rep w (zy w) (cs'.getD j undef) ((enc v).getD j .junk))/\ok (uptoBulk y.1) v:=fun i hi=>by have h1:=hel1 i hi;rw[BB (by omega:i<elems.length)] at h1;simp only[Option.bind_eq_some_iff] at h1;obtain⟨cs',c1,c2⟩:=h1;obtain⟨d1,d2⟩:=ya c1;obtain⟨v,v1,v2,v3⟩:=he.rd tok w m cs' _ c2;exact⟨cs',_,v,BB oG,d1,d2,v2,v3⟩
    have hpick: ∀i:Nat,∃p:List Value×α,i<len-> ∃y:DataW _×List MemPlace,elems[i]?=some y/\(∀j,j<n->w.cell? ((a.add (i*n)).add j)=some (p.1.getD j undef))/\(∀j,j<n->Rep w (zy w) (p.1.getD j undef) ((enc p.2).getD j .junk))/\ok (uptoBulk y.1) p.2:=fun i=>by by_cases hi:i<len;obtain⟨cs',y,v,h1,h2,h3,h4,h5⟩:=hel2 i hi;exact⟨(cs',v),fun _=>⟨y,h1,h3,h4,h5⟩⟩;exact⟨([],default),fun h=>absurd h hi⟩
    obtain⟨pf,hpf⟩:=Classical.axiomOfChoice hpick;have hbulk:uptoBulk x.1=uptoBulkAll (elems.map (·.1))+uptoBulkAll (rest.map (·.1))+1:=(by rw[hxe];simp[uptoBulk]);have hgl: ∀i,i<len->((List.range len).map fun i=>(pf i).2).getD i default=(pf i).2:=fun i hi=>(by simp[q_a,hi]);refine⟨(List.range len).map fun i=>(pf i).2,rfl,fun j hj=> ?_,?_,fun i hi=> ?_⟩
    . have:j=0:=oG;subst this;show Rep w (zy w) (.slice (some a) len cap) (.sl .no _);by_cases h0:cap=0;have hl0:len=0:=oG;subst hl0;subst h0;exact .nil .no (some a) rfl
      . --the first cell lies there
        have hfirst: ∃c,w.cell? a=some c:=by by_cases hl0:len=0;have:=(hrest rfl).2 0 oG;have hr:=(hrest rfl).1;rw[BB (by omega:0<rest.length)] at this;simp only[Option.bind_eq_some_iff] at this;obtain⟨cs',c1,_⟩:=this;have:=(ya c1).2 0 hn;have e0:(a.add ((len+0)*n)).add 0=a:=(by subst hl0;simp[Addr.add]);rw[e0] at this;exact⟨_,this⟩;obtain⟨y,_,h3,_⟩:=hpf 0 oG;have:=h3 0 hn;have e0:(a.add (0*n)).add 0=a:=(by simp[Addr.add]);rw[e0] at this;exact⟨_,this⟩
        obtain⟨c0,hc0⟩:=hfirst;obtain⟨b,off,spot⟩:=a;have hs:spot=none:=World.cell?_spot hc0;subst hs;have hlen2:((List.range len).map fun i=>elem (pf i).2).length=len:=(by simp);have hge: ∀i,i<len->(((List.range len).map fun i=>elem (pf i).2).getD i .junk)=elem (pf i).2:=fun i hi=>(by simp[q_a,hi]);have hmm:((List.range len).map fun i=>(pf i).2).map elem=(List.range len).map fun i=>elem (pf i).2:=(by simp[DZ,Function.comp_def]);rw[hmm];have hcell: ∀i j,i<len->j<n->w.cell? ⟨b,off+i*n+j,none⟩=some ((pf i).1.getD j undef):=fun i j hi hj=>(by obtain⟨y,_,h3,_⟩:=hpf i hi;have:=h3 j hj;have e1:((⟨b,off,none⟩:Addr).add (i*n)).add j=⟨b,off+i*n+j,none⟩:=(by rw[Addr.add_mid,Addr.add_mid]);rw[e1] at this;exact this);have:=Rep.sl (w:=w) (g:=zy w) .no ((List.range len).map fun i=>elem (pf i).2) b off n cap (fun i j=>(pf i).1.getD j undef) rfl (fun h=>by cases h) (by rw[hlen2];exact hlc)
         (fun i hi=>by rw[hlen2] at hi;rw[hge i hi,hel,he.len]) ?_ (fun i j hi hj=>by rw[hlen2] at hi;exact hcell i j hi hj) (fun i j hi hj=>by rw[hlen2] at hi;rw[hge i hi,hel];obtain⟨y,_,_,h4,_⟩:=hpf i hi;exact h4 j hj)
        rw[hlen2] at this;exact this
        . intro _;rw[hlen2];by_cases hl0:len=0;subst hl0;have:=jU hc0;omega
          . have:=jU (hcell (len-1) (n-1) oG oG);have e2:(len-1)*n+n=len*n:=by
             have:len=(len-1)+1:=oG
             conv=>rhs;rw[this,BQ,CY]
            omega
    have:=Z0s (elems.map (·.1));simp at this⊢;omega;have hi':i<len:=(by simpa using hi);rw[hgl i hi'];obtain⟨y,h1,_,_,h5⟩:=hpf i hi';refine he.mono h5 ?_;have hm:y.1∈elems.map (·.1):=CF.2 ⟨y,List.mem_of_getElem? h1,rfl⟩;have:=G7 hm;omega⟩
def J2v (P:Program)(fl:List Field)(base n:Nat){α:Type}(enc:α->List PV)(ok:Nat->α->Prop):Prop:=
 (∀x,(enc x).length=n)/\(∀ {k k' x},ok k x->k<=k'->ok k' x)/\
 ∀ {H:Type} (tok:TypeId×Value->H) (w:World) (fuel:Nat) (cs:List Value) (xs:List (DataW H×List MemPlace)),xs.length=fl.length->
  (∀(i:Nat) (f:Field),fl[i]?=some f->DataW.trod tok P w 0 (fun _=>true) true fuel f.type ((cs.drop f.offset).take (P.cellsOf f.type))=xs[i]?)->
  ∃y,(∀j,j<n->Rep w (zy w) (cs.getD (base+j) undef) ((enc y).getD j .junk))/\ok (uptoBulkAll (xs.map (·.1))) y
end
theorem UC {H:Type}{enc:TypeId×Value->H}{P:Program}(hl:laidOutB P=true){W W':World}(hb:Below W.heap.size W W'){sp:Nat->Bool} :
 ∀ {ts:List TypeId} {vs:List Value} {ds:List (DataW H)} {ps:List MemPlace},(∀t∈ts,P.readableRec t=true/\t<P.types.size)->DataW.TrodAll enc P W 0 (fun _=>true) true ts vs ds ps->
  (∀p∈ps,p.block<W.heap.size)->(∀p∈ps,sp p.block=true)->DataW.TrodAll enc P W' 0 sp true ts vs ds ps
 | [],_,_,_,hr,h,h1,h2=>by obtain⟨rfl,rfl,rfl⟩:=trodAll_nil h;exact trodAll_mk0
 | t::ts,_,_,_,hr,h,h1,h2=>by
  obtain⟨v,vs,d,ds,p,q,rfl,rfl,rfl,hd,hrest⟩:=trodAll_cons h;refine⟨p,q,WideElems.Trod_stays hl (hr t DG).1 (hr t DG).2 hd (fun x hx=>hb.same (h1 x (List.mem_append_left _ hx))) (fun x hx=>h2 x (List.mem_append_left _ hx)),
   UC hl hb (fun t ht=>hr t (DL _ ht)) hrest (fun x hx=>h1 x (List.mem_append_right _ hx)) (fun x hx=>h2 x (List.mem_append_right _ hx)),rfl⟩
theorem GW {H:Type}{enc:TypeId×Value->H}{P:Program}{f:Func}{s:ChangeSpec}{apart fresh handsOn again:Bool}{W W':World}{args:Array Value}{ds gs:List (DataW H)}{before:List MemPlace}{tb:TypeId}
 (hl:laidOutB P=true) (hr: ∀t∈f.params.toList,P.readableRec t=true/\t<P.types.size) (hs:s.vars= [])
 (hW:DataW.Whole enc P f.params.toList s.vars apart W args.toList ds gs before) (hfn:s.fn H (ds++gs)= { results:= [.lit (.bool true)],args:=ds }) (hb:Below W.heap.size W W')
 (hres:f.resultTypes= #[tb]) (ht:P.underlying tb=some .bool):s.post enc P f apart fresh handsOn again W args (.bool true) W':=by
 have hlt: ∀p∈before,p.block<W.heap.size:=fun p hp=>hW.lt p hp;have hW':=hW;obtain⟨p,q,hA,hV,hpq,hz,hn⟩:=hW;rw[hs] at hV;obtain⟨rfl,rfl⟩:=trodVars_none hV;rw[B9] at hpq;subst hpq;have hargs: ∀sp:Nat->Bool,(∀x∈before,sp x.block=true)->DataW.TrodAll enc P W' 0 sp true f.params.toList args.toList (s.fn H (ds++ [])).args before:=fun sp hsp=>by rw[hfn];exact UC hl hb hr hA hlt hsp
 have hresT: ∀(b:Nat) (sp:Nat->Bool) (hd:Bool),DataW.TrodAll enc P W' b sp hd f.resultTypes.toList ((Value.bool true).resultList f.resultTypes.size) (s.fn H (ds++ [])).results []:=fun b sp hd=>by rw[hfn,hres];exact trodAll_mk1 (shut_bool ht _)
 have hvars: ∀sp:Nat->Bool,DataW.TrodVars enc P W' sp s.vars (s.fn H (ds++ [])).vars []:=fun sp=>by rw[hfn,hs];exact rfl
 refine⟨ds,[],before,[],before,[],hW',hresT _ _ _,hargs _ (fun x hx=>by simpa using hlt x hx),hvars _,World.keptBut_mono (fun x hx=>⟨hx,.inr (.inl hx)⟩) (hb.frame _),fun _=> ?_⟩;refine⟨ok_one hres rfl (okWide_bool_mk ht _),_,_,([]++before)++ [],⟨[]++before,[],trodAll_append (hargs _ (fun _ _=>rfl)) (hresT _ _ _),hvars _,rfl,?_,?_⟩,?_⟩;intro b off hp;have hp':MemPlace.cell b off∈before:=(by simpa using hp);rw[hb.frozen (p:=⟨b,off,none⟩) (hlt _ hp')];exact hz b off hp';intro ha;simpa using hn ha;intro x hx _;simpa using hx
open Go.Proofs
theorem yz :Ty Tryz.prog 22 1 (fun l:List UInt64=> [.sl .no (Q2 l)]) (fun k l=>l.length<=k):=
 k1u (y0b Tryz.underlying22 (by kernel_rfl) (k1t Tryz.underlying70 (by kernel_rfl)) (by decide) (fun c=> .sc (.int .u64 c.toNat)) (fun _=>rfl)) id (fun _=>rfl) (fun _=>rfl) (fun _ _ h=>h.1) (fun h hk=>B7 h hk)
theorem Hy {H:Type}{l:List (DataW H)}(hk:Go.Proofs.YthlnpmkcmbohaaaGreatDoor.Rows.uptoSmall H l=true):Go.Proofs.YthlnpmkcmbohaaaGreatDoor.Rows.uptoBulkAll l<=1048576:=by simpa[Go.Proofs.YthlnpmkcmbohaaaGreatDoor.Rows.uptoSmall] using hk
def PV.giv1 (i n:Nat):PV->PV
 | .lp k off=>if k=i then .gp n off else .lp k off
 | .ms false k off len=>if k=i then .ms true n off len else .ms false k off len
 | p=>p
def PV.giv (i n:Nat):PV->PV
 | .agg l=> .agg (l.map (PV.giv1 i n))
 | .tup l=> .tup (l.map (PV.giv1 i n))
 | .fn f l m=> .fn f (l.map (PV.giv1 i n)) (m.map (PV.giv1 i n))
 | p=>p.giv1 i n
def PFS.give (i:Nat)(s:PFS):PFS:=
 ⟨s.pa.map (PV.giv i s.st.length),(s.L.map fun l=>l.map (PV.giv i s.st.length)).set i [],s.T,s.st++ [(s.L.getD i []).map PV.forget2]⟩
section
variable {w:World} {g g':Gh} {F:Fr} {T:List (Nat×Nat)} {i n:Nat}
theorem RepF.giv1 {v:Value}{p:PV}(hm: ∀v p,RepF w g F T v p->RepF w g' F T v p)(hn:n<g'.n)(hz:g'.mu n=F.lmu i)(h:RepF w g F T v p):RepF w g' F T v (p.giv1 i n):=by
 have h':=hm _ _ h;cases p with
 | lp k off=>
  simp only[PV.giv1];split;rename_i e;subst e;cases h' with
  | base _ _ h'=>cases h'
  | lp k off hi=>
   rw[<-hz];exact .base _ _ (.gp n off hn)
  exact h'
 | ms gl k off len=>
  cases gl with
  | true=>exact h'
  | false=>
   simp only[PV.giv1];split;rename_i e;subst e;cases h' with
   | base _ _ h'=>cases h'
   | lms k off len cap hi hcap=>
    rw[<-hz];exact .base _ _ (.gms n off len cap hn hcap)
   exact h'
 | _=>exact h'
theorem RepF.giv {v:Value}{p:PV}(hm: ∀v p,RepF w g F T v p->RepF w g' F T v p)(hn:n<g'.n)(hz:g'.mu n=F.lmu i)(h:RepF w g F T v p):RepF w g' F T v (p.giv i n):=by
 have gm: ∀(l:List PV) (j:Nat),(l.map (PV.giv1 i n)).getD j .junk=(l.getD j .junk).giv1 i n:=fun l j=>QU rfl l j;cases p with
 | agg l=>
  cases h with
  | base _ _ h=>
   cases h with
   | agg vs cs' hl h=>exact .agg vs _ (by simpa using hl) fun j hj=>by rw[gm];exact RepF.giv1 hm hn hz (.base _ _ (h j (by simpa using hj)))
  | agg vs cs' hl h=>exact .agg vs _ (by simpa using hl) fun j hj=>by rw[gm];exact RepF.giv1 hm hn hz (h j (by simpa using hj))
 | tup l=>
  cases h with
  | base _ _ h=>
   cases h with
   | tup vs cs' hl h=>exact .tup vs _ (by simpa using hl) fun j hj=>by rw[gm];exact RepF.giv1 hm hn hz (.base _ _ (h j (by simpa using hj)))
  | tup vs cs' hl h=>exact .tup vs _ (by simpa using hl) fun j hj=>by rw[gm];exact RepF.giv1 hm hn hz (h j (by simpa using hj))
 | fn f l m=>
  cases h with
  | base _ _ h=>
   cases h with
   | fn f us vs bs cs' hk hl h0 h=>
    exact .fn f us vs _ _ (by simpa using hk) (by simpa using hl) (fun j hj=>by rw[gm];exact RepF.giv1 hm hn hz (.base _ _ (h0 j (by simpa using hj)))) fun j hj=>by rw[gm];exact RepF.giv1 hm hn hz (.base _ _ (h j (by simpa using hj)))
  | fn f us vs bs cs' hk hl h0 h=>
   exact .fn f us vs _ _ (by simpa using hk) (by simpa using hl) (fun j hj=>by rw[gm];exact RepF.giv1 hm hn hz (h0 j (by simpa using hj))) fun j hj=>by rw[gm];exact RepF.giv1 hm hn hz (h j (by simpa using hj))
 | _=>exact RepF.giv1 hm hn hz h
end
theorem U0w {E:Ent}{s:PFS}(i:Nat)(hi:s.freezeOK i)(hne:s.L.getD i []≠ []):U0f E s (s.give i):=by
 intro a w g F h;obtain⟨l1,l2,l3⟩:=h.frame.lo i hne;have hall:=List.all_eq_true.1 hi
 let g':Gh:= { g with n:=g.n+1,mu:=fun k=>if k=g.n then F.lmu i else g.mu k }
 have hmu: ∀k,k<g.n->g'.mu k=g.mu k:=fun k hk=>BA oG;have hmun:g'.mu g.n=F.lmu i:=BC rfl;have hLe:Le w g w g':=⟨Nat.le_succ _,hmu,fun _=>BD _,fun _ _ _ _ hc=>hc⟩;have htok:GC w g F s.T w g' F s.T:=⟨BD _,fun k hk=>⟨BD _,fun _ v es hR=>hR.mono fun b hb=>⟨rfl,rfl⟩⟩⟩;have hm: ∀v p,RepF w g F s.T v p->RepF w g' F s.T v p:=fun v p hr=>hr.mono hLe (BD _) (fun _ _=>rfl) htok;have en:s.st.length=g.n:=h.store.n.symm;have hf: ∀v p,RepF w g F s.T v p->RepF w g' F s.T v (p.giv i s.st.length):=fun v p hp=>RepF.giv hm (by rw[en];exact Nat.lt_succ_self _) (by rw[en];exact hmun) hp;have hL: ∀k,((s.L.map fun l=>l.map (PV.giv i s.st.length)).set i []).getD k []≠ []->k≠i/\s.L.getD k []≠ []/\((s.L.map fun l=>l.map (PV.giv i s.st.length)).set i []).getD k []=(s.L.getD k []).map (PV.giv i s.st.length):=fun k hk=>by
  by_cases hki:i=k;subst hki;exfalso;apply hk;exact Xe _ _;have e:((s.L.map fun l=>l.map (PV.giv i s.st.length)).set i []).getD k []=(s.L.getD k []).map (PV.giv i s.st.length):=by rw[<-Jo (f:=fun l=>l.map (PV.giv i s.st.length)) rfl];simp[q_a,DR hki]
  exact⟨fun e=>hki e.symm,fun e0=>hk (by rw[e,e0];rfl),e⟩
 have hst0: ∀j,j<g.n->(s.st++ [(s.L.getD i []).map PV.forget2]).getD j []=s.st.getD j []:=fun j hj=>(by rw[q_a,B6 oG,<-q_a]);have hst1:(s.st++ [(s.L.getD i []).map PV.forget2]).getD g.n []=(s.L.getD i []).map PV.forget2:=(by rw[q_a,CA oG,<-en];simp);have hst:StoreOK w g' (s.st++ [(s.L.getD i []).map PV.forget2]):=(by refine⟨by simp[g',h.store.n],fun j k hj hk e=> ?_,fun j hj=> ?_,fun j hj hj0=> ?_,fun j hj=> ?_,h.store.none,h.store.tab⟩;have hj:j<g.n+1:=hj;have hk:k<g.n+1:=hk;by_cases e1:j=g.n;by_cases e2:k=g.n;omega;rw[e1,hmun,hmu k oG] at e;exact absurd e.symm (h.frame.apart i hne k oG);by_cases e2:k=g.n;rw[e2,hmun,hmu j oG] at e;exact absurd e (h.frame.apart i hne j oG);rw[hmu j oG,hmu k oG] at e;exact h.store.inj j k oG oG e;have hj:j<g.n+1:=hj;by_cases e1:j=g.n;rw[e1,hmun];exact l2;rw[hmu j oG];exact h.store.lt j oG;have hj:j<g.n+1:=hj;by_cases e1:j=g.n;rw[e1,hmun];exact l3;rw[hmu j oG];rw[hst0 j oG] at hj0;exact h.store.vis j oG hj0;have hj:j<g.n+1:=hj;by_cases e1:j=g.n;subst e1;rw[hmun,hst1];intro k hk;have hk':k<(s.L.getD i []).length:=(by simpa using hk);obtain⟨q1,c,q2,q3⟩:=h.frame.holds i hne k hk';refine⟨q1,c,q2,?_⟩;have e:((s.L.getD i []).map PV.forget2).getD k .junk=((s.L.getD i []).getD k .junk).forget2:=QU (f:=PV.forget2) rfl _ _;rw[e];exact(hm _ _ q3).forget2 (CR.1 (hall _ (Qq _ _ _ hk'))).1;rw[hmu j oG,hst0 j oG];exact(h.store.holds j oG).mono rfl fun v p hr=>hr.mono hLe);have hext:Ext E.w E.g w g':=(by refine⟨h.ext.le.trans hLe,h.ext.os,h.ext.tape,h.ext.output,h.ext.size,h.ext.old,fun j h1 h2=> ?_⟩;have h2:j<g.n+1:=h2;by_cases e1:j=g.n;rw[e1,hmun];exact l1;rw[hmu j oG];exact h.ext.new j h1 oG);refine⟨g',F,⟨hext,hst,⟨by simp[PFS.give,h.frame.nl],fun k hk=> ?_,fun k hk j hj=> ?_,fun k j hk hj=> ?_,fun k hk=> ?_,h.frame.tlo,fun k b hk hb=>⟨fun j hj=> ?_,fun j hj=> ?_⟩,h.frame.tinj⟩,h.defers,by simp[PFS.give,h.len],fun t ht=> ?_⟩⟩;exact h.frame.lo k (hL k hk).2.1;have hj:j<g.n+1:=hj;obtain⟨h1,h2,h3⟩:=hL k hk;by_cases e1:j=g.n;rw[e1,hmun];exact fun e=>h1 (h.frame.inj k i h2 hne e.symm);rw[hmu j oG];exact h.frame.apart k h2 j oG;exact h.frame.inj k j (hL k hk).2.1 (hL j hj).2.1;obtain⟨h1,h2,h3⟩:=hL k hk;show Holds w _ _ (((s.L.map fun l=>l.map (PV.giv i s.st.length)).set i []).getD k []);rw[h3];intro j hj;obtain⟨q1,c,q2,q3⟩:=h.frame.holds k h2 j (by simpa using hj);exact⟨q1,c,q2,by rw[QU (f:=PV.giv i s.st.length) rfl];exact hf _ _ q3⟩;have hj:j<g.n+1:=hj;by_cases e1:j=g.n;rw[e1,hmun];exact(h.frame.tapart k b hk hb).2 i hne;rw[hmu j oG];exact(h.frame.tapart k b hk hb).1 j oG;exact(h.frame.tapart k b hk hb).2 j (hL j hj).2.1;simp only[PFS.give] at ht⊢;show RepF w g' F s.T _ ((s.pa.map (PV.giv i s.st.length)).getD t .junk);rw[QU (f:=PV.giv i s.st.length) rfl];exact hf _ _ (h.tmps t (by simpa using ht))
@[go_sem] theorem V2m {i:Nat}{pa:List PV}{L st:Qf}{T:List (Nat×Nat)} :(PFS.mk pa L T st).give i=⟨pa.map (PV.giv i st.length),(L.map fun l=>l.map (PV.giv i st.length)).set i [],T,st++ [(L.getD i []).map PV.forget2]⟩:=(rfl)
attribute [go_sem] PV.giv PV.giv1
@[go_sem] theorem U2r {ps:List PV}{b:List Bool}{p:PV} :noL (false::b) (p::ps)=p::noL b ps:=(rfl)
theorem Yh {P:Program}{E:Ent}{c:Code}{Q:Exit->PFS->Prop}{s:PFS}(i:Nat)(hi:s.freezeOK i)(hne:s.L.getD i []≠ [])(h:PWP P E c Q (s.give i)):PWP P E c Q s:=Xv (U0w i hi hne) h
def Kg (v:Vl):Nm×Int:=
 if v.m=0 then(default,0) else if 64<(Qp v.m).length\/v.e< -65536\/65536<v.e then(default,2) else(⟨v.neg,v.e,Qp v.m⟩,0)
def qf (neg:Bool)(w:List UInt64)(e:Int):Nm×Int:=
 if Qi w=0 then(default,0) else if 65536<e\/e< -65536-(tz (Qi w):Int) then(default,2) else Kg (XH neg (Qi w) e)
def okV (v:Vl):Prop:=v.m % 2=1\/v.m=0
theorem H1o (neg:Bool)(m:Nat)(e:Int):okV (XH neg m e):=by unfold XH okV;split;exact .inr rfl;exact .inl (Kp m (by assumption))
theorem U8 (l:List UInt64):Qi l % 2=(l.getD 0 0).toNat % 2:=by
 cases l with
 | nil=>rfl
 | cons x l=>
  have:=Xz [x] l;have h1:Qi [x]=x.toNat:=(by simp[Qi,nW,val]);rw[show x::l= [x]++l from rfl,this,h1];simp only[List.length_singleton,FP,LD,Nat.pow_one];omega
theorem Zt :Qg (default:Nm)=true:=by decide
theorem ZG {v:Vl}(h:okV v):Qg (Kg v).1=true:=by unfold Kg;split;exact Zt;rename_i h0;split;exact Zt;rename_i h1;have hw:Qp v.m≠ []:=fun e=>h0 (wordsOf_nil.1 e);unfold Qg;rw[BA hw,Ka];have h2:=U8 (Qp v.m);rw[QA] at h2;have h3:v.m % 2=1:=h.resolve_right h0;simp only[q_i,BN];refine⟨⟨⟨⟨trivial,?_⟩,?_⟩,?_⟩,?_⟩<;>omega
theorem Q0a {x:Nm}(h:Qg x=true):okV (ofN x):=by unfold okV ofN;simp only;by_cases hw:x.w= [];rw[hw];exact .inr rfl;unfold Qg at h;rw[BA hw] at h;simp only[q_i,BN] at h;exact .inl (by rw[U8];exact h.1.1.2)
theorem kO (neg:Bool)(w:List UInt64)(e:Int):Qg (qf neg w e).1=true:=by unfold qf;split;exact Zt;split;exact Zt;exact ZG (H1o _ _ _)
theorem J0q (e:Int):mkV 0 e=⟨false,0,0⟩:=by simp[mkV,XH]
theorem natAbs_pow (s:Int)(j:Nat):(s*2^j).natAbs=s.natAbs*2^j:=by rw[Int.natAbs_mul,Int.natAbs_pow];rfl
theorem y0a (m j:Nat)(h:m≠0):tz (m*2^j)=tz m+j:=by
 obtain⟨q,hq,e⟩:=GH m h;have:m*2^j=2^(tz m+j)*q:=by
  conv=>lhs;rw[e]
  rw[B2,BW,BW,BM q]
 rw[this,kq _ _ hq]
def pk (a:List UInt32)(k:Nat):List UInt64:=(List.range k).map fun j=>UInt64.ofNat ((a.getD (2*j) 0).toNat+4294967296*(a.getD (2*j+1) 0).toNat)
theorem Vo (a:List UInt32)(k:Nat):(pk a k).length=k:=by simp[pk]
theorem yP (a:List UInt32)(k:Nat):pk a (k+1)=pk a k++ [UInt64.ofNat ((a.getD (2*k) 0).toNat+4294967296*(a.getD (2*k+1) 0).toNat)]:=by simp[pk,List.range_succ]
theorem yO (a:List UInt32)(k:Nat):(UInt64.ofNat ((a.getD (2*k) 0).toNat+4294967296*(a.getD (2*k+1) 0).toNat)).toNat=(a.getD (2*k) 0).toNat+4294967296*(a.getD (2*k+1) 0).toNat:=by have h1:=(a.getD (2*k) 0).toNat_lt;have h2:=(a.getD (2*k+1) 0).toNat_lt;exact QS _ oG
theorem G0a (a:List UInt32): ∀k,Qi (pk a k)=Zm (a.take (2*k))
 | 0=>rfl
 | k+1=>by
  rw[yP,Xz,G0a a k,Vo,show 2*(k+1)=2*k+1+1 from oG,ZW,ZW];have h1:Qi [UInt64.ofNat ((a.getD (2*k) 0).toNat+4294967296*(a.getD (2*k+1) 0).toNat)]=(a.getD (2*k) 0).toNat+4294967296*(a.getD (2*k+1) 0).toNat:=by simp only[Qi,nW,val,List.map,DQ,B1];exact yO a k
  have h2:18446744073709551616^k=4294967296^(2*k):=(by rw[Nat.pow_mul]);rw[h1,h2,B5,CE,BW,DK]
theorem k0s (l:List UInt32)(h:l≠ []):(Z0i l).length=l.length<->l.getD (l.length-1) 0≠0:=by obtain⟨i,x,rfl⟩: ∃i x,l=i++ [x]:=⟨l.dropLast,l.getLast h,(List.dropLast_concat_getLast h).symm⟩;rw[wS];have e:(i++ [x]).getD ((i++ [x]).length-1) 0=x:=(by simp[q_a]);rw[e];have:=x1b i;by_cases hx:x=0;simp[hx];omega;simp[hx]
theorem Q1z (m:Nat):pk (Qj m) (((Qj m).length+1)/2)=Qp m:=by have hv:Qi (pk (Qj m) (((Qj m).length+1)/2))=m:=(by rw[G0a,BF oG,QK]);have hw:Qp m=XL (pk (Qj m) (((Qj m).length+1)/2)):=(by rw[<-Q3,hv]);rw[hw];have hl:=Vo (Qj m) (((Qj m).length+1)/2);refine(Z0h _ _ (BD _) (fun j h1 h2=>oG) ?_|>.trans (B0 ..)).symm;by_cases h0:Qj m= [];exact .inl (by rw[hl,h0];rfl);refine .inr fun e=> ?_;have hc:Z0i (Qj m)≠ []:=(by rw[G4];exact h0);have hp:=EN.2 h0;have hlast:(Qj m).getD ((Qj m).length-1) 0≠0:=(by have hr:(Z0i (Qj m)).length=(Qj m).length:=(by rw[G4]);exact(k0s _ h0).1 hr);rw[hl] at e;obtain⟨k,hk⟩: ∃k,((Qj m).length+1)/2=k+1:=⟨((Qj m).length+1)/2-1,oG⟩;rw[hk,yP] at e;have e1:(pk (Qj m) k++ [UInt64.ofNat (((Qj m).getD (2*k) 0).toNat+4294967296*((Qj m).getD (2*k+1) 0).toNat)]).getD (k+1-1) 0=UInt64.ofNat (((Qj m).getD (2*k) 0).toNat+4294967296*((Qj m).getD (2*k+1) 0).toNat):=(by rw[q_a,CA (by rw[Vo];omega),Vo];simp);rw[e1] at e;have e2:=(HR _).1 e;rw[yO] at e2;have:(Qj m).length-1=2*k\/(Qj m).length-1=2*k+1:=oG;rcases this with h | h;rw[h] at hlast;exact hlast ((UA _).2 oG);rw[h] at hlast;exact hlast ((UA _).2 oG)
theorem Qr {x:Nm}(h:Qg x=true):wN x:=Y1 (Q6 h)
theorem H0k {x:Ivl}(h:Qs x=true):wI x:=⟨Qr (Q1 h).1,Qr (Q1 h).2.1⟩
def U1g (a b:Nm):Ivl:=if 0<Uw a b then⟨b,a⟩ else⟨a,b⟩
theorem U0a {a b:Nm}(ha:Qg a=true)(hb:Qg b=true):Qs (U1g a b)=true:=by have e:Uw a b=VP a b:=BC ⟨ha,hb⟩;unfold U1g;rw[e];split;exact Wr hb ha (by have:=qR a b;simp only;omega);exact Wr ha hb (by simp only;omega)
theorem Xg {a:Nm}(ha:Qg a=true):Qs ⟨a,a⟩=true:=Wr ha ha (by have:=WM a;simp only;omega)
theorem kz {α:Type}(a:List α)(x:α)(i:Nat)(d:α)(h:i<a.length):(a++ [x]).getD i d=a.getD i d:=by rw[q_a,B6 h,<-q_a]
theorem H2 {α:Type}(a:List α)(x:α)(d:α):(a++ [x]).getD a.length d=x:=by rw[q_a,CA (BD _)];simp
theorem JQ {b:List Ivl}(h:rightB b=true):wB b:=⟨by have:=Jk h;omega,fun i hi=>H0k (Ye h i hi)⟩
set_option maxRecDepth 100000
open Go Go.Proofs Go.ChangeShapes Go.WideShapes Go.ChangeAt Go.RowKit
theorem Ux {P:Program}{f:FuncId}{vs:Array Value}{ps:List PV}{w:World}(ht:TabOK w (zy w))(h:PCalls P f ps [] (fun r st'=>r= .sc (.bool true)))(hr:x1w w (zy w) vs ps):
 Calls P f vs w (fun e w'=>e= .returned (.bool true)/\Below w.heap.size w w'):=by
 refine(h w (zy w) vs (V0t w ht) hr).mono ?_;rintro e w' ⟨v,g',r,st,rfl,hx,hs,hrr,rfl⟩;refine⟨?_,hx.os,hx.tape,hx.output,hx.size,fun k hk=>(hx.old k hk (fun i hi=>by simp[zy] at hi)).1⟩;have:Rep w' g' v (.sc (.bool true)):=hrr;rw[this.sc_inv]
theorem IQ :ownKnob Tryz.prog.godebug=none:=by kernel_rfl
theorem Uc :laidOutB Tryz.prog=true:=by kernel_rfl
open Go Go.Proofs Go.ChangeShapes Go.WideShapes Go.ChangeAt Go.RowKit Go.Proofs.YthlnpmkcmbohaaaGreatDoor.Rows
section
variable {P:Program} {t e:TypeId} {W:World} {base:Nat} {v:Value} {H:Type} {tok:TypeId×Value->H} {d:DataW H} {p:List MemPlace}
theorem Z0v {α:Type}{enc:α->List PV}{ok:Nat->α->Prop}(hT:Ty P t 1 (fun l:α=> [.sl .no (enc l)]) ok)(hu:P.underlying t=some (.slice e))(hv:Value.okWide P W .any base t v)
 (hd:DataW.Trod tok P W 0 (fun _=>true) true t v d p): ∃l,Rep W (zy W) v (.sl .no (enc l))/\ok (uptoBulk d) l:=by
 obtain⟨a,len,cap,rfl⟩:=okWide_slice hu hv;obtain⟨fuel,hf⟩:=hd;obtain⟨l,_,hrep,hok⟩:=hT.rd tok W fuel _ _ hf;exact⟨l,hrep 0 oG,hok⟩
end
end Go.Pv
end
