/- Walk. -/
import Derived.Test.YtfoiagbimnghjaaGreatDoorRows
import Derived.Test.YtfoiagbimnghjaaGreatDoorZD
import Derived.ProofKit
import Derived.OpenShut
import Derived.JoinedCond
import Derived.ChangeSame
import Derived.Carry
set_option linter.all false
section
namespace Go.Pv
open Go.Proofs Go.ChangeShapes Go.WideShapes Go.ChangeAt Go.RowKit
open Go.Proofs.YtfoiagbimnghjaaGreatDoor.Rows (uptoBulk uptoBulkAll)
def Jk (w:World):Gh:=⟨0,fun _=>0,fun b=>match w.heap[b]? with | some (.cells c _ _)=>c.size | _=>0⟩
theorem yo {w:Lw}{b o:Nat}{c:Value}(h:w.cell? ⟨b,o,none⟩=some c):o<(Jk w).vis b:=by unfold World.cell? at h;simp only[Jk];split at h;rename_i c' t f hh;simp only at hh;rw[hh];simp at h;exact(C3.1 h).1;cases h
theorem x0k (w:Lw)(ht:TabOK w (Jk w)):StoreOK w (Jk w) []:=by refine⟨rfl,fun i j hi=>by simp[Jk] at hi,fun i hi=>by simp[Jk] at hi,fun i hi=>by simp[Jk] at hi,fun i hi=>by simp[Jk] at hi,fun b hb=> ?_,ht⟩;simp only[Jk];rw[F7 hb]
theorem y1e {H:Type}(d:DataW H):1<=uptoBulk d:=by
 cases d with
 | lit l=>cases l<;>simp[uptoBulk]
 | nil=>simp[uptoBulk]
 | ptr d=>simp[uptoBulk]
 | slice elems spare=>simp[uptoBulk]
 | agg parts=>simp[uptoBulk]
 | iface t d=>simp[uptoBulk]
 | map entries=>simp[uptoBulk]
 | held h=>simp[uptoBulk]
theorem W0s {H:Type}{d:DataW H}{l:List (DataW H)}(h:d∈l):uptoBulk d<=uptoBulkAll l:=by
 induction l with
 | nil=>cases h
 | cons x r ih=>
  simp only[uptoBulkAll];cases D8.1 h with
  | inl e=>subst e;omega
  | inr e=>have:=ih e;omega
theorem y1f {H:Type}(l:List (DataW H)):l.length<=uptoBulkAll l:=by
 induction l with
 | nil=>simp[uptoBulkAll]
 | cons x r ih=>have:=y1e x;simp only[uptoBulkAll,C1];omega
structure Ty (P:Program) (t:TypeId) (n:Nat) {α:Type} (enc:α->List PV) (ok:Nat->α->Prop):Prop where
 cells:P.cellsOf t=n
 len: ∀x,(enc x).length=n
 mono: ∀ {k k' x},ok k x->k<=k'->ok k' x
 rd: ∀ {H:Type} (tok:TypeId×Value->H) (w:World) (fuel:Nat) (cs:List Value) (x:DataW H×List MemPlace),
  DataW.trod tok P w 0 (fun _=>true) true fuel t cs=some x-> ∃y,cs.length=n/\(∀j,j<n->Rep w (Jk w) (cs.getD j undef) ((enc y).getD j .junk))/\ok (uptoBulk x.1) y
section
variable {P:Program} {t e:TypeId}
theorem q0j {n:Nat}{α β:Type}{enc:α->List PV}{ok:Nat->α->Prop}(h:Ty P t n enc ok)(f:α->β){enc':β->List PV}{ok':Nat->β->Prop}(he: ∀x,enc' (f x)=enc x)(hl: ∀x,(enc' x).length=n)(hok: ∀k x,ok k x->ok' k (f x))(hm: ∀ {k k' x},ok' k x->k<=k'->ok' k' x):Ty P t n enc' ok':=
 ⟨h.cells,hl,hm,fun tok w fuel cs x hx=>by obtain⟨y,h1,h2,h3⟩:=h.rd tok w fuel cs x hx;exact⟨f y,h1,by rw[he];exact h2,hok _ _ h3⟩⟩
theorem q0h (hu:P.underlying t=some (.int .u64))(hc:P.cellsOf t=1):Ty P t 1 (fun c:UInt64=> [.sc (.int .u64 c.toNat)]) (fun _ _=>True):=
 ⟨hc,fun _=>rfl,fun _ _=>trivial,fun tok w fuel cs x hx=>by obtain⟨n,rfl,_,hw⟩:=DataW.trod_int hu hx;have hr:0<=n/\n<=18446744073709551615:=(by simpa[Lit.wf,IntKind.min,IntKind.max,IntKind.signed,IntKind.bits] using hw);have e:n=((UInt64.ofNat n.toNat).toNat:Int):=(by rw[FG];omega);refine⟨UInt64.ofNat n.toNat,rfl,fun j hj=> ?_,trivial⟩;have:j=0:=oG;subst this;rw[<-e];exact .sc _⟩
theorem W0j {w:Lw}{b:Addr}{n:Nat}{cs:Ps}(h:w.cells? 0 b n=some cs):cs.length=n/\ ∀j,j<n->w.cell? (b.add j)=some (cs.getD j undef):=by
 unfold World.cells? at h;rw[BC (CX _)] at h;have key: ∀(l:Ln) (cs:Ps),(l.mapM fun i=>w.cell? (b.add i))=some cs->cs.length=l.length/\ ∀j,j<l.length->w.cell? (b.add (l.getD j 0))=some (cs.getD j undef):=by
  intro l
  induction l with
  | nil=>intro cs h;simp at h;subst h;exact⟨rfl,fun j hj=>by simp at hj⟩
  | cons i l ih=>
   intro cs h;rw[List.mapM_cons] at h;simp only[Option.bind_eq_bind,Option.bind_eq_some_iff] at h;obtain⟨c,h1,cs',h2,h3⟩:=h;cases h3;obtain⟨a1,a2⟩:=ih cs' h2;refine⟨by simp[a1],fun j hj=> ?_⟩;cases j with
   | zero=>simpa using h1
   | succ j=>simpa using a2 j (by simpa using hj)
 obtain⟨h1,h2⟩:=key _ _ h;simp at h1;refine⟨h1,fun j hj=> ?_⟩;have:=h2 j (by simpa using hj);simpa[q_a,hj] using this
theorem q0i {n:Nat}{α:Type}{enc:α->List PV}{ok:Nat->α->Prop}[Inhabited α](hu:P.underlying t=some (.slice e))(hc:P.cellsOf t=1)(he:Ty P e n enc ok)(hn:0<n)(elem:α->PV)(hel: ∀x,(elem x).cells=enc x):
 Ty P t 1 (fun l:List α=> [.sl .no (l.map elem)]) (fun k l=>l.length<=k/\ ∀i,i<l.length->ok k (l.getD i default)):=
 ⟨hc,fun _=>rfl,fun h hk=>⟨B7 h.1 hk,fun i hi=>he.mono (h.2 i hi) hk⟩,fun tok w fuel cs x hx=>by
  rcases DataW.trod_slice hu hx with ⟨rfl,_⟩ | ⟨a,len,cap,elems,rest,m,_,rfl,hxe,_,hlc,_,hlen,hel1,hrest,_⟩;refine⟨[],rfl,fun j hj=> ?_,by simp,fun i hi=>by simp at hi⟩;have:j=0:=oG;subst this;exact .nil .no none rfl
  . rw[he.cells] at hel1 hrest;have hel2: ∀i,i<len-> ∃(cs':Ps) (y:DataW _×List MemPlace) (v:α),elems[i]?=some y/\cs'.length=n/\(∀j,j<n->w.cell? ((a.add (i*n)).add j)=some (cs'.getD j undef))/\(∀j,j<n->Rep w (Jk w) (cs'.getD j undef) ((enc v).getD j .junk))/\ok (uptoBulk y.1) v:=fun i hi=>by have h1:=hel1 i hi;rw[BB (by omega:i<elems.length)] at h1;simp only[Option.bind_eq_some_iff] at h1;obtain⟨cs',c1,c2⟩:=h1;obtain⟨d1,d2⟩:=W0j c1;obtain⟨v,v1,v2,v3⟩:=he.rd tok w m cs' _ c2;exact⟨cs',_,v,BB oG,d1,d2,v2,v3⟩
    have hpick: ∀i:Nat,∃p:List Value×α,i<len-> ∃y:DataW _×List MemPlace,elems[i]?=some y/\(∀j,j<n->w.cell? ((a.add (i*n)).add j)=some (p.1.getD j undef))/\(∀j,j<n->Rep w (Jk w) (p.1.getD j undef) ((enc p.2).getD j .junk))/\ok (uptoBulk y.1) p.2:=fun i=>by by_cases hi:i<len;obtain⟨cs',y,v,h1,h2,h3,h4,h5⟩:=hel2 i hi;exact⟨(cs',v),fun _=>⟨y,h1,h3,h4,h5⟩⟩;exact⟨([],default),fun h=>absurd h hi⟩
    obtain⟨pf,hpf⟩:=Classical.axiomOfChoice hpick;have hbulk:uptoBulk x.1=uptoBulkAll (elems.map (·.1))+uptoBulkAll (rest.map (·.1))+1:=(by rw[hxe];simp[uptoBulk]);have hgl: ∀i,i<len->((List.range len).map fun i=>(pf i).2).getD i default=(pf i).2:=fun i hi=>(by simp[q_a,hi]);refine⟨(List.range len).map fun i=>(pf i).2,rfl,fun j hj=> ?_,?_,fun i hi=> ?_⟩
    . have:j=0:=oG;subst this;show Rep w (Jk w) (.slice (some a) len cap) (.sl .no _);by_cases h0:cap=0;have hl0:len=0:=oG;subst hl0;subst h0;exact .nil .no (some a) rfl
      . --the first cell lies there
        have hfirst: ∃c,w.cell? a=some c:=by by_cases hl0:len=0;have:=(hrest rfl).2 0 oG;have hr:=(hrest rfl).1;rw[BB (by omega:0<rest.length)] at this;simp only[Option.bind_eq_some_iff] at this;obtain⟨cs',c1,_⟩:=this;have:=(W0j c1).2 0 hn;have e0:(a.add ((len+0)*n)).add 0=a:=(by subst hl0;simp[Addr.add]);rw[e0] at this;exact⟨_,this⟩;obtain⟨y,_,h3,_⟩:=hpf 0 oG;have:=h3 0 hn;have e0:(a.add (0*n)).add 0=a:=(by simp[Addr.add]);rw[e0] at this;exact⟨_,this⟩
        obtain⟨c0,hc0⟩:=hfirst;obtain⟨b,off,spot⟩:=a;have hs:spot=none:=World.cell?_spot hc0;subst hs;have hlen2:((List.range len).map fun i=>elem (pf i).2).length=len:=(by simp);have hge: ∀i,i<len->(((List.range len).map fun i=>elem (pf i).2).getD i .junk)=elem (pf i).2:=fun i hi=>(by simp[q_a,hi]);have hmm:((List.range len).map fun i=>(pf i).2).map elem=(List.range len).map fun i=>elem (pf i).2:=(by simp[DZ,Function.comp_def]);rw[hmm];have hcell: ∀i j,i<len->j<n->w.cell? ⟨b,off+i*n+j,none⟩=some ((pf i).1.getD j undef):=fun i j hi hj=>(by obtain⟨y,_,h3,_⟩:=hpf i hi;have:=h3 j hj;have e1:((⟨b,off,none⟩:Addr).add (i*n)).add j=⟨b,off+i*n+j,none⟩:=(by rw[Addr.add_mid,Addr.add_mid]);rw[e1] at this;exact this);have:=Rep.sl (w:=w) (g:=Jk w) .no ((List.range len).map fun i=>elem (pf i).2) b off n cap (fun i j=>(pf i).1.getD j undef) rfl (fun h=>by cases h) (by rw[hlen2];exact hlc)
         (fun i hi=>by rw[hlen2] at hi;rw[hge i hi,hel,he.len]) ?_ (fun i j hi hj=>by rw[hlen2] at hi;exact hcell i j hi hj) (fun i j hi hj=>by rw[hlen2] at hi;rw[hge i hi,hel];obtain⟨y,_,_,h4,_⟩:=hpf i hi;exact h4 j hj)
        rw[hlen2] at this;exact this
        . intro _;rw[hlen2];by_cases hl0:len=0;subst hl0;have:=yo hc0;omega
          . have:=yo (hcell (len-1) (n-1) oG oG);have e2:(len-1)*n+n=len*n:=by
             have:len=(len-1)+1:=oG
             conv=>rhs;rw[this,BQ,CY]
            omega
    have:=y1f (elems.map (·.1));simp at this⊢;omega;have hi':i<len:=(by simpa using hi);rw[hgl i hi'];obtain⟨y,h1,_,_,h5⟩:=hpf i hi';refine he.mono h5 ?_;have hm:y.1∈elems.map (·.1):=CF.2 ⟨y,List.mem_of_getElem? h1,rfl⟩;have:=W0s hm;omega⟩
def k2q (P:Program)(fl:List Field)(base n:Nat){α:Type}(enc:α->List PV)(ok:Nat->α->Prop):Prop:=
 (∀x,(enc x).length=n)/\(∀ {k k' x},ok k x->k<=k'->ok k' x)/\
 ∀ {H:Type} (tok:TypeId×Value->H) (w:World) (fuel:Nat) (cs:List Value) (xs:List (DataW H×List MemPlace)),xs.length=fl.length->
  (∀(i:Nat) (f:Field),fl[i]?=some f->DataW.trod tok P w 0 (fun _=>true) true fuel f.type ((cs.drop f.offset).take (P.cellsOf f.type))=xs[i]?)->
  ∃y,(∀j,j<n->Rep w (Jk w) (cs.getD (base+j) undef) ((enc y).getD j .junk))/\ok (uptoBulkAll (xs.map (·.1))) y
end
theorem Bv {H:Type}{enc:TypeId×Value->H}{P:Pg}(hl:laidOutB P=true){W W':Lw}(hb:Below W.heap.size W W'){sp:Nat->Bool} :
 ∀ {ts:List TypeId} {vs:Ps} {ds:List (DataW H)} {ps:List MemPlace},(∀t∈ts,P.readableRec t=true/\t<P.types.size)->DataW.TrodAll enc P W 0 (fun _=>true) true ts vs ds ps->
  (∀p∈ps,p.block<W.heap.size)->(∀p∈ps,sp p.block=true)->DataW.TrodAll enc P W' 0 sp true ts vs ds ps
 | [],_,_,_,hr,h,h1,h2=>by obtain⟨rfl,rfl,rfl⟩:=trodAll_nil h;exact trodAll_mk0
 | t::ts,_,_,_,hr,h,h1,h2=>by
  obtain⟨v,vs,d,ds,p,q,rfl,rfl,rfl,hd,hrest⟩:=trodAll_cons h;refine⟨p,q,WideElems.Trod_stays hl (hr t DG).1 (hr t DG).2 hd (fun x hx=>hb.same (h1 x (List.mem_append_left _ hx))) (fun x hx=>h2 x (List.mem_append_left _ hx)),
   Bv hl hb (fun t ht=>hr t (DL _ ht)) hrest (fun x hx=>h1 x (List.mem_append_right _ hx)) (fun x hx=>h2 x (List.mem_append_right _ hx)),rfl⟩
theorem Q1u {H:Type}{enc:TypeId×Value->H}{P:Pg}{f:Func}{s:ChangeSpec}{apart fresh handsOn again:Bool}{W W':Lw}{args:Lb}{ds gs:List (DataW H)}{before:List MemPlace}{tb:Lt}
 (hl:laidOutB P=true) (hr: ∀t∈f.params.toList,P.readableRec t=true/\t<P.types.size) (hs:s.vars= [])
 (hW:DataW.Whole enc P f.params.toList s.vars apart W args.toList ds gs before) (hfn:s.fn H (ds++gs)= { results:= [.lit (.bool true)],args:=ds }) (hb:Below W.heap.size W W')
 (hres:f.resultTypes= #[tb]) (ht:P.underlying tb=some .bool):s.post enc P f apart fresh handsOn again W args (.bool true) W':=by
 have hlt: ∀p∈before,p.block<W.heap.size:=fun p hp=>hW.lt p hp;have hW':=hW;obtain⟨p,q,hA,hV,hpq,hz,hn⟩:=hW;rw[hs] at hV;obtain⟨rfl,rfl⟩:=trodVars_none hV;rw[B9] at hpq;subst hpq;have hargs: ∀sp:Nat->Bool,(∀x∈before,sp x.block=true)->DataW.TrodAll enc P W' 0 sp true f.params.toList args.toList (s.fn H (ds++ [])).args before:=fun sp hsp=>by rw[hfn];exact Bv hl hb hr hA hlt hsp
 have hresT: ∀(b:Nat) (sp:Nat->Bool) (hd:Bool),DataW.TrodAll enc P W' b sp hd f.resultTypes.toList ((Value.bool true).resultList f.resultTypes.size) (s.fn H (ds++ [])).results []:=fun b sp hd=>by rw[hfn,hres];exact trodAll_mk1 (shut_bool ht _)
 have hvars: ∀sp:Nat->Bool,DataW.TrodVars enc P W' sp s.vars (s.fn H (ds++ [])).vars []:=fun sp=>by rw[hfn,hs];exact rfl
 refine⟨ds,[],before,[],before,[],hW',hresT _ _ _,hargs _ (fun x hx=>by simpa using hlt x hx),hvars _,World.keptBut_mono (fun x hx=>⟨hx,.inr (.inl hx)⟩) (hb.frame _),fun _=> ?_⟩;refine⟨ok_one hres rfl (okWide_bool_mk ht _),_,_,([]++before)++ [],⟨[]++before,[],trodAll_append (hargs _ (fun _ _=>rfl)) (hresT _ _ _),hvars _,rfl,?_,?_⟩,?_⟩;intro b off hp;have hp':MemPlace.cell b off∈before:=(by simpa using hp);rw[hb.frozen (p:=⟨b,off,none⟩) (hlt _ hp')];exact hz b off hp';intro ha;simpa using hn ha;intro x hx _;simpa using hx
open Go.Proofs
theorem q0k :Ty Tryz.prog 22 1 (fun l:List UInt64=> [.sl .no (Qf l)]) (fun k l=>l.length<=k):=
 q0j (q0i Tryz.underlying22 (by kernel_rfl) (q0h Tryz.underlying40 (by kernel_rfl)) (by decide) (fun c=> .sc (.int .u64 c.toNat)) (fun _=>rfl)) id (fun _=>rfl) (fun _=>rfl) (fun _ _ h=>h.1) (fun h hk=>B7 h hk)
theorem y1g {H:Type}{l:List (DataW H)}(hk:Go.Proofs.YtfoiagbimnghjaaGreatDoor.Rows.uptoSmall H l=true):Go.Proofs.YtfoiagbimnghjaaGreatDoor.Rows.uptoBulkAll l<=1048576:=by simpa[Go.Proofs.YtfoiagbimnghjaaGreatDoor.Rows.uptoSmall] using hk
def PV.giv1 (i n:Nat):PV->PV
 | .lp k off=>if k=i then .gp n off else .lp k off
 | .ms false k off len=>if k=i then .ms true n off len else .ms false k off len
 | p=>p
def PV.giv (i n:Nat):PV->PV
 | .agg l=> .agg (l.map (PV.giv1 i n))
 | .tup l=> .tup (l.map (PV.giv1 i n))
 | .fn f l m=> .fn f (l.map (PV.giv1 i n)) (m.map (PV.giv1 i n))
 | p=>p.giv1 i n
def PFS.give (i:Nat)(s:PFS):PFS:=
 ⟨s.pa.map (PV.giv i s.st.length),(s.L.map fun l=>l.map (PV.giv i s.st.length)).set i [],s.T,s.st++ [(s.L.getD i []).map PV.forget2]⟩
section
variable {w:World} {g g':Gh} {F:Fr} {T:List (Nat×Nat)} {i n:Nat}
theorem RepF.giv1 {v:Value}{p:PV}(hm: ∀v p,RepF w g F T v p->RepF w g' F T v p)(hn:n<g'.n)(hz:g'.mu n=F.lmu i)(h:RepF w g F T v p):RepF w g' F T v (p.giv1 i n):=by
 have h':=hm _ _ h;cases p with
 | lp k off=>
  simp only[PV.giv1];split;rename_i e;subst e;cases h' with
  | base _ _ h'=>cases h'
  | lp k off hi=>
   rw[<-hz];exact .base _ _ (.gp n off hn)
  exact h'
 | ms gl k off len=>
  cases gl with
  | true=>exact h'
  | false=>
   simp only[PV.giv1];split;rename_i e;subst e;cases h' with
   | base _ _ h'=>cases h'
   | lms k off len cap hi hcap=>
    rw[<-hz];exact .base _ _ (.gms n off len cap hn hcap)
   exact h'
 | _=>exact h'
theorem RepF.giv {v:Value}{p:PV}(hm: ∀v p,RepF w g F T v p->RepF w g' F T v p)(hn:n<g'.n)(hz:g'.mu n=F.lmu i)(h:RepF w g F T v p):RepF w g' F T v (p.giv i n):=by
 have gm: ∀(l:Lp) (j:Nat),(l.map (PV.giv1 i n)).getD j .junk=(l.getD j .junk).giv1 i n:=fun l j=>Xs rfl l j;cases p with
 | agg l=>
  cases h with
  | base _ _ h=>
   cases h with
   | agg vs cs' hl h=>exact .agg vs _ (by simpa using hl) fun j hj=>by rw[gm];exact RepF.giv1 hm hn hz (.base _ _ (h j (by simpa using hj)))
  | agg vs cs' hl h=>exact .agg vs _ (by simpa using hl) fun j hj=>by rw[gm];exact RepF.giv1 hm hn hz (h j (by simpa using hj))
 | tup l=>
  cases h with
  | base _ _ h=>
   cases h with
   | tup vs cs' hl h=>exact .tup vs _ (by simpa using hl) fun j hj=>by rw[gm];exact RepF.giv1 hm hn hz (.base _ _ (h j (by simpa using hj)))
  | tup vs cs' hl h=>exact .tup vs _ (by simpa using hl) fun j hj=>by rw[gm];exact RepF.giv1 hm hn hz (h j (by simpa using hj))
 | fn f l m=>
  cases h with
  | base _ _ h=>
   cases h with
   | fn f us vs bs cs' hk hl h0 h=>
    exact .fn f us vs _ _ (by simpa using hk) (by simpa using hl) (fun j hj=>by rw[gm];exact RepF.giv1 hm hn hz (.base _ _ (h0 j (by simpa using hj)))) fun j hj=>by rw[gm];exact RepF.giv1 hm hn hz (.base _ _ (h j (by simpa using hj)))
  | fn f us vs bs cs' hk hl h0 h=>
   exact .fn f us vs _ _ (by simpa using hk) (by simpa using hl) (fun j hj=>by rw[gm];exact RepF.giv1 hm hn hz (h0 j (by simpa using hj))) fun j hj=>by rw[gm];exact RepF.giv1 hm hn hz (h j (by simpa using hj))
 | _=>exact RepF.giv1 hm hn hz h
end
theorem V6 {E:Ent}{s:PFS}(i:Nat)(hi:s.freezeOK i)(hne:s.L.getD i []≠ []):JQ E s (s.give i):=by
 intro a w g F h;obtain⟨l1,l2,l3⟩:=h.frame.lo i hne;have hall:=List.all_eq_true.1 hi
 let g':Gh:= { g with n:=g.n+1,mu:=fun k=>if k=g.n then F.lmu i else g.mu k }
 have hmu: ∀k,k<g.n->g'.mu k=g.mu k:=fun k hk=>BA oG;have hmun:g'.mu g.n=F.lmu i:=BC rfl;have hLe:Le w g w g':=⟨Nat.le_succ _,hmu,fun _=>BD _,fun _ _ _ _ hc=>hc⟩;have htok:KN w g F s.T w g' F s.T:=⟨BD _,fun k hk=>⟨BD _,fun _ v es hR=>hR.mono fun b hb=>⟨rfl,rfl⟩⟩⟩;have hm: ∀v p,RepF w g F s.T v p->RepF w g' F s.T v p:=fun v p hr=>hr.mono hLe (BD _) (fun _ _=>rfl) htok;have en:s.st.length=g.n:=h.store.n.symm;have hf: ∀v p,RepF w g F s.T v p->RepF w g' F s.T v (p.giv i s.st.length):=fun v p hp=>RepF.giv hm (by rw[en];exact Nat.lt_succ_self _) (by rw[en];exact hmun) hp;have hL: ∀k,((s.L.map fun l=>l.map (PV.giv i s.st.length)).set i []).getD k []≠ []->k≠i/\s.L.getD k []≠ []/\((s.L.map fun l=>l.map (PV.giv i s.st.length)).set i []).getD k []=(s.L.getD k []).map (PV.giv i s.st.length):=fun k hk=>by
  by_cases hki:i=k;subst hki;exfalso;apply hk;exact Wo _ _;have e:((s.L.map fun l=>l.map (PV.giv i s.st.length)).set i []).getD k []=(s.L.getD k []).map (PV.giv i s.st.length):=by rw[<-YX (f:=fun l=>l.map (PV.giv i s.st.length)) rfl];simp[q_a,DR hki]
  exact⟨fun e=>hki e.symm,fun e0=>hk (by rw[e,e0];rfl),e⟩
 have hst0: ∀j,j<g.n->(s.st++ [(s.L.getD i []).map PV.forget2]).getD j []=s.st.getD j []:=fun j hj=>(by rw[q_a,B6 oG,<-q_a]);have hst1:(s.st++ [(s.L.getD i []).map PV.forget2]).getD g.n []=(s.L.getD i []).map PV.forget2:=(by rw[q_a,CA oG,<-en];simp);have hst:StoreOK w g' (s.st++ [(s.L.getD i []).map PV.forget2]):=(by refine⟨by simp[g',h.store.n],fun j k hj hk e=> ?_,fun j hj=> ?_,fun j hj hj0=> ?_,fun j hj=> ?_,h.store.none,h.store.tab⟩;have hj:j<g.n+1:=hj;have hk:k<g.n+1:=hk;by_cases e1:j=g.n;by_cases e2:k=g.n;omega;rw[e1,hmun,hmu k oG] at e;exact absurd e.symm (h.frame.apart i hne k oG);by_cases e2:k=g.n;rw[e2,hmun,hmu j oG] at e;exact absurd e (h.frame.apart i hne j oG);rw[hmu j oG,hmu k oG] at e;exact h.store.inj j k oG oG e;have hj:j<g.n+1:=hj;by_cases e1:j=g.n;rw[e1,hmun];exact l2;rw[hmu j oG];exact h.store.lt j oG;have hj:j<g.n+1:=hj;by_cases e1:j=g.n;rw[e1,hmun];exact l3;rw[hmu j oG];rw[hst0 j oG] at hj0;exact h.store.vis j oG hj0;have hj:j<g.n+1:=hj;by_cases e1:j=g.n;subst e1;rw[hmun,hst1];intro k hk;have hk':k<(s.L.getD i []).length:=(by simpa using hk);obtain⟨q1,c,q2,q3⟩:=h.frame.holds i hne k hk';refine⟨q1,c,q2,?_⟩;have e:((s.L.getD i []).map PV.forget2).getD k .junk=((s.L.getD i []).getD k .junk).forget2:=Xs (f:=PV.forget2) rfl _ _;rw[e];exact(hm _ _ q3).forget2 (CR.1 (hall _ (Q8 _ _ _ hk'))).1;rw[hmu j oG,hst0 j oG];exact(h.store.holds j oG).mono rfl fun v p hr=>hr.mono hLe);have hext:Ext E.w E.g w g':=(by refine⟨h.ext.le.trans hLe,h.ext.os,h.ext.tape,h.ext.output,h.ext.size,h.ext.old,fun j h1 h2=> ?_⟩;have h2:j<g.n+1:=h2;by_cases e1:j=g.n;rw[e1,hmun];exact l1;rw[hmu j oG];exact h.ext.new j h1 oG);refine⟨g',F,⟨hext,hst,⟨by simp[PFS.give,h.frame.nl],fun k hk=> ?_,fun k hk j hj=> ?_,fun k j hk hj=> ?_,fun k hk=> ?_,h.frame.tlo,fun k b hk hb=>⟨fun j hj=> ?_,fun j hj=> ?_⟩,h.frame.tinj⟩,h.defers,by simp[PFS.give,h.len],fun t ht=> ?_⟩⟩;exact h.frame.lo k (hL k hk).2.1;have hj:j<g.n+1:=hj;obtain⟨h1,h2,h3⟩:=hL k hk;by_cases e1:j=g.n;rw[e1,hmun];exact fun e=>h1 (h.frame.inj k i h2 hne e.symm);rw[hmu j oG];exact h.frame.apart k h2 j oG;exact h.frame.inj k j (hL k hk).2.1 (hL j hj).2.1;obtain⟨h1,h2,h3⟩:=hL k hk;show Holds w _ _ (((s.L.map fun l=>l.map (PV.giv i s.st.length)).set i []).getD k []);rw[h3];intro j hj;obtain⟨q1,c,q2,q3⟩:=h.frame.holds k h2 j (by simpa using hj);exact⟨q1,c,q2,by rw[Xs (f:=PV.giv i s.st.length) rfl];exact hf _ _ q3⟩;have hj:j<g.n+1:=hj;by_cases e1:j=g.n;rw[e1,hmun];exact(h.frame.tapart k b hk hb).2 i hne;rw[hmu j oG];exact(h.frame.tapart k b hk hb).1 j oG;exact(h.frame.tapart k b hk hb).2 j (hL j hj).2.1;simp only[PFS.give] at ht⊢;show RepF w g' F s.T _ ((s.pa.map (PV.giv i s.st.length)).getD t .junk);rw[Xs (f:=PV.giv i s.st.length) rfl];exact hf _ _ (h.tmps t (by simpa using ht))
@[go_sem] theorem W2w {i:Nat}{pa:Lp}{L st:Qd}{T:Lv} :(PFS.mk pa L T st).give i=⟨pa.map (PV.giv i st.length),(L.map fun l=>l.map (PV.giv i st.length)).set i [],T,st++ [(L.getD i []).map PV.forget2]⟩:=(rfl)
attribute [go_sem] PV.giv PV.giv1
@[go_sem] theorem V2k {ps:Lp}{b:Ld}{p:PV} :noL (false::b) (p::ps)=p::noL b ps:=(rfl)
theorem KF {P:Pg}{E:Ent}{c:Code}{Q:Pe}{s:PFS}(i:Nat)(hi:s.freezeOK i)(hne:s.L.getD i []≠ [])(h:PWP P E c Q (s.give i)):PWP P E c Q s:=Kt (V6 i hi hne) h
def Zi (v:Vl):Nm×Int:=
 if v.m=0 then(default,0) else if 64<(Qz v.m).length\/v.e< -65536\/65536<v.e then(default,2) else(⟨v.neg,v.e,Qz v.m⟩,0)
def YS (neg:Bool)(w:List UInt64)(e:Int):Nm×Int:=
 if Qc w=0 then(default,0) else if 65536<e\/e< -65536-(tz (Qc w):Int) then(default,2) else Zi (Zf neg (Qc w) e)
def okV (v:Vl):Prop:=v.m % 2=1\/v.m=0
theorem qu (l:Lu):Qc l % 2=(l.getD 0 0).toNat % 2:=by
 cases l with
 | nil=>rfl
 | cons x l=>
  have:=YB [x] l;have h1:Qc [x]=x.toNat:=(by simp[Qc,nW,val]);rw[show x::l= [x]++l from rfl,this,h1];simp only[List.length_singleton,FR,LJ,Nat.pow_one];omega
theorem Yl :Qh (default:Nm)=true:=by decide
theorem JZ {v:Vl}(h:okV v):Qh (Zi v).1=true:=by unfold Zi;split;exact Yl;rename_i h0;split;exact Yl;rename_i h1;have hw:Qz v.m≠ []:=fun e=>h0 (wordsOf_nil.1 e);unfold Qh;rw[BA hw,IP];have h2:=qu (Qz v.m);rw[Xu] at h2;have h3:v.m % 2=1:=h.resolve_right h0;simp only[q_i,BN];refine⟨⟨⟨⟨trivial,?_⟩,?_⟩,?_⟩,?_⟩<;>omega
theorem kK {x:Nm}(h:Qh x=true):okV (ofN x):=by unfold okV ofN;simp only;by_cases hw:x.w= [];rw[hw];exact .inr rfl;unfold Qh at h;rw[BA hw] at h;simp only[q_i,BN] at h;exact .inl (by rw[qu];exact h.1.1.2)
theorem Q0n (e:Int):mkV 0 e=⟨false,0,0⟩:=by simp[mkV,Zf]
theorem natAbs_pow (s:Int)(j:Nat):(s*2^j).natAbs=s.natAbs*2^j:=by rw[Int.natAbs_mul,Int.natAbs_pow];rfl
theorem H0z (m j:Nat)(h:m≠0):tz (m*2^j)=tz m+j:=by
 obtain⟨q,hq,e⟩:=G6 m h;have:m*2^j=2^(tz m+j)*q:=by
  conv=>lhs;rw[e]
  rw[B2,BW,BW,BM q]
 rw[this,HP _ _ hq]
def pk (a:List UInt32)(k:Nat):List UInt64:=(List.range k).map fun j=>UInt64.ofNat ((a.getD (2*j) 0).toNat+4294967296*(a.getD (2*j+1) 0).toNat)
theorem Hd (a:Ls)(k:Nat):(pk a k).length=k:=by simp[pk]
theorem k8 (a:Ls)(k:Nat):pk a (k+1)=pk a k++ [UInt64.ofNat ((a.getD (2*k) 0).toNat+4294967296*(a.getD (2*k+1) 0).toNat)]:=by simp[pk,List.range_succ]
theorem k7 (a:Ls)(k:Nat):(UInt64.ofNat ((a.getD (2*k) 0).toNat+4294967296*(a.getD (2*k+1) 0).toNat)).toNat=(a.getD (2*k) 0).toNat+4294967296*(a.getD (2*k+1) 0).toNat:=by have h1:=(a.getD (2*k) 0).toNat_lt;have h2:=(a.getD (2*k+1) 0).toNat_lt;exact Xn _ oG
theorem Bc (a:Ls): ∀k,Qc (pk a k)=QH (a.take (2*k))
 | 0=>rfl
 | k+1=>by
  rw[k8,YB,Bc a k,Hd,show 2*(k+1)=2*k+1+1 from oG,Bg,Bg];have h1:Qc [UInt64.ofNat ((a.getD (2*k) 0).toNat+4294967296*(a.getD (2*k+1) 0).toNat)]=(a.getD (2*k) 0).toNat+4294967296*(a.getD (2*k+1) 0).toNat:=by simp only[Qc,nW,val,List.map,DQ,B1];exact k7 a k
  have h2:18446744073709551616^k=4294967296^(2*k):=(by rw[Nat.pow_mul]);rw[h1,h2,B5,CE,BW,DK]
theorem k1p (l:Ls)(h:l≠ []):(Va l).length=l.length<->l.getD (l.length-1) 0≠0:=by obtain⟨i,x,rfl⟩: ∃i x,l=i++ [x]:=⟨l.dropLast,l.getLast h,(List.dropLast_concat_getLast h).symm⟩;rw[V0u];have e:(i++ [x]).getD ((i++ [x]).length-1) 0=x:=(by simp[q_a]);rw[e];have:=k1o i;by_cases hx:x=0;simp[hx];omega;simp[hx]
theorem Z1n (m:Nat):pk (QW m) (((QW m).length+1)/2)=Qz m:=by have hv:Qc (pk (QW m) (((QW m).length+1)/2))=m:=(by rw[Bc,BF oG,G4]);have hw:Qz m=QE (pk (QW m) (((QW m).length+1)/2)):=(by rw[<-ZE,hv]);rw[hw];have hl:=Hd (QW m) (((QW m).length+1)/2);refine(wW _ _ (BD _) (fun j h1 h2=>oG) ?_|>.trans (B0 ..)).symm;by_cases h0:QW m= [];exact .inl (by rw[hl,h0];rfl);refine .inr fun e=> ?_;have hc:Va (QW m)≠ []:=(by rw[V0v];exact h0);have hp:=EM.2 h0;have hlast:(QW m).getD ((QW m).length-1) 0≠0:=(by have hr:(Va (QW m)).length=(QW m).length:=(by rw[V0v]);exact(k1p _ h0).1 hr);rw[hl] at e;obtain⟨k,hk⟩: ∃k,((QW m).length+1)/2=k+1:=⟨((QW m).length+1)/2-1,oG⟩;rw[hk,k8] at e;have e1:(pk (QW m) k++ [UInt64.ofNat (((QW m).getD (2*k) 0).toNat+4294967296*((QW m).getD (2*k+1) 0).toNat)]).getD (k+1-1) 0=UInt64.ofNat (((QW m).getD (2*k) 0).toNat+4294967296*((QW m).getD (2*k+1) 0).toNat):=(by rw[q_a,CA (by rw[Hd];omega),Hd];simp);rw[e1] at e;have e2:=(q8 _).1 e;rw[k7] at e2;have:(QW m).length-1=2*k\/(QW m).length-1=2*k+1:=oG;rcases this with h | h;rw[h] at hlast;exact hlast ((HN _).2 oG);rw[h] at hlast;exact hlast ((HN _).2 oG)
theorem QC {x:Nm}(h:Qh x=true):wN x:=ZF (QT h)
theorem w0f {x:Ivl}(h:Qp x=true):wI x:=⟨QC (Xg h).1,QC (Xg h).2.1⟩
theorem k6 {a:Nm}(ha:Qh a=true):Qp ⟨a,a⟩=true:=Ig ha ha (by have:=IS a;simp only;omega)
theorem zc {b:Li}(h:rightB b=true):wB b:=⟨by have:=WB h;omega,fun i hi=>w0f (zd h i hi)⟩
set_option maxRecDepth 100000
open Go Go.Proofs Go.ChangeShapes Go.WideShapes Go.ChangeAt Go.RowKit
theorem w1x {P:Pg}{f:FuncId}{vs:Lb}{ps:Lp}{w:Lw}(ht:TabOK w (Jk w))(h:PCalls P f ps [] (fun r st'=>r= .sc (.bool true)))(hr:WY w (Jk w) vs ps):
 Calls P f vs w (fun e w'=>e= .returned (.bool true)/\Below w.heap.size w w'):=by
 refine(h w (Jk w) vs (x0k w ht) hr).mono ?_;rintro e w' ⟨v,g',r,st,rfl,hx,hs,hrr,rfl⟩;refine⟨?_,hx.os,hx.tape,hx.output,hx.size,fun k hk=>(hx.old k hk (fun i hi=>by simp[Jk] at hi)).1⟩;have:Rep w' g' v (.sc (.bool true)):=hrr;rw[this.sc_inv]
theorem X1e :ownKnob Tryz.prog.godebug=none:=by kernel_rfl
theorem Y1l :laidOutB Tryz.prog=true:=by kernel_rfl
open Go Go.Proofs Go.ChangeShapes Go.WideShapes Go.ChangeAt Go.RowKit Go.Proofs.YtfoiagbimnghjaaGreatDoor.Rows
section
variable {P:Program} {t e:TypeId} {W:World} {base:Nat} {v:Value} {H:Type} {tok:TypeId×Value->H} {d:DataW H} {p:List MemPlace}
theorem Q2w {α:Type}{enc:α->List PV}{ok:Nat->α->Prop}(hT:Ty P t 1 (fun l:α=> [.sl .no (enc l)]) ok)(hu:P.underlying t=some (.slice e))(hv:Value.okWide P W .any base t v)
 (hd:DataW.Trod tok P W 0 (fun _=>true) true t v d p): ∃l,Rep W (Jk W) v (.sl .no (enc l))/\ok (uptoBulk d) l:=by
 obtain⟨a,len,cap,rfl⟩:=okWide_slice hu hv;obtain⟨fuel,hf⟩:=hd;obtain⟨l,_,hrep,hok⟩:=hT.rd tok W fuel _ _ hf;exact⟨l,hrep 0 oG,hok⟩
end
def ofX (x:Nm):Vl:=Zf x.neg (Qc x.w) x.exp
def QX (v:Vl)(p:Nat)(up:Bool):Vl:=
 if Qo v.m<=p then v else
  Zf v.neg (v.m/2^(Qo v.m-p)+(if v.m % 2^(Qo v.m-p)≠0/\up≠v.neg then 1 else 0)) (v.e+((Qo v.m-p:Nat):Int))
theorem UJ (neg:Bool)(e:Int):Zf neg 0 e=⟨false,0,0⟩:=by rw[Zf,BC rfl]
theorem kO (neg:Bool)(m k:Nat)(e:Int):Zf neg (m*2^k) e=Zf neg m (e+k):=by
 by_cases h:m=0;subst h;rw[DC,UJ,UJ]
 . have hp:m*2^k≠0:=F0 h (Nat.ne_of_gt (CT k));obtain⟨q,hq,hm⟩:=G6 m h;have hmk:m*2^k=2^(tz m+k)*q:=by
    conv=>lhs;rw[hm]
    rw[B2,FM]
   have ht:tz (m*2^k)=tz m+k:=(by rw[hmk,HP _ _ hq]);unfold Zf;rw[BA h,BA hp,ht];have e1:m*2^k/2^(tz m+k)=m/2^tz m:=by
    rw[hmk,EY _ (CT _)]
    conv=>rhs;rw[hm]
    rw[HP _ _ hq,EY _ (CT _)]
   rw[e1];congr 1;omega
theorem It (neg:Bool)(m:Nat)(e:Int)(h:m % 2=1):Zf neg m e=⟨neg,m,e⟩:=by rw[Zf,BA oG,q9 h];simp
theorem Q1r (z D q:Nat)(h:D<=z):2^z*q/2^D=q*2^(z-D):=by obtain⟨k,rfl⟩: ∃k,z=D+k:=⟨z-D,oG⟩;rw[DY,B2,BW,EY _ (CT _),BM]
theorem Ti {x:Nm}(h:Qh x=true):ofX x=ofN x:=by
 rcases kK h with h1 | h1;exact It _ _ _ h1;have h0:Qc x.w=0:=h1;have hw:x.w= []:=by refine BE fun hw=> ?_;have h2:=h;unfold Qh at h2;rw[BA hw] at h2;simp only[q_i,BN] at h2;have h3:=qu x.w;omega
 have h2:=h;unfold Qh at h2;rw[BC hw] at h2;simp at h2;unfold ofX ofN;rw[h0,UJ,h2.1,h2.2]
theorem v0u (neg:Bool)(m:Nat)(e:Int)(p:Nat)(up:Bool)(hp:0<p):QX (Zf neg m e) p up=
 if Qo m<=p then Zf neg m e else Zf neg (m/2^(Qo m-p)+(if tz m<Qo m-p/\up≠neg then 1 else 0)) (e+((Qo m-p:Nat):Int)):=by
 by_cases h0:m=0;subst h0;rw[BC (by rw[Uf];omega),UJ,QX,BC (by show Qo 0<=p;rw[Uf];omega)];obtain⟨q,hq,hm⟩:=G6 m h0;have hq0:q≠0:=oG;have e1:Zf neg m e=⟨neg,q,e+tz m⟩:=by have:Zf neg (q*2^tz m) e=Zf neg q (e+tz m):=kO neg q (tz m) e;rw[BM,<-hm] at this;rw[this,It _ _ _ hq]
 have hb:Qo m=Qo q+tz m:=by have:=yv q (tz m) hq0;rw[BM,<-hm] at this;exact this
 rw[e1];unfold QX;simp only;by_cases h1:Qo q<=p;rw[BC h1];by_cases h2:Qo m<=p;rw[BC h2];rw[BA h2,BA oG,B1];have hdiv:m/2^(Qo m-p)=q*2^(tz m-(Qo m-p)):=by have h:=Q1r (tz m) (Qo m-p) q oG;rw[<-hm] at h;exact h
 rw[hdiv,kO,It _ _ _ hq];congr 1;omega;rw[BA h1,BA (show¬Qo m<=p by omega)];have hd:Qo m-p=tz m+(Qo q-p):=oG;have hdiv:m/2^(Qo m-p)=q/2^(Qo q-p):=by have h:=EY q (CT (tz m));rw[<-hm] at h;rw[hd,B2,<-CV,h]
 have hodd:q % 2^(Qo q-p)≠0:=by intro h;have hdv:2∣q:=Nat.dvd_trans ⟨2^(Qo q-p-1),by rw[<-Nat.pow_succ'];congr 1;omega⟩ (Nat.dvd_of_mod_eq_zero h);omega
 rw[hdiv];have hc:(q % 2^(Qo q-p)≠0/\up≠neg)<->(tz m<Qo m-p/\up≠neg):=⟨fun h=>⟨oG,h.2⟩,fun h=>⟨hodd,h.2⟩⟩;by_cases hh:tz m<Qo m-p/\up≠neg;rw[BC hh,BC (hc.2 hh)];congr 1;omega;rw[BA hh,BA (fun h=>hh (hc.1 h))];congr 1;omega
theorem vi (neg:Bool)(m:Nat)(e:Int):Zf neg m e=mkV (if neg then -(m:Int) else(m:Int)) e:=by by_cases h:m=0;subst h;rw[UJ];unfold mkV;cases neg<;>simp[UJ];unfold mkV;cases neg;show Zf false m e=Zf (decide ((m:Int)<0)) (m:Int).natAbs e;rw[q_g oG,LN];show Zf true m e=Zf (decide (-(m:Int)<0)) (-(m:Int)).natAbs e;rw[q_h oG,Int.natAbs_neg,LN]
theorem J1a (x:Nm):ofX x=mkV (ZQ x) x.exp:=by rw[ofX,vi];rfl
theorem Q0o (s:Int)(k:Nat)(e:Int):mkV (s*2^k) e=mkV s (e+k):=by
 unfold mkV;have h1:(s*2^k).natAbs=s.natAbs*2^k:=by rw[Int.natAbs_mul,Int.natAbs_pow];rfl
 have h2:decide (s*2^k<0)=decide (s<0):=by have hp:=two_pow_pos k;by_cases h:s<0;rw[q_h h,q_h (Int.mul_neg_of_neg_of_pos h hp)];rw[q_g h,q_g (LF.2 (Int.mul_nonneg (LF.1 h) (LK hp)))]
 rw[h1,h2,kO]
theorem V1n (s e:Int)(h:s≠0): ∃k:Nat,Z0 (mkV s e)*2^k=s/\(mkV s e).e=e+k/\(mkV s e).m≠0:=by have h0:s.natAbs≠0:=oG;refine⟨tz s.natAbs,?_,?_,?_⟩;unfold mkV Zf Z0;rw[BA h0];simp only;have h1:=q0e s.natAbs;by_cases hs:s<0;rw[q_h hs,BC rfl,DU];have:((s.natAbs/2^tz s.natAbs:Nat):Int)*2^tz s.natAbs=(s.natAbs:Int):=(by rw[show((2:Int)^tz s.natAbs)=((2^tz s.natAbs:Nat):Int) from by simp,<-CN,h1]);rw[this];omega;rw[q_g hs,BA (by simp)];have:((s.natAbs/2^tz s.natAbs:Nat):Int)*2^tz s.natAbs=(s.natAbs:Int):=(by rw[show((2:Int)^tz s.natAbs)=((2^tz s.natAbs:Nat):Int) from by simp,<-CN,h1]);rw[this];omega;unfold mkV Zf;rw[BA h0];unfold mkV Zf;rw[BA h0];have:=HO s.natAbs h0;simp only;omega
def byV (a b:Vl):Vl:=if a.m=0\/b.m=0 then⟨false,0,0⟩ else⟨a.neg !=b.neg,a.m*b.m,a.e+b.e⟩
theorem J1j {a b:Nat}(ha:a % 2=1)(hb:b % 2=1):a*b % 2=1:=by rw[Nat.mul_mod,ha,hb]
theorem Y0t : ∀(k a b:Nat),a+b+1=2^k->a&&&b=0
 | 0,a,b,h=>by
  have:a=0:=by simp at h;omega
  subst this;exact Nat.zero_and b
 | k+1,a,b,h=>by have h2:a+b+1=2*2^k:=(by rw[h,B5,BM]);have ih:=Y0t k (a/2) (b/2) oG;have hd:(a&&&b)/2=a/2&&&b/2:=Nat.and_div_two;have hm:(a&&&b) % 2≠1:=fun e=>(by have:=Nat.and_mod_two_eq_one.1 e;omega);omega
theorem Z0b : ∀(n x:Nat),0<x->x<2^n->x&&&(2^n-x)=2^tz x
 | 0,x,h,hl=>by simp at hl;omega
 | n+1,x,h,hl=>by have hp:2^(n+1)=2*2^n:=(by rw[B5,BM]);have hd:(x&&&(2^(n+1)-x))/2=x/2&&&(2^(n+1)-x)/2:=Nat.and_div_two;rcases Nat.mod_two_eq_zero_or_one x with e | e;have ih:=Z0b n (x/2) oG oG;have h3:(2^(n+1)-x)/2=2^n-x/2:=oG;have hm:(x&&&(2^(n+1)-x)) % 2≠1:=fun e'=>(by have:=Nat.and_mod_two_eq_one.1 e';omega);rw[h3,ih] at hd;have hps:2^(tz (x/2)+1)=2^tz (x/2)*2:=B5 ..;rw[jw oG e];omega;have h4:=Y0t n (x/2) ((2^(n+1)-x)/2) oG;have hm:(x&&&(2^(n+1)-x)) % 2=1:=Nat.and_mod_two_eq_one.2 ⟨e,oG⟩;rw[h4] at hd;rw[q9 e,Nat.pow_zero];omega
theorem W1q (x:Nat)(h:0<x)(hl:x<18446744073709551616):x&&&(18446744073709551616-x)=2^tz x:=Z0b 64 x h hl
theorem jv (x:Nat)(h:0<x)(hl:x<18446744073709551616):tz x<64:=by have h1:=ju x oG;have h2:=Y0i x hl;omega
theorem q0f (w r:Nat)(h:0<w)(hl:w<18446744073709551616):tz (w+18446744073709551616*r)=tz w:=by obtain⟨q,hq,hw⟩:=G6 w oG;have ht:=jv w h hl;have e:w+18446744073709551616*r=2^tz w*(q+2^(64-tz w)*r):=(by rw[CE,<-hw,<-BW,<-B2,show tz w+(64-tz w)=64 from oG]);have h2:2^(64-tz w)*r % 2=0:=(by obtain⟨k,hk⟩: ∃k,64-tz w=k+1:=⟨63-tz w,oG⟩;rw[hk,B5,BW,EK];exact Nat.mul_mod_right _ _);rw[e,HP _ _ oG]
theorem HK (l:Lu)(i:Nat)(h:i<=l.length):Qc l=Qc (l.take i)+18446744073709551616^i*Qc (l.drop i):=by
 conv=>lhs;rw[<-FQ i l]
 rw[YB,BX,DA h]
theorem Bd (l:Lu)(i:Nat)(h:i<l.length):Qc (l.drop i)=(l.getD i 0).toNat+18446744073709551616*Qc (l.drop (i+1)):=by rw[FC h];simp only[Qc,nW,DX,val];rw[q_a,BB h];rfl
theorem jm (l:Lu)(i:Nat)(h:l.length<=i):Qc (l.drop i)=0:=by rw[E7 h];rfl
theorem G3 (l:Lu)(i:Nat):Qc (l.drop i)=(l.getD i 0).toNat+18446744073709551616*Qc (l.drop (i+1)):=by by_cases h:i<l.length;exact Bd l i h;rw[jm _ _ oG,jm _ _ oG,UY _ _ _ oG];rfl
theorem V0h (l:Lu)(i:Nat)(h:i<=l.length):Qc l/18446744073709551616^i=Qc (l.drop i):=by have hl:=Xe (l.take i);rw[BX,DA h] at hl;rw[HK l i h,EX _ _ (DJ (by decide)),CP hl,CU]
theorem H0y (l:Lu)(i:Nat)(hi:i<l.length)(hz:Qc (l.take i)=0)(hn:(l.getD i 0).toNat≠0):tz (Qc l)=64*i+tz (l.getD i 0).toNat:=by rw[HK l i oG,hz,CU,Bd l i hi,BM,KV,H0z _ _ oG,q0f _ _ oG (BT _)];omega
theorem K0u (w0 w1 r s:Nat)(h0:w0<18446744073709551616)(hs:s<64):(w0+18446744073709551616*(w1+18446744073709551616*r))/2^s % 18446744073709551616=w0/2^s+w1*2^(64-s) % 18446744073709551616:=by
 have e:(18446744073709551616:Nat)=2^s*2^(64-s):=(by rw[<-B2,show s+(64-s)=64 from oG]);have h1:(w0+18446744073709551616*(w1+18446744073709551616*r))/2^s=w0/2^s+2^(64-s)*(w1+18446744073709551616*r):=by
  conv=>lhs;rw[show 18446744073709551616*(w1+18446744073709551616*r)=2^s*(2^(64-s)*(w1+18446744073709551616*r)) from by rw[<-BW,<-e]]
  rw[EX _ _ (CT s)]
 have h2:w0/2^s<2^(64-s):=DE (by rw[<-e];exact h0);have h3:w1*2^(64-s) % 18446744073709551616=2^(64-s)*(w1 % 2^s):=by
  conv=>lhs;rw[BM,e,BM (2^s),Nat.mul_mod_mul_left]
 have h4:2^(64-s)*(w1 % 2^s)+2^(64-s)<=18446744073709551616:=by have h5:w1 % 2^s+1<=2^s:=CG _ (CT s);have:=DP (2^(64-s)) h5;rw[CE,EJ] at this;rw[BM (2^(64-s)) (2^s),<-e] at this;exact this
 rw[h1,h3];have h6:w0/2^s+2^(64-s)*(w1+18446744073709551616*r)=(w0/2^s+2^(64-s)*(w1 % 2^s))+18446744073709551616*(w1/2^s+2^(64-s)*r):=by have h7:=D5 w1 (2^s);have h8:2^(64-s)*w1=2^(64-s)*(2^s*(w1/2^s))+2^(64-s)*(w1 % 2^s):=(by rw[<-CE,h7]);rw[<-BW,BM (2^(64-s)) (2^s),<-e] at h8;rw[CE,CE,h8,EK];omega
 rw[h6,D7,BJ oG]
theorem x1z (w0 w1 s:Nat)(h0:w0<18446744073709551616)(hs:s<64):(w0/2^s)|||(w1*2^(64-s) % 18446744073709551616)=w0/2^s+w1*2^(64-s) % 18446744073709551616:=by refine Hf _ _ (64-s) (DE ?_) (kZ _ _ oG);rw[<-B2,show s+(64-s)=64 from oG];exact h0
def p2 (e:Int):Rat:=(2:Rat)^e
theorem Ro (e:Int):0<p2 e:=Rat.zpow_pos (by decide)
theorem Is (a b:Int):p2 (a+b)=p2 a*p2 b:=Rat.zpow_add (by decide) a b
theorem zu :p2 0=1:=Rat.zpow_zero 2
theorem Rq (k:Nat):(((2:Int)^k:Int):Rat)=p2 k:=by
 unfold p2;rw[Rat.zpow_natCast]
 induction k with
 | zero=>rfl
 | succ k ih=>rw[Int.pow_succ,Rat.intCast_mul,ih,Rat.pow_succ];rfl
def qM (s e:Int):Rat:=(s:Rat)*p2 e
def qV (v:Vl):Rat:=qM (Z0 v) v.e
def qN (x:Nm):Rat:=qM (ZQ x) x.exp
theorem Vk (s:Int)(k:Nat)(e:Int):qM (s*2^k) e=qM s (e+k):=by unfold qM;rw[Rat.intCast_mul,Rq,Is];grind
theorem zj (s t e:Int):qM (s+t) e=qM s e+qM t e:=by unfold qM;rw[Rat.intCast_add];grind
theorem ku (s t e f:Int):qM (s*t) (e+f)=qM s e*qM t f:=by unfold qM;rw[Rat.intCast_mul,Is];grind
theorem J0 (e:Int):qM 0 e=0:=by unfold qM;rw[Rat.intCast_zero];grind
theorem YL (s e:Int):qM (-s) e= -qM s e:=by unfold qM;rw[Rat.intCast_neg];grind
theorem qM_le {s t e:Int} :qM s e<=qM t e<->s<=t:=by unfold qM;constructor;intro h;exact Rat.intCast_le_intCast.1 (Rat.le_of_mul_le_mul_right h (Ro e));intro h;exact D3 (Rat.intCast_le_intCast.2 h) (Rat.le_of_lt (Ro e))
theorem qM_lt {s t e:Int} :qM s e<qM t e<->s<t:=by rw[<-Rat.not_le,qM_le];omega
theorem y0q {s t e:Int} :qM s e=qM t e<->s=t:=by constructor;intro h;have h1:=(qM_le (s:=s) (t:=t) (e:=e)).1 (by rw[h];exact CB);have h2:=(qM_le (s:=t) (t:=s) (e:=e)).1 (by rw[h];exact CB);omega;rintro rfl;rfl
theorem UF (s e g:Int)(h:g<=e):qM s e=qM (s*2^(e-g).toNat) g:=by rw[Vk];congr 1;omega
theorem kr (s e:Int):qV (mkV s e)=qM s e:=by by_cases h:s=0;subst h;rw[Q0n,J0];exact J0 0;obtain⟨k,k1,k2,k3⟩:=V1n s e h;unfold qV;rw[k2,<-Vk,k1]
theorem WE (neg:Bool)(m:Nat)(e:Int):qV (Zf neg m e)=qM (if neg then -(m:Int) else(m:Int)) e:=by rw[vi,kr]
theorem Ny (x:Nm):qV (ofX x)=qN x:=by rw[J1a,kr];rfl
theorem Zb (x:Nm):qV (ofN x)=qN x:=rfl
theorem Vj {v:Vl}(h:v.m=0):qV v=0:=by unfold qV;rw[vo h,J0]
theorem UE (a b:Vl):qV (Vn a b)=qV a+qV b:=by unfold Vn;split;rename_i h;rw[Vj h];grind;split;rename_i h;rw[Vj h];grind;rw[kr,zj,<-UF _ _ _ oG,<-UF _ _ _ oG];rfl
theorem WD (v:Vl):qV (Xf v)= -qV v:=by unfold qV;rw[vp,qD,YL]
theorem YH (a b:Vl):qV (JJ a b)=qV a-qV b:=by unfold JJ;rw[UE,WD];grind
theorem W1n {a b:Vl}(ha:a.m≠0)(hb:b.m≠0):Z0 (byV a b)=Z0 a*Z0 b/\(byV a b).e=a.e+b.e:=by unfold byV;rw[BA oG];refine⟨?_,rfl⟩;unfold Z0;cases a.neg<;>cases b.neg<;>simp[DU,Int.mul_neg]
theorem Wh (a b:Vl):qV (byV a b)=qV a*qV b:=by by_cases ha:a.m=0;rw[Vj ha,Vj (by unfold byV;rw[BC (.inl ha)])];grind;by_cases hb:b.m=0;rw[Vj hb,Vj (by unfold byV;rw[BC (.inr hb)])];grind;obtain⟨h1,h2⟩:=W1n ha hb;unfold qV;rw[h1,h2,ku]
theorem jL (m:Int):sgn m<=0<->m<=0:=by unfold sgn;split<;>(try split)<;>omega
theorem jK (m:Int):sgn m<0<->m<0:=by unfold sgn;split<;>(try split)<;>omega
theorem Si (a b:Vl):Kc a b<=0<->qV a<=qV b:=by
 unfold Kc;have h:=YH a b;rw[GL,jL];have h2:Z0 (JJ a b)<=0<->qV (JJ a b)<=0:=by rw[<-J0 (JJ a b).e];exact qM_le.symm
 rw[h2,h];grind
theorem zw (a b:Vl):Kc a b<0<->qV a<qV b:=by
 unfold Kc;have h:=YH a b;rw[GL,jK];have h2:Z0 (JJ a b)<0<->qV (JJ a b)<0:=by rw[<-J0 (JJ a b).e];exact qM_lt.symm
 rw[h2,h];grind
theorem cmpN_le {a b:Nm} :ZJ a b<=0<->qN a<=qN b:=by rw[<-Sh,Si];rfl
theorem cmpN_lt {a b:Nm} :ZJ a b<0<->qN a<qN b:=by rw[<-Sh,zw];rfl
theorem cmpN_gt {a b:Nm} :0<ZJ a b<->qN b<qN a:=by have:=cmpN_le (a:=a) (b:=b);rw[<-Rat.not_le,<-this];omega
theorem Do (a:Vl):Ko a<0<->qV a<0:=by rw[GL,jK,<-J0 a.e];exact qM_lt.symm
theorem k0a (a:Vl):Ko a<=0<->qV a<=0:=by rw[GL,jL,<-J0 a.e];exact qM_le.symm
def QI (v:Vl):Prop:=v.m % 2=1\/v=⟨false,0,0⟩
theorem IZ (neg:Bool)(m:Nat)(e:Int):QI (Zf neg m e):=by unfold Zf QI;split;exact .inr rfl;exact .inl (HO m (by assumption))
theorem w1w (s e:Int):QI (mkV s e):=IZ _ _ _
theorem IY (x:Nm):QI (ofX x):=IZ _ _ _
theorem Js {x:Nm}(h:Qh x=true):QI (ofN x):=by rw[<-Ti h];exact IY x
theorem H7 {a b:Vl}(ha:QI a)(hb:QI b):QI (Vn a b):=by unfold Vn;split;exact hb;split;exact ha;exact w1w _ _
theorem xA {a:Vl}(ha:QI a):QI (Xf a):=by rcases ha with h | rfl;exact .inl (by rw[qC];exact h);exact .inr rfl
theorem qc {a b:Vl}(ha:QI a)(hb:QI b):QI (JJ a b):=H7 ha (xA hb)
theorem yr {a b:Vl}(ha:QI a)(hb:QI b):QI (byV a b):=by rcases ha with h | rfl;rcases hb with k | rfl;exact .inl (by unfold byV;rw[BA oG];exact J1j h k);exact .inr (by unfold byV;rw[BC (.inr rfl)]);exact .inr (by unfold byV;rw[BC (.inl rfl)])
theorem Kl {v:Vl}(h:QI v)(p:Nat)(up:Bool):QI (QX v p up):=by unfold QX;split;exact h;exact IZ _ _ _
theorem K5 {v:Vl}(h:QI v):okV v:=by rcases h with h | rfl;exact .inl h;exact .inr rfl
theorem W0m {v:Vl}(h:QI v):v=mkV (Z0 v) v.e:=by
 rcases h with h | rfl
 . have:Zf v.neg v.m v.e=v:=by rw[It _ _ _ h]
   conv=>lhs;rw[<-this]
   rw[vi];rfl
 rw[show Z0 ⟨false,0,0⟩=0 from rfl,Q0n]
theorem V1o {s e t f:Int}(h:qM s e=qM t f):mkV s e=mkV t f:=by
 have h1:mkV s e=mkV (s*2^(e-min e f).toNat) (min e f):=by rw[Q0o];congr 1;omega
 have h2:mkV t f=mkV (t*2^(f-min e f).toNat) (min e f):=by rw[Q0o];congr 1;omega
 rw[UF s e (min e f) oG,UF t f (min e f) oG,y0q] at h;rw[h1,h2,h]
theorem H8 {v w:Vl}(hv:QI v)(hw:QI w)(h:qV v=qV w):v=w:=by rw[W0m hv,W0m hw];exact V1o h
theorem Vp {x:Nm}{v:Vl}(hv:QI v)(h:qN x=qV v):ofX x=v:=H8 (IY x) hv (by rw[Ny,h])
theorem jR (neg:Bool)(m d:Nat)(c:Nat)(e:Int):qM (if neg then -((m/2^d+c:Nat):Int) else((m/2^d+c:Nat):Int)) (e+(d:Int))=qM (if neg then -(((m/2^d+c)*2^d:Nat):Int) else(((m/2^d+c)*2^d:Nat):Int)) e:=by rw[<-Vk];congr 1;cases neg;simp;simp[DU]
theorem Ie (v:Vl)(p:Nat):qV (QX v p false)<=qV v:=by unfold QX;split;exact CB;rw[WE,jR];unfold qV Z0;rw[qM_le];generalize Qo v.m-p=d;have h1:=D5 v.m (2^d);have h2:=CG v.m (CT d);rw[BM] at h1;rw[BQ];cases v.neg;rw[BA (by simp),BA (by simp),BA (by simp),DC];omega;rw[BC rfl,BC rfl];by_cases h3:v.m % 2^d=0;rw[BA (by simp[h3]),DC];omega;rw[BC ⟨h3,by simp⟩,CY];omega
theorem Yk (v:Vl)(p:Nat):qV v<=qV (QX v p true):=by unfold QX;split;exact CB;rw[WE,jR];unfold qV Z0;rw[qM_le];generalize Qo v.m-p=d;have h1:=D5 v.m (2^d);have h2:=CG v.m (CT d);rw[BM] at h1;rw[BQ];cases v.neg;rw[BA (by simp),BA (by simp)];by_cases h3:v.m % 2^d=0;rw[BA (by simp[h3]),DC];omega;rw[BC ⟨h3,by simp⟩,CY];omega;rw[BC rfl,BC rfl,BA (by simp),DC];omega
theorem WJ {v:Vl}(hv:QI v)(h:(Zi v).2=0):ofN (Zi v).1=v/\qN (Zi v).1=qV v:=by unfold Zi at h⊢;split;rename_i h0;rcases hv with hv | rfl;omega;exact⟨rfl,rfl⟩;rename_i h0;rw[BA h0] at h;split;rename_i h1;rw[BC h1] at h;cases h;have e:ofN ⟨v.neg,v.e,Qz v.m⟩=v:=(by unfold ofN;rw[Xu]);exact⟨e,by rw[<-Zb,e]⟩
theorem zB {x:Nm}(h:Qh x=true):Zi (ofN x)=(x,0):=by unfold Zi ofN;simp only;have h2:=h;unfold Qh at h2;by_cases hw:x.w= [];rw[BC hw] at h2;simp at h2;rw[BC (by rw[hw];rfl)];congr 1;obtain⟨n,e,w⟩:=x;simp at hw h2;obtain⟨rfl,rfl⟩:=h2;subst hw;rfl;rw[BA hw] at h2;simp only[q_i,BN] at h2;rw[BA (by have:=(KO h);intro e;exact hw (this.1 e)),ZE,jW h,BA oG]
theorem JI {a b:Rat}(ha:0<=a)(hb:0<=b):0<=a*b:=Rat.mul_nonneg ha hb
theorem k1s {x y u v X U:Rat}(h1:x<=X)(h2:X<=y)(h3:u<=U)(h4:U<=v)(hx:0<=x)(hu:0<=u):x*u<=X*U:=by have a1:=JI (a:=X-x) (b:=u) (by grind) hu;have a2:=JI (a:=X) (b:=U-u) (by grind) (by grind);grind
theorem V0x {x y u v X U:Rat}(h1:x<=X)(h2:X<=y)(h3:u<=U)(h4:U<=v)(hx:0<=X)(hu:u<=0):y*u<=X*U:=by have a1:=JI (a:=y-X) (b:= -u) (by grind) (by grind);have a2:=JI (a:=X) (b:=U-u) (by grind) (by grind);grind
theorem V0w {x y u v X U:Rat}(h1:x<=X)(h2:X<=y)(h3:u<=U)(h4:U<=v)(hx:x<=0)(hu:0<=U):x*v<=X*U:=by have a1:=JI (a:= -x) (b:=v-U) (by grind) (by grind);have a2:=JI (a:=X-x) (b:=U) (by grind) (by grind);grind
theorem k1r {x y u v X U:Rat}(h1:x<=X)(h2:X<=y)(h3:u<=U)(h4:U<=v)(hx:y<=0)(hu:v<=0):y*v<=X*U:=by have a1:=JI (a:=y-X) (b:= -v) (by grind) (by grind);have a2:=JI (a:= -X) (b:=v-U) (by grind) (by grind);grind
theorem Q1w {a b:Rat}(ha:a<=0)(hb:b<=0):0<=a*b:=by have:=JI (a:= -a) (b:= -b) (by grind) (by grind);grind
theorem Q1x {a b:Rat}(ha:0<=a)(hb:b<=0):a*b<=0:=by have:=JI (a:=a) (b:= -b) ha (by grind);grind
theorem K1p {a b:Rat}(ha:a<=0)(hb:0<=b):a*b<=0:=by have:=JI (a:= -a) (b:=b) (by grind) hb;grind
def JK (x y u v:Vl):Vl:=
 if 0<=Ko x/\0<=Ko u then byV x u else if 0<=Ko x then byV y u else if 0<=Ko u then byV x v else
 if Ko y<=0/\Ko v<=0 then byV y v else if Kc (byV y u) (byV x v)<0 then byV y u else byV x v
def Wn (x y u v:Vl):Vl:=Xf (JK (Xf y) (Xf x) u v)
theorem k0b (a:Vl):0<=Ko a<->0<=qV a:=by have:=Do a;rw[<-Rat.not_lt,<-this];omega
theorem Hl {x y u v:Vl}(hx:qV x<=qV y)(hu:qV u<=qV v){X U:Rat}(h1:qV x<=X)(h2:X<=qV y)(h3:qV u<=U)(h4:U<=qV v):qV (JK x y u v)<=X*U:=by
 unfold JK;simp only[k0b,k0a,zw,Wh];split;rename_i h;rw[Wh];exact k1s h1 h2 h3 h4 h.1 h.2;rename_i n1;split;rename_i h;rw[Wh];exact V0x h1 h2 h3 h4 (by grind) (by grind);rename_i n2;split;rename_i h;rw[Wh];exact V0w h1 h2 h3 h4 (by grind) (by grind);rename_i n3;split;rename_i h;rw[Wh];exact k1r h1 h2 h3 h4 h.1 h.2;rename_i n4;have key:qV y*qV u<=X*U\/qV x*qV v<=X*U:=by by_cases hX:0<=X;exact .inl (V0x h1 h2 h3 h4 hX (by grind));by_cases hU:0<=U;exact .inr (V0w h1 h2 h3 h4 (by grind) hU);have p:=Q1w (a:=X) (b:=U) (by grind) (by grind);by_cases hy:0<=qV y;have:=Q1x (a:=qV y) (b:=qV u) hy (by grind);exact .inl (by grind);have:=K1p (a:=qV x) (b:=qV v) (by grind) (by grind);exact .inr (by grind)
 split;rename_i h;rw[Wh];grind;rename_i h;rw[Wh];grind
theorem vz (x y u v:Vl):JK x y u v=byV x u\/JK x y u v=byV x v\/JK x y u v=byV y u\/JK x y u v=byV y v:=by
 unfold JK
 repeat' split
 all_goals simp
theorem I5 {x y u v:Vl}(hx:qV x<=qV y)(hu:qV u<=qV v){X U:Rat}(h1:qV x<=X)(h2:X<=qV y)(h3:qV u<=U)(h4:U<=qV v):X*U<=qV (Wn x y u v):=by unfold Wn;have:=Hl (x:=Xf y) (y:=Xf x) (u:=u) (v:=v) (X:= -X) (U:=U) (by rw[WD,WD];grind) hu (by rw[WD];grind) (by rw[WD];grind) h3 h4;rw[WD];grind
theorem G1x (x y u v:Vl):qV (Wn x y u v)=qV x*qV u\/qV (Wn x y u v)=qV x*qV v\/qV (Wn x y u v)=qV y*qV u\/qV (Wn x y u v)=qV y*qV v:=by
 unfold Wn;rw[WD];rcases vz (Xf y) (Xf x) u v with h | h | h | h
 all_goals rw[h,Wh,WD];grind
theorem yq {x y u v:Vl}(hx:QI x)(hy:QI y)(hu:QI u)(hv:QI v):QI (JK x y u v):=by
 rcases vz x y u v with h | h | h | h
 all_goals rw[h];exact yr (by assumption) (by assumption)
theorem W0o {x y u v:Vl}(hx:QI x)(hy:QI y)(hu:QI u)(hv:QI v):QI (Wn x y u v):=xA (yq (xA hy) (xA hx) hu hv)
def exV (k:Nat)(a b:Vl):Vl:=if k=0 then Vn a b else if k=1 then JJ a b else byV a b
def exQ (k:Nat)(a b:Rat):Rat:=if k=0 then a+b else if k=1 then a-b else a*b
theorem IE (a b:Rat):exQ 0 a b=a+b:=by simp[exQ]
theorem YZ (a b:Rat):exQ 1 a b=a-b:=by simp[exQ]
theorem xj (a b:Rat):exQ 2 a b=a*b:=by simp[exQ]
theorem Wg (k:Nat)(a b:Vl):qV (exV k a b)=exQ k (qV a) (qV b):=by unfold exV exQ;split;exact UE a b;split;exact YH a b;exact Wh a b
theorem Gk (k:Nat){a b:Vl}(ha:QI a)(hb:QI b):QI (exV k a b):=by unfold exV;split;exact H7 ha hb;split;exact qc ha hb;exact yr ha hb
def Qt (p:Int):Bool:=decide (8<=p)&&decide (p<=256)
def Qs (k:Nat)(a b:Nm)(p:Int)(up:Bool):Nm×Int:=if Qh a=true/\Qh b=true/\Qt p=true then Zi (QX (exV k (ofN a) (ofN b)) p.toNat up) else(default,1)
def Za (k:Nat)(a b:Nm):Nm×Int:=if Qh a=true/\Qh b=true then Zi (exV k (ofN a) (ofN b)) else(default,1)
def Z5 (x:Nm)(k:Int):Nm×Int:=if Qh x=true then(if x.w= [] then(x,0) else if k< -131072\/131072<k then(default,2) else Zi ⟨x.neg,Qc x.w,x.exp+k⟩) else(default,1)
def XN (lo hi:Vl):Ivl×Int:=if (Zi lo).2=0/\(Zi hi).2=0 then(⟨(Zi lo).1,(Zi hi).1⟩,0) else(default,2)
def loV (k:Nat)(x y u v:Vl):Vl:=if k=0 then Vn x u else if k=1 then JJ x v else JK x y u v
def hiV (k:Nat)(x y u v:Vl):Vl:=if k=0 then Vn y v else if k=1 then JJ y u else Wn x y u v
def opI (k:Nat)(a b:Ivl)(p:Int):Ivl×Int:=
 if Qp a=true/\Qp b=true/\Qt p=true then XN (QX (loV k (ofN a.lo) (ofN a.hi) (ofN b.lo) (ofN b.hi)) p.toNat false) (QX (hiV k (ofN a.lo) (ofN a.hi) (ofN b.lo) (ofN b.hi)) p.toNat true) else(default,1)
theorem W1y (x y u v:Vl):loV 0 x y u v=Vn x u:=by simp[loV]
theorem G1g (x y u v:Vl):hiV 0 x y u v=Vn y v:=by simp[hiV]
theorem W1x (x y u v:Vl):loV 1 x y u v=JJ x v:=by simp[loV]
theorem G1f (x y u v:Vl):hiV 1 x y u v=JJ y u:=by simp[hiV]
theorem Z0f (k:Nat){x y u v:Vl}(hx:qV x<=qV y)(hu:qV u<=qV v){X U:Rat}(h1:qV x<=X)(h2:X<=qV y)(h3:qV u<=U)(h4:U<=qV v):qV (loV k x y u v)<=exQ k X U:=by unfold loV exQ;split;rw[UE];grind;split;rw[YH];grind;exact Hl hx hu h1 h2 h3 h4
theorem Z0y (k:Nat){x y u v:Vl}(hx:qV x<=qV y)(hu:qV u<=qV v){X U:Rat}(h1:qV x<=X)(h2:X<=qV y)(h3:qV u<=U)(h4:U<=qV v):exQ k X U<=qV (hiV k x y u v):=by unfold hiV exQ;split;rw[UE];grind;split;rw[YH];grind;exact I5 hx hu h1 h2 h3 h4
theorem xB (k:Nat){x y u v:Vl}(hx:QI x)(hy:QI y)(hu:QI u)(hv:QI v):QI (loV k x y u v):=by unfold loV;split;exact H7 hx hu;split;exact qc hx hv;exact yq hx hy hu hv
theorem xC (k:Nat){x y u v:Vl}(hx:QI x)(hy:QI y)(hu:QI u)(hv:QI v):QI (hiV k x y u v):=by unfold hiV;split;exact H7 hy hv;split;exact qc hy hu;exact W0o hx hy hu hv
theorem J1 {x:Ivl}(h:Qp x=true):qV (ofN x.lo)<=qV (ofN x.hi):=cmpN_le.1 (Xg h).2.2
theorem z1s {lo hi:Vl}(h1:QI lo)(h2:QI hi)(h:qV lo<=qV hi):Qp (XN lo hi).1=true:=by unfold XN;split;rename_i hh;exact Ig (JZ (K5 h1)) (JZ (K5 h2)) (cmpN_le.2 (by rw[(WJ h1 hh.1).2,(WJ h2 hh.2).2];exact h));decide
theorem W1w (k:Nat){a b:Ivl}(ha:Qp a=true)(hb:Qp b=true)(p:Nat):
 qV (QX (loV k (ofN a.lo) (ofN a.hi) (ofN b.lo) (ofN b.hi)) p false)<=qV (QX (hiV k (ofN a.lo) (ofN a.hi) (ofN b.lo) (ofN b.hi)) p true):=by
 have h1:=Ie (loV k (ofN a.lo) (ofN a.hi) (ofN b.lo) (ofN b.hi)) p;have h2:=Yk (hiV k (ofN a.lo) (ofN a.hi) (ofN b.lo) (ofN b.hi)) p;have h3:=Z0f k (J1 ha) (J1 hb) CB (J1 ha) CB (J1 hb);have h4:=Z0y k (J1 ha) (J1 hb) CB (J1 ha) CB (J1 hb);grind
theorem Jt {x:Ivl}(h:Qp x=true):QI (ofN x.lo)/\QI (ofN x.hi):=⟨Js (Xg h).1,Js (Xg h).2.1⟩
theorem XT (k:Nat)(a b:Ivl)(p:Int):Qp (opI k a b p).1=true:=by unfold opI;split;rename_i h;have ca:=Jt h.1;have cb:=Jt h.2.1;exact z1s (Kl (xB k ca.1 ca.2 cb.1 cb.2) _ _) (Kl (xC k ca.1 ca.2 cb.1 cb.2) _ _) (W1w k h.1 h.2.1 _);decide
def Ke (X:Rat)(a:Ivl):Prop:=qN a.lo<=X/\X<=qN a.hi
theorem kJ (k:Nat){a b:Ivl}{p:Int}(h:(opI k a b p).2=0){X U:Rat}(hX:Ke X a)(hU:Ke U b):Ke (exQ k X U) (opI k a b p).1:=by unfold opI at h⊢;split;rename_i hr;rw[BC hr] at h;have ca:=Jt hr.1;have cb:=Jt hr.2.1;unfold XN at h⊢;split;rename_i hh;have h1:=(WJ (Kl (xB k ca.1 ca.2 cb.1 cb.2) _ _) hh.1).2;have h2:=(WJ (Kl (xC k ca.1 ca.2 cb.1 cb.2) _ _) hh.2).2;have h3:=Z0f k (J1 hr.1) (J1 hr.2.1) hX.1 hX.2 hU.1 hU.2;have h4:=Z0y k (J1 hr.1) (J1 hr.2.1) hX.1 hX.2 hU.1 hU.2;have h5:=Ie (loV k (ofN a.lo) (ofN a.hi) (ofN b.lo) (ofN b.hi)) p.toNat;have h6:=Yk (hiV k (ofN a.lo) (ofN a.hi) (ofN b.lo) (ofN b.hi)) p.toNat;exact⟨by rw[h1];grind,by rw[h2];grind⟩;rename_i hh;rw[BA hh] at h;cases h;rename_i hr;rw[BA hr] at h;cases h
def bd (n k:Nat)(x:Nm):Prop:=x.w.length<=n/\ -(k:Int)<=x.exp/\x.exp<=k
theorem bd.mono {n k n' k':Nat}{x:Nm}(h:bd n k x)(h1:n<=n')(h2:k<=k'):bd n' k' x:=⟨by have:=h.1;omega,by have:=h.2.1;omega,by have:=h.2.2;omega⟩
theorem Xo {x:Nm}(h:Qh x=true):bd 64 65536 x:=by unfold Qh at h;by_cases hw:x.w= [];rw[BC hw] at h;simp at h;exact⟨by rw[hw];simp,by rw[h.2];omega,by rw[h.2];omega⟩;rw[BA hw] at h;simp only[q_i,BN] at h;exact⟨h.1.1.1.2,h.1.2,h.2⟩
theorem y0m (x:Nm):qN { x with neg:= !x.neg } = -qN x:=by unfold qN ZQ;rw[<-YL];congr 1;cases x.neg<;>simp
theorem zi (neg:Bool)(e:Int)(m:Nat):qN ⟨neg,e,Qz m⟩=qM (if neg then -(m:Int) else(m:Int)) e:=by unfold qN ZQ;rw[Xu]
theorem kt (b:Nm)(e:Int)(d:Nat)(h:b.exp=e+d):qN b=qM (if b.neg then -((Qc b.w*2^d:Nat):Int) else((Qc b.w*2^d:Nat):Int)) e:=by unfold qN;rw[h,<-Vk];congr 1;unfold ZQ;cases b.neg;simp;simp[DU]
theorem z1e (a b:Nm)(d:Nat)(h:b.exp=a.exp+d)(hn:a.neg=b.neg):qN ⟨a.neg,a.exp,Qz (Qc a.w+Qc b.w*2^d)⟩=qN a+qN b:=by rw[zi,kt b a.exp d h,show qN a=qM (ZQ a) a.exp from rfl,<-zj];congr 1;unfold ZQ;rw[<-hn];cases a.neg<;>simp<;>omega
theorem z1h (a b:Nm)(d:Nat)(h:b.exp=a.exp+d)(hn:a.neg≠b.neg)(hle:Qc b.w*2^d<=Qc a.w):qN ⟨a.neg,a.exp,Qz (Qc a.w-Qc b.w*2^d)⟩=qN a+qN b:=by
 rw[zi,kt b a.exp d h,show qN a=qM (ZQ a) a.exp from rfl,<-zj];congr 1;unfold ZQ;generalize Qc b.w*2^d=x at*
 cases ha:a.neg<;>cases hb:b.neg<;>simp[ha,hb] at hn⊢ <;>omega
theorem z1g (a b:Nm)(d:Nat)(h:b.exp=a.exp+d)(hn:a.neg≠b.neg)(hle:Qc a.w<=Qc b.w*2^d):qN ⟨b.neg,a.exp,Qz (Qc b.w*2^d-Qc a.w)⟩=qN a+qN b:=by
 rw[zi,kt b a.exp d h,show qN a=qM (ZQ a) a.exp from rfl,<-zj];congr 1;unfold ZQ;generalize Qc b.w*2^d=x at*
 cases ha:a.neg<;>cases hb:b.neg<;>simp[ha,hb] at hn⊢ <;>omega
theorem Dq {x:Nm}(h:QJ x=0):qN x=0:=by
 have:ZQ x=0:=by rw[U1] at h;unfold sgn at h;split at h;assumption;split at h<;>omega
 unfold qN;rw[this,J0]
theorem z1f (a b:Nm)(n k d:Nat)(ha:bd n k a)(hb:bd n k b)(hd:d<=2*k):(Qz (Qc a.w+Qc b.w*2^d)).length<=n+k+1:=by
 refine Ya ?_;have h1:=Xe a.w;have h2:=Xe b.w;have hp: ∀l:Nat,l<=n->18446744073709551616^l<=2^(64*n):=fun l hl=>(by rw[KV];exact BS (by decide) oG);have h3:Qc a.w<2^(64*n+d):=q_e h1 (B7 (hp _ ha.1) (BS (by decide) oG));have h4:Qc b.w*2^d<2^(64*n+d):=by rw[B2];exact C5 (q_e h2 (hp _ hb.1)) (CT d)
 have h5:18446744073709551616^(n+k+1)=2^(64*(n+k+1)):=KV _;have h6:2^(64*n+d+1)<=2^(64*(n+k+1)):=BS (by decide) oG;have h7:2^(64*n+d+1)=2^(64*n+d)*2:=B5 ..;rw[h5];omega
theorem J0z (a b:Nm)(n k d m:Nat)(ha:bd n k a)(hb:bd n k b)(hd:d<=2*k)(hm:m<=Qc a.w+Qc b.w*2^d):(Qz m).length<=n+k+1:=B7 (Uq hm) (z1f a b n k d ha hb hd)
theorem y0o (a b:Nm):qN ⟨a.neg !=b.neg,a.exp+b.exp,Qz (Qc a.w*Qc b.w)⟩=qN a*qN b:=by rw[zi];show _=qM (ZQ a) a.exp*qM (ZQ b) b.exp;rw[<-ku];congr 1;unfold ZQ;cases a.neg<;>cases b.neg<;>simp[DU,Int.mul_neg]
theorem Y1e (a b:Nm)(n k m l:Nat)(ha:bd n k a)(hb:bd m l b):bd (n+m) (k+l) ⟨a.neg !=b.neg,a.exp+b.exp,Qz (Qc a.w*Qc b.w)⟩:=by refine⟨Ya ?_,?_,?_⟩;have h1:=Xe a.w;have h2:=Xe b.w;refine q_e (Nat.mul_lt_mul'' h1 h2) ?_;rw[<-B2];exact BS (by decide) (by have:=ha.1;have:=hb.1;omega);have:=ha.2.1;have:=hb.2.1;simp only;omega;have:=ha.2.2;have:=hb.2.2;simp only;omega
theorem G0a (m:Nat)(h:m≠0):((Qz m).getD 0 0).toNat % 2=m % 2:=by rw[<-qu,Xu]
theorem w0a (neg:Bool)(m:Nat)(e:Int)(h:m % 2=1):Qh ⟨neg,e,Qz m⟩=(decide ((Qz m).length<=64)&&decide (-65536<=e)&&decide (e<=65536)):=by
 have hw:Qz m≠ []:=fun e=>by rw[wordsOf_nil] at e;omega
 have h1:((Qz m).getD 0 0).toNat % 2=1:=by rw[G0a m oG];exact h
 unfold Qh;rw[BA hw,IP];simp only[h1,decide_true,FF,Bool.and_true]
def mkX (neg:Bool)(w:List UInt64)(e:Int):Nm×Int:=Zi (Zf neg (Qc w) e)
theorem V1l {neg:Bool}{w:Lu}{e:Int}(h:Qc w=0):mkX neg w e=(default,0):=by unfold mkX;rw[h,UJ];rfl
theorem Q0m {neg:Bool}{w:Lu}{e:Int}(h:Qc w≠0)(h2:65536<e\/e< -65536-((tz (Qc w):Nat):Int)):mkX neg w e=(default,2):=by unfold mkX Zf;rw[BA h];have h1:Qc w/2^tz (Qc w)≠0:=(by have:=HO (Qc w) h;omega);unfold Zi;rw[BA h1,BC (by simp only;omega)]
theorem V1m {neg:Bool}{w:Lu}{e:Int}(h:Qc w≠0):mkX neg w e=if Qh ⟨neg,e+((tz (Qc w):Nat):Int),Qz (Qc w/2^tz (Qc w))⟩=true then(⟨neg,e+((tz (Qc w):Nat):Int),Qz (Qc w/2^tz (Qc w))⟩,0) else(default,2):=by have h0:=HO (Qc w) h;rw[w0a _ _ _ h0];unfold mkX Zf;rw[BA h];unfold Zi;rw[BA (by simp only;omega)];simp only;by_cases hc:64<(Qz (Qc w/2^tz (Qc w))).length\/e+((tz (Qc w):Nat):Int)< -65536\/65536<e+((tz (Qc w):Nat):Int);rw[BC hc,BA];simp only[q_i,BN];omega;rw[BA hc,BC];simp only[q_i,BN];omega
theorem vg (x:Nm):mkX x.neg x.w x.exp=Zi (ofX x):=rfl
def Vi (x:Nm)(p:Nat)(up:Bool):Nm:=
 if QF x.w<=p then x else⟨x.neg,x.exp+((QF x.w-p:Nat):Int),Qz (Qc x.w/2^(QF x.w-p)+(if tz (Qc x.w)<QF x.w-p/\up≠x.neg then 1 else 0))⟩
theorem Mb (x:Nm)(p:Nat)(up:Bool)(hp:0<p):ofX (Vi x p up)=QX (ofX x) p up:=by unfold Vi;show _=QX (Zf x.neg (Qc x.w) x.exp) p up;rw[v0u _ _ _ _ _ hp];unfold QF;split;rfl;unfold ofX;rw[Xu]
theorem Mc (x:Nm)(p:Nat)(up:Bool)(n k:Nat)(h:bd n k x):bd (n+1) (k+64*n) (Vi x p up):=by have hb:=Vb x.w;have hl:=h.1;unfold Vi;split;exact h.mono oG oG;refine⟨?_,?_,?_⟩;refine Ya ?_;have h1:=Xe x.w;have h2:Qc x.w/2^(QF x.w-p)<=Qc x.w:=DB _ _;have h3:18446744073709551616^x.w.length<=18446744073709551616^n:=BS (by decide) hl;have h4:18446744073709551616^(n+1)=18446744073709551616^n*18446744073709551616:=B5 ..;split<;>omega;have:=h.2.1;simp only;omega;have:=h.2.2;simp only;omega
def Kf (a:Ivl)(x:Nm):Bool:=Qp a&&Qh x&&decide (ZJ a.lo x<=0)&&decide (ZJ x a.hi<=0)
def Wk (lo hi:Nm):Ivl×Int:=if Qp ⟨lo,hi⟩=true then(⟨lo,hi⟩,0) else(default,1)
def UW (v:Vl):Vl:=if v.m=0 then v else { v with e:=v.e-1 }
def Vw (a:Ivl)(p:Nat):Vl:=QX (UW (Vn (ofN a.lo) (ofN a.hi))) p false
def Kd (a:Ivl)(p:Int):Nm×Int:=if Qp a=true/\Qt p=true then(if Kc (Vw a p.toNat) (ofN a.lo)<0 then(a.lo,0) else Zi (Vw a p.toNat)) else(default,1)
def Jv (a:Ivl)(p:Int):Nm×Int:=if Qp a=true/\Qt p=true then Zi (QX (JJ (ofN a.hi) (ofN a.lo)) p.toNat true) else(default,1)
theorem Rp :p2 1=2:=by have:=Rq 1;rw[<-show((1:Nat):Int)=1 from rfl,<-this];rfl
theorem Oc (s e:Int):qM s (e-1)*2=qM s e:=by unfold qM;have h:=Is (e-1) 1;rw[show e-1+1=e from oG,Rp] at h;rw[h];grind
theorem y0l (v:Vl):qV (UW v)*2=qV v:=by unfold UW;split;rename_i h;rw[Vj h];grind;exact Oc (Z0 v) v.e
theorem W0n {v:Vl}(h:QI v):QI (UW v):=by unfold UW;split;exact h;rename_i h0;rcases h with h | rfl;exact .inl h;exact absurd rfl h0
theorem y0p (x:Nm):qN { x with exp:=x.exp-1 } *2=qN x:=Oc (ZQ x) x.exp
theorem q0l {a b:Rat}(h:a*2=b*2):a=b:=by grind
theorem J1b {x:Nm}{v:Vl}(hv:QI v)(h:qN x=qV v):ofX { x with exp:=x.exp-1 } =UW v:=by refine Vp (W0n hv) (q0l ?_);rw[y0p,y0l,h]
theorem Mp {x y:Nm}(hx:Qh x=true)(hy:Qh y=true)(h:qN x=qN y):x=y:=by have h1:=H8 (Js hx) (Js hy) (by rw[Zb,Zb,h]);have h2:=zB hx;rw[h1,zB hy] at h2;exact(B4 Prod.fst h2).symm
theorem V1p {a:Ivl}{p:Nat}{y:Nm}(hr:Qp a=true)(h:ofX y=Vw a p):Zi (ofX (Zv a.lo y))=if Kc (Vw a p) (ofN a.lo)<0 then(a.lo,0) else Zi (Vw a p):=by
 have hlo:=(Xg hr).1;have hq:qN y=qV (Vw a p):=(by rw[<-h,Ny]);unfold Zv;by_cases c:ZJ y a.lo>0;rw[BC c,h,BA];intro hh;have h1:=(zw _ _).1 hh;have h2:=cmpN_gt.1 c;rw[Zb,<-hq] at h1;grind;rw[BA c,Ti hlo,zB hlo];by_cases d:Kc (Vw a p) (ofN a.lo)<0;rw[BC d];rw[BA d];have h1: ¬qV (Vw a p)<qV (ofN a.lo):=fun e=>d ((zw _ _).2 e);have h2: ¬qN a.lo<qN y:=fun e=>c (cmpN_gt.2 e);have h3:qV (Vw a p)=qV (ofN a.lo):=(by rw[Zb] at h1⊢;rw[<-hq] at h1⊢;grind);have h4:Vw a p=ofN a.lo:=by rw[<-h];exact H8 (IY y) (Js hlo) (by rw[h,h3])
 rw[h4,zB hlo]
theorem kq (a b:Nm):qN (Z9 a b)<=qN a/\qN (Z9 a b)<=qN b/\(qN (Z9 a b)=qN a\/qN (Z9 a b)=qN b):=by have h1:=cmpN_le.1 (Y1h a b);have h2:=cmpN_le.1 (Y1g a b);refine⟨h1,h2,?_⟩;unfold Z9;split;exact .inr rfl;exact .inl rfl
theorem zh (a b:Nm):qN a<=qN (Zv a b)/\qN b<=qN (Zv a b)/\(qN (Zv a b)=qN a\/qN (Zv a b)=qN b):=by have h1:=cmpN_le.1 (G1z a b);have h2:=cmpN_le.1 (G1y a b);refine⟨h1,h2,?_⟩;unfold Zv;split;exact .inr rfl;exact .inl rfl
theorem H1w {a b:Ivl}(ha:Qp a=true)(hb:Qp b=true){p1 p2 p3 p4:Nm}(h1:qN p1=qN a.lo*qN b.lo)(h2:qN p2=qN a.lo*qN b.hi)(h3:qN p3=qN a.hi*qN b.lo)(h4:qN p4=qN a.hi*qN b.hi):
 ofX (Z9 (Z9 (Z9 p1 p2) p3) p4)=loV 2 (ofN a.lo) (ofN a.hi) (ofN b.lo) (ofN b.hi):=by
 have ca:=Jt ha;have cb:=Jt hb;have la:=J1 ha;have lb:=J1 hb;show _=JK (ofN a.lo) (ofN a.hi) (ofN b.lo) (ofN b.hi);refine Vp (yq ca.1 ca.2 cb.1 cb.2) ?_;have r1:=Hl la lb CB la CB lb;have r2:=Hl la lb CB la lb CB;have r3:=Hl la lb la CB CB lb;have r4:=Hl la lb la CB lb CB;have rr: ∀v w:Vl,JK (ofN a.lo) (ofN a.hi) (ofN b.lo) (ofN b.hi)=byV v w->qV (JK (ofN a.lo) (ofN a.hi) (ofN b.lo) (ofN b.hi))=qV v*qV w:=fun v w e=>(by rw[e,Wh]);have r5:qV (JK (ofN a.lo) (ofN a.hi) (ofN b.lo) (ofN b.hi))=qV (ofN a.lo)*qV (ofN b.lo)\/qV (JK (ofN a.lo) (ofN a.hi) (ofN b.lo) (ofN b.hi))=qV (ofN a.lo)*qV (ofN b.hi)\/qV (JK (ofN a.lo) (ofN a.hi) (ofN b.lo) (ofN b.hi))=qV (ofN a.hi)*qV (ofN b.lo)\/qV (JK (ofN a.lo) (ofN a.hi) (ofN b.lo) (ofN b.hi))=qV (ofN a.hi)*qV (ofN b.hi):=by rcases vz (ofN a.lo) (ofN a.hi) (ofN b.lo) (ofN b.hi) with e | e | e | e;exact .inl (rr _ _ e);exact .inr (.inl (rr _ _ e));exact .inr (.inr (.inl (rr _ _ e)));exact .inr (.inr (.inr (rr _ _ e)))
 generalize qV (JK (ofN a.lo) (ofN a.hi) (ofN b.lo) (ofN b.hi))=V at*
 simp only[Zb] at*
 rw[<-h1] at r1 r5;rw[<-h2] at r2 r5;rw[<-h3] at r3 r5;rw[<-h4] at r4 r5;obtain⟨s1,s2,s3⟩:=kq p1 p2;obtain⟨t1,t2,t3⟩:=kq (Z9 p1 p2) p3;obtain⟨u1,u2,u3⟩:=kq (Z9 (Z9 p1 p2) p3) p4;clear h1 h2 h3 h4 la lb rr;grind
theorem H1x {a b:Ivl}(ha:Qp a=true)(hb:Qp b=true){p1 p2 p3 p4:Nm}(h1:qN p1=qN a.lo*qN b.lo)(h2:qN p2=qN a.lo*qN b.hi)(h3:qN p3=qN a.hi*qN b.lo)(h4:qN p4=qN a.hi*qN b.hi):
 ofX (Zv (Zv (Zv p1 p2) p3) p4)=hiV 2 (ofN a.lo) (ofN a.hi) (ofN b.lo) (ofN b.hi):=by
 have ca:=Jt ha;have cb:=Jt hb;have la:=J1 ha;have lb:=J1 hb;show _=Wn (ofN a.lo) (ofN a.hi) (ofN b.lo) (ofN b.hi);refine Vp (W0o ca.1 ca.2 cb.1 cb.2) ?_;have r1:=I5 la lb CB la CB lb;have r2:=I5 la lb CB la lb CB;have r3:=I5 la lb la CB CB lb;have r4:=I5 la lb la CB lb CB;have r5:=G1x (ofN a.lo) (ofN a.hi) (ofN b.lo) (ofN b.hi);generalize qV (Wn (ofN a.lo) (ofN a.hi) (ofN b.lo) (ofN b.hi))=V at*
 simp only[Zb] at*
 rw[<-h1] at r1 r5;rw[<-h2] at r2 r5;rw[<-h3] at r3 r5;rw[<-h4] at r4 r5;obtain⟨s1,s2,s3⟩:=zh p1 p2;obtain⟨t1,t2,t3⟩:=zh (Zv p1 p2) p3;obtain⟨u1,u2,u3⟩:=zh (Zv (Zv p1 p2) p3) p4;clear h1 h2 h3 h4 la lb;grind
def opB (k:Nat)(a b:List Ivl)(p:Int):List Ivl×Int:=if rightB a=true/\rightB b=true/\a.length=b.length/\Qt p=true then ZD (fun i x=>opI k x (b.getD i default) p) 0 a [] else([],1)
def XX (x:Ivl)(b:List Ivl)(p:Int):List Ivl×Int:=if rightB b=true/\Qp x=true/\Qt p=true then ZD (fun _ y=>opI 2 x y p) 0 b [] else([],1)
def Zk (b:List Ivl)(p:Int):List Nm×Int:=if rightB b=true/\Qt p=true then ZD (fun _ a=>Kd a p) 0 b [] else([],1)
def ofB (q:List Nm):List Ivl:=q.map fun x=>⟨x,x⟩
def VX (a:Ivl)(p:Int):Ivl×Int:=
 if (Jv a p).2≠0 then(default,(Jv a p).2) else if (Z5 (Jv a p).1 (-2)).2≠0 then(default,(Z5 (Jv a p).1 (-2)).2) else
 if (Qs 1 a.lo (Z5 (Jv a p).1 (-2)).1 p false).2≠0\/(Qs 0 a.hi (Z5 (Jv a p).1 (-2)).1 p true).2≠0 then(default,2) else
 (⟨(Qs 1 a.lo (Z5 (Jv a p).1 (-2)).1 p false).1,(Qs 0 a.hi (Z5 (Jv a p).1 (-2)).1 p true).1⟩,0)
def Ue (b:List Ivl)(p:Int):List Ivl×Int:=if rightB b=true/\Qt p=true then ZD (fun _ a=>VX a p) 0 b [] else([],1)
theorem xn {α β:Type}[Inhabited α](F:Nat->α->β×Int)(l:List α)(h:0<l.length)(e:Int)(he:e≠0)(hf: ∀i x,(F i x).2=e):ZD F 0 l []=([],e):=by
 cases l with
 | nil=>simp at h
 | cons x l=>
  rw[ZD,BC (by rw[hf];exact he),hf]
theorem Sq {k:Nat}{a b:Ivl}{p:Int}(h:Qt p=false):opI k a b p=(default,1):=by rw[opI,BA (fun hh=>by simp[h] at hh)]
theorem V1r {a:Ivl}{p:Int}(h:Qt p=false):Kd a p=(default,1):=by rw[Kd,BA (fun hh=>by simp[h] at hh)]
theorem G0g {a:Ivl}{p:Int}(h:Qt p=false):Jv a p=(default,1):=by rw[Jv,BA (fun hh=>by simp[h] at hh)]
theorem Q2g {a:Ivl}{p:Int}(h:Qt p=false):VX a p=(default,1):=by rw[VX,G0g h,BC (by decide)]
theorem G0f (a:Ivl)(p:Int):Qh (Jv a p).1=true:=by unfold Jv;split;rename_i h;have c:=Jt h.1;exact JZ (K5 (Kl (qc c.2 c.1) _ _));exact Yl
theorem vj (a:Ivl)(p:Int):Qh (Kd a p).1=true:=by unfold Kd;split;rename_i h;split;exact(Xg h.1).1;have c:=Jt h.1;exact JZ (K5 (Kl (W0n (H7 c.1 c.2)) _ _));exact Yl
theorem qR (x:Nm)(k:Int):Qh (Z5 x k).1=true:=by unfold Z5;split;rename_i h;split;exact h;split;exact Yl;refine JZ ?_;have h1:=kK h;rcases h1 with h1 | h1;exact .inl h1;exact .inr h1;exact Yl
theorem XZ (k:Nat)(a b:Nm)(p:Int)(up:Bool):Qh (Qs k a b p up).1=true:=by unfold Qs;split;rename_i h;exact JZ (K5 (Kl (Gk k (Js h.1) (Js h.2.1)) _ _));exact Yl
theorem zC (v:Vl):(Zi v).2=0\/(Zi v).2=2:=by unfold Zi;split;exact .inl rfl;split;exact .inr rfl;exact .inl rfl
theorem GX {k:Nat}{a b:Nm}{p:Int}{up:Bool}(ha:Qh a=true)(hb:Qh b=true)(hp:Qt p=true):(Qs k a b p up).2=0\/(Qs k a b p up).2=2:=by rw[Qs,BC ⟨ha,hb,hp⟩];exact zC _
def bdV (n k:Nat)(v:Vl):Prop:=Qo v.m<=n/\ -(k:Int)<=v.e/\v.e<=k
theorem bdV.mono {n k n' k':Nat}{v:Vl}(h:bdV n k v)(h1:n<=n')(h2:k<=k'):bdV n' k' v:=⟨by have:=h.1;omega,by have:=h.2.1;omega,by have:=h.2.2;omega⟩
theorem Y0l {x:Nm}(h:Qh x=true):bdV 4096 65536 (ofN x):=by have hb:=Xo h;have h1:=Vb x.w;exact⟨by show Qo (Qc x.w)<=_;unfold QF at h1;have:=hb.1;omega,hb.2.1,hb.2.2⟩
theorem y0j (k:Nat):qV (Zf false k 0)=(k:Rat):=by rw[WE,BA (by simp)];unfold qM;rw[zu];show((k:Int):Rat)*1=_;rw[Rat.mul_one];rfl
def smI (a:Ivl):Prop:=Qp a=true/\bdV 6 12 (ofN a.lo)/\bdV 6 12 (ofN a.hi)
theorem Y0k {n k:Nat} :bdV n k (ofN default):=by refine⟨?_,?_,?_⟩;show Qo 0<=n;rw[Uf];omega;show -(k:Int)<=0;omega;show(0:Int)<=k;omega
theorem H1e {α:Type}(l:List α)(i j:Nat)(x d:α)(hj:j<l.length):(l.set i x).getD j d=if i=j then x else l.getD j d:=by simp only[q_a,List.getElem?_set];split;rename_i h;subst h;simp[hj];rfl
end Go.Pv
end
