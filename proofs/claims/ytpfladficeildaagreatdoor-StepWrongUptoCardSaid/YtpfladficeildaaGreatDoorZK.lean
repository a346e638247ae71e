/- Walk. -/
import Derived.Test.YtpfladficeildaaGreatDoorRows
import Derived.Test.YtpfladficeildaaGreatDoorZD
import Derived.ProofKit
import Derived.OpenShut
import Derived.JoinedCond
import Derived.ChangeSame
import Derived.Carry
set_option linter.all false
set_option maxHeartbeats 160000000
section
namespace Go.Pv
open Go.Proofs Go.ChangeShapes Go.WideShapes Go.ChangeAt Go.RowKit
open Go.Proofs.YtpfladficeildaaGreatDoor.Rows (uptoBulk uptoBulkAll)
def XH (w:World):Gh:=⟨0,fun _=>0,fun b=>match w.heap[b]? with | some (.cells c _ _)=>c.size | _=>0⟩
theorem yu {w:Lw}{b o:Nat}{c:Value}(h:w.cell? ⟨b,o,none⟩=some c):o<(XH w).vis b:=by unfold World.cell? at h;simp only[XH];split at h;rename_i c' t f hh;simp only at hh;rw[hh];simp at h;exact(C3.1 h).1;cases h
theorem j0a (w:Lw)(ht:TabOK w (XH w)):StoreOK w (XH w) []:=by refine⟨rfl,fun i j hi=>by simp[XH] at hi,fun i hi=>by simp[XH] at hi,fun i hi=>by simp[XH] at hi,fun i hi=>by simp[XH] at hi,fun b hb=> ?_,ht⟩;simp only[XH];rw[FX hb]
theorem w1p {H:Type}(d:DataW H):1<=uptoBulk d:=by
 cases d with
 | lit l=>cases l<;>simp[uptoBulk]
 | nil=>simp[uptoBulk]
 | ptr d=>simp[uptoBulk]
 | slice elems spare=>simp[uptoBulk]
 | agg parts=>simp[uptoBulk]
 | iface t d=>simp[uptoBulk]
 | map entries=>simp[uptoBulk]
 | held h=>simp[uptoBulk]
theorem xN {H:Type}{d:DataW H}{l:List (DataW H)}(h:d∈l):uptoBulk d<=uptoBulkAll l:=by
 induction l with
 | nil=>cases h
 | cons x r ih=>
  simp only[uptoBulkAll];cases D8.1 h with
  | inl e=>subst e;omega
  | inr e=>have:=ih e;omega
theorem w1q {H:Type}(l:List (DataW H)):l.length<=uptoBulkAll l:=by
 induction l with
 | nil=>simp[uptoBulkAll]
 | cons x r ih=>have:=w1p x;simp only[uptoBulkAll,C1];omega
structure Ty (P:Program) (t:TypeId) (n:Nat) {α:Type} (enc:α->List PV) (ok:Nat->α->Prop):Prop where
 cells:P.cellsOf t=n
 len: ∀x,(enc x).length=n
 mono: ∀ {k k' x},ok k x->k<=k'->ok k' x
 rd: ∀ {H:Type} (tok:TypeId×Value->H) (w:World) (fuel:Nat) (cs:List Value) (x:DataW H×List MemPlace),
  DataW.trod tok P w 0 (fun _=>true) true fuel t cs=some x-> ∃y,cs.length=n/\(∀j,j<n->Rep w (XH w) (cs.getD j undef) ((enc y).getD j .junk))/\ok (uptoBulk x.1) y
section
variable {P:Program} {t e:TypeId}
theorem Yt {n:Nat}{α β:Type}{enc:α->List PV}{ok:Nat->α->Prop}(h:Ty P t n enc ok)(f:α->β){enc':β->List PV}{ok':Nat->β->Prop}(he: ∀x,enc' (f x)=enc x)(hl: ∀x,(enc' x).length=n)(hok: ∀k x,ok k x->ok' k (f x))(hm: ∀ {k k' x},ok' k x->k<=k'->ok' k' x):Ty P t n enc' ok':=
 ⟨h.cells,hl,hm,fun tok w fuel cs x hx=>by obtain⟨y,h1,h2,h3⟩:=h.rd tok w fuel cs x hx;exact⟨f y,h1,by rw[he];exact h2,hok _ _ h3⟩⟩
theorem q0q (hu:P.underlying t=some .bool)(hc:P.cellsOf t=1):Ty P t 1 (fun b:Bool=> [.sc (.bool b)]) (fun _ _=>True):=
 ⟨hc,fun _=>rfl,fun _ _=>trivial,fun tok w fuel cs x hx=>by
  obtain⟨b,rfl,_⟩:=DataW.trod_bool hu hx
  exact⟨b,rfl,fun j hj=>by have:j=0:=oG
                           subst this;exact .sc _,trivial⟩⟩
theorem Cq (hu:P.underlying t=some (.int .i64))(hc:P.cellsOf t=1):Ty P t 1 (fun n:Int=> [.sc (.int .i64 n)]) (fun _ n=> -9223372036854775808<=n/\n<=9223372036854775807):=
 ⟨hc,fun _=>rfl,fun h _=>h,fun tok w fuel cs x hx=>by
  obtain⟨n,rfl,_,hw⟩:=DataW.trod_int hu hx
  refine⟨n,rfl,fun j hj=>by have:j=0:=oG
                            subst this;exact .sc _,?_⟩
  simpa[Lit.wf,IntKind.min,IntKind.max,IntKind.signed,IntKind.bits] using hw⟩
theorem q0p (hu:P.underlying t=some (.int .u64))(hc:P.cellsOf t=1):Ty P t 1 (fun c:UInt64=> [.sc (.int .u64 c.toNat)]) (fun _ _=>True):=
 ⟨hc,fun _=>rfl,fun _ _=>trivial,fun tok w fuel cs x hx=>by obtain⟨n,rfl,_,hw⟩:=DataW.trod_int hu hx;have hr:0<=n/\n<=18446744073709551615:=(by simpa[Lit.wf,IntKind.min,IntKind.max,IntKind.signed,IntKind.bits] using hw);have e:n=((UInt64.ofNat n.toNat).toNat:Int):=(by rw[FC];omega);refine⟨UInt64.ofNat n.toNat,rfl,fun j hj=> ?_,trivial⟩;have:j=0:=oG;subst this;rw[<-e];exact .sc _⟩
theorem Y0d {w:Lw}{b:Addr}{n:Nat}{cs:Ps}(h:w.cells? 0 b n=some cs):cs.length=n/\ ∀j,j<n->w.cell? (b.add j)=some (cs.getD j undef):=by
 unfold World.cells? at h;rw[BC (CX _)] at h;have key: ∀(l:Ln) (cs:Ps),(l.mapM fun i=>w.cell? (b.add i))=some cs->cs.length=l.length/\ ∀j,j<l.length->w.cell? (b.add (l.getD j 0))=some (cs.getD j undef):=by
  intro l
  induction l with
  | nil=>intro cs h;simp at h;subst h;exact⟨rfl,fun j hj=>by simp at hj⟩
  | cons i l ih=>
   intro cs h;rw[List.mapM_cons] at h;simp only[Option.bind_eq_bind,Option.bind_eq_some_iff] at h;obtain⟨c,h1,cs',h2,h3⟩:=h;cases h3;obtain⟨a1,a2⟩:=ih cs' h2;refine⟨by simp[a1],fun j hj=> ?_⟩;cases j with
   | zero=>simpa using h1
   | succ j=>simpa using a2 j (by simpa using hj)
 obtain⟨h1,h2⟩:=key _ _ h;simp at h1;refine⟨h1,fun j hj=> ?_⟩;have:=h2 j (by simpa using hj);simpa[q_a,hj] using this
theorem qX {n:Nat}{α:Type}{enc:α->List PV}{ok:Nat->α->Prop}[Inhabited α](hu:P.underlying t=some (.slice e))(hc:P.cellsOf t=1)(he:Ty P e n enc ok)(hn:0<n)(elem:α->PV)(hel: ∀x,(elem x).cells=enc x):
 Ty P t 1 (fun l:List α=> [.sl .no (l.map elem)]) (fun k l=>l.length<=k/\ ∀i,i<l.length->ok k (l.getD i default)):=
 ⟨hc,fun _=>rfl,fun h hk=>⟨B7 h.1 hk,fun i hi=>he.mono (h.2 i hi) hk⟩,fun tok w fuel cs x hx=>by
  rcases DataW.trod_slice hu hx with ⟨rfl,_⟩ | ⟨a,len,cap,elems,rest,m,_,rfl,hxe,_,hlc,_,hlen,hel1,hrest,_⟩;refine⟨[],rfl,fun j hj=> ?_,by simp,fun i hi=>by simp at hi⟩;have:j=0:=oG;subst this;exact .nil .no none rfl
  . rw[he.cells] at hel1 hrest;have hel2: ∀i,i<len-> ∃(cs':Ps) (y:DataW _×List MemPlace) (v:α),elems[i]?=some y/\cs'.length=n/\(∀j,j<n->w.cell? ((a.add (i*n)).add j)=some (cs'.getD j undef))/\(∀j,j<n->Rep w (XH w) (cs'.getD j undef) ((enc v).getD j .junk))/\ok (uptoBulk y.1) v:=fun i hi=>by have h1:=hel1 i hi;rw[BB (by omega:i<elems.length)] at h1;simp only[Option.bind_eq_some_iff] at h1;obtain⟨cs',c1,c2⟩:=h1;obtain⟨d1,d2⟩:=Y0d c1;obtain⟨v,v1,v2,v3⟩:=he.rd tok w m cs' _ c2;exact⟨cs',_,v,BB oG,d1,d2,v2,v3⟩
    have hpick: ∀i:Nat,∃p:List Value×α,i<len-> ∃y:DataW _×List MemPlace,elems[i]?=some y/\(∀j,j<n->w.cell? ((a.add (i*n)).add j)=some (p.1.getD j undef))/\(∀j,j<n->Rep w (XH w) (p.1.getD j undef) ((enc p.2).getD j .junk))/\ok (uptoBulk y.1) p.2:=fun i=>by by_cases hi:i<len;obtain⟨cs',y,v,h1,h2,h3,h4,h5⟩:=hel2 i hi;exact⟨(cs',v),fun _=>⟨y,h1,h3,h4,h5⟩⟩;exact⟨([],default),fun h=>absurd h hi⟩
    obtain⟨pf,hpf⟩:=Classical.axiomOfChoice hpick;have hbulk:uptoBulk x.1=uptoBulkAll (elems.map (·.1))+uptoBulkAll (rest.map (·.1))+1:=(by rw[hxe];simp[uptoBulk]);have hgl: ∀i,i<len->((List.range len).map fun i=>(pf i).2).getD i default=(pf i).2:=fun i hi=>(by simp[q_a,hi]);refine⟨(List.range len).map fun i=>(pf i).2,rfl,fun j hj=> ?_,?_,fun i hi=> ?_⟩
    . have:j=0:=oG;subst this;show Rep w (XH w) (.slice (some a) len cap) (.sl .no _);by_cases h0:cap=0;have hl0:len=0:=oG;subst hl0;subst h0;exact .nil .no (some a) rfl
      . --the first cell lies there
        have hfirst: ∃c,w.cell? a=some c:=by by_cases hl0:len=0;have:=(hrest rfl).2 0 oG;have hr:=(hrest rfl).1;rw[BB (by omega:0<rest.length)] at this;simp only[Option.bind_eq_some_iff] at this;obtain⟨cs',c1,_⟩:=this;have:=(Y0d c1).2 0 hn;have e0:(a.add ((len+0)*n)).add 0=a:=(by subst hl0;simp[Addr.add]);rw[e0] at this;exact⟨_,this⟩;obtain⟨y,_,h3,_⟩:=hpf 0 oG;have:=h3 0 hn;have e0:(a.add (0*n)).add 0=a:=(by simp[Addr.add]);rw[e0] at this;exact⟨_,this⟩
        obtain⟨c0,hc0⟩:=hfirst;obtain⟨b,off,spot⟩:=a;have hs:spot=none:=World.cell?_spot hc0;subst hs;have hlen2:((List.range len).map fun i=>elem (pf i).2).length=len:=(by simp);have hge: ∀i,i<len->(((List.range len).map fun i=>elem (pf i).2).getD i .junk)=elem (pf i).2:=fun i hi=>(by simp[q_a,hi]);have hmm:((List.range len).map fun i=>(pf i).2).map elem=(List.range len).map fun i=>elem (pf i).2:=(by simp[DZ,Function.comp_def]);rw[hmm];have hcell: ∀i j,i<len->j<n->w.cell? ⟨b,off+i*n+j,none⟩=some ((pf i).1.getD j undef):=fun i j hi hj=>(by obtain⟨y,_,h3,_⟩:=hpf i hi;have:=h3 j hj;have e1:((⟨b,off,none⟩:Addr).add (i*n)).add j=⟨b,off+i*n+j,none⟩:=(by rw[Addr.add_mid,Addr.add_mid]);rw[e1] at this;exact this);have:=Rep.sl (w:=w) (g:=XH w) .no ((List.range len).map fun i=>elem (pf i).2) b off n cap (fun i j=>(pf i).1.getD j undef) rfl (fun h=>by cases h) (by rw[hlen2];exact hlc)
         (fun i hi=>by rw[hlen2] at hi;rw[hge i hi,hel,he.len]) ?_ (fun i j hi hj=>by rw[hlen2] at hi;exact hcell i j hi hj) (fun i j hi hj=>by rw[hlen2] at hi;rw[hge i hi,hel];obtain⟨y,_,_,h4,_⟩:=hpf i hi;exact h4 j hj)
        rw[hlen2] at this;exact this
        . intro _;rw[hlen2];by_cases hl0:len=0;subst hl0;have:=yu hc0;omega
          . have:=yu (hcell (len-1) (n-1) oG oG);have e2:(len-1)*n+n=len*n:=by
             have:len=(len-1)+1:=oG
             conv=>rhs;rw[this,BQ,CY]
            omega
    have:=w1q (elems.map (·.1));simp at this⊢;omega;have hi':i<len:=(by simpa using hi);rw[hgl i hi'];obtain⟨y,h1,_,_,h5⟩:=hpf i hi';refine he.mono h5 ?_;have hm:y.1∈elems.map (·.1):=CF.2 ⟨y,List.mem_of_getElem? h1,rfl⟩;have:=xN hm;omega⟩
def xZ (P:Program)(fl:List Field)(base n:Nat){α:Type}(enc:α->List PV)(ok:Nat->α->Prop):Prop:=
 (∀x,(enc x).length=n)/\(∀ {k k' x},ok k x->k<=k'->ok k' x)/\
 ∀ {H:Type} (tok:TypeId×Value->H) (w:World) (fuel:Nat) (cs:List Value) (xs:List (DataW H×List MemPlace)),xs.length=fl.length->
  (∀(i:Nat) (f:Field),fl[i]?=some f->DataW.trod tok P w 0 (fun _=>true) true fuel f.type ((cs.drop f.offset).take (P.cellsOf f.type))=xs[i]?)->
  ∃y,(∀j,j<n->Rep w (XH w) (cs.getD (base+j) undef) ((enc y).getD j .junk))/\ok (uptoBulkAll (xs.map (·.1))) y
theorem xz (base:Nat):xZ P [] base 0 (fun _:Unit=> []) (fun _ _=>True):=
 ⟨fun _=>rfl,fun _ _=>trivial,fun tok w fuel cs xs hl h=>⟨(),fun j hj=>oG,trivial⟩⟩
theorem V5 {f:Field}{fl:List Field}{base n1 n2:Nat}{α β:Type}{enc1:α->List PV}{ok1:Nat->α->Prop}{enc2:β->List PV}{ok2:Nat->β->Prop}(h1:Ty P f.type n1 enc1 ok1)(ho:f.offset=base)(h2:xZ P fl (base+n1) n2 enc2 ok2):
 xZ P (f::fl) base (n1+n2) (fun p:α×β=>enc1 p.1++enc2 p.2) (fun k p=>ok1 k p.1/\ok2 k p.2):=by
 obtain⟨a1,a2,a3⟩:=h2;refine⟨fun x=>by simp[h1.len,a1],fun h hk=>⟨h1.mono h.1 hk,a2 h.2 hk⟩,fun tok w fuel cs xs hl h=> ?_⟩
 match xs,hl,h with
 | x0::xs,hl,h=>
  have h0:=h 0 f rfl;simp only[List.getElem?_cons_zero] at h0;rw[ho,h1.cells] at h0;obtain⟨y1,l1,r1,o1⟩:=h1.rd tok w fuel _ _ h0;obtain⟨y2,r2,o2⟩:=a3 tok w fuel cs xs (by simpa using hl) (fun i f' hf=>by have:=h (i+1) f' (by simpa using hf);simpa using this);refine⟨(y1,y2),fun j hj=> ?_,h1.mono o1 (by simp only[DX,uptoBulkAll];omega),a2 o2 (by simp only[DX,uptoBulkAll];omega)⟩;have hlen1:=h1.len y1;by_cases hj1:j<n1;have e1:((cs.drop base).take n1).getD j undef=cs.getD (base+j) undef:=(by simp only[q_a,ED,hj1,D4,DH]);have:=r1 j hj1;rw[e1] at this;show Rep w (XH w) (cs.getD (base+j) undef) ((enc1 y1++enc2 y2).getD j .junk);have e2:(enc1 y1++enc2 y2).getD j .junk=(enc1 y1).getD j .junk:=(by rw[q_a,B6 oG,<-q_a]);rw[e2];exact this;have:=r2 (j-n1) oG;rw[show base+n1+(j-n1)=base+j from oG] at this;show Rep w (XH w) (cs.getD (base+j) undef) ((enc1 y1++enc2 y2).getD j .junk);have e2:(enc1 y1++enc2 y2).getD j .junk=(enc2 y2).getD (j-n1) .junk:=(by rw[q_a,CA oG,<-q_a,hlen1]);rw[e2];exact this
theorem qW {fs:Array Field}{n:Nat}{α:Type}{enc:α->List PV}{ok:Nat->α->Prop}(hu:P.underlying t=some (.struct fs))(hc:P.cellsOf t=n)(hf:xZ P fs.toList 0 n enc ok):Ty P t n enc ok:=by obtain⟨a1,a2,a3⟩:=hf;refine⟨hc,a1,a2,fun tok w fuel cs x hx=> ?_⟩;obtain⟨xs,m,_,hxe,hl,hlen,hfs⟩:=DataW.trod_struct hu hx;obtain⟨y,r,o⟩:=a3 tok w m cs xs (by simpa using hlen) (fun i f hf=>hfs i f (by simpa using hf));refine⟨y,by rw[hl,hc],fun j hj=>by have:=r j hj;rwa [CU] at this,a2 o ?_⟩;rw[hxe];simp[uptoBulk]
end
theorem Cy {H:Type}{enc:TypeId×Value->H}{P:Pg}(hl:laidOutB P=true){W W':Lw}(hb:Below W.heap.size W W'){sp:Nat->Bool} :
 ∀ {ts:List TypeId} {vs:Ps} {ds:List (DataW H)} {ps:List MemPlace},(∀t∈ts,P.readableRec t=true/\t<P.types.size)->DataW.TrodAll enc P W 0 (fun _=>true) true ts vs ds ps->
  (∀p∈ps,p.block<W.heap.size)->(∀p∈ps,sp p.block=true)->DataW.TrodAll enc P W' 0 sp true ts vs ds ps
 | [],_,_,_,hr,h,h1,h2=>by obtain⟨rfl,rfl,rfl⟩:=trodAll_nil h;exact trodAll_mk0
 | t::ts,_,_,_,hr,h,h1,h2=>by
  obtain⟨v,vs,d,ds,p,q,rfl,rfl,rfl,hd,hrest⟩:=trodAll_cons h;refine⟨p,q,WideElems.Trod_stays hl (hr t DG).1 (hr t DG).2 hd (fun x hx=>hb.same (h1 x (List.mem_append_left _ hx))) (fun x hx=>h2 x (List.mem_append_left _ hx)),
   Cy hl hb (fun t ht=>hr t (DL _ ht)) hrest (fun x hx=>h1 x (List.mem_append_right _ hx)) (fun x hx=>h2 x (List.mem_append_right _ hx)),rfl⟩
theorem Z1w {H:Type}{enc:TypeId×Value->H}{P:Pg}{f:Func}{s:ChangeSpec}{apart fresh handsOn again:Bool}{W W':Lw}{args:Lb}{ds gs:List (DataW H)}{before:List MemPlace}{tb:Lt}
 (hl:laidOutB P=true) (hr: ∀t∈f.params.toList,P.readableRec t=true/\t<P.types.size) (hs:s.vars= [])
 (hW:DataW.Whole enc P f.params.toList s.vars apart W args.toList ds gs before) (hfn:s.fn H (ds++gs)= { results:= [.lit (.bool true)],args:=ds }) (hb:Below W.heap.size W W')
 (hres:f.resultTypes= #[tb]) (ht:P.underlying tb=some .bool):s.post enc P f apart fresh handsOn again W args (.bool true) W':=by
 have hlt: ∀p∈before,p.block<W.heap.size:=fun p hp=>hW.lt p hp;have hW':=hW;obtain⟨p,q,hA,hV,hpq,hz,hn⟩:=hW;rw[hs] at hV;obtain⟨rfl,rfl⟩:=trodVars_none hV;rw[B9] at hpq;subst hpq;have hargs: ∀sp:Nat->Bool,(∀x∈before,sp x.block=true)->DataW.TrodAll enc P W' 0 sp true f.params.toList args.toList (s.fn H (ds++ [])).args before:=fun sp hsp=>by rw[hfn];exact Cy hl hb hr hA hlt hsp
 have hresT: ∀(b:Nat) (sp:Nat->Bool) (hd:Bool),DataW.TrodAll enc P W' b sp hd f.resultTypes.toList ((Value.bool true).resultList f.resultTypes.size) (s.fn H (ds++ [])).results []:=fun b sp hd=>by rw[hfn,hres];exact trodAll_mk1 (shut_bool ht _)
 have hvars: ∀sp:Nat->Bool,DataW.TrodVars enc P W' sp s.vars (s.fn H (ds++ [])).vars []:=fun sp=>by rw[hfn,hs];exact rfl
 refine⟨ds,[],before,[],before,[],hW',hresT _ _ _,hargs _ (fun x hx=>by simpa using hlt x hx),hvars _,World.keptBut_mono (fun x hx=>⟨hx,.inr (.inl hx)⟩) (hb.frame _),fun _=> ?_⟩;refine⟨ok_one hres rfl (okWide_bool_mk ht _),_,_,([]++before)++ [],⟨[]++before,[],trodAll_append (hargs _ (fun _ _=>rfl)) (hresT _ _ _),hvars _,rfl,?_,?_⟩,?_⟩;intro b off hp;have hp':MemPlace.cell b off∈before:=(by simpa using hp);rw[hb.frozen (p:=⟨b,off,none⟩) (hlt _ hp')];exact hz b off hp';intro ha;simpa using hn ha;intro x hx _;simpa using hx
open Go.Proofs
def J0m (n:Int):Prop:= -9223372036854775808<=n/\n<=9223372036854775807
def okN (k:Nat)(x:Nm):Prop:=J0m x.exp/\x.w.length<=k
def okI (k:Nat)(x:Ivl):Prop:=okN k x.lo/\okN k x.hi
def okL {α:Type}[Inhabited α](ok:Nat->α->Prop)(k:Nat)(l:List α):Prop:=l.length<=k/\ ∀i,i<l.length->ok k (l.getD i default)
theorem U7 {k k':Nat}{x:Nm}(h:okN k x)(hk:k<=k'):okN k' x:=⟨h.1,B7 h.2 hk⟩
theorem Q0k {k k':Nat}{x:Ivl}(h:okI k x)(hk:k<=k'):okI k' x:=⟨U7 h.1 hk,U7 h.2 hk⟩
theorem Q0j {k k':Nat}{l:Li}(h:okL okI k l)(hk:k<=k'):okL okI k' l:=⟨B7 h.1 hk,fun i hi=>Q0k (h.2 i hi) hk⟩
theorem Cu :Ty Tryz.prog 22 1 (fun l:List UInt64=> [.sl .no (Qo l)]) (fun k l=>l.length<=k):=
 Yt (qX Tryz.underlying22 (by kernel_rfl) (q0p Tryz.underlying40 (by kernel_rfl)) (by decide) (fun c=> .sc (.int .u64 c.toNat)) (fun _=>rfl)) id (fun _=>rfl) (fun _=>rfl) (fun _ _ h=>h.1) (fun h hk=>B7 h hk)
theorem HN :Ty Tryz.prog 24 3 Qf okN:=
 Yt (qW Tryz.underlying24 (by kernel_rfl) (V5 (q0q Tryz.underlying4 (by kernel_rfl)) rfl (V5 (Cq Tryz.underlying2 (by kernel_rfl)) rfl (V5 Cu rfl (xz _)))))
  (fun p=>(⟨p.1,p.2.1,p.2.2.1⟩:Nm)) (fun _=>rfl) (fun _=>rfl) (fun k x h=>(⟨h.2.1,h.2.2.1⟩:okN k ⟨x.1,x.2.1,x.2.2.1⟩)) U7
theorem q0u :Ty Tryz.prog 45 6 Qm okI:=
 Yt (qW Tryz.underlying45 (by kernel_rfl) (V5 HN rfl (V5 HN rfl (xz _))))
  (fun p=>(⟨p.1,p.2.1⟩:Ivl)) (fun _=>rfl) (fun _=>rfl) (fun k x h=>(⟨h.1,h.2.1⟩:okI k ⟨x.1,x.2.1⟩)) Q0k
theorem q0t :Ty Tryz.prog 27 1 (fun l:List Ivl=> [.sl .no (Qj l)]) (okL okI):=
 Yt (qX Tryz.underlying27 (by kernel_rfl) q0u (by decide) (fun c=> .agg (Qm c)) (fun _=>rfl)) id (fun _=>rfl) (fun _=>rfl) (fun _ _ h=>h) (fun h hk=>Q0j h hk)
theorem Gs {k:Nat}(hk:k<=2000000){x:Nm}(h:okN k x):wN x:=by have:=h.2;unfold wN;omega
theorem H0p {k:Nat}(hk:k<=2000000){x:Ivl}(h:okI k x):wI x:=⟨Gs hk h.1,Gs hk h.2⟩
theorem H0w {k:Nat}(hk:k<=2000000){l:Li}(h:okL okI k l):wB l:=⟨by have:=h.1;omega,fun i hi=>H0p hk (h.2 i hi)⟩
theorem w1r {H:Type}{l:List (DataW H)}(hk:Go.Proofs.YtpfladficeildaaGreatDoor.Rows.uptoSmall H l=true):Go.Proofs.YtpfladficeildaaGreatDoor.Rows.uptoBulkAll l<=1048576:=by simpa[Go.Proofs.YtpfladficeildaaGreatDoor.Rows.uptoSmall] using hk
def PV.giv1 (i n:Nat):PV->PV
 | .lp k off=>if k=i then .gp n off else .lp k off
 | .ms false k off len=>if k=i then .ms true n off len else .ms false k off len
 | p=>p
def PV.giv (i n:Nat):PV->PV
 | .agg l=> .agg (l.map (PV.giv1 i n))
 | .tup l=> .tup (l.map (PV.giv1 i n))
 | .fn f l m=> .fn f (l.map (PV.giv1 i n)) (m.map (PV.giv1 i n))
 | p=>p.giv1 i n
def PFS.give (i:Nat)(s:PFS):PFS:=
 ⟨s.pa.map (PV.giv i s.st.length),(s.L.map fun l=>l.map (PV.giv i s.st.length)).set i [],s.T,s.st++ [(s.L.getD i []).map PV.forget2]⟩
section
variable {w:World} {g g':Gh} {F:Fr} {T:List (Nat×Nat)} {i n:Nat}
theorem RepF.giv1 {v:Value}{p:PV}(hm: ∀v p,RepF w g F T v p->RepF w g' F T v p)(hn:n<g'.n)(hz:g'.mu n=F.lmu i)(h:RepF w g F T v p):RepF w g' F T v (p.giv1 i n):=by
 have h':=hm _ _ h;cases p with
 | lp k off=>
  simp only[PV.giv1];split;rename_i e;subst e;cases h' with
  | base _ _ h'=>cases h'
  | lp k off hi=>
   rw[<-hz];exact .base _ _ (.gp n off hn)
  exact h'
 | ms gl k off len=>
  cases gl with
  | true=>exact h'
  | false=>
   simp only[PV.giv1];split;rename_i e;subst e;cases h' with
   | base _ _ h'=>cases h'
   | lms k off len cap hi hcap=>
    rw[<-hz];exact .base _ _ (.gms n off len cap hn hcap)
   exact h'
 | _=>exact h'
theorem RepF.giv {v:Value}{p:PV}(hm: ∀v p,RepF w g F T v p->RepF w g' F T v p)(hn:n<g'.n)(hz:g'.mu n=F.lmu i)(h:RepF w g F T v p):RepF w g' F T v (p.giv i n):=by
 have gm: ∀(l:Lp) (j:Nat),(l.map (PV.giv1 i n)).getD j .junk=(l.getD j .junk).giv1 i n:=fun l j=>X5 rfl l j;cases p with
 | agg l=>
  cases h with
  | base _ _ h=>
   cases h with
   | agg vs cs' hl h=>exact .agg vs _ (by simpa using hl) fun j hj=>by rw[gm];exact RepF.giv1 hm hn hz (.base _ _ (h j (by simpa using hj)))
  | agg vs cs' hl h=>exact .agg vs _ (by simpa using hl) fun j hj=>by rw[gm];exact RepF.giv1 hm hn hz (h j (by simpa using hj))
 | tup l=>
  cases h with
  | base _ _ h=>
   cases h with
   | tup vs cs' hl h=>exact .tup vs _ (by simpa using hl) fun j hj=>by rw[gm];exact RepF.giv1 hm hn hz (.base _ _ (h j (by simpa using hj)))
  | tup vs cs' hl h=>exact .tup vs _ (by simpa using hl) fun j hj=>by rw[gm];exact RepF.giv1 hm hn hz (h j (by simpa using hj))
 | fn f l m=>
  cases h with
  | base _ _ h=>
   cases h with
   | fn f us vs bs cs' hk hl h0 h=>
    exact .fn f us vs _ _ (by simpa using hk) (by simpa using hl) (fun j hj=>by rw[gm];exact RepF.giv1 hm hn hz (.base _ _ (h0 j (by simpa using hj)))) fun j hj=>by rw[gm];exact RepF.giv1 hm hn hz (.base _ _ (h j (by simpa using hj)))
  | fn f us vs bs cs' hk hl h0 h=>
   exact .fn f us vs _ _ (by simpa using hk) (by simpa using hl) (fun j hj=>by rw[gm];exact RepF.giv1 hm hn hz (h0 j (by simpa using hj))) fun j hj=>by rw[gm];exact RepF.giv1 hm hn hz (h j (by simpa using hj))
 | _=>exact RepF.giv1 hm hn hz h
end
theorem Vu {E:Ent}{s:PFS}(i:Nat)(hi:s.freezeOK i)(hne:s.L.getD i []≠ []):Weak E s (s.give i):=by
 intro a w g F h;obtain⟨l1,l2,l3⟩:=h.frame.lo i hne;have hall:=List.all_eq_true.1 hi
 let g':Gh:= { g with n:=g.n+1,mu:=fun k=>if k=g.n then F.lmu i else g.mu k }
 have hmu: ∀k,k<g.n->g'.mu k=g.mu k:=fun k hk=>BA oG;have hmun:g'.mu g.n=F.lmu i:=BC rfl;have hLe:Le w g w g':=⟨Nat.le_succ _,hmu,fun _=>BD _,fun _ _ _ _ hc=>hc⟩;have htok:K6 w g F s.T w g' F s.T:=⟨BD _,fun k hk=>⟨BD _,fun _ v es hR=>hR.mono fun b hb=>⟨rfl,rfl⟩⟩⟩;have hm: ∀v p,RepF w g F s.T v p->RepF w g' F s.T v p:=fun v p hr=>hr.mono hLe (BD _) (fun _ _=>rfl) htok;have en:s.st.length=g.n:=h.store.n.symm;have hf: ∀v p,RepF w g F s.T v p->RepF w g' F s.T v (p.giv i s.st.length):=fun v p hp=>RepF.giv hm (by rw[en];exact Nat.lt_succ_self _) (by rw[en];exact hmun) hp;have hL: ∀k,((s.L.map fun l=>l.map (PV.giv i s.st.length)).set i []).getD k []≠ []->k≠i/\s.L.getD k []≠ []/\((s.L.map fun l=>l.map (PV.giv i s.st.length)).set i []).getD k []=(s.L.getD k []).map (PV.giv i s.st.length):=fun k hk=>by
  by_cases hki:i=k;subst hki;exfalso;apply hk;exact Yf _ _;have e:((s.L.map fun l=>l.map (PV.giv i s.st.length)).set i []).getD k []=(s.L.getD k []).map (PV.giv i s.st.length):=by rw[<-UQ (f:=fun l=>l.map (PV.giv i s.st.length)) rfl];simp[q_a,DR hki]
  exact⟨fun e=>hki e.symm,fun e0=>hk (by rw[e,e0];rfl),e⟩
 have hst0: ∀j,j<g.n->(s.st++ [(s.L.getD i []).map PV.forget2]).getD j []=s.st.getD j []:=fun j hj=>(by rw[q_a,B6 oG,<-q_a]);have hst1:(s.st++ [(s.L.getD i []).map PV.forget2]).getD g.n []=(s.L.getD i []).map PV.forget2:=(by rw[q_a,CA oG,<-en];simp);have hst:StoreOK w g' (s.st++ [(s.L.getD i []).map PV.forget2]):=(by refine⟨by simp[g',h.store.n],fun j k hj hk e=> ?_,fun j hj=> ?_,fun j hj hj0=> ?_,fun j hj=> ?_,h.store.none,h.store.tab⟩;have hj:j<g.n+1:=hj;have hk:k<g.n+1:=hk;by_cases e1:j=g.n;by_cases e2:k=g.n;omega;rw[e1,hmun,hmu k oG] at e;exact absurd e.symm (h.frame.apart i hne k oG);by_cases e2:k=g.n;rw[e2,hmun,hmu j oG] at e;exact absurd e (h.frame.apart i hne j oG);rw[hmu j oG,hmu k oG] at e;exact h.store.inj j k oG oG e;have hj:j<g.n+1:=hj;by_cases e1:j=g.n;rw[e1,hmun];exact l2;rw[hmu j oG];exact h.store.lt j oG;have hj:j<g.n+1:=hj;by_cases e1:j=g.n;rw[e1,hmun];exact l3;rw[hmu j oG];rw[hst0 j oG] at hj0;exact h.store.vis j oG hj0;have hj:j<g.n+1:=hj;by_cases e1:j=g.n;subst e1;rw[hmun,hst1];intro k hk;have hk':k<(s.L.getD i []).length:=(by simpa using hk);obtain⟨q1,c,q2,q3⟩:=h.frame.holds i hne k hk';refine⟨q1,c,q2,?_⟩;have e:((s.L.getD i []).map PV.forget2).getD k .junk=((s.L.getD i []).getD k .junk).forget2:=X5 (f:=PV.forget2) rfl _ _;rw[e];exact(hm _ _ q3).forget2 (CR.1 (hall _ (QE _ _ _ hk'))).1;rw[hmu j oG,hst0 j oG];exact(h.store.holds j oG).mono rfl fun v p hr=>hr.mono hLe);have hext:Ext E.w E.g w g':=(by refine⟨h.ext.le.trans hLe,h.ext.os,h.ext.tape,h.ext.output,h.ext.size,h.ext.old,fun j h1 h2=> ?_⟩;have h2:j<g.n+1:=h2;by_cases e1:j=g.n;rw[e1,hmun];exact l1;rw[hmu j oG];exact h.ext.new j h1 oG);refine⟨g',F,⟨hext,hst,⟨by simp[PFS.give,h.frame.nl],fun k hk=> ?_,fun k hk j hj=> ?_,fun k j hk hj=> ?_,fun k hk=> ?_,h.frame.tlo,fun k b hk hb=>⟨fun j hj=> ?_,fun j hj=> ?_⟩,h.frame.tinj⟩,h.defers,by simp[PFS.give,h.len],fun t ht=> ?_⟩⟩;exact h.frame.lo k (hL k hk).2.1;have hj:j<g.n+1:=hj;obtain⟨h1,h2,h3⟩:=hL k hk;by_cases e1:j=g.n;rw[e1,hmun];exact fun e=>h1 (h.frame.inj k i h2 hne e.symm);rw[hmu j oG];exact h.frame.apart k h2 j oG;exact h.frame.inj k j (hL k hk).2.1 (hL j hj).2.1;obtain⟨h1,h2,h3⟩:=hL k hk;show Holds w _ _ (((s.L.map fun l=>l.map (PV.giv i s.st.length)).set i []).getD k []);rw[h3];intro j hj;obtain⟨q1,c,q2,q3⟩:=h.frame.holds k h2 j (by simpa using hj);exact⟨q1,c,q2,by rw[X5 (f:=PV.giv i s.st.length) rfl];exact hf _ _ q3⟩;have hj:j<g.n+1:=hj;by_cases e1:j=g.n;rw[e1,hmun];exact(h.frame.tapart k b hk hb).2 i hne;rw[hmu j oG];exact(h.frame.tapart k b hk hb).1 j oG;exact(h.frame.tapart k b hk hb).2 j (hL j hj).2.1;simp only[PFS.give] at ht⊢;show RepF w g' F s.T _ ((s.pa.map (PV.giv i s.st.length)).getD t .junk);rw[X5 (f:=PV.giv i s.st.length) rfl];exact hf _ _ (h.tmps t (by simpa using ht))
@[go_sem] theorem Y2a {i:Nat}{pa:Lp}{L st:Qc}{T:Lv} :(PFS.mk pa L T st).give i=⟨pa.map (PV.giv i st.length),(L.map fun l=>l.map (PV.giv i st.length)).set i [],T,st++ [(L.getD i []).map PV.forget2]⟩:=(rfl)
attribute [go_sem] PV.giv PV.giv1
@[go_sem] theorem V2n {ps:Lp}{b:Ld}{p:PV} :noL (false::b) (p::ps)=p::noL b ps:=(rfl)
theorem Vb {P:Pg}{E:Ent}{c:Code}{Q:Pe}{s:PFS}(i:Nat)(hi:s.freezeOK i)(hne:s.L.getD i []≠ [])(h:PWP P E c Q (s.give i)):PWP P E c Q s:=J0 (Vu i hi hne) h
def QI (v:Vl):Nm×Int:=
 if v.m=0 then(default,0) else if 64<(QB v.m).length\/v.e< -65536\/65536<v.e then(default,2) else(⟨v.neg,v.e,QB v.m⟩,0)
def XF (neg:Bool)(w:List UInt64)(e:Int):Nm×Int:=
 if Qd w=0 then(default,0) else if 65536<e\/e< -65536-(tz (Qd w):Int) then(default,2) else QI (QN neg (Qd w) e)
def KA (a b:Nm):Nm×Int:=if Qg a=true/\Qg b=true then QI (Zz (ofN a) (ofN b)) else(default,1)
def okV (v:Vl):Prop:=v.m % 2=1\/v.m=0
theorem kO (neg:Bool)(m:Nat)(e:Int):okV (QN neg m e):=by unfold QN okV;split;exact .inr rfl;exact .inl (Ui m (by assumption))
theorem K1a {a b:Vl}(ha:okV a)(hb:okV b):okV (Zz a b):=by unfold Zz;split;exact hb;split;exact ha;exact kO _ _ _
theorem qJ (l:Lu):Qd l % 2=(l.getD 0 0).toNat % 2:=by
 cases l with
 | nil=>rfl
 | cons x l=>
  have:=HK [x] l;have h1:Qd [x]=x.toNat:=(by simp[Qd,nW,val]);rw[show x::l= [x]++l from rfl,this,h1];simp only[List.length_singleton,FK,LB,Nat.pow_one];omega
theorem KW :Qg (default:Nm)=true:=by decide
theorem Kt {v:Vl}(h:okV v):Qg (QI v).1=true:=by unfold QI;split;exact KW;rename_i h0;split;exact KW;rename_i h1;have hw:QB v.m≠ []:=fun e=>h0 (wordsOf_nil.1 e);unfold Qg;rw[BA hw,IU];have h2:=qJ (QB v.m);rw[Jf] at h2;have h3:v.m % 2=1:=h.resolve_right h0;simp only[q_i,BN];refine⟨⟨⟨⟨trivial,?_⟩,?_⟩,?_⟩,?_⟩<;>omega
theorem Iv {x:Nm}(h:Qg x=true):okV (ofN x):=by unfold okV ofN;simp only;by_cases hw:x.w= [];rw[hw];exact .inr rfl;unfold Qg at h;rw[BA hw] at h;simp only[q_i,BN] at h;exact .inl (by rw[qJ];exact h.1.1.2)
theorem Ny (neg:Bool)(w:Lu)(e:Int):Qg (XF neg w e).1=true:=by unfold XF;split;exact KW;split;exact KW;exact Kt (kO _ _ _)
theorem w0s (a b:Nm):Qg (KA a b).1=true:=by unfold KA;split;rename_i h;exact Kt (K1a (Iv h.1) (Iv h.2));exact KW
theorem Z0r (e:Int):mkV 0 e=⟨false,0,0⟩:=by simp[mkV,QN]
theorem natAbs_pow (s:Int)(j:Nat):(s*2^j).natAbs=s.natAbs*2^j:=by rw[Int.natAbs_mul,Int.natAbs_pow];rfl
theorem Ck (m j:Nat)(h:m≠0):tz (m*2^j)=tz m+j:=by
 obtain⟨q,hq,e⟩:=G2 m h;have:m*2^j=2^(tz m+j)*q:=by
  conv=>lhs;rw[e]
  rw[B2,BW,BW,BM q]
 rw[this,HM _ _ hq]
theorem K1r (neg:Bool)(m j:Nat)(e:Int):QN neg (m*2^j) e=QN neg m (e+j):=by unfold QN;by_cases h:m=0;subst h;simp;have hp:0<2^j:=DJ (by decide);have h2:m*2^j≠0:=FU h oG;rw[BA h,BA h2,Ck m j h,B2,Nat.mul_div_mul_right _ _ hp];congr 1;omega
theorem W1k (s e:Int)(h:s≠0):e<=(mkV s e).e/\QK (mkV s e)*2^((mkV s e).e-e).toNat=s/\(mkV s e).m≠0:=by
 have h1:s.natAbs≠0:=oG;have h2:s.natAbs/2^tz s.natAbs≠0:=(by have:=Ui s.natAbs h1;omega);unfold mkV QN;rw[BA h1];refine⟨by simp only;omega,?_,h2⟩;simp only[QK];have e1:(e+(tz s.natAbs:Int)-e).toNat=tz s.natAbs:=oG;rw[e1];have e2:((s.natAbs/2^tz s.natAbs:Nat):Int)*2^tz s.natAbs=(s.natAbs:Int):=by
  have:=Co s.natAbs
  conv=>rhs;rw[<-this]
  rw[CN,Int.natCast_pow];rfl
 by_cases hs:s<0;rw[q_h hs,BC rfl,DU,e2];omega;rw[q_g hs];simp only[B3,DT];rw[e2];omega
def tq (q:Nat):Nm:=(QI (mkV q (-3))).1
theorem Q0u (q:Nat)(h:q<1152921504606846976):QI (mkV q (-3))=(tq q,0)/\ofN (tq q)=mkV q (-3):=by
 by_cases h0:q=0;subst h0;decide;have h1:(q:Int)≠0:=oG;obtain⟨a1,a2,a3⟩:=W1k (q:Int) (-3) h1;have hle:(mkV (q:Int) (-3)).m<=q/\(mkV (q:Int) (-3)).e<=100:=by unfold mkV QN;simp only[LF];rw[BA h0];have hb:Qn q<=60:=bitlen_le_iff.2 h;have:=qU q h0;exact⟨DB _ _,by simp only;omega⟩
 have hb:Qn (mkV (q:Int) (-3)).m<=60:=bitlen_le_iff.2 (D1 hle.1 h);have hw:=HH (mkV (q:Int) (-3)).m;have e1:QI (mkV (q:Int) (-3))=(⟨(mkV (q:Int) (-3)).neg,(mkV (q:Int) (-3)).e,QB (mkV (q:Int) (-3)).m⟩,0):=by unfold QI;rw[BA a3,BA oG]
 refine⟨by unfold tq;rw[e1],?_⟩;unfold tq;rw[e1];simp only[ofN,Jf]
theorem Ux (q:Nat):Qg (tq q)=true:=Kt (kO _ _ _)
theorem X0a (c j:Nat)(h:c<1000)(hj:j<4)(hc:0<c):XF false [UInt64.ofNat c] ((j:Int)-3)=(tq (c*2^j),0):=by
 have hv:Qd [UInt64.ofNat c]=c:=by simp only[Qd,nW,val,List.map,DQ,B1,UInt64.toNat_ofNat];exact BJ oG
 have hp:2^j<=8:=BS (by decide) (by omega:j<=3);have hq:c*2^j<1152921504606846976:=D1 (DW (F0 h) hp) (by decide);unfold XF;rw[hv,BA oG,BA oG,<-(Q0u _ hq).1];congr 1;unfold mkV;have:((c*2^j:Nat):Int).natAbs=c*2^j:=LF _;rw[this,K1r,q_g oG];congr 1
def pk (a:List UInt32)(k:Nat):List UInt64:=(List.range k).map fun j=>UInt64.ofNat ((a.getD (2*j) 0).toNat+4294967296*(a.getD (2*j+1) 0).toNat)
theorem GX (a:Ls)(k:Nat):(pk a k).length=k:=by simp[pk]
theorem kA (a:Ls)(k:Nat):pk a (k+1)=pk a k++ [UInt64.ofNat ((a.getD (2*k) 0).toNat+4294967296*(a.getD (2*k+1) 0).toNat)]:=by simp[pk,List.range_succ]
theorem k9 (a:Ls)(k:Nat):(UInt64.ofNat ((a.getD (2*k) 0).toNat+4294967296*(a.getD (2*k+1) 0).toNat)).toNat=(a.getD (2*k) 0).toNat+4294967296*(a.getD (2*k+1) 0).toNat:=by have h1:=(a.getD (2*k) 0).toNat_lt;have h2:=(a.getD (2*k+1) 0).toNat_lt;exact Xz _ oG
theorem Bx (a:Ls): ∀k,Qd (pk a k)=Qz (a.take (2*k))
 | 0=>rfl
 | k+1=>by
  rw[kA,HK,Bx a k,GX,show 2*(k+1)=2*k+1+1 from oG,Gx,Gx];have h1:Qd [UInt64.ofNat ((a.getD (2*k) 0).toNat+4294967296*(a.getD (2*k+1) 0).toNat)]=(a.getD (2*k) 0).toNat+4294967296*(a.getD (2*k+1) 0).toNat:=by simp only[Qd,nW,val,List.map,DQ,B1];exact k9 a k
  have h2:18446744073709551616^k=4294967296^(2*k):=(by rw[Nat.pow_mul]);rw[h1,h2,B5,CE,BW,DK]
theorem W0o (l:Ls)(h:l≠ []):(Kn l).length=l.length<->l.getD (l.length-1) 0≠0:=by obtain⟨i,x,rfl⟩: ∃i x,l=i++ [x]:=⟨l.dropLast,l.getLast h,(List.dropLast_concat_getLast h).symm⟩;rw[W0n];have e:(i++ [x]).getD ((i++ [x]).length-1) 0=x:=(by simp[q_a]);rw[e];have:=k1t i;by_cases hx:x=0;simp[hx];omega;simp[hx]
theorem X1q (m:Nat):pk (Qs m) (((Qs m).length+1)/2)=QB m:=by have hv:Qd (pk (Qs m) (((Qs m).length+1)/2))=m:=(by rw[Bx,BF oG,Ka]);have hw:QB m=QM (pk (Qs m) (((Qs m).length+1)/2)):=(by rw[<-Xx,hv]);rw[hw];have hl:=GX (Qs m) (((Qs m).length+1)/2);refine(yd _ _ (BD _) (fun j h1 h2=>oG) ?_|>.trans (B0 ..)).symm;by_cases h0:Qs m= [];exact .inl (by rw[hl,h0];rfl);refine .inr fun e=> ?_;have hc:Kn (Qs m)≠ []:=(by rw[yg];exact h0);have hp:=EL.2 h0;have hlast:(Qs m).getD ((Qs m).length-1) 0≠0:=(by have hr:(Kn (Qs m)).length=(Qs m).length:=(by rw[yg]);exact(W0o _ h0).1 hr);rw[hl] at e;obtain⟨k,hk⟩: ∃k,((Qs m).length+1)/2=k+1:=⟨((Qs m).length+1)/2-1,oG⟩;rw[hk,kA] at e;have e1:(pk (Qs m) k++ [UInt64.ofNat (((Qs m).getD (2*k) 0).toNat+4294967296*((Qs m).getD (2*k+1) 0).toNat)]).getD (k+1-1) 0=UInt64.ofNat (((Qs m).getD (2*k) 0).toNat+4294967296*((Qs m).getD (2*k+1) 0).toNat):=(by rw[q_a,CA (by rw[GX];omega),GX];simp);rw[e1] at e;have e2:=(qS _).1 e;rw[k9] at e2;have:(Qs m).length-1=2*k\/(Qs m).length-1=2*k+1:=oG;rcases this with h | h;rw[h] at hlast;exact hlast ((G1 _).2 oG);rw[h] at hlast;exact hlast ((G1 _).2 oG)
theorem Q9 {x:Nm}(h:Qg x=true):wN x:=Xc (QZ h)
theorem Ob {x:Ivl}(h:Qr x=true):wI x:=⟨Q9 (ZJ h).1,Q9 (ZJ h).2.1⟩
theorem Sq {a:Nm}(ha:Qg a=true):Qr ⟨a,a⟩=true:=zu ha ha (by have:=IX a;simp only;omega)
theorem HZ {α:Type}(a:List α)(x:α)(i:Nat)(d:α)(h:i<a.length):(a++ [x]).getD i d=a.getD i d:=by rw[q_a,B6 h,<-q_a]
theorem HY {α:Type}(a:List α)(x:α)(d:α):(a++ [x]).getD a.length d=x:=by rw[q_a,CA (BD _)];simp
theorem Ih {b:Li}(h:rightB b=true):wB b:=⟨by have:=Wx h;omega,fun i hi=>Ob (zw h i hi)⟩
set_option maxRecDepth 100000
open Go Go.Proofs Go.ChangeShapes Go.WideShapes Go.ChangeAt Go.RowKit
theorem w1k {P:Pg}{f:FuncId}{vs:Lb}{ps:Lp}{w:Lw}(ht:TabOK w (XH w))(h:PCalls P f ps [] (fun r st'=>r= .sc (.bool true)))(hr:WI w (XH w) vs ps):
 Calls P f vs w (fun e w'=>e= .returned (.bool true)/\Below w.heap.size w w'):=by
 refine(h w (XH w) vs (j0a w ht) hr).mono ?_;rintro e w' ⟨v,g',r,st,rfl,hx,hs,hrr,rfl⟩;refine⟨?_,hx.os,hx.tape,hx.output,hx.size,fun k hk=>(hx.old k hk (fun i hi=>by simp[XH] at hi)).1⟩;have:Rep w' g' v (.sc (.bool true)):=hrr;rw[this.sc_inv]
theorem J1g :ownKnob Tryz.prog.godebug=none:=by kernel_rfl
theorem U1p :laidOutB Tryz.prog=true:=by kernel_rfl
open Go Go.Proofs Go.ChangeShapes Go.WideShapes Go.ChangeAt Go.RowKit Go.Proofs.YtpfladficeildaaGreatDoor.Rows
section
variable {P:Program} {t e:TypeId} {W:World} {base:Nat} {v:Value} {H:Type} {tok:TypeId×Value->H} {d:DataW H} {p:List MemPlace}
theorem Q2u {α:Type}{enc:α->List PV}{ok:Nat->α->Prop}(hT:Ty P t 1 (fun l:α=> [.sl .no (enc l)]) ok)(hu:P.underlying t=some (.slice e))(hv:Value.okWide P W .any base t v)
 (hd:DataW.Trod tok P W 0 (fun _=>true) true t v d p): ∃l,Rep W (XH W) v (.sl .no (enc l))/\ok (uptoBulk d) l:=by
 obtain⟨a,len,cap,rfl⟩:=okWide_slice hu hv;obtain⟨fuel,hf⟩:=hd;obtain⟨l,_,hrep,hok⟩:=hT.rd tok W fuel _ _ hf;exact⟨l,hrep 0 oG,hok⟩
theorem Q2v {n:Nat}{α:Type}{enc:α->List PV}{ok:Nat->α->Prop}{fs:Array Field}(hT:Ty P t n enc ok)(hu:P.underlying t=some (.struct fs))(hv:Value.okWide P W .any base t v)
 (hd:DataW.Trod tok P W 0 (fun _=>true) true t v d p): ∃x,Rep W (XH W) v (.agg (enc x))/\ok (uptoBulk d) x:=by
 obtain⟨cs,rfl,hc⟩:=okWide_struct hu hv;obtain⟨fuel,hf⟩:=hd;obtain⟨x,hl,hrep,hok⟩:=hT.rd tok W fuel _ _ hf;have e1:(Value.agg cs).cells.toList=cs.toList:=rfl;rw[e1] at hl hrep;have hlen:=hT.len x;refine⟨x,.agg cs (enc x) (by rw[hlen,<-hl];simp) fun j hj=> ?_,hok⟩;have h:=hrep j oG;simpa[q_a,q_f] using h
theorem Q2t (hu:P.underlying t=some (.int .u8))(hv:Value.okWide P W .any base t v)(hd:DataW.Trod tok P W 0 (fun _=>true) true t v d p):
 ∃n:Nat,v= .int .u8 n/\n<256:=by
 obtain⟨n,rfl,_,_,hw⟩:=open_int hu hv hd;have hr:0<=n/\n<=255:=(by simpa[Lit.wf,IntKind.min,IntKind.max,IntKind.signed,IntKind.bits] using hw);exact⟨n.toNat,by rw[Int.toNat_of_nonneg hr.1],oG⟩
end
def PFS.claimBox (i j sz:Nat)(s:PFS):PFS:=
 match (s.L.getD i []).getD j .junk with
 | .sl .full []=>⟨s.pa,s.L.set i ((s.L.getD i []).set j (.sl (.own s.T.length) [])),s.T++ [(0,sz)],s.st⟩
 | _=>s
theorem H0i {E:Ent}{s:PFS}(i j sz:Nat):Weak E s (s.claimBox i j sz):=by
 intro a w g F h;unfold PFS.claimBox;split;rename_i he;have key: ∀es:List PV,es.length=0->(s.L.getD i []).getD j .junk= .sl .full es-> ∃g' F',FSRep E a w g' F' ⟨s.pa,s.L.set i ((s.L.getD i []).set j (.sl (.own s.T.length) es)),s.T++ [(es.length,sz)],s.st⟩:=by
  intro es hes he;have hj:j<(s.L.getD i []).length:=by refine ES fun hn=> ?_;rw[q_a,C2 hn] at he;cases he
  have hne0:s.L.getD i []≠ []:=fun e=>by rw[e] at hj;simp at hj
  have hil:i<s.L.length:=by refine ES fun hn=>hne0 ?_;rw[q_a,C2 hn];rfl
  have hbase: ∀v,RepF w g F s.T v (.sl .full es)->Rep w g v (.sl .full es):=fun v hv=>by cases hv with | base _ _ h=>exact h
  have hri: ∀v,Rep w g v (.sl .full es)->Right w g none sz v es:=fun v hv=>by
   cases hv with
   | nil t ad ht=>exact⟨.inr ⟨_,rfl⟩,rfl⟩
   | sl t es b off sz cap cf ht hf hcap hsz hvis hc hr=>exact⟨.inr ⟨_,by rw[hf rfl]⟩,hes⟩
  obtain⟨F',m1,m2,m3,m4,m5⟩:=h.mint es.length sz none (fun b hb=>by cases hb);have hlast:(s.T++ [(es.length,sz)]).getD s.T.length (0,0)=(es.length,sz):=(by simp[q_a]);have hown: ∀v,Rep w g v (.sl .full es)->RepF w g F' (s.T++ [(es.length,sz)]) v (.sl (.own s.T.length) es):=fun v hv=>by refine .own _ _ _ hv.toNo (by simp) (by rw[hlast];exact BD _) fun _=> ?_;rw[hlast,m2];exact hri _ hv
  have hne: ∀k,(s.L.set i ((s.L.getD i []).set j (.sl (.own s.T.length) es))).getD k []≠ []->s.L.getD k []≠ []:=fun k hk=>by by_cases e:i=k;subst e;exact hne0;rwa [Z3 _ _ _ _ _ e] at hk
  refine⟨g,F',m1.ext,m1.store,⟨by simpa using m1.frame.nl,fun k hk=>m1.frame.lo k (hne k hk),fun k hk=>m1.frame.apart k (hne k hk),fun k j hk hj=>m1.frame.inj k j (hne k hk) (hne j hj),fun k hk=> ?_,m1.frame.tlo,fun k b h1 h2=>⟨(m1.frame.tapart k b h1 h2).1,fun j hj=>(m1.frame.tapart k b h1 h2).2 j (hne j hj)⟩,m1.frame.tinj⟩,m1.defers,m1.len,m1.tmps⟩;have hh:=m1.frame.holds k (hne k hk);by_cases e:i=k;subst e;rw[Z0 _ _ _ _ hil];intro q hq;have hq':q<(s.L.getD i []).length:=(by simpa using hq);obtain⟨q1,c,q2,q3⟩:=hh q hq';refine⟨q1,c,q2,?_⟩;by_cases ej:j=q;subst ej;rw[Z0 _ _ _ _ hj];refine hown _ ?_;have q3':RepF w g F' (s.T++ [(es.length,sz)]) c (.sl .full es):=by have:(s.L.getD i []).getD j .junk= .sl .full es:=he;rw[<-this];exact q3
  cases q3' with | base _ _ h=>exact h
  rw[Z3 _ _ _ _ _ ej];exact q3;rw[Z3 _ _ _ _ _ e];exact hh
 exact key [] rfl he;exact⟨g,F,h⟩
theorem Rq {P:Pg}{E:Ent}{c:Code}{Q:Pe}{s:PFS}(i j sz:Nat)(h:PWP P E c Q (s.claimBox i j sz)):PWP P E c Q s:=J0 (H0i i j sz) h
def ym (p:PV)(i j sz:Nat)(pa:List PV)(L:Qc)(T:List (Nat×Nat))(st:Qc):PFS:=
 match p with
 | .sl .full []=>⟨pa,L.set i ((L.getD i []).set j (.sl (.own T.length) [])),T++ [(0,sz)],st⟩
 | _=>⟨pa,L,T,st⟩
@[go_sem] theorem q2e {i j sz:Nat}{pa:Lp}{L st:Qc}{T:Lv} :(PFS.mk pa L T st).claimBox i j sz=ym ((L.getD i []).getD j .junk) i j sz pa L T st:=by unfold PFS.claimBox ym;rfl
@[go_sem] theorem q2c {i j sz:Nat}{pa:Lp}{L st:Qc}{T:Lv} :ym (.sl .full []) i j sz pa L T st=⟨pa,L.set i ((L.getD i []).set j (.sl (.own T.length) [])),T++ [(0,sz)],st⟩:=(rfl)
theorem Rp {P:Pg}{E:Ent}{x y:Code}{Q:Pe}{s:PFS}(R:Pf)(h1:PWP P E x (ZO R Q) s)(h2: ∀s,R s->PWP P E y Q s):PWP P E (.seq x y) Q s:=
 Qe (zF h1 fun e s hq=>by
  cases e with
  | normal=>exact h2 s hq
  | _=>exact hq)
theorem Ky {P:Pg}{E:Ent}{x y:Code}{Q:Pe}{s:PFS}(bs:Ld)(nL nT:Nat)(R:Pf)
 (h1:VC P E x (ZO (fun s=>s.maskOK bs nL nT/\R (s.mask bs nL nT)) Q) s) (h2: ∀s,R s->PWP P E y Q s):PWP P E (.seq x y) Q s:=
 Rp _ (Qb h1) fun s h=>J0 (Uc h.1) (h2 _ h.2)
inductive NoG :PV->Prop
 | junk:NoG .junk
 | sc (v:Value):NoG (.sc v)
 | agg (cs:List PV) (h: ∀j,j<cs.length->NoG (cs.getD j .junk)):NoG (.agg cs)
 | sl (t:Tag) (es:List PV) (h: ∀i j,i<es.length->j<(es.getD i .junk).cells.length->NoG ((es.getD i .junk).cells.getD j .junk)):NoG (.sl t es)
theorem Rep.noG {w:Lw}{g g0:Gh}(hv: ∀b,g0.vis b=g.vis b){v:Value}{p:PV}(h:Rep w g v p):NoG p->Rep w g0 v p:=by
 induction h with
 | junk v=>exact fun _=> .junk v
 | sc v=>exact fun _=> .sc v
 | agg vs cs hl _ ih=>
  intro hn;cases hn with
  | agg _ h=>exact .agg vs cs hl fun j hj=>ih j hj (h j hj)
 | nil t ad ht=>exact fun _=> .nil t ad ht
 | sl t es b off sz cap cf ht hfull hcap hsz hvis hc hr ih=>
  intro hn;cases hn with
  | sl _ _ h=>exact .sl t es b off sz cap cf ht hfull hcap hsz (by rw[hv];exact hvis) hc fun i j hi hj=>ih i j hi hj (h i j hi (by rw[hsz i hi];exact hj))
 | tup vs cs hl _ _=>intro hn;cases hn
 | gms i off len cap hi hcap=>intro hn;cases hn
 | gr i len cap hi hcap=>intro hn;cases hn
 | gp i off hi=>intro hn;cases hn
 | ep cs off b base cf hvis hc hr _=>intro hn;cases hn
 | fn f us vs bs cs hk hl _ _ _ _=>intro hn;cases hn
 | pre all n b off sz cap cf hn hcap hsz hvis hc hr _=>intro hn;cases hn
theorem V1d (l:Lu)(t:Tag):NoG (.sl t (Qo l)):=by refine .sl _ _ fun i j hi hj=> ?_;rw[Wd] at hi;rw[ZK l i hi] at hj⊢;have:j=0:=(by simp[PV.cells] at hj;omega);subst this;exact .sc _
theorem PCalls.owned {P:Pg}{f:FuncId}{args es:Lp}(hne:0<es.length)(hsc: ∀j,j<es.length-> ∃v,es.getD j .junk= .sc v)(hargs: ∀p∈args,NoG p)
 (h:PCalls P f args [] (fun r st'=>r= .sl (.fresh 1) es/\st'= [])) (st:Qc):
 PCalls P f args st (fun r st'=> ∃off,r= .ms true st.length off es.length/\st'=st++ [List.replicate off PV.junk++es]):=by
 intro w g vs hs hr
 let g0:Gh:=⟨0,fun _=>0,g.vis⟩
 have hs0:StoreOK w g0 []:=⟨rfl,fun i j hi=>by simp[g0] at hi,fun i hi=>by simp[g0] at hi,fun i hi=>by simp[g0] at hi,fun i hi=>by simp[g0] at hi,hs.none,hs.tab⟩;have hr0:WI w g0 vs args:=⟨hr.1,fun j hj=>Rep.noG (g:=g) (g0:=g0) (fun _=>rfl) (hr.2 j hj) (hargs _ (QE _ _ _ hj))⟩;refine(h w g0 vs hs0 hr0).mono ?_;rintro e w' ⟨v,g1,r,st1,rfl,hx,ho,hrr,rfl,rfl⟩;obtain⟨hrep,hfr⟩:=hrr;rcases hfr with ⟨b,⟨off,cap,hv,hsz,hvis,hcap,hex⟩,hb1,hb2,_,c0,el,hblk⟩ | ⟨_,hz⟩;rotate_left;omega;have hold: ∀c,c<w.heap.size->w'.heap[c]?=w.heap[c]?/\g1.vis c=g.vis c:=fun c hc=>hx.old c hc (fun i hi=>by simp[g0] at hi);have hvb:g.vis b=0:=hs.none b hb1;have hne': ∀c,c<w.heap.size->c≠b:=fun c hc=>by omega
 let g2:Gh:=⟨g.n+1,fun i=>if i=g.n then b else g.mu i,fun c=>if c=b then 0 else g1.vis c⟩
 have hmu: ∀i,i<g.n->g2.mu i=g.mu i:=fun i hi=>BA oG;have hle:Le w g w' g2:=by refine⟨Nat.le_succ _,hmu,fun c=> ?_,fun c o v ho hc=>hx.le.cell c o v ho hc⟩;show g.vis c<=if c=b then 0 else g1.vis c;split;rename_i e;subst e;omega;exact hx.le.vis c
 have hext:Ext w g w' g2:=by refine⟨hle,hx.os,hx.tape,hx.output,hx.size,fun c hc hn=>⟨(hold c hc).1,?_⟩,fun i h1 h2=> ?_⟩;show(if c=b then 0 else g1.vis c)=g.vis c;rw[BA (hne' c hc)];exact(hold c hc).2;have:i=g.n:=(by simp[g2] at h2;omega);subst this;show w.heap.size<=if g.n=g.n then b else _;rw[BC rfl];exact hb1
 have hget1: ∀i,i<g.n->(st++ [List.replicate off PV.junk++es]).getD i []=st.getD i []:=fun i hi=>(by rw[q_a,B6 (by rw[<-hs.n];exact hi),<-q_a]);have hget2:(st++ [List.replicate off PV.junk++es]).getD g.n []=List.replicate off PV.junk++es:=(by rw[hs.n];simp[q_a]);have hst:StoreOK w' g2 (st++ [List.replicate off PV.junk++es]):=by
  refine⟨by simp[g2,hs.n],fun i j hi hj e=> ?_,fun i hi=> ?_,fun i hi hi0=> ?_,fun i hi=> ?_,fun c hc=> ?_,hs.tab.mono hle⟩;have hi':i<g.n+1:=hi;have hj':j<g.n+1:=hj;have e':(if i=g.n then b else g.mu i)=(if j=g.n then b else g.mu j):=e;by_cases h1:i=g.n<;>by_cases h2:j=g.n;omega;rw[BC h1,BA h2] at e';have:=hs.lt j oG;omega;rw[BA h1,BC h2] at e';have:=hs.lt i oG;omega;rw[BA h1,BA h2] at e';exact hs.inj i j oG oG e';have hi':i<g.n+1:=hi;show(if i=g.n then b else g.mu i)<_;split;exact hb2;exact q_e (hs.lt i oG) hx.size;have hi':i<g.n+1:=hi;show(if g2.mu i=b then 0 else g1.vis (g2.mu i))=0;by_cases h1:i=g.n;rw[BC (BC h1)];rw[hmu i oG,BA (hne' _ (hs.lt i oG))];rw[hget1 i oG] at hi0;rw[(hold _ (hs.lt i oG)).2];exact hs.vis i oG hi0;have hi':i<g.n+1:=hi;by_cases h1:i=g.n;subst h1;rw[hget2];show Holds w' (Rep w' g2) (if g.n=g.n then b else _) _;rw[BC rfl];intro j hj;refine⟨by simp[World.frozen?,hblk],?_⟩;by_cases hjo:j<off;obtain⟨c,hc⟩:=Option.isSome_iff_exists.1 (hex j oG);exact⟨c,hc,by rw[q_a,B6 (by simpa using hjo)];simp[hjo];exact .junk _⟩;have hje:j-off<es.length:=(by simp at hj;omega);have e1:(List.replicate off PV.junk++es).getD j .junk=es.getD (j-off) .junk:=by rw[q_a,CA (by simp;omega),EP,<-q_a]
  rw[e1];rcases hrep.sl_cells 1 hsz with ⟨ad,_,h0⟩ | ⟨b',off',cap',cell,hv',_,_,_,hcell⟩;rw[h0] at hne;simp at hne;rw[hv] at hv';simp only[Value.slice.injEq,BU,Addr.mk.injEq,and_true,F7] at hv';obtain⟨⟨rfl,rfl⟩,rfl⟩:=hv';obtain⟨q1,q2⟩:=hcell (j-off) oG;obtain⟨x,hx'⟩:=hsc (j-off) hje;rw[F9,FQ,hx'] at q2;rw[show off+(j-off)=j from oG] at q1;refine⟨_,q1,?_⟩;rw[hx',show cell (j-off)=x from Rep.sc_inv q2];exact .sc _;show Holds w' (Rep w' g2) (if i=g.n then b else g.mu i) _;rw[BA h1,hget1 i oG];exact(hs.holds i oG).mono (hold _ (hs.lt i oG)).1 fun v p hp=>hp.mono hle;show(if c=b then 0 else g1.vis c)=0;split;rfl;exact ho.none c hc
 refine⟨v,g2,.ms true st.length off es.length,_,rfl,hext,hst,?_,off,rfl,rfl⟩;show Rep w' g2 v (.ms true st.length off es.length);rw[hv];have:=Rep.gms (w:=w') (g:=g2) st.length off es.length cap (by simp[g2,hs.n]) hcap;have e:g2.mu st.length=b:=BC hs.n.symm;rw[e] at this;exact this
def xq (p:PV)(k:Nat)(cs:List PV):PV:=
 match p with
 | .ms true k' off len=>if k'=k/\off+len<=cs.length then .sl .no ((cs.drop off).take len) else .junk
 | _=> .junk
def PFS.freezeG (k t:Nat)(s:PFS):PFS:=⟨s.pa.set t (xq (s.pa.getD t .junk) k (s.st.getD k [])),s.L,s.T,s.st.set k []⟩
theorem H0f {E:Ent}{s:PFS}(k t:Nat)(hk:k<s.st.length)(hc: ∀p∈s.st.getD k [],p.cells= [p])(h0:s.st.getD k []≠ []):Weak E s (s.freezeG k t):=by
 intro a w g F h;have hkn:k<g.n:=(by rw[h.store.n];exact hk);obtain⟨k1,k2⟩:=yp w g (g.mu k) (s.st.getD k []).length (.inl (h.store.lt k hkn)) h.store.none
 let g':Gh:= { g with vis:=fun c=>if c=g.mu k then max (s.st.getD k []).length (g.vis c) else g.vis c }
 obtain⟨f1,f2⟩:=h.frame.step k1 (fun i hi e=>h.frame.apart i hi k hkn e.symm) (fun i b hi hb e=>(h.frame.tapart i b hi hb).1 k hkn e.symm);have hst:StoreOK w g' (s.st.set k []):=by refine⟨by simpa using h.store.n,h.store.inj,h.store.lt,fun j hj hj0=> ?_,fun j hj=> ?_,k2,h.store.tab.mono k1.le⟩;by_cases e:k=j;subst e;exact absurd (Yf _ _) hj0;rw[Z3 _ _ _ _ _ e] at hj0;have:g'.vis (g.mu j)=g.vis (g.mu j):=BA fun e'=>e (h.store.inj j k hj hkn e').symm;exact this.trans (h.store.vis j hj hj0);by_cases e:k=j;subst e;rw[Yf];intro j hj;simp at hj;rw[Z3 _ _ _ _ _ e];exact(h.store.holds j hj).mono rfl fun v p hr=>hr.mono k1.le
 refine⟨g',F,h.ext.step k1 (fun b hb=> ?_),hst,f1,h.defers,by simp[PFS.freezeG,h.len],fun j hj=> ?_⟩;subst hb;by_cases hin:k<E.g.n;exact .inr ⟨k,hin,(h.ext.le.mu k hin).symm⟩;exact .inl (h.ext.new k oG hkn);simp only[PFS.freezeG,BL] at hj⊢;by_cases e:t=j;subst e;rw[Z0 _ _ _ _ hj];have hv:=h.tmps t hj;cases hp:s.pa.getD t .junk with
 | ms gl k' off len=>
  rw[hp] at hv;cases gl with
  | false=>exact .base _ _ (.junk _)
  | true=>
   simp only[xq];split;rename_i hh;obtain⟨rfl,hlen⟩:=hh;generalize a.tmps.getD t undef=v at hv⊢;cases hv with
   | base _ _ hv=>
    cases hv with
    | gms _ _ _ cap hi hcap=>
     have hh:=h.store.holds k' hkn;have hex: ∀j,j<(s.st.getD k' []).length-> ∃c,w.cell? ⟨g.mu k',j,none⟩=some c/\Rep w g c ((s.st.getD k' []).getD j .junk):=fun j hj=>by obtain⟨_,c,q1,q2⟩:=hh j hj;exact⟨c,q1,q2⟩
     let cf:Nat->Value:=fun j=>if hj:j<(s.st.getD k' []).length then(hex j hj).choose else undef
     have hcf: ∀j,j<(s.st.getD k' []).length->w.cell? ⟨g.mu k',j,none⟩=some (cf j)/\Rep w g (cf j) ((s.st.getD k' []).getD j .junk):=fun j hj=>by simp only[cf,dif_pos hj];exact(hex j hj).choose_spec
     have hl:(((s.st.getD k' []).drop off).take len).length=len:=by rw[BX,DM];omega
     have hg: ∀j,j<len->(((s.st.getD k' []).drop off).take len).getD j .junk=(s.st.getD k' []).getD (off+j) .junk:=fun j hj=>(by simp[q_a,ED,hj,DH]);have hone: ∀j,j<len->((s.st.getD k' []).getD (off+j) .junk).cells= [(s.st.getD k' []).getD (off+j) .junk]:=fun j hj=>hc _ (QE _ _ _ oG);have:=Rep.sl (w:=w) (g:=g') .no (((s.st.getD k' []).drop off).take len) (g.mu k') off 1 cap (fun a b=>cf (off+a)) rfl (fun h=>by cases h) oG
      (fun j hj=>by rw[hg j oG,hone j oG];rfl)
      (fun _=>by show _<=if g.mu k'=g.mu k' then max (s.st.getD k' []).length (g.vis (g.mu k')) else _;rw[BC rfl];have:=Nat.le_max_left (s.st.getD k' []).length (g.vis (g.mu k'));omega)
      (fun j k2 hj hk2=>by have:k2=0:=oG;subst this;simpa using(hcf (off+j) oG).1)
      (fun j k2 hj hk2=>by have:k2=0:=oG;subst this;rw[hg j oG,hone j oG];have hm:=(hcf (off+j) oG).2.mono k1.le;exact hm)
     rw[hl] at this;exact .base _ _ this
   exact .base _ _ (.junk _)
 | _=>exact .base _ _ (.junk _)
 rw[Z3 _ _ _ _ _ e];exact f2 _ _ (h.tmps j hj)
theorem Ro {P:Pg}{E:Ent}{c:Code}{Q:Pe}{s:PFS}(k t:Nat)(hk:k<s.st.length)(hc: ∀p∈s.st.getD k [],p.cells= [p])(h0:s.st.getD k []≠ [])
 (h:PWP P E c Q (s.freezeG k t)):PWP P E c Q s:=J0 (H0f k t hk hc h0) h
@[go_sem] theorem Y2o {k t:Nat}{pa:Lp}{L st:Qc}{T:Lv} :(PFS.mk pa L T st).freezeG k t=⟨pa.set t (xq (pa.getD t .junk) k (st.getD k [])),L,T,st.set k []⟩:=(rfl)
@[go_sem] theorem Y2l {k k' off len:Nat}{cs:Lp} :xq (.ms true k' off len) k cs=if k'=k/\off+len<=cs.length then .sl .no ((cs.drop off).take len) else .junk:=(rfl)
@[go_sem] theorem K2i {d:Po}{gl:Bool}{i o n:Nat}{pa:Lp}{L st st':Qc}{T:Lv} :(PFS.mk pa L T st).recv d (.ms gl i o n) st'=(PFS.mk pa L T st').put d (.ms gl i o n):=(rfl)
inductive Bnd (n:Nat):PV->Prop
 | junk:Bnd n .junk
 | sc (v:Value):Bnd n (.sc v)
 | agg (cs:List PV) (h: ∀j,j<cs.length->Bnd n (cs.getD j .junk)):Bnd n (.agg cs)
 | tup (cs:List PV) (h: ∀j,j<cs.length->Bnd n (cs.getD j .junk)):Bnd n (.tup cs)
 | nil (t:Tag):Bnd n (.sl t [])
 | sl (t:Tag) (es:List PV) (sz:Nat) (hsz: ∀i,i<es.length->(es.getD i .junk).cells.length=sz) (h: ∀i j,i<es.length->j<sz->Bnd n ((es.getD i .junk).cells.getD j .junk)):Bnd n (.sl t es)
 | gms (i off len:Nat) (hi:i<n):Bnd n (.ms true i off len)
 | gr (i len cap:Nat) (hi:i<n):Bnd n (.gr i len cap)
 | gp (i off:Nat) (hi:i<n):Bnd n (.gp i off)
 | ep (cs:List PV) (off:Nat) (h: ∀j,j<cs.length->Bnd n (cs.getD j .junk)):Bnd n (.ep cs off)
 | fn (f:Fn) (bs cs:List PV) (h0: ∀j,j<bs.length->Bnd n (bs.getD j .junk)) (h: ∀j,j<cs.length->Bnd n (cs.getD j .junk)):Bnd n (.fn f bs cs)
 | pre (all:List PV) (m sz:Nat) (hsz: ∀i,i<all.length->(all.getD i .junk).cells.length=sz) (h: ∀i j,i<all.length->j<sz->Bnd n ((all.getD i .junk).cells.getD j .junk)):Bnd n (.pre all m)
theorem Rep.bnd {w:Lw}{g:Gh}{v:Value}{p:PV}(h:Rep w g v p):Bnd g.n p:=by
 induction h with
 | junk v=>exact .junk
 | sc v=>exact .sc v
 | agg vs cs hl _ ih=>exact .agg cs ih
 | tup vs cs hl _ ih=>exact .tup cs ih
 | nil t ad ht=>exact .nil t
 | sl t es b off sz cap cf ht hfull hcap hsz hvis hc hr ih=>exact .sl t es sz hsz ih
 | gms i off len cap hi hcap=>exact .gms i off len hi
 | gr i len cap hi hcap=>exact .gr i len cap hi
 | gp i off hi=>exact .gp i off hi
 | ep cs off b base cf hvis hc hr ih=>exact .ep cs off ih
 | fn f us vs bs cs hk hl _ _ ih0 ih=>exact .fn f bs cs ih0 ih
 | pre all n b off sz cap cf hn hcap hsz hvis hc hr ih=>exact .pre all n sz hsz ih
theorem Rep.less {w:Lw}{g:Gh}(n:Nat){v:Value}{p:PV}(h:Rep w g v p):Bnd n p->Rep w { g with n:=n } v p:=by
 induction h with
 | junk v=>exact fun _=> .junk v
 | sc v=>exact fun _=> .sc v
 | agg vs cs hl _ ih=>intro hb;cases hb with | agg _ h=>exact .agg vs cs hl fun j hj=>ih j hj (h j hj)
 | tup vs cs hl _ ih=>intro hb;cases hb with | tup _ h=>exact .tup vs cs hl fun j hj=>ih j hj (h j hj)
 | nil t ad ht=>exact fun _=> .nil t ad ht
 | sl t es b off sz cap cf ht hfull hcap hsz hvis hc hr ih=>
  intro hb;refine .sl t es b off sz cap cf ht hfull hcap hsz hvis hc fun i j hi hj=>ih i j hi hj ?_;cases hb with
  | nil t=>simp at hi
  | sl _ _ sz' hsz' h=>
   have:sz=sz':=(hsz i hi).symm.trans (hsz' i hi);subst this;exact h i j hi hj
 | gms i off len cap hi hcap=>intro hb;cases hb with | gms _ _ _ h=>exact Rep.gms (g:= { g with n:=n }) i off len cap h hcap
 | gr i len cap hi hcap=>intro hb;cases hb with | gr _ _ _ h=>exact Rep.gr (g:= { g with n:=n }) i len cap h hcap
 | gp i off hi=>intro hb;cases hb with | gp _ _ h=>exact Rep.gp (g:= { g with n:=n }) i off h
 | ep cs off b base cf hvis hc hr ih=>intro hb;cases hb with | ep _ _ h=>exact .ep cs off b base cf hvis hc fun j hj=>ih j hj (h j hj)
 | fn f us vs bs cs hk hl _ _ ih0 ih=>intro hb;cases hb with | fn _ _ _ h0 h=>exact .fn f us vs bs cs hk hl (fun j hj=>ih0 j hj (h0 j hj)) fun j hj=>ih j hj (h j hj)
 | pre all m b off sz cap cf hn hcap hsz hvis hc hr ih=>
  intro hb;refine .pre all m b off sz cap cf hn hcap hsz hvis hc fun i j hi hj=>ih i j hi hj ?_;cases hb with
  | pre _ _ sz' hsz' h=>
   have:sz=sz':=(hsz i hi).symm.trans (hsz' i hi);subst this;exact h i j hi hj
theorem RepRes.less {B:Nat}{w:Lw}{g:Gh}(n:Nat)(hn:n<=g.n){v:Value}{p:PV}(h:RepRes B w g v p)(hb:Bnd n p):RepRes B w { g with n:=n } v p:=by
 by_cases hp: ∃sz es,p= .sl (.fresh sz) es;obtain⟨sz,es,rfl⟩:=hp;obtain⟨h1,h2⟩:=h;refine⟨h1.less n ?_,?_⟩;cases hb with
 | nil t=>exact .nil _
 | sl _ _ sz' hsz' h=>exact .sl _ _ sz' hsz' h
 rcases h2 with ⟨b,hR,b1,b2,b3,b4⟩ | hR;exact .inl ⟨b,hR,b1,b2,fun i hi=>b3 i (q_e hi hn),b4⟩;exact .inr hR;unfold RepRes at h⊢;split;exact absurd ⟨_,_,rfl⟩ hp;rename_i hq;split at h;exact absurd ⟨_,_,rfl⟩ hp;exact h.less n hb
theorem PCalls.drop {P:Pg}{f:FuncId}{args:Lp}{st:Qc}{Q:PV->Qc->Prop}
 (h:PCalls P f args st (fun r st'=>Bnd st.length r/\ ∃more,st'=st++more/\Q r st)):PCalls P f args st Q:=by
 intro w g vs hs hr;refine(h w g vs hs hr).mono ?_;rintro e w' ⟨v,g',r,st',rfl,hx,ho,hrr,hb,more,rfl,hq⟩;have hn:g.n<=g'.n:=hx.le.n;have hgn:g.n=st.length:=hs.n;have hget: ∀i,i<g.n->(st++more).getD i []=st.getD i []:=fun i hi=>(by rw[q_a,B6 oG,<-q_a]);refine⟨v, { g' with n:=g.n },r,st,rfl,⟨⟨BD _,hx.le.mu,hx.le.vis,hx.le.cell⟩,hx.os,hx.tape,hx.output,hx.size,hx.old,fun i h1 h2=> ?_⟩,⟨hgn,fun i j hi hj=>ho.inj i j (q_e hi hn) (q_e hj hn),fun i hi=>ho.lt i (q_e hi hn),fun i hi h0=> ?_,fun i hi=> ?_,ho.none,ho.tab⟩,?_,hq⟩;have h2':i<g.n:=h2;omega;exact ho.vis i (q_e hi hn) (by rw[hget i hi];exact h0);have hi':i<g.n:=hi;have hh:=ho.holds i (q_e hi hn);rw[hget i hi'] at hh;intro j hj;obtain⟨q1,c,q2,q3⟩:=hh j hj;obtain⟨_,c0,_,q4⟩:=hs.holds i hi' j hj;exact⟨q1,c,q2,q3.less g.n q4.bnd⟩;rw[<-hgn] at hb;exact hrr.less g.n hn hb
def ofX (x:Nm):Vl:=QN x.neg (Qd x.w) x.exp
def QR (v:Vl)(p:Nat)(up:Bool):Vl:=
 if Qn v.m<=p then v else
  QN v.neg (v.m/2^(Qn v.m-p)+(if v.m % 2^(Qn v.m-p)≠0/\up≠v.neg then 1 else 0)) (v.e+((Qn v.m-p:Nat):Int))
theorem U9 (neg:Bool)(e:Int):QN neg 0 e=⟨false,0,0⟩:=by rw[QN,BC rfl]
theorem kU (neg:Bool)(m k:Nat)(e:Int):QN neg (m*2^k) e=QN neg m (e+k):=by
 by_cases h:m=0;subst h;rw[DC,U9,U9]
 . have hp:m*2^k≠0:=FU h (Nat.ne_of_gt (CT k));obtain⟨q,hq,hm⟩:=G2 m h;have hmk:m*2^k=2^(tz m+k)*q:=by
    conv=>lhs;rw[hm]
    rw[B2,Nat.mul_right_comm]
   have ht:tz (m*2^k)=tz m+k:=(by rw[hmk,HM _ _ hq]);unfold QN;rw[BA h,BA hp,ht];have e1:m*2^k/2^(tz m+k)=m/2^tz m:=by
    rw[hmk,EV _ (CT _)]
    conv=>rhs;rw[hm]
    rw[HM _ _ hq,EV _ (CT _)]
   rw[e1];congr 1;omega
theorem Iy (neg:Bool)(m:Nat)(e:Int)(h:m % 2=1):QN neg m e=⟨neg,m,e⟩:=by rw[QN,BA oG,qT h];simp
theorem Z1t (z D q:Nat)(h:D<=z):2^z*q/2^D=q*2^(z-D):=by obtain⟨k,rfl⟩: ∃k,z=D+k:=⟨z-D,oG⟩;rw[DY,B2,BW,EV _ (CT _),BM]
theorem Q0o {x:Nm}(h:Qg x=true):ofX x=ofN x:=by
 rcases Iv h with h1 | h1;exact Iy _ _ _ h1;have h0:Qd x.w=0:=h1;have hw:x.w= []:=by refine BE fun hw=> ?_;have h2:=h;unfold Qg at h2;rw[BA hw] at h2;simp only[q_i,BN] at h2;have h3:=qJ x.w;omega
 have h2:=h;unfold Qg at h2;rw[BC hw] at h2;simp at h2;unfold ofX ofN;rw[h0,U9,h2.1,h2.2]
theorem w0g (neg:Bool)(m:Nat)(e:Int)(p:Nat)(up:Bool)(hp:0<p):QR (QN neg m e) p up=
 if Qn m<=p then QN neg m e else QN neg (m/2^(Qn m-p)+(if tz m<Qn m-p/\up≠neg then 1 else 0)) (e+((Qn m-p:Nat):Int)):=by
 by_cases h0:m=0;subst h0;rw[BC (by rw[VH];omega),U9,QR,BC (by show Qn 0<=p;rw[VH];omega)];obtain⟨q,hq,hm⟩:=G2 m h0;have hq0:q≠0:=oG;have e1:QN neg m e=⟨neg,q,e+tz m⟩:=by have:QN neg (q*2^tz m) e=QN neg q (e+tz m):=kU neg q (tz m) e;rw[BM,<-hm] at this;rw[this,Iy _ _ _ hq]
 have hb:Qn m=Qn q+tz m:=by have:=qm q (tz m) hq0;rw[BM,<-hm] at this;exact this
 rw[e1];unfold QR;simp only;by_cases h1:Qn q<=p;rw[BC h1];by_cases h2:Qn m<=p;rw[BC h2];rw[BA h2,BA oG,B1];have hdiv:m/2^(Qn m-p)=q*2^(tz m-(Qn m-p)):=by have h:=Z1t (tz m) (Qn m-p) q oG;rw[<-hm] at h;exact h
 rw[hdiv,kU,Iy _ _ _ hq];congr 1;omega;rw[BA h1,BA (show¬Qn m<=p by omega)];have hd:Qn m-p=tz m+(Qn q-p):=oG;have hdiv:m/2^(Qn m-p)=q/2^(Qn q-p):=by have h:=EV q (CT (tz m));rw[<-hm] at h;rw[hd,B2,<-CV,h]
 have hodd:q % 2^(Qn q-p)≠0:=by intro h;have hdv:2∣q:=Nat.dvd_trans ⟨2^(Qn q-p-1),by rw[<-Nat.pow_succ'];congr 1;omega⟩ (Nat.dvd_of_mod_eq_zero h);omega
 rw[hdiv];have hc:(q % 2^(Qn q-p)≠0/\up≠neg)<->(tz m<Qn m-p/\up≠neg):=⟨fun h=>⟨oG,h.2⟩,fun h=>⟨hodd,h.2⟩⟩;by_cases hh:tz m<Qn m-p/\up≠neg;rw[BC hh,BC (hc.2 hh)];congr 1;omega;rw[BA hh,BA (fun h=>hh (hc.1 h))];congr 1;omega
theorem vr (neg:Bool)(m:Nat)(e:Int):QN neg m e=mkV (if neg then -(m:Int) else(m:Int)) e:=by by_cases h:m=0;subst h;rw[U9];unfold mkV;cases neg<;>simp[U9];unfold mkV;cases neg;show QN false m e=QN (decide ((m:Int)<0)) (m:Int).natAbs e;rw[q_g oG,LF];show QN true m e=QN (decide (-(m:Int)<0)) (-(m:Int)).natAbs e;rw[q_h oG,Int.natAbs_neg,LF]
theorem K1h (x:Nm):ofX x=mkV (Z6 x) x.exp:=by rw[ofX,vr];rfl
theorem Z0s (s:Int)(k:Nat)(e:Int):mkV (s*2^k) e=mkV s (e+k):=by
 unfold mkV;have h1:(s*2^k).natAbs=s.natAbs*2^k:=by rw[Int.natAbs_mul,Int.natAbs_pow];rfl
 have h2:decide (s*2^k<0)=decide (s<0):=by have hp:=two_pow_pos k;by_cases h:s<0;rw[q_h h,q_h (Int.mul_neg_of_neg_of_pos h hp)];rw[q_g h,q_g (F8.2 (Int.mul_nonneg (F8.1 h) (LC hp)))]
 rw[h1,h2,kU]
theorem W1l (s e:Int)(h:s≠0): ∃k:Nat,QK (mkV s e)*2^k=s/\(mkV s e).e=e+k/\(mkV s e).m≠0:=by have h0:s.natAbs≠0:=oG;refine⟨tz s.natAbs,?_,?_,?_⟩;unfold mkV QN QK;rw[BA h0];simp only;have h1:=Co s.natAbs;by_cases hs:s<0;rw[q_h hs,BC rfl,DU];have:((s.natAbs/2^tz s.natAbs:Nat):Int)*2^tz s.natAbs=(s.natAbs:Int):=(by rw[show((2:Int)^tz s.natAbs)=((2^tz s.natAbs:Nat):Int) from by simp,<-CN,h1]);rw[this];omega;rw[q_g hs,BA (by simp)];have:((s.natAbs/2^tz s.natAbs:Nat):Int)*2^tz s.natAbs=(s.natAbs:Int):=(by rw[show((2:Int)^tz s.natAbs)=((2^tz s.natAbs:Nat):Int) from by simp,<-CN,h1]);rw[this];omega;unfold mkV QN;rw[BA h0];unfold mkV QN;rw[BA h0];have:=Ui s.natAbs h0;simp only;omega
def byV (a b:Vl):Vl:=if a.m=0\/b.m=0 then⟨false,0,0⟩ else⟨a.neg !=b.neg,a.m*b.m,a.e+b.e⟩
theorem K1q {a b:Nat}(ha:a % 2=1)(hb:b % 2=1):a*b % 2=1:=by rw[Nat.mul_mod,ha,hb]
theorem U0n : ∀(k a b:Nat),a+b+1=2^k->a&&&b=0
 | 0,a,b,h=>by
  have:a=0:=by simp at h;omega
  subst this;exact Nat.zero_and b
 | k+1,a,b,h=>by have h2:a+b+1=2*2^k:=(by rw[h,B5,BM]);have ih:=U0n k (a/2) (b/2) oG;have hd:(a&&&b)/2=a/2&&&b/2:=Nat.and_div_two;have hm:(a&&&b) % 2≠1:=fun e=>(by have:=Nat.and_mod_two_eq_one.1 e;omega);omega
theorem X0k : ∀(n x:Nat),0<x->x<2^n->x&&&(2^n-x)=2^tz x
 | 0,x,h,hl=>by simp at hl;omega
 | n+1,x,h,hl=>by have hp:2^(n+1)=2*2^n:=(by rw[B5,BM]);have hd:(x&&&(2^(n+1)-x))/2=x/2&&&(2^(n+1)-x)/2:=Nat.and_div_two;rcases Nat.mod_two_eq_zero_or_one x with e | e;have ih:=X0k n (x/2) oG oG;have h3:(2^(n+1)-x)/2=2^n-x/2:=oG;have hm:(x&&&(2^(n+1)-x)) % 2≠1:=fun e'=>(by have:=Nat.and_mod_two_eq_one.1 e';omega);rw[h3,ih] at hd;have hps:2^(tz (x/2)+1)=2^tz (x/2)*2:=B5 ..;rw[jv oG e];omega;have h4:=U0n n (x/2) ((2^(n+1)-x)/2) oG;have hm:(x&&&(2^(n+1)-x)) % 2=1:=Nat.and_mod_two_eq_one.2 ⟨e,oG⟩;rw[h4] at hd;rw[qT e,Nat.pow_zero];omega
theorem Y1w (x:Nat)(h:0<x)(hl:x<18446744073709551616):x&&&(18446744073709551616-x)=2^tz x:=X0k 64 x h hl
theorem jt (x:Nat)(h:0<x)(hl:x<18446744073709551616):tz x<64:=by have h1:=qU x oG;have h2:=U0c x hl;omega
theorem q0n (w r:Nat)(h:0<w)(hl:w<18446744073709551616):tz (w+18446744073709551616*r)=tz w:=by obtain⟨q,hq,hw⟩:=G2 w oG;have ht:=jt w h hl;have e:w+18446744073709551616*r=2^tz w*(q+2^(64-tz w)*r):=(by rw[CE,<-hw,<-BW,<-B2,show tz w+(64-tz w)=64 from oG]);have h2:2^(64-tz w)*r % 2=0:=(by obtain⟨k,hk⟩: ∃k,64-tz w=k+1:=⟨63-tz w,oG⟩;rw[hk,B5,BW,EJ];exact Nat.mul_mod_right _ _);rw[e,HM _ _ oG]
theorem Bw (l:Lu)(i:Nat)(h:i<=l.length):Qd l=Qd (l.take i)+18446744073709551616^i*Qd (l.drop i):=by
 conv=>lhs;rw[<-List.take_append_drop i l]
 rw[HK,BX,DA h]
theorem Bz (l:Lu)(i:Nat)(h:i<l.length):Qd (l.drop i)=(l.getD i 0).toNat+18446744073709551616*Qd (l.drop (i+1)):=by rw[E8 h];simp only[Qd,nW,DX,val];rw[q_a,BB h];rfl
theorem jn (l:Lu)(i:Nat)(h:l.length<=i):Qd (l.drop i)=0:=by rw[E4 h];rfl
theorem qK (l:Lu)(i:Nat):Qd (l.drop i)=(l.getD i 0).toNat+18446744073709551616*Qd (l.drop (i+1)):=by by_cases h:i<l.length;exact Bz l i h;rw[jn _ _ oG,jn _ _ oG,Wc _ _ _ oG];rfl
theorem W0d (l:Lu)(i:Nat)(h:i<=l.length):Qd l/18446744073709551616^i=Qd (l.drop i):=by have hl:=Jg (l.take i);rw[BX,DA h] at hl;rw[Bw l i h,EU _ _ (DJ (by decide)),CP hl,CU]
theorem q0i (l:Lu)(i:Nat)(hi:i<l.length)(hz:Qd (l.take i)=0)(hn:(l.getD i 0).toNat≠0):tz (Qd l)=64*i+tz (l.getD i 0).toNat:=by rw[Bw l i oG,hz,CU,Bz l i hi,BM,KI,Ck _ _ oG,q0n _ _ oG (BT _)];omega
theorem V0y (w0 w1 r s:Nat)(h0:w0<18446744073709551616)(hs:s<64):(w0+18446744073709551616*(w1+18446744073709551616*r))/2^s % 18446744073709551616=w0/2^s+w1*2^(64-s) % 18446744073709551616:=by
 have e:(18446744073709551616:Nat)=2^s*2^(64-s):=(by rw[<-B2,show s+(64-s)=64 from oG]);have h1:(w0+18446744073709551616*(w1+18446744073709551616*r))/2^s=w0/2^s+2^(64-s)*(w1+18446744073709551616*r):=by
  conv=>lhs;rw[show 18446744073709551616*(w1+18446744073709551616*r)=2^s*(2^(64-s)*(w1+18446744073709551616*r)) from by rw[<-BW,<-e]]
  rw[EU _ _ (CT s)]
 have h2:w0/2^s<2^(64-s):=DE (by rw[<-e];exact h0);have h3:w1*2^(64-s) % 18446744073709551616=2^(64-s)*(w1 % 2^s):=by
  conv=>lhs;rw[BM,e,BM (2^s),Nat.mul_mod_mul_left]
 have h4:2^(64-s)*(w1 % 2^s)+2^(64-s)<=18446744073709551616:=by have h5:w1 % 2^s+1<=2^s:=CG _ (CT s);have:=DP (2^(64-s)) h5;rw[CE,EH] at this;rw[BM (2^(64-s)) (2^s),<-e] at this;exact this
 rw[h1,h3];have h6:w0/2^s+2^(64-s)*(w1+18446744073709551616*r)=(w0/2^s+2^(64-s)*(w1 % 2^s))+18446744073709551616*(w1/2^s+2^(64-s)*r):=by have h7:=D5 w1 (2^s);have h8:2^(64-s)*w1=2^(64-s)*(2^s*(w1/2^s))+2^(64-s)*(w1 % 2^s):=(by rw[<-CE,h7]);rw[<-BW,BM (2^(64-s)) (2^s),<-e] at h8;rw[CE,CE,h8,EJ];omega
 rw[h6,D7,BJ oG]
theorem j1w (w0 w1 s:Nat)(h0:w0<18446744073709551616)(hs:s<64):(w0/2^s)|||(w1*2^(64-s) % 18446744073709551616)=w0/2^s+w1*2^(64-s) % 18446744073709551616:=by refine GZ _ _ (64-s) (DE ?_) (vk _ _ oG);rw[<-B2,show s+(64-s)=64 from oG];exact h0
def p2 (e:Int):Rat:=(2:Rat)^e
theorem zL (e:Int):0<p2 e:=Rat.zpow_pos (by decide)
theorem J1e (e:Int):p2 e≠0:=Rat.ne_of_gt (zL e)
theorem Y3 (a b:Int):p2 (a+b)=p2 a*p2 b:=Rat.zpow_add (by decide) a b
theorem kF :p2 0=1:=Rat.zpow_zero 2
theorem Ti (k:Nat):(((2:Int)^k:Int):Rat)=p2 k:=by
 unfold p2;rw[Rat.zpow_natCast]
 induction k with
 | zero=>rfl
 | succ k ih=>rw[Int.pow_succ,Rat.intCast_mul,ih,Rat.pow_succ];rfl
def qM (s e:Int):Rat:=(s:Rat)*p2 e
def qV (v:Vl):Rat:=qM (QK v) v.e
def qN (x:Nm):Rat:=qM (Z6 x) x.exp
theorem Jz (s:Int)(k:Nat)(e:Int):qM (s*2^k) e=qM s (e+k):=by unfold qM;rw[Rat.intCast_mul,Ti,Y3];grind
theorem Iq (s t e:Int):qM (s+t) e=qM s e+qM t e:=by unfold qM;rw[Rat.intCast_add];grind
theorem kp (s t e f:Int):qM (s*t) (e+f)=qM s e*qM t f:=by unfold qM;rw[Rat.intCast_mul,Y3];grind
theorem XD (e:Int):qM 0 e=0:=by unfold qM;rw[Rat.intCast_zero];grind
theorem Ya (s e:Int):qM (-s) e= -qM s e:=by unfold qM;rw[Rat.intCast_neg];grind
theorem qM_le {s t e:Int} :qM s e<=qM t e<->s<=t:=by unfold qM;constructor;intro h;exact Rat.intCast_le_intCast.1 (Rat.le_of_mul_le_mul_right h (zL e));intro h;exact D3 (Rat.intCast_le_intCast.2 h) (Rat.le_of_lt (zL e))
theorem qM_lt {s t e:Int} :qM s e<qM t e<->s<t:=by rw[<-Rat.not_le,qM_le];omega
theorem qM_eq {s t e:Int} :qM s e=qM t e<->s=t:=by constructor;intro h;have h1:=(qM_le (s:=s) (t:=t) (e:=e)).1 (by rw[h];exact CB);have h2:=(qM_le (s:=t) (t:=s) (e:=e)).1 (by rw[h];exact CB);omega;rintro rfl;rfl
theorem U5 (s e g:Int)(h:g<=e):qM s e=qM (s*2^(e-g).toNat) g:=by rw[Jz];congr 1;omega
theorem zB (s e:Int):qV (mkV s e)=qM s e:=by by_cases h:s=0;subst h;rw[Z0r,XD];exact XD 0;obtain⟨k,k1,k2,k3⟩:=W1l s e h;unfold qV;rw[k2,<-Jz,k1]
theorem Vy (neg:Bool)(m:Nat)(e:Int):qV (QN neg m e)=qM (if neg then -(m:Int) else(m:Int)) e:=by rw[vr,zB]
theorem Ri (x:Nm):qV (ofX x)=qN x:=by rw[K1h,zB];rfl
theorem Zv (x:Nm):qV (ofN x)=qN x:=rfl
theorem KZ {v:Vl}(h:v.m=0):qV v=0:=by unfold qV;rw[v8 h,XD]
theorem KF (a b:Vl):qV (Zz a b)=qV a+qV b:=by unfold Zz;split;rename_i h;rw[KZ h];grind;split;rename_i h;rw[KZ h];grind;rw[zB,Iq,<-U5 _ _ _ oG,<-U5 _ _ _ oG];rfl
theorem W3 (v:Vl):qV (ZI v)= -qV v:=by unfold qV;rw[v9,G4,Ya]
theorem W4 (a b:Vl):qV (Jo a b)=qV a-qV b:=by unfold Jo;rw[KF,W3];grind
theorem Y1o {a b:Vl}(ha:a.m≠0)(hb:b.m≠0):QK (byV a b)=QK a*QK b/\(byV a b).e=a.e+b.e:=by unfold byV;rw[BA oG];refine⟨?_,rfl⟩;unfold QK;cases a.neg<;>cases b.neg<;>simp[DU,Int.mul_neg]
theorem VS (a b:Vl):qV (byV a b)=qV a*qV b:=by by_cases ha:a.m=0;rw[KZ ha,KZ (by unfold byV;rw[BC (.inl ha)])];grind;by_cases hb:b.m=0;rw[KZ hb,KZ (by unfold byV;rw[BC (.inr hb)])];grind;obtain⟨h1,h2⟩:=Y1o ha hb;unfold qV;rw[h1,h2,kp]
theorem jF (m:Int):sgn m<=0<->m<=0:=by unfold sgn;split<;>(try split)<;>omega
theorem jE (m:Int):sgn m<0<->m<0:=by unfold sgn;split<;>(try split)<;>omega
theorem Tq (a b:Vl):XX a b<=0<->qV a<=qV b:=by
 unfold XX;have h:=W4 a b;rw[GD,jF];have h2:QK (Jo a b)<=0<->qV (Jo a b)<=0:=by rw[<-XD (Jo a b).e];exact qM_le.symm
 rw[h2,h];grind
theorem Iu (a b:Vl):XX a b<0<->qV a<qV b:=by
 unfold XX;have h:=W4 a b;rw[GD,jE];have h2:QK (Jo a b)<0<->qV (Jo a b)<0:=by rw[<-XD (Jo a b).e];exact qM_lt.symm
 rw[h2,h];grind
theorem cmpN_le {a b:Nm} :ZC a b<=0<->qN a<=qN b:=by rw[<-kM,Tq];rfl
theorem cmpN_lt {a b:Nm} :ZC a b<0<->qN a<qN b:=by rw[<-kM,Iu];rfl
theorem cmpN_gt {a b:Nm} :0<ZC a b<->qN b<qN a:=by have:=cmpN_le (a:=a) (b:=b);rw[<-Rat.not_le,<-this];omega
theorem jC (a:Vl):Xi a<0<->qV a<0:=by rw[GD,jE,<-XD a.e];exact qM_lt.symm
theorem Ew (a:Vl):Xi a<=0<->qV a<=0:=by rw[GD,jF,<-XD a.e];exact qM_le.symm
def QF (v:Vl):Prop:=v.m % 2=1\/v=⟨false,0,0⟩
theorem YJ (neg:Bool)(m:Nat)(e:Int):QF (QN neg m e):=by unfold QN QF;split;exact .inr rfl;exact .inl (Ui m (by assumption))
theorem w1j (s e:Int):QF (mkV s e):=YJ _ _ _
theorem yx (x:Nm):QF (ofX x):=YJ _ _ _
theorem Jd {x:Nm}(h:Qg x=true):QF (ofN x):=by rw[<-Q0o h];exact yx x
theorem Wl {a b:Vl}(ha:QF a)(hb:QF b):QF (Zz a b):=by unfold Zz;split;exact hb;split;exact ha;exact w1j _ _
theorem xM {a:Vl}(ha:QF a):QF (ZI a):=by rcases ha with h | rfl;exact .inl (by rw[G3];exact h);exact .inr rfl
theorem qg {a b:Vl}(ha:QF a)(hb:QF b):QF (Jo a b):=Wl ha (xM hb)
theorem yz {a b:Vl}(ha:QF a)(hb:QF b):QF (byV a b):=by rcases ha with h | rfl;rcases hb with k | rfl;exact .inl (by unfold byV;rw[BA oG];exact K1q h k);exact .inr (by unfold byV;rw[BC (.inr rfl)]);exact .inr (by unfold byV;rw[BC (.inl rfl)])
theorem JY {v:Vl}(h:QF v)(p:Nat)(up:Bool):QF (QR v p up):=by unfold QR;split;exact h;exact YJ _ _ _
theorem Wm {v:Vl}(h:QF v):okV v:=by rcases h with h | rfl;exact .inl h;exact .inr rfl
theorem Y0h {v:Vl}(h:QF v):v=mkV (QK v) v.e:=by
 rcases h with h | rfl
 . have:QN v.neg v.m v.e=v:=by rw[Iy _ _ _ h]
   conv=>lhs;rw[<-this]
   rw[vr];rfl
 rw[show QK ⟨false,0,0⟩=0 from rfl,Z0r]
theorem W1m {s e t f:Int}(h:qM s e=qM t f):mkV s e=mkV t f:=by
 have h1:mkV s e=mkV (s*2^(e-min e f).toNat) (min e f):=by rw[Z0s];congr 1;omega
 have h2:mkV t f=mkV (t*2^(f-min e f).toNat) (min e f):=by rw[Z0s];congr 1;omega
 rw[U5 s e (min e f) oG,U5 t f (min e f) oG,qM_eq] at h;rw[h1,h2,h]
theorem H7 {v w:Vl}(hv:QF v)(hw:QF w)(h:qV v=qV w):v=w:=by rw[Y0h hv,Y0h hw];exact W1m h
theorem Vd {x:Nm}{v:Vl}(hv:QF v)(h:qN x=qV v):ofX x=v:=H7 (yx x) hv (by rw[Ri,h])
theorem zp (neg:Bool)(m d:Nat)(c:Nat)(e:Int):qM (if neg then -((m/2^d+c:Nat):Int) else((m/2^d+c:Nat):Int)) (e+(d:Int))=qM (if neg then -(((m/2^d+c)*2^d:Nat):Int) else(((m/2^d+c)*2^d:Nat):Int)) e:=by rw[<-Jz];congr 1;cases neg;simp;simp[DU]
theorem zq (v:Vl)(p:Nat):qV (QR v p false)<=qV v:=by unfold QR;split;exact CB;rw[Vy,zp];unfold qV QK;rw[qM_le];generalize Qn v.m-p=d;have h1:=D5 v.m (2^d);have h2:=CG v.m (CT d);rw[BM] at h1;rw[BQ];cases v.neg;rw[BA (by simp),BA (by simp),BA (by simp),DC];omega;rw[BC rfl,BC rfl];by_cases h3:v.m % 2^d=0;rw[BA (by simp[h3]),DC];omega;rw[BC ⟨h3,by simp⟩,CY];omega
theorem Uw (v:Vl)(p:Nat):qV v<=qV (QR v p true):=by unfold QR;split;exact CB;rw[Vy,zp];unfold qV QK;rw[qM_le];generalize Qn v.m-p=d;have h1:=D5 v.m (2^d);have h2:=CG v.m (CT d);rw[BM] at h1;rw[BQ];cases v.neg;rw[BA (by simp),BA (by simp)];by_cases h3:v.m % 2^d=0;rw[BA (by simp[h3]),DC];omega;rw[BC ⟨h3,by simp⟩,CY];omega;rw[BC rfl,BC rfl,BA (by simp),DC];omega
theorem JQ {v:Vl}(hv:QF v)(h:(QI v).2=0):ofN (QI v).1=v/\qN (QI v).1=qV v:=by unfold QI at h⊢;split;rename_i h0;rcases hv with hv | rfl;omega;exact⟨rfl,rfl⟩;rename_i h0;rw[BA h0] at h;split;rename_i h1;rw[BC h1] at h;cases h;have e:ofN ⟨v.neg,v.e,QB v.m⟩=v:=(by unfold ofN;rw[Jf]);exact⟨e,by rw[<-Zv,e]⟩
theorem zT {x:Nm}(h:Qg x=true):QI (ofN x)=(x,0):=by unfold QI ofN;simp only;have h2:=h;unfold Qg at h2;by_cases hw:x.w= [];rw[BC hw] at h2;simp at h2;rw[BC (by rw[hw];rfl)];congr 1;obtain⟨n,e,w⟩:=x;simp at hw h2;obtain⟨rfl,rfl⟩:=h2;subst hw;rfl;rw[BA hw] at h2;simp only[q_i,BN] at h2;rw[BA (by have:=(Wp h);intro e;exact hw (this.1 e)),Xx,jR h,BA oG]
theorem Kh {a b:Rat}(ha:0<=a)(hb:0<=b):0<=a*b:=Rat.mul_nonneg ha hb
theorem k1w {x y u v X U:Rat}(h1:x<=X)(h2:X<=y)(h3:u<=U)(h4:U<=v)(hx:0<=x)(hu:0<=u):x*u<=X*U:=by have a1:=Kh (a:=X-x) (b:=u) (by grind) hu;have a2:=Kh (a:=X) (b:=U-u) (by grind) (by grind);grind
theorem W0q {x y u v X U:Rat}(h1:x<=X)(h2:X<=y)(h3:u<=U)(h4:U<=v)(hx:0<=X)(hu:u<=0):y*u<=X*U:=by have a1:=Kh (a:=y-X) (b:= -u) (by grind) (by grind);have a2:=Kh (a:=X) (b:=U-u) (by grind) (by grind);grind
theorem W0p {x y u v X U:Rat}(h1:x<=X)(h2:X<=y)(h3:u<=U)(h4:U<=v)(hx:x<=0)(hu:0<=U):x*v<=X*U:=by have a1:=Kh (a:= -x) (b:=v-U) (by grind) (by grind);have a2:=Kh (a:=X-x) (b:=U) (by grind) (by grind);grind
theorem k1v {x y u v X U:Rat}(h1:x<=X)(h2:X<=y)(h3:u<=U)(h4:U<=v)(hx:y<=0)(hu:v<=0):y*v<=X*U:=by have a1:=Kh (a:=y-X) (b:= -v) (by grind) (by grind);have a2:=Kh (a:= -X) (b:=v-U) (by grind) (by grind);grind
theorem Z1z {a b:Rat}(ha:a<=0)(hb:b<=0):0<=a*b:=by have:=Kh (a:= -a) (b:= -b) (by grind) (by grind);grind
theorem X1a {a b:Rat}(ha:0<=a)(hb:b<=0):a*b<=0:=by have:=Kh (a:=a) (b:= -b) ha (by grind);grind
theorem V1n {a b:Rat}(ha:a<=0)(hb:0<=b):a*b<=0:=by have:=Kh (a:= -a) (b:=b) (by grind) hb;grind
def JE (x y u v:Vl):Vl:=
 if 0<=Xi x/\0<=Xi u then byV x u else if 0<=Xi x then byV y u else if 0<=Xi u then byV x v else
 if Xi y<=0/\Xi v<=0 then byV y v else if XX (byV y u) (byV x v)<0 then byV y u else byV x v
def Wb (x y u v:Vl):Vl:=ZI (JE (ZI y) (ZI x) u v)
theorem Ex (a:Vl):0<=Xi a<->0<=qV a:=by have:=jC a;rw[<-Rat.not_lt,<-this];omega
theorem Hk {x y u v:Vl}(hx:qV x<=qV y)(hu:qV u<=qV v){X U:Rat}(h1:qV x<=X)(h2:X<=qV y)(h3:qV u<=U)(h4:U<=qV v):qV (JE x y u v)<=X*U:=by
 unfold JE;simp only[Ex,Ew,Iu,VS];split;rename_i h;rw[VS];exact k1w h1 h2 h3 h4 h.1 h.2;rename_i n1;split;rename_i h;rw[VS];exact W0q h1 h2 h3 h4 (by grind) (by grind);rename_i n2;split;rename_i h;rw[VS];exact W0p h1 h2 h3 h4 (by grind) (by grind);rename_i n3;split;rename_i h;rw[VS];exact k1v h1 h2 h3 h4 h.1 h.2;rename_i n4;have key:qV y*qV u<=X*U\/qV x*qV v<=X*U:=by by_cases hX:0<=X;exact .inl (W0q h1 h2 h3 h4 hX (by grind));by_cases hU:0<=U;exact .inr (W0p h1 h2 h3 h4 (by grind) hU);have p:=Z1z (a:=X) (b:=U) (by grind) (by grind);by_cases hy:0<=qV y;have:=X1a (a:=qV y) (b:=qV u) hy (by grind);exact .inl (by grind);have:=V1n (a:=qV x) (b:=qV v) (by grind) (by grind);exact .inr (by grind)
 split;rename_i h;rw[VS];grind;rename_i h;rw[VS];grind
theorem vI (x y u v:Vl):JE x y u v=byV x u\/JE x y u v=byV x v\/JE x y u v=byV y u\/JE x y u v=byV y v:=by
 unfold JE
 repeat' split
 all_goals simp
theorem I9 {x y u v:Vl}(hx:qV x<=qV y)(hu:qV u<=qV v){X U:Rat}(h1:qV x<=X)(h2:X<=qV y)(h3:qV u<=U)(h4:U<=qV v):X*U<=qV (Wb x y u v):=by unfold Wb;have:=Hk (x:=ZI y) (y:=ZI x) (u:=u) (v:=v) (X:= -X) (U:=U) (by rw[W3,W3];grind) hu (by rw[W3];grind) (by rw[W3];grind) h3 h4;rw[W3];grind
theorem H1u (x y u v:Vl):qV (Wb x y u v)=qV x*qV u\/qV (Wb x y u v)=qV x*qV v\/qV (Wb x y u v)=qV y*qV u\/qV (Wb x y u v)=qV y*qV v:=by
 unfold Wb;rw[W3];rcases vI (ZI y) (ZI x) u v with h | h | h | h
 all_goals rw[h,VS,W3];grind
theorem yy {x y u v:Vl}(hx:QF x)(hy:QF y)(hu:QF u)(hv:QF v):QF (JE x y u v):=by
 rcases vI x y u v with h | h | h | h
 all_goals rw[h];exact yz (by assumption) (by assumption)
theorem Y0i {x y u v:Vl}(hx:QF x)(hy:QF y)(hu:QF u)(hv:QF v):QF (Wb x y u v):=xM (yy (xM hy) (xM hx) hu hv)
def exV (k:Nat)(a b:Vl):Vl:=if k=0 then Zz a b else if k=1 then Jo a b else byV a b
def exQ (k:Nat)(a b:Rat):Rat:=if k=0 then a+b else if k=1 then a-b else a*b
theorem IK (a b:Rat):exQ 0 a b=a+b:=by simp[exQ]
theorem Ht (a b:Rat):exQ 1 a b=a-b:=by simp[exQ]
theorem V0j (a b:Rat):exQ 2 a b=a*b:=by simp[exQ]
theorem U4 (k:Nat)(a b:Vl):qV (exV k a b)=exQ k (qV a) (qV b):=by unfold exV exQ;split;exact KF a b;split;exact W4 a b;exact VS a b
theorem qj (k:Nat){a b:Vl}(ha:QF a)(hb:QF b):QF (exV k a b):=by unfold exV;split;exact Wl ha hb;split;exact qg ha hb;exact yz ha hb
def Qv (p:Int):Bool:=decide (8<=p)&&decide (p<=256)
def Qw (k:Nat)(a b:Nm)(p:Int)(up:Bool):Nm×Int:=if Qg a=true/\Qg b=true/\Qv p=true then QI (QR (exV k (ofN a) (ofN b)) p.toNat up) else(default,1)
def XC (k:Nat)(a b:Nm):Nm×Int:=if Qg a=true/\Qg b=true then QI (exV k (ofN a) (ofN b)) else(default,1)
def QQ (x:Nm)(k:Int):Nm×Int:=if Qg x=true then(if x.w= [] then(x,0) else if k< -131072\/131072<k then(default,2) else QI ⟨x.neg,Qd x.w,x.exp+k⟩) else(default,1)
def XK (lo hi:Vl):Ivl×Int:=if (QI lo).2=0/\(QI hi).2=0 then(⟨(QI lo).1,(QI hi).1⟩,0) else(default,2)
def loV (k:Nat)(x y u v:Vl):Vl:=if k=0 then Zz x u else if k=1 then Jo x v else JE x y u v
def hiV (k:Nat)(x y u v:Vl):Vl:=if k=0 then Zz y v else if k=1 then Jo y u else Wb x y u v
def opI (k:Nat)(a b:Ivl)(p:Int):Ivl×Int:=
 if Qr a=true/\Qr b=true/\Qv p=true then XK (QR (loV k (ofN a.lo) (ofN a.hi) (ofN b.lo) (ofN b.hi)) p.toNat false) (QR (hiV k (ofN a.lo) (ofN a.hi) (ofN b.lo) (ofN b.hi)) p.toNat true) else(default,1)
theorem U1d (x y u v:Vl):loV 0 x y u v=Zz x u:=by simp[loV]
theorem H1l (x y u v:Vl):hiV 0 x y u v=Zz y v:=by simp[hiV]
theorem X0q (x y u v:Vl):loV 1 x y u v=Jo x v:=by simp[loV]
theorem J0p (x y u v:Vl):hiV 1 x y u v=Jo y u:=by simp[hiV]
theorem X0p (k:Nat){x y u v:Vl}(hx:qV x<=qV y)(hu:qV u<=qV v){X U:Rat}(h1:qV x<=X)(h2:X<=qV y)(h3:qV u<=U)(h4:U<=qV v):qV (loV k x y u v)<=exQ k X U:=by unfold loV exQ;split;rw[KF];grind;split;rw[W4];grind;exact Hk hx hu h1 h2 h3 h4
theorem J0o (k:Nat){x y u v:Vl}(hx:qV x<=qV y)(hu:qV u<=qV v){X U:Rat}(h1:qV x<=X)(h2:X<=qV y)(h3:qV u<=U)(h4:U<=qV v):exQ k X U<=qV (hiV k x y u v):=by unfold hiV exQ;split;rw[KF];grind;split;rw[W4];grind;exact I9 hx hu h1 h2 h3 h4
theorem qf (k:Nat){x y u v:Vl}(hx:QF x)(hy:QF y)(hu:QF u)(hv:QF v):QF (loV k x y u v):=by unfold loV;split;exact Wl hx hu;split;exact qg hx hv;exact yy hx hy hu hv
theorem qh (k:Nat){x y u v:Vl}(hx:QF x)(hy:QF y)(hu:QF u)(hv:QF v):QF (hiV k x y u v):=by unfold hiV;split;exact Wl hy hv;split;exact qg hy hu;exact Y0i hx hy hu hv
theorem JD {x:Ivl}(h:Qr x=true):qV (ofN x.lo)<=qV (ofN x.hi):=cmpN_le.1 (ZJ h).2.2
theorem V0k {lo hi:Vl}(h1:QF lo)(h2:QF hi)(h:qV lo<=qV hi):Qr (XK lo hi).1=true:=by unfold XK;split;rename_i hh;exact zu (Kt (Wm h1)) (Kt (Wm h2)) (cmpN_le.2 (by rw[(JQ h1 hh.1).2,(JQ h2 hh.2).2];exact h));decide
theorem X0o (k:Nat){a b:Ivl}(ha:Qr a=true)(hb:Qr b=true)(p:Nat):
 qV (QR (loV k (ofN a.lo) (ofN a.hi) (ofN b.lo) (ofN b.hi)) p false)<=qV (QR (hiV k (ofN a.lo) (ofN a.hi) (ofN b.lo) (ofN b.hi)) p true):=by
 have h1:=zq (loV k (ofN a.lo) (ofN a.hi) (ofN b.lo) (ofN b.hi)) p;have h2:=Uw (hiV k (ofN a.lo) (ofN a.hi) (ofN b.lo) (ofN b.hi)) p;have h3:=X0p k (JD ha) (JD hb) CB (JD ha) CB (JD hb);have h4:=J0o k (JD ha) (JD hb) CB (JD ha) CB (JD hb);grind
theorem XG {x:Ivl}(h:Qr x=true):QF (ofN x.lo)/\QF (ofN x.hi):=⟨Jd (ZJ h).1,Jd (ZJ h).2.1⟩
theorem KK (k:Nat)(a b:Ivl)(p:Int):Qr (opI k a b p).1=true:=by unfold opI;split;rename_i h;have ca:=XG h.1;have cb:=XG h.2.1;exact V0k (JY (qf k ca.1 ca.2 cb.1 cb.2) _ _) (JY (qh k ca.1 ca.2 cb.1 cb.2) _ _) (X0o k h.1 h.2.1 _);decide
def KO (X:Rat)(a:Ivl):Prop:=qN a.lo<=X/\X<=qN a.hi
theorem zO (k:Nat){a b:Ivl}{p:Int}(h:(opI k a b p).2=0){X U:Rat}(hX:KO X a)(hU:KO U b):KO (exQ k X U) (opI k a b p).1:=by unfold opI at h⊢;split;rename_i hr;rw[BC hr] at h;have ca:=XG hr.1;have cb:=XG hr.2.1;unfold XK at h⊢;split;rename_i hh;have h1:=(JQ (JY (qf k ca.1 ca.2 cb.1 cb.2) _ _) hh.1).2;have h2:=(JQ (JY (qh k ca.1 ca.2 cb.1 cb.2) _ _) hh.2).2;have h3:=X0p k (JD hr.1) (JD hr.2.1) hX.1 hX.2 hU.1 hU.2;have h4:=J0o k (JD hr.1) (JD hr.2.1) hX.1 hX.2 hU.1 hU.2;have h5:=zq (loV k (ofN a.lo) (ofN a.hi) (ofN b.lo) (ofN b.hi)) p.toNat;have h6:=Uw (hiV k (ofN a.lo) (ofN a.hi) (ofN b.lo) (ofN b.hi)) p.toNat;exact⟨by rw[h1];grind,by rw[h2];grind⟩;rename_i hh;rw[BA hh] at h;cases h;rename_i hr;rw[BA hr] at h;cases h
def bd (n k:Nat)(x:Nm):Prop:=x.w.length<=n/\ -(k:Int)<=x.exp/\x.exp<=k
theorem bd.mono {n k n' k':Nat}{x:Nm}(h:bd n k x)(h1:n<=n')(h2:k<=k'):bd n' k' x:=⟨by have:=h.1;omega,by have:=h.2.1;omega,by have:=h.2.2;omega⟩
theorem Xt {x:Nm}(h:Qg x=true):bd 64 65536 x:=by unfold Qg at h;by_cases hw:x.w= [];rw[BC hw] at h;simp at h;exact⟨by rw[hw];simp,by rw[h.2];omega,by rw[h.2];omega⟩;rw[BA hw] at h;simp only[q_i,BN] at h;exact⟨h.1.1.1.2,h.1.2,h.2⟩
theorem Q1q (x:Nm):qN { x with neg:= !x.neg } = -qN x:=by unfold qN Z6;rw[<-Ya];congr 1;cases x.neg<;>simp
theorem zC (neg:Bool)(e:Int)(m:Nat):qN ⟨neg,e,QB m⟩=qM (if neg then -(m:Int) else(m:Int)) e:=by unfold qN Z6;rw[Jf]
theorem kj (b:Nm)(e:Int)(d:Nat)(h:b.exp=e+d):qN b=qM (if b.neg then -((Qd b.w*2^d:Nat):Int) else((Qd b.w*2^d:Nat):Int)) e:=by unfold qN;rw[h,<-Jz];congr 1;unfold Z6;cases b.neg;simp;simp[DU]
theorem x1f (a b:Nm)(d:Nat)(h:b.exp=a.exp+d)(hn:a.neg=b.neg):qN ⟨a.neg,a.exp,QB (Qd a.w+Qd b.w*2^d)⟩=qN a+qN b:=by rw[zC,kj b a.exp d h,show qN a=qM (Z6 a) a.exp from rfl,<-Iq];congr 1;unfold Z6;rw[<-hn];cases a.neg<;>simp<;>omega
theorem x1i (a b:Nm)(d:Nat)(h:b.exp=a.exp+d)(hn:a.neg≠b.neg)(hle:Qd b.w*2^d<=Qd a.w):qN ⟨a.neg,a.exp,QB (Qd a.w-Qd b.w*2^d)⟩=qN a+qN b:=by
 rw[zC,kj b a.exp d h,show qN a=qM (Z6 a) a.exp from rfl,<-Iq];congr 1;unfold Z6;generalize Qd b.w*2^d=x at*
 cases ha:a.neg<;>cases hb:b.neg<;>simp[ha,hb] at hn⊢ <;>omega
theorem x1h (a b:Nm)(d:Nat)(h:b.exp=a.exp+d)(hn:a.neg≠b.neg)(hle:Qd a.w<=Qd b.w*2^d):qN ⟨b.neg,a.exp,QB (Qd b.w*2^d-Qd a.w)⟩=qN a+qN b:=by
 rw[zC,kj b a.exp d h,show qN a=qM (Z6 a) a.exp from rfl,<-Iq];congr 1;unfold Z6;generalize Qd b.w*2^d=x at*
 cases ha:a.neg<;>cases hb:b.neg<;>simp[ha,hb] at hn⊢ <;>omega
theorem Mc {x:Nm}(h:QT x=0):qN x=0:=by
 have:Z6 x=0:=by rw[Uu] at h;unfold sgn at h;split at h;assumption;split at h<;>omega
 unfold qN;rw[this,XD]
theorem x1g (a b:Nm)(n k d:Nat)(ha:bd n k a)(hb:bd n k b)(hd:d<=2*k):(QB (Qd a.w+Qd b.w*2^d)).length<=n+k+1:=by
 refine Gr ?_;have h1:=Jg a.w;have h2:=Jg b.w;have hp: ∀l:Nat,l<=n->18446744073709551616^l<=2^(64*n):=fun l hl=>(by rw[KI];exact BS (by decide) oG);have h3:Qd a.w<2^(64*n+d):=q_e h1 (B7 (hp _ ha.1) (BS (by decide) oG));have h4:Qd b.w*2^d<2^(64*n+d):=by rw[B2];exact C5 (q_e h2 (hp _ hb.1)) (CT d)
 have h5:18446744073709551616^(n+k+1)=2^(64*(n+k+1)):=KI _;have h6:2^(64*n+d+1)<=2^(64*(n+k+1)):=BS (by decide) oG;have h7:2^(64*n+d+1)=2^(64*n+d)*2:=B5 ..;rw[h5];omega
theorem V0i (a b:Nm)(n k d m:Nat)(ha:bd n k a)(hb:bd n k b)(hd:d<=2*k)(hm:m<=Qd a.w+Qd b.w*2^d):(QB m).length<=n+k+1:=B7 (Gq hm) (x1g a b n k d ha hb hd)
theorem Q1r (a b:Nm):qN ⟨a.neg !=b.neg,a.exp+b.exp,QB (Qd a.w*Qd b.w)⟩=qN a*qN b:=by rw[zC];show _=qM (Z6 a) a.exp*qM (Z6 b) b.exp;rw[<-kp];congr 1;unfold Z6;cases a.neg<;>cases b.neg<;>simp[DU,Int.mul_neg]
theorem U1g (a b:Nm)(n k m l:Nat)(ha:bd n k a)(hb:bd m l b):bd (n+m) (k+l) ⟨a.neg !=b.neg,a.exp+b.exp,QB (Qd a.w*Qd b.w)⟩:=by refine⟨Gr ?_,?_,?_⟩;have h1:=Jg a.w;have h2:=Jg b.w;refine q_e (Nat.mul_lt_mul'' h1 h2) ?_;rw[<-B2];exact BS (by decide) (by have:=ha.1;have:=hb.1;omega);have:=ha.2.1;have:=hb.2.1;simp only;omega;have:=ha.2.2;have:=hb.2.2;simp only;omega
theorem G0v (m:Nat)(h:m≠0):((QB m).getD 0 0).toNat % 2=m % 2:=by rw[<-qJ,Jf]
theorem w0q (neg:Bool)(m:Nat)(e:Int)(h:m % 2=1):Qg ⟨neg,e,QB m⟩=(decide ((QB m).length<=64)&&decide (-65536<=e)&&decide (e<=65536)):=by
 have hw:QB m≠ []:=fun e=>by rw[wordsOf_nil] at e;omega
 have h1:((QB m).getD 0 0).toNat % 2=1:=by rw[G0v m oG];exact h
 unfold Qg;rw[BA hw,IU];simp only[h1,decide_true,FB,Bool.and_true]
def mkX (neg:Bool)(w:List UInt64)(e:Int):Nm×Int:=QI (QN neg (Qd w) e)
theorem W1i {neg:Bool}{w:Lu}{e:Int}(h:Qd w=0):mkX neg w e=(default,0):=by unfold mkX;rw[h,U9];rfl
theorem Z0q {neg:Bool}{w:Lu}{e:Int}(h:Qd w≠0)(h2:65536<e\/e< -65536-((tz (Qd w):Nat):Int)):mkX neg w e=(default,2):=by unfold mkX QN;rw[BA h];have h1:Qd w/2^tz (Qd w)≠0:=(by have:=Ui (Qd w) h;omega);unfold QI;rw[BA h1,BC (by simp only;omega)]
theorem W1j {neg:Bool}{w:Lu}{e:Int}(h:Qd w≠0):mkX neg w e=if Qg ⟨neg,e+((tz (Qd w):Nat):Int),QB (Qd w/2^tz (Qd w))⟩=true then(⟨neg,e+((tz (Qd w):Nat):Int),QB (Qd w/2^tz (Qd w))⟩,0) else(default,2):=by have h0:=Ui (Qd w) h;rw[w0q _ _ _ h0];unfold mkX QN;rw[BA h];unfold QI;rw[BA (by simp only;omega)];simp only;by_cases hc:64<(QB (Qd w/2^tz (Qd w))).length\/e+((tz (Qd w):Nat):Int)< -65536\/65536<e+((tz (Qd w):Nat):Int);rw[BC hc,BA];simp only[q_i,BN];omega;rw[BA hc,BC];simp only[q_i,BN];omega
theorem vq (x:Nm):mkX x.neg x.w x.exp=QI (ofX x):=rfl
def KV (x:Nm)(p:Nat)(up:Bool):Nm:=
 if Zc x.w<=p then x else⟨x.neg,x.exp+((Zc x.w-p:Nat):Int),QB (Qd x.w/2^(Zc x.w-p)+(if tz (Qd x.w)<Zc x.w-p/\up≠x.neg then 1 else 0))⟩
theorem Nj (x:Nm)(p:Nat)(up:Bool)(hp:0<p):ofX (KV x p up)=QR (ofX x) p up:=by unfold KV;show _=QR (QN x.neg (Qd x.w) x.exp) p up;rw[w0g _ _ _ _ _ hp];unfold Zc;split;rfl;unfold ofX;rw[Jf]
theorem Nk (x:Nm)(p:Nat)(up:Bool)(n k:Nat)(h:bd n k x):bd (n+1) (k+64*n) (KV x p up):=by have hb:=Wn x.w;have hl:=h.1;unfold KV;split;exact h.mono oG oG;refine⟨?_,?_,?_⟩;refine Gr ?_;have h1:=Jg x.w;have h2:Qd x.w/2^(Zc x.w-p)<=Qd x.w:=DB _ _;have h3:18446744073709551616^x.w.length<=18446744073709551616^n:=BS (by decide) hl;have h4:18446744073709551616^(n+1)=18446744073709551616^n*18446744073709551616:=B5 ..;split<;>omega;have:=h.2.1;simp only;omega;have:=h.2.2;simp only;omega
def Ja (a:Ivl)(x:Nm):Bool:=Qr a&&Qg x&&decide (ZC a.lo x<=0)&&decide (ZC x a.hi<=0)
def VX (lo hi:Nm):Ivl×Int:=if Qr ⟨lo,hi⟩=true then(⟨lo,hi⟩,0) else(default,1)
def K2 (v:Vl):Vl:=if v.m=0 then v else { v with e:=v.e-1 }
def Jm (a:Ivl)(p:Nat):Vl:=QR (K2 (Zz (ofN a.lo) (ofN a.hi))) p false
def Zk (a:Ivl)(p:Int):Nm×Int:=if Qr a=true/\Qv p=true then(if XX (Jm a p.toNat) (ofN a.lo)<0 then(a.lo,0) else QI (Jm a p.toNat)) else(default,1)
def Jv (a:Ivl)(p:Int):Nm×Int:=if Qr a=true/\Qv p=true then QI (QR (Jo (ofN a.hi) (ofN a.lo)) p.toNat true) else(default,1)
theorem zM :p2 1=2:=by have:=Ti 1;rw[<-show((1:Nat):Int)=1 from rfl,<-this];rfl
theorem kq (s e:Int):qM s (e-1)*2=qM s e:=by unfold qM;have h:=Y3 (e-1) 1;rw[show e-1+1=e from oG,zM] at h;rw[h];grind
theorem ki (v:Vl):qV (K2 v)*2=qV v:=by unfold K2;split;rename_i h;rw[KZ h];grind;exact kq (QK v) v.e
theorem qi {v:Vl}(h:QF v):QF (K2 v):=by unfold K2;split;exact h;rename_i h0;rcases h with h | rfl;exact .inl h;exact absurd rfl h0
theorem Q1s (x:Nm):qN { x with exp:=x.exp-1 } *2=qN x:=kq (Z6 x) x.exp
theorem Cw {a b:Rat}(h:a*2=b*2):a=b:=by grind
theorem K1i {x:Nm}{v:Vl}(hv:QF v)(h:qN x=qV v):ofX { x with exp:=x.exp-1 } =K2 v:=by refine Vd (qi hv) (Cw ?_);rw[Q1s,ki,h]
theorem w0u {x y:Nm}(hx:Qg x=true)(hy:Qg y=true)(h:qN x=qN y):x=y:=by have h1:=H7 (Jd hx) (Jd hy) (by rw[Zv,Zv,h]);have h2:=zT hx;rw[h1,zT hy] at h2;exact(B4 Prod.fst h2).symm
theorem W1p {a:Ivl}{p:Nat}{y:Nm}(hr:Qr a=true)(h:ofX y=Jm a p):QI (ofX (Z2 a.lo y))=if XX (Jm a p) (ofN a.lo)<0 then(a.lo,0) else QI (Jm a p):=by
 have hlo:=(ZJ hr).1;have hq:qN y=qV (Jm a p):=(by rw[<-h,Ri]);unfold Z2;by_cases c:ZC y a.lo>0;rw[BC c,h,BA];intro hh;have h1:=(Iu _ _).1 hh;have h2:=cmpN_gt.1 c;rw[Zv,<-hq] at h1;grind;rw[BA c,Q0o hlo,zT hlo];by_cases d:XX (Jm a p) (ofN a.lo)<0;rw[BC d];rw[BA d];have h1: ¬qV (Jm a p)<qV (ofN a.lo):=fun e=>d ((Iu _ _).2 e);have h2: ¬qN a.lo<qN y:=fun e=>c (cmpN_gt.2 e);have h3:qV (Jm a p)=qV (ofN a.lo):=(by rw[Zv] at h1⊢;rw[<-hq] at h1⊢;grind);have h4:Jm a p=ofN a.lo:=by rw[<-h];exact H7 (yx y) (Jd hlo) (by rw[h,h3])
 rw[h4,zT hlo]
theorem kg (a b:Nm):qN (ZG a b)<=qN a/\qN (ZG a b)<=qN b/\(qN (ZG a b)=qN a\/qN (ZG a b)=qN b):=by have h1:=cmpN_le.1 (U1k a b);have h2:=cmpN_le.1 (U1j a b);refine⟨h1,h2,?_⟩;unfold ZG;split;exact .inr rfl;exact .inl rfl
theorem zA (a b:Nm):qN a<=qN (Z2 a b)/\qN b<=qN (Z2 a b)/\(qN (Z2 a b)=qN a\/qN (Z2 a b)=qN b):=by have h1:=cmpN_le.1 (H1w a b);have h2:=cmpN_le.1 (H1v a b);refine⟨h1,h2,?_⟩;unfold Z2;split;exact .inr rfl;exact .inl rfl
theorem q1x {a b:Ivl}(ha:Qr a=true)(hb:Qr b=true){p1 p2 p3 p4:Nm}(h1:qN p1=qN a.lo*qN b.lo)(h2:qN p2=qN a.lo*qN b.hi)(h3:qN p3=qN a.hi*qN b.lo)(h4:qN p4=qN a.hi*qN b.hi):
 ofX (ZG (ZG (ZG p1 p2) p3) p4)=loV 2 (ofN a.lo) (ofN a.hi) (ofN b.lo) (ofN b.hi):=by
 have ca:=XG ha;have cb:=XG hb;have la:=JD ha;have lb:=JD hb;show _=JE (ofN a.lo) (ofN a.hi) (ofN b.lo) (ofN b.hi);refine Vd (yy ca.1 ca.2 cb.1 cb.2) ?_;have r1:=Hk la lb CB la CB lb;have r2:=Hk la lb CB la lb CB;have r3:=Hk la lb la CB CB lb;have r4:=Hk la lb la CB lb CB;have rr: ∀v w:Vl,JE (ofN a.lo) (ofN a.hi) (ofN b.lo) (ofN b.hi)=byV v w->qV (JE (ofN a.lo) (ofN a.hi) (ofN b.lo) (ofN b.hi))=qV v*qV w:=fun v w e=>(by rw[e,VS]);have r5:qV (JE (ofN a.lo) (ofN a.hi) (ofN b.lo) (ofN b.hi))=qV (ofN a.lo)*qV (ofN b.lo)\/qV (JE (ofN a.lo) (ofN a.hi) (ofN b.lo) (ofN b.hi))=qV (ofN a.lo)*qV (ofN b.hi)\/qV (JE (ofN a.lo) (ofN a.hi) (ofN b.lo) (ofN b.hi))=qV (ofN a.hi)*qV (ofN b.lo)\/qV (JE (ofN a.lo) (ofN a.hi) (ofN b.lo) (ofN b.hi))=qV (ofN a.hi)*qV (ofN b.hi):=by rcases vI (ofN a.lo) (ofN a.hi) (ofN b.lo) (ofN b.hi) with e | e | e | e;exact .inl (rr _ _ e);exact .inr (.inl (rr _ _ e));exact .inr (.inr (.inl (rr _ _ e)));exact .inr (.inr (.inr (rr _ _ e)))
 generalize qV (JE (ofN a.lo) (ofN a.hi) (ofN b.lo) (ofN b.hi))=V at*
 simp only[Zv] at*
 rw[<-h1] at r1 r5;rw[<-h2] at r2 r5;rw[<-h3] at r3 r5;rw[<-h4] at r4 r5;obtain⟨s1,s2,s3⟩:=kg p1 p2;obtain⟨t1,t2,t3⟩:=kg (ZG p1 p2) p3;obtain⟨u1,u2,u3⟩:=kg (ZG (ZG p1 p2) p3) p4;clear h1 h2 h3 h4 la lb rr;grind
theorem q1y {a b:Ivl}(ha:Qr a=true)(hb:Qr b=true){p1 p2 p3 p4:Nm}(h1:qN p1=qN a.lo*qN b.lo)(h2:qN p2=qN a.lo*qN b.hi)(h3:qN p3=qN a.hi*qN b.lo)(h4:qN p4=qN a.hi*qN b.hi):
 ofX (Z2 (Z2 (Z2 p1 p2) p3) p4)=hiV 2 (ofN a.lo) (ofN a.hi) (ofN b.lo) (ofN b.hi):=by
 have ca:=XG ha;have cb:=XG hb;have la:=JD ha;have lb:=JD hb;show _=Wb (ofN a.lo) (ofN a.hi) (ofN b.lo) (ofN b.hi);refine Vd (Y0i ca.1 ca.2 cb.1 cb.2) ?_;have r1:=I9 la lb CB la CB lb;have r2:=I9 la lb CB la lb CB;have r3:=I9 la lb la CB CB lb;have r4:=I9 la lb la CB lb CB;have r5:=H1u (ofN a.lo) (ofN a.hi) (ofN b.lo) (ofN b.hi);generalize qV (Wb (ofN a.lo) (ofN a.hi) (ofN b.lo) (ofN b.hi))=V at*
 simp only[Zv] at*
 rw[<-h1] at r1 r5;rw[<-h2] at r2 r5;rw[<-h3] at r3 r5;rw[<-h4] at r4 r5;obtain⟨s1,s2,s3⟩:=zA p1 p2;obtain⟨t1,t2,t3⟩:=zA (Z2 p1 p2) p3;obtain⟨u1,u2,u3⟩:=zA (Z2 (Z2 p1 p2) p3) p4;clear h1 h2 h3 h4 la lb;grind
def opB (k:Nat)(a b:List Ivl)(p:Int):List Ivl×Int:=if rightB a=true/\rightB b=true/\a.length=b.length/\Qv p=true then Z1 (fun i x=>opI k x (b.getD i default) p) 0 a [] else([],1)
def XP (x:Ivl)(b:List Ivl)(p:Int):List Ivl×Int:=if rightB b=true/\Qr x=true/\Qv p=true then Z1 (fun _ y=>opI 2 x y p) 0 b [] else([],1)
def QJ (b:List Ivl)(p:Int):List Nm×Int:=if rightB b=true/\Qv p=true then Z1 (fun _ a=>Zk a p) 0 b [] else([],1)
def ofB (q:List Nm):List Ivl:=q.map fun x=>⟨x,x⟩
def VG (a:Ivl)(p:Int):Ivl×Int:=
 if (Jv a p).2≠0 then(default,(Jv a p).2) else if (QQ (Jv a p).1 (-2)).2≠0 then(default,(QQ (Jv a p).1 (-2)).2) else
 if (Qw 1 a.lo (QQ (Jv a p).1 (-2)).1 p false).2≠0\/(Qw 0 a.hi (QQ (Jv a p).1 (-2)).1 p true).2≠0 then(default,2) else
 (⟨(Qw 1 a.lo (QQ (Jv a p).1 (-2)).1 p false).1,(Qw 0 a.hi (QQ (Jv a p).1 (-2)).1 p true).1⟩,0)
def YL (b:List Ivl)(p:Int):List Ivl×Int:=if rightB b=true/\Qv p=true then Z1 (fun _ a=>VG a p) 0 b [] else([],1)
theorem xE {α β:Type}[Inhabited α](F:Nat->α->β×Int)(l:List α)(h:0<l.length)(e:Int)(he:e≠0)(hf: ∀i x,(F i x).2=e):Z1 F 0 l []=([],e):=by
 cases l with
 | nil=>simp at h
 | cons x l=>
  rw[Z1,BC (by rw[hf];exact he),hf]
theorem Q0a {k:Nat}{a b:Ivl}{p:Int}(h:Qv p=false):opI k a b p=(default,1):=by rw[opI,BA (fun hh=>by simp[h] at hh)]
theorem W1s {a:Ivl}{p:Int}(h:Qv p=false):Zk a p=(default,1):=by rw[Zk,BA (fun hh=>by simp[h] at hh)]
theorem G0y {a:Ivl}{p:Int}(h:Qv p=false):Jv a p=(default,1):=by rw[Jv,BA (fun hh=>by simp[h] at hh)]
theorem y1o {a:Ivl}{p:Int}(h:Qv p=false):VG a p=(default,1):=by rw[VG,G0y h,BC (by decide)]
theorem G0x (a:Ivl)(p:Int):Qg (Jv a p).1=true:=by unfold Jv;split;rename_i h;have c:=XG h.1;exact Kt (Wm (JY (qg c.2 c.1) _ _));exact KW
theorem Hf (a:Ivl)(p:Int):Qg (Zk a p).1=true:=by unfold Zk;split;rename_i h;split;exact(ZJ h.1).1;have c:=XG h.1;exact Kt (Wm (JY (qi (Wl c.1 c.2)) _ _));exact KW
theorem WU (x:Nm)(k:Int):Qg (QQ x k).1=true:=by unfold QQ;split;rename_i h;split;exact h;split;exact KW;refine Kt ?_;have h1:=Iv h;rcases h1 with h1 | h1;exact .inl h1;exact .inr h1;exact KW
theorem KX (k:Nat)(a b:Nm)(p:Int)(up:Bool):Qg (Qw k a b p up).1=true:=by unfold Qw;split;rename_i h;exact Kt (Wm (JY (qj k (Jd h.1) (Jd h.2.1)) _ _));exact KW
theorem kV (v:Vl):(QI v).2=0\/(QI v).2=2:=by unfold QI;split;exact .inl rfl;split;exact .inr rfl;exact .inl rfl
theorem z8 {k:Nat}{a b:Nm}{p:Int}{up:Bool}(ha:Qg a=true)(hb:Qg b=true)(hp:Qv p=true):(Qw k a b p up).2=0\/(Qw k a b p up).2=2:=by rw[Qw,BC ⟨ha,hb,hp⟩];exact kV _
theorem W1q {a:Ivl}{p:Int}(h:(Zk a p).2=0):Qr a=true/\Qg (Zk a p).1=true/\qN a.lo<=qN (Zk a p).1/\qN (Zk a p).1<=qN a.hi:=by have hr:=Hf a p;unfold Zk at h hr⊢;split;rename_i hh;rw[BC hh] at h hr;have hq:=JD hh.1;rw[Zv,Zv] at hq;refine⟨hh.1,hr,?_⟩;have c:=XG hh.1;split;exact⟨CB,hq⟩;rename_i h2;rw[BA h2] at h;have h3:=(JQ (JY (qi (Wl c.1 c.2)) _ _) h).2;have h4: ¬qV (Jm a p.toNat)<qV (ofN a.lo):=fun e=>h2 ((Iu _ _).2 e);have h5:=zq (K2 (Zz (ofN a.lo) (ofN a.hi))) p.toNat;have h6:=ki (Zz (ofN a.lo) (ofN a.hi));rw[KF,Zv,Zv] at h6;rw[Zv] at h4;unfold Jm at h4⊢;rw[h3];exact⟨by grind,by grind⟩;rename_i hh;rw[BA hh] at h;cases h
def bdV (n k:Nat)(v:Vl):Prop:=Qn v.m<=n/\ -(k:Int)<=v.e/\v.e<=k
theorem bdV.mono {n k n' k':Nat}{v:Vl}(h:bdV n k v)(h1:n<=n')(h2:k<=k'):bdV n' k' v:=⟨by have:=h.1;omega,by have:=h.2.1;omega,by have:=h.2.2;omega⟩
theorem Yn {x:Nm}(h:Qg x=true):bdV 4096 65536 (ofN x):=by have hb:=Xt h;have h1:=Wn x.w;exact⟨by show Qn (Qd x.w)<=_;unfold Zc at h1;have:=hb.1;omega,hb.2.1,hb.2.2⟩
theorem qo {neg:Bool}{m:Nat}{e:Int}{n k:Nat}(h1:Qn m<=n)(h2: -(k:Int)<=e)(h3:e<=k):bdV n (k+n) (QN neg m e):=by unfold QN;split;exact⟨by rw[VH];omega,by simp only;omega,by simp only;omega⟩;have ht:=ju m;have hl:=Wo (DB m (2^tz m));exact⟨by simp only;omega,by simp only;omega,by simp only;omega⟩
theorem yE {a b:Vl}{n k:Nat}(ha:bdV n k a)(hb:bdV n k b):bdV (n+2*k+1) (n+3*k+1) (Zz a b):=by
 unfold Zz;split;exact hb.mono oG oG;split;exact ha.mono oG oG;have h1:=H8 a.m (a.e-min a.e b.e).toNat;have h2:=H8 b.m (b.e-min a.e b.e).toNat;have h3:=qn (a.m*2^(a.e-min a.e b.e).toNat) (b.m*2^(b.e-min a.e b.e).toNat);obtain⟨a1,a2,a3⟩:=ha;obtain⟨b1,b2,b3⟩:=hb;have hk1:(a.e-min a.e b.e).toNat<=2*k:=oG;have hk2:(b.e-min a.e b.e).toNat<=2*k:=oG;have hm:(QK a*2^(a.e-min a.e b.e).toNat+QK b*2^(b.e-min a.e b.e).toNat).natAbs<=a.m*2^(a.e-min a.e b.e).toNat+b.m*2^(b.e-min a.e b.e).toNat:=by
  have e1: ∀(v:Vl) (j:Nat),(QK v*2^j).natAbs=v.m*2^j:=fun v j=>by rw[Int.natAbs_mul,Int.natAbs_pow];congr 1;unfold QK;cases v.neg<;>simp
  have:=Int.natAbs_add_le (QK a*2^(a.e-min a.e b.e).toNat) (QK b*2^(b.e-min a.e b.e).toNat);rw[e1,e1] at this;exact this
 have h4:=Wo hm;have:=qo (neg:=decide (QK a*2^(a.e-min a.e b.e).toNat+QK b*2^(b.e-min a.e b.e).toNat<0)) (m:=(QK a*2^(a.e-min a.e b.e).toNat+QK b*2^(b.e-min a.e b.e).toNat).natAbs) (e:=min a.e b.e) (n:=n+2*k+1) (k:=k) oG oG oG;exact this.mono oG oG
theorem y1z {a:Vl}{n k:Nat}(ha:bdV n k a):bdV n k (ZI a):=by unfold bdV;rw[G3,G4];exact ha
theorem U0f {a b:Vl}{n k:Nat}(ha:bdV n k a)(hb:bdV n k b):bdV (n+2*k+1) (n+3*k+1) (Jo a b):=yE ha (y1z hb)
theorem Q2a {a:Vl}{n k:Nat}(ha:bdV n k a):bdV n (k+1) (K2 a):=by unfold K2;split;exact ha.mono oG oG;exact⟨ha.1,by have:=ha.2.1;simp only;omega,by have:=ha.2.2;simp only;omega⟩
theorem yD {a:Vl}{n k:Nat}(ha:bdV n k a)(p:Nat)(up:Bool):bdV (n+1) (k+2*n+1) (QR a p up):=by
 unfold QR;split;exact ha.mono oG oG;have h1:=ha.1;have h2:=Wo (DB a.m (2^(Qn a.m-p)));have h3:Qn (a.m/2^(Qn a.m-p)+(if a.m % 2^(Qn a.m-p)≠0/\up≠a.neg then 1 else 0))<=n+1:=by have b1:Qn 1=1:=rfl;have h:=qn (a.m/2^(Qn a.m-p)) 1;split;by_cases hq:Qn (a.m/2^(Qn a.m-p))=0;have hn:0<Qn a.m:=(by rename_i hh _;omega);omega;omega;rw[B1];omega
 have:=qo (neg:=a.neg) (e:=a.e+((Qn a.m-p:Nat):Int)) (k:=k+n) h3 (by have:=ha.2.1;omega) (by have:=ha.2.2;omega);exact this.mono oG oG
theorem qp {v:Vl}{n k:Nat}(h:bdV n k v)(hn:n<=1000000000000):(Qs v.m).length<=1000000000000:=by have:=Wh v.m;have:=h.1;omega
theorem Q1n (k:Nat):qV (QN false k 0)=(k:Rat):=by rw[Vy,BA (by simp)];unfold qM;rw[kF];show((k:Int):Rat)*1=_;rw[Rat.mul_one];rfl
theorem H1r {a:Ivl}{x:Nm}(ha:Qr a=true)(hx:Qg x=true)(h:KO (qN x) a):Ja a x=true:=by unfold Ja;rw[ha,hx];simp only[FB,q_i,BN];exact⟨cmpN_le.2 h.1,cmpN_le.2 h.2⟩
theorem zU {v:Vl}{n k:Nat}(h:bdV n k v)(h1:n<=4096)(h2:k<=65536):(QI v).2=0:=by unfold QI;split;rfl;rw[BA];have hl:=HH v.m;have:=h.1;have:=h.2.1;have:=h.2.2;omega
def smN (x:Nm):Prop:=Qg x=true/\bdV 6 12 (ofN x)
def smI (a:Ivl):Prop:=Qr a=true/\bdV 6 12 (ofN a.lo)/\bdV 6 12 (ofN a.hi)
theorem xQ {n k:Nat} :bdV n k (ofN default):=by refine⟨?_,?_,?_⟩;show Qn 0<=n;rw[VH];omega;show -(k:Int)<=0;omega;show(0:Int)<=k;omega
theorem Eo {neg:Bool}{w:Lu}{e:Int}(hw:Qn (Qd w)<=6)(h1: -6<=e)(h2:e<=6):smN (XF neg w e).1:=by
 refine⟨Ny _ _ _,?_⟩;unfold XF;split;exact xQ;split;exact xQ;have hb:=qo (neg:=neg) (m:=Qd w) (e:=e) (n:=6) (k:=6) hw oG oG;have hf:=zU hb oG oG;have hc:QF (QN neg (Qd w) e):=by rename_i h0 _;exact YJ _ _ _
 rw[(JQ hc hf).1];exact hb
theorem vT {α:Type}(l:List α)(i j:Nat)(x d:α)(hj:j<l.length):(l.set i x).getD j d=if i=j then x else l.getD j d:=by simp only[q_a,List.getElem?_set];split;rename_i h;subst h;simp[hj];rfl
end Go.Pv
end
