/- Parts of the walk: PvZ, G1. -/
import Derived.Test.YtofoadghajnglaaGreatDoorRows
import Derived.Test.YtofoadghajnglaaGreatDoorZE
import Derived.ProofKit
import Derived.OpenShut
import Derived.JoinedCond
import Derived.ChangeSame
import Derived.Carry
set_option linter.unusedVariables false
set_option linter.unusedSimpArgs false
section
/-From the reading of arguments to pure values;from a law's contract to its statement. -/
namespace Go.Pv
open Go.Proofs Go.ChangeShapes Go.WideShapes Go.ChangeAt Go.RowKit
open Go.Proofs.YtofoadghajnglaaGreatDoor.Rows (uptoBulk uptoBulkAll)
def allG (w:World):Gh:=⟨0,fun _=>0,fun b=>match w.heap[b]? with | some (.cells c _ _)=>c.size | _=>0⟩
theorem V1z {w:World} {b o:Nat} {c:Value} (h:w.cell? ⟨b,o,none⟩=some c):o<(allG w).vis b:=by
 unfold World.cell? at h
 simp only [allG]
 split at h
 · rename_i c' t f hh
   simp only at hh
   rw [hh]
   simp at h
   exact(Array.getElem?_eq_some_iff.1 h).1
 · cases h
theorem v1h (w:World) (ht:TabOK w (allG w)):StoreOK w (allG w) []:=by
 refine⟨rfl,fun i j hi=>by simp [allG] at hi,fun i hi=>by simp [allG] at hi,fun i hi=>by simp [allG] at hi,fun i hi=>by simp [allG] at hi,fun b hb=> ?_,ht⟩
 simp only [allG]
 rw [Array.getElem?_eq_none hb]
theorem x2u {H:Type} (d:DataW H):1≤uptoBulk d:=by
 cases d with
 | lit l=>cases l<;>simp [uptoBulk]
 | nil=>simp [uptoBulk]
 | ptr d=>simp [uptoBulk]
 | slice elems spare=>simp [uptoBulk]
 | agg parts=>simp [uptoBulk]
 | iface t d=>simp [uptoBulk]
 | map entries=>simp [uptoBulk]
 | held h=>simp [uptoBulk]
theorem q0n {H:Type} {d:DataW H} {l:List (DataW H)} (h:d∈l):uptoBulk d≤uptoBulkAll l:=by
 induction l with
 | nil=>cases h
 | cons x r ih=>
  simp only [uptoBulkAll]
  cases List.mem_cons.1 h with
  | inl e=>subst e;omega
  | inr e=>have:=ih e;omega
theorem z1v {H:Type} (l:List (DataW H)):l.length≤uptoBulkAll l:=by
 induction l with
 | nil=>simp [uptoBulkAll]
 | cons x r ih=>have:=x2u x;simp only [uptoBulkAll,List.length_cons];omega
structure Ty (P:Program) (t:TypeId) (n:Nat) {α:Type} (enc:α→List PV) (ok:Nat→α→Prop):Prop where
 cells:P.cellsOf t=n
 len: ∀x,(enc x).length=n
 mono: ∀ {k k' x},ok k x→k≤k'→ok k' x
 rd: ∀ {H:Type} (tok:TypeId×Value→H) (w:World) (fuel:Nat) (cs:List Value) (x:DataW H×List MemPlace),
  DataW.trod tok P w 0 (fun _=>true) true fuel t cs=some x→ ∃y,cs.length=n∧(∀j,j<n→Rep w (allG w) (cs.getD j undef) ((enc y).getD j .junk))∧ok (uptoBulk x.1) y
section
variable {P:Program} {t e:TypeId}
theorem X1y {n:Nat} {α β:Type} {enc:α→List PV} {ok:Nat→α→Prop} (h:Ty P t n enc ok) (f:α→β) {enc':β→List PV} {ok':Nat→β→Prop} (he: ∀x,enc' (f x)=enc x) (hl: ∀x,(enc' x).length=n) (hok: ∀k x,ok k x→ok' k (f x)) (hm: ∀ {k k' x},ok' k x→k≤k'→ok' k' x):Ty P t n enc' ok':=
 ⟨h.cells,hl,hm,fun tok w fuel cs x hx=>by
  obtain⟨y,h1,h2,h3⟩:=h.rd tok w fuel cs x hx
  exact⟨f y,h1,by rw [he];exact h2,hok _ _ h3⟩⟩
theorem w2a (hu:P.underlying t=some .bool) (hc:P.cellsOf t=1):Ty P t 1 (fun b:Bool=> [.sc (.bool b)]) (fun _ _=>True):=
 ⟨hc,fun _=>rfl,fun _ _=>trivial,fun tok w fuel cs x hx=>by
  obtain⟨b,rfl,_⟩:=DataW.trod_bool hu hx
  exact⟨b,rfl,fun j hj=>by have:j=0:=by omega
                           subst this;exact .sc _,trivial⟩⟩
theorem V3b (hu:P.underlying t=some (.int .i64)) (hc:P.cellsOf t=1):Ty P t 1 (fun n:Int=> [.sc (.int .i64 n)]) (fun _ n=> -9223372036854775808≤n∧n≤9223372036854775807):=
 ⟨hc,fun _=>rfl,fun h _=>h,fun tok w fuel cs x hx=>by
  obtain⟨n,rfl,_,hw⟩:=DataW.trod_int hu hx
  refine⟨n,rfl,fun j hj=>by have:j=0:=by omega
                            subst this;exact .sc _,?_⟩
  simpa [Lit.wf,IntKind.min,IntKind.max,IntKind.signed,IntKind.bits] using hw⟩
theorem V3a (hu:P.underlying t=some (.int .u64)) (hc:P.cellsOf t=1):Ty P t 1 (fun c:UInt64=> [.sc (.int .u64 c.toNat)]) (fun _ _=>True):=
 ⟨hc,fun _=>rfl,fun _ _=>trivial,fun tok w fuel cs x hx=>by
  obtain⟨n,rfl,_,hw⟩:=DataW.trod_int hu hx
  have hr:0≤n∧n≤18446744073709551615:=by simpa [Lit.wf,IntKind.min,IntKind.max,IntKind.signed,IntKind.bits] using hw
  have e:n=((UInt64.ofNat n.toNat).toNat:Int):=by rw [UInt64.toNat_ofNat'];omega
  refine⟨UInt64.ofNat n.toNat,rfl,fun j hj=> ?_,trivial⟩
  have:j=0:=by omega
  subst this
  rw [←e];exact .sc _⟩
theorem G1n {w:World} {b:Addr} {n:Nat} {cs:List Value} (h:w.cells? 0 b n=some cs):cs.length=n∧ ∀j,j<n→w.cell? (b.add j)=some (cs.getD j undef):=by
 unfold World.cells? at h
 rw [if_pos (Nat.zero_le _)] at h
 have key: ∀(l:List Nat) (cs:List Value),(l.mapM fun i=>w.cell? (b.add i))=some cs→cs.length=l.length∧ ∀j,j<l.length→w.cell? (b.add (l.getD j 0))=some (cs.getD j undef):=by
  intro l
  induction l with
  | nil=>intro cs h;simp at h;subst h;exact⟨rfl,fun j hj=>by simp at hj⟩
  | cons i l ih=>
   intro cs h
   rw [List.mapM_cons] at h
   simp only [Option.bind_eq_bind,Option.bind_eq_some_iff] at h
   obtain⟨c,h1,cs',h2,h3⟩:=h
   cases h3
   obtain⟨a1,a2⟩:=ih cs' h2
   refine⟨by simp [a1],fun j hj=> ?_⟩
   cases j with
   | zero=>simpa using h1
   | succ j=>simpa using a2 j (by simpa using hj)
 obtain⟨h1,h2⟩:=key _ _ h
 simp at h1
 refine⟨h1,fun j hj=> ?_⟩
 have:=h2 j (by simpa using hj)
 simpa [List.getD_eq_getElem?_getD,hj] using this
theorem y0f {n:Nat} {α:Type} {enc:α→List PV} {ok:Nat→α→Prop} [Inhabited α] (hu:P.underlying t=some (.slice e)) (hc:P.cellsOf t=1) (he:Ty P e n enc ok) (hn:0<n) (elem:α→PV) (hel: ∀x,(elem x).cells=enc x):
 Ty P t 1 (fun l:List α=> [.sl .no (l.map elem)]) (fun k l=>l.length≤k∧ ∀i,i<l.length→ok k (l.getD i default)):=
 ⟨hc,fun _=>rfl,fun h hk=>⟨Nat.le_trans h.1 hk,fun i hi=>he.mono (h.2 i hi) hk⟩,fun tok w fuel cs x hx=>by
  rcases DataW.trod_slice hu hx with ⟨rfl,_⟩ | ⟨a,len,cap,elems,rest,m,_,rfl,hxe,_,hlc,_,hlen,hel1,hrest,_⟩
  · refine⟨[],rfl,fun j hj=> ?_,by simp,fun i hi=>by simp at hi⟩
    have:j=0:=by omega
    subst this
    exact .nil .no none rfl
  · rw [he.cells] at hel1 hrest
    have hel2: ∀i,i<len→ ∃(cs':List Value) (y:DataW _×List MemPlace) (v:α),elems[i]?=some y∧cs'.length=n∧(∀j,j<n→w.cell? ((a.add (i*n)).add j)=some (cs'.getD j undef))∧(∀j,j<n→Rep w (allG w) (cs'.getD j undef) ((enc v).getD j .junk))∧ok (uptoBulk y.1) v:=fun i hi=>by
     have h1:=hel1 i hi
     rw [List.getElem?_eq_getElem (by omega:i<elems.length)] at h1
     simp only [Option.bind_eq_some_iff] at h1
     obtain⟨cs',c1,c2⟩:=h1
     obtain⟨d1,d2⟩:=G1n c1
     obtain⟨v,v1,v2,v3⟩:=he.rd tok w m cs' _ c2
     exact⟨cs',_,v,List.getElem?_eq_getElem (by omega),d1,d2,v2,v3⟩
    have hpick: ∀i:Nat,∃p:List Value×α,i<len→ ∃y:DataW _×List MemPlace,elems[i]?=some y∧(∀j,j<n→w.cell? ((a.add (i*n)).add j)=some (p.1.getD j undef))∧(∀j,j<n→Rep w (allG w) (p.1.getD j undef) ((enc p.2).getD j .junk))∧ok (uptoBulk y.1) p.2:=fun i=>by
     by_cases hi:i<len
     · obtain⟨cs',y,v,h1,h2,h3,h4,h5⟩:=hel2 i hi
       exact⟨(cs',v),fun _=>⟨y,h1,h3,h4,h5⟩⟩
     · exact⟨([],default),fun h=>absurd h hi⟩
    obtain⟨pf,hpf⟩:=Classical.axiomOfChoice hpick
    have hbulk:uptoBulk x.1=uptoBulkAll (elems.map (·.1))+uptoBulkAll (rest.map (·.1))+1:=by rw [hxe];simp [uptoBulk]
    have hgl: ∀i,i<len→((List.range len).map fun i=>(pf i).2).getD i default=(pf i).2:=fun i hi=>by
     simp [List.getD_eq_getElem?_getD,hi]
    refine⟨(List.range len).map fun i=>(pf i).2,rfl,fun j hj=> ?_,?_,fun i hi=> ?_⟩
    · have:j=0:=by omega
      subst this
      show Rep w (allG w) (.slice (some a) len cap) (.sl .no _)
      by_cases h0:cap=0
      · have hl0:len=0:=by omega
        subst hl0
        subst h0
        exact .nil .no (some a) rfl
      · --the first cell lies there
        have hfirst: ∃c,w.cell? a=some c:=by
         by_cases hl0:len=0
         · have:=(hrest rfl).2 0 (by omega)
           have hr:=(hrest rfl).1
           rw [List.getElem?_eq_getElem (by omega:0<rest.length)] at this
           simp only [Option.bind_eq_some_iff] at this
           obtain⟨cs',c1,_⟩:=this
           have:=(G1n c1).2 0 hn
           have e0:(a.add ((len+0)*n)).add 0=a:=by subst hl0;simp [Addr.add]
           rw [e0] at this;exact⟨_,this⟩
         · obtain⟨y,_,h3,_⟩:=hpf 0 (by omega)
           have:=h3 0 hn
           have e0:(a.add (0*n)).add 0=a:=by simp [Addr.add]
           rw [e0] at this
           exact⟨_,this⟩
        obtain⟨c0,hc0⟩:=hfirst
        obtain⟨b,off,spot⟩:=a
        have hs:spot=none:=World.cell?_spot hc0
        subst hs
        have hlen2:((List.range len).map fun i=>elem (pf i).2).length=len:=by simp
        have hge: ∀i,i<len→(((List.range len).map fun i=>elem (pf i).2).getD i .junk)=elem (pf i).2:=fun i hi=>by
         simp [List.getD_eq_getElem?_getD,hi]
        have hmm:((List.range len).map fun i=>(pf i).2).map elem=(List.range len).map fun i=>elem (pf i).2:=by simp [List.map_map,Function.comp_def]
        rw [hmm]
        have hcell: ∀i j,i<len→j<n→w.cell? ⟨b,off+i*n+j,none⟩=some ((pf i).1.getD j undef):=fun i j hi hj=>by
         obtain⟨y,_,h3,_⟩:=hpf i hi
         have:=h3 j hj
         have e1:((⟨b,off,none⟩:Addr).add (i*n)).add j=⟨b,off+i*n+j,none⟩:=by rw [Addr.add_mid,Addr.add_mid]
         rw [e1] at this;exact this
        have:=Rep.sl (w:=w) (g:=allG w) .no ((List.range len).map fun i=>elem (pf i).2) b off n cap (fun i j=>(pf i).1.getD j undef) rfl (fun h=>by cases h) (by rw [hlen2];exact hlc)
         (fun i hi=>by rw [hlen2] at hi;rw [hge i hi,hel,he.len]) ?_ (fun i j hi hj=>by rw [hlen2] at hi;exact hcell i j hi hj) (fun i j hi hj=>by
          rw [hlen2] at hi;rw [hge i hi,hel]
          obtain⟨y,_,_,h4,_⟩:=hpf i hi
          exact h4 j hj)
        · rw [hlen2] at this;exact this
        · intro _
          rw [hlen2]
          by_cases hl0:len=0
          · subst hl0
            have:=V1z hc0
            omega
          · have:=V1z (hcell (len-1) (n-1) (by omega) (by omega))
            have e2:(len-1)*n+n=len*n:=by
             have:len=(len-1)+1:=by omega
             conv=>rhs;rw [this,Nat.add_mul,Nat.one_mul]
            omega
    · have:=z1v (elems.map (·.1))
      simp at this⊢
      omega
    · have hi':i<len:=by simpa using hi
      rw [hgl i hi']
      obtain⟨y,h1,_,_,h5⟩:=hpf i hi'
      refine he.mono h5 ?_
      have hm:y.1∈elems.map (·.1):=List.mem_map.2 ⟨y,List.mem_of_getElem? h1,rfl⟩
      have:=q0n hm
      omega⟩
def y0t (P:Program) (fl:List Field) (base n:Nat) {α:Type} (enc:α→List PV) (ok:Nat→α→Prop):Prop:=
 (∀x,(enc x).length=n)∧(∀ {k k' x},ok k x→k≤k'→ok k' x)∧
 ∀ {H:Type} (tok:TypeId×Value→H) (w:World) (fuel:Nat) (cs:List Value) (xs:List (DataW H×List MemPlace)),xs.length=fl.length→
  (∀(i:Nat) (f:Field),fl[i]?=some f→DataW.trod tok P w 0 (fun _=>true) true fuel f.type ((cs.drop f.offset).take (P.cellsOf f.type))=xs[i]?)→
  ∃y,(∀j,j<n→Rep w (allG w) (cs.getD (base+j) undef) ((enc y).getD j .junk))∧ok (uptoBulkAll (xs.map (·.1))) y
theorem J1v (base:Nat):y0t P [] base 0 (fun _:Unit=> []) (fun _ _=>True):=
 ⟨fun _=>rfl,fun _ _=>trivial,fun tok w fuel cs xs hl h=>⟨(),fun j hj=>by omega,trivial⟩⟩
theorem Y0y {f:Field} {fl:List Field} {base n1 n2:Nat} {α β:Type} {enc1:α→List PV} {ok1:Nat→α→Prop} {enc2:β→List PV} {ok2:Nat→β→Prop} (h1:Ty P f.type n1 enc1 ok1) (ho:f.offset=base) (h2:y0t P fl (base+n1) n2 enc2 ok2):
 y0t P (f::fl) base (n1+n2) (fun p:α×β=>enc1 p.1++enc2 p.2) (fun k p=>ok1 k p.1∧ok2 k p.2):=by
 obtain⟨a1,a2,a3⟩:=h2
 refine⟨fun x=>by simp [h1.len,a1],fun h hk=>⟨h1.mono h.1 hk,a2 h.2 hk⟩,fun tok w fuel cs xs hl h=> ?_⟩
 match xs,hl,h with
 | x0::xs,hl,h=>
  have h0:=h 0 f rfl
  simp only [List.getElem?_cons_zero] at h0
  rw [ho,h1.cells] at h0
  obtain⟨y1,l1,r1,o1⟩:=h1.rd tok w fuel _ _ h0
  obtain⟨y2,r2,o2⟩:=a3 tok w fuel cs xs (by simpa using hl) (fun i f' hf=>by have:=h (i+1) f' (by simpa using hf);simpa using this)
  refine⟨(y1,y2),fun j hj=> ?_,h1.mono o1 (by simp only [List.map_cons,uptoBulkAll];omega),a2 o2 (by simp only [List.map_cons,uptoBulkAll];omega)⟩
  have hlen1:=h1.len y1
  by_cases hj1:j<n1
  · have e1:((cs.drop base).take n1).getD j undef=cs.getD (base+j) undef:=by
     simp only [List.getD_eq_getElem?_getD,List.getElem?_take,hj1,if_true,List.getElem?_drop]
    have:=r1 j hj1
    rw [e1] at this
    show Rep w (allG w) (cs.getD (base+j) undef) ((enc1 y1++enc2 y2).getD j .junk)
    have e2:(enc1 y1++enc2 y2).getD j .junk=(enc1 y1).getD j .junk:=by
     rw [List.getD_eq_getElem?_getD,List.getElem?_append_left (by omega),←List.getD_eq_getElem?_getD]
    rw [e2];exact this
  · have:=r2 (j-n1) (by omega)
    rw [show base+n1+(j-n1)=base+j from by omega] at this
    show Rep w (allG w) (cs.getD (base+j) undef) ((enc1 y1++enc2 y2).getD j .junk)
    have e2:(enc1 y1++enc2 y2).getD j .junk=(enc2 y2).getD (j-n1) .junk:=by
     rw [List.getD_eq_getElem?_getD,List.getElem?_append_right (by omega),←List.getD_eq_getElem?_getD,hlen1]
    rw [e2];exact this
theorem W1o {fs:Array Field} {n:Nat} {α:Type} {enc:α→List PV} {ok:Nat→α→Prop} (hu:P.underlying t=some (.struct fs)) (hc:P.cellsOf t=n) (hf:y0t P fs.toList 0 n enc ok):Ty P t n enc ok:=by
 obtain⟨a1,a2,a3⟩:=hf
 refine⟨hc,a1,a2,fun tok w fuel cs x hx=> ?_⟩
 obtain⟨xs,m,_,hxe,hl,hlen,hfs⟩:=DataW.trod_struct hu hx
 obtain⟨y,r,o⟩:=a3 tok w m cs xs (by simpa using hlen) (fun i f hf=>hfs i f (by simpa using hf))
 refine⟨y,by rw [hl,hc],fun j hj=>by have:=r j hj;rwa [Nat.zero_add] at this,a2 o ?_⟩
 rw [hxe];simp [uptoBulk]
end
theorem j0j {H:Type} {enc:TypeId×Value→H} {P:Program} (hl:laidOutB P=true) {W W':World} (hb:Below W.heap.size W W') {sp:Nat→Bool} :
 ∀ {ts:List TypeId} {vs:List Value} {ds:List (DataW H)} {ps:List MemPlace},(∀t∈ts,P.readableRec t=true∧t<P.types.size)→DataW.TrodAll enc P W 0 (fun _=>true) true ts vs ds ps→
  (∀p∈ps,p.block<W.heap.size)→(∀p∈ps,sp p.block=true)→DataW.TrodAll enc P W' 0 sp true ts vs ds ps
 | [],_,_,_,hr,h,h1,h2=>by obtain⟨rfl,rfl,rfl⟩:=trodAll_nil h;exact trodAll_mk0
 | t::ts,_,_,_,hr,h,h1,h2=>by
  obtain⟨v,vs,d,ds,p,q,rfl,rfl,rfl,hd,hrest⟩:=trodAll_cons h
  refine⟨p,q,WideElems.Trod_stays hl (hr t List.mem_cons_self).1 (hr t List.mem_cons_self).2 hd (fun x hx=>hb.same (h1 x (List.mem_append_left _ hx))) (fun x hx=>h2 x (List.mem_append_left _ hx)),
   j0j hl hb (fun t ht=>hr t (List.mem_cons_of_mem _ ht)) hrest (fun x hx=>h1 x (List.mem_append_right _ hx)) (fun x hx=>h2 x (List.mem_append_right _ hx)),rfl⟩
theorem w1e {H:Type} {enc:TypeId×Value→H} {P:Program} {f:Func} {s:ChangeSpec} {apart fresh handsOn again:Bool} {W W':World} {args:Array Value} {ds gs:List (DataW H)} {before:List MemPlace} {tb:TypeId}
 (hl:laidOutB P=true) (hr: ∀t∈f.params.toList,P.readableRec t=true∧t<P.types.size) (hs:s.vars= [])
 (hW:DataW.Whole enc P f.params.toList s.vars apart W args.toList ds gs before) (hfn:s.fn H (ds++gs)= { results:= [.lit (.bool true)],args:=ds }) (hb:Below W.heap.size W W')
 (hres:f.resultTypes= #[tb]) (ht:P.underlying tb=some .bool):s.post enc P f apart fresh handsOn again W args (.bool true) W':=by
 have hlt: ∀p∈before,p.block<W.heap.size:=fun p hp=>hW.lt p hp
 have hW':=hW
 obtain⟨p,q,hA,hV,hpq,hz,hn⟩:=hW
 rw [hs] at hV
 obtain⟨rfl,rfl⟩:=trodVars_none hV
 rw [List.append_nil] at hpq
 subst hpq
 have hargs: ∀sp:Nat→Bool,(∀x∈before,sp x.block=true)→DataW.TrodAll enc P W' 0 sp true f.params.toList args.toList (s.fn H (ds++ [])).args before:=fun sp hsp=>by
  rw [hfn];exact j0j hl hb hr hA hlt hsp
 have hresT: ∀(b:Nat) (sp:Nat→Bool) (hd:Bool),DataW.TrodAll enc P W' b sp hd f.resultTypes.toList ((Value.bool true).resultList f.resultTypes.size) (s.fn H (ds++ [])).results []:=fun b sp hd=>by
  rw [hfn,hres];exact trodAll_mk1 (shut_bool ht _)
 have hvars: ∀sp:Nat→Bool,DataW.TrodVars enc P W' sp s.vars (s.fn H (ds++ [])).vars []:=fun sp=>by rw [hfn,hs];exact rfl
 refine⟨ds,[],before,[],before,[],hW',hresT _ _ _,hargs _ (fun x hx=>by simpa using hlt x hx),hvars _,World.keptBut_mono (fun x hx=>⟨hx,.inr (.inl hx)⟩) (hb.frame _),fun _=> ?_⟩
 refine⟨ok_one hres rfl (okWide_bool_mk ht _),_,_,([]++before)++ [],⟨[]++before,[],trodAll_append (hargs _ (fun _ _=>rfl)) (hresT _ _ _),hvars _,rfl,?_,?_⟩,?_⟩
 · intro b off hp
   have hp':MemPlace.cell b off∈before:=by simpa using hp
   rw [hb.frozen (p:=⟨b,off,none⟩) (hlt _ hp')]
   exact hz b off hp'
 · intro ha
   simpa using hn ha
 · intro x hx _
   simpa using hx
end Go.Pv
end
section
/-The types of the arguments:numbers,intervals,pieces. -/
namespace Go.Pv
open Go.Proofs
def i64R (n:Int):Prop:= -9223372036854775808≤n∧n≤9223372036854775807
def okN (k:Nat) (x:Nm):Prop:=i64R x.exp∧x.w.length≤k
def okI (k:Nat) (x:Ivl):Prop:=okN k x.lo∧okN k x.hi
def okL {α:Type} [Inhabited α] (ok:Nat→α→Prop) (k:Nat) (l:List α):Prop:=l.length≤k∧ ∀i,i<l.length→ok k (l.getD i default)
theorem V1k {k k':Nat} {x:Nm} (h:okN k x) (hk:k≤k'):okN k' x:=⟨h.1,Nat.le_trans h.2 hk⟩
theorem j1c {k k':Nat} {x:Ivl} (h:okI k x) (hk:k≤k'):okI k' x:=⟨V1k h.1 hk,V1k h.2 hk⟩
theorem U1d {k k':Nat} {l:List Ivl} (h:okL okI k l) (hk:k≤k'):okL okI k' l:=⟨Nat.le_trans h.1 hk,fun i hi=>j1c (h.2 i hi) hk⟩
theorem Q2q :Ty Tryz.prog 26 1 (fun l:List UInt64=> [.sl .no (encW l)]) (fun k l=>l.length≤k):=
 X1y (y0f Tryz.underlying26 (by kernel_rfl) (V3a Tryz.underlying60 (by kernel_rfl)) (by decide) (fun c=> .sc (.int .u64 c.toNat)) (fun _=>rfl)) id (fun _=>rfl) (fun _=>rfl) (fun _ _ h=>h.1) (fun h hk=>Nat.le_trans h hk)
theorem V3c :Ty Tryz.prog 33 3 encN okN:=
 X1y (W1o Tryz.underlying33 (by kernel_rfl) (Y0y (w2a Tryz.underlying4 (by kernel_rfl)) rfl (Y0y (V3b Tryz.underlying2 (by kernel_rfl)) rfl (Y0y Q2q rfl (J1v _)))))
  (fun p=>(⟨p.1,p.2.1,p.2.2.1⟩:Nm)) (fun _=>rfl) (fun _=>rfl) (fun k x h=>(⟨h.2.1,h.2.2.1⟩:okN k ⟨x.1,x.2.1,x.2.2.1⟩)) V1k
theorem tyIv :Ty Tryz.prog 52 6 encI okI:=
 X1y (W1o Tryz.underlying52 (by kernel_rfl) (Y0y V3c rfl (Y0y V3c rfl (J1v _))))
  (fun p=>(⟨p.1,p.2.1⟩:Ivl)) (fun _=>rfl) (fun _=>rfl) (fun k x h=>(⟨h.1,h.2.1⟩:okI k ⟨x.1,x.2.1⟩)) j1c
theorem k3m :Ty Tryz.prog 47 1 (fun l:List Ivl=> [.sl .no (Q0s l)]) (okL okI):=
 X1y (y0f Tryz.underlying47 (by kernel_rfl) tyIv (by decide) (fun c=> .agg (encI c)) (fun _=>rfl)) id (fun _=>rfl) (fun _=>rfl) (fun _ _ h=>h) (fun h hk=>U1d h hk)
theorem K3o {k:Nat} (hk:k≤2000000) {x:Nm} (h:okN k x):wN x:=by have:=h.2;unfold wN;omega
theorem K3q {k:Nat} (hk:k≤2000000) {x:Ivl} (h:okI k x):wI x:=⟨K3o hk h.1,K3o hk h.2⟩
theorem k3b {k:Nat} (hk:k≤2000000) {l:List Ivl} (h:okL okI k l):wB l:=⟨by have:=h.1;omega,fun i hi=>K3q hk (h.2 i hi)⟩
theorem y1t {H:Type} {l:List (DataW H)} (hk:Go.Proofs.YtofoadghajnglaaGreatDoor.Rows.uptoSmall H l=true):Go.Proofs.YtofoadghajnglaaGreatDoor.Rows.uptoBulkAll l≤1048576:=by
 simpa [Go.Proofs.YtofoadghajnglaaGreatDoor.Rows.uptoSmall] using hk
end Go.Pv
end
