/- Parts of the walk: PvBc, PvBd, PvBe. -/
import Derived.Test.YthlnpmkcmbohaaaGreatDoorZBR
set_option linter.unusedVariables false
set_option linter.unusedSimpArgs false
section
namespace Go.Pv
theorem FSRep.store_new {E:Ent}{a:Act}{w:World}{g:Gh}{F:Fr}{s:PFS}(h:FSRep E a w g F s)(ty:TypeId)(vs:Array Value)(X:List PV)(hl:X.length<=vs.size)
 (hr: ∀j,j<X.length->Rep w g (vs.getD j undef) (X.getD j .junk)):
 ∃g',FSRep E a (w.alloc (.cells vs ty)) g' F { s with st:=s.st++ [X] } /\g'.mu s.st.length=w.heap.size/\s.st.length<g'.n:=by
 obtain⟨k,hz⟩:=G5 w g (.cells vs ty) 0 h.store.none;obtain⟨h1,hm1⟩:=h.still k rfl hz
 let g1:Gh:= { g with vis:=fun b=>if b=w.heap.size then 0 else g.vis b }
 let g':Gh:= { g1 with n:=g.n+1,mu:=fun k=>if k=g.n then w.heap.size else g.mu k }
 have hmu: ∀k,k<g.n->g'.mu k=g.mu k:=fun k hk=>BA oG;have hmun:g'.mu g.n=w.heap.size:=BC rfl;have hLe:Le (w.alloc (.cells vs ty)) g1 (w.alloc (.cells vs ty)) g':=⟨Nat.le_succ _,hmu,fun _=>BD _,fun _ _ _ _ hc=>hc⟩;have htok:GC (w.alloc (.cells vs ty)) g1 F s.T (w.alloc (.cells vs ty)) g' F s.T:=⟨BD _,fun k hk=>⟨BD _,fun _ v es hR=>hR.mono fun b hb=>⟨rfl,rfl⟩⟩⟩;have hm: ∀v p,RepF (w.alloc (.cells vs ty)) g1 F s.T v p->RepF (w.alloc (.cells vs ty)) g' F s.T v p:=fun v p hr=>hr.mono hLe (BD _) (fun _ _=>rfl) htok;have en:s.st.length=g.n:=h.store.n.symm;have hst0: ∀j,j<g.n->(s.st++ [X]).getD j []=s.st.getD j []:=fun j hj=>(by rw[q_a,B6 oG,<-q_a]);have hst1:(s.st++ [X]).getD g.n []=X:=(by rw[q_a,CA oG,<-en];simp);have hsz:(w.alloc (.cells vs ty)).heap.size=w.heap.size+1:=(by simp);have hlt: ∀j,j<g.n->g.mu j<w.heap.size:=fun j hj=>h.store.lt j hj;have hst:StoreOK (w.alloc (.cells vs ty)) g' (s.st++ [X]):=(by refine⟨by simp[g',h.store.n],fun j k hj hk e=> ?_,fun j hj=> ?_,fun j hj hj0=> ?_,fun j hj=> ?_,hz,h1.store.tab⟩;have hj:j<g.n+1:=hj;have hk:k<g.n+1:=hk;by_cases e1:j=g.n;by_cases e2:k=g.n;omega;rw[e1,hmun,hmu k oG] at e;have:=hlt k oG;omega;by_cases e2:k=g.n;rw[e2,hmun,hmu j oG] at e;have:=hlt j oG;omega;rw[hmu j oG,hmu k oG] at e;exact h.store.inj j k oG oG e;have hj:j<g.n+1:=hj;by_cases e1:j=g.n;rw[e1,hmun,hsz];omega;rw[hmu j oG,hsz];have:=hlt j oG;omega;have hj:j<g.n+1:=hj;by_cases e1:j=g.n;rw[e1,hmun];exact BC rfl;rw[hmu j oG];rw[hst0 j oG] at hj0;exact h1.store.vis j (show j<g.n by omega) hj0;have hj:j<g.n+1:=hj;by_cases e1:j=g.n;subst e1;rw[hmun,hst1];intro k2 hk2;refine⟨World.frozen?_alloc_new w vs ty k2,vs.getD k2 undef,?_,?_⟩;rw[World.cell?_alloc_new,q_f,CW oG];rfl;exact((hr k2 hk2).mono k.le).mono hLe;rw[hmu j oG,hst0 j oG];exact(h1.store.holds j (show j<g.n by omega)).mono rfl fun v p hr=>hr.mono hLe);have hext:Ext E.w E.g (w.alloc (.cells vs ty)) g':=(by refine⟨h1.ext.le.trans hLe,h1.ext.os,h1.ext.tape,h1.ext.output,h1.ext.size,h1.ext.old,fun j q1 q2=> ?_⟩;have q2:j<g.n+1:=q2;by_cases e1:j=g.n;rw[e1,hmun];exact h.ext.size;rw[hmu j oG];exact h.ext.new j q1 oG);refine⟨g',⟨hext,hst,⟨h.frame.nl,fun k hk=>h1.frame.lo k hk,fun k hk j hj=> ?_,fun k j hk hj=>h.frame.inj k j hk hj,fun k hk=>(h1.frame.holds k hk).mono rfl hm,h1.frame.tlo,fun k b hk hb=>⟨fun j hj=> ?_,fun j hj=>(h.frame.tapart k b hk hb).2 j hj⟩,h.frame.tinj⟩,h.defers,h.len,fun t ht=>hm _ _ (h1.tmps t ht)⟩,by rw[en];exact hmun,by rw[en];exact Nat.lt_succ_self _⟩;have hj:j<g.n+1:=hj;by_cases e1:j=g.n;rw[e1,hmun];have:=(h.frame.lo k hk).2.1;omega;rw[hmu j oG];exact h.frame.apart k hk j oG;have hj:j<g.n+1:=hj;by_cases e1:j=g.n;rw[e1,hmun];have:=(h.frame.tlo k b hk hb).2.1;omega;rw[hmu j oG];exact(h.frame.tapart k b hk hb).1 j oG
def GrowOK (cs:List PV)(len cap:Nat)(ys:List PV)(e:EI):Prop:=
 e.zok=true/\0<e.sz/\cs.length=cap*e.sz/\len+ys.length<=1152921504606846976/\(len+ys.length)*e.by_<=140737488355328/\
  ys.all (fun x=>(x.cells.length==e.sz)&&x.cells.all PV.cellOK)=true/\0<ys.length
def GrowTo (st:Qf)(j len cap:Nat)(ys:List PV)(sz j' cap':Nat)(st':Qf):Prop:=
 (len+ys.length<=cap/\j'=j/\cap'=cap/\st'=st.set j (Zx (st.getD j []) (len*sz) (flat ys)))\/
 (cap<len+ys.length/\len+ys.length<=cap'/\j'=st.length/\ ∃R,R.length=(cap'-(len+ys.length))*sz/\st'=st++ [(st.getD j []).take (len*sz)++(flat ys++R)])
section
variable {P:Program} {E:Ent} {a:Act} {w:World} {g:Gh} {F:Fr} {s:PFS} {t tx e':TypeId} {e:EI}
theorem J0y (hu:P.underlying t=some (.slice e.id))(hei:ei P e.id=some e)(hu2:P.underlying tx=some (.slice e')){ys cs:List PV}{x:Value}{ty:TypeId}{len cap:Nat}{base:Option Addr}{olds:List Value}
 (h:FSRep E a w g F s) (hx:Rep w g x (.sl .no ys)) (c1:e.zok=true) (c2:len+ys.length<=1152921504606846976) (c3:(len+ys.length)*e.by_<=140737488355328)
 (c5:ys.all (fun x=>(x.cells.length==e.sz)&&x.cells.all PV.cellOK)=true) (hcap:cap<len+ys.length) (hol:olds.length=len*e.sz) (hcl:len*e.sz<=cs.length)
 (hold:(Builtin.firstCells e.sz len (.slice base len cap)).run P w.drew= .ok olds.toArray w.drew) (hr: ∀m,m<len*e.sz->Rep w g (olds.getD m undef) (cs.getD m .junk)):
 ∃cap' R,len+ys.length<=cap'/\R.length=(cap'-(len+ys.length))*e.sz/\
  zi P E a w (do pure (.value (<-Builtin.append_ #[t,tx] ty #[.slice base len cap,x]))) (.gr s.st.length (len+ys.length) cap') { s with st:=s.st++ [cs.take (len*e.sz)++(flat ys++R)] } :=by
 obtain⟨news,hs⟩:=Wn (P:=P) hu2 hx c5;obtain⟨ti,u,hi,hu',he⟩:=Jf hei;have e1:ti.size=e.sz:=(by rw[he]);have e2:ti.bytes=e.by_:=(by rw[he]);obtain⟨z,hz,hzs⟩: ∃z,ti.zero=some z/\z.cells.size=ti.size:=by have:=B4 EI.zok he;rw[c1] at this;simp only at this;split at this;rename_i z hz;exact⟨z,hz,by simpa using this.symm⟩;cases this
 have hfl:=Z5 hs.each;have hnl:news.length=ys.length*e.sz:=hs.src.newsLen;have hs0:=hs;rw[<-e1] at hs hold;have hrun:=run_append_grow_src (P:=P) w t tx ty e.id ti z hu hi hz base len cap olds hold x ys.length news hs.src hcap oG (growslice_fits hcap (by rw[e2];exact c3));generalize hvs:(olds++news).toArray++Builtin.zeroCells z.cells (grownCap w (len+ys.length) cap e.id-(len+ys.length))=vs at hrun;have hge:=grownCap_ge w (len+ys.length) cap e.id;generalize grownCap w (len+ys.length) cap e.id=C at*
 obtain⟨d1,d2⟩:=h.drew;have dle:=(Il w g).le;have hvsz:vs.size=C*e.sz:=by rw[<-hvs,Array.size_append,size_zeroCells,hzs,e1];simp only[E2,BH,hol,hnl,<-BQ];congr 1;omega
 let R:=List.replicate ((C-(len+ys.length))*e.sz) PV.junk
 have hlenX:(cs.take (len*e.sz)).length=len*e.sz:=by rw[BX];omega
 have hX:(cs.take (len*e.sz)++(flat ys++R)).length=C*e.sz:=by rw[BH,BH,hlenX,hfl,ES,<-BQ,<-BQ];congr 1;omega
 obtain⟨g',f1,f2,f3⟩:=d1.store_new e.id vs (cs.take (len*e.sz)++(flat ys++R)) oG (fun m hm=>by by_cases h1:m<len*e.sz;have hlo:m<(olds++news).toArray.size:=(by simp only[E2,BH,hol];omega);rw[<-hvs,Array.getD_append_left' _ _ _ _ hlo,Z0,Qk _ _ _ _ oG,Qk _ _ _ _ oG,JX _ _ _ _ h1];exact(hr m h1).mono dle;rw[Ql _ _ _ _ oG,hlenX];by_cases h2:m-len*e.sz<(flat ys).length;have h3:m-len*e.sz<ys.length*e.sz:=oG;have hlo:m<(olds++news).toArray.size:=(by simp only[E2,BH,hol];omega);rw[<-hvs,Array.getD_append_left' _ _ _ _ hlo,Z0,Ql _ _ _ _ oG,hol,Qk _ _ _ _ h2,XT hs0.each _ h3];exact(hs0.rep _ h3).mono dle;rw[Ql _ _ _ _ oG,K6];exact .junk _);refine⟨C,R,hge,by simp[R],_,_,g',F,by simp only[Sem.run_bind,hrun,Result.andThen_ok,Sem.run_pure];rfl,f1,.inl ⟨_,rfl,?_⟩⟩;have:=Rep.gr (w:=w.drew.alloc (.cells vs e.id)) (g:=g') s.st.length (len+ys.length) C f3 hge;rw[f2] at this;exact .base _ _ this
theorem v0w (hu:P.underlying t=some (.slice e.id))(hei:ei P e.id=some e)(hu2:P.underlying tx=some (.slice e')){ys:List PV}{v x:Value}{ty:TypeId}{j len cap:Nat}
 (h:FSRep E a w g F s) (hv:RepF w g F s.T v (.gr j len cap)) (hx:Rep w g x (.sl .no ys)) (hok:GrowOK (s.st.getD j []) len cap ys e):
 ∃j' cap' st',GrowTo s.st j len cap ys e.sz j' cap' st'/\zi P E a w (do pure (.value (<-Builtin.append_ #[t,tx] ty #[v,x]))) (.gr j' (len+ys.length) cap') { s with st:=st' } :=by
 obtain⟨c1,c0,cl,c2,c3,c5,c6⟩:=hok;obtain⟨news,hs⟩:=Wn (P:=P) hu2 hx c5;obtain⟨ti,u,hi,hu',he⟩:=Jf hei;have e1:ti.size=e.sz:=(by rw[he]);have hfl:=Z5 hs.each;have hnl:news.length=ys.length*e.sz:=hs.src.newsLen;have hs0:=hs;rw[<-e1] at hs;obtain⟨hjn,hle,rfl⟩:j<g.n/\len<=cap/\v= .slice (some ⟨g.mu j,0,none⟩) len cap:=by
  cases hv with
  | base _ _ h=>cases h with | gr i len cap hi hcap=>exact⟨hi,hcap,rfl⟩
 have hh:=h.store.holds j hjn;by_cases hroom:len+ys.length<=cap;have hne:s.st.getD j []≠ []:=fun e0=>by rw[e0] at cl;have:=Nat.mul_pos (show 0<cap by omega) c0;simp at cl;omega
 have hfit:len*e.sz+(flat ys).length<=(s.st.getD j []).length:=by rw[hfl,cl,<-BQ];exact BG _ hroom
 have hrun:=run_append_room_src (P:=P) w t tx ty e.id ti hu hi (g.mu j) 0 len cap x ys.length news hs.src hroom (fun k hk=>by obtain⟨_,c,q2,_⟩:=hh (0+len*ti.size+k) (by rw[e1];omega);rw[q2];rfl) (fun k hk=>(hh (0+len*ti.size+k) (by rw[e1];omega)).1);rw[e1,CU] at hrun;have f1:=h.storeG h.ext.le.n j (len*e.sz) news (flat ys) (by rw[hnl,hfl]) hjn hne hfit (fun k hk=>by have hk':k<ys.length*e.sz:=oG;rw[XT hs0.each k hk'];exact hs0.rep k hk');exact⟨j,cap,_,.inl ⟨hroom,rfl,rfl,rfl⟩,_,_,g,F,by simp only[Sem.run_bind,hrun,Result.andThen_ok,Sem.run_pure],f1,.inl ⟨_,rfl,.base _ _ (.gr j _ cap hjn hroom)⟩⟩;obtain⟨cf,hcf⟩:=hh.pick;have hle2:len*e.sz<=(s.st.getD j []).length:=(by rw[cl];exact BG _ hle);obtain⟨cap',R,q1,q2,q3⟩:=J0y (ty:=ty) (cs:=s.st.getD j []) (base:=some ⟨g.mu j,0,none⟩) (olds:=(List.range (len*e.sz)).map cf) hu hei hu2 h hx c1 c2 c3 c5 oG (by simp) hle2
  (run_firstCells_some w.drew e.sz len ⟨g.mu j,0,none⟩ len cap _ (by simp) (fun k u hk=>by
   rw[Addr.add_mid,World.cell?_drew,CU];have hk':k<len*e.sz:=by have:=(FB.1 hk).1;simpa using this
   rw[(hcf k oG).1];simp[EE hk'] at hk;rw[hk]))
  (fun m hm=>by have e0:((List.range (len*e.sz)).map cf).getD m undef=cf m:=(by simp[q_a,hm]);rw[e0];exact(hcf m oG).2)
 exact⟨s.st.length,cap',_,.inr ⟨oG,q1,rfl,R,q2,rfl⟩,q3⟩
theorem U0c (hu:P.underlying t=some (.slice e.id))(hei:ei P e.id=some e)(hu2:P.underlying tx=some (.slice e')){es ys:List PV}{v x:Value}{ty:TypeId}
 (h:FSRep E a w g F s) (hv:RepF w g F s.T v (.sl .full es)) (hx:Rep w g x (.sl .no ys)) (hok:GrowOK (flat es) es.length es.length ys e):
 ∃cap' R,es.length+ys.length<=cap'/\R.length=(cap'-(es.length+ys.length))*e.sz/\zi P E a w (do pure (.value (<-Builtin.append_ #[t,tx] ty #[v,x]))) (.gr s.st.length (es.length+ys.length) cap') { s with st:=s.st++ [flat es++(flat ys++R)] } :=by
 obtain⟨c1,c0,cl,c2,c3,c5,c6⟩:=hok;have fin: ∀(base:Option Addr) (olds:List Value),v= .slice base es.length es.length->olds.length=es.length*e.sz->(Builtin.firstCells e.sz es.length (.slice base es.length es.length)).run P w.drew= .ok olds.toArray w.drew->
  (∀m,m<es.length*e.sz->Rep w g (olds.getD m undef) ((flat es).getD m .junk))-> ∃cap' R,es.length+ys.length<=cap'/\R.length=(cap'-(es.length+ys.length))*e.sz/\zi P E a w (do pure (.value (<-Builtin.append_ #[t,tx] ty #[v,x]))) (.gr s.st.length (es.length+ys.length) cap') { s with st:=s.st++ [flat es++(flat ys++R)] } :=fun base olds hv1 h1 h2 h3=>by
  subst hv1;have:=J0y (ty:=ty) (cs:=flat es) (base:=base) (len:=es.length) (cap:=es.length) (olds:=olds) hu hei hu2 h hx c1 c2 c3 c5 oG h1 oG h2 h3;rwa [BF oG] at this
 rcases Nat.eq_zero_or_pos es.length with h0 | h0;have he:es= []:=BY h0;subst he;obtain⟨ad,rfl⟩:=J0z hv;exact fin ad [] rfl (by simp) (by cases ad with
  | none=>exact run_firstCells_none _ _ _ _ _
  | some a=>simp[Builtin.firstCells,loadCells,loadCellsFrom]) fun m hm=>by simp at hm
 have h':Rep w g v (.sl .full es):=by cases hv with | base _ _ h=>exact h
 cases h' with
 | nil t ad ht=>simp at h0
 | sl _ _ b off sz cap cf ht hf hcap hsz hvis hc hr=>
  have e0:=hf rfl;subst e0;have hfl:=Z5 hsz;have es0:sz=e.sz:=Nat.eq_of_mul_eq_mul_left h0 (by rw[<-hfl,cl]);subst es0;refine fin (some ⟨b,off,none⟩) ((List.range (es.length*e.sz)).map fun m=>cf (m/e.sz) (m % e.sz)) rfl (by simp) (run_firstCells_some w.drew e.sz es.length ⟨b,off,none⟩ es.length es.length _ (by simp) (fun k u hk=> ?_)) (fun m hm=> ?_);rw[Addr.add_mid,World.cell?_drew];have hk':k<es.length*e.sz:=by have:=(FB.1 hk).1;simpa using this
  have q1:=DE (show k<e.sz*es.length by rw[BM];exact hk');have q2:=hc (k/e.sz) (k % e.sz) q1 (CG _ c0);have q3:=D7 k e.sz;rw[BM] at q3;rw[show off+k/e.sz*e.sz+k % e.sz=off+k by omega] at q2;rw[q2];simp[EE hk'] at hk;rw[hk];have q1:=DE (show m<e.sz*es.length by rw[BM];exact hm);have q0:((List.range (es.length*e.sz)).map fun m=>cf (m/e.sz) (m % e.sz)).getD m undef=cf (m/e.sz) (m % e.sz):=(by simp[q_a,hm]);rw[q0,XT hsz m hm];exact hr _ _ q1 (CG _ c0)
end
def X1e (P:Program)(T:Option TI)(x y:PV)(s:PFS)(K:PV->PFS->Prop):Prop:=
 match T,x,y with
 | some ⟨_,_,.slice e,_⟩,.sc (.int .i64 n),.sc (.int .i64 c)=>
  match ti P e.id with
  | some ⟨_,_,_,some (.slice none 0 0)⟩=>(0<=n/\n=c/\n.toNat*e.by_<=140737488355328/\n<=9223372036854775807/\e.sz=1)/\K (.ms true s.st.length 0 n.toNat) { s with st:=s.st++ [List.replicate n.toNat (.sl .full [])] }
  | _=>False
 | _,_,_=>False
theorem X1d {P:Program}{E:Ent}{a:Act}{w:World}{g:Gh}{F:Fr}{s:PFS}{t:TypeId}{x y:PV}{v u:Value}{K:PV->PFS->Prop}(h:FSRep E a w g F s)(hq:X1e P (ti P t) x y s K)(hx:RepF w g F s.T v x)(hy:RepF w g F s.T u y):
 ∃p s',K p s'/\zi P E a w (do pure (.value (<-Instr.makeSlice t v u))) p s':=by
 unfold X1e at hq;split at hq;rotate_left;exact hq.elim;rename_i e _ n c hT;obtain⟨_,_,_,hu,hT'⟩:=Q7 hT;obtain⟨rfl,hei⟩:=QV (B4 TI.ud hT').symm;split at hq;rotate_left;exact hq.elim;rename_i T3 hTe;obtain⟨⟨c1,rfl,c3,c4,c6⟩,hk⟩:=hq;have:=hx.sc_inv;subst this;have:=hy.sc_inv;subst this;obtain⟨i,u2,hi,hu2,he⟩:=Jf hei;have e1:i.size=1:=(by rw[<-c6,he]);have e2:i.bytes=e.by_:=(by rw[he]);have hzi:i.zero=some (.slice none 0 0):=by obtain⟨i',_,hi',_,hT2⟩:=Q7 hTe;rw[hi] at hi';cases hi';exact(B4 TI.zero hT2).symm
 have hby:(i.bytes:Int)*n<=281474976710656:=by obtain⟨m,rfl⟩:=EG c1;simp only[FT] at c3;have h2:((m*e.by_:Nat):Int)<=((140737488355328:Nat):Int):=Int.ofNat_le.2 c3;rw[CN,Int.mul_comm] at h2;rw[e2];omega
 have hrun:=run_make (P:=P) w t e.id i (.slice none 0 0) hu hi hzi .i64 .i64 n n c1 (Int.le_refl _) hby c4;have hzc:Value.cells (.slice none 0 0)= #[.slice none 0 0]:=rfl;have hsz:(madeCells (Value.cells (.slice none 0 0)) (n.toNat*i.size)).size=n.toNat:=(by rw[size_madeCells,e1,EK]);have hget: ∀j,j<n.toNat->(madeCells (Value.cells (.slice none 0 0)) (n.toNat*i.size)).getD j undef= .slice none 0 0:=fun j hj=>by rw[hzc,e1,EK,q_f];unfold madeCells;rw[Array.getElem?_map,Array.getElem?_range,BC hj];simp[FV]
 obtain⟨g',f1,f2,f3⟩:=h.store_new e.id (madeCells (Value.cells (.slice none 0 0)) (n.toNat*i.size)) (List.replicate n.toNat (.sl .full [])) (by rw[hsz];simp) (fun j hj=>by have hj':j<n.toNat:=(by simpa using hj);rw[hget j hj'];have e3:(List.replicate n.toNat (PV.sl .full [])).getD j .junk= .sl .full []:=(by simp[q_a,hj']);rw[e3];exact .nil _ _ rfl);refine⟨_,_,hk,_,_,g',F,by simp only[Sem.run_bind,hrun,Result.andThen_ok,Sem.run_pure];rfl,f1,.inl ⟨_,rfl,?_⟩⟩;rw[<-f2];exact .base _ _ (.gms _ _ _ _ f3 (BD _))
def W2p (T:Option TI)(x:PV)(s:PFS)(K:PV->PFS->Prop):Prop:=
 match T,x with
 | some ⟨_,_,.slice e,_⟩,.sl _ es=>(e.sz=1/\e.zok=true)/\K (.gr s.st.length 1 1) { s with st:=s.st++ [[.sl .no es]] }
 | _,_=>False
theorem V1o {P:Program}{E:Ent}{a:Act}{w:World}{g:Gh}{F:Fr}{s:PFS}{t:TypeId}{x:PV}{v:Value}{K:PV->PFS->Prop}(h:FSRep E a w g F s)(hq:W2p (ti P t) x s K)(hv:RepF w g F s.T v x):
 ∃p s',K p s'/\zi P E a w (do pure (.value (<-Instr.buildSlice t 1 [(0,v)].toArray))) p s':=by
 unfold W2p at hq;split at hq;rotate_left;exact hq.elim;rename_i e _ tg es hT;obtain⟨⟨c1,c3⟩,hk⟩:=hq;obtain⟨i',u,hi',hu,hT'⟩:=Q7 hT;obtain⟨rfl,hei⟩:=QV (B4 TI.ud hT').symm;have hrep:Rep w g v (.sl .no es):=hv.slNo;have hcv:v.cells= #[v]:=(by cases hrep<;>rfl);obtain⟨i2,u2,hi2,hu2,e2⟩:=Jf hei;have hsz2:i2.size=e.sz:=(by rw[e2]);obtain⟨z,hz,hzs⟩: ∃z,i2.zero=some z/\z.cells.size=i2.size:=by have:=B4 EI.zok e2;rw[c3] at this;simp only at this;split at this;rename_i z hz;exact⟨z,hz,by simpa using this.symm⟩;cases this
 have hfill:=Hn e.sz [(0,v)] 0 ((Array.range (1*e.sz)).map (fun i=>(if 1*e.sz=0 then #[] else z.cells)[i % (if 1*e.sz=0 then #[] else z.cells).size]!)) (by rfl) (fun j hj=>by have:j=0:=(by simpa using hj);subst this;show v.cells.size=e.sz;rw[hcv,c1];rfl) (by simp);obtain⟨cells',f1,f2,f3,f4⟩:=hfill;have hrun:(Instr.buildSlice t 1 [(0,v)].toArray).run P w= .ok (.slice (some ⟨w.heap.size,0,none⟩) 1 1) (w.alloc (.cells cells' e.id)):=(by unfold Instr.buildSlice;simp only[Sem.run_bind,run_underlying hu,Result.andThen_ok,KZ hei];rw[BA oG];have h0: ¬(e.sz=0):=oG;have h0': ¬(1*e.sz=0):=oG;simp only[h0,h0',DT,Sem.run_bind,zeroValue,typeInfo,hi2,hz,Sem.run_pure,Result.andThen_ok,CY] at f1⊢;simp[hi2,hz,f1,newRow,newObj,Sem.run]);obtain⟨g',r1,r2,r3⟩:=h.store_new e.id cells' [.sl .no es] (by rw[f2,Array.size_map,Array.size_range,c1];exact BD _) (fun m hm=>by have hm0:m=0:=(by simpa using hm);subst hm0;have hc:=f4 0 0 (by simp) oG;simp only[CU,DC] at hc;rw[hc];show Rep w g (v.cells.getD 0 undef) (.sl .no es);rw[hcv];exact hrep);refine⟨_,_,hk,_,_,g',F,by simp only[Sem.run_bind,hrun,Result.andThen_ok,Sem.run_pure];rfl,r1,.inl ⟨_,rfl,?_⟩⟩;rw[<-r2];exact .base _ _ (.gr _ _ _ r3 (BD _))
def U0d (T U:Option TI)(x y:PV)(s:PFS)(K:PV->PFS->Prop):Prop:=
 match T,U,x,y with
 | some ⟨_,_,.slice e,_⟩,some ⟨_,_,.slice _,_⟩,.gr j len cap,.sl _ ys=>GrowOK (s.st.getD j []) len cap ys e/\ ∀j' cap' st',GrowTo s.st j len cap ys e.sz j' cap' st'->K (.gr j' (len+ys.length) cap') { s with st:=st' }
 | some ⟨_,_,.slice e,_⟩,some ⟨_,_,.slice _,_⟩,.sl .full es,.sl _ ys=>GrowOK (flat es) es.length es.length ys e/\ ∀cap' R,es.length+ys.length<=cap'->R.length=(cap'-(es.length+ys.length))*e.sz->K (.gr s.st.length (es.length+ys.length) cap') { s with st:=s.st++ [flat es++(flat ys++R)] }
 | _,_,_,_=>False
def xD (P:Program)(o:Oper)(K:PFS->Prop)(s:PFS):Prop:=
 match o.op with
 | .call { callee:= .builtin .append,args,argTypes } =>
  match argTypes.toList,args.toList with
  | [t,u],[x,y]=>U0d (ti P t) (ti P u) (s.ev x) (s.ev y) s (fun p s'=>K (s'.put o.dst p))
  | _,_=>False
 | .makeSlice t l c=>X1e P (ti P t) (s.ev l) (s.ev c) s (fun p s'=>K (s'.put o.dst p))
 | _=>False
def J2j (P:Program)(o:Oper)(K:PFS->Prop)(s:PFS):Prop:=
 match o.op with
 | .buildSlice t 1 parts=>
  match parts.toList with
  | [(0,x)]=>W2p (ti P t) (s.ev x) s (fun p s'=>K (s'.put o.dst p))
  | _=>False
 | _=>xD P o K s
theorem U0h {P:Program}{E:Ent}{a:Act}{w:World}{g:Gh}{F:Fr}{s:PFS}{o:Oper}{K:PFS->Prop}(h:FSRep E a w g F s)(hp:xD P o K s){next:Act->World->Prop}{Q:Exit->Act->World->Prop}
 (hn: ∀a' w' g' F' s',FSRep E a' w' g' F' s'->K s'->next a' w'):o.wp P a w next Q:=by
 unfold xD at hp;split at hp;rotate_left;rename_i t l c heq;obtain⟨p,s',hk,nx,w',g',F',r1,r2,r3⟩:=X1d h hp (h.ev l) (h.ev c);unfold Oper.wp;have hex:(execOp a.eval o).run P w= .ok nx w':=by rw[<-r1];unfold execOp;simp only[heq]
 rw[hex];rcases r3 with ⟨v,rfl,hv⟩ | ⟨rfl,hj⟩;exact hn _ _ _ _ _ (r2.put o.dst hv) hk;subst hj;exact hn _ _ _ _ _ (r2.put o.dst (.base _ _ (.junk _))) hk;exact hp.elim;rename_i args ts heq;split at hp;rotate_left;exact hp.elim;rename_i t u o1 o2 hts hargs;have ha:args= #[o1,o2]:=(by rw[<-hargs]);have ht:ts= #[t,u]:=(by rw[<-hts]);have hex: ∀nx w',(do pure (Next.value (<-Builtin.append_ #[t,u] o.type (Array.map a.eval #[o1,o2]))):Sem Next).run P w= .ok nx w'->(execOp a.eval o).run P w= .ok nx w':=fun nx w' r1=>by subst ha ht;unfold execOp;simp only[heq,resolve,invoke,Sem.run_bind,Sem.run_pure,Result.andThen_ok];show(do pure (Next.value (<-Builtin.append_ #[t,u] o.type (Array.map a.eval #[o1,o2]))):Sem Next).run P w=_;exact r1
 unfold U0d at hp;split at hp;rename_i e _ _ _ e2 _ j len cap tg ys hT hU h1 h2;obtain⟨c1,hk⟩:=hp;obtain⟨_,_,_,hu,hT'⟩:=Q7 hT;obtain⟨rfl,hei⟩:=QV (B4 TI.ud hT').symm;obtain⟨_,_,_,hu2,hU'⟩:=Q7 hU;obtain⟨rfl,_⟩:=QV (B4 TI.ud hU').symm;have hv:=h.ev o1;rw[h1] at hv;have hx:=h.ev o2;rw[h2] at hx;obtain⟨j',cap',st',hg,nx,w',g',F',r1,r2,r3⟩:=v0w (P:=P) (ty:=o.type) hu hei hu2 h hv hx.slNo c1;unfold Oper.wp;rw[hex nx w' (by rw[<-r1];simp)];rcases r3 with ⟨v,rfl,hv⟩ | ⟨rfl,hj⟩;exact hn _ _ _ _ _ (r2.put o.dst hv) (hk j' cap' st' hg);cases hj;rename_i e _ _ _ e2 _ es tg ys hT hU h1 h2;obtain⟨c1,hk⟩:=hp;obtain⟨_,_,_,hu,hT'⟩:=Q7 hT;obtain⟨rfl,hei⟩:=QV (B4 TI.ud hT').symm;obtain⟨_,_,_,hu2,hU'⟩:=Q7 hU;obtain⟨rfl,_⟩:=QV (B4 TI.ud hU').symm;have hv:=h.ev o1;rw[h1] at hv;have hx:=h.ev o2;rw[h2] at hx;obtain⟨cap',R,hc1,hc2,nx,w',g',F',r1,r2,r3⟩:=U0c (P:=P) (ty:=o.type) hu hei hu2 h hv hx.slNo c1;unfold Oper.wp;rw[hex nx w' (by rw[<-r1];simp)];rcases r3 with ⟨v,rfl,hv⟩ | ⟨rfl,hj⟩;exact hn _ _ _ _ _ (r2.put o.dst hv) (hk cap' R hc1 hc2);cases hj;exact hp.elim
theorem Q2o {P:Program}{o:Oper}{K:PFS->Prop}{s:PFS}(hp:xD P o K s): ∀c,o.op≠ .defer c:=by intro c hc;unfold xD at hp;rw[hc] at hp;exact hp
theorem yk {P:Program}{E:Ent}{a:Act}{w:World}{g:Gh}{F:Fr}{s:PFS}{o:Oper}{K:PFS->Prop}(h:FSRep E a w g F s)(hp:xD P o K s){next:Act->World->Prop}{Q:Exit->Act->World->Prop}
 (hn: ∀a' w' g' F' s',FSRep E a' w' g' F' s'->K s'->next a' w'):o.wpIn (fen E.rd) 0 P a w next Q:=
 X0c E.rd (Q2o hp) (U0h h hp hn)
theorem w0j {P:Program}{E:Ent}{a:Act}{w:World}{g:Gh}{F:Fr}{s:PFS}{o:Oper}{K:PFS->Prop}(h:FSRep E a w g F s)(hp:J2j P o K s){next:Act->World->Prop}{Q:Exit->Act->World->Prop}
 (hn: ∀a' w' g' F' s',FSRep E a' w' g' F' s'->K s'->next a' w'):o.wpIn (fen E.rd) 0 P a w next Q:=by
 unfold J2j at hp;split at hp
 . rename_i t parts heq;refine X0c E.rd (fun c hc=>by rw[heq] at hc;cases hc) ?_;split at hp;rotate_left;exact hp.elim;rename_i _ x hps;have hpa:parts= #[(0,x)]:=(by rw[<-hps]);obtain⟨p,s',hk,nx,w',g',F',r1,r2,r3⟩:=V1o h hp (h.ev x);unfold Oper.wp;have hex:(execOp a.eval o).run P w= .ok nx w':=by rw[<-r1];subst hpa;unfold execOp;simp only[heq];simp
   rw[hex];rcases r3 with ⟨v,rfl,hv⟩ | ⟨rfl,hj⟩;exact hn _ _ _ _ _ (r2.put o.dst hv) hk;subst hj;exact hn _ _ _ _ _ (r2.put o.dst (.base _ _ (.junk _))) hk
 exact yk h hp hn
def U1m (P:Program)(ops:List Oper):List Bool->List Oper->(PFS->Prop)->PFS->Prop
 | _,[],K,s=>K s
 | [],rest,K,s=>OL0 P ops rest K s
 | true::bs,o::rest,K,s=>o.guard=none/\J2j P o (U1m P ops bs rest K) s
 | false::bs,o::rest,K,s=>
  match o.guard with
  | none=>OC0 P o (U1m P ops bs rest K) s
  | some (j,want)=>GK0 (Zn ops s j want) want (OC0 P o (U1m P ops bs rest K) s) (U1m P ops bs rest K (s.put o.dst (.tup [])))
theorem zg {P:Program}{E:Ent}{ops:Array Oper}{Q:Exit->Act->World->Prop}{K:PFS->Prop}(hK: ∀a' w' g' F' s',FSRep E a' w' g' F' s'->K s'->Q .normal a' w'):
 ∀(bs:List Bool) (rest:List Oper) (a:Act) (w:World) (g:Gh) (F:Fr) (s:PFS),FSRep E a w g F s->U1m P ops.toList bs rest K s->wpListIn (fen E.rd) 0 P ops Q rest a w
 | bs,[],a,w,g,F,s,h,hp=>hK a w g F s h (by unfold U1m at hp;exact hp)
 | [],o::rest,a,w,g,F,s,h,hp=>GD hK (o::rest) a w g F s h (Iq hp)
 | true::bs,o::rest,a,w,g,F,s,h,hp=>by obtain⟨hg,hp⟩:=hp;have ih:=zg (P:=P) (ops:=ops) hK bs rest;unfold wpListIn;rw[BC (by simp[Region.wanted,hg])];exact w0j h hp fun a' w' g' F' s' hr hk=>ih a' w' g' F' s' hr hk
 | false::bs,o::rest,a,w,g,F,s,h,hp=>by
  have ih:=zg (P:=P) (ops:=ops) hK bs rest;unfold U1m at hp;unfold wpListIn;cases hg:o.guard with
  | none=>
   rw[hg] at hp;rw[BC (by simp[Region.wanted,hg])];exact JL h (KS hp) fun a' w' g' F' s' hr hk=>ih a' w' g' F' s' hr hk
  | some x=>
   obtain⟨j,want⟩:=x;rw[hg] at hp;simp only at hp;cases hb:Zn ops.toList s j want with
   | none=>rw[hb] at hp;exact hp.elim
   | some b=>
    rw[hb] at hp;obtain⟨h1,h2⟩:=hp;have hy:=K4 h hb;by_cases e:b=want;have hx:=h1 e;subst e;rw[BC (by unfold Region.wanted;rw[hg];simp only;rw[hy];simp)];exact JL h (KS hx) fun a' w' g' F' s' hr hk=>ih a' w' g' F' s' hr hk;rw[BA (by unfold Region.wanted;rw[hg];simp only;rw[hy];simp[e])];exact⟨Vx,ih _ w g F _ (h.put o.dst (.base _ _ (Ws _ _))) (h2 e)⟩
def OLg (P:Program)(ops:List Oper)(bs:List Bool)(rest:List Oper)(K:PFS->Prop)[Stop ops][Stop rest][Stop K](s:PFS):Prop:=U1m P ops bs rest K s
def PGr (P:Program)(o:Oper)(K:PFS->Prop)[Stop o][Stop K](s:PFS):Prop:=J2j P o K s
theorem Yg {P:Program}{E:Ent}{id:Nat}{l:List Oper}{Q:Exit->PFS->Prop}{s:PFS}(bs:List Bool)(h:OLg P l bs l (Q .normal) s):PWP P E (.region id l.toArray false) Q s:=fun a w g F hr=>
 wpIn_region_list (zg (fun a' w' g' F' s' hr' hk=>⟨g',F',s',hr',hk⟩) bs l a w g F s hr h)
section
variable {P:Program} {s:PFS} {K:PFS->Prop} {d:Option Tmp} {ty:TypeId} {pos:String} {af:Array Edge} {pa:List PV} {L st:Qf} {T:List (Nat×Nat)}
@[go_sem] theorem Y2w {ops:List Oper}{bs:List Bool} :OLg P ops bs [] K s=K s:=by cases bs<;>rfl
@[go_sem] theorem Y2x {ops rest:List Oper} :OLg P ops [] rest K s=OL P ops rest K s:=by cases rest<;>rfl
@[go_sem] theorem H2i {ops rest:List Oper}{bs:List Bool}{op:Op} :OLg P ops (true::bs) (⟨d,op,ty,pos,af,none⟩::rest) K s=PGr P ⟨d,op,ty,pos,af,none⟩ (OLg P ops bs rest K) s:=by show((none:Option (Nat×Bool))=none/\_)=_;simp only[F9];rfl
@[go_sem] theorem H2j {ops rest:List Oper}{bs:List Bool}{op:Op} :OLg P ops (false::bs) (⟨d,op,ty,pos,af,none⟩::rest) K s=OC P ⟨d,op,ty,pos,af,none⟩ (OLg P ops bs rest K) s:=(rfl)
@[go_sem] theorem G2j {ops rest:List Oper}{bs:List Bool}{op:Op}{j:Nat}{want:Bool} :OLg P ops (false::bs) (⟨d,op,ty,pos,af,some (j,want)⟩::rest) K s=
 GK (Zn ops s j want) want (OC P ⟨d,op,ty,pos,af,some (j,want)⟩ (OLg P ops bs rest K) s) (OLg P ops bs rest K (s.put d (.tup []))):=rfl
def K0v (T U:Option TI)(x y:PV)(s:PFS)(K:PV->PFS->Prop)[Stop K]:Prop:=U0d T U x y s K
@[go_sem] theorem Y2o {x y:Operand}{t u:TypeId} :PGr P ⟨d,.call ⟨.builtin .append,[x,y].toArray,[t,u].toArray⟩,ty,pos,af,none⟩ K s=K0v (ti P t) (ti P u) (s.ev x) (s.ev y) s (fun p s'=>K (s'.put d p)):=(rfl)
@[go_sem] theorem Q2e {e e':EI}{x1 y1:Bool}{x2 y2:Nat}{x4 y4:Option Value}{t:Tag}{j len cap:Nat}{ys:List PV}{K:PV->PFS->Prop} :K0v (some ⟨x1,x2,.slice e,x4⟩) (some ⟨y1,y2,.slice e',y4⟩) (.gr j len cap) (.sl t ys) (PFS.mk pa L T st) K=
 (GrowOK (st.getD j []) len cap ys e/\ ∀j' cap' st',GrowTo st j len cap ys e.sz j' cap' st'->K (.gr j' (len+ys.length) cap') (PFS.mk pa L T st')):=(rfl)
@[go_sem] theorem k1c {e e':EI}{x1 y1:Bool}{x2 y2:Nat}{x4 y4:Option Value}{t:Tag}{ys:List PV}{K:PV->PFS->Prop} :K0v (some ⟨x1,x2,.slice e,x4⟩) (some ⟨y1,y2,.slice e',y4⟩) (.sl .full []) (.sl t ys) (PFS.mk pa L T st) K=
 (GrowOK [] 0 0 ys e/\ ∀cap' R,ys.length<=cap'->R.length=(cap'-ys.length)*e.sz->K (.gr st.length ys.length cap') (PFS.mk pa L T (st++ [flat ys++R]))):=by
 show(GrowOK (flat []) ([]:List PV).length ([]:List PV).length ys e/\ ∀cap' R,([]:List PV).length+ys.length<=cap'->R.length=(cap'-(([]:List PV).length+ys.length))*e.sz->K (.gr st.length (([]:List PV).length+ys.length) cap') (PFS.mk pa L T (st++ [flat []++(flat ys++R)])))=_;rw[show([]:List PV).length+ys.length=ys.length from CU _];rfl
def v1z (P:Program)(T:Option TI)(x y:PV)(s:PFS)(K:PV->PFS->Prop)[Stop K]:Prop:=X1e P T x y s K
def U2s (T:Option TI)(e:EI)(n c:Int)(s:PFS)(K:PV->PFS->Prop)[Stop K]:Prop:=
 match T with
 | some ⟨_,_,_,some (.slice none 0 0)⟩=>(0<=n/\n=c/\n.toNat*e.by_<=140737488355328/\n<=9223372036854775807/\e.sz=1)/\K (.ms true s.st.length 0 n.toNat) { s with st:=s.st++ [List.replicate n.toNat (.sl .full [])] }
 | _=>False
@[go_sem] theorem J2k {x y:Operand}{t:TypeId} :PGr P ⟨d,.makeSlice t x y,ty,pos,af,none⟩ K s=v1z P (ti P t) (s.ev x) (s.ev y) s (fun p s'=>K (s'.put d p)):=(rfl)
@[go_sem] theorem Z2l {e:EI}{x1:Bool}{x2:Nat}{x4:Option Value}{n c:Int}{K:PV->PFS->Prop} :v1z P (some ⟨x1,x2,.slice e,x4⟩) (.sc (.int .i64 n)) (.sc (.int .i64 c)) s K=U2s (ti P e.id) e n c s K:=(rfl)
@[go_sem] theorem V2b {e:EI}{y1:Bool}{y2:Nat}{y3:UD}{n c:Int}{K:PV->PFS->Prop} :U2s (some ⟨y1,y2,y3,some (.slice none 0 0)⟩) e n c (PFS.mk pa L T st) K=
 ((0<=n/\n=c/\n.toNat*e.by_<=140737488355328/\n<=9223372036854775807/\e.sz=1)/\K (.ms true st.length 0 n.toNat) (PFS.mk pa L T (st++ [List.replicate n.toNat (.sl .full [])]))):=(rfl)
@[go_sem] theorem X2r {i n c:Nat} :(PV.gr i n c).cells= [.gr i n c]:=(rfl)
@[go_sem] theorem K2m {i n c:Nat}{st':Qf} :(PFS.mk pa L T st).recv d (.gr i n c) st'=(PFS.mk pa L T st').put d (.gr i n c):=(rfl)
end
section
variable {P:Program} {ops:Array Oper} {o:Oper} {K K':PFS->Prop} {s:PFS} {m:Bool} {M:List Bool}
theorem W1d (h:xD P o K s):Zr o.op=false:=by unfold xD at h;split at h;rename_i args ts heq;rw[heq];rfl;rename_i t l c heq;rw[heq];rfl;exact h.elim
theorem X1c {T:Option TI}{x y:PV}{J J':PV->PFS->Prop}(h:X1e P T x y s J)(hk: ∀p s',J p s'->J' p s'):X1e P T x y s J':=by unfold X1e at h⊢;split at h;rotate_left;exact h.elim;split at h;rotate_left;exact h.elim;exact⟨h.1,hk _ _ h.2⟩
theorem W1c (h:xD P o K s)(hk: ∀s,K s->K' s):xD P o K' s:=by unfold xD at h⊢;split at h;rotate_left;exact X1c h fun p s' hp=>hk _ hp;exact h.elim;split at h;rotate_left;exact h.elim;unfold U0d at h⊢;split at h;exact⟨h.1,fun j' cap' st' hg=>hk _ (h.2 j' cap' st' hg)⟩;exact⟨h.1,fun cap' R h1 h2=>hk _ (h.2 cap' R h1 h2)⟩;exact h.elim
theorem j1a {dst:Option Tmp}{v:PV}(h1: ∀d,dst=some d->d∉o.looksAt ops)(h2: ∀d,dst=some d->o.dst≠some d)(h:xD P o K (s.put dst v)):xD P o (fun s'=>K (s'.put dst v)) s:=by
 have he: ∀x∈o.op.operands,(s.put dst v).ev x=s.ev x:=qF (ops:=ops) fun d hd=>ZH fun e=>h1 d e hd;have est:(s.put dst v).st=s.st:=(Jy s dst v).2.2.1;have eput: ∀(st:Qf) (p:PV),(({ s.put dst v with st:=st } :PFS).put o.dst p)=((({ s with st:=st } :PFS).put o.dst p).put dst v):=fun st p=>by
  have:({ s.put dst v with st:=st } :PFS)=({ s with st:=st } :PFS).put dst v:=by cases dst<;>rfl
  rw[this];exact Yi _ _ h2
 unfold xD at h⊢;split at h;rotate_left
 . rename_i t l c heq;have hx:(s.put dst v).ev l=s.ev l:=he l (by rw[heq];simp[Op.operands]);have hy:(s.put dst v).ev c=s.ev c:=he c (by rw[heq];simp[Op.operands]);rw[hx,hy] at h;unfold X1e at h⊢;split at h;rotate_left;exact h.elim;split at h;rotate_left;exact h.elim;rw[est] at h;have q:K _:=h.2;rw[eput] at q;exact⟨h.1,q⟩
 exact h.elim;rename_i args ts heq;split at h;rotate_left;exact h.elim;rename_i t u x y hts hargs;have hx:(s.put dst v).ev x=s.ev x:=he x (by rw[heq];simp[Op.operands,Call.operands,Array.mem_def,hargs]);have hy:(s.put dst v).ev y=s.ev y:=he y (by rw[heq];simp[Op.operands,Call.operands,Array.mem_def,hargs]);rw[hx,hy] at h;unfold U0d at h⊢;split at h;rw[est] at h;exact⟨h.1,fun j' cap' st' hg=>by have q:K _:=h.2 j' cap' st' hg;rw[eput] at q;exact q⟩;rw[est] at h;exact⟨h.1,fun cap' R q1 q2=>by have q:K _:=h.2 cap' R q1 q2;rw[eput] at q;exact q⟩;exact h.elim
theorem Q2n (h:xD P o K s):xD P o (fun s'=>K s'/\ ∃u,s'.pa=(s.put o.dst u).pa) s:=by
 unfold xD at h⊢;split at h;rotate_left
 . unfold X1e at h⊢;split at h;rotate_left;exact h.elim;split at h;rotate_left;exact h.elim;exact⟨h.1,h.2,_,by cases o.dst<;>rfl⟩
 exact h.elim;split at h;rotate_left;exact h.elim;unfold U0d at h⊢;split at h;exact⟨h.1,fun j' cap' st' hg=>⟨h.2 j' cap' st' hg,_,by cases o.dst<;>rfl⟩⟩;exact⟨h.1,fun cap' R q1 q2=>⟨h.2 cap' R q1 q2,_,by cases o.dst<;>rfl⟩⟩;exact h.elim
def PDm (P:Program)(ops:Array Oper)(m:Bool)(o:Oper)(K:PFS->Prop)(s:PFS):Prop:=if m=true then(o.guard=none/\xD P o K s) else POg P ops o K s
theorem jZ (h:PDm P ops m o K s)(hk: ∀s,K s->K' s):PDm P ops m o K' s:=by
 unfold PDm at h⊢;cases m with
 | true=>exact⟨h.1,W1c h.2 hk⟩
 | false=>exact Ip h hk
theorem j1b {dst:Option Tmp}{v:PV}(h1: ∀d,dst=some d->d∉o.looksAt ops)(h2: ∀d,dst=some d->o.dst≠some d)(h:PDm P ops m o K (s.put dst v)):PDm P ops m o (fun s'=>K (s'.put dst v)) s:=by
 unfold PDm at h⊢;cases m with
 | true=>exact⟨h.1,j1a h1 h2 h.2⟩
 | false=>exact w0f h1 h2 h
theorem U1k (h:PDm P ops m o K s):PDm P ops m o (fun s'=>K s'/\ ∃u,s'.pa=(s.put o.dst u).pa) s:=by
 unfold PDm at h⊢;cases m with
 | true=>exact⟨h.1,Q2n h.2⟩
 | false=>exact w0g h
theorem w0k (hq:Zr o.op=true)(h:PDm P ops m o K s):m=false:=by
 unfold PDm at h;cases m with
 | true=>have:=W1d h.2;rw[hq] at this;cases this
 | false=>rfl
theorem yl (hq:Zr o.op=true)(h:PDm P ops m o K s): ∃u,QY P ops o u s/\K (s.put o.dst u):=by have:=w0k hq h;subst this;exact ze hq h
theorem ve (hm:m=false)(hq:Zr o.op=true){u:PV}(h1:QY P ops o u s)(h2:K (s.put o.dst u)):PDm P ops m o K s:=by subst hm;exact IF hq h1 h2
def POx (P:Program)(ops:Array Oper)(M:List Bool)(i:Nat)(K:PFS->Prop)(s:PFS):Prop:=
 match ops[i]? with
 | none=>False
 | some o=>PDm P ops (M.getD i false) o K s
def PAx (P:Program)(ops:Array Oper)(M:List Bool)(K:PFS->Prop):Nat->Array Bool->PFS->Prop
 | 0,listed,s=>Region.ready .any ops listed= []/\K s
 | fuel+1,listed,s=>
  (Region.ready .any ops listed= []->K s)/\
  ∀i∈Region.ready .any ops listed,POx P ops M i (fun s'=>(JW ops i=true->Xu P ops listed i s')/\PAx P ops M K fuel (listed.setIfInBounds i true) s') s
def J2m (P:Program)(ops:List Oper)(m:Bool)(o:Option Oper)(K:PFS->Prop)(s:PFS):Prop:=match o with | some o=>(match m with | true=>o.guard=none/\xD P o K s | false=>OG P ops o K s) | none=>False
def OWx (P:Program)(ops:List Oper)(M:List Bool):Plan->(PFS->Prop)->PFS->Prop
 | .done,K,s=>K s
 | .step i ws rest,K,s=>J2m P ops (M.getD i false) (ops[i]?) (fun s'=>WL0 P ops ws s'/\OWx P ops M rest K s') s
 | .alt a b,K,s=>OWx P ops M a K s/\OWx P ops M b K s
theorem w0l {i:Nat}{K:PFS->Prop}{s:PFS}(h:J2m P ops.toList (M.getD i false) (ops.toList[i]?) K s):POx P ops M i K s:=by
 unfold J2m at h;unfold POx;have e:ops.toList[i]?=ops[i]?:=(by simp);rw[e] at h;split at h;rename_i o ho;rw[ho];show PDm P ops (M.getD i false) o K s;unfold PDm;generalize M.getD i false=m at h;cases m with
 | true=>exact h
 | false=>exact V0a h
 exact h.elim
theorem W1a {i:Nat}{K K':PFS->Prop}{s:PFS}(h:POx P ops M i K s)(hk: ∀s,K s->K' s):POx P ops M i K' s:=by unfold POx at h⊢;split;rename_i ho;rw[ho] at h;exact h;rename_i o ho;rw[ho] at h;exact jZ h hk
theorem x1x {i:Nat}{K:PFS->Prop}{s:PFS}(h:POx P ops M i K s):POx P ops M i (fun s'=>K s'/\s'.pa.length=s.pa.length) s:=by unfold POx at h⊢;split;rename_i ho;rw[ho] at h;exact h;rename_i o ho;rw[ho] at h;refine jZ (U1k h) fun s' ⟨h1,u,h2⟩=>⟨h1,by rw[h2];exact(Jy s o.dst u).2.2.2⟩
theorem q0i {N i:Nat}{oi:Oper}{di:Tmp}{v:PV}(hi:ops[i]?=some oi)(hq:Zr oi.op=true)(hdi:oi.dst=some di)(hown:di∉oi.looksAt ops)(hN:di<N)(hMi:M.getD i false=false):
 ∀(fuel:Nat) (listed:Array Bool) (s:PFS),N<=s.pa.length->Wc ops listed->
  (∀j oj,ops[j]?=some oj->j≠i->listed.getD j true=false->kY ops i j=false->oi.apart ops oj=true)->
  (∀k ok,ops[k]?=some ok->listed.getD k false=true->K3 ok.op=true->di∉ok.looksAt ops/\ok.dst≠some di)->
  i∈Region.ready .any ops listed->QY P ops oi v s->
  PAx P ops M K fuel (listed.setIfInBounds i true) (s.put oi.dst v)->PAx P ops M K (fuel+1) listed s:=by
 have self: ∀(fuel:Nat) (listed:Array Bool) (s:PFS),QY P ops oi v s->PAx P ops M K fuel (listed.setIfInBounds i true) (s.put oi.dst v)->
  POx P ops M i (fun s'=>(JW ops i=true->Xu P ops listed i s')/\PAx P ops M K fuel (listed.setIfInBounds i true) s') s:=by
  intro fuel listed s hy H;unfold POx;rw[hi];exact ve hMi hq hy ⟨fun he=>by simp[JW,hi,hq] at he,H⟩
 intro fuel
 induction fuel with
 | zero=>
  intro listed s hl hc h1 h2 hr hy H;refine⟨fun h=>(by rw[h] at hr;cases hr),fun j hj=> ?_⟩;by_cases hji:j=i;subst hji;exact self 0 listed s hy H;have:=ready_mono hj hji;rw[H.1] at this;cases this
 | succ fuel ih=>
  intro listed s hl hc h1 h2 hr hy H;refine⟨fun h=>(by rw[h] at hr;cases hr),fun j hj=> ?_⟩;by_cases hji:j=i;subst hji;exact self _ listed s hy H;have hp:=H.2 j (ready_mono hj hji);obtain⟨hjun,oj,hoj,hall⟩:=mem_ready.1 hj;have hiun:=(mem_ready.1 hr).1;have hnr:=Wu hc hj hiun;obtain⟨a1,a2,a3⟩:=Oper.apart_spec (h1 j oj hoj hji hjun hnr);unfold POx at hp⊢;rw[hoj] at hp⊢;simp only at hp⊢;have hp':=U1k (j1b a1 a2 hp);have key: ∀s'':PFS,(∃u,s''.pa=(s.put oj.dst u).pa)->(Zr oj.op=true->s''.L=s.L/\s''.st=s.st)->
   ((JW ops j=true->Xu P ops (listed.setIfInBounds i true) j (s''.put oi.dst v))/\PAx P ops M K fuel ((listed.setIfInBounds i true).setIfInBounds j true) (s''.put oi.dst v))->
   (JW ops j=true->Xu P ops listed j s'')/\PAx P ops M K (fuel+1) (listed.setIfInBounds j true) s'':=by
   rintro s'' ⟨u,hpa⟩ hqs ⟨hw,hrest⟩;have hlen:s''.pa.length=s.pa.length:=(by rw[hpa];exact(Jy s oj.dst u).2.2.2);have hsame: ∀d∈oi.looksAt ops,s.pa.getD d .junk=s''.pa.getD d .junk:=fun d hd=>by rw[hpa];exact(ZH fun e=>a3 d e hd).symm
   have hown': ∀d∈oi.looksAt ops,(s''.put oi.dst v).pa.getD d .junk=s''.pa.getD d .junk:=fun d hd=>ZH fun e=>by rw[hdi] at e;cases e;exact hown hd
   have hil:(listed.setIfInBounds i true).getD i false=true:=by
    have hlt:i<listed.size:=by rcases Nat.lt_or_ge i listed.size with h' | h';exact h';simp[F0 h'] at hiun
    simp[hlt]
   have hy':QY P ops oi v s'':=by
    cases hlo:K3 oi.op with
    | false=>exact WU hq hsame (.inl hlo) hy
    | true=>
     cases hqj:Zr oj.op with
     | true=>obtain⟨e1,e2⟩:=hqs hqj;exact WU hq hsame (.inr ⟨e1.symm,e2.symm⟩) hy
     | false=>
      have heff:JW ops j=true:=(by simp[JW,hoj,hqj]);have:=hw heff i oi hil hi hq hlo hnr di hdi;have e:(s''.put oi.dst v).pa.getD di .junk=v:=by rw[hdi];exact IJ (by rw[hlen];exact q_e hN hl)
      rw[e] at this;exact WU hq hown' (.inr ⟨(Jy s'' oi.dst v).1,(Jy s'' oi.dst v).2.2.1⟩) this
   refine⟨fun heff k ok hk hok hkq hkl hkr d hd=> ?_,?_⟩;obtain⟨b1,b2⟩:=h2 k ok hok hk hkl;have:=hw heff k ok (getD_set_true hk) hok hkq hkl hkr d hd;have e:(s''.put oi.dst v).pa.getD d .junk=s''.pa.getD d .junk:=ZH fun e=>by rw[hdi] at e;cases e;exact b2 hd
   rw[e] at this;exact WU hkq (fun x hx=>ZH fun e=>by rw[hdi] at e;cases e;exact b1 hx) (.inr ⟨(Jy s'' oi.dst v).1,(Jy s'' oi.dst v).2.2.1⟩) this;refine ih (listed.setIfInBounds j true) s'' oG (Yy hc hj) (fun k ok hk hki hun hno=> ?_) (fun k ok hk hkl hlo=> ?_) (ready_mono hr (Ne.symm hji)) hy' ?_;refine h1 k ok hk hki ?_ hno;by_cases hjk:j=k;subst hjk;exact hjun;rw[getD_set_ne true hjk] at hun;exact hun;by_cases hjk:j=k;subst hjk;rw[hoj] at hk;cases hk;exact⟨a1 di hdi,fun e=>a2 di hdi e⟩;rw[getD_set_ne false hjk] at hkl;exact h2 k ok hk hkl hlo;rw[Array.setIfInBounds_comm _ _ hji];exact hrest
  cases hqj:Zr oj.op with
  | true=>
   have hmj:=w0k hqj hp';obtain⟨u,q1,q2,q3⟩:=yl hqj hp';exact ve hmj hqj q1 (key _ ⟨u,rfl⟩ (fun _=>⟨(Jy s oj.dst u).1,(Jy s oj.dst u).2.2.1⟩) q2)
  | false=>exact jZ hp' fun s'' ⟨q2,q3⟩=>key s'' q3 (fun h=>by rw[hqj] at h;cases h) q2
theorem Q0t {p:Plan}{s:PFS}(h:p.heads= []):OWx P ops.toList M p K s->K s:=by
 induction p with
 | done=>exact id
 | step i ws rest=>cases h
 | alt a b iha ihb=>exact fun hw=>iha (by simp only[Plan.heads,List.append_eq_nil_iff] at h;exact h.1) hw.1
theorem yN {N:Nat} : ∀(p:Plan) (f:Nat) (listed:Array Bool),JR ops N p f listed=true->Wc ops listed->
 (∀s,N<=s.pa.length->OWx P ops.toList M p K s-> ∀i∈p.heads,POx P ops M i (fun s'=>(JW ops i=true->Xu P ops listed i s')/\PAx P ops M K (f-1) (listed.setIfInBounds i true) s') s)/\
 (qv ops N listed p=true-> ∀s,N<=s.pa.length->OWx P ops.toList M p K s->PAx P ops M K f listed s):=by
 have full: ∀(p:Plan) (f:Nat) (listed:Array Bool),JR ops N p f listed=true->Wc ops listed->
  (∀s,N<=s.pa.length->OWx P ops.toList M p K s-> ∀i∈p.heads,POx P ops M i (fun s'=>(JW ops i=true->Xu P ops listed i s')/\PAx P ops M K (f-1) (listed.setIfInBounds i true) s') s)->
  qv ops N listed p=true-> ∀s,N<=s.pa.length->OWx P ops.toList M p K s->PAx P ops M K f listed s:=by
  intro p f listed hB hcl hh hf s hl hw;simp only[qv,DF] at hf;rcases hf with hf | hf;cases p with
  | step i ws rest=>
   simp only[J1z] at hf;cases hoi:ops[i]? with
   | none=>rw[hoi] at hf;cases hf
   | some oi=>
    rw[hoi] at hf;simp only at hf;cases hdi:oi.dst with
    | none=>rw[hdi] at hf;cases hf
    | some di=>
     rw[hdi] at hf;simp only[q_i,EM,BN,q_d,E0] at hf;obtain⟨⟨⟨hq,hown⟩,hN⟩,hall⟩:=hf;have hready:=X8 hB i (by simp[Plan.heads]);have hp:=hh s hl hw i (by simp[Plan.heads]);cases f with
     | zero=>exact absurd rfl hready.2
     | succ f=>
      unfold POx at hp;rw[hoi] at hp;have hMi:=w0k hq hp;obtain⟨u,hy,_,hrest⟩:=yl hq hp;refine q0i (di:=di) hoi hq hdi (by simpa using hown) hN hMi f listed s hl hcl (fun j oj hj hji hun hnr=> ?_) (fun k ok hk hkl hlo=> ?_) hready.1 hy (by simpa using hrest);have hlt:=(C3.1 hj).1;have:=hall j hlt;simp only[hj,FQ,hji,DF,q_i,hun,hnr,B3,false_or] at this;exact this.1;by_cases hki:k=i;subst hki;have:=(mem_ready.1 hready.1).1;rw[Q0v this] at hkl;cases hkl;have hlt:=(C3.1 hk).1;have:=hall k hlt;simp only[hk,FQ,hki,DF,q_i,hkl,hlo,FR,B3,false_or] at this;have h2:=this.2;simp only[EM,BV,ne_eq] at h2;exact⟨by simpa using h2.1,h2.2⟩
  | done=>cases hf
  | alt a b=>cases hf
  have hcov: ∀i∈Region.ready .any ops listed,i∈p.heads:=fun i hi=>by have:=List.all_eq_true.1 hf i hi;simpa using this
  have hnil:Region.ready .any ops listed= []->K s:=fun h0=>Q0t (by
   cases hp:p.heads with
   | nil=>rfl
   | cons i l=>
    have:=(X8 hB i (by rw[hp];simp)).1;rw[h0] at this;cases this) hw
  cases f with
  | zero=>
   have h0:Region.ready .any ops listed= []:=by
    cases hr:Region.ready .any ops listed with
    | nil=>rfl
    | cons i l=>exact absurd rfl (X8 hB i (hcov i (by rw[hr];simp))).2
   exact⟨h0,hnil h0⟩
  | succ f=>exact⟨hnil,fun i hi=>hh s hl hw i (hcov i hi)⟩
 intro p
 induction p with
 | done=>
  intro f listed hB hcl;have h1: ∀s,N<=s.pa.length->OWx P ops.toList M .done K s-> ∀i∈Plan.done.heads,POx P ops M i (fun s'=>(JW ops i=true->Xu P ops listed i s')/\PAx P ops M K (f-1) (listed.setIfInBounds i true) s') s:=fun s hl hw i hi=>(by cases hi);exact⟨h1,full .done f listed hB hcl h1⟩
 | step k ws rest ih=>
  intro f listed hB hcl;have h1: ∀s,N<=s.pa.length->OWx P ops.toList M (.step k ws rest) K s-> ∀i∈(Plan.step k ws rest).heads,POx P ops M i (fun s'=>(JW ops i=true->Xu P ops listed i s')/\PAx P ops M K (f-1) (listed.setIfInBounds i true) s') s:=by
   intro s hl hw i hi;have hready:=X8 hB i hi;simp only[Plan.heads,C0] at hi;subst hi;cases f with
   | zero=>exact absurd rfl hready.2
   | succ f=>
    simp only[JR,V0v,q_i,DF,q_d,E0] at hB;obtain⟨⟨_,hws⟩,hrB,hrF⟩:=hB;obtain⟨_,ih2⟩:=ih f (listed.setIfInBounds i true) hrB (Yy hcl hready.1);refine W1a (x1x (w0l hw)) ?_;rintro s' ⟨⟨hW,hO⟩,hlen⟩;refine⟨fun heff k ok hkl hok hkq hkl' hkr=> ?_,ih2 hrF s' oG hO⟩;rcases hws with hws | hws;rw[heff] at hws;cases hws;have:=hws k (C3.1 hok).1;simp only[hkl,hkr,hok,hkl',FR,B3,false_or,or_false] at this;exact jY hW k (by simpa using this) ok hok hkq
  exact⟨h1,full _ f listed hB hcl h1⟩
 | alt a b iha ihb=>
  intro f listed hB hcl;have hab:JR ops N a f listed=true/\JR ops N b f listed=true:=(by cases f<;>simpa[JR] using hB);have h1: ∀s,N<=s.pa.length->OWx P ops.toList M (.alt a b) K s-> ∀i∈(Plan.alt a b).heads,POx P ops M i (fun s'=>(JW ops i=true->Xu P ops listed i s')/\PAx P ops M K (f-1) (listed.setIfInBounds i true) s') s:=by intro s hl hw i hi;simp only[Plan.heads,DN] at hi;exact hi.elim ((iha f listed hab.1 hcl).1 s hl hw.1 i) ((ihb f listed hab.2 hcl).1 s hl hw.2 i)
  exact⟨h1,full _ f listed hB hcl h1⟩
theorem kj {E:Ent}{Q:Exit->Act->World->Prop}(hK: ∀a' w' g' F' s',FSRep E a' w' g' F' s'->K s'->Q .normal a' w'): ∀(f:Nat) (listed:Array Bool) (a:Act) (w:World) (g:Gh) (F:Fr) (s:PFS),
 FSRep E a w g F s->PAx P ops M K f listed s->wpAnyIn (fen E.rd) 0 P .any ops Q f listed a w:=by
 intro f
 induction f with
 | zero=>exact fun listed a w g F s hr h=>⟨h.1,hK a w g F s hr h.2⟩
 | succ f ih=>
  intro listed a w g F s hr h;refine⟨fun h0=>hK a w g F s hr (h.1 h0),fun i hi=> ?_⟩;have hp:=h.2 i hi;unfold POx at hp;unfold wpOpIn;cases hoi:ops[i]? with
  | none=>rw[hoi] at hp;exact hp.elim
  | some o=>
   rw[hoi] at hp;simp only at hp⊢;unfold PDm at hp;split at hp;obtain⟨hg,hp⟩:=hp;rw[BC (by simp[Region.wanted,hg])];exact yk hr hp fun a' w' g' F' s' hr' hk=>ih _ a' w' g' F' s' hr' hk.2;unfold POg at hp;split at hp;rename_i hg;rw[BC (by simp[Region.wanted,hg])];exact JL hr hp fun a' w' g' F' s' hr' hk=>ih _ a' w' g' F' s' hr' hk.2;rename_i j want hg;split at hp;rename_i b hb;have hy:=K4 hr hb;split at hp;rename_i he;subst he;rw[BC (by unfold Region.wanted;rw[hg];simp only;rw[hy];simp)];exact JL hr hp fun a' w' g' F' s' hr' hk=>ih _ a' w' g' F' s' hr' hk.2;rename_i he;rw[BA (by unfold Region.wanted;rw[hg];simp only;rw[hy];simp[he])];exact⟨Vx,ih _ _ w g F _ (hr.put o.dst (.base _ _ (Ws _ _))) hp.2⟩;exact hp.elim
end
theorem W0m {P:Program}{E:Ent}{id:Nat}{l:List Oper}{Q:Exit->PFS->Prop}{s:PFS}(hm:P.follows .mixedOrders=true)(N:Nat)(M:List Bool)(p:Plan)(hB:wF l.toArray N p=true)(hl:N<=s.pa.length)
 (h:OWx P l M p (Q .normal) s):PWP P E (.region id l.toArray true) Q s:=by
 intro a w g F hr;simp only[wF,q_i] at hB;have hcl:Wc l.toArray (Array.replicate l.toArray.size false):=fun k ok e hk hkl he hb=>by by_cases hkk:k<l.length<;>simp[hkk,q_f,Array.getElem?_replicate] at hkl
 have:=(yN (P:=P) (M:=M) (K:=Q .normal) p _ _ hB.1 hcl).2 hB.2 s hl (by simpa using h);exact wpIn_region_any hm (kj (fun a' w' g' F' s' hr' hk=>⟨g',F',s',hr',hk⟩) _ _ _ _ g F s hr.drew.1 this)
section
variable {P:Program} {s:PFS} {K:PFS->Prop} {d:Option Tmp} {ty:TypeId} {pos:String} {af:Array Edge} {M:List Bool}
def PGq (P:Program)(o:Oper)(K:PFS->Prop)[Stop o][Stop K](s:PFS):Prop:=xD P o K s
@[go_sem] theorem Y2p {x y:Operand}{t u:TypeId} :PGq P ⟨d,.call ⟨.builtin .append,[x,y].toArray,[t,u].toArray⟩,ty,pos,af,none⟩ K s=K0v (ti P t) (ti P u) (s.ev x) (s.ev y) s (fun p s'=>K (s'.put d p)):=(rfl)
def OX (P:Program)(ops:List Oper)(M:List Bool)(p:Plan)(K:PFS->Prop)[Stop ops][Stop p][Stop K](s:PFS):Prop:=OWx P ops M p K s
def OSX (P:Program)(ops:List Oper)(m:Bool)(o:Option Oper)(K:PFS->Prop)[Stop ops][Stop K](s:PFS):Prop:=J2m P ops m o K s
@[go_sem] theorem Y2r {ops:List Oper} :OX P ops M .done K s=K s:=(rfl)
@[go_sem] theorem Y2q {ops:List Oper}{i:Nat}{rest:Plan} :OX P ops M (.step i [] rest) K s=OSX P ops (M.getD i false) (ops[i]?) (OX P ops M rest K) s:=by simp only[OX,OWx,OSX,WL0,F9];rfl
@[go_sem] theorem J2n {ops:List Oper}{op:Op} :OSX P ops false (some ⟨d,op,ty,pos,af,none⟩) K s=OC P ⟨d,op,ty,pos,af,none⟩ K s:=(rfl)
@[go_sem] theorem J2o {ops:List Oper}{op:Op} :OSX P ops true (some ⟨d,op,ty,pos,af,none⟩) K s=PGq P ⟨d,op,ty,pos,af,none⟩ K s:=by show((none:Option (Nat×Bool))=none/\_)=_;simp only[F9];rfl
end
theorem vi {P:Program}{E:Ent}{id:Nat}{l:List Oper}{Q:Exit->PFS->Prop}{s:PFS}(M:List Bool)(hm:P.follows .mixedOrders=true)(N:Nat)(p:Plan)(hB:wF l.toArray N p=true)(hl:N<=s.pa.length)
 (h:OX P l M p (Q .normal) s):PWP P E (.region id l.toArray true) Q s:=W0m hm N M p hB hl h
theorem GrowTo.facts {st st':Qf}{j len cap sz j' cap':Nat}{es ys R:List PV}(h:GrowTo st j len cap ys sz j' cap' st')(hj:j<st.length)(hc:st.getD j []=flat es++R)(he:(flat es).length=len*sz)(hy:(flat ys).length=ys.length*sz)
 (hR:R.length=(cap-len)*sz) (hle:len<=cap):
 ∃R',st'.getD j' []=flat es++(flat ys++R')/\R'.length=(cap'-(len+ys.length))*sz/\len+ys.length<=cap'/\j'<st'.length/\(j'=j\/j'=st.length)/\st.length<=st'.length/\ ∀p,p<st.length->p≠j->st'.getD p []=st.getD p []:=by
 rcases h with ⟨h1,rfl,rfl,rfl⟩ | ⟨h1,h2,rfl,R',h3,rfl⟩;refine⟨R.drop (ys.length*sz),?_,?_,h1,by simpa using hj,.inl rfl,by simp,fun p hp hne=>Qo _ _ _ _ _ (fun e=>hne e.symm)⟩;rw[Qt _ _ _ _ hj,hc];unfold Zx;rw[<-he,List.take_left,List.drop_append,E7 oG,CQ,hy,show(flat es).length+ys.length*sz-(flat es).length=ys.length*sz from oG,BP];rw[DM,hR,<-Nat.sub_mul];congr 1;omega;refine⟨R',?_,h3,h2,by simp,.inr rfl,by simp,fun p hp hne=>Qk _ _ _ _ hp⟩;rw[Ql _ _ _ _ (BD _),DD,LD,hc,<-he,List.take_left]
theorem GrowOK.mk_one {cs:List PV}{len cap:Nat}{y:PV}{id:TypeId}{sz by_:Nat}{x y' z:Bool}(hz:(⟨id,sz,by_,x,y',z⟩:EI).zok=true)(h0:0<sz)(hc:cs.length=cap*sz)(hl:len<=100000)(hb:by_<=100000)(hy:y.cells.length=sz)(hok:y.cells.all PV.cellOK=true):
 GrowOK cs len cap [y] ⟨id,sz,by_,x,y',z⟩:=by
 refine⟨hz,h0,hc,by simp;omega,?_,by simp[hy,hok],by simp⟩;show(len+ [y].length)*by_<=_;have:(len+ [y].length)*by_<=100001*100000:=DW (by simp;omega) hb;omega
end Go.Pv
end
