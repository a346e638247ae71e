/- Walk. -/
import Derived.Test.YtfoiagbimnghjaaGreatDoorZBR
set_option linter.all false
section
namespace Go.Pv
theorem FSRep.store_new {E:Ent}{a:Act}{w:Lw}{g:Gh}{F:Fr}{s:PFS}(h:FSRep E a w g F s)(ty:Lt)(vs:Lb)(X:Lp)(hl:X.length<=vs.size)
 (hr: ∀j,j<X.length->Rep w g (vs.getD j undef) (X.getD j .junk)):
 ∃g',FSRep E a (w.alloc (.cells vs ty)) g' F { s with st:=s.st++ [X] } /\g'.mu s.st.length=w.heap.size/\s.st.length<g'.n:=by
 obtain⟨k,hz⟩:=IV w g (.cells vs ty) 0 h.store.none;obtain⟨h1,hm1⟩:=h.still k rfl hz
 let g1:Gh:= { g with vis:=fun b=>if b=w.heap.size then 0 else g.vis b }
 let g':Gh:= { g1 with n:=g.n+1,mu:=fun k=>if k=g.n then w.heap.size else g.mu k }
 have hmu: ∀k,k<g.n->g'.mu k=g.mu k:=fun k hk=>BA oG;have hmun:g'.mu g.n=w.heap.size:=BC rfl;have hLe:Le (w.alloc (.cells vs ty)) g1 (w.alloc (.cells vs ty)) g':=⟨Nat.le_succ _,hmu,fun _=>BD _,fun _ _ _ _ hc=>hc⟩;have htok:KN (w.alloc (.cells vs ty)) g1 F s.T (w.alloc (.cells vs ty)) g' F s.T:=⟨BD _,fun k hk=>⟨BD _,fun _ v es hR=>hR.mono fun b hb=>⟨rfl,rfl⟩⟩⟩;have hm: ∀v p,RepF (w.alloc (.cells vs ty)) g1 F s.T v p->RepF (w.alloc (.cells vs ty)) g' F s.T v p:=fun v p hr=>hr.mono hLe (BD _) (fun _ _=>rfl) htok;have en:s.st.length=g.n:=h.store.n.symm;have hst0: ∀j,j<g.n->(s.st++ [X]).getD j []=s.st.getD j []:=fun j hj=>(by rw[q_a,B6 oG,<-q_a]);have hst1:(s.st++ [X]).getD g.n []=X:=(by rw[q_a,CA oG,<-en];simp);have hsz:(w.alloc (.cells vs ty)).heap.size=w.heap.size+1:=(by simp);have hlt: ∀j,j<g.n->g.mu j<w.heap.size:=fun j hj=>h.store.lt j hj;have hst:StoreOK (w.alloc (.cells vs ty)) g' (s.st++ [X]):=(by refine⟨by simp[g',h.store.n],fun j k hj hk e=> ?_,fun j hj=> ?_,fun j hj hj0=> ?_,fun j hj=> ?_,hz,h1.store.tab⟩;have hj:j<g.n+1:=hj;have hk:k<g.n+1:=hk;by_cases e1:j=g.n;by_cases e2:k=g.n;omega;rw[e1,hmun,hmu k oG] at e;have:=hlt k oG;omega;by_cases e2:k=g.n;rw[e2,hmun,hmu j oG] at e;have:=hlt j oG;omega;rw[hmu j oG,hmu k oG] at e;exact h.store.inj j k oG oG e;have hj:j<g.n+1:=hj;by_cases e1:j=g.n;rw[e1,hmun,hsz];omega;rw[hmu j oG,hsz];have:=hlt j oG;omega;have hj:j<g.n+1:=hj;by_cases e1:j=g.n;rw[e1,hmun];exact BC rfl;rw[hmu j oG];rw[hst0 j oG] at hj0;exact h1.store.vis j (show j<g.n by omega) hj0;have hj:j<g.n+1:=hj;by_cases e1:j=g.n;subst e1;rw[hmun,hst1];intro k2 hk2;refine⟨World.frozen?_alloc_new w vs ty k2,vs.getD k2 undef,?_,?_⟩;rw[World.cell?_alloc_new,q_f,CW oG];rfl;exact((hr k2 hk2).mono k.le).mono hLe;rw[hmu j oG,hst0 j oG];exact(h1.store.holds j (show j<g.n by omega)).mono rfl fun v p hr=>hr.mono hLe);have hext:Ext E.w E.g (w.alloc (.cells vs ty)) g':=(by refine⟨h1.ext.le.trans hLe,h1.ext.os,h1.ext.tape,h1.ext.output,h1.ext.size,h1.ext.old,fun j q1 q2=> ?_⟩;have q2:j<g.n+1:=q2;by_cases e1:j=g.n;rw[e1,hmun];exact h.ext.size;rw[hmu j oG];exact h.ext.new j q1 oG);refine⟨g',⟨hext,hst,⟨h.frame.nl,fun k hk=>h1.frame.lo k hk,fun k hk j hj=> ?_,fun k j hk hj=>h.frame.inj k j hk hj,fun k hk=>(h1.frame.holds k hk).mono rfl hm,h1.frame.tlo,fun k b hk hb=>⟨fun j hj=> ?_,fun j hj=>(h.frame.tapart k b hk hb).2 j hj⟩,h.frame.tinj⟩,h.defers,h.len,fun t ht=>hm _ _ (h1.tmps t ht)⟩,by rw[en];exact hmun,by rw[en];exact Nat.lt_succ_self _⟩;have hj:j<g.n+1:=hj;by_cases e1:j=g.n;rw[e1,hmun];have:=(h.frame.lo k hk).2.1;omega;rw[hmu j oG];exact h.frame.apart k hk j oG;have hj:j<g.n+1:=hj;by_cases e1:j=g.n;rw[e1,hmun];have:=(h.frame.tlo k b hk hb).2.1;omega;rw[hmu j oG];exact(h.frame.tapart k b hk hb).1 j oG
def GrowOK (cs:List PV)(len cap:Nat)(ys:List PV)(e:EI):Prop:=
 e.zok=true/\0<e.sz/\cs.length=cap*e.sz/\len+ys.length<=1152921504606846976/\(len+ys.length)*e.by_<=140737488355328/\
  ys.all (fun x=>(x.cells.length==e.sz)&&x.cells.all PV.cellOK)=true/\0<ys.length
def GrowTo (st:Qd)(j len cap:Nat)(ys:List PV)(sz j' cap':Nat)(st':Qd):Prop:=
 (len+ys.length<=cap/\j'=j/\cap'=cap/\st'=st.set j (Qu (st.getD j []) (len*sz) (flat ys)))\/
 (cap<len+ys.length/\len+ys.length<=cap'/\j'=st.length/\ ∃R,R.length=(cap'-(len+ys.length))*sz/\st'=st++ [(st.getD j []).take (len*sz)++(flat ys++R)])
section
variable {P:Program} {E:Ent} {a:Act} {w:World} {g:Gh} {F:Fr} {s:PFS} {t tx e':TypeId} {e:EI}
theorem X0g (hu:P.underlying t=some (.slice e.id))(hei:ei P e.id=some e)(hu2:P.underlying tx=some (.slice e')){ys cs:Lp}{x:Value}{ty:Lt}{len cap:Nat}{base:Option Addr}{olds:Ps}
 (h:FSRep E a w g F s) (hx:Rep w g x (.sl .no ys)) (c1:e.zok=true) (c2:len+ys.length<=1152921504606846976) (c3:(len+ys.length)*e.by_<=140737488355328)
 (c5:ys.all (fun x=>(x.cells.length==e.sz)&&x.cells.all PV.cellOK)=true) (hcap:cap<len+ys.length) (hol:olds.length=len*e.sz) (hcl:len*e.sz<=cs.length)
 (hold:(Builtin.firstCells e.sz len (.slice base len cap)).run P w.drew= .ok olds.toArray w.drew) (hr: ∀m,m<len*e.sz->Rep w g (olds.getD m undef) (cs.getD m .junk)):
 ∃cap' R,len+ys.length<=cap'/\R.length=(cap'-(len+ys.length))*e.sz/\
  XP P E a w (do pure (.value (<-Builtin.append_ #[t,tx] ty #[.slice base len cap,x]))) (.gr s.st.length (len+ys.length) cap') { s with st:=s.st++ [cs.take (len*e.sz)++(flat ys++R)] } :=by
 obtain⟨news,hs⟩:=HZ (P:=P) hu2 hx c5;obtain⟨ti,u,hi,hu',he⟩:=K1 hei;have e1:ti.size=e.sz:=(by rw[he]);have e2:ti.bytes=e.by_:=(by rw[he]);obtain⟨z,hz,hzs⟩: ∃z,ti.zero=some z/\z.cells.size=ti.size:=by have:=B4 EI.zok he;rw[c1] at this;simp only at this;split at this;rename_i z hz;exact⟨z,hz,by simpa using this.symm⟩;cases this
 have hfl:=KJ hs.each;have hnl:news.length=ys.length*e.sz:=hs.src.newsLen;have hs0:=hs;rw[<-e1] at hs hold;have hrun:=run_append_grow_src (P:=P) w t tx ty e.id ti z hu hi hz base len cap olds hold x ys.length news hs.src hcap oG (growslice_fits hcap (by rw[e2];exact c3));generalize hvs:(olds++news).toArray++Builtin.zeroCells z.cells (grownCap w (len+ys.length) cap e.id-(len+ys.length))=vs at hrun;have hge:=grownCap_ge w (len+ys.length) cap e.id;generalize grownCap w (len+ys.length) cap e.id=C at*
 obtain⟨d1,d2⟩:=h.drew;have dle:=(x9 w g).le;have hvsz:vs.size=C*e.sz:=by rw[<-hvs,Array.size_append,size_zeroCells,hzs,e1];simp only[E2,BH,hol,hnl,<-BQ];congr 1;omega
 let R:=List.replicate ((C-(len+ys.length))*e.sz) PV.junk
 have hlenX:(cs.take (len*e.sz)).length=len*e.sz:=by rw[BX];omega
 have hX:(cs.take (len*e.sz)++(flat ys++R)).length=C*e.sz:=by rw[BH,BH,hlenX,hfl,ER,<-BQ,<-BQ];congr 1;omega
 obtain⟨g',f1,f2,f3⟩:=d1.store_new e.id vs (cs.take (len*e.sz)++(flat ys++R)) oG (fun m hm=>by by_cases h1:m<len*e.sz;have hlo:m<(olds++news).toArray.size:=(by simp only[E2,BH,hol];omega);rw[<-hvs,Array.getD_append_left' _ _ _ _ hlo,VO,QQ _ _ _ _ oG,QQ _ _ _ _ oG,WS _ _ _ _ h1];exact(hr m h1).mono dle;rw[Zl _ _ _ _ oG,hlenX];by_cases h2:m-len*e.sz<(flat ys).length;have h3:m-len*e.sz<ys.length*e.sz:=oG;have hlo:m<(olds++news).toArray.size:=(by simp only[E2,BH,hol];omega);rw[<-hvs,Array.getD_append_left' _ _ _ _ hlo,VO,Zl _ _ _ _ oG,hol,QQ _ _ _ _ h2,VQ hs0.each _ h3];exact(hs0.rep _ h3).mono dle;rw[Zl _ _ _ _ oG,X0o];exact .junk _);refine⟨C,R,hge,by simp[R],_,_,g',F,by simp only[Sem.run_bind,hrun,Result.andThen_ok,Sem.run_pure];rfl,f1,.inl ⟨_,rfl,?_⟩⟩;have:=Rep.gr (w:=w.drew.alloc (.cells vs e.id)) (g:=g') s.st.length (len+ys.length) C f3 hge;rw[f2] at this;exact .base _ _ this
theorem Q2z (hu:P.underlying t=some (.slice e.id))(hei:ei P e.id=some e)(hu2:P.underlying tx=some (.slice e')){ys:Lp}{v x:Value}{ty:Lt}{j len cap:Nat}
 (h:FSRep E a w g F s) (hv:RepF w g F s.T v (.gr j len cap)) (hx:Rep w g x (.sl .no ys)) (hok:GrowOK (s.st.getD j []) len cap ys e):
 ∃j' cap' st',GrowTo s.st j len cap ys e.sz j' cap' st'/\XP P E a w (do pure (.value (<-Builtin.append_ #[t,tx] ty #[v,x]))) (.gr j' (len+ys.length) cap') { s with st:=st' } :=by
 obtain⟨c1,c0,cl,c2,c3,c5,c6⟩:=hok;obtain⟨news,hs⟩:=HZ (P:=P) hu2 hx c5;obtain⟨ti,u,hi,hu',he⟩:=K1 hei;have e1:ti.size=e.sz:=(by rw[he]);have hfl:=KJ hs.each;have hnl:news.length=ys.length*e.sz:=hs.src.newsLen;have hs0:=hs;rw[<-e1] at hs;obtain⟨hjn,hle,rfl⟩:j<g.n/\len<=cap/\v= .slice (some ⟨g.mu j,0,none⟩) len cap:=by
  cases hv with
  | base _ _ h=>cases h with | gr i len cap hi hcap=>exact⟨hi,hcap,rfl⟩
 have hh:=h.store.holds j hjn;by_cases hroom:len+ys.length<=cap;have hne:s.st.getD j []≠ []:=fun e0=>by rw[e0] at cl;have:=Nat.mul_pos (show 0<cap by omega) c0;simp at cl;omega
 have hfit:len*e.sz+(flat ys).length<=(s.st.getD j []).length:=by rw[hfl,cl,<-BQ];exact BG _ hroom
 have hrun:=run_append_room_src (P:=P) w t tx ty e.id ti hu hi (g.mu j) 0 len cap x ys.length news hs.src hroom (fun k hk=>by obtain⟨_,c,q2,_⟩:=hh (0+len*ti.size+k) (by rw[e1];omega);rw[q2];rfl) (fun k hk=>(hh (0+len*ti.size+k) (by rw[e1];omega)).1);rw[e1,CU] at hrun;have f1:=h.storeG h.ext.le.n j (len*e.sz) news (flat ys) (by rw[hnl,hfl]) hjn hne hfit (fun k hk=>by have hk':k<ys.length*e.sz:=oG;rw[VQ hs0.each k hk'];exact hs0.rep k hk');exact⟨j,cap,_,.inl ⟨hroom,rfl,rfl,rfl⟩,_,_,g,F,by simp only[Sem.run_bind,hrun,Result.andThen_ok,Sem.run_pure],f1,.inl ⟨_,rfl,.base _ _ (.gr j _ cap hjn hroom)⟩⟩;obtain⟨cf,hcf⟩:=hh.pick;have hle2:len*e.sz<=(s.st.getD j []).length:=(by rw[cl];exact BG _ hle);obtain⟨cap',R,q1,q2,q3⟩:=X0g (ty:=ty) (cs:=s.st.getD j []) (base:=some ⟨g.mu j,0,none⟩) (olds:=(List.range (len*e.sz)).map cf) hu hei hu2 h hx c1 c2 c3 c5 oG (by simp) hle2
  (run_firstCells_some w.drew e.sz len ⟨g.mu j,0,none⟩ len cap _ (by simp) (fun k u hk=>by
   rw[Addr.add_mid,World.cell?_drew,CU];have hk':k<len*e.sz:=by have:=(FB.1 hk).1;simpa using this
   rw[(hcf k oG).1];simp[EB hk'] at hk;rw[hk]))
  (fun m hm=>by have e0:((List.range (len*e.sz)).map cf).getD m undef=cf m:=(by simp[q_a,hm]);rw[e0];exact(hcf m oG).2)
 exact⟨s.st.length,cap',_,.inr ⟨oG,q1,rfl,R,q2,rfl⟩,q3⟩
theorem Z2b (hu:P.underlying t=some (.slice e.id))(hei:ei P e.id=some e)(hu2:P.underlying tx=some (.slice e')){es ys:Lp}{v x:Value}{ty:Lt}
 (h:FSRep E a w g F s) (hv:RepF w g F s.T v (.sl .full es)) (hx:Rep w g x (.sl .no ys)) (hok:GrowOK (flat es) es.length es.length ys e):
 ∃cap' R,es.length+ys.length<=cap'/\R.length=(cap'-(es.length+ys.length))*e.sz/\XP P E a w (do pure (.value (<-Builtin.append_ #[t,tx] ty #[v,x]))) (.gr s.st.length (es.length+ys.length) cap') { s with st:=s.st++ [flat es++(flat ys++R)] } :=by
 obtain⟨c1,c0,cl,c2,c3,c5,c6⟩:=hok;have fin: ∀(base:Option Addr) (olds:Ps),v= .slice base es.length es.length->olds.length=es.length*e.sz->(Builtin.firstCells e.sz es.length (.slice base es.length es.length)).run P w.drew= .ok olds.toArray w.drew->
  (∀m,m<es.length*e.sz->Rep w g (olds.getD m undef) ((flat es).getD m .junk))-> ∃cap' R,es.length+ys.length<=cap'/\R.length=(cap'-(es.length+ys.length))*e.sz/\XP P E a w (do pure (.value (<-Builtin.append_ #[t,tx] ty #[v,x]))) (.gr s.st.length (es.length+ys.length) cap') { s with st:=s.st++ [flat es++(flat ys++R)] } :=fun base olds hv1 h1 h2 h3=>by
  subst hv1;have:=X0g (ty:=ty) (cs:=flat es) (base:=base) (len:=es.length) (cap:=es.length) (olds:=olds) hu hei hu2 h hx c1 c2 c3 c5 oG h1 oG h2 h3;rwa [BF oG] at this
 rcases Nat.eq_zero_or_pos es.length with h0 | h0;have he:es= []:=BY h0;subst he;obtain⟨ad,rfl⟩:=X0s hv;exact fin ad [] rfl (by simp) (by cases ad with
  | none=>exact run_firstCells_none _ _ _ _ _
  | some a=>simp[Builtin.firstCells,loadCells,loadCellsFrom]) fun m hm=>by simp at hm
 have h':Rep w g v (.sl .full es):=by cases hv with | base _ _ h=>exact h
 cases h' with
 | nil t ad ht=>simp at h0
 | sl _ _ b off sz cap cf ht hf hcap hsz hvis hc hr=>
  have e0:=hf rfl;subst e0;have hfl:=KJ hsz;have es0:sz=e.sz:=Nat.eq_of_mul_eq_mul_left h0 (by rw[<-hfl,cl]);subst es0;refine fin (some ⟨b,off,none⟩) ((List.range (es.length*e.sz)).map fun m=>cf (m/e.sz) (m % e.sz)) rfl (by simp) (run_firstCells_some w.drew e.sz es.length ⟨b,off,none⟩ es.length es.length _ (by simp) (fun k u hk=> ?_)) (fun m hm=> ?_);rw[Addr.add_mid,World.cell?_drew];have hk':k<es.length*e.sz:=by have:=(FB.1 hk).1;simpa using this
  have q1:=DE (show k<e.sz*es.length by rw[BM];exact hk');have q2:=hc (k/e.sz) (k % e.sz) q1 (CG _ c0);have q3:=D5 k e.sz;rw[BM] at q3;rw[show off+k/e.sz*e.sz+k % e.sz=off+k by omega] at q2;rw[q2];simp[EB hk'] at hk;rw[hk];have q1:=DE (show m<e.sz*es.length by rw[BM];exact hm);have q0:((List.range (es.length*e.sz)).map fun m=>cf (m/e.sz) (m % e.sz)).getD m undef=cf (m/e.sz) (m % e.sz):=(by simp[q_a,hm]);rw[q0,VQ hsz m hm];exact hr _ _ q1 (CG _ c0)
end
def Yw (P:Program)(T:Option TI)(x y:PV)(s:PFS)(K:PV->PFS->Prop):Prop:=
 match T,x,y with
 | some ⟨_,_,.slice e,_⟩,.sc (.int .i64 n),.sc (.int .i64 c)=>
  match ti P e.id with
  | some ⟨_,_,_,some (.slice none 0 0)⟩=>(0<=n/\n=c/\n.toNat*e.by_<=140737488355328/\n<=9223372036854775807/\e.sz=1)/\K (.ms true s.st.length 0 n.toNat) { s with st:=s.st++ [List.replicate n.toNat (.sl .full [])] }
  | _=>False
 | _,_,_=>False
theorem V1k {P:Pg}{E:Ent}{a:Act}{w:Lw}{g:Gh}{F:Fr}{s:PFS}{t:Lt}{x y:PV}{v u:Value}{K:Pw}(h:FSRep E a w g F s)(hq:Yw P (ti P t) x y s K)(hx:RepF w g F s.T v x)(hy:RepF w g F s.T u y):
 ∃p s',K p s'/\XP P E a w (do pure (.value (<-Instr.makeSlice t v u))) p s':=by
 unfold Yw at hq;split at hq;rotate_left;exact hq.elim;rename_i e _ n c hT;obtain⟨_,_,_,hu,hT'⟩:=QS hT;obtain⟨rfl,hei⟩:=ZK (B4 TI.ud hT').symm;split at hq;rotate_left;exact hq.elim;rename_i T3 hTe;obtain⟨⟨c1,rfl,c3,c4,c6⟩,hk⟩:=hq;have:=hx.sc_inv;subst this;have:=hy.sc_inv;subst this;obtain⟨i,u2,hi,hu2,he⟩:=K1 hei;have e1:i.size=1:=(by rw[<-c6,he]);have e2:i.bytes=e.by_:=(by rw[he]);have hzi:i.zero=some (.slice none 0 0):=by obtain⟨i',_,hi',_,hT2⟩:=QS hTe;rw[hi] at hi';cases hi';exact(B4 TI.zero hT2).symm
 have hby:(i.bytes:Int)*n<=281474976710656:=by obtain⟨m,rfl⟩:=EE c1;simp only[FV] at c3;have h2:((m*e.by_:Nat):Int)<=((140737488355328:Nat):Int):=Int.ofNat_le.2 c3;rw[CN,Int.mul_comm] at h2;rw[e2];omega
 have hrun:=run_make (P:=P) w t e.id i (.slice none 0 0) hu hi hzi .i64 .i64 n n c1 (Int.le_refl _) hby c4;have hzc:Value.cells (.slice none 0 0)= #[.slice none 0 0]:=rfl;have hsz:(madeCells (Value.cells (.slice none 0 0)) (n.toNat*i.size)).size=n.toNat:=(by rw[size_madeCells,e1,EJ]);have hget: ∀j,j<n.toNat->(madeCells (Value.cells (.slice none 0 0)) (n.toNat*i.size)).getD j undef= .slice none 0 0:=fun j hj=>by rw[hzc,e1,EJ,q_f];unfold madeCells;rw[Array.getElem?_map,Array.getElem?_range,BC hj];simp[FY]
 obtain⟨g',f1,f2,f3⟩:=h.store_new e.id (madeCells (Value.cells (.slice none 0 0)) (n.toNat*i.size)) (List.replicate n.toNat (.sl .full [])) (by rw[hsz];simp) (fun j hj=>by have hj':j<n.toNat:=(by simpa using hj);rw[hget j hj'];have e3:(List.replicate n.toNat (PV.sl .full [])).getD j .junk= .sl .full []:=(by simp[q_a,hj']);rw[e3];exact .nil _ _ rfl);refine⟨_,_,hk,_,_,g',F,by simp only[Sem.run_bind,hrun,Result.andThen_ok,Sem.run_pure];rfl,f1,.inl ⟨_,rfl,?_⟩⟩;rw[<-f2];exact .base _ _ (.gms _ _ _ _ f3 (BD _))
def xD (T:Option TI)(x:PV)(s:PFS)(K:PV->PFS->Prop):Prop:=
 match T,x with
 | some ⟨_,_,.slice e,_⟩,.sl _ es=>(e.sz=1/\e.zok=true)/\K (.gr s.st.length 1 1) { s with st:=s.st++ [[.sl .no es]] }
 | _,_=>False
theorem y1n {P:Pg}{E:Ent}{a:Act}{w:Lw}{g:Gh}{F:Fr}{s:PFS}{t:Lt}{x:PV}{v:Value}{K:Pw}(h:FSRep E a w g F s)(hq:xD (ti P t) x s K)(hv:RepF w g F s.T v x):
 ∃p s',K p s'/\XP P E a w (do pure (.value (<-Instr.buildSlice t 1 [(0,v)].toArray))) p s':=by
 unfold xD at hq;split at hq;rotate_left;exact hq.elim;rename_i e _ tg es hT;obtain⟨⟨c1,c3⟩,hk⟩:=hq;obtain⟨i',u,hi',hu,hT'⟩:=QS hT;obtain⟨rfl,hei⟩:=ZK (B4 TI.ud hT').symm;have hrep:Rep w g v (.sl .no es):=hv.slNo;have hcv:v.cells= #[v]:=(by cases hrep<;>rfl);obtain⟨i2,u2,hi2,hu2,e2⟩:=K1 hei;have hsz2:i2.size=e.sz:=(by rw[e2]);obtain⟨z,hz,hzs⟩: ∃z,i2.zero=some z/\z.cells.size=i2.size:=by have:=B4 EI.zok e2;rw[c3] at this;simp only at this;split at this;rename_i z hz;exact⟨z,hz,by simpa using this.symm⟩;cases this
 have hfill:=xh e.sz [(0,v)] 0 ((Array.range (1*e.sz)).map (fun i=>(if 1*e.sz=0 then #[] else z.cells)[i % (if 1*e.sz=0 then #[] else z.cells).size]!)) (by rfl) (fun j hj=>by have:j=0:=(by simpa using hj);subst this;show v.cells.size=e.sz;rw[hcv,c1];rfl) (by simp);obtain⟨cells',f1,f2,f3,f4⟩:=hfill;have hrun:(Instr.buildSlice t 1 [(0,v)].toArray).run P w= .ok (.slice (some ⟨w.heap.size,0,none⟩) 1 1) (w.alloc (.cells cells' e.id)):=(by unfold Instr.buildSlice;simp only[Sem.run_bind,run_underlying hu,Result.andThen_ok,Wv hei];rw[BA oG];have h0: ¬(e.sz=0):=oG;have h0': ¬(1*e.sz=0):=oG;simp only[h0,h0',DT,Sem.run_bind,zeroValue,typeInfo,hi2,hz,Sem.run_pure,Result.andThen_ok,CY] at f1⊢;simp[hi2,hz,f1,newRow,newObj,Sem.run]);obtain⟨g',r1,r2,r3⟩:=h.store_new e.id cells' [.sl .no es] (by rw[f2,Array.size_map,Array.size_range,c1];exact BD _) (fun m hm=>by have hm0:m=0:=(by simpa using hm);subst hm0;have hc:=f4 0 0 (by simp) oG;simp only[CU,DC] at hc;rw[hc];show Rep w g (v.cells.getD 0 undef) (.sl .no es);rw[hcv];exact hrep);refine⟨_,_,hk,_,_,g',F,by simp only[Sem.run_bind,hrun,Result.andThen_ok,Sem.run_pure];rfl,r1,.inl ⟨_,rfl,?_⟩⟩;rw[<-r2];exact .base _ _ (.gr _ _ _ r3 (BD _))
def HB (T U:Option TI)(x y:PV)(s:PFS)(K:PV->PFS->Prop):Prop:=
 match T,U,x,y with
 | some ⟨_,_,.slice e,_⟩,some ⟨_,_,.slice _,_⟩,.gr j len cap,.sl _ ys=>GrowOK (s.st.getD j []) len cap ys e/\ ∀j' cap' st',GrowTo s.st j len cap ys e.sz j' cap' st'->K (.gr j' (len+ys.length) cap') { s with st:=st' }
 | some ⟨_,_,.slice e,_⟩,some ⟨_,_,.slice _,_⟩,.sl .full es,.sl _ ys=>GrowOK (flat es) es.length es.length ys e/\ ∀cap' R,es.length+ys.length<=cap'->R.length=(cap'-(es.length+ys.length))*e.sz->K (.gr s.st.length (es.length+ys.length) cap') { s with st:=s.st++ [flat es++(flat ys++R)] }
 | _,_,_,_=>False
def Ju (P:Program)(o:Oper)(K:PFS->Prop)(s:PFS):Prop:=
 match o.op with
 | .call { callee:= .builtin .append,args,argTypes } =>
  match argTypes.toList,args.toList with
  | [t,u],[x,y]=>HB (ti P t) (ti P u) (s.ev x) (s.ev y) s (fun p s'=>K (s'.put o.dst p))
  | _,_=>False
 | .makeSlice t l c=>Yw P (ti P t) (s.ev l) (s.ev c) s (fun p s'=>K (s'.put o.dst p))
 | _=>False
def xQ (P:Program)(o:Oper)(K:PFS->Prop)(s:PFS):Prop:=
 match o.op with
 | .buildSlice t 1 parts=>
  match parts.toList with
  | [(0,x)]=>xD (ti P t) (s.ev x) s (fun p s'=>K (s'.put o.dst p))
  | _=>False
 | _=>Ju P o K s
theorem X2g {P:Pg}{E:Ent}{a:Act}{w:Lw}{g:Gh}{F:Fr}{s:PFS}{o:Oper}{K:Pf}(h:FSRep E a w g F s)(hp:Ju P o K s){next:Act->World->Prop}{Q:Pt}
 (hn: ∀a' w' g' F' s',FSRep E a' w' g' F' s'->K s'->next a' w'):o.wp P a w next Q:=by
 unfold Ju at hp;split at hp;rotate_left;rename_i t l c heq;obtain⟨p,s',hk,nx,w',g',F',r1,r2,r3⟩:=V1k h hp (h.ev l) (h.ev c);unfold Oper.wp;have hex:(execOp a.eval o).run P w= .ok nx w':=by rw[<-r1];unfold execOp;simp only[heq]
 rw[hex];rcases r3 with ⟨v,rfl,hv⟩ | ⟨rfl,hj⟩;exact hn _ _ _ _ _ (r2.put o.dst hv) hk;subst hj;exact hn _ _ _ _ _ (r2.put o.dst (.base _ _ (.junk _))) hk;exact hp.elim;rename_i args ts heq;split at hp;rotate_left;exact hp.elim;rename_i t u o1 o2 hts hargs;have ha:args= #[o1,o2]:=(by rw[<-hargs]);have ht:ts= #[t,u]:=(by rw[<-hts]);have hex: ∀nx w',(do pure (Next.value (<-Builtin.append_ #[t,u] o.type (Array.map a.eval #[o1,o2]))):Sem Next).run P w= .ok nx w'->(execOp a.eval o).run P w= .ok nx w':=fun nx w' r1=>by subst ha ht;unfold execOp;simp only[heq,resolve,invoke,Sem.run_bind,Sem.run_pure,Result.andThen_ok];show(do pure (Next.value (<-Builtin.append_ #[t,u] o.type (Array.map a.eval #[o1,o2]))):Sem Next).run P w=_;exact r1
 unfold HB at hp;split at hp;rename_i e _ _ _ e2 _ j len cap tg ys hT hU h1 h2;obtain⟨c1,hk⟩:=hp;obtain⟨_,_,_,hu,hT'⟩:=QS hT;obtain⟨rfl,hei⟩:=ZK (B4 TI.ud hT').symm;obtain⟨_,_,_,hu2,hU'⟩:=QS hU;obtain⟨rfl,_⟩:=ZK (B4 TI.ud hU').symm;have hv:=h.ev o1;rw[h1] at hv;have hx:=h.ev o2;rw[h2] at hx;obtain⟨j',cap',st',hg,nx,w',g',F',r1,r2,r3⟩:=Q2z (P:=P) (ty:=o.type) hu hei hu2 h hv hx.slNo c1;unfold Oper.wp;rw[hex nx w' (by rw[<-r1];simp)];rcases r3 with ⟨v,rfl,hv⟩ | ⟨rfl,hj⟩;exact hn _ _ _ _ _ (r2.put o.dst hv) (hk j' cap' st' hg);cases hj;rename_i e _ _ _ e2 _ es tg ys hT hU h1 h2;obtain⟨c1,hk⟩:=hp;obtain⟨_,_,_,hu,hT'⟩:=QS hT;obtain⟨rfl,hei⟩:=ZK (B4 TI.ud hT').symm;obtain⟨_,_,_,hu2,hU'⟩:=QS hU;obtain⟨rfl,_⟩:=ZK (B4 TI.ud hU').symm;have hv:=h.ev o1;rw[h1] at hv;have hx:=h.ev o2;rw[h2] at hx;obtain⟨cap',R,hc1,hc2,nx,w',g',F',r1,r2,r3⟩:=Z2b (P:=P) (ty:=o.type) hu hei hu2 h hv hx.slNo c1;unfold Oper.wp;rw[hex nx w' (by rw[<-r1];simp)];rcases r3 with ⟨v,rfl,hv⟩ | ⟨rfl,hj⟩;exact hn _ _ _ _ _ (r2.put o.dst hv) (hk cap' R hc1 hc2);cases hj;exact hp.elim
theorem X2j {P:Pg}{o:Oper}{K:Pf}{s:PFS}(hp:Ju P o K s): ∀c,o.op≠ .defer c:=by intro c hc;unfold Ju at hp;rw[hc] at hp;exact hp
theorem U0h {P:Pg}{E:Ent}{a:Act}{w:Lw}{g:Gh}{F:Fr}{s:PFS}{o:Oper}{K:Pf}(h:FSRep E a w g F s)(hp:Ju P o K s){next:Act->World->Prop}{Q:Pt}
 (hn: ∀a' w' g' F' s',FSRep E a' w' g' F' s'->K s'->next a' w'):o.wpIn (fen E.rd) 0 P a w next Q:=
 HH E.rd (X2j hp) (X2g h hp hn)
theorem X2f {P:Pg}{E:Ent}{a:Act}{w:Lw}{g:Gh}{F:Fr}{s:PFS}{o:Oper}{K:Pf}(h:FSRep E a w g F s)(hp:xQ P o K s){next:Act->World->Prop}{Q:Pt}
 (hn: ∀a' w' g' F' s',FSRep E a' w' g' F' s'->K s'->next a' w'):o.wpIn (fen E.rd) 0 P a w next Q:=by
 unfold xQ at hp;split at hp
 . rename_i t parts heq;refine HH E.rd (fun c hc=>by rw[heq] at hc;cases hc) ?_;split at hp;rotate_left;exact hp.elim;rename_i _ x hps;have hpa:parts= #[(0,x)]:=(by rw[<-hps]);obtain⟨p,s',hk,nx,w',g',F',r1,r2,r3⟩:=y1n h hp (h.ev x);unfold Oper.wp;have hex:(execOp a.eval o).run P w= .ok nx w':=by rw[<-r1];subst hpa;unfold execOp;simp only[heq];simp
   rw[hex];rcases r3 with ⟨v,rfl,hv⟩ | ⟨rfl,hj⟩;exact hn _ _ _ _ _ (r2.put o.dst hv) hk;subst hj;exact hn _ _ _ _ _ (r2.put o.dst (.base _ _ (.junk _))) hk
 exact U0h h hp hn
def Um (P:Program)(ops:List Oper):List Bool->List Oper->(PFS->Prop)->PFS->Prop
 | _,[],K,s=>K s
 | [],rest,K,s=>OL0 P ops rest K s
 | true::bs,o::rest,K,s=>o.guard=none/\xQ P o (Um P ops bs rest K) s
 | false::bs,o::rest,K,s=>
  match o.guard with
  | none=>OC0 P o (Um P ops bs rest K) s
  | some (j,want)=>GK0 (ZR ops s j want) want (OC0 P o (Um P ops bs rest K) s) (Um P ops bs rest K (s.put o.dst (.tup [])))
theorem yB {P:Pg}{E:Ent}{ops:La}{Q:Pt}{K:Pf}(hK: ∀a' w' g' F' s',FSRep E a' w' g' F' s'->K s'->Q .normal a' w'):
 ∀(bs:Ld) (rest:Lo) (a:Act) (w:Lw) (g:Gh) (F:Fr) (s:PFS),FSRep E a w g F s->Um P ops.toList bs rest K s->wpListIn (fen E.rd) 0 P ops Q rest a w
 | bs,[],a,w,g,F,s,h,hp=>hK a w g F s h (by unfold Um at hp;exact hp)
 | [],o::rest,a,w,g,F,s,h,hp=>HD hK (o::rest) a w g F s h (HF hp)
 | true::bs,o::rest,a,w,g,F,s,h,hp=>by obtain⟨hg,hp⟩:=hp;have ih:=yB (P:=P) (ops:=ops) hK bs rest;unfold wpListIn;rw[BC (by simp[Region.wanted,hg])];exact X2f h hp fun a' w' g' F' s' hr hk=>ih a' w' g' F' s' hr hk
 | false::bs,o::rest,a,w,g,F,s,h,hp=>by
  have ih:=yB (P:=P) (ops:=ops) hK bs rest;unfold Um at hp;unfold wpListIn;cases hg:o.guard with
  | none=>
   rw[hg] at hp;rw[BC (by simp[Region.wanted,hg])];exact V5 h (Y7 hp) fun a' w' g' F' s' hr hk=>ih a' w' g' F' s' hr hk
  | some x=>
   obtain⟨j,want⟩:=x;rw[hg] at hp;simp only at hp;cases hb:ZR ops.toList s j want with
   | none=>rw[hb] at hp;exact hp.elim
   | some b=>
    rw[hb] at hp;obtain⟨h1,h2⟩:=hp;have hy:=UX h hb;by_cases e:b=want;have hx:=h1 e;subst e;rw[BC (by unfold Region.wanted;rw[hg];simp only;rw[hy];simp)];exact V5 h (Y7 hx) fun a' w' g' F' s' hr hk=>ih a' w' g' F' s' hr hk;rw[BA (by unfold Region.wanted;rw[hg];simp only;rw[hy];simp[e])];exact⟨Yz,ih _ w g F _ (h.put o.dst (.base _ _ (U9 _ _))) (h2 e)⟩
def OLg (P:Program)(ops:List Oper)(bs:List Bool)(rest:List Oper)(K:PFS->Prop)[Stop ops][Stop rest][Stop K](s:PFS):Prop:=Um P ops bs rest K s
def PGr (P:Program)(o:Oper)(K:PFS->Prop)[Stop o][Stop K](s:PFS):Prop:=xQ P o K s
theorem Yq {P:Pg}{E:Ent}{id:Nat}{l:Lo}{Q:Pe}{s:PFS}(bs:Ld)(h:OLg P l bs l (Q .normal) s):PWP P E (.region id l.toArray false) Q s:=fun a w g F hr=>
 wpIn_region_list (yB (fun a' w' g' F' s' hr' hk=>⟨g',F',s',hr',hk⟩) bs l a w g F s hr h)
section
variable {P:Program} {s:PFS} {K:PFS->Prop} {d:Option Tmp} {ty:TypeId} {pos:String} {af:Array Edge} {pa:List PV} {L st:Qd} {T:List (Nat×Nat)}
@[go_sem] theorem j2i {ops:Lo}{bs:Ld} :OLg P ops bs [] K s=K s:=by cases bs<;>rfl
@[go_sem] theorem j2l {ops rest:Lo} :OLg P ops [] rest K s=OL P ops rest K s:=by cases rest<;>rfl
@[go_sem] theorem j2h {ops rest:Lo}{bs:Ld}{op:Op} :OLg P ops (true::bs) (⟨d,op,ty,pos,af,none⟩::rest) K s=PGr P ⟨d,op,ty,pos,af,none⟩ (OLg P ops bs rest K) s:=by show((none:Option (Nat×Bool))=none/\_)=_;simp only[LD];rfl
@[go_sem] theorem j2k {ops rest:Lo}{bs:Ld}{op:Op} :OLg P ops (false::bs) (⟨d,op,ty,pos,af,none⟩::rest) K s=OC P ⟨d,op,ty,pos,af,none⟩ (OLg P ops bs rest K) s:=(rfl)
@[go_sem] theorem j2j {ops rest:Lo}{bs:Ld}{op:Op}{j:Nat}{want:Bool} :OLg P ops (false::bs) (⟨d,op,ty,pos,af,some (j,want)⟩::rest) K s=
 GK (ZR ops s j want) want (OC P ⟨d,op,ty,pos,af,some (j,want)⟩ (OLg P ops bs rest K) s) (OLg P ops bs rest K (s.put d (.tup []))):=rfl
def qh (T U:Option TI)(x y:PV)(s:PFS)(K:PV->PFS->Prop)[Stop K]:Prop:=HB T U x y s K
@[go_sem] theorem x2n {x y:Operand}{t u:Lt} :PGr P ⟨d,.call ⟨.builtin .append,[x,y].toArray,[t,u].toArray⟩,ty,pos,af,none⟩ K s=qh (ti P t) (ti P u) (s.ev x) (s.ev y) s (fun p s'=>K (s'.put d p)):=(rfl)
@[go_sem] theorem z2o {e e':EI}{x1 y1:Bool}{x2 y2:Nat}{x4 y4:Pr}{t:Tag}{j len cap:Nat}{ys:Lp}{K:Pw} :qh (some ⟨x1,x2,.slice e,x4⟩) (some ⟨y1,y2,.slice e',y4⟩) (.gr j len cap) (.sl t ys) (PFS.mk pa L T st) K=
 (GrowOK (st.getD j []) len cap ys e/\ ∀j' cap' st',GrowTo st j len cap ys e.sz j' cap' st'->K (.gr j' (len+ys.length) cap') (PFS.mk pa L T st')):=(rfl)
@[go_sem] theorem z2n {e e':EI}{x1 y1:Bool}{x2 y2:Nat}{x4 y4:Pr}{t:Tag}{ys:Lp}{K:Pw} :qh (some ⟨x1,x2,.slice e,x4⟩) (some ⟨y1,y2,.slice e',y4⟩) (.sl .full []) (.sl t ys) (PFS.mk pa L T st) K=
 (GrowOK [] 0 0 ys e/\ ∀cap' R,ys.length<=cap'->R.length=(cap'-ys.length)*e.sz->K (.gr st.length ys.length cap') (PFS.mk pa L T (st++ [flat ys++R]))):=by
 show(GrowOK (flat []) ([]:Lp).length ([]:Lp).length ys e/\ ∀cap' R,([]:Lp).length+ys.length<=cap'->R.length=(cap'-(([]:Lp).length+ys.length))*e.sz->K (.gr st.length (([]:Lp).length+ys.length) cap') (PFS.mk pa L T (st++ [flat []++(flat ys++R)])))=_;rw[show([]:Lp).length+ys.length=ys.length from CU _];rfl
theorem Z2a {e e':EI}{x1 y1:Bool}{x2 y2:Nat}{x4 y4:Pr}{t:Tag}{es ys:Lp}{K:Pw} :qh (some ⟨x1,x2,.slice e,x4⟩) (some ⟨y1,y2,.slice e',y4⟩) (.sl .full es) (.sl t ys) (PFS.mk pa L T st) K=
 (GrowOK (flat es) es.length es.length ys e/\ ∀cap' R,es.length+ys.length<=cap'->R.length=(cap'-(es.length+ys.length))*e.sz->K (.gr st.length (es.length+ys.length) cap') (PFS.mk pa L T (st++ [flat es++(flat ys++R)]))):=(rfl)
def vf (P:Program)(T:Option TI)(x y:PV)(s:PFS)(K:PV->PFS->Prop)[Stop K]:Prop:=Yw P T x y s K
def Q0l (T:Option TI)(e:EI)(n c:Int)(s:PFS)(K:PV->PFS->Prop)[Stop K]:Prop:=
 match T with
 | some ⟨_,_,_,some (.slice none 0 0)⟩=>(0<=n/\n=c/\n.toNat*e.by_<=140737488355328/\n<=9223372036854775807/\e.sz=1)/\K (.ms true s.st.length 0 n.toNat) { s with st:=s.st++ [List.replicate n.toNat (.sl .full [])] }
 | _=>False
@[go_sem] theorem x2l {x y:Operand}{t:Lt} :PGr P ⟨d,.makeSlice t x y,ty,pos,af,none⟩ K s=vf P (ti P t) (s.ev x) (s.ev y) s (fun p s'=>K (s'.put d p)):=(rfl)
@[go_sem] theorem V2n {e:EI}{x1:Bool}{x2:Nat}{x4:Pr}{n c:Int}{K:Pw} :vf P (some ⟨x1,x2,.slice e,x4⟩) (.sc (.int .i64 n)) (.sc (.int .i64 c)) s K=Q0l (ti P e.id) e n c s K:=(rfl)
@[go_sem] theorem V2o {e:EI}{y1:Bool}{y2:Nat}{y3:UD}{n c:Int}{K:Pw} :Q0l (some ⟨y1,y2,y3,some (.slice none 0 0)⟩) e n c (PFS.mk pa L T st) K=
 ((0<=n/\n=c/\n.toNat*e.by_<=140737488355328/\n<=9223372036854775807/\e.sz=1)/\K (.ms true st.length 0 n.toNat) (PFS.mk pa L T (st++ [List.replicate n.toNat (.sl .full [])]))):=(rfl)
def W0t (T:Option TI)(x:PV)(s:PFS)(K:PV->PFS->Prop)[Stop K]:Prop:=xD T x s K
@[go_sem] theorem x2m {x:Operand}{t:Lt} :PGr P ⟨d,.buildSlice t 1 [(0,x)].toArray,ty,pos,af,none⟩ K s=W0t (ti P t) (s.ev x) s (fun p s'=>K (s'.put d p)):=(rfl)
@[go_sem] theorem q2f {e:EI}{x1:Bool}{x2:Nat}{x4:Pr}{t:Tag}{es:Lp}{K:Pw} :W0t (some ⟨x1,x2,.slice e,x4⟩) (.sl t es) (PFS.mk pa L T st) K=
 ((e.sz=1/\e.zok=true)/\K (.gr st.length 1 1) (PFS.mk pa L T (st++ [[.sl .no es]]))):=(rfl)
@[go_sem] theorem H2z {i n c:Nat} :(PV.gr i n c).cells= [.gr i n c]:=(rfl)
@[go_sem] theorem K2g {i n c:Nat}{st':Qd} :(PFS.mk pa L T st).recv d (.gr i n c) st'=(PFS.mk pa L T st').put d (.gr i n c):=(rfl)
@[go_sem] theorem Y2c {i n c:Nat}{l:Lp} :Zo (.gr i n c::l)=Zo l:=by simp[Zo,PV.closed2,PV.closed1]
end
section
variable {P:Program} {ops:Array Oper} {o:Oper} {K K':PFS->Prop} {s:PFS} {m:Bool} {M:List Bool}
theorem X2l (h:Ju P o K s):X6 o.op=false:=by unfold Ju at h;split at h;rename_i args ts heq;rw[heq];rfl;rename_i t l c heq;rw[heq];rfl;exact h.elim
theorem V1j {T:Pu}{x y:PV}{J J':Pw}(h:Yw P T x y s J)(hk: ∀p s',J p s'->J' p s'):Yw P T x y s J':=by unfold Yw at h⊢;split at h;rotate_left;exact h.elim;split at h;rotate_left;exact h.elim;exact⟨h.1,hk _ _ h.2⟩
theorem X2k (h:Ju P o K s)(hk: ∀s,K s->K' s):Ju P o K' s:=by unfold Ju at h⊢;split at h;rotate_left;exact V1j h fun p s' hp=>hk _ hp;exact h.elim;split at h;rotate_left;exact h.elim;unfold HB at h⊢;split at h;exact⟨h.1,fun j' cap' st' hg=>hk _ (h.2 j' cap' st' hg)⟩;exact⟨h.1,fun cap' R h1 h2=>hk _ (h.2 cap' R h1 h2)⟩;exact h.elim
theorem X2h {dst:Po}{v:PV}(h1: ∀d,dst=some d->d∉o.looksAt ops)(h2: ∀d,dst=some d->o.dst≠some d)(h:Ju P o K (s.put dst v)):Ju P o (fun s'=>K (s'.put dst v)) s:=by
 have he: ∀x∈o.op.operands,(s.put dst v).ev x=s.ev x:=vZ (ops:=ops) fun d hd=>Wi fun e=>h1 d e hd;have est:(s.put dst v).st=s.st:=(J3 s dst v).2.2.1;have eput: ∀(st:Qd) (p:PV),(({ s.put dst v with st:=st } :PFS).put o.dst p)=((({ s with st:=st } :PFS).put o.dst p).put dst v):=fun st p=>by
  have:({ s.put dst v with st:=st } :PFS)=({ s with st:=st } :PFS).put dst v:=by cases dst<;>rfl
  rw[this];exact GZ _ _ h2
 unfold Ju at h⊢;split at h;rotate_left
 . rename_i t l c heq;have hx:(s.put dst v).ev l=s.ev l:=he l (by rw[heq];simp[Op.operands]);have hy:(s.put dst v).ev c=s.ev c:=he c (by rw[heq];simp[Op.operands]);rw[hx,hy] at h;unfold Yw at h⊢;split at h;rotate_left;exact h.elim;split at h;rotate_left;exact h.elim;rw[est] at h;have q:K _:=h.2;rw[eput] at q;exact⟨h.1,q⟩
 exact h.elim;rename_i args ts heq;split at h;rotate_left;exact h.elim;rename_i t u x y hts hargs;have hx:(s.put dst v).ev x=s.ev x:=he x (by rw[heq];simp[Op.operands,Call.operands,Array.mem_def,hargs]);have hy:(s.put dst v).ev y=s.ev y:=he y (by rw[heq];simp[Op.operands,Call.operands,Array.mem_def,hargs]);rw[hx,hy] at h;unfold HB at h⊢;split at h;rw[est] at h;exact⟨h.1,fun j' cap' st' hg=>by have q:K _:=h.2 j' cap' st' hg;rw[eput] at q;exact q⟩;rw[est] at h;exact⟨h.1,fun cap' R q1 q2=>by have q:K _:=h.2 cap' R q1 q2;rw[eput] at q;exact q⟩;exact h.elim
theorem X2i (h:Ju P o K s):Ju P o (fun s'=>K s'/\ ∃u,s'.pa=(s.put o.dst u).pa) s:=by
 unfold Ju at h⊢;split at h;rotate_left
 . unfold Yw at h⊢;split at h;rotate_left;exact h.elim;split at h;rotate_left;exact h.elim;exact⟨h.1,h.2,_,by cases o.dst<;>rfl⟩
 exact h.elim;split at h;rotate_left;exact h.elim;unfold HB at h⊢;split at h;exact⟨h.1,fun j' cap' st' hg=>⟨h.2 j' cap' st' hg,_,by cases o.dst<;>rfl⟩⟩;exact⟨h.1,fun cap' R q1 q2=>⟨h.2 cap' R q1 q2,_,by cases o.dst<;>rfl⟩⟩;exact h.elim
def PDm (P:Program)(ops:Array Oper)(m:Bool)(o:Oper)(K:PFS->Prop)(s:PFS):Prop:=if m=true then(o.guard=none/\Ju P o K s) else POg P ops o K s
theorem yA (h:PDm P ops m o K s)(hk: ∀s,K s->K' s):PDm P ops m o K' s:=by
 unfold PDm at h⊢;cases m with
 | true=>exact⟨h.1,X2k h.2 hk⟩
 | false=>exact xO h hk
theorem X2m {dst:Po}{v:PV}(h1: ∀d,dst=some d->d∉o.looksAt ops)(h2: ∀d,dst=some d->o.dst≠some d)(h:PDm P ops m o K (s.put dst v)):PDm P ops m o (fun s'=>K (s'.put dst v)) s:=by
 unfold PDm at h⊢;cases m with
 | true=>exact⟨h.1,X2h h1 h2 h.2⟩
 | false=>exact U0c h1 h2 h
theorem U0j (h:PDm P ops m o K s):PDm P ops m o (fun s'=>K s'/\ ∃u,s'.pa=(s.put o.dst u).pa) s:=by
 unfold PDm at h⊢;cases m with
 | true=>exact⟨h.1,X2i h.2⟩
 | false=>exact y8 h
theorem y9 (hq:X6 o.op=true)(h:PDm P ops m o K s):m=false:=by
 unfold PDm at h;cases m with
 | true=>have:=X2l h.2;rw[hq] at this;cases this
 | false=>rfl
theorem U0i (hq:X6 o.op=true)(h:PDm P ops m o K s): ∃u,QY P ops o u s/\K (s.put o.dst u):=by have:=y9 hq h;subst this;exact y7 hq h
theorem Nx (hm:m=false)(hq:X6 o.op=true){u:PV}(h1:QY P ops o u s)(h2:K (s.put o.dst u)):PDm P ops m o K s:=by subst hm;exact kp hq h1 h2
def POx (P:Program)(ops:Array Oper)(M:List Bool)(i:Nat)(K:PFS->Prop)(s:PFS):Prop:=
 match ops[i]? with
 | none=>False
 | some o=>PDm P ops (M.getD i false) o K s
def PAx (P:Program)(ops:Array Oper)(M:List Bool)(K:PFS->Prop):Nat->Array Bool->PFS->Prop
 | 0,listed,s=>Region.ready .any ops listed= []/\K s
 | fuel+1,listed,s=>
  (Region.ready .any ops listed= []->K s)/\
  ∀i∈Region.ready .any ops listed,POx P ops M i (fun s'=>(X8 ops i=true->JB P ops listed i s')/\PAx P ops M K fuel (listed.setIfInBounds i true) s') s
def xS (P:Program)(ops:List Oper)(m:Bool)(o:Option Oper)(K:PFS->Prop)(s:PFS):Prop:=match o with | some o=>(match m with | true=>o.guard=none/\Ju P o K s | false=>OG P ops o K s) | none=>False
def OWx (P:Program)(ops:List Oper)(M:List Bool):Plan->(PFS->Prop)->PFS->Prop
 | .done,K,s=>K s
 | .step i ws rest,K,s=>xS P ops (M.getD i false) (ops[i]?) (fun s'=>WL0 P ops ws s'/\OWx P ops M rest K s') s
 | .alt a b,K,s=>OWx P ops M a K s/\OWx P ops M b K s
theorem X2o {i:Nat}{K:Pf}{s:PFS}(h:xS P ops.toList (M.getD i false) (ops.toList[i]?) K s):POx P ops M i K s:=by
 unfold xS at h;unfold POx;have e:ops.toList[i]?=ops[i]?:=(by simp);rw[e] at h;split at h;rename_i o ho;rw[ho];show PDm P ops (M.getD i false) o K s;unfold PDm;generalize M.getD i false=m at h;cases m with
 | true=>exact h
 | false=>exact U0l h
 exact h.elim
theorem Z2t {i:Nat}{K K':Pf}{s:PFS}(h:POx P ops M i K s)(hk: ∀s,K s->K' s):POx P ops M i K' s:=by unfold POx at h⊢;split;rename_i ho;rw[ho] at h;exact h;rename_i o ho;rw[ho] at h;exact yA h hk
theorem Z2u {i:Nat}{K:Pf}{s:PFS}(h:POx P ops M i K s):POx P ops M i (fun s'=>K s'/\s'.pa.length=s.pa.length) s:=by unfold POx at h⊢;split;rename_i ho;rw[ho] at h;exact h;rename_i o ho;rw[ho] at h;refine yA (U0j h) fun s' ⟨h1,u,h2⟩=>⟨h1,by rw[h2];exact(J3 s o.dst u).2.2.2⟩
theorem Z1u {N i:Nat}{oi:Oper}{di:Tmp}{v:PV}(hi:ops[i]?=some oi)(hq:X6 oi.op=true)(hdi:oi.dst=some di)(hown:di∉oi.looksAt ops)(hN:di<N)(hMi:M.getD i false=false):
 ∀(fuel:Nat) (listed:Lc) (s:PFS),N<=s.pa.length->JS ops listed->
  (∀j oj,ops[j]?=some oj->j≠i->listed.getD j true=false->UC ops i j=false->oi.apart ops oj=true)->
  (∀k ok,ops[k]?=some ok->listed.getD k false=true->Wl ok.op=true->di∉ok.looksAt ops/\ok.dst≠some di)->
  i∈Region.ready .any ops listed->QY P ops oi v s->
  PAx P ops M K fuel (listed.setIfInBounds i true) (s.put oi.dst v)->PAx P ops M K (fuel+1) listed s:=by
 have self: ∀(fuel:Nat) (listed:Lc) (s:PFS),QY P ops oi v s->PAx P ops M K fuel (listed.setIfInBounds i true) (s.put oi.dst v)->
  POx P ops M i (fun s'=>(X8 ops i=true->JB P ops listed i s')/\PAx P ops M K fuel (listed.setIfInBounds i true) s') s:=by
  intro fuel listed s hy H;unfold POx;rw[hi];exact Nx hMi hq hy ⟨fun he=>by simp[X8,hi,hq] at he,H⟩
 intro fuel
 induction fuel with
 | zero=>
  intro listed s hl hc h1 h2 hr hy H;refine⟨fun h=>(by rw[h] at hr;cases hr),fun j hj=> ?_⟩;by_cases hji:j=i;subst hji;exact self 0 listed s hy H;have:=ready_mono hj hji;rw[H.1] at this;cases this
 | succ fuel ih=>
  intro listed s hl hc h1 h2 hr hy H;refine⟨fun h=>(by rw[h] at hr;cases hr),fun j hj=> ?_⟩;by_cases hji:j=i;subst hji;exact self _ listed s hy H;have hp:=H.2 j (ready_mono hj hji);obtain⟨hjun,oj,hoj,hall⟩:=mem_ready.1 hj;have hiun:=(mem_ready.1 hr).1;have hnr:=Nc hc hj hiun;obtain⟨a1,a2,a3⟩:=Oper.apart_spec (h1 j oj hoj hji hjun hnr);unfold POx at hp⊢;rw[hoj] at hp⊢;simp only at hp⊢;have hp':=U0j (X2m a1 a2 hp);have key: ∀s'':PFS,(∃u,s''.pa=(s.put oj.dst u).pa)->(X6 oj.op=true->s''.L=s.L/\s''.st=s.st)->
   ((X8 ops j=true->JB P ops (listed.setIfInBounds i true) j (s''.put oi.dst v))/\PAx P ops M K fuel ((listed.setIfInBounds i true).setIfInBounds j true) (s''.put oi.dst v))->
   (X8 ops j=true->JB P ops listed j s'')/\PAx P ops M K (fuel+1) (listed.setIfInBounds j true) s'':=by
   rintro s'' ⟨u,hpa⟩ hqs ⟨hw,hrest⟩;have hlen:s''.pa.length=s.pa.length:=(by rw[hpa];exact(J3 s oj.dst u).2.2.2);have hsame: ∀d∈oi.looksAt ops,s.pa.getD d .junk=s''.pa.getD d .junk:=fun d hd=>by rw[hpa];exact(Wi fun e=>a3 d e hd).symm
   have hown': ∀d∈oi.looksAt ops,(s''.put oi.dst v).pa.getD d .junk=s''.pa.getD d .junk:=fun d hd=>Wi fun e=>by rw[hdi] at e;cases e;exact hown hd
   have hil:(listed.setIfInBounds i true).getD i false=true:=by
    have hlt:i<listed.size:=by rcases Nat.lt_or_ge i listed.size with h' | h';exact h';simp[F7 h'] at hiun
    simp[hlt]
   have hy':QY P ops oi v s'':=by
    cases hlo:Wl oi.op with
    | false=>exact Uj hq hsame (.inl hlo) hy
    | true=>
     cases hqj:X6 oj.op with
     | true=>obtain⟨e1,e2⟩:=hqs hqj;exact Uj hq hsame (.inr ⟨e1.symm,e2.symm⟩) hy
     | false=>
      have heff:X8 ops j=true:=(by simp[X8,hoj,hqj]);have:=hw heff i oi hil hi hq hlo hnr di hdi;have e:(s''.put oi.dst v).pa.getD di .junk=v:=by rw[hdi];exact Oo (by rw[hlen];exact q_e hN hl)
      rw[e] at this;exact Uj hq hown' (.inr ⟨(J3 s'' oi.dst v).1,(J3 s'' oi.dst v).2.2.1⟩) this
   refine⟨fun heff k ok hk hok hkq hkl hkr d hd=> ?_,?_⟩;obtain⟨b1,b2⟩:=h2 k ok hok hk hkl;have:=hw heff k ok (getD_set_true hk) hok hkq hkl hkr d hd;have e:(s''.put oi.dst v).pa.getD d .junk=s''.pa.getD d .junk:=Wi fun e=>by rw[hdi] at e;cases e;exact b2 hd
   rw[e] at this;exact Uj hkq (fun x hx=>Wi fun e=>by rw[hdi] at e;cases e;exact b1 hx) (.inr ⟨(J3 s'' oi.dst v).1,(J3 s'' oi.dst v).2.2.1⟩) this;refine ih (listed.setIfInBounds j true) s'' oG (H5 hc hj) (fun k ok hk hki hun hno=> ?_) (fun k ok hk hkl hlo=> ?_) (ready_mono hr (Ne.symm hji)) hy' ?_;refine h1 k ok hk hki ?_ hno;by_cases hjk:j=k;subst hjk;exact hjun;rw[getD_set_ne true hjk] at hun;exact hun;by_cases hjk:j=k;subst hjk;rw[hoj] at hk;cases hk;exact⟨a1 di hdi,fun e=>a2 di hdi e⟩;rw[getD_set_ne false hjk] at hkl;exact h2 k ok hk hkl hlo;rw[Array.setIfInBounds_comm _ _ hji];exact hrest
  cases hqj:X6 oj.op with
  | true=>
   have hmj:=y9 hqj hp';obtain⟨u,q1,q2,q3⟩:=U0i hqj hp';exact Nx hmj hqj q1 (key _ ⟨u,rfl⟩ (fun _=>⟨(J3 s oj.dst u).1,(J3 s oj.dst u).2.2.1⟩) q2)
  | false=>exact yA hp' fun s'' ⟨q2,q3⟩=>key s'' q3 (fun h=>by rw[hqj] at h;cases h) q2
theorem G1i {p:Plan}{s:PFS}(h:p.heads= []):OWx P ops.toList M p K s->K s:=by
 induction p with
 | done=>exact id
 | step i ws rest=>cases h
 | alt a b iha ihb=>exact fun hw=>iha (by simp only[Plan.heads,List.append_eq_nil_iff] at h;exact h.1) hw.1
theorem Z1g {N:Nat} : ∀(p:Plan) (f:Nat) (listed:Lc),XC ops N p f listed=true->JS ops listed->
 (∀s,N<=s.pa.length->OWx P ops.toList M p K s-> ∀i∈p.heads,POx P ops M i (fun s'=>(X8 ops i=true->JB P ops listed i s')/\PAx P ops M K (f-1) (listed.setIfInBounds i true) s') s)/\
 (VP ops N listed p=true-> ∀s,N<=s.pa.length->OWx P ops.toList M p K s->PAx P ops M K f listed s):=by
 have full: ∀(p:Plan) (f:Nat) (listed:Lc),XC ops N p f listed=true->JS ops listed->
  (∀s,N<=s.pa.length->OWx P ops.toList M p K s-> ∀i∈p.heads,POx P ops M i (fun s'=>(X8 ops i=true->JB P ops listed i s')/\PAx P ops M K (f-1) (listed.setIfInBounds i true) s') s)->
  VP ops N listed p=true-> ∀s,N<=s.pa.length->OWx P ops.toList M p K s->PAx P ops M K f listed s:=by
  intro p f listed hB hcl hh hf s hl hw;simp only[VP,DF] at hf;rcases hf with hf | hf;cases p with
  | step i ws rest=>
   simp only[vN] at hf;cases hoi:ops[i]? with
   | none=>rw[hoi] at hf;cases hf
   | some oi=>
    rw[hoi] at hf;simp only at hf;cases hdi:oi.dst with
    | none=>rw[hdi] at hf;cases hf
    | some di=>
     rw[hdi] at hf;simp only[q_i,EL,BN,q_d,E0] at hf;obtain⟨⟨⟨hq,hown⟩,hN⟩,hall⟩:=hf;have hready:=YV hB i (by simp[Plan.heads]);have hp:=hh s hl hw i (by simp[Plan.heads]);cases f with
     | zero=>exact absurd rfl hready.2
     | succ f=>
      unfold POx at hp;rw[hoi] at hp;have hMi:=y9 hq hp;obtain⟨u,hy,_,hrest⟩:=U0i hq hp;refine Z1u (di:=di) hoi hq hdi (by simpa using hown) hN hMi f listed s hl hcl (fun j oj hj hji hun hnr=> ?_) (fun k ok hk hkl hlo=> ?_) hready.1 hy (by simpa using hrest);have hlt:=(C3.1 hj).1;have:=hall j hlt;simp only[hj,FT,hji,DF,q_i,hun,hnr,B3,false_or] at this;exact this.1;by_cases hki:k=i;subst hki;have:=(mem_ready.1 hready.1).1;rw[I7 this] at hkl;cases hkl;have hlt:=(C3.1 hk).1;have:=hall k hlt;simp only[hk,FT,hki,DF,q_i,hkl,hlo,FU,B3,false_or] at this;have h2:=this.2;simp only[EL,BV,ne_eq] at h2;exact⟨by simpa using h2.1,h2.2⟩
  | done=>cases hf
  | alt a b=>cases hf
  have hcov: ∀i∈Region.ready .any ops listed,i∈p.heads:=fun i hi=>by have:=List.all_eq_true.1 hf i hi;simpa using this
  have hnil:Region.ready .any ops listed= []->K s:=fun h0=>G1i (by
   cases hp:p.heads with
   | nil=>rfl
   | cons i l=>
    have:=(YV hB i (by rw[hp];simp)).1;rw[h0] at this;cases this) hw
  cases f with
  | zero=>
   have h0:Region.ready .any ops listed= []:=by
    cases hr:Region.ready .any ops listed with
    | nil=>rfl
    | cons i l=>exact absurd rfl (YV hB i (hcov i (by rw[hr];simp))).2
   exact⟨h0,hnil h0⟩
  | succ f=>exact⟨hnil,fun i hi=>hh s hl hw i (hcov i hi)⟩
 intro p
 induction p with
 | done=>
  intro f listed hB hcl;have h1: ∀s,N<=s.pa.length->OWx P ops.toList M .done K s-> ∀i∈Plan.done.heads,POx P ops M i (fun s'=>(X8 ops i=true->JB P ops listed i s')/\PAx P ops M K (f-1) (listed.setIfInBounds i true) s') s:=fun s hl hw i hi=>(by cases hi);exact⟨h1,full .done f listed hB hcl h1⟩
 | step k ws rest ih=>
  intro f listed hB hcl;have h1: ∀s,N<=s.pa.length->OWx P ops.toList M (.step k ws rest) K s-> ∀i∈(Plan.step k ws rest).heads,POx P ops M i (fun s'=>(X8 ops i=true->JB P ops listed i s')/\PAx P ops M K (f-1) (listed.setIfInBounds i true) s') s:=by
   intro s hl hw i hi;have hready:=YV hB i hi;simp only[Plan.heads,C0] at hi;subst hi;cases f with
   | zero=>exact absurd rfl hready.2
   | succ f=>
    simp only[XC,qJ,q_i,DF,q_d,E0] at hB;obtain⟨⟨_,hws⟩,hrB,hrF⟩:=hB;obtain⟨_,ih2⟩:=ih f (listed.setIfInBounds i true) hrB (H5 hcl hready.1);refine Z2t (Z2u (X2o hw)) ?_;rintro s' ⟨⟨hW,hO⟩,hlen⟩;refine⟨fun heff k ok hkl hok hkq hkl' hkr=> ?_,ih2 hrF s' oG hO⟩;rcases hws with hws | hws;rw[heff] at hws;cases hws;have:=hws k (C3.1 hok).1;simp only[hkl,hkr,hok,hkl',FU,B3,false_or,or_false] at this;exact y6 hW k (by simpa using this) ok hok hkq
  exact⟨h1,full _ f listed hB hcl h1⟩
 | alt a b iha ihb=>
  intro f listed hB hcl;have hab:XC ops N a f listed=true/\XC ops N b f listed=true:=(by cases f<;>simpa[XC] using hB);have h1: ∀s,N<=s.pa.length->OWx P ops.toList M (.alt a b) K s-> ∀i∈(Plan.alt a b).heads,POx P ops M i (fun s'=>(X8 ops i=true->JB P ops listed i s')/\PAx P ops M K (f-1) (listed.setIfInBounds i true) s') s:=by intro s hl hw i hi;simp only[Plan.heads,DN] at hi;exact hi.elim ((iha f listed hab.1 hcl).1 s hl hw.1 i) ((ihb f listed hab.2 hcl).1 s hl hw.2 i)
  exact⟨h1,full _ f listed hB hcl h1⟩
theorem U0u {E:Ent}{Q:Pt}(hK: ∀a' w' g' F' s',FSRep E a' w' g' F' s'->K s'->Q .normal a' w'): ∀(f:Nat) (listed:Lc) (a:Act) (w:Lw) (g:Gh) (F:Fr) (s:PFS),
 FSRep E a w g F s->PAx P ops M K f listed s->wpAnyIn (fen E.rd) 0 P .any ops Q f listed a w:=by
 intro f
 induction f with
 | zero=>exact fun listed a w g F s hr h=>⟨h.1,hK a w g F s hr h.2⟩
 | succ f ih=>
  intro listed a w g F s hr h;refine⟨fun h0=>hK a w g F s hr (h.1 h0),fun i hi=> ?_⟩;have hp:=h.2 i hi;unfold POx at hp;unfold wpOpIn;cases hoi:ops[i]? with
  | none=>rw[hoi] at hp;exact hp.elim
  | some o=>
   rw[hoi] at hp;simp only at hp⊢;unfold PDm at hp;split at hp;obtain⟨hg,hp⟩:=hp;rw[BC (by simp[Region.wanted,hg])];exact U0h hr hp fun a' w' g' F' s' hr' hk=>ih _ a' w' g' F' s' hr' hk.2;unfold POg at hp;split at hp;rename_i hg;rw[BC (by simp[Region.wanted,hg])];exact V5 hr hp fun a' w' g' F' s' hr' hk=>ih _ a' w' g' F' s' hr' hk.2;rename_i j want hg;split at hp;rename_i b hb;have hy:=UX hr hb;split at hp;rename_i he;subst he;rw[BC (by unfold Region.wanted;rw[hg];simp only;rw[hy];simp)];exact V5 hr hp fun a' w' g' F' s' hr' hk=>ih _ a' w' g' F' s' hr' hk.2;rename_i he;rw[BA (by unfold Region.wanted;rw[hg];simp only;rw[hy];simp[he])];exact⟨Yz,ih _ _ w g F _ (hr.put o.dst (.base _ _ (U9 _ _))) hp.2⟩;exact hp.elim
end
theorem Q1b {P:Pg}{E:Ent}{id:Nat}{l:Lo}{Q:Pe}{s:PFS}(hm:P.follows .mixedOrders=true)(N:Nat)(M:Ld)(p:Plan)(hB:Ge l.toArray N p=true)(hl:N<=s.pa.length)
 (h:OWx P l M p (Q .normal) s):PWP P E (.region id l.toArray true) Q s:=by
 intro a w g F hr;simp only[Ge,q_i] at hB;have hcl:JS l.toArray (Array.replicate l.toArray.size false):=fun k ok e hk hkl he hb=>by by_cases hkk:k<l.length<;>simp[hkk,q_f,FD] at hkl
 have:=(Z1g (P:=P) (M:=M) (K:=Q .normal) p _ _ hB.1 hcl).2 hB.2 s hl (by simpa using h);exact wpIn_region_any hm (U0u (fun a' w' g' F' s' hr' hk=>⟨g',F',s',hr',hk⟩) _ _ _ _ g F s hr.drew.1 this)
section
variable {P:Program} {s:PFS} {K:PFS->Prop} {d:Option Tmp} {ty:TypeId} {pos:String} {af:Array Edge} {M:List Bool}
def PGq (P:Program)(o:Oper)(K:PFS->Prop)[Stop o][Stop K](s:PFS):Prop:=Ju P o K s
@[go_sem] theorem x2p {x y:Operand}{t u:Lt} :PGq P ⟨d,.call ⟨.builtin .append,[x,y].toArray,[t,u].toArray⟩,ty,pos,af,none⟩ K s=qh (ti P t) (ti P u) (s.ev x) (s.ev y) s (fun p s'=>K (s'.put d p)):=(rfl)
@[go_sem] theorem x2o {x y:Operand}{t:Lt} :PGq P ⟨d,.makeSlice t x y,ty,pos,af,none⟩ K s=vf P (ti P t) (s.ev x) (s.ev y) s (fun p s'=>K (s'.put d p)):=(rfl)
def OX (P:Program)(ops:List Oper)(M:List Bool)(p:Plan)(K:PFS->Prop)[Stop ops][Stop p][Stop K](s:PFS):Prop:=OWx P ops M p K s
def OSX (P:Program)(ops:List Oper)(m:Bool)(o:Option Oper)(K:PFS->Prop)[Stop ops][Stop K](s:PFS):Prop:=xS P ops m o K s
@[go_sem] theorem x2s {ops:Lo} :OX P ops M .done K s=K s:=(rfl)
@[go_sem] theorem x2r {ops:Lo}{i:Nat}{rest:Plan} :OX P ops M (.step i [] rest) K s=OSX P ops (M.getD i false) (ops[i]?) (OX P ops M rest K) s:=by simp only[OX,OWx,OSX,WL0,LD];rfl
@[go_sem] theorem x2q {ops:Lo}{i k:Nat}{ws:Ln}{rest:Plan} :OX P ops M (.step i (k::ws) rest) K s=OSX P ops (M.getD i false) (ops[i]?) (fun s'=>WL P ops (k::ws) s'/\OX P ops M rest K s') s:=(rfl)
@[go_sem] theorem x2y {ops:Lo}{op:Op} :OSX P ops false (some ⟨d,op,ty,pos,af,none⟩) K s=OC P ⟨d,op,ty,pos,af,none⟩ K s:=(rfl)
@[go_sem] theorem x2z {ops:Lo}{op:Op} :OSX P ops true (some ⟨d,op,ty,pos,af,none⟩) K s=PGq P ⟨d,op,ty,pos,af,none⟩ K s:=by show((none:Option (Nat×Bool))=none/\_)=_;simp only[LD];rfl
end
theorem Yr {P:Pg}{E:Ent}{id:Nat}{l:Lo}{Q:Pe}{s:PFS}(M:Ld)(hm:P.follows .mixedOrders=true)(N:Nat)(p:Plan)(hB:Ge l.toArray N p=true)(hl:N<=s.pa.length)
 (h:OX P l M p (Q .normal) s):PWP P E (.region id l.toArray true) Q s:=Q1b hm N M p hB hl h
theorem GrowTo.facts {st st':Qd}{j len cap sz j' cap':Nat}{es ys R:Lp}(h:GrowTo st j len cap ys sz j' cap' st')(hj:j<st.length)(hc:st.getD j []=flat es++R)(he:(flat es).length=len*sz)(hy:(flat ys).length=ys.length*sz)
 (hR:R.length=(cap-len)*sz) (hle:len<=cap):
 ∃R',st'.getD j' []=flat es++(flat ys++R')/\R'.length=(cap'-(len+ys.length))*sz/\len+ys.length<=cap'/\j'<st'.length/\(j'=j\/j'=st.length)/\st.length<=st'.length/\ ∀p,p<st.length->p≠j->st'.getD p []=st.getD p []:=by
 rcases h with ⟨h1,rfl,rfl,rfl⟩ | ⟨h1,h2,rfl,R',h3,rfl⟩;refine⟨R.drop (ys.length*sz),?_,?_,h1,by simpa using hj,.inl rfl,by simp,fun p hp hne=>Zg _ _ _ _ _ (fun e=>hne e.symm)⟩;rw[Zw _ _ _ _ hj,hc];unfold Qu;rw[<-he,List.take_left,List.drop_append,E7 oG,CQ,hy,show(flat es).length+ys.length*sz-(flat es).length=ys.length*sz from oG,BP];rw[DM,hR,<-Nat.sub_mul];congr 1;omega;refine⟨R',?_,h3,h2,by simp,.inr rfl,by simp,fun p hp hne=>QQ _ _ _ _ hp⟩;rw[Zl _ _ _ _ (BD _),DD,LJ,hc,<-he,List.take_left]
theorem GrowOK.mk_one {cs:Lp}{len cap:Nat}{y:PV}{id:Lt}{sz by_:Nat}{x y' z:Bool}(hz:(⟨id,sz,by_,x,y',z⟩:EI).zok=true)(h0:0<sz)(hc:cs.length=cap*sz)(hl:len<=100000)(hb:by_<=100000)(hy:y.cells.length=sz)(hok:y.cells.all PV.cellOK=true):
 GrowOK cs len cap [y] ⟨id,sz,by_,x,y',z⟩:=by
 refine⟨hz,h0,hc,by simp;omega,?_,by simp[hy,hok],by simp⟩;show(len+ [y].length)*by_<=_;have:(len+ [y].length)*by_<=100001*100000:=DW (by simp;omega) hb;omega
inductive Seen (st:Qd) (e:List Nat):PV->PV->Prop
 | same {p:PV} (h:Tame p):Seen st e p p
 | agg {cs ds:List PV} (hl:cs.length=ds.length) (h: ∀j,j<ds.length->Seen st e (cs.getD j .junk) (ds.getD j .junk)):Seen st e (.agg cs) (.agg ds)
 | tup {cs ds:List PV} (hl:cs.length=ds.length) (h: ∀j,j<ds.length->Seen st e (cs.getD j .junk) (ds.getD j .junk)):Seen st e (.tup cs) (.tup ds)
 | ms {p:PV} {k n sz:Nat} {es:List PV} (hp:p= .ms true k 0 n\/ ∃cap,p= .gr k n cap) (hk:k<st.length) (hl:es.length=n) (hsz: ∀i,i<n->(es.getD i .junk).cells.length=sz) (he:n*sz<=e.getD k 0)
  (h: ∀i j,i<n->j<sz->Seen st e ((st.getD k []).getD (i*sz+j) .junk) ((es.getD i .junk).cells.getD j .junk)):Seen st e p (.sl .no es)
 | un {t:Tag} {es:List PV} (h:Tame (.sl t es)):Seen st e (.sl t es) (.sl .no es)
 | gp {k off:Nat} {cs:List PV} (hk:k<st.length) (he:cs.length<=e.getD k 0) (h: ∀j,j<cs.length->Seen st e ((st.getD k []).getD j .junk) (cs.getD j .junk)):Seen st e (.gp k off) (.ep cs off)
theorem Seen.rep {w:Lw}{g G:Gh}{st:Qd}{e:Ln}(hs:StoreOK w g st)(hx: ∀k,k<st.length->e.getD k 0<=(st.getD k []).length)(hv: ∀b,g.vis b<=G.vis b)(hk: ∀k,k<st.length->e.getD k 0<=G.vis (g.mu k)){p q:PV}(h:Seen st e p q):
 ∀v,Rep w g v p->Rep w G v q:=by
 induction h with
 | @same p h=>
  intro v hr;have h1:=Low.mk (h.low 0).1 (g:=g) G.vis hv hr;exact Rep.mono (w:=w) (g:=⟨0,fun _=>0,G.vis⟩) (w':=w) (g':=G) ⟨CX _,fun i hi=>absurd hi (CD _),fun _=>BD _,fun _ _ _ _ hc=>hc⟩ h1
 | @un t es h=>
  intro v hr;have h1:=Low.mk (h.low 0).1 (g:=g) G.vis hv hr;have h2:=Rep.mono (w:=w) (g:=⟨0,fun _=>0,G.vis⟩) (w':=w) (g':=G) ⟨CX _,fun i hi=>absurd hi (CD _),fun _=>BD _,fun _ _ _ _ hc=>hc⟩ h1;exact(RepF.base (F:=⟨0,fun _=>0,fun _=>none⟩) (T:= []) _ _ h2).slNo
 | @gp k off cs hkl he h ih=>
  intro v hr;have hn:=hs.n;obtain rfl:v= .pointer (some ⟨g.mu k,off,none⟩):=(by cases hr with | gp _ _ _=>rfl);have hh:=hs.holds k oG;have hle:=hx k hkl;have:=Rep.ep (w:=w) (g:=G) cs off (g.mu k) 0 (fun j=>(w.cell? ⟨g.mu k,0+j,none⟩).getD undef) (by rw[CU];exact B7 he (hk k hkl))
   (fun j hj=>by obtain⟨_,c,q1,q2⟩:=hh j oG;rw[CU,q1];rfl)
   (fun j hj=>by obtain⟨_,c,q1,q2⟩:=hh j oG;rw[CU,q1];exact ih j hj _ q2)
  rwa [CU] at this
 | agg hl h ih=>
  intro v hr;cases hr with
  | agg vs _ hl' h'=>exact .agg vs _ oG fun j hj=>ih j hj _ (h' j oG)
 | tup hl h ih=>
  intro v hr;cases hr with
  | tup vs _ hl' h'=>exact .tup vs _ oG fun j hj=>ih j hj _ (h' j oG)
 | @ms p k n sz es hp hkl hl hsz he h ih=>
  intro v hr;have hn:=hs.n;obtain⟨cap,rfl,hcap⟩: ∃cap,v= .slice (some ⟨g.mu k,0,none⟩) n cap/\n<=cap:=by
   rcases hp with rfl | ⟨cap,rfl⟩;cases hr with | gms _ _ _ cap _ hcap=>exact⟨cap,rfl,hcap⟩
   cases hr with | gr _ _ _ _ hcap=>exact⟨cap,rfl,hcap⟩
  have hh:=hs.holds k oG;have hle:=hx k hkl;have:=Rep.sl (w:=w) (g:=G) .no es (g.mu k) 0 sz cap (fun i j=>(w.cell? ⟨g.mu k,0+i*sz+j,none⟩).getD undef) rfl (fun h=>by cases h) oG (fun i hi=>hsz i oG)
   (fun h0=>by rw[hl,CU];exact B7 he (hk k hkl))
   (fun i j hi hj=>by have:=Vu (show i<n by omega) hj;obtain⟨_,c,q1,q2⟩:=hh (i*sz+j) oG;rw[show 0+i*sz+j=i*sz+j by omega,q1];rfl)
   (fun i j hi hj=>by have:=Vu (show i<n by omega) hj;obtain⟨_,c,q1,q2⟩:=hh (i*sz+j) oG;rw[show 0+i*sz+j=i*sz+j by omega,q1];exact ih i j oG hj _ q2)
  rw[hl] at this;exact this
noncomputable def JX (g:Gh)(lo:Nat)(e:List Nat)(b:Nat):Nat:=
 open Classical in if h: ∃k,lo<=k/\k<g.n/\g.mu k=b/\0<e.getD k 0 then e.getD h.choose 0 else g.vis b
section
variable {w:World} {g:Gh} {st:Qd} {e:List Nat} {lo:Nat}
theorem jN (hs:StoreOK w g st)(k:Nat)(hlo:lo<=k)(hk:k<g.n):e.getD k 0<=JX g lo e (g.mu k):=by unfold JX;split;rename_i h;obtain⟨h1,h2,h3,h4⟩:=h.choose_spec;rw[hs.inj _ _ h2 hk h3];exact BD _;rename_i h;by_cases h0:0<e.getD k 0;exact absurd ⟨k,hlo,hk,rfl,h0⟩ h;omega
theorem jO (hs:StoreOK w g st)(hx: ∀k,k<st.length->e.getD k 0<=(st.getD k []).length)(b:Nat):g.vis b<=JX g lo e b:=by unfold JX;split;rename_i h;obtain⟨h1,h2,h3,h4⟩:=h.choose_spec;have h5:=hx _ (by rw[<-hs.n];exact h2);have:=hs.vis _ h2 (fun e=>by rw[e] at h5;exact absurd h5 (Nat.not_le_of_lt h4));rw[h3] at this;omega;exact BD _
theorem qQ (b:Nat)(hb:JX g lo e b≠g.vis b): ∃k,lo<=k/\k<g.n/\g.mu k=b/\JX g lo e b=e.getD k 0:=by unfold JX at hb⊢;split;rename_i h;obtain⟨h1,h2,h3,h4⟩:=h.choose_spec;exact⟨_,h1,h2,h3,rfl⟩;rename_i h;rw[dif_neg h] at hb;exact absurd rfl hb
end
def PV.stale :PV->Bool
 | .sl (.fresh _) _=>false
 | _=>true
theorem qK {p:PV}(h:p.stale=true)(B:Nat)(w:Lw)(g:Gh)(v:Value):RepRes B w g v p=Rep w g v p:=by
 cases p with
 | sl t es=>cases t<;>first | rfl | cases h
 | _=>rfl
theorem k9 {P:Pg}{f:FuncId}{args:Lp}{st:Qd}{Q:PV->Prop}(h:PCalls P f args st fun r st'=> ∃X q e,st'=st++X/\Seen st' e r q/\(∀k,k<st'.length->e.getD k 0<=(st'.getD k []).length)/\(∀k,k<st.length->e.getD k 0=0)/\r.stale=true/\q.stale=true/\Q q):
 PCalls P f args st (fun r st'=>Q r/\st'=st):=by
 intro w g vs hs hr;refine(h w g vs hs hr).mono ?_;rintro en w' ⟨v,g',r,st',rfl,hx,ho,hv,X,q,e,rfl,hsee,hle,hlo,sr,sq,hq⟩;rw[qK sr] at hv;have hn:st.length=g.n:=hs.n.symm;have hn':g.n<=g'.n:=hx.le.n;have hgd: ∀i,i<g.n->(st++X).getD i []=st.getD i []:=fun i hi=>by rw[q_a,B6 oG,<-q_a]
 let G:Gh:=⟨g.n,g'.mu,JX g' g.n e⟩
 have hvle: ∀b,g'.vis b<=G.vis b:=jO ho hle;have hvold: ∀b,(∀k,g.n<=k->k<g'.n->g'.mu k≠b)->G.vis b=g'.vis b:=fun b hb=>by refine BE fun hne=> ?_;obtain⟨k,h1,h2,h3,_⟩:=qQ b hne;exact hb k h1 h2 h3
 have hkv: ∀k,k<(st++X).length->e.getD k 0<=G.vis (g'.mu k):=fun k hk=>by by_cases hlt:k<g.n;rw[hlo k oG];exact CX _;exact jN ho k oG (by rw[ho.n];exact hk)
 refine⟨v,G,q,st,rfl,⟨⟨BD _,hx.le.mu,fun b=>B7 (hx.le.vis b) (hvle b),hx.le.cell⟩,hx.os,hx.tape,hx.output,hx.size,fun b hb hnb=> ?_,fun i hi hi'=>absurd hi (Nat.not_le_of_lt hi')⟩,
  ⟨hs.n,fun i j hi hj=>ho.inj i j (q_e hi hn') (q_e hj hn'),fun i hi=>ho.lt i (q_e hi hn'),fun i hi hne=> ?_,fun i hi=> ?_,fun b hb=> ?_,fun t ht=>⟨B7 (ho.tab t ht).1 (hvle _),(ho.tab t ht).2⟩⟩,?_,hq,rfl⟩
 obtain⟨o1,o2⟩:=hx.old b hb hnb;refine⟨o1,?_⟩;rw[hvold b fun k h1 h2 h3=> ?_];exact o2;have:=hx.new k h1 h2;omega;have h1:=ho.vis i (q_e hi hn') (by rw[hgd i hi];exact hne);rw[hvold _ fun k h1 h2 h3=> ?_];exact h1;have:=ho.inj k i h2 (q_e hi hn') h3;have hi':i<g.n:=hi;omega;have h1:=ho.holds i (q_e hi hn');rw[hgd i hi] at h1;intro j hj;obtain⟨z1,c,z2,z3⟩:=h1 j hj;obtain⟨_,c0,_,z4⟩:=hs.holds i hi j hj;refine⟨z1,c,z2,?_⟩;have z5:=Q0z z4 _ _ _ z3 hn';exact Rep.mono (w:=w') (g:= { g' with n:=g.n }) (w':=w') (g':=G) ⟨BD _,fun _ _=>rfl,hvle,fun _ _ _ _ hc=>hc⟩ z5;rw[hvold b fun k h1 h2 h3=> ?_];exact ho.none b hb;have:=ho.lt k h2;omega;rw[qK sq];exact hsee.rep ho hle hvle hkv v hv
def PV.notW :PV->Bool
 | .sl _ _ | .ms true _ _ _ | .gr _ _ _ | .sc (.bool _) | .sc (.int .i64 _)=>true
 | _=>false
theorem J1v {w:Lw}{g:Gh}{v:Value}{p:PV}(h:Rep w g v p)(hp:p.notW=true){y:Value}(hy:uwV y):v≠y:=by
 intro e;subst e;obtain⟨x,rfl | rfl⟩:=hy<;>
 cases h with
 | sc v=>cases hp
 | junk v=>cases hp
theorem PCalls.lendS {P:Pg}{f:FuncId}{xs ys:Lp}{st:Qd}{R:PV}(e:Ln)(h:PCalls P f ys [] (fun r st'=>r=R/\st'= []))(hw:Wordy R)(hl:xs.length=ys.length)(hsee: ∀j,j<ys.length->Seen st e (xs.getD j .junk) (ys.getD j .junk))
 (hle: ∀k,k<st.length->e.getD k 0<=(st.getD k []).length) (hnw: ∀k o,k<st.length->o<e.getD k 0->((st.getD k []).getD o .junk).notW=true):PCalls P f xs st (fun r st'=>r=R/\st'=st):=by
 intro w g vs hs hr;have hvle: ∀b,g.vis b<=JX g 0 e b:=jO hs hle;have hn:=hs.n
 let g0:Gh:=⟨0,fun _=>0,JX g 0 e⟩
 have hnone: ∀b,w.heap.size<=b->JX g 0 e b=0:=fun b hb=>by by_cases hq:JX g 0 e b=g.vis b;rw[hq];exact hs.none b hb;obtain⟨i,_,h1,h2,_⟩:=qQ b hq;have:=hs.lt i h1;omega
 have hs0:StoreOK w g0 []:=(by refine⟨rfl,fun i j hi=>by simp[g0] at hi,fun i hi=>by simp[g0] at hi,fun i hi=>by simp[g0] at hi,fun i hi=>by simp[g0] at hi,hnone,fun t ht=>⟨B7 (hs.tab t ht).1 (hvle _),(hs.tab t ht).2⟩⟩);have hr0:WY w g0 vs ys:=⟨by rw[hr.1,hl],fun j hj=>(hsee j hj).rep hs hle hvle (fun k hk=>jN hs k (CX _) oG) _ (hr.2 j oG)⟩;refine(h w g0 vs hs0 hr0).mono ?_;rintro en w' ⟨v,g1,r,st1,rfl,hx,hoo,hrr,rfl,rfl⟩;rw[hw.res] at hrr;have hold: ∀c,c<w.heap.size->w'.heap[c]?=w.heap[c]?/\g1.vis c=JX g 0 e c:=fun c hc=>hx.old c hc (fun i hi=>by simp[g0] at hi)
 let g2:Gh:=⟨g.n,g.mu,fun c=>if c<w.heap.size then g.vis c else g1.vis c⟩
 have hle2:Le w g w' g2:=by refine⟨BD _,fun _ _=>rfl,fun c=> ?_,fun c o v ho hc=>hx.le.cell c o v (q_e ho (hvle c)) hc⟩;show g.vis c<=if c<w.heap.size then g.vis c else g1.vis c;split;exact BD _;rename_i hn;rw[hs.none c oG];exact CX _
 have hext:Ext w g w' g2:=by refine⟨hle2,hx.os,hx.tape,hx.output,hx.size,fun c hc _=>⟨(hold c hc).1,BC hc⟩,fun i h1 h2=> ?_⟩;have h2':i<g.n:=h2;omega
 have hst:StoreOK w' g2 st:=by refine⟨hs.n,hs.inj,fun i hi=>q_e (hs.lt i hi) hx.size,fun i hi h0=> ?_,fun i hi=> ?_,fun c hc=> ?_,hs.tab.mono hle2⟩;show(if g.mu i<w.heap.size then g.vis (g.mu i) else _)=0;rw[BC (hs.lt i hi)];exact hs.vis i hi h0;exact(hs.holds i hi).mono (hold _ (hs.lt i hi)).1 fun v p hp=>hp.mono hle2;show(if c<w.heap.size then g.vis c else g1.vis c)=0;have:=hx.size;rw[BA oG];exact hoo.none c hc
 refine⟨v,g2,r,st,rfl,hext,hst,?_,rfl,rfl⟩;rw[hw.res];have:=Wordy.turn (g':=g2) (fun b off x hxw hoff hcell=> ?_) hw hrr;exact this;show(if b<w.heap.size then g.vis b else g1.vis b)=g1.vis b;split;rename_i hb;obtain⟨q1,q2⟩:=hold b hb;rw[q2] at hoff⊢;by_cases hq:JX g 0 e b=g.vis b;exact hq.symm;obtain⟨i,_,h1,h2,h3⟩:=qQ b hq;rw[h3] at hoff;have o1:=hle i oG;have o2:=hnw i off oG hoff;obtain⟨_,c,c1,c2⟩:=hs.holds i h1 off oG;rw[h2] at c1;have hcw:w'.cell? ⟨b,off,none⟩=w.cell? ⟨b,off,none⟩:=World.cell?_of_block (w:=w) (w':=w') (a:=⟨b,off,none⟩) q1;rw[hcw,c1] at hcell;exact absurd (Option.some.inj hcell) (J1v c2 o2 hxw);rfl
inductive Un :PV->PV->Prop
 | same (p:PV):Un p p
 | gr (k n c:Nat):Un (.gr k n c) (.ms true k 0 n)
theorem Un.rep {w:Lw}{g:Gh}{p q:PV}(h:Un p q){v:Value}(hr:Rep w g v p):Rep w g v q:=by
 cases h with
 | same=>exact hr
 | gr k n c=>cases hr with | gr _ _ _ hi hcap=>exact .gms _ 0 _ _ hi hcap
theorem PCalls.unGr {P:Pg}{f:FuncId}{args:Lp}{st:Qd}{Q Q':PV->Qd->Prop}(h:PCalls P f args st Q)
 (hq: ∀r st',Q r st'-> ∃r' st'',st''.length=st'.length/\r.stale=true/\r'.stale=true/\Un r r'/\(∀k,k<st'.length->(st''.getD k []).length=(st'.getD k []).length/\ ∀o,o<(st'.getD k []).length->Un ((st'.getD k []).getD o .junk) ((st''.getD k []).getD o .junk))/\Q' r' st''):PCalls P f args st Q':=by
 intro w g vs hs hr;refine(h w g vs hs hr).mono ?_;rintro en w' ⟨v,g',r,st',rfl,hx,ho,hv,hQ⟩;obtain⟨r',st'',h1,sr,sr',h2,h3,h4⟩:=hq r st' hQ;rw[qK sr] at hv;have hn:=ho.n;refine⟨v,g',r',st'',rfl,hx,⟨by rw[hn,h1],ho.inj,ho.lt,fun i hi hne=>ho.vis i hi fun e=>hne ?_,fun i hi j hj=> ?_,ho.none,ho.tab⟩,by rw[qK sr'];exact h2.rep hv,h4⟩;have:=(h3 i oG).1;rw[e] at this;exact BY (by simpa using this);obtain⟨q1,q2⟩:=h3 i oG;rw[q1] at hj;obtain⟨z1,c,z2,z3⟩:=ho.holds i hi j hj;exact⟨z1,c,z2,(q2 j hj).rep z3⟩
def RowAt (st:Qd)(k:Nat)(cs:List PV):Prop:=k<st.length/\ ∃R,st.getD k []=cs++R
def qk (ids:List Nat):Prop:= ∀i j,i<ids.length->j<ids.length->i≠j->ids.getD i 0≠ids.getD j 0
structure MatO (st:Qd) (A:Nat) (ids:List Nat) (n:Nat) (rows:List (List PV)):Prop where
 lid:ids.length=n
 lrow:rows.length=n
 top:RowAt st A (ids.map fun i=>PV.ms true i 0 n)
 row: ∀j,j<n->RowAt st (ids.getD j 0) (rows.getD j [])
 na:A∉ids
 nd:qk ids
theorem RowAt.mono {st st':Qd}{k:Nat}{cs:Lp}(h:RowAt st k cs)(hl:st.length<=st'.length)(hg:st'.getD k []=st.getD k []):RowAt st' k cs:=⟨q_e h.1 hl,by rw[hg];exact h.2⟩
theorem RowAt.set {st:Qd}{k:Nat}{cs' R:Lp}(h:k<st.length):RowAt (st.set k (cs'++R)) k cs':=⟨by rw[BL];exact h,R,by rw[Zw _ _ _ _ h]⟩
theorem Ky {ids:Ln}{j:Nat}(h:j<ids.length):ids.getD j 0∈ids:=Q8 _ _ _ h
theorem K1a {ids:Ln}(hn:qk ids){i j:Nat}(hi:i<ids.length)(hj:j<ids.length)(h:i≠j):ids.getD i 0≠ids.getD j 0:=hn i j hi hj h
theorem MatO.mono {st st':Qd}{A n:Nat}{ids:Ln}{rows:List (List PV)}(h:MatO st A ids n rows)(hl:st.length<=st'.length)(hg: ∀k,k=A\/k∈ids->st'.getD k []=st.getD k []):MatO st' A ids n rows:=
 ⟨h.lid,h.lrow,h.top.mono hl (hg _ (.inl rfl)),fun j hj=>(h.row j hj).mono hl (hg _ (.inr (Ky (by rw[h.lid];exact hj)))),h.na,h.nd⟩
theorem MatO.setRow {st:Qd}{A n:Nat}{ids:Ln}{rows:List (List PV)}(h:MatO st A ids n rows){j:Nat}(hj:j<n)(cs R:Lp):MatO (st.set (ids.getD j 0) (cs++R)) A ids n (rows.set j cs):=by
 have hji:j<ids.length:=by rw[h.lid];exact hj
 refine⟨h.lid,by rw[BL];exact h.lrow,h.top.mono (by simp) (Zg _ _ _ _ _ fun e=>h.na (e▸Ky hji)),fun i hi=> ?_,h.na,h.nd⟩;by_cases e:i=j;subst e;rw[Zw _ _ _ _ (by rw[h.lrow];exact hi)];exact RowAt.set (h.row i hi).1;rw[Zg _ _ _ _ _ (fun e2=>e e2.symm)];exact(h.row i hi).mono (by simp) (Zg _ _ _ _ _ (K1a h.nd hji (by rw[h.lid];exact hi) (fun e2=>e e2.symm)))
def QZ {α:Type}(d:α)(l:List α)(i j:Nat):List α:=(l.set i (l.getD j d)).set j (l.getD i d)
theorem GB {α:Type}(d:α)(l:List α)(i j:Nat):(QZ d l i j).length=l.length:=by simp[QZ]
theorem HV {α:Type}(d:α)(l:List α){i j k:Nat}(hi:i<l.length)(hj:j<l.length):(QZ d l i j).getD k d=if k=j then l.getD i d else if k=i then l.getD j d else l.getD k d:=by unfold QZ;by_cases e:k=j;subst e;rw[BC rfl,Zw _ _ _ _ (by rw[BL];exact hj)];rw[BA e,Zg _ _ _ _ _ (fun h=>e h.symm)];by_cases e2:k=i;subst e2;rw[BC rfl,Zw _ _ _ _ hi];rw[BA e2,Zg _ _ _ _ _ (fun h=>e2 h.symm)]
theorem z0m {l:Ln}(h:qk l){i j:Nat}(hi:i<l.length)(hj:j<l.length):qk (QZ 0 l i j):=by
 intro a b ha hb hab;rw[GB] at ha hb;rw[HV 0 l hi hj,HV 0 l hi hj];split<;>split<;>(try split)<;>(try split)
 all_goals first
  | omega
  | (refine h _ _ ?_ ?_ ?_<;>omega)
theorem Cp {l:Ln}{i j:Nat}(hi:i<l.length)(hj:j<l.length){x:Nat}(h:x∈QZ 0 l i j):x∈l:=by unfold QZ at h;rcases EP h with h | rfl;rcases EP h with h | rfl;exact h;exact Ky hj;exact Ky hi
theorem W1l {α β:Type}(f:α->β)(d:α)(d':β)(l:List α){i j:Nat}(hi:i<l.length)(hj:j<l.length):(QZ d l i j).map f=QZ d' (l.map f) i j:=by
 unfold QZ;rw[FA,FA];have: ∀k,k<l.length->(l.map f).getD k d'=f (l.getD k d):=fun k hk=>by rw[q_a,B8,q_a,BB hk];rfl
 rw[this i hi,this j hj]
theorem zv {cs R:Lp}{k:Nat}(h:k<cs.length)(x:PV):Qu (cs++R) k [x]=cs.set k x++R:=by unfold Qu;rw[FL oG];have:(cs++R).drop (k+ [x].length)=cs.drop (k+1)++R:=(by rw[List.length_singleton,EW oG]);rw[this,DS,BC h];simp
theorem MatO.swap {st:Qd}{A n:Nat}{ids:Ln}{rows:List (List PV)}(h:MatO st A ids n rows){i j:Nat}(hi:i<n)(hj:j<n)(R:Lp):
 MatO (st.set A ((QZ 0 ids i j).map (fun k=>PV.ms true k 0 n)++R)) A (QZ 0 ids i j) n (QZ [] rows i j):=by
 have hi':i<ids.length:=by rw[h.lid];exact hi
 have hj':j<ids.length:=by rw[h.lid];exact hj
 have key: ∀k,k<n->RowAt (st.set A ((QZ 0 ids i j).map (fun k=>PV.ms true k 0 n)++R)) (ids.getD k 0) (rows.getD k []):=fun k hk=>
  (h.row k hk).mono (by simp) (Zg _ _ _ _ _ fun e=>h.na (e▸Ky (by rw[h.lid];exact hk)))
 refine⟨by rw[GB];exact h.lid,by rw[GB];exact h.lrow,RowAt.set h.top.1,fun k hk=> ?_,fun hm=>h.na (Cp hi' hj' hm),z0m h.nd hi' hj'⟩;rw[HV 0 ids hi' hj',HV [] rows (by rw[h.lrow];exact hi) (by rw[h.lrow];exact hj)];split;exact key i hi;split;exact key j hj;exact key k hk
def QP (x:List Nm):List PV:=flat (Qy x)
theorem qW (a:Nm)(x:Lx):QP (a::x)=Qg a++QP x:=rfl
theorem U6 : ∀x:List Nm,(QP x).length=x.length*3
 | []=>rfl
 | a::x=>by rw[qW,BH,U6 x,C1];show 3+_=_;omega
theorem GQ : ∀(x:Lx) (j:Nat) (R:Lp),j<x.length->((QP x++R).drop (j*3)).take 3=Qg (x.getD j default)
 | [],j,R,h=>by simp at h
 | a::x,0,R,h=>rfl
 | a::x,j+1,R,h=>by rw[qW,BP,List.drop_append,E7 (by show 3<=_;omega),CQ,show(j+1)*3-(Qg a).length=j*3 from by show(j+1)*3-3=_;omega];exact GQ x j R (by simpa using h)
theorem qU : ∀(x:Lx) (j:Nat) (R:Lp) (y:Nm),j<x.length->Qu (QP x++R) (j*3) (Qg y)=QP (x.set j y)++R
 | [],j,R,y,h=>by simp at h
 | a::x,0,R,y,h=>rfl
 | a::x,j+1,R,y,h=>by have ih:=qU x j R y (by simpa using h);rw[qW,LM,qW,BP,BP,<-ih];unfold Qu;have e:(j+1)*3=(Qg a).length+j*3:=(by show _=3+_;omega);rw[e,List.take_length_add_append,DK,List.drop_length_add_append];simp
theorem v0o (x:Lx)(j:Nat)(R:Lp)(h:j<x.length):(QP x++R).getD (j*3+2) .junk= .sl .no (Qf (x.getD j default).w):=by have h1:=GQ x j R h;have h2:(((QP x++R).drop (j*3)).take 3).getD 2 .junk=(QP x++R).getD (j*3+2) .junk:=(by simp[q_a,ED,DH]);rw[<-h2,h1];rfl
def QO (st:Qd)(A:Nat)(ids:List Nat)(x:List (List Nm)):Prop:=(∀r∈x,r.length=x.length)/\MatO st A ids x.length (x.map QP)
def V0 (st:Qd)(A:Nat)(ids:List Nat)(n sz:Nat):List Nat:=(List.range st.length).map fun k=>if k=A then n else if k∈ids then n*sz else 0
theorem Ud (st:Qd)(A:Nat)(ids:Ln)(n sz k:Nat)(hk:k<st.length):(V0 st A ids n sz).getD k 0=if k=A then n else if k∈ids then n*sz else 0:=by unfold V0;rw[q_a,B8,EB hk];rfl
theorem MatO.seen {st:Qd}{e:Ln}{A n sz:Nat}{ids:Ln}{els:List (List PV)}(h:MatO st A ids n (els.map flat))(hl: ∀r∈els,r.length=n)(hs: ∀r∈els,∀x∈r,x.cells.length=sz/\ ∀c∈x.cells,Tame c)(hA:n<=e.getD A 0)(hi: ∀i∈ids,n*sz<=e.getD i 0):
 Seen st e (.ms true A 0 n) (.sl .no (els.map (PV.sl .no))):=by
 have hel:els.length=n:=by have:=h.lrow;rwa [BR] at this
 have hrow: ∀i,i<n->els.getD i []∈els:=fun i hi=>Q8 _ _ _ oG;have hfl: ∀i,i<n->(els.map flat).getD i []=flat (els.getD i []):=fun i hi=>by rw[q_a,B8,q_a,BB (show i<els.length by omega)];rfl
 have hms: ∀i,i<n->(els.map (PV.sl .no)).getD i .junk= .sl .no (els.getD i []):=fun i hi=>by rw[q_a,B8,q_a,BB (show i<els.length by omega)];rfl
 refine .ms (sz:=1) (.inl rfl) h.top.1 (by rw[BR];exact hel) (fun i hi=>by rw[hms i hi];rfl) (by rw[EJ];exact hA) fun i j hin hj=> ?_;have hj0:j=0:=oG;subst hj0;obtain⟨R,hR⟩:=h.top.2;have h1:(st.getD A []).getD (i*1+0) .junk= .ms true (ids.getD i 0) 0 n:=by
  have hii:i<ids.length:=by rw[h.lid];exact hin
  rw[hR,EJ,B1,QQ _ _ _ _ (by rw[BR];exact hii),q_a,B8,q_a,BB hii];rfl
 rw[h1,hms i hin];show Seen st e (.ms true (ids.getD i 0) 0 n) (.sl .no (els.getD i []));have hr:=h.row i hin;rw[hfl i hin] at hr;obtain⟨R2,hR2⟩:=hr.2;have hrl:=hl _ (hrow i hin);have hsz: ∀a,a<(els.getD i []).length->((els.getD i []).getD a .junk).cells.length=sz:=fun a ha=>(hs _ (hrow i hin) _ (Q8 _ _ _ ha)).1;refine .ms (sz:=sz) (.inl rfl) hr.1 hrl (fun a ha=>hsz a oG) (hi _ (Ky (by rw[h.lid];exact hin))) fun a b ha hb=> ?_;have hm:=Vu ha hb;have h2:(st.getD (ids.getD i 0) []).getD (a*sz+b) .junk=((els.getD i []).getD a .junk).cells.getD b .junk:=by rw[hR2,QQ _ _ _ _ (by rw[KJ hsz,hrl];exact hm),VQ hsz _ (by rw[hrl];exact hm)];have hd:(a*sz+b)/sz=a:=(by rw[BM,E4 oG,CP hb,B1]);have hmo:(a*sz+b) % sz=b:=(by rw[BM,E3,BJ hb]);rw[hd,hmo]
 rw[h2];refine .same ((hs _ (hrow i hin) _ (Q8 _ _ _ oG)).2 _ (Q8 _ _ _ ?_));rw[hsz a oG];exact hb
theorem MatO.eLe {st:Qd}{A n sz:Nat}{ids:Ln}{els:List (List PV)}(h:MatO st A ids n (els.map flat))(hl: ∀r∈els,r.length=n)(hs: ∀r∈els,∀x∈r,x.cells.length=sz/\ ∀c∈x.cells,Tame c):
 ∀k,k<st.length->(V0 st A ids n sz).getD k 0<=(st.getD k []).length:=by
 have hel:els.length=n:=by have:=h.lrow;rwa [BR] at this
 intro k hk;rw[Ud _ _ _ _ _ _ hk];split;rename_i e;subst e;obtain⟨R,hR⟩:=h.top.2;rw[hR,BH,BR,h.lid];omega;split;rename_i hm;obtain⟨i,hi,he⟩:=CM.1 hm;have hin:i<n:=(by rw[<-h.lid];exact hi);have hr:=h.row i hin;have e1:ids.getD i 0=k:=(by rw[q_a,BB hi];exact he);rw[e1] at hr;obtain⟨R,hR⟩:=hr.2;have hrow:els.getD i []∈els:=Q8 _ _ _ oG;have e2:(els.map flat).getD i []=flat (els.getD i []):=by rw[q_a,B8,q_a,BB (show i<els.length by omega)];rfl
 rw[hR,e2,BH,KJ (sz:=sz) fun a ha=>(hs _ hrow _ (Q8 _ _ _ ha)).1,hl _ hrow];omega;exact CX _
structure Built (st:Qd) (B n i:Nat) (out:PV) (ids:List Nat) (cs:List PV) (rows:List (List PV)):Prop where
 lid:ids.length=i
 lrow:rows.length=i
 lcs:cs.length=i
 un: ∀j,j<i->Un (cs.getD j .junk) (.ms true (ids.getD j 0) 0 n)
 row: ∀j,j<i->RowAt st (ids.getD j 0) (rows.getD j [])
 nd:qk ids
 ge: ∀k∈ids,B<=k
 le:B<=st.length
 out:(i=0/\out= .sl .full [])\/(0<i/\ ∃A cap R,out= .gr A i cap/\B<=A/\A<st.length/\A∉ids/\st.getD A []=cs++R/\R.length=cap-i/\i<=cap)
theorem Built.zero (st:Qd)(n:Nat):Built st st.length n 0 (.sl .full []) [] [] []:=
 ⟨rfl,rfl,rfl,fun j hj=>oG,fun j hj=>oG,fun i j hi=>by simp at hi,fun k hk=>by simp at hk,BD _,.inl ⟨rfl,rfl⟩⟩
theorem Hq {α:Type}(d:α)(l:List α)(x:α)(j:Nat):(l++ [x]).getD j d=if j=l.length then x else l.getD j d:=by by_cases h:j<l.length;rw[BA oG,QQ _ _ _ _ h];by_cases e:j=l.length;subst e;rw[BC rfl,Zl _ _ _ _ (BD _),DD];rfl;rw[BA e,q_a,C2 (by simp;omega),q_a,C2 oG]
theorem Built.next {st st':Qd}{B n i:Nat}{out c:PV}{ids:Ln}{cs:Lp}{rows:List (List PV)}(h:Built st B n i out ids cs rows){k A cap:Nat}{row R:Lp}(hc:Un c (.ms true k 0 n))(hk:RowAt st' k row)(hkB:B<=k)(hkn:k∉ids)
 (hl:st.length<=st'.length) (hg: ∀x∈ids,st'.getD x []=st.getD x []) (hA:B<=A) (hAl:A<st'.length) (hAn:A∉ids) (hAk:A≠k) (hAc:st'.getD A []=cs++([c]++R)) (hR:R.length=cap-(i+1)) (hcap:i+1<=cap):
 Built st' B n (i+1) (.gr A (i+1) cap) (ids++ [k]) (cs++ [c]) (rows++ [row]):=by
 refine⟨by simp[h.lid],by simp[h.lrow],by simp[h.lcs],fun j hj=> ?_,fun j hj=> ?_,?_,fun x hx=> ?_,B7 h.le hl,.inr ⟨oG,A,cap,R,rfl,hA,hAl,fun hm=> ?_,by rw[hAc,BP],hR,hcap⟩⟩;rw[Hq,Hq,h.lcs,h.lid];split;exact hc;exact h.un j oG;rw[Hq,Hq,h.lid,h.lrow];split;exact hk;exact(h.row j oG).mono hl (hg _ (Ky (by rw[h.lid];omega)));intro x y hx hy hxy;rw[BH,List.length_singleton] at hx hy;rw[Hq,Hq];split<;>split;omega;exact fun e=>hkn (e▸Ky oG);exact fun e=>hkn (e▸Ky oG);exact h.nd x y oG oG hxy;rcases DN.1 hx with hx | hx;exact h.ge x hx;rw[C0.1 hx];exact hkB;rcases DN.1 hm with hm | hm;exact hAn hm;exact hAk (C0.1 hm)
theorem xf : ∀ {cs:Lp},(∀c∈cs,c.cells= [c])->flat cs=cs
 | [],_=>rfl
 | c::cs,h=>by rw[xg,h c (by simp),xf fun x hx=>h x (by simp[hx])];rfl
theorem Un.cells1 {c:PV}{k n:Nat}(h:Un c (.ms true k 0 n)):c.cells= [c]:=by cases h<;>rfl
theorem Built.flat_cs {st:Qd}{B n i:Nat}{out:PV}{ids:Ln}{cs:Lp}{rows:List (List PV)}(h:Built st B n i out ids cs rows):flat cs=cs:=xf fun c hc=>by obtain⟨j,hj,rfl⟩:=CM.1 hc;have h1:=h.un j (by rw[<-h.lcs];exact hj);rw[q_a,BB hj] at h1;exact h1.cells1
theorem Built.first {st Y:Qd}{B n:Nat}{out c:PV}{ids:Ln}{cs:Lp}{rows:List (List PV)}(h:Built st B n 0 out ids cs rows){k cap:Nat}{row R:Lp}(hY:st.length<=Y.length)(hc:Un c (.ms true k 0 n))(hk:RowAt Y k row)(hkB:st.length<=k)(hcap:1<=cap)(hR:R.length=(cap-1)*1):
 Built (Y++ [flat [c]++R]) B n (0+1) (.gr Y.length (0+1) cap) (ids++ [k]) (cs++ [c]) (rows++ [row]):=by
 have e1:ids= []:=BY h.lid;have e2:cs= []:=BY h.lcs;have hfl:flat [c]= [c]:=xf fun x hx=>(by rw[C0.1 hx];exact hc.cells1);have hB:=h.le;refine h.next (R:=R) hc (hk.mono (by simp) (by rw[QQ _ _ _ _ hk.1])) oG (by rw[e1];simp) (by simp;omega) (fun x hx=>by rw[e1] at hx;simp at hx) oG (by simp) (by rw[e1];simp) (fun e=>by have:=hk.1;omega) ?_ oG hcap;rw[Zl _ _ _ _ (BD _),DD,e2,hfl];rfl
theorem Built.grow {st Y st':Qd}{B n i:Nat}{c:PV}{A cap:Nat}{ids:Ln}{cs:Lp}{rows:List (List PV)}(h:Built st B n i (.gr A i cap) ids cs rows)(hi:0<i){k A' cap':Nat}{row:Lp}(hY:st.length<=Y.length)(hYg: ∀x,x<st.length->Y.getD x []=st.getD x [])
 (hc:Un c (.ms true k 0 n)) (hk:RowAt Y k row) (hkB:st.length<=k) (hg:GrowTo Y A i cap [c] 1 A' cap' st'):Built st' B n (i+1) (.gr A' (i+1) cap') (ids++ [k]) (cs++ [c]) (rows++ [row]):=by
 rcases h.out with ⟨h0,_⟩ | ⟨_,A2,cap2,R,h1,h2,h3,h4,h5,h6,h7⟩;omega;simp only[PV.gr.injEq] at h1;obtain⟨rfl,_,rfl⟩:=h1;have hfl:flat [c]= [c]:=xf fun x hx=>(by rw[C0.1 hx];exact hc.cells1);have hfc:=h.flat_cs;obtain⟨R',f1,f2,f3,f4,f5,f6,f7⟩:=GrowTo.facts (es:=cs) (R:=R) hg oG (by rw[hYg A h3,h5,hfc]) (by rw[hfc,h.lcs];omega) (by rw[hfl];rfl) (by rw[h6];omega) h7;have hid: ∀x∈ids,x<st.length:=fun x hx=>by obtain⟨j,hj,he⟩:=CM.1 hx;have:=(h.row j (by rw[<-h.lid];exact hj)).1;rw[q_a,BB hj] at this;rw[<-he];exact this
 have hB:=h.le;have hkl:=hk.1;refine h.next (R:=R') hc (hk.mono f6 (f7 k hk.1 oG)) oG (fun hm=>by have:=hid k hm;omega) oG (fun x hx=>by
  have h8:=hid x hx;rw[f7 x oG (fun e=>h4 (e▸hx)),hYg x h8]) oG f4 (fun hm=>by
  rcases f5 with rfl | rfl;exact h4 hm;have:=hid _ hm;omega) oG (by rw[f1,hfc,hfl]) (by
  have: [c].length=1:=rfl;rw[f2,this];omega) (by have: [c].length=1:=rfl;omega)
theorem GrowTo.app {st X st':Qd}{A len cap sz A' cap':Nat}{ys:Lp}(h:GrowTo (st++X) A len cap ys sz A' cap' st')(hA:st.length<=A): ∃X',st'=st++X':=by rcases h with ⟨_,_,_,rfl⟩ | ⟨_,_,_,R,_,rfl⟩;exact⟨_,CJ _ _ hA⟩;exact⟨_,BP _ _ _⟩
theorem Built.at {st:Qd}{B n i A cap:Nat}{ids:Ln}{cs:Lp}{rows:List (List PV)}(h:Built st B n i (.gr A i cap) ids cs rows)(hi:0<i):B<=A/\A<st.length/\(st.getD A []).length=cap:=by rcases h.out with ⟨h0,_⟩ | ⟨_,A2,cap2,R,h1,h2,h3,h4,h5,h6,h7⟩;omega;simp only[PV.gr.injEq] at h1;obtain⟨rfl,_,rfl⟩:=h1;exact⟨h2,h3,by rw[h5,BH,h.lcs,h6];omega⟩
theorem Built.done {st:Qd}{B n:Nat}{out:PV}{ids:Ln}{cs:Lp}{rows:List (List PV)}(h:Built st B n n out ids cs rows)(hn:0<n):
 ∃A cap R,out= .gr A n cap/\B<=A/\A<st.length/\st.getD A []=cs++R/\MatO (st.set A ((ids.map fun i=>PV.ms true i 0 n)++R)) A ids n rows/\
  ∀k,k<st.length->((st.set A ((ids.map fun i=>PV.ms true i 0 n)++R)).getD k []).length=(st.getD k []).length/\ ∀o,o<(st.getD k []).length->Un ((st.getD k []).getD o .junk) (((st.set A ((ids.map fun i=>PV.ms true i 0 n)++R)).getD k []).getD o .junk):=by
 rcases h.out with ⟨h0,_⟩ | ⟨_,A,cap,R,h1,h2,h3,h4,h5,h6,h7⟩;omega;refine⟨A,cap,R,h1,h2,h3,h5,⟨h.lid,h.lrow,RowAt.set h3,fun j hj=>(h.row j hj).mono (by simp) (Zg _ _ _ _ _ fun e=>h4 (e▸Ky (by rw[h.lid];exact hj))),h4,h.nd⟩,fun k hk=> ?_⟩;by_cases e:k=A;subst e;rw[Zw _ _ _ _ h3,h5];refine⟨by simp[h.lid,h.lcs],fun o ho=> ?_⟩;by_cases hlt:o<n;rw[QQ _ _ _ _ (by rw[h.lcs];exact hlt),QQ _ _ _ _ (by simp[h.lid];exact hlt)];have:(ids.map fun i=>PV.ms true i 0 n).getD o .junk= .ms true (ids.getD o 0) 0 n:=by rw[q_a,B8,q_a,BB (show o<ids.length by rw[h.lid];exact hlt)];rfl
 rw[this];exact h.un o hlt;rw[Zl _ _ _ _ (by rw[h.lcs];omega),Zl _ _ _ _ (by simp[h.lid];omega),h.lcs,BR,h.lid];exact .same _;rw[Zg _ _ _ _ _ (fun e2=>e e2.symm)];exact⟨rfl,fun o _=> .same _⟩
def Below (base:Nat)(st st':Qd):Prop:=st'.length=st.length/\ ∀i,i<base->st'.getD i []=st.getD i []
theorem Below.refl (base:Nat)(st:Qd):Below base st st:=⟨rfl,fun _ _=>rfl⟩
theorem Below.trans {base:Nat}{st st' st'':Qd}(h:Below base st st')(h':Below base st' st''):Below base st st'':=⟨h'.1.trans h.1,fun i hi=>(h'.2 i hi).trans (h.2 i hi)⟩
theorem Below.set {base:Nat}{st:Qd}{k:Nat}(h:base<=k)(cs:Lp):Below base st (st.set k cs):=⟨by simp,fun i hi=>Zg _ _ _ _ _ oG⟩
theorem x0j {l m:Qd}(hl:l.length=m.length)(h: ∀i,i<l.length->l.getD i []=m.getD i []):l=m:=by refine C9 hl fun i h1 h2=> ?_;have:=h i h1;rwa [q_a,BB h1,q_a,BB h2] at this
theorem Below.app {st0 X st':Qd}(h:Below st0.length (st0++X) st'): ∃X',st'=st0++X':=by refine⟨st'.drop st0.length,x0j ?_ fun i hi=> ?_⟩;have:=h.1;rw[BH] at this⊢;rw[DM];omega;have hl:=h.1;rw[BH] at hl;by_cases e:i<st0.length;rw[h.2 i e,QQ _ _ _ _ e,QQ _ _ _ _ e];rw[Zl _ _ _ _ oG,q_a,q_a,DH,show st0.length+(i-st0.length)=i by omega]
structure PairO (base n:Nat) (st:Qd) (A:Nat) (ia:List Nat) (B:Nat) (ib:List Nat) (a r:List (List Nm)):Prop where
 qa:QO st A ia a
 qr:QO st B ib r
 la:a.length=n
 lr:r.length=n
 ab:A≠B
 aib:A∉ib
 bia:B∉ia
 ij: ∀x∈ia,x∉ib
 ga:base<=A
 gb:base<=B
 gia: ∀x∈ia,base<=x
 gib: ∀x∈ib,base<=x
theorem PairO.symm {base n:Nat}{st:Qd}{A B:Nat}{ia ib:Ln}{a r:Ly}(h:PairO base n st A ia B ib a r):PairO base n st B ib A ia r a:=
 ⟨h.qr,h.qa,h.lr,h.la,fun e=>h.ab e.symm,h.bia,h.aib,fun x hx hx2=>h.ij x hx2 hx,h.gb,h.ga,h.gib,h.gia⟩
theorem QO.lid {st:Qd}{A:Nat}{ids:Ln}{a:Ly}(h:QO st A ids a):ids.length=a.length:=h.2.lid
theorem QO.mono {st st':Qd}{A:Nat}{ids:Ln}{a:Ly}(h:QO st A ids a)(hl:st.length<=st'.length)(hg: ∀k,k=A\/k∈ids->st'.getD k []=st.getD k []):QO st' A ids a:=⟨h.1,h.2.mono hl hg⟩
theorem QO.setRow {st:Qd}{A:Nat}{ids:Ln}{a:Ly}(h:QO st A ids a){j:Nat}(hj:j<a.length){x:Lx}(hx:x.length=a.length)(R:Lp):QO (st.set (ids.getD j 0) (QP x++R)) A ids (a.set j x):=by refine⟨fun r hr=> ?_,?_⟩;rw[BL];rcases EP hr with hr | rfl;exact h.1 r hr;exact hx;rw[BL,FA];exact h.2.setRow hj _ R
theorem PairO.setA {base n:Nat}{st:Qd}{A B:Nat}{ia ib:Ln}{a r:Ly}(h:PairO base n st A ia B ib a r){j:Nat}(hj:j<n){x:Lx}(hx:x.length=n)(R:Lp):
 PairO base n (st.set (ia.getD j 0) (QP x++R)) A ia B ib (a.set j x) r/\Below base st (st.set (ia.getD j 0) (QP x++R)):=by
 have hm:ia.getD j 0∈ia:=Ky (by rw[h.qa.lid,h.la];exact hj);refine⟨⟨h.qa.setRow (by rw[h.la];exact hj) (by rw[h.la];exact hx) R,h.qr.mono (by simp) fun k hk=>Zg _ _ _ _ _ fun e=> ?_,by rw[BL];exact h.la,h.lr,h.ab,h.aib,h.bia,h.ij,h.ga,h.gb,h.gia,h.gib⟩,Below.set (h.gia _ hm) _⟩;rcases hk with rfl | hk;exact h.bia (e▸hm);exact h.ij _ hm (e▸hk)
theorem PairO.setR {base n:Nat}{st:Qd}{A B:Nat}{ia ib:Ln}{a r:Ly}(h:PairO base n st A ia B ib a r){j:Nat}(hj:j<n){x:Lx}(hx:x.length=n)(R:Lp):
 PairO base n (st.set (ib.getD j 0) (QP x++R)) A ia B ib a (r.set j x)/\Below base st (st.set (ib.getD j 0) (QP x++R)):=
 ⟨(h.symm.setA hj hx R).1.symm,(h.symm.setA hj hx R).2⟩
theorem QO.swap {st:Qd}{A:Nat}{ids:Ln}{a:Ly}(h:QO st A ids a){i j:Nat}(hi:i<a.length)(hj:j<a.length)(R:Lp):
 QO (st.set A ((QZ 0 ids i j).map (fun k=>PV.ms true k 0 a.length)++R)) A (QZ 0 ids i j) (QZ [] a i j):=by
 refine⟨fun r hr=> ?_,?_⟩;rw[GB];unfold QZ at hr;rcases EP hr with hr | rfl;rcases EP hr with hr | rfl;exact h.1 r hr;exact h.1 _ (Q8 _ _ _ hj);exact h.1 _ (Q8 _ _ _ hi);rw[GB,W1l QP [] [] a hi hj];exact h.2.swap hi hj R
theorem PairO.swapA {base n:Nat}{st:Qd}{A B:Nat}{ia ib:Ln}{a r:Ly}(h:PairO base n st A ia B ib a r){i j:Nat}(hi:i<n)(hj:j<n)(R:Lp):
 PairO base n (st.set A ((QZ 0 ia i j).map (fun k=>PV.ms true k 0 n)++R)) A (QZ 0 ia i j) B ib (QZ [] a i j) r/\Below base st (st.set A ((QZ 0 ia i j).map (fun k=>PV.ms true k 0 n)++R)):=by
 have hla:=h.la;have hli:=h.qa.lid;have hs:=h.qa.swap (i:=i) (j:=j) oG oG R;rw[hla] at hs;have hmem: ∀x,x∈QZ 0 ia i j->x∈ia:=fun x hx=>Cp oG oG hx;refine⟨⟨hs,h.qr.mono (by simp) fun k hk=>Zg _ _ _ _ _ fun e=> ?_,by rw[GB];exact h.la,h.lr,h.ab,h.aib,fun hx=>h.bia (hmem _ hx),fun x hx=>h.ij x (hmem _ hx),h.ga,h.gb,fun x hx=>h.gia x (hmem _ hx),h.gib⟩,Below.set h.ga _⟩;rcases hk with rfl | hk;exact h.ab e;exact h.aib (e▸hk)
theorem PairO.swapR {base n:Nat}{st:Qd}{A B:Nat}{ia ib:Ln}{a r:Ly}(h:PairO base n st A ia B ib a r){i j:Nat}(hi:i<n)(hj:j<n)(R:Lp):
 PairO base n (st.set B ((QZ 0 ib i j).map (fun k=>PV.ms true k 0 n)++R)) A ia B (QZ 0 ib i j) a (QZ [] r i j)/\Below base st (st.set B ((QZ 0 ib i j).map (fun k=>PV.ms true k 0 n)++R)):=
 ⟨(h.symm.swapA hi hj R).1.symm,(h.symm.swapA hi hj R).2⟩
theorem Rv {ids:Ln}{n:Nat}{R:Lp}{i j:Nat}(hi:i<ids.length)(hj:j<ids.length):
 Qu (Qu (ids.map (fun k=>PV.ms true k 0 n)++R) i [.ms true (ids.getD j 0) 0 n]) j [.ms true (ids.getD i 0) 0 n]=(QZ 0 ids i j).map (fun k=>PV.ms true k 0 n)++R:=by
 rw[zv (by rw[BR];exact hi),zv (by rw[BL,BR];exact hj)];unfold QZ;rw[FA,FA]
end Go.Pv
end
