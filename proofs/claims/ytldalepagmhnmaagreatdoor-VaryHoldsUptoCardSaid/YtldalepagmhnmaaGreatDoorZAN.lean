/- Parts of the walk: PvAj, PvAk. -/
import Derived.Test.YtldalepagmhnmaaGreatDoorZAA
import Derived.Test.YtldalepagmhnmaaGreatDoorZE
set_option linter.unusedVariables false
set_option linter.unusedSimpArgs false
section
namespace Go.Pv
def flat (ys:List PV):List PV:=(ys.map PV.cells).flatten
theorem w0z (y:PV)(ys:List PV):flat (y::ys)=y.cells++flat ys:=by simp[flat]
theorem Z0y {sz:Nat} : ∀ {ys:List PV},(∀i,i<ys.length->(ys.getD i .junk).cells.length=sz)->(flat ys).length=ys.length*sz
 | [],_=>by simp[flat]
 | y::ys,h=>by have h0:y.cells.length=sz:=h 0 (by simp);rw[w0z,List.length_append,h0,Z0y (ys:=ys) (fun i hi=>h (i+1) (by simpa using hi)),List.length_cons,Nat.add_mul];omega
theorem V0y {sz:Nat} : ∀ {ys:List PV},(∀i,i<ys.length->(ys.getD i .junk).cells.length=sz)-> ∀m,m<ys.length*sz->(flat ys).getD m .junk=(ys.getD (m/sz) .junk).cells.getD (m % sz) .junk
 | [],_,m,hm=>by simp at hm
 | y::ys,h,m,hm=>by
  have h0:y.cells.length=sz:=h 0 (by simp);have hp:0<sz:=by refine Nat.pos_of_ne_zero fun e=> ?_;rw[e] at hm;simp at hm
  rw[w0z];by_cases hlt:m<sz;rw[Q0g _ _ _ _ (by omega),Nat.div_eq_of_lt hlt,Nat.mod_eq_of_lt hlt];rfl;have hm':m-sz<ys.length*sz:=(by rw[List.length_cons,Nat.add_mul] at hm;omega);rw[Q0k _ _ _ _ (by omega),h0,V0y (ys:=ys) (fun i hi=>h (i+1) (by simpa using hi)) _ hm'];have e1:m/sz=(m-sz)/sz+1:=Nat.div_eq_sub_div hp (by omega);rw[e1,<-Nat.mod_eq_sub_mod (by omega)];rfl
theorem X1j {w:World}{g:Gh}{F:Fr}{T:List (Nat×Nat)}{v:Value}(h:RepF w g F T v (.sl .full [])): ∃ad,v= .slice ad 0 0:=by
 have h':Rep w g v (.sl .full []):=by cases h with | base _ _ h=>exact h
 have key: ∀es:List PV,es= []->Rep w g v (.sl .full es)-> ∃ad,v= .slice ad 0 0:=fun es he h=>by
  cases h with
  | nil t ad ht=>exact⟨ad,rfl⟩
  | sl t es b off sz cap cf ht hf hcap hsz hvis hc hr=>
   have:=hf rfl;subst he;exact⟨_,by rw[this];rfl⟩
 exact key [] rfl h'
theorem j2u {P:Program}{E:Ent}{a:Act}{w:World}{g:Gh}{F:Fr}{s:PFS}{t tx e':TypeId}{e:EI}(hu:P.underlying t=some (.slice e.id))(hei:ei P e.id=some e)(hu2:P.underlying tx=some (.slice e')){ys:List PV}{v x:Value}{ty:TypeId}
 (h:FSRep E a w g F s) (hv:RepF w g F s.T v (.sl .full [])) (hx:Rep w g x (.sl .no ys)) (hok:W1f [] ys e) (h0:0<ys.length):
 Does P E a w (do pure (.value (<-Builtin.append_ #[t,tx] ty #[v,x]))) (.ms false s.L.length 0 ys.length) { s with L:=s.L++ [flat ys] } :=by
 obtain⟨c1,c2,c3,_,c5⟩:=hok;obtain⟨news,hs⟩:=H0z (P:=P) hu2 hx c5;obtain⟨i,u,hi,hu',he⟩:=V0j hei;have e1:i.size=e.sz:=(by rw[he]);have e2:i.bytes=e.by_:=(by rw[he]);obtain⟨z,hz,hzs⟩: ∃z,i.zero=some z/\z.cells.size=i.size:=by have:=congrArg EI.zok he;rw[c1] at this;simp only at this;split at this;rename_i z hz;exact⟨z,hz,by simpa using this.symm⟩;cases this
 obtain⟨ad,rfl⟩:=X1j hv;rw[<-e1] at hs;have hnl:news.length=ys.length*i.size:=hs.src.newsLen;have hcap:0<0+ys.length:=(by omega);have hold:(Builtin.firstCells i.size 0 (.slice ad 0 0)).run P w.drew= .ok ([]:List Value).toArray w.drew:=by
  cases ad with
  | none=>exact run_firstCells_none _ _ _ _ _
  | some a=>simp[Builtin.firstCells,loadCells,loadCellsFrom]
 simp only[List.length_nil,Nat.zero_add] at c2 c3;have hrun:=run_append_grow_src (P:=P) w t tx ty e.id i z hu hi hz ad 0 0 [] hold x ys.length news hs.src hcap (by omega) (growslice_fits hcap (by rw[e2,Nat.zero_add];exact c3));generalize hvs:(([]:List Value)++news).toArray++Builtin.zeroCells z.cells (grownCap w (0+ys.length) 0 e.id-(0+ys.length))=vs at hrun;obtain⟨d1,d2⟩:=h.drew;have hfl:=Z0y hs.each;have hge:=grownCap_ge w (0+ys.length) 0 e.id;have hsz:(flat ys).length<=vs.size:=by rw[<-hvs,Array.size_append,hfl];simp only[List.nil_append,List.size_toArray,hnl];omega
 obtain⟨g',F',f1,f2,f3,f4⟩:=d1.box_new_le e.id vs (flat ys) hsz (fun m hm=>by rw[hfl] at hm;have hlo:m<(([]:List Value)++news).toArray.size:=(by simp only[List.nil_append,List.size_toArray,hnl];exact hm);rw[<-hvs,Array.getD_append_left' _ _ _ _ hlo,X0b,V0y hs.each m hm,List.nil_append];exact .base _ _ ((hs.rep m hm).mono (y0g w g).le));refine⟨_,_,g',F',by simp only[Sem.run_bind,hrun,Result.andThen_ok,Sem.run_pure];rfl,f1,.inl ⟨_,rfl,?_⟩⟩;rw[Nat.zero_add];rw[Nat.zero_add] at hge;have:=RepF.lms (w:=w.drew.alloc (.cells vs e.id)) (g:=g') (F:=F') (T:=s.T) s.L.length 0 ys.length (grownCap w ys.length 0 e.id) f3 hge;rw[f2] at this;exact this
def q3j (T U:Option TI)(x y:PV)(s:PFS)(K:PV->PFS->Prop):Prop:=
 match T,U,x,y with
 | some ⟨_,_,.slice e,_⟩,some ⟨_,_,.slice _,_⟩,.sl .full [],.sl _ ys=>(W1f [] ys e/\0<ys.length)/\K (.ms false s.L.length 0 ys.length) { s with L:=s.L++ [flat ys] }
 | _,_,_,_=>False
def POm0 (P:Program)(o:Oper)(K:PFS->Prop)(s:PFS):Prop:=
 match o.op with
 | .call { callee:= .builtin .append,args,argTypes } =>
  match argTypes.toList,args.toList with
  | [t,u],[x,y]=>q3j (ti P t) (ti P u) (s.ev x) (s.ev y) s (fun p s'=>K (s'.put o.dst p))
  | _,_=>False
 | _=>False
theorem W2t {P:Program}{E:Ent}{a:Act}{w:World}{g:Gh}{F:Fr}{s:PFS}{o:Oper}{K:PFS->Prop}(h:FSRep E a w g F s)(hp:POm0 P o K s){next:Act->World->Prop}{Q:Exit->Act->World->Prop}
 (hn: ∀a' w' g' F' s',FSRep E a' w' g' F' s'->K s'->next a' w'):o.wp P a w next Q:=by
 unfold POm0 at hp;split at hp;rotate_left;exact hp.elim;rename_i args ts heq;split at hp;rotate_left;exact hp.elim;rename_i t u o1 o2 hts hargs;unfold q3j at hp;split at hp;rotate_left;exact hp.elim;rename_i e _ _ _ e2 _ tg ys hT hU h1 h2;obtain⟨⟨c1,c2⟩,hk⟩:=hp;obtain⟨_,_,_,hu,hT'⟩:=Q0w hT;obtain⟨rfl,hei⟩:=Z0i (congrArg TI.ud hT').symm;obtain⟨_,_,_,hu2,hU'⟩:=Q0w hU;obtain⟨rfl,_⟩:=Z0i (congrArg TI.ud hU').symm;have ha:args= #[o1,o2]:=(by rw[<-hargs]);have ht:ts= #[t,u]:=(by rw[<-hts]);subst ha ht;have hv:=h.ev o1;rw[h1] at hv;have hx:=h.ev o2;rw[h2] at hx;obtain⟨nx,w',g',F',r1,r2,r3⟩:=j2u (P:=P) (ty:=o.type) hu hei hu2 h hv hx.slNo c1 c2;have hex:(execOp a.eval o).run P w= .ok nx w':=by unfold execOp;simp only[heq,resolve,invoke,Sem.run_bind,Sem.run_pure,Result.andThen_ok];show(do pure (Next.value (<-Builtin.append_ #[t,u] o.type (Array.map a.eval #[o1,o2]))):Sem Next).run P w=_;rw[<-r1];simp
 unfold Oper.wp;rw[hex];rcases r3 with ⟨v,rfl,hv⟩ | ⟨rfl,hj⟩;exact hn _ _ _ _ _ (r2.put o.dst hv) hk;cases hj
theorem Z4b {P:Program}{o:Oper}{K:PFS->Prop}{s:PFS}(hp:POm0 P o K s): ∀c,o.op≠ .defer c:=by intro c hc;unfold POm0 at hp;rw[hc] at hp;exact hp
theorem k2d {P:Program}{E:Ent}{a:Act}{w:World}{g:Gh}{F:Fr}{s:PFS}{o:Oper}{K:PFS->Prop}(h:FSRep E a w g F s)(hp:POm0 P o K s){next:Act->World->Prop}{Q:Exit->Act->World->Prop}
 (hn: ∀a' w' g' F' s',FSRep E a' w' g' F' s'->K s'->next a' w'):o.wpIn (fen E.rd) 0 P a w next Q:=
 X1n E.rd (Z4b hp) (W2t h hp hn)
def OLm0 (P:Program)(ops:List Oper):List Bool->List Oper->(PFS->Prop)->PFS->Prop
 | _,[],K,s=>K s
 | [],rest,K,s=>OL0 P ops rest K s
 | true::bs,o::rest,K,s=>o.guard=none/\POm0 P o (OLm0 P ops bs rest K) s
 | false::bs,o::rest,K,s=>
  match o.guard with
  | none=>OC0 P o (OLm0 P ops bs rest K) s
  | some (j,want)=>GK0 (Z0l ops s j want) want (OC0 P o (OLm0 P ops bs rest K) s) (OLm0 P ops bs rest K (s.put o.dst (.tup [])))
theorem V1v {P:Program}{E:Ent}{ops:Array Oper}{Q:Exit->Act->World->Prop}{K:PFS->Prop}(hK: ∀a' w' g' F' s',FSRep E a' w' g' F' s'->K s'->Q .normal a' w'):
 ∀(bs:List Bool) (rest:List Oper) (a:Act) (w:World) (g:Gh) (F:Fr) (s:PFS),FSRep E a w g F s->OLm0 P ops.toList bs rest K s->wpListIn (fen E.rd) 0 P ops Q rest a w
 | bs,[],a,w,g,F,s,h,hp=>hK a w g F s h (by unfold OLm0 at hp;exact hp)
 | [],o::rest,a,w,g,F,s,h,hp=>G0t hK (o::rest) a w g F s h (z0k hp)
 | true::bs,o::rest,a,w,g,F,s,h,hp=>by obtain⟨hg,hp⟩:=hp;have ih:=V1v (P:=P) (ops:=ops) hK bs rest;unfold wpListIn;rw[if_pos (by simp[Region.wanted,hg])];exact k2d h hp fun a' w' g' F' s' hr hk=>ih a' w' g' F' s' hr hk
 | false::bs,o::rest,a,w,g,F,s,h,hp=>by
  have ih:=V1v (P:=P) (ops:=ops) hK bs rest;unfold OLm0 at hp;unfold wpListIn;cases hg:o.guard with
  | none=>
   rw[hg] at hp;rw[if_pos (by simp[Region.wanted,hg])];exact J0b h (W0e hp) fun a' w' g' F' s' hr hk=>ih a' w' g' F' s' hr hk
  | some x=>
   obtain⟨j,want⟩:=x;rw[hg] at hp;simp only at hp;cases hb:Z0l ops.toList s j want with
   | none=>rw[hb] at hp;exact hp.elim
   | some b=>
    rw[hb] at hp;obtain⟨h1,h2⟩:=hp;have hy:=V0f h hb;by_cases e:b=want;have hx:=h1 e;subst e;rw[if_pos (by unfold Region.wanted;rw[hg];simp only;rw[hy];simp)];exact J0b h (W0e hx) fun a' w' g' F' s' hr hk=>ih a' w' g' F' s' hr hk;rw[if_neg (by unfold Region.wanted;rw[hg];simp only;rw[hy];simp[e])];exact⟨V0z,ih _ w g F _ (h.put o.dst (.base _ _ (Y0r _ _))) (h2 e)⟩
def OLm (P:Program)(ops:List Oper)(bs:List Bool)(rest:List Oper)(K:PFS->Prop)[Stop ops][Stop rest][Stop K](s:PFS):Prop:=OLm0 P ops bs rest K s
def POm (P:Program)(o:Oper)(K:PFS->Prop)[Stop o][Stop K](s:PFS):Prop:=POm0 P o K s
theorem w2o {P:Program}{E:Ent}{id:Nat}{l:List Oper}{Q:Exit->PFS->Prop}{s:PFS}(bs:List Bool)(h:OLm P l bs l (Q .normal) s):PWP P E (.region id l.toArray false) Q s:=fun a w g F hr=>
 wpIn_region_list (V1v (fun a' w' g' F' s' hr' hk=>⟨g',F',s',hr',hk⟩) bs l a w g F s hr h)
section
variable {P:Program} {s:PFS} {K:PFS->Prop} {d:Option Tmp} {ty:TypeId} {pos:String} {af:Array Edge}
@[go_sem] theorem q4a {ops:List Oper}{bs:List Bool} :OLm P ops bs [] K s=K s:=by cases bs<;>rfl
@[go_sem] theorem q4b {ops rest:List Oper} :OLm P ops [] rest K s=OL P ops rest K s:=by cases rest<;>rfl
@[go_sem] theorem z4w {ops rest:List Oper}{bs:List Bool}{op:Op} :OLm P ops (true::bs) (⟨d,op,ty,pos,af,none⟩::rest) K s=POm P ⟨d,op,ty,pos,af,none⟩ (OLm P ops bs rest K) s:=by show((none:Option (Nat×Bool))=none/\_)=_;simp only[true_and];rfl
@[go_sem] theorem z4x {ops rest:List Oper}{bs:List Bool}{op:Op} :OLm P ops (false::bs) (⟨d,op,ty,pos,af,none⟩::rest) K s=OC P ⟨d,op,ty,pos,af,none⟩ (OLm P ops bs rest K) s:=(rfl)
@[go_sem] theorem z4i {ops rest:List Oper}{bs:List Bool}{op:Op}{j:Nat}{want:Bool} :OLm P ops (false::bs) (⟨d,op,ty,pos,af,some (j,want)⟩::rest) K s=
 GK (Z0l ops s j want) want (OC P ⟨d,op,ty,pos,af,some (j,want)⟩ (OLm P ops bs rest K) s) (OLm P ops bs rest K (s.put d (.tup []))):=rfl
def V3u (T U:Option TI)(x y:PV)(s:PFS)(K:PV->PFS->Prop)[Stop K]:Prop:=q3j T U x y s K
@[go_sem] theorem H4n {x y:Operand}{t u:TypeId} :POm P ⟨d,.call ⟨.builtin .append,[x,y].toArray,[t,u].toArray⟩,ty,pos,af,none⟩ K s=V3u (ti P t) (ti P u) (s.ev x) (s.ev y) s (fun p s'=>K (s'.put d p)):=(rfl)
@[go_sem] theorem Q4p {e e':EI}{x1 y1:Bool}{x2 y2:Nat}{x4 y4:Option Value}{t:Tag}{ys:List PV}{K:PV->PFS->Prop} :V3u (some ⟨x1,x2,.slice e,x4⟩) (some ⟨y1,y2,.slice e',y4⟩) (.sl .full []) (.sl t ys) s K=
 ((W1f [] ys e/\0<ys.length)/\K (.ms false s.L.length 0 ys.length) { s with L:=s.L++ [flat ys] }):=(rfl)
end
def Y0a (sz:Nat):Nat->List PV->List PV
 | 0,_=> []
 | n+1,cs=> .agg (cs.take sz)::Y0a sz n (cs.drop sz)
theorem Z0x (sz:Nat): ∀(n:Nat) (cs:List PV),(Y0a sz n cs).length=n
 | 0,_=>rfl
 | n+1,cs=>by simp[Y0a,Z0x sz n]
theorem G0r (sz:Nat): ∀(n:Nat) (cs:List PV) (i:Nat),i<n->(Y0a sz n cs).getD i .junk= .agg ((cs.drop (i*sz)).take sz)
 | 0,_,i,h=>by omega
 | n+1,cs,0,h=>by simp[Y0a]
 | n+1,cs,i+1,h=>by have:=G0r sz n (cs.drop sz) i (by omega);show(Y0a sz n (cs.drop sz)).getD i .junk=_;rw[this,List.drop_drop,Nat.add_mul,Nat.one_mul,Nat.add_comm]
theorem z0j {sz:Nat} : ∀ {ys:List PV} (r:List PV),(∀y∈ys,y= .agg y.cells/\y.cells.length=sz)->Y0a sz ys.length (flat ys++r)=ys
 | [],r,_=>rfl
 | y::ys,r,h=>by obtain⟨h1,h2⟩:=h y (by simp);have ih:=z0j (ys:=ys) r (fun z hz=>h z (by simp[hz]));simp only[List.length_cons,Y0a,w0z];rw[List.append_assoc,List.take_append_of_le_length (by omega),List.take_of_length_le (by omega),List.drop_append_of_le_length (by omega),List.drop_of_length_le (by omega),List.nil_append,ih,<-h1]
def PV.frzN1 (i sz:Nat)(cs:List PV):PV->PV
 | .lp k off=>if k=i then .ep cs off else .lp k off
 | .ms false k off len=>if k=i then(if off+len*sz<=cs.length then .sl .no (Y0a sz len (cs.drop off)) else .junk) else .ms false k off len
 | .mr k len cap=>if k=i then(if len*sz<=cs.length then .sl .no (Y0a sz len cs) else .junk) else .mr k len cap
 | p=>p
def PV.frzN (i sz:Nat)(cs:List PV):PV->PV
 | .agg l=> .agg (l.map (PV.frzN1 i sz cs))
 | .tup l=> .tup (l.map (PV.frzN1 i sz cs))
 | .fn f l m=> .fn f (l.map (PV.frzN1 i sz cs)) (m.map (PV.frzN1 i sz cs))
 | p=>p.frzN1 i sz cs
def PFS.freezeN (i sz:Nat)(s:PFS):PFS:=
 let cs:=(s.L.getD i []).map PV.forget2
 ⟨s.pa.map (PV.frzN i sz cs),(s.L.map fun l=>l.map (PV.frzN i sz cs)).set i [],s.T,s.st⟩
section
variable {w:World} {g g':Gh} {F:Fr} {T:List (Nat×Nat)} {i sz:Nat} {cs:List PV}
theorem RepF.frzN1 {v:Value}{p:PV}(hm: ∀v p,RepF w g F T v p->RepF w g' F T v p)(hz:Frozen w g' (F.lmu i) cs)(h:RepF w g F T v p):RepF w g' F T v (p.frzN1 i sz cs):=by
 obtain⟨cf,hcf⟩:=hz.cf;have h':=hm _ _ h;cases p with
 | lp k off=>
  simp only[PV.frzN1];split;rename_i e;subst e;cases h' with
  | base _ _ h'=>cases h'
  | lp k off hi=>
   have:=Rep.ep (w:=w) (g:=g') cs off (F.lmu k) 0 cf (by simpa using hz.vis) (fun j hj=>by simpa using(hcf j hj).1) (fun j hj=>(hcf j hj).2);rw[Nat.zero_add] at this;exact .base _ _ this
  exact h'
 | ms gl k off len=>
  cases gl with
  | true=>exact h'
  | false=>
   simp only[PV.frzN1];split;rename_i e;subst e;split;rename_i hle;cases h' with
   | base _ _ h'=>cases h'
   | lms k off len cap hi hcap=>
    have hin: ∀a b,a<len->b<sz->off+a*sz+b<cs.length:=fun a b ha hb=>by have:=K0i ha hb;omega
    have hfit: ∀a,a<len->a*sz+sz<=len*sz:=fun a ha=>by have:(a+1)*sz<=len*sz:=Nat.mul_le_mul_right _ ha;rw[Nat.add_mul,Nat.one_mul] at this;exact this
    have:=Rep.sl (w:=w) (g:=g') .no (Y0a sz len (cs.drop off)) (F.lmu k) off sz cap (fun a b=>cf (off+a*sz+b)) rfl (fun h=>by cases h) (by rw[Z0x];exact hcap)
     (fun a ha=>by rw[Z0x] at ha;rw[G0r _ _ _ _ ha];show((List.drop (a*sz) (List.drop off cs)).take sz).length=sz;rw[List.length_take,List.length_drop,List.length_drop];have:=hfit a ha;omega) (fun _=>by rw[Z0x];have:=hz.vis;omega)
     (fun a b ha hb=>by rw[Z0x] at ha;exact(hcf _ (hin a b ha hb)).1)
     (fun a b ha hb=>by rw[Z0x] at ha;rw[G0r _ _ _ _ ha];show Rep w g' _ (((List.drop (a*sz) (List.drop off cs)).take sz).getD b .junk);rw[V0g _ _ _ _ hb];simp only[q_a,List.getElem?_drop];have:=(hcf _ (hin a b ha hb)).2;rw[q_a] at this;rw[show off+(a*sz+b)=off+a*sz+b from by omega];exact this)
    rw[Z0x] at this;exact .base _ _ this
   exact .base _ _ (.junk _);exact h'
 | mr k len cap=>
  simp only[PV.frzN1];split;rename_i e;subst e;split;rename_i hle;cases h' with
  | base _ _ h'=>cases h'
  | lmr0 k ad hi=>exact .base _ _ (.nil .no ad rfl)
  | lmr k len cap hi hcap=>
   have hin: ∀a b,a<len->b<sz->a*sz+b<cs.length:=fun a b ha hb=>by have:=K0i ha hb;omega
   have hfit: ∀a,a<len->a*sz+sz<=len*sz:=fun a ha=>by have:(a+1)*sz<=len*sz:=Nat.mul_le_mul_right _ ha;rw[Nat.add_mul,Nat.one_mul] at this;exact this
   have:=Rep.sl (w:=w) (g:=g') .no (Y0a sz len cs) (F.lmu k) 0 sz cap (fun a b=>cf (a*sz+b)) rfl (fun h=>by cases h) (by rw[Z0x];exact hcap)
    (fun a ha=>by rw[Z0x] at ha;rw[G0r _ _ _ _ ha];show((List.drop (a*sz) cs).take sz).length=sz;rw[List.length_take,List.length_drop];have:=hfit a ha;omega) (fun _=>by rw[Z0x];have:=hz.vis;omega)
    (fun a b ha hb=>by rw[Z0x] at ha;rw[Nat.zero_add];exact(hcf _ (hin a b ha hb)).1)
    (fun a b ha hb=>by rw[Z0x] at ha;rw[G0r _ _ _ _ ha];show Rep w g' _ (((List.drop (a*sz) cs).take sz).getD b .junk);rw[V0g _ _ _ _ hb];simp only[q_a,List.getElem?_drop];have:=(hcf _ (hin a b ha hb)).2;rw[q_a] at this;exact this)
   rw[Z0x] at this;exact .base _ _ this
  exact .base _ _ (.junk _);exact h'
 | _=>exact h'
theorem RepF.frzN {v:Value}{p:PV}(hm: ∀v p,RepF w g F T v p->RepF w g' F T v p)(hz:Frozen w g' (F.lmu i) cs)(h:RepF w g F T v p):RepF w g' F T v (p.frzN i sz cs):=by
 have gm: ∀(l:List PV) (j:Nat),(l.map (PV.frzN1 i sz cs)).getD j .junk=(l.getD j .junk).frzN1 i sz cs:=fun l j=>Q0z rfl l j;cases p with
 | agg l=>
  cases h with
  | base _ _ h=>
   cases h with
   | agg vs cs' hl h=>exact .agg vs _ (by simpa using hl) fun j hj=>by rw[gm];exact RepF.frzN1 hm hz (.base _ _ (h j (by simpa using hj)))
  | agg vs cs' hl h=>exact .agg vs _ (by simpa using hl) fun j hj=>by rw[gm];exact RepF.frzN1 hm hz (h j (by simpa using hj))
 | tup l=>
  cases h with
  | base _ _ h=>
   cases h with
   | tup vs cs' hl h=>exact .tup vs _ (by simpa using hl) fun j hj=>by rw[gm];exact RepF.frzN1 hm hz (.base _ _ (h j (by simpa using hj)))
  | tup vs cs' hl h=>exact .tup vs _ (by simpa using hl) fun j hj=>by rw[gm];exact RepF.frzN1 hm hz (h j (by simpa using hj))
 | fn f l m=>
  cases h with
  | base _ _ h=>
   cases h with
   | fn f us vs bs cs' hk hl h0 h=>
    exact .fn f us vs _ _ (by simpa using hk) (by simpa using hl) (fun j hj=>by rw[gm];exact RepF.frzN1 hm hz (.base _ _ (h0 j (by simpa using hj)))) fun j hj=>by rw[gm];exact RepF.frzN1 hm hz (.base _ _ (h j (by simpa using hj)))
  | fn f us vs bs cs' hk hl h0 h=>
   exact .fn f us vs _ _ (by simpa using hk) (by simpa using hl) (fun j hj=>by rw[gm];exact RepF.frzN1 hm hz (h0 j (by simpa using hj))) fun j hj=>by rw[gm];exact RepF.frzN1 hm hz (h j (by simpa using hj))
 | _=>exact RepF.frzN1 (sz:=sz) hm hz h
end
theorem H1n {E:Ent}{s:PFS}(i sz:Nat)(hi:s.freezeOK i):Weak E s (s.freezeN i sz):=by
 intro a w g F h;by_cases hne:s.L.getD i []= []
 --a box without cells
 have hz:Frozen w g (F.lmu i) []:=⟨Nat.zero_le _,(fun p hp=>by cases hp),⟨fun _=>undef,fun j hj=>by simp at hj⟩⟩;have hf: ∀v p,RepF w g F s.T v p->RepF w g F s.T v (p.frzN i sz []):=fun v p hp=>RepF.frzN (fun _ _ h=>h) hz hp;have hL: ∀k,((s.L.map fun l=>l.map (PV.frzN i sz [])).set i []).getD k []≠ []->s.L.getD k []≠ []/\((s.L.map fun l=>l.map (PV.frzN i sz [])).set i []).getD k []=(s.L.getD k []).map (PV.frzN i sz []):=fun k hk=>by
  by_cases hki:i=k;subst hki;exfalso;apply hk;exact X0g _ _;have e:((s.L.map fun l=>l.map (PV.frzN i sz [])).set i []).getD k []=(s.L.getD k []).map (PV.frzN i sz []):=by rw[<-K0o (f:=fun l=>l.map (PV.frzN i sz [])) rfl];simp[q_a,List.getElem?_set_ne hki]
  refine⟨fun e0=>hk (by rw[e,e0];rfl),e⟩
 have hcs:(s.L.getD i []).map PV.forget2= []:=by rw[hne];rfl
 refine⟨g,F,?_⟩;unfold PFS.freezeN;rw[hcs];refine⟨h.ext,h.store,⟨by simp[h.frame.nl],fun k hk=>h.frame.lo k (hL k hk).1,fun k hk=>h.frame.apart k (hL k hk).1,fun k j hk hj=>h.frame.inj k j (hL k hk).1 (hL j hj).1,fun k hk=> ?_,h.frame.tlo,fun k b hk hb=>⟨(h.frame.tapart k b hk hb).1,fun j hj=>(h.frame.tapart k b hk hb).2 j (hL j hj).1⟩,h.frame.tinj⟩,h.defers,by simp[h.len],fun t ht=> ?_⟩;obtain⟨h1,h2⟩:=hL k hk;simp only at hk⊢;rw[h2];intro j hj;obtain⟨q1,c,q2,q3⟩:=h.frame.holds k h1 j (by simpa using hj);exact⟨q1,c,q2,by rw[Q0z (f:=PV.frzN i sz []) rfl];exact hf _ _ q3⟩;simp only at ht⊢;rw[Q0z (f:=PV.frzN i sz []) rfl];exact hf _ _ (h.tmps t (by simpa using ht))
 let cs:=(s.L.getD i []).map PV.forget2
 obtain⟨l1,l2,l3⟩:=h.frame.lo i hne;obtain⟨k1,k2⟩:=V1j w g (F.lmu i) cs.length (.inl l2) h.store.none;have hall:=List.all_eq_true.1 hi
 --all but the box
 have hLe:=k1.le
 let g':Gh:= { g with vis:=fun c=>if c=F.lmu i then max cs.length (g.vis c) else g.vis c }
 have htok:v0l w g F s.T w g' F s.T:=⟨Nat.le_refl _,fun k hk=>⟨Nat.le_refl _,fun _ v es hR=>hR.mono fun b hb=>⟨rfl,if_neg fun e=>(h.frame.tapart k b hk hb).2 i hne e.symm⟩⟩⟩;have hm: ∀v p,RepF w g F s.T v p->RepF w g' F s.T v p:=fun v p hr=>hr.mono hLe (Nat.le_refl _) (fun _ _=>rfl) htok;have hcell: ∀j,j<cs.length-> ∃c,w.cell? ⟨F.lmu i,j,none⟩=some c/\Rep w g' c (cs.getD j .junk):=fun j hj=>by have hj':j<(s.L.getD i []).length:=(by simpa[cs] using hj);obtain⟨q1,c,q2,q3⟩:=h.frame.holds i hne j hj';refine⟨c,q2,?_⟩;have e:cs.getD j .junk=((s.L.getD i []).getD j .junk).forget2:=Q0z (f:=PV.forget2) rfl _ _;rw[e];exact(hm _ _ q3).forget2 (Bool.and_eq_true_iff.1 (hall _ (Q0t _ _ _ hj'))).1
 have hz:Frozen w g' (F.lmu i) cs:=by refine⟨?_,fun p hp=> ?_,⟨fun j=>if h:j<cs.length then(hcell j h).choose else undef,fun j hj=> ?_⟩⟩;show cs.length<=(if F.lmu i=F.lmu i then max cs.length (g.vis (F.lmu i)) else _);rw[if_pos rfl];exact Nat.le_max_left _ _;simp only[cs,List.mem_map] at hp;obtain⟨q,hq,rfl⟩:=hp;have:=K1r (Bool.and_eq_true_iff.1 (hall _ hq)).2;exact⟨by rw[this];rfl,this⟩;simp only[dif_pos hj];exact(hcell j hj).choose_spec
 have hf: ∀v p,RepF w g F s.T v p->RepF w g' F s.T v (p.frzN i sz cs):=fun v p hp=>RepF.frzN hm hz hp;have hL: ∀k,((s.L.map fun l=>l.map (PV.frzN i sz cs)).set i []).getD k []≠ []->k≠i/\s.L.getD k []≠ []/\((s.L.map fun l=>l.map (PV.frzN i sz cs)).set i []).getD k []=(s.L.getD k []).map (PV.frzN i sz cs):=fun k hk=>by
  by_cases hki:i=k;subst hki;exfalso;apply hk;exact X0g _ _;have e:((s.L.map fun l=>l.map (PV.frzN i sz cs)).set i []).getD k []=(s.L.getD k []).map (PV.frzN i sz cs):=by rw[<-K0o (f:=fun l=>l.map (PV.frzN i sz cs)) rfl];simp[q_a,List.getElem?_set_ne hki]
  exact⟨fun e=>hki e.symm,fun e0=>hk (by rw[e,e0];rfl),e⟩
 have hvis: ∀k,k≠i->s.L.getD k []≠ []->g'.vis (F.lmu k)=g.vis (F.lmu k):=fun k hk hk0=>if_neg fun e=>hk (h.frame.inj k i hk0 hne e);have hst:StoreOK w g' s.st:=by refine⟨h.store.n,h.store.inj,h.store.lt,fun j hj hj0=> ?_,fun j hj=> ?_,k2,h.store.tab.mono hLe⟩;have:g'.vis (g.mu j)=g.vis (g.mu j):=if_neg fun e=>h.frame.apart i hne j hj e;exact this.trans (h.store.vis j hj hj0);exact(h.store.holds j hj).mono rfl fun v p hr=>hr.mono hLe
 refine⟨g',F,⟨h.ext.step k1 (fun b hb=> .inl (by rw[hb];exact l1)),hst,⟨by simp[PFS.freezeN,h.frame.nl],fun k hk=> ?_,fun k hk=> ?_,fun k j hk hj=> ?_,fun k hk=> ?_,h.frame.tlo,fun k b hk hb=>⟨(h.frame.tapart k b hk hb).1,fun j hj=> ?_⟩,h.frame.tinj⟩,h.defers,by simp[PFS.freezeN,h.len],fun t ht=> ?_⟩⟩;obtain⟨h1,h2,h3⟩:=hL k hk;obtain⟨a1,a2,a3⟩:=h.frame.lo k h2;exact⟨a1,a2,(hvis k h1 h2).trans a3⟩;exact h.frame.apart k (hL k hk).2.1;exact h.frame.inj k j (hL k hk).2.1 (hL j hj).2.1;obtain⟨h1,h2,h3⟩:=hL k hk;simp only[PFS.freezeN] at hk⊢;show Holds w _ _ (((s.L.map fun l=>l.map (PV.frzN i sz cs)).set i []).getD k []);rw[h3];intro j hj;obtain⟨q1,c,q2,q3⟩:=h.frame.holds k h2 j (by simpa using hj);exact⟨q1,c,q2,by rw[Q0z (f:=PV.frzN i sz cs) rfl];exact hf _ _ q3⟩;exact(h.frame.tapart k b hk hb).2 j (hL j hj).2.1;simp only[PFS.freezeN] at ht⊢;show RepF w g' F s.T _ ((s.pa.map (PV.frzN i sz cs)).getD t .junk);rw[Q0z (f:=PV.frzN i sz cs) rfl];exact hf _ _ (h.tmps t (by simpa using ht))
@[go_sem] theorem z3d {i sz:Nat}{pa:List PV}{L st:Q0f}{T:List (Nat×Nat)} :(PFS.mk pa L T st).freezeN i sz=⟨pa.map (PV.frzN i sz ((L.getD i []).map PV.forget2)),(L.map fun l=>l.map (PV.frzN i sz ((L.getD i []).map PV.forget2))).set i [],T,st⟩:=(rfl)
attribute [go_sem] PV.frzN PV.frzN1
theorem q0y {P:Program}{E:Ent}{c:Code}{Q:Exit->PFS->Prop}{s:PFS}(i sz:Nat)(hi:s.freezeOK i)(h:PWP P E c Q (s.freezeN i sz)):PWP P E c Q s:=J0u (H1n i sz hi) h
theorem x1l {sz:Nat}{ys:List PV}(h: ∀i,i<ys.length->(ys.getD i .junk).cells.length=sz){i o:Nat}{c:List PV}(hi:i<ys.length)(ho:o+c.length<=sz):
 over (flat ys) (i*sz+o) c=flat (ys.set i (.agg (over (ys.getD i .junk).cells o c))):=by
 have hl:=Z0y h;have hb:i*sz+sz<=ys.length*sz:=by have:(i+1)*sz<=ys.length*sz:=Nat.mul_le_mul_right _ hi;rw[Nat.add_mul,Nat.one_mul] at this;exact this
 have hg: ∀j,j<ys.length->(ys.set i (.agg (over (ys.getD i .junk).cells o c))).getD j .junk=if j=i then .agg (over (ys.getD i .junk).cells o c) else ys.getD j .junk:=fun j hj=>by by_cases e:j=i;subst e;rw[if_pos rfl];simp[q_a,hj];rw[if_neg e];simp[q_a,List.getElem?_set_ne (Ne.symm e)]
 have h': ∀j,j<(ys.set i (.agg (over (ys.getD i .junk).cells o c))).length->((ys.set i (.agg (over (ys.getD i .junk).cells o c))).getD j .junk).cells.length=sz:=fun j hj=>by rw[List.length_set] at hj;rw[hg j hj];split;show(over _ o c).length=sz;rw[V0d _ _ _ (by rw[h i hi];exact ho)];exact h i hi;exact h j hj
 have hl':=Z0y h';rw[List.length_set] at hl';have hov:i*sz+o+c.length<=(flat ys).length:=(by omega);apply List.ext_getElem;rw[V0d _ _ _ hov,hl,hl'];intro m h1 h2;have e1:=Y0t (flat ys) (i*sz+o) c hov m .junk;have hm:m<ys.length*sz:=(by rw[hl'] at h2;exact h2);have e2:=V0y h' m (by rw[List.length_set];exact hm);have e3:=V0y h m hm;obtain⟨d1,d2⟩:=U0u hm;rw[q_a,List.getElem?_eq_getElem h1,Option.getD_some] at e1;rw[q_a,List.getElem?_eq_getElem h2,Option.getD_some] at e2;rw[e1,e2,hg _ d1];have hdm:=Nat.div_add_mod m sz;by_cases e:m/sz=i;rw[if_pos e];show _=(over (ys.getD i .junk).cells o c).getD (m % sz) .junk;rw[Y0t _ _ _ (by rw[h i hi];exact ho)];rw[e,Nat.mul_comm] at hdm;by_cases c1:o<=m % sz/\m % sz<o+c.length;rw[if_pos c1,if_pos (by omega)];congr 1;omega;rw[if_neg c1,if_neg (by omega),e3,e];rw[if_neg e,<-e3,if_neg];intro hc;apply e;have a1:i*sz<=m:=(by omega);have a2:m<i*sz+sz:=(by omega);have hp:0<sz:=(by omega);have b1:i<=m/sz:=(Nat.le_div_iff_mul_le hp).2 a1;have b2:m/sz<i+1:=(Nat.div_lt_iff_lt_mul hp).2 (by rw[Nat.add_mul,Nat.one_mul];exact a2);omega
theorem V1a (l:List Ivl): ∀i,i<(Q0v l).length->((Q0v l).getD i .junk).cells.length=6:=fun i hi=>by rw[W0o] at hi;rw[X0r l i hi];rfl
theorem w1z (l:List Nm): ∀i,i<(J0p l).length->((J0p l).getD i .junk).cells.length=3:=fun i hi=>by rw[Z1p] at hi;rw[j1a l i hi];rfl
@[go_sem] theorem x1q (l:List Ivl):(flat (Q0v l)).length=l.length*6:=by rw[Z0y (V1a l),W0o]
@[go_sem] theorem V3e (l:List Nm):(flat (J0p l)).length=l.length*3:=by rw[Z0y (w1z l),Z1p]
theorem z2p (l:List Ivl)(i:Nat)(x:Ivl)(h:i<l.length)(o:Nat)(c:List PV)(hc:o+c.length<=6)(e:over (encI (l.getD i default)) o c=encI x):over (flat (Q0v l)) (i*6+o) c=flat (Q0v (l.set i x)):=by rw[x1l (V1a l) (by rw[W0o];exact h) hc,X0r l i h];show flat ((Q0v l).set i (.agg (over (encI (l.getD i default)) o c)))=_;rw[e];congr 1;simp[Q0v,List.map_set]
theorem G1l {ys:List PV}{p:PV}(h:p∈flat ys): ∃y∈ys,p∈y.cells:=by simp only[flat,List.mem_flatten,List.mem_map] at h;obtain⟨l,⟨y,hy,rfl⟩,hp⟩:=h;exact⟨y,hy,hp⟩
theorem w0q {l:List Ivl}{p:PV}(h:p∈flat (Q0v l)): ∃x:Ivl,p∈encI x:=by obtain⟨y,hy,hp⟩:=G1l h;obtain⟨x,_,rfl⟩:=List.mem_map.1 hy;exact⟨x,hp⟩
theorem w0p {l:List Nm}{p:PV}(h:p∈flat (J0p l)): ∃x:Nm,p∈encN x:=by obtain⟨y,hy,hp⟩:=G1l h;obtain⟨x,_,rfl⟩:=List.mem_map.1 hy;exact⟨x,hp⟩
theorem q0h {f:PV->PV}{l:List PV}(h: ∀p∈l,f p=p):l.map f=l:=by
 conv=>rhs;rw[<-List.map_id l]
 exact List.map_congr_left fun p hp=>h p hp
@[go_sem] theorem V3g (l:List Ivl):(flat (Q0v l)).map PV.forget2=flat (Q0v l):=q0h fun p hp=>by obtain⟨x,hx⟩:=w0q hp;simp[encI] at hx;rcases hx with rfl | rfl | rfl | rfl | rfl | rfl<;>rfl
@[go_sem] theorem V3f (l:List Nm):(flat (J0p l)).map PV.forget2=flat (J0p l):=q0h fun p hp=>by obtain⟨x,hx⟩:=w0p hp;simp[encN] at hx;rcases hx with rfl | rfl | rfl<;>rfl
@[go_sem] theorem z3m (l:List Ivl)(i sz:Nat)(cs:List PV):(flat (Q0v l)).map (PV.frzN i sz cs)=flat (Q0v l):=q0h fun p hp=>by obtain⟨x,hx⟩:=w0q hp;simp[encI] at hx;rcases hx with rfl | rfl | rfl | rfl | rfl | rfl<;>rfl
@[go_sem] theorem z3l (l:List Nm)(i sz:Nat)(cs:List PV):(flat (J0p l)).map (PV.frzN i sz cs)=flat (J0p l):=q0h fun p hp=>by obtain⟨x,hx⟩:=w0p hp;simp[encN] at hx;rcases hx with rfl | rfl | rfl<;>rfl
@[go_sem] theorem J4j (l:List Ivl):fzOK (flat (Q0v l))=true:=by unfold fzOK;rw[q_d];intro p hp;obtain⟨x,hx⟩:=w0q hp;simp[encI] at hx;rcases hx with rfl | rfl | rfl | rfl | rfl | rfl<;>rfl
@[go_sem] theorem J4i (l:List Nm):fzOK (flat (J0p l))=true:=by unfold fzOK;rw[q_d];intro p hp;obtain⟨x,hx⟩:=w0p hp;simp[encN] at hx;rcases hx with rfl | rfl | rfl<;>rfl
@[go_sem] theorem v3x (l:List Ivl)(a b:Nat):(flat (Q0v l)).all (PV.lim a b)=true:=by rw[q_d];intro p hp;obtain⟨x,hx⟩:=w0q hp;simp[encI] at hx;rcases hx with rfl | rfl | rfl | rfl | rfl | rfl<;>rfl
@[go_sem] theorem v3w (l:List Nm)(a b:Nat):(flat (J0p l)).all (PV.lim a b)=true:=by rw[q_d];intro p hp;obtain⟨x,hx⟩:=w0p hp;simp[encN] at hx;rcases hx with rfl | rfl | rfl<;>rfl
theorem q3b (l:List Ivl):Y0a 6 l.length (flat (Q0v l))=Q0v l:=by have:=z0j (sz:=6) (ys:=Q0v l) [] (fun y hy=>by obtain⟨x,_,rfl⟩:=List.mem_map.1 hy;exact⟨rfl,rfl⟩);rw[W0o,List.append_nil] at this;exact this
theorem X3y (l:List Ivl)(n:Nat)(h:n=l.length):Y0a 6 n (flat (Q0v l))=Q0v l:=by subst h;exact q3b l
def encM (l:List (List Ivl)):List PV:=l.map fun c=> .sl .no (Q0v c)
@[go_sem] theorem H3b (l:List (List Ivl)):(encM l).length=l.length:=by simp[encM]
@[go_sem] theorem K4e :encM []= []:=(rfl)
@[go_sem] theorem G4i (l:List (List Ivl)):(encM l).all (fun x=>x.cells.length==1)=true:=by simp[encM,PV.cells]
@[go_sem] theorem G4j (l:List (List Ivl)):(encM l).all (fun x=>(x.cells.length==1)&&x.cells.all PV.cellOK)=true:=by simp[encM,PV.cells,PV.cellOK]
@[go_sem] theorem w3y (l:List (List Ivl))(n:Nat):(encM l).take n=encM (l.take n):=by simp[encM]
@[go_sem] theorem w3z (l:List (List Ivl))(n:Nat):(encM l).drop n=encM (l.drop n):=by simp[encM]
@[go_sem] theorem K4f (l m:List (List Ivl)):encM l++encM m=encM (l++m):=by simp[encM]
@[go_sem] theorem x2h (l:List (List Ivl))(c:List Ivl):encM l++ [.sl .no (Q0v c)]=encM (l++ [c]):=by simp[encM]
theorem Y0l (l:List (List Ivl))(n:Nat)(h:n<l.length):(encM l).getD n .junk= .sl .no (Q0v (l.getD n [])):=by simp[encM,q_a,h]
def encQ (l:List (List Nm)):List PV:=l.map fun c=> .sl .no (J0p c)
@[go_sem] theorem H3a (l:List (List Nm)):(encQ l).length=l.length:=by simp[encQ]
@[go_sem] theorem J4y :encQ []= []:=(rfl)
@[go_sem] theorem G4f (l:List (List Nm)):(encQ l).all (fun x=>x.cells.length==1)=true:=by simp[encQ,PV.cells]
@[go_sem] theorem G4g (l:List (List Nm)):(encQ l).all (fun x=>(x.cells.length==1)&&x.cells.all PV.cellOK)=true:=by simp[encQ,PV.cells,PV.cellOK]
@[go_sem] theorem w3q (l:List (List Nm))(n:Nat):(encQ l).take n=encQ (l.take n):=by simp[encQ]
@[go_sem] theorem w3s (l:List (List Nm))(n:Nat):(encQ l).drop n=encQ (l.drop n):=by simp[encQ]
@[go_sem] theorem J4z (l m:List (List Nm)):encQ l++encQ m=encQ (l++m):=by simp[encQ]
@[go_sem] theorem w3r (l:List (List Nm))(c:List Nm):encQ l++ [.sl .no (J0p c)]=encQ (l++ [c]):=by simp[encQ]
end Go.Pv
end
