/- Walk. -/
import Derived.Test.YtpfladficeildaaGreatDoorZA
set_option linter.all false
set_option maxHeartbeats 160000000
section
namespace Go.Pv
section
variable {P:Program} {w:World} {g:Gh} {F:Fr} {T:List (Nat×Nat)} {s s':PFS} {p:PV}
theorem q0f {op:UnOp}{x:PV}{a:Value}(h:(Uh op x).run s=some (p,s'))(hx:RepF w g F T a x):s'=s/\Val P (Op.unary op a) w (fun v=>RepF w g F T v p):=by unfold Uh at h;split at h;cases h;have:=hx.sc_inv;subst this;exact⟨rfl,_,by simp only[Op.unary,Op.intArith,Sem.run_pure],.base _ _ (.sc _)⟩;cases h;have:=hx.sc_inv;subst this;exact⟨rfl,_,by simp only[Op.unary,Op.intBits,Sem.run_pure,qr],.base _ _ (.sc _)⟩;cases h;have:=hx.sc_inv;subst this;exact⟨rfl,_,by simp only[Op.unary,Sem.run_pure],.base _ _ (.sc _)⟩;cases h
theorem Rz : ∀ {es:Lp} {l:List UInt8},GS es=some l->l.length=es.length/\ ∀i,i<es.length-> ∃n:Int,es.getD i .junk= .sc (.int .u8 n)/\l.getD i 0=UInt8.ofNat n.toNat
 | [],l,h=>by cases h;simp
 | e::r,l,h=>by
  unfold GS at h;split at h;cases ‹_::_= []›;rename_i n r' heq;cases heq;split at h;rename_i l' hl';cases h;obtain⟨h1,h2⟩:=Rz hl';refine⟨by simp[h1],fun i hi=> ?_⟩;cases i with
  | zero=>exact⟨n,rfl,rfl⟩
  | succ i=>simpa using h2 i (by simpa using hi)
  cases h;cases h
theorem Y0k {v:Value}{es:Lp}{l:List UInt8}(h:Rep w g v (.sl .no es))(hb:GS es=some l):(Conv.bytesToString v).run P w= .ok (.string ⟨l.toArray⟩) w:=by
 obtain⟨h1,h2⟩:=Rz hb;have hsz: ∀i,i<es.length->(es.getD i .junk).cells.length=1:=fun i hi=>by obtain⟨n,e,_⟩:=h2 i hi;rw[e];rfl
 rcases h.sl_cells 1 hsz with ⟨ad,rfl,rfl⟩ | ⟨b,off,cap,cell,rfl,_,_,_,hc⟩;have:l= []:=BY (by simpa using h1);subst this;cases ad with
 | none=>simp[Conv.bytesToString];rfl
 | some a=>simp[Conv.bytesToString,loadCells,loadCellsFrom];rfl
 have hcell: ∀m,m<es.length-> ∃n:Int,cell m= .int .u8 n/\l.getD m 0=UInt8.ofNat n.toNat:=fun m hm=>by obtain⟨n,e,e2⟩:=h2 m hm;have:=(hc m oG).2;rw[F9,FQ,e] at this;exact⟨n,this.sc_inv,e2⟩
 have hload:(loadCells ⟨b,off,none⟩ es.length).run P w= .ok ((List.range es.length).map cell).toArray w:=My w b off es.length cell (fun j hj=>(hc j oG).1);obtain⟨nf,hnf⟩:=Classical.axiomOfChoice (fun m=>show∃n:Int,m<es.length->cell m= .int .u8 n/\l.getD m 0=UInt8.ofNat n.toNat from by by_cases hm:m<es.length;obtain⟨n,hn⟩:=hcell m hm;exact⟨n,fun _=>hn⟩;exact⟨0,fun h=>absurd h hm⟩);have hl:l=(List.range es.length).map (fun m=>UInt8.ofNat (nf m).toNat):=(by apply C9;simp[h1];intro i hi _;have:=(hnf i oG).2;rw[q_a,BB hi] at this;simpa using this);have hc': ∀m,m<es.length->cell m= .int .u8 (nf m):=fun m hm=>(hnf m hm).1;have:=run_bytesToString (P:=P) w ⟨b,off,none⟩ es.length cap ((List.range es.length).map nf) (by rw[hload];congr 2;rw[DZ];apply C4;intro m hm;exact hc' m (by simpa using hm));rw[this];congr 2;have push: ∀(ns:Pq) (a:Array UInt8),ns.foldl (fun(r:ByteArray) n=>r.push (UInt8.ofNat n.toNat)) ⟨a⟩=⟨a++(ns.map fun n=>UInt8.ofNat n.toNat).toArray⟩:=by
  intro ns
  induction ns with
  | nil=>intro a;simp
  | cons n r ih=>
   intro a;simp only[List.foldl_cons];rw[show ByteArray.push ⟨a⟩ (UInt8.ofNat n.toNat)=⟨a.push (UInt8.ofNat n.toNat)⟩ from rfl,ih];simp
 rw[show ByteArray.empty=⟨#[]⟩ from rfl,push,hl];simp[Function.comp_def]
theorem k1y {src dst:Lt}{x:PV}{a:Value}(h:(Ga (ti P src) (ti P dst) x).run s=some (p,s'))(hx:RepF w g F T a x):s'=s/\Val P (convert src dst a) w (fun v=>RepF w g F T v p):=by
 unfold Ga at h;split at h;rename_i S D aS aD hS hD;cases h;have:=hx.sc_inv;subst this;obtain⟨i,u,hi,hu,_⟩:=QU hS;obtain⟨i',u',hi',hu',hT⟩:=QU hD;have hud:=B4 TI.ud hT;simp only at hud;cases u'<;>simp only[XO] at hud<;>(try split at hud)<;>try cases hud
 exact⟨rfl,_,by simp[convert,run_underlying hu,run_underlying hu',Conv.intToInt],.base _ _ (.sc _)⟩;rename_i hS hD;split at h;rename_i h8;split at h;rename_i l hl;cases h;obtain⟨i,u,hi,hu,hT⟩:=QU hS;obtain⟨he,hei⟩:=ZH (B4 TI.ud hT).symm;obtain⟨i',u',hi',hu',hT'⟩:=QU hD;have hud:=B4 TI.ud hT';simp only at hud;obtain⟨i2,u2,hi2,hu2,e2⟩:=JW hei;have h8':=B4 EI.u8 e2;rw[h8] at h8';cases u'<;>simp only[XO] at hud<;>(try split at hud)<;>try cases hud
 cases u2<;>simp only[qR] at h8'<;>try cases h8'
 rename_i k2;cases k2<;>simp only at h8'<;>try cases h8'
 subst he;have hx':=hx.slNo;obtain⟨a',cap,rfl⟩:=hx'.len_sl;have:=Y0k (P:=P) hx' hl;exact⟨rfl,_,by rw[run_convert_bytes_string w src dst _ _ _ _ hu hu2 hu'];exact this,.base _ _ (.sc _)⟩;cases h;cases h;rename_i hS hD;split at h;rename_i h8;split at h;rename_i l hl;cases h;obtain⟨i,u,hi,hu,hT⟩:=QU hS;obtain⟨he,hei⟩:=ZH (B4 TI.ud hT).symm;obtain⟨i',u',hi',hu',hT'⟩:=QU hD;have hud:=B4 TI.ud hT';simp only at hud;obtain⟨i2,u2,hi2,hu2,e2⟩:=JW hei;have h8':=B4 EI.u8 e2;rw[h8] at h8';cases u'<;>simp only[XO] at hud<;>(try split at hud)<;>try cases hud
 cases u2<;>simp only[qR] at h8'<;>try cases h8'
 rename_i k2;cases k2<;>simp only at h8'<;>try cases h8'
 subst he;have hx':=hx.pre_inv.preNo;obtain⟨a',cap,rfl⟩:=hx'.len_sl;have:=Y0k (P:=P) hx' hl;exact⟨rfl,_,by rw[run_convert_bytes_string w src dst _ _ _ _ hu hu2 hu'];exact this,.base _ _ (.sc _)⟩;cases h;cases h;rename_i hS hD;cases h;have:=hx.sc_inv;subst this;obtain⟨i,u,hi,hu,_⟩:=QU hS;obtain⟨i',u',hi',hu',hT⟩:=QU hD;have hud:=B4 TI.ud hT;simp only at hud;cases u'<;>simp only[XO] at hud<;>(try split at hud)<;>try cases hud
 exact⟨rfl,_,by simp[convert,run_underlying hu,run_underlying hu'],.base _ _ (.sc _)⟩;cases h
theorem RepF.lp_inv' {v:Value}{i off:Nat}(h:RepF w g F T v (.lp i off)):v= .pointer (some ⟨F.lmu i,off,none⟩)/\i<F.nl:=by
 cases h with
 | base _ _ h=>cases h
 | lp i off hi=>exact⟨rfl,hi⟩
theorem Rep.ep_inv {v:Value}{cs:Lp}{off:Nat}(h:Rep w g v (.ep cs off)): ∃(b base:Nat) (cf:Nat->Value),v= .pointer (some ⟨b,base+off,none⟩)/\base+cs.length<=g.vis b/\
 (∀j,j<cs.length->w.cell? ⟨b,base+j,none⟩=some (cf j))/\ ∀j,j<cs.length->Rep w g (cf j) (cs.getD j .junk):=by
 cases h with
 | ep cs off b base cf hvis hc hr=>exact⟨b,base,cf,rfl,hvis,hc,hr⟩
theorem v0q {f:Field}{e:EI}(h:ei P f.type=some e)(h0:e.sz≠0)(b off:Nat):(fieldPlace ⟨b,off,none⟩ f).run P w= .ok ⟨b,off+f.offset,none⟩ w:=by simp only[fieldPlace,Sem.run_bind,Wf h,Result.andThen_ok,h0,DT,Sem.run_ite,Sem.run_pure,Addr.add_mid]
theorem jK {t:Lt}{fs:Array Field}{f:Field}{e:EI}{k:Nat}(hu:P.underlying t=some (.struct fs))(hf:fs[k]?=some f)(h:ei P f.type=some e)(h0:e.sz≠0)(b off:Nat):
 (Instr.fieldAt t (.pointer (some ⟨b,off,none⟩)) k).run P w= .ok (.pointer (some ⟨b,off+f.offset,none⟩)) w:=by
 simp[Instr.fieldAt,run_underlying hu,hf,Instr.sureAddr,v0q h h0]
theorem z1w {t:Lt}{x:PV}{a:Value}{f:Nat}(h:(V6 (ti P t) x f).run s=some (p,s'))(hx:RepF w g F T a x):s'=s/\Val P (Instr.fieldAt t a f) w (fun v=>RepF w g F T v p):=by unfold V6 at h;split at h;rename_i hT;obtain⟨i,u,hi,hu,hT⟩:=QU hT;obtain⟨fs,rfl,hall⟩:=jr (B4 TI.ud hT).symm;split at h;rename_i o e hf;obtain⟨fl,hfl,rfl,he⟩:=V0s hall hf;split at h;cases h;rename_i h0;split at h;cases h;obtain⟨rfl,hi⟩:=hx.lp_inv';exact⟨rfl,_,jK hu hfl he h0 _ _,.lp _ _ hi⟩;cases h;obtain⟨rfl,hi⟩:=hx.gp_inv;exact⟨rfl,_,jK hu hfl he h0 _ _,.base _ _ (.gp _ _ hi)⟩;cases h;obtain⟨b,base,cf,rfl,hvis,hc,hr⟩:=hx.ep_inv.ep_inv;refine⟨rfl,_,jK hu hfl he h0 _ _,?_⟩;rw[DK];exact .base _ _ (.ep _ _ b base cf hvis hc hr);cases h;cases h;cases h
theorem q1f (vs:Lb)(o n j:Nat)(hj:j<n)(h:o+n<=vs.size):(vs.extract o (o+n)).getD j undef=vs.getD (o+j) undef:=by simp only[q_f,Array.getElem?_extract];rw[BC oG]
theorem vV {α:Type}(l:List α)(o n j:Nat)(d:α)(hj:j<n):((l.drop o).take n).getD j d=l.getD (o+j) d:=by simp only[q_a,List.getElem?_take_of_lt hj,DH]
theorem z1u {t:Lt}{x:PV}{a:Value}{f:Nat}(h:(US (ti P t) x f).run s=some (p,s'))(hx:RepF w g F T a x):s'=s/\Val P (Instr.field t a f) w (fun v=>RepF w g F T v p):=by unfold US at h;split at h;rename_i hT;obtain⟨i,u,hi,hu,hT⟩:=QU hT;obtain⟨fs,rfl,hall⟩:=jr (B4 TI.ud hT).symm;obtain⟨vs,rfl,hl,hv⟩:=hx.agg_inv;split at h;rename_i o e hf;obtain⟨fl,hfl,rfl,he⟩:=V0s hall hf;split at h;rename_i hagg;split at h;rename_i hle;cases h;refine⟨rfl,.agg (vs.extract fl.offset (fl.offset+e.sz)),by simp[Instr.field,run_underlying hu,hfl,asAgg,part,V0r he,hagg,Wf he],.agg _ _ (by simp;omega) fun j hj=> ?_⟩;have hj':j<e.sz:=(by simp at hj;omega);rw[q1f _ _ _ _ hj' oG,vV _ _ _ _ _ hj'];exact hv _ oG;cases h;rename_i hagg;split at h;rename_i hlt;cases h;have hlt':fl.offset<vs.size:=oG;refine⟨rfl,vs.getD fl.offset undef,?_,hv _ hlt⟩;simp[Instr.field,run_underlying hu,hfl,asAgg,part,V0r he,hagg,CW hlt',q_f];cases h;cases h;cases h
theorem Ib {t:Lt}{e:EI}(hu:P.underlying t=some (.slice e.id))(he:ei P e.id=some e)(k:IntKind)(n:Int)(b off len cap:Nat)(h0:0<=n)(h1:n.toNat<len):
 (Instr.indexAt t (.slice (some ⟨b,off,none⟩) len cap) (.int k n)).run P w= .ok (.pointer (some ⟨b,off+n.toNat*e.sz,none⟩)) w:=by
 have h1':n<len:=oG;simp[Instr.indexAt,run_underlying hu,asIntOf,h0,h1',Wf he,Addr.add_mid]
theorem v0p {t:Lt}{m:Nat}{e:EI}(hu:P.underlying t=some (.array m e.id))(he:ei P e.id=some e)(k:IntKind)(n:Int)(b off:Nat)(h0:0<=n)(h1:n.toNat<m):
 (Instr.indexAt t (.pointer (some ⟨b,off,none⟩)) (.int k n)).run P w= .ok (.pointer (some ⟨b,off+n.toNat*e.sz,none⟩)) w:=by
 have h1':n<m:=oG;simp[Instr.indexAt,Instr.sureAddr,run_underlying hu,asIntOf,h0,h1',Wf he,Addr.add_mid]
theorem H1e {t:Lt}{x i:PV}{a b:Value}(h:(UP (ti P t) x i).run s=some (p,s'))(hx:RepF w g F T a x)(hi:RepF w g F T b i):s'=s/\Val P (Instr.indexAt t a b) w (fun v=>RepF w g F T v p):=by
 unfold UP at h;split at h;rename_i e _ t' es k n hT;obtain⟨i',u,hi',hu,hT⟩:=QU hT;obtain⟨rfl,hei⟩:=ZH (B4 TI.ud hT).symm;simp only[Req.run] at h;split at h;rename_i hc;cases h;simp only[q_i,BN] at hc;obtain⟨⟨h0,h1⟩,h2⟩:=hc;have:=hi.sc_inv;subst this;have hx':=hx.slNo;cases hx' with
 | nil=>simp at h1
 | sl t es b off sz cap cf ht hfull hcap hsz hvis hc hr=>
  have hs:sz=e.sz:=(hsz _ h1).symm.trans h2;subst hs;refine⟨rfl,_,Ib hu hei _ n b off _ cap h0 h1,.base _ _ (.ep _ 0 b (off+n.toNat*e.sz) (fun j=>cf n.toNat j) ?_ (fun j hj=>hc _ j h1 oG) (fun j hj=>hr _ j h1 oG))⟩;rw[h2];have:(n.toNat+1)*e.sz<=es.length*e.sz:=BG _ h1;rw[BQ,CY] at this;omega
 cases h;rename_i e _ gl o off len k n hT;obtain⟨i',u,hi',hu,hT⟩:=QU hT;obtain⟨rfl,hei⟩:=ZH (B4 TI.ud hT).symm;simp only[Req.run] at h;split at h;rename_i hc;cases h;simp only[q_i,BN] at hc;obtain⟨h0,h1⟩:=hc;have:=hi.sc_inv;subst this;cases hx with
 | base _ _ h=>
  cases h with
  | gms i off len cap hi hcap=>exact⟨rfl,_,Ib hu hei _ n _ off _ cap h0 h1,.base _ _ (.gp _ _ hi)⟩
 | lms i off len cap hi hcap=>exact⟨rfl,_,Ib hu hei _ n _ off _ cap h0 h1,.lp _ _ hi⟩
 cases h;rename_i e _ o len cp k n hT;obtain⟨i',u,hi',hu,hT⟩:=QU hT;obtain⟨rfl,hei⟩:=ZH (B4 TI.ud hT).symm;simp only[Req.run] at h;split at h;rename_i hc;cases h;simp only[q_i,BN] at hc;obtain⟨h0,h1⟩:=hc;have:=hi.sc_inv;subst this;cases hx with
 | base _ _ h=>cases h
 | lmr i len cap hi hcap=>
  have h2:=Ib (P:=P) (w:=w) hu hei k n (F.lmu o) 0 len cp h0 h1;rw[CU] at h2;exact⟨rfl,_,h2,.lp _ _ hi⟩
 | lmr0 i ad hi=>simp at h1
 cases h;rename_i e _ o len cp k n hT;obtain⟨i',u,hi',hu,hT⟩:=QU hT;obtain⟨rfl,hei⟩:=ZH (B4 TI.ud hT).symm;simp only[Req.run] at h;split at h;rename_i hc;cases h;simp only[q_i,BN] at hc;obtain⟨h0,h1⟩:=hc;have:=hi.sc_inv;subst this;cases hx with
 | base _ _ h=>
  cases h with
  | gr i len cap hi hcap=>
   have h2:=Ib (P:=P) (w:=w) hu hei k n (g.mu o) 0 len cp h0 h1;rw[CU] at h2;exact⟨rfl,_,h2,.base _ _ (.gp _ _ hi)⟩
 cases h;rename_i m e _ cs off k n hT;obtain⟨i',u,hi',hu,hT⟩:=QU hT;obtain⟨rfl,hei⟩:=q0g (B4 TI.ud hT).symm;simp only[Req.run] at h;split at h;rename_i hc;cases h;simp only[q_i,BN] at hc;obtain⟨h0,h1⟩:=hc;have:=hi.sc_inv;subst this;cases hx with
 | base _ _ h=>
  cases h with
  | ep cs off b base cf hvis hc hr=>
   refine⟨rfl,_,v0p hu hei _ n b (base+off) h0 h1,?_⟩;rw[DK];exact .base _ _ (.ep cs _ b base cf hvis hc hr)
 cases h;cases h
end
section
variable {P:Program} {w:World} {g:Gh} {F:Fr} {T:List (Nat×Nat)} {s s':PFS} {p:PV}
theorem H1d {t:Lt}{x i:PV}{a b:Value}(h:(UO (ti P t) x i).run s=some (p,s'))(hx:RepF w g F T a x)(hi:RepF w g F T b i):s'=s/\Val P (Instr.index t a b) w (fun v=>RepF w g F T v p):=by
 unfold UO at h;split at h;rename_i st k n hT;obtain⟨i',u,hi',hu,hT⟩:=QU hT;have hud:=B4 TI.ud hT;simp only at hud;cases u<;>simp only[XO] at hud<;>(try split at hud)<;>try cases hud
 simp only[Req.run] at h;split at h;rename_i hc;cases h;simp only[q_i,BN] at hc;obtain⟨h0,h1⟩:=hc;have:=hx.sc_inv;subst this;have:=hi.sc_inv;subst this;have h1':n.toNat<st.data.size:=h1;refine⟨rfl,_,?_,.base _ _ (.sc _)⟩;have e:st[n.toNat]?=some (st.data.getD n.toNat 0):=by
  have:st[n.toNat]?=st.data[n.toNat]?:=by rw[getElem?_def,getElem?_def];rfl
  rw[this,q_f,CW h1'];rfl
 simp[Instr.index,run_underlying hu,asIntOf,h0,e];cases h;cases h
theorem Rep.sub {v:Value}{es:Lp}{sz l h:Nat}(hr:Rep w g v (.sl .no es))(hsz: ∀i,i<es.length->(es.getD i .junk).cells.length=sz)(hlh:l<=h)(hhn:h<=es.length):
 (∃ad,v= .slice ad 0 0/\es= [])\/ ∃b off cap,v= .slice (some ⟨b,off,none⟩) es.length cap/\es.length<=cap/\True/\
  ∀(t:Tag) (m:Nat),t.still=true->h<=m->(t= .full->m=h)->m<=cap->Rep w g (.slice (some ⟨b,off+l*sz,none⟩) (h-l) (m-l)) (.sl t ((es.take h).drop l)):=by
 cases hr with
 | nil t ad=>exact .inl ⟨ad,rfl,rfl⟩
 | sl t es b off sz' cap cf ht hfull hcap hsz' hvis hc hr=>
  refine .inr ⟨b,off,cap,rfl,hcap,trivial,fun t m ht hm hf hmc=> ?_⟩;have hl:((es.take h).drop l).length=h-l:=(by simp;omega);have hgd: ∀i,i<h-l->((es.take h).drop l).getD i .junk=es.getD (l+i) .junk:=fun i hi=>by simp only[q_a,DH];rw[List.getElem?_take_of_lt oG]
  by_cases h0:es.length=0;have e1:h=0:=oG;have e2:l=0:=oG;subst e1 e2;have:=Rep.sl (w:=w) (g:=g) t ((es.take 0).drop 0) b off 0 m (fun _ _=>undef) ht (fun e=>by rw[hl];exact hf e) (by simp) (fun i hi=>by simp at hi) (fun hh=>by simp at hh) (fun i j hi=>by simp at hi) (fun i j hi=>by simp at hi);simpa using this;have e:sz'=sz:=(hsz' 0 oG).symm.trans (hsz 0 oG);subst e;have:=Rep.sl (w:=w) (g:=g) t ((es.take h).drop l) b (off+l*sz') sz' (m-l) (fun i j=>cf (l+i) j) ht (fun e=>by rw[hl,hf e]) (by rw[hl];omega) (fun i hi=>by rw[hl] at hi;rw[hgd i hi];exact hsz' _ oG)
   (fun _=>by rw[hl,DK,<-BQ];have:(l+(h-l))*sz'<=es.length*sz':=BG _ oG;omega)
   (fun i j hi hj=>by rw[hl] at hi;rw[DK off,<-BQ];exact hc _ _ oG hj) (fun i j hi hj=>by rw[hl] at hi;rw[hgd i hi];exact hr _ _ oG hj)
  rw[hl] at this;exact this
theorem WV (k:IntKind)(n:Int)(y:Nat)(c:BoundsCode)(h0:0<=n)(h1:n.toNat<=y):(Instr.sliceBound (.int k n) y c).run P w= .ok n.toNat w:=by have h1':n<=y:=oG;simp[Instr.sliceBound,asIntOf,h0,h1']
theorem GG (isS:Bool)(len cap:Nat)(lo hi:Pr)(l h:Int)(hlo:(lo=none/\l=(0:Nat))\/ ∃k,lo=some (.int k l))(hhi:(hi=none/\h=(len:Nat))\/ ∃k,hi=some (.int k h))
 (h0:0<=l) (h1:l<=h) (h2:h<=cap):(Instr.sliceBounds isS len cap lo hi none).run P w= .ok (l.toNat,h.toNat,cap) w:=by
 rcases hlo with ⟨rfl,rfl⟩ | ⟨kl,rfl⟩<;>rcases hhi with ⟨rfl,rfl⟩ | ⟨kh,rfl⟩
 simp[Instr.sliceBounds];simp[Instr.sliceBounds,WV (P:=P) (w:=w) kh h cap _ oG oG];simp[Instr.sliceBounds,WV (P:=P) (w:=w) kl l len _ oG oG];simp[Instr.sliceBounds,WV (P:=P) (w:=w) kh h cap _ oG oG,WV (P:=P) (w:=w) kl l h.toNat _ oG oG]
theorem Mp (isS:Bool)(len cap:Nat)(lo:Pr)(l h m:Int)(kh km:IntKind)(hlo:(lo=none/\l=(0:Nat))\/ ∃k,lo=some (.int k l))
 (h0:0<=l) (h1:l<=h) (h2:h<=m) (h3:m<=cap):(Instr.sliceBounds isS len cap lo (some (.int kh h)) (some (.int km m))).run P w= .ok (l.toNat,h.toNat,m.toNat) w:=by
 rcases hlo with ⟨rfl,rfl⟩ | ⟨kl,rfl⟩;simp[Instr.sliceBounds,WV (P:=P) (w:=w) km m cap _ oG oG,WV (P:=P) (w:=w) kh h m.toNat _ oG oG];simp[Instr.sliceBounds,WV (P:=P) (w:=w) km m cap _ oG oG,WV (P:=P) (w:=w) kh h m.toNat _ oG oG,WV (P:=P) (w:=w) kl l h.toNat _ oG oG]
def OptRep (w:World)(g:Gh)(F:Fr)(T:List (Nat×Nat)):Option Value->Option PV->Prop
 | none,none=>True
 | some v,some p=>RepF w g F T v p
 | _,_=>False
theorem OptRep.bound {v:Pr}{p:Option PV}{d:Nat}{n:Int}(h:OptRep w g F T v p)(hb:VF p d=some n):
 (v=none/\n=d)\/ ∃k,v=some (.int k n):=by
 cases p with
 | none=>
  cases v with
  | none=>simp only[VF,BU] at hb;exact .inl ⟨rfl,hb.symm⟩
  | some v=>exact h.elim
 | some q=>
  cases v with
  | none=>exact h.elim
  | some v=>
   unfold VF at hb;split at hb;rename_i he;cases he;rename_i k m he;cases he;cases hb;exact .inr ⟨k,by rw[RepF.sc_inv h]⟩;cases hb
theorem Ia {t:Lt}{e:EI}(hu:P.underlying t=some (.slice e.id))(he:ei P e.id=some e)(b off len cap l h m:Nat)(lo hi mx:Pr)
 (hb:(Instr.sliceBounds true len cap lo hi mx).run P w= .ok (l,h,m) w):
 (Instr.sliceAt t (.slice (some ⟨b,off,none⟩) len cap) lo hi mx).run P w= .ok (.slice (some ⟨b,if m=l then off else off+l*e.sz,none⟩) (h-l) (m-l)) w:=by
 simp only[Instr.sliceAt,Sem.run_bind,run_underlying hu,Result.andThen_ok,Instr.slice,hb,Wf he,Sem.run_pure];split<;>simp[Addr.add_mid]
theorem Mo {ad:Option Addr}{t:Lt}{e:EI}(hu:P.underlying t=some (.slice e.id))(he:ei P e.id=some e)(lo hi mx:Pr)
 (hb:(Instr.sliceBounds true 0 0 lo hi mx).run P w= .ok (0,0,0) w):
 ∃ad',(Instr.sliceAt t (.slice ad 0 0) lo hi mx).run P w= .ok (.slice ad' 0 0) w:=by
 cases ad with
 | none=>exact⟨none,by simp[Instr.sliceAt,run_underlying hu,Instr.slice,hb,Wf he]⟩
 | some a=>exact⟨some a,by simp[Instr.sliceAt,run_underlying hu,Instr.slice,hb,Wf he]⟩
theorem Rep.empty (t:Tag)(ht:t.still=true)(b off cap:Nat)(hf:t= .full->cap=0):Rep w g (.slice (some ⟨b,off,none⟩) 0 cap) (.sl t []):=by have:=Rep.sl (w:=w) (g:=g) t [] b off 0 cap (fun _ _=>undef) ht hf (by simp) (fun i hi=>by simp at hi) (fun hh=>by simp at hh) (fun i j hi=>by simp at hi) (fun i j hi=>by simp at hi);simpa using this
theorem xS {es:Lp}{sz:Nat}(h:es.all (fun x=>x.cells.length==sz)=true): ∀i,i<es.length->(es.getD i .junk).cells.length=sz:=fun i hi=>by have:=List.all_eq_true.1 h _ (QE es i .junk hi);simpa using this
theorem Rep.to_pre {v:Value}{es:Lp}(h:Rep w g v (.sl .no es))(h0:0<es.length): ∃b off cap,v= .slice (some ⟨b,off,none⟩) es.length cap/\es.length<=cap/\
 ∀n,n<=es.length->Rep w g (.slice (some ⟨b,off,none⟩) n cap) (.pre es n):=by
 cases h with
 | nil=>simp at h0
 | sl t es b off sz cap cf ht hfull hcap hsz hvis hc hr=>exact⟨b,off,cap,rfl,hcap,fun n hn=> .pre es n b off sz cap cf hn hcap hsz hvis hc hr⟩
theorem Rep.of_pre {v:Value}{es:Lp}{n:Nat}(h:Rep w g v (.pre es n)): ∃b off cap,v= .slice (some ⟨b,off,none⟩) n cap/\es.length<=cap/\n<=es.length/\
 Rep w g (.slice (some ⟨b,off,none⟩) es.length cap) (.sl .no es):=by
 cases h with
 | pre es n b off sz cap cf hn hcap hsz hvis hc hr=>exact⟨b,off,cap,rfl,hcap,hn,.sl .no es b off sz cap cf rfl (fun h=>by cases h) hcap hsz hvis hc hr⟩
theorem k1q {t:Lt}{e:EI}(hu:P.underlying t=some (.slice e.id))(he:ei P e.id=some e){a:Value}{es:Lp}(hx:Rep w g a (.sl .no es))(hsz: ∀i,i<es.length->(es.getD i .junk).cells.length=e.sz)
 {lo hi:Pr} {l h:Int} (hlo:(lo=none/\l=(0:Nat))\/ ∃k,lo=some (.int k l)) (hhi:(hi=none/\h=(es.length:Nat))\/ ∃k,hi=some (.int k h)) (h0:0<=l) (h1:l<=h) (h2:h<=es.length):
 Val P (Instr.sliceAt t a lo hi none) w (fun v=>Rep w g v (.sl .no ((es.take h.toNat).drop l.toNat))):=by
 rcases hx.sub hsz (l:=l.toNat) (h:=h.toNat) oG oG with ⟨ad,rfl,rfl⟩ | ⟨b,off,cap,rfl,hcap,hvo,hr⟩;have e1:h=0:=(by simp at h2;omega);have e2:l=0:=oG;subst e1 e2;have:=GG (P:=P) (w:=w) true 0 0 lo hi 0 0 hlo (by simpa using hhi) oG oG oG;obtain⟨ad',hr'⟩:=Mo (w:=w) (ad:=ad) hu he lo hi none (by simpa using this);exact⟨_,hr',by simpa using Rep.nil (w:=w) (g:=g) .no ad' rfl⟩;have hb:=GG (P:=P) (w:=w) true es.length cap lo hi l h hlo hhi h0 h1 oG;refine⟨_,Ia hu he b off es.length cap _ _ _ _ _ _ hb,?_⟩;split;rename_i e;have e1:h.toNat=l.toNat:=oG;have e2:(es.take h.toNat).drop l.toNat= []:=BY (by simp;omega);rw[e2,e1,DD];exact Rep.empty .no rfl b off _ (fun h=>by cases h);exact hr .no cap rfl oG (fun h=>by cases h) (BD _)
theorem k0l {t:Lt}{e:EI}(hu:P.underlying t=some (.slice e.id))(hei:ei P e.id=some e){tg:Tag}{es:Lp}{a:Value}{lp hp:Option PV}{lo hi:Pr}(h:(GC e tg es lp hp).run s=some (p,s'))
 (hx:RepF w g F T a (.sl tg es)) (hlo:OptRep w g F T lo lp) (hhi:OptRep w g F T hi hp):s'=s/\Val P (Instr.sliceAt t a lo hi none) w (fun v=>RepF w g F T v p):=by
 unfold GC at h;split at h;rename_i l hh hl hhb;have bl:=hlo.bound hl;have bh:=hhi.bound hhb;simp only[Req.run] at h;split at h;rename_i hc;simp only[BU,CZ] at h;obtain⟨rfl,rfl⟩:=h;simp only[q_i,BN] at hc;obtain⟨⟨⟨⟨h0,h1⟩,h2⟩,h3⟩,h4⟩:=hc;have hsz:=xS h3;refine⟨rfl,?_⟩;unfold ye;split;simp only[yf,BN] at h4;obtain⟨b,off,cap,rfl,hcap,hpre⟩:=hx.slNo.to_pre h4;have hb:=GG (P:=P) (w:=w) true es.length cap lo hi l hh bl bh h0 h1 oG;refine⟨_,Ia hu hei b off es.length cap _ _ _ _ _ _ hb,?_⟩;simp only[VF,BU] at hl;have el:l=0:=oG;subst el;have e1:(if cap=Int.toNat 0 then off else off+Int.toNat 0*e.sz)=off:=(by split<;>simp);rw[e1];exact .base _ _ (hpre _ oG);obtain⟨v,hv,hr⟩:=k1q hu hei hx.slNo hsz bl bh h0 h1 h2;exact⟨v,hv,.base _ _ hr⟩;cases h;cases h
theorem k0j {t:Lt}{e:EI}(hu:P.underlying t=some (.slice e.id))(hei:ei P e.id=some e){tg:Tag}{es:Lp}{a:Value}{lp hp:Option PV}{lo hi:Pr}{k:IntKind}{m:Int}(h:(GB e es lp hp m).run s=some (p,s'))
 (hx:RepF w g F T a (.sl tg es)) (hlo:OptRep w g F T lo lp) (hhi:OptRep w g F T hi hp):s'=s/\Val P (Instr.sliceAt t a lo hi (some (.int k m))) w (fun v=>RepF w g F T v p):=by
 unfold GB at h;split at h;rename_i l kh hh hl;have bl:=hlo.bound hl;simp only[Req.run] at h;split at h;rename_i hc;simp only[BU,CZ] at h;obtain⟨rfl,rfl⟩:=h;simp only[q_i,BN] at hc;obtain⟨⟨⟨⟨h0,h1⟩,h2⟩,h2'⟩,h3⟩:=hc;have hsz:=xS h3;refine⟨rfl,?_⟩;cases hi with
 | none=>exact hhi.elim
 | some vh=>
  have:=RepF.sc_inv hhi;subst this;have hx':=hx.slNo;have hst: ∀c:Prop,[Decidable c]->Tag.still (if c then .full else .no)=true:=fun c _=>(by split<;>rfl);rcases hx'.sub hsz (l:=l.toNat) (h:=hh.toNat) oG oG with ⟨ad,rfl,rfl⟩ | ⟨b,off,cap,rfl,hcap,hvo,hr⟩;have e3:m=0:=(by simp at h2';omega);have e1:hh=0:=oG;have e2:l=0:=oG;subst e1 e2 e3;have:=Mp (P:=P) (w:=w) true 0 0 lo 0 0 0 kh k bl oG oG oG oG;obtain⟨ad',hr'⟩:=Mo (w:=w) (ad:=ad) hu hei lo (some (.int kh 0)) (some (.int k 0)) (by simpa using this);exact⟨_,hr',by simpa using RepF.base _ _ (Rep.nil (w:=w) (g:=g) .full ad' rfl)⟩;have hb:=Mp (P:=P) (w:=w) true es.length cap lo l hh m kh k bl h0 h1 h2 oG;refine⟨_,Ia hu hei b off es.length cap _ _ _ _ _ _ hb,?_⟩;split;rename_i e;have e1:hh.toNat=l.toNat:=oG;have e2:(es.take hh.toNat).drop l.toNat= []:=BY (by simp;omega);rw[e2,e1,e,DD];exact .base _ _ (Rep.empty _ (hst _) b off _ (fun _=>rfl));refine .base _ _ (hr _ m.toNat (hst _) oG (fun e=> ?_) oG);by_cases em:m=hh;rw[em];rw[BA em] at e;cases e
 cases h;cases h
theorem Z1q {t:Lt}{e:EI}(hu:P.underlying t=some (.slice e.id))(hei:ei P e.id=some e){all:Lp}{n:Nat}{a:Value}{k:IntKind}{hh:Int}
 (h:(Req.need (decide (0<=hh)&&decide (hh<=all.length)&&all.all (fun x=>x.cells.length==e.sz)) (.sl .no (all.take hh.toNat))).run s=some (p,s')) (hx:RepF w g F T a (.pre all n)):
 s'=s/\Val P (Instr.sliceAt t a none (some (.int k hh)) none) w (fun v=>RepF w g F T v p):=by
 simp only[Req.run] at h;split at h;rename_i hc;simp only[BU,CZ] at h;obtain⟨rfl,rfl⟩:=h;simp only[q_i,BN] at hc;obtain⟨⟨h0,h1⟩,h2⟩:=hc;have hsz:=xS h2;obtain⟨b,off,cap,rfl,hcap,hn,hfull⟩:=hx.pre_inv.of_pre;refine⟨rfl,?_⟩;have hb:=GG (P:=P) (w:=w) true n cap none (some (.int k hh)) 0 hh (.inl ⟨rfl,rfl⟩) (.inr ⟨_,rfl⟩) oG h0 oG;refine⟨_,Ia hu hei b off n cap _ _ _ _ _ _ hb,?_⟩;have e1:(if cap=Int.toNat 0 then off else off+Int.toNat 0*e.sz)=off:=(by split<;>simp);rw[e1];rcases hfull.sub hsz (l:=0) (h:=hh.toNat) oG oG with ⟨ad,h,hnil⟩ | ⟨b',off',cap',e2,_,_,hr⟩;simp only[Value.slice.injEq] at h;obtain⟨_,_,rfl⟩:=h;subst hnil;have hh0:hh=0:=(by simp at h1;omega);subst hh0;exact .base _ _ (by simpa using Rep.nil (w:=w) (g:=g) .no (some ⟨b,off,none⟩) rfl);simp only[Value.slice.injEq,BU,Addr.mk.injEq,F7,and_true] at e2;obtain⟨⟨rfl,rfl⟩,rfl⟩:=e2;have:=hr .no cap rfl oG (fun h=>by cases h) (BD _);simp only[DC,B1,Nat.sub_zero,EM] at this;exact .base _ _ this;cases h
theorem k0e {t:Lt}(hu:P.underlying t=some .string){st:ByteArray}{lp hp:Option PV}{lo hi:Pr}(h:(G9 st lp hp).run s=some (p,s'))
 (hlo:OptRep w g F T lo lp) (hhi:OptRep w g F T hi hp):s'=s/\Val P (Instr.sliceAt t (.string st) lo hi none) w (fun v=>RepF w g F T v p):=by
 unfold G9 at h;split at h;rename_i l hh hl hhb;have bl:=hlo.bound hl;have bh:=hhi.bound hhb;simp only[Req.run] at h;split at h;rename_i hc;simp only[BU,CZ] at h;obtain⟨rfl,rfl⟩:=h;simp only[q_i,BN] at hc;obtain⟨⟨h0,h1⟩,h2⟩:=hc;have hb:=GG (P:=P) (w:=w) false st.size st.size lo hi l hh bl bh h0 h1 oG;refine⟨rfl,_,?_,.base _ _ (.sc _)⟩;simp[Instr.sliceAt,run_underlying hu,Instr.slice,hb];cases h;cases h
theorem k0h {t:Lt}{e:EI}(hu:P.underlying t=some (.slice e.id))(hei:ei P e.id=some e){gl:Bool}{o off len:Nat}{a:Value}{lp hp:Option PV}{lo hi:Pr}(h:(GA e gl o off len lp hp).run s=some (p,s'))
 (hx:RepF w g F T a (.ms gl o off len)) (hlo:OptRep w g F T lo lp) (hhi:OptRep w g F T hi hp):s'=s/\Val P (Instr.sliceAt t a lo hi none) w (fun v=>RepF w g F T v p):=by
 unfold GA at h;split at h;rename_i l hh hl hhb;have bl:=hlo.bound hl;have bh:=hhi.bound hhb;simp only[Req.run] at h;split at h;rename_i hc;simp only[BU,CZ] at h;obtain⟨rfl,rfl⟩:=h;simp only[q_i,BN] at hc;obtain⟨⟨h0,h1⟩,h2⟩:=hc;refine⟨rfl,?_⟩;have key: ∀b cap,len<=cap->(Instr.sliceAt t (.slice (some ⟨b,off,none⟩) len cap) lo hi none).run P w= .ok (.slice (some ⟨b,off+l.toNat*e.sz,none⟩) (hh.toNat-l.toNat) (cap-l.toNat)) w:=by intro b cap hcap;have hb:=GG (P:=P) (w:=w) true len cap lo hi l hh bl bh h0 oG oG;rw[Ia hu hei b off len cap _ _ _ _ _ _ hb,BA oG]
 cases hx with
 | base _ _ h'=>
  cases h' with
  | gms _ _ _ cap hi' hcap=>exact⟨_,key _ cap hcap,.base _ _ (.gms _ _ _ _ hi' oG)⟩
 | lms _ _ _ cap hi' hcap=>exact⟨_,key _ cap hcap,.lms _ _ _ _ hi' oG⟩
 cases h;cases h
theorem k0f {t:Lt}{x:PV}{a:Value}{lp hp mp:Option PV}{lo hi mx:Pr}(h:(Uq (ti P t) x lp hp mp).run s=some (p,s'))(hx:RepF w g F T a x)
 (hlo:OptRep w g F T lo lp) (hhi:OptRep w g F T hi hp) (hmx:OptRep w g F T mx mp):s'=s/\Val P (Instr.sliceAt t a lo hi mx) w (fun v=>RepF w g F T v p):=by
 unfold Uq at h;split at h;rename_i hT;obtain⟨i',u,hi',hu,hT⟩:=QU hT;obtain⟨rfl,hei⟩:=ZH (B4 TI.ud hT).symm;cases mx with
 | some v=>exact hmx.elim
 | none=>exact k0l hu hei h hx hlo hhi
 rename_i hT;obtain⟨i',u,hi',hu,hT⟩:=QU hT;obtain⟨rfl,hei⟩:=ZH (B4 TI.ud hT).symm;cases mx with
 | none=>exact hmx.elim
 | some v=>
  have:=RepF.sc_inv hmx;subst this;exact k0j hu hei h hx hlo hhi
 rename_i hT;obtain⟨i',u,hi',hu,hT⟩:=QU hT;obtain⟨rfl,hei⟩:=ZH (B4 TI.ud hT).symm;cases mx with
 | some v=>exact hmx.elim
 | none=>
  cases lo with
  | some v=>exact hlo.elim
  | none=>
   cases hi with
   | none=>exact hhi.elim
   | some v=>
    have:=RepF.sc_inv hhi;subst this;exact Z1q hu hei h hx
 rename_i hT;obtain⟨i',u,hi',hu,hT⟩:=QU hT;have hud:=B4 TI.ud hT;simp only at hud;cases u<;>simp only[XO] at hud<;>(try split at hud)<;>try cases hud
 have:=hx.sc_inv;subst this;cases mx with
 | some v=>exact hmx.elim
 | none=>
  exact k0e hu h hlo hhi
 rename_i hT;obtain⟨i',u,hi',hu,hT⟩:=QU hT;obtain⟨rfl,hei⟩:=ZH (B4 TI.ud hT).symm;cases mx with
 | some v=>exact hmx.elim
 | none=>exact k0h hu hei h hx hlo hhi
 cases h
end
section
variable {P:Program} {w:World} {g:Gh} {F:Fr} {T:List (Nat×Nat)} {s s':PFS} {p:PV}
theorem K0l (vs:Ps): ∀(k off:Nat) (cs:Lb),(vs.zipIdx k).foldl (fun(c:Lb) (x:Value×Nat)=>c.setIfInBounds (off+x.2) x.1) cs=(Q4 cs.toList (off+k) vs).toArray\/cs.size<off+k+vs.length:=by
 induction vs with
 | nil=>
  intro k off cs;refine .inl ?_;simp[Q4]
 | cons v r ih=>
  intro k off cs;by_cases h:cs.size<off+k+(v::r).length;exact .inr h;refine .inl ?_;simp only[List.zipIdx_cons,List.foldl_cons];rcases ih (k+1) off (cs.setIfInBounds (off+k) v) with h1 | h1;rw[h1];congr 1;apply C9;simp only[C1] at h;rw[Y4 _ _ _ (by simp;omega),Y4 _ _ _ (by simp;omega)];simp;intro j hj hj';simp only[C1] at h;have e1:=Y5 (cs.setIfInBounds (off+k) v).toList (off+(k+1)) r (by simp;omega) j undef;have e2:=Y5 cs.toList (off+k) (v::r) (by simp;omega) j undef;simp only[q_a,BB hj,BB hj',D9] at e1 e2;rw[e1,e2];by_cases c1:j=off+k;subst c1;rw[BA oG,BC ⟨oG,by simp⟩];have:off+k<cs.size:=oG;simp[this];by_cases c2:off+k<j/\j<off+k+1+r.length;rw[BC ⟨oG,oG⟩,BC ⟨oG,by simp;omega⟩];obtain⟨d,rfl⟩:=Nat.exists_eq_add_of_lt c2.1;rw[show off+k+d+1-(off+(k+1))=d from oG,show off+k+d+1-(off+k)=d+1 from oG];simp;rw[BA oG,BA (by simp;omega)];simp[Array.getElem?_setIfInBounds,Ne.symm c1];simp at h1 h;omega
theorem K0y (J4:Nat->Option (Nat×Nat)): ∀(ps:List (Nat×Value)) (qs:List (Nat×PV)) (cells:Lb) (cs cs':Lp),ps.map (·.1)=qs.map (·.1)->
 (∀j,j<qs.length->RepF w g F T (ps.getD j (0,undef)).2 (qs.getD j (0,.junk)).2)->cells.size=cs.length->(∀j,j<cs.length->RepF w g F T (cells.getD j undef) (cs.getD j .junk))->IH J4 cs qs=some cs'->
 ∃cells',Instr.fill J4 cells ps=some cells'/\cells'.size=cs'.length/\ ∀j,j<cs'.length->RepF w g F T (cells'.getD j undef) (cs'.getD j .junk)
 | [],[],cells,cs,cs',_,_,hl,hr,h=>by cases h;exact⟨cells,rfl,hl,hr⟩
 | [],_::_,_,_,_,he,_,_,_,_=>by cases he
 | _::_,[],_,_,_,he,_,_,_,_=>by cases he
 | (i,v)::ps,(i',q)::qs,cells,cs,cs',he,hv,hl,hr,h=>by
  simp only[DX,FJ] at he;obtain⟨rfl,he⟩:=he;simp only[IH] at h;split at h;cases h;rename_i off sz hp;split at h;rename_i hc;obtain⟨c1,c2,c3⟩:=hc;have h0:RepF w g F T v q:=hv 0 (by simp);obtain⟨k1,k2,k3⟩:=h0.cells c3;have hsz:v.cells.size=sz:=k1.trans c1;have hfold:(v.cells.zipIdx.foldl (fun cs (x:Value×Nat)=>cs.setIfInBounds (off+x.2) x.1) cells)=(Q4 cells.toList off v.cells.toList).toArray:=by have:=K0l v.cells.toList 0 off cells;rw[B1] at this;rcases this with h | h;rw[<-h,<-Array.foldl_toList];simp;simp at h;omega
  have hlen:(Q4 cells.toList off v.cells.toList).length=cells.size:=by rw[Y4 _ _ _ (by simp;omega)];simp
  have hlen2:(Q4 cs off q.cells).length=cs.length:=Y4 _ _ _ oG;obtain⟨cells',f1,f2,f3⟩:=K0y J4 ps qs (Q4 cells.toList off v.cells.toList).toArray (Q4 cs off q.cells) cs' he (fun j hj=>hv (j+1) (by simpa using hj)) (by simp[hlen,hlen2,hl]) (fun j hj=>by rw[hlen2] at hj;rw[Vh,Y5 _ _ _ (by simp;omega),Y5 _ _ _ oG];by_cases hin:off<=j/\j<off+q.cells.length;rw[BC (by simp;omega),BC hin];have:=k2 (j-off) oG;rw[q_f] at this;simpa[q_a] using this;rw[BA (by simp;omega),BA hin];have:=hr j hj;rw[q_f] at this;simpa[q_a] using this) h;refine⟨cells',?_,f2,f3⟩;simp only[Instr.fill,hp];rw[BA (by simp[hsz];omega)];rw[<-f1];congr 1;cases h
theorem v0k {fs:List Field}{l:List (Nat×EI)}(h:YH P fs=some l):(fs.mapM (fun f=>do pure (f.offset,<-sizeOf f.type)):Sem (List (Nat×Nat))).run P w= .ok (l.map fun x=>(x.1,x.2.sz)) w:=by
 induction fs generalizing l with
 | nil=>cases h;rfl
 | cons f fs ih=>
  simp only[YH] at h;split at h;rename_i e es h1 h2;cases h;simp only[List.mapM_cons,Sem.run_bind,Wf h1,Result.andThen_ok,Sem.run_pure,ih h2];rfl;cases h
theorem yX (z:Value):(∀j,j<(Xa z).cells.length->RepF w g F T (z.cells.getD j undef) ((Xa z).cells.getD j .junk))/\((∀cs,z≠ .tuple cs)->z.cells.size=(Xa z).cells.length):=by
 cases z with
 | agg cs=>
  have h:=Ij w g (.agg cs);cases h with
  | agg vs cs' hl h=>exact⟨fun j hj=> .base _ _ (h j hj),fun _=>hl⟩
 | slice a n c=>
  have e:(Xa (.slice a n c)).cells= [Xa (.slice a n c)]:=by simp only[Xa,Kf];split<;>simp_all [PV.cells]
  rw[e];refine⟨fun j hj=> ?_,fun _=>rfl⟩;simp at hj;subst hj;exact .base _ _ (Ij w g _)
 | tuple cs=>
  refine⟨fun j hj=> ?_,fun h=>absurd rfl (h _)⟩;simp[Xa,Kf,PV.cells] at hj;subst hj;exact .base _ _ (.junk _)
 | _=>
  refine⟨fun j hj=> ?_,fun _=>rfl⟩;simp[Xa,Kf,PV.cells] at hj;subst hj;exact .base _ _ (.sc _)
theorem Dc {t:Lt}{TI:TI}{z:Value}(h:ti P t=some TI)(hz:TI.zero=some z):(zeroValue t).run P w= .ok z w:=by obtain⟨i,u,hi,hu,rfl⟩:=QU h;simp only at hz;simp[zeroValue,typeInfo,hi,hz]
theorem w1v {t:Lt}{ps:List (Nat×Value)}{qs:List (Nat×PV)}(h:(Gg (ti P t) qs).run s=some (p,s'))(he:ps.map (·.1)=qs.map (·.1))
 (hv: ∀j,j<qs.length->RepF w g F T (ps.getD j (0,undef)).2 (qs.getD j (0,.junk)).2):s'=s/\Val P (Instr.build t ps.toArray) w (fun v=>RepF w g F T v p):=by
 unfold Gg at h;split at h;rename_i fs z hT;have hz:=Dc (w:=w) hT rfl;obtain⟨i',u,hi',hu,hT'⟩:=QU hT;obtain⟨fl,rfl,hall⟩:=jr (B4 TI.ud hT').symm;split at h;rename_i cs hf;cases h;have hz2:=(yX (w:=w) (g:=g) (F:=F) (T:=T) (.agg z));obtain⟨cells',f1,f2,f3⟩:=K0y (w:=w) (g:=g) (F:=F) (T:=T) (fun i=>(fs[i]?).map fun x=>(x.1,x.2.sz)) ps qs z (z.toList.map Kf) cs he hv (hz2.2 (fun c e=>by cases e)) hz2.1 hf;refine⟨rfl,.agg cells',?_,.agg _ _ f2 f3⟩;have hpl:(fl.mapM (fun f=>do pure (f.offset,<-sizeOf f.type)):Sem (Array (Nat×Nat))).run P w= .ok (fs.map fun x=>(x.1,x.2.sz)).toArray w:=by rw[Array.mapM_eq_mapM_toList];simp only[Sem.run_map,v0k hall,Result.andThen_ok]
 have hplace:(fun i:Nat=>(fs.map fun(x:Nat×EI)=>(x.1,x.2.sz)).toArray[i]?)=fun i=>(fs[i]?).map fun x=>(x.1,x.2.sz):=by funext i;simp
 have f1':Instr.fill (fun i:Nat=>(fs.map fun(x:Nat×EI)=>(x.1,x.2.sz)).toArray[i]?) z ps=some cells':=by rw[hplace];exact f1
 simp only[Instr.build,Sem.run_bind,hz,Result.andThen_ok,run_underlying hu,hpl,Value.cells,f1',Sem.run_pure];cases h;cases h
end
section
variable {P:Program} {E:Ent} {a:Act} {w:World} {g:Gh} {F:Fr} {s s':PFS} {p:PV}
def X9 (P:Program)(E:Ent)(a:Act)(w:World)(m:Sem Next)(p:PV)(s':PFS):Prop:=
 ∃nx w' g' F',m.run P w= .ok nx w'/\FSRep E a w' g' F' s'/\((∃v,nx= .value v/\RepF w' g' F' s'.T v p)\/(nx= .skip/\p= .junk))
theorem Val.does {m:Sem Value}(h:FSRep E a w g F s)(hv:s'=s/\Val P m w (fun v=>RepF w g F s.T v p)):X9 P E a w (do pure (.value (<-m))) p s':=by obtain⟨rfl,v,hm,hr⟩:=hv;exact⟨.value v,w,g,F,by simp only[Sem.run_bind,hm,Result.andThen_ok,Sem.run_pure],h,.inl ⟨v,rfl,hr⟩⟩
theorem Val.does' {v:Value}(h:FSRep E a w g F s)(hr:RepF w g F s.T v p):X9 P E a w (pure (.value v)) p s:=
 ⟨.value v,w,g,F,rfl,h,.inl ⟨v,rfl,hr⟩⟩
theorem J0z (n:Nat)(cf:Nat->Value)(j:Nat)(h:j<n):((List.range n).map cf).toArray.getD j undef=cf j:=by rw[Vh,q_a];simp[h]
theorem X0n {R:Value->PV->Prop}{t:Lt}{TI:TI}(hT:ti P t=some TI){b off:Nat}{ps:Lp}(h:Holds w R b ps)(hle:off+(if TI.agg then TI.size else 1)<=ps.length)
 (hagg: ∀vs cs,vs.size=cs.length->(∀j,j<cs.length->R (vs.getD j undef) (cs.getD j .junk))->R (.agg vs) (.agg cs)):
 ∃v,(Instr.loadAt t (.pointer (some ⟨b,off,none⟩))).run P w= .ok v w/\R v (if TI.agg then .agg ((ps.drop off).take TI.size) else ps.getD off .junk):=by
 obtain⟨cf,hcf⟩:=h.pick;have hl:=GH hT w b off (fun j=>cf (off+j)) (fun j hj=>(hcf _ oG).1);refine⟨_,by simp only[Instr.loadAt,Instr.sureAddr,Sem.run_bind,Sem.run_pure,Result.andThen_ok];exact hl,?_⟩;cases ha:TI.agg with
 | true=>
  rw[ha] at hle;simp only[D4] at hle⊢;refine hagg _ _ (by simp;omega) fun j hj=> ?_;have hj':j<TI.size:=(by simp at hj;omega);rw[J0z _ _ _ hj',vV _ _ _ _ _ hj'];exact(hcf _ oG).2
 | false=>
  rw[ha] at hle;simp only[B3,DT] at hle⊢;exact(hcf _ oG).2
theorem v0m {c:Bool}{v:PV}(h:(Req.need c v).run s=some (p,s')):c=true/\p=v/\s'=s:=by simp only[Req.run] at h;split at h;rename_i hc;simp only[BU,CZ] at h;exact⟨hc,h.1.symm,h.2.symm⟩;cases h
theorem Mw {gl agg:Bool}{i off n:Nat}(h:(Req.load gl i off n agg).run s=some (p,s')):
 off+n<=((if gl then s.st else s.L).getD i []).length/\p=(if agg then .agg ((((if gl then s.st else s.L).getD i []).drop off).take n) else((if gl then s.st else s.L).getD i []).getD off .junk)/\s'=s:=by
 simp only[Req.run] at h;by_cases hc:off+n<=((if gl then s.st else s.L).getD i []).length;rw[BC hc] at h;simp only[BU,CZ] at h;exact⟨hc,h.1.symm,h.2.symm⟩;rw[BA hc] at h;cases h
theorem U1c {t:Lt}{x:PV}{v:Value}(h:FSRep E a w g F s)(hq:(VY (ti P t) x).run s=some (p,s'))(hx:RepF w g F s.T v x):s'=s/\Val P (Instr.loadAt t v) w (fun v=>RepF w g F s.T v p):=by
 unfold VY at hq;split at hq;rename_i TI i off hT;obtain⟨hle,rfl,rfl⟩:=Mw hq;have:=hx.lp_inv;subst this;simp only[B3,DT] at hle⊢;obtain⟨u,h1,h2⟩:=X0n (P:=P) hT (h.box i) hle (fun vs cs h1 h2=> .agg vs cs h1 h2);refine⟨trivial,u,h1,?_⟩;cases ha:TI.agg with
 | true=>rw[ha] at h2;simpa using h2
 | false=>rw[ha] at h2;simpa using h2
 rename_i TI i off hT;obtain⟨hle,rfl,rfl⟩:=Mw hq;obtain⟨rfl,hi⟩:=hx.gp_inv;simp only[D4] at hle⊢;obtain⟨u,h1,h2⟩:=X0n (P:=P) hT (h.store.holds i hi) hle (fun vs cs h1 h2=> .agg vs cs h1 h2);refine⟨trivial,u,h1,.base _ _ ?_⟩;cases ha:TI.agg with
 | true=>rw[ha] at h2;simpa using h2
 | false=>rw[ha] at h2;simpa using h2
 rename_i TI cs off hT;obtain⟨hle,rfl,rfl⟩:=v0m hq;have hle:=q_b hle;obtain⟨b,base,cf,rfl,hvis,hc,hr⟩:=hx.ep_inv.ep_inv;have hl:=GH hT w b (base+off) (fun j=>cf (off+j)) (fun j hj=>by rw[DK];exact hc _ oG);refine⟨rfl,_,by simp only[Instr.loadAt,Instr.sureAddr,Sem.run_bind,Sem.run_pure,Result.andThen_ok];exact hl,?_⟩;cases ha:TI.agg with
 | true=>
  rw[ha] at hle;simp only[D4] at hle⊢;refine .base _ _ (.agg _ _ (by simp;omega) fun j hj=> ?_);have hj':j<TI.size:=(by simp at hj;omega);rw[J0z _ _ _ hj',vV _ _ _ _ _ hj'];exact hr _ oG
 | false=>
  rw[ha] at hle;simp only[B3,DT] at hle⊢;exact .base _ _ (hr _ oG)
 cases hq
theorem Ec {R:Value->PV->Prop}{t:Lt}{TI:TI}(hT:ti P t=some TI){b off:Nat}{ps:Lp}(h:Holds w R b ps){v:Value}(hsz:v.cells.size=TI.size)(hle:off+TI.size<=ps.length)(h1: ∀u∈v.cells.toList,u.oneCell'=true):
 (Instr.storeAt t (.pointer (some ⟨b,off,none⟩)) v).run P w= .ok () (w.setCells b off v.cells.toList):=by
 have:=run_storeCells_cells (P:=P) b off v.cells.toList 0 w (fun j hj=>by
  obtain⟨_,c,hc,_⟩:=h (off+j) (by simp at hj;omega);simp[hc]) (fun j hj=>by
  obtain⟨hf,_⟩:=h (off+j) (by simp at hj;omega);simpa using hf) h1
 simp only[Instr.storeAt,Instr.sureAddr,storeVar,Sem.run_bind,Sem.run_pure,Result.andThen_ok,Mq hT,hsz,ne_eq,not_true,DT,this];simp[hsz,this]
theorem j0b {t:Lt}{x y:PV}{v u:Value}(h:FSRep E a w g F s)(hq:(Um (ti P t) x y).run s=some (p,s'))(hx:RepF w g F s.T v x)(hy:RepF w g F s.T u y):X9 P E a w (do Instr.storeAt t v u;pure .skip) p s':=by
 unfold Um at hq;split at hq;rename_i TI i off hT;split at hq;rename_i hc;simp only[Req.run,B3,DT] at hq;split at hq;rename_i hle;simp only[BU,CZ] at hq;obtain⟨rfl,rfl⟩:=hq;have:=hx.lp_inv;subst this;obtain⟨k1,k2,k3⟩:=hy.cells hc.2;have hne:s.L.getD i []≠ []:=fun e=>(by rw[e] at hle;simp at hle);have hrun:=Ec hT (h.box i) (off:=off) (v:=u) oG oG k3;obtain⟨f1,f2⟩:=h.storeL i off u.cells.toList y.cells (by simpa using k1) hne hle.1 (fun j hj=>by have:=k2 j hj;rw[q_f] at this;simpa[q_a] using this);exact⟨.skip,_,g,F,by simp only[Sem.run_bind,hrun,Result.andThen_ok,Sem.run_pure],f1,.inr ⟨rfl,rfl⟩⟩;cases hq;cases hq;rename_i TI i off hT;split at hq;rename_i hc;simp only[Req.run,D4] at hq;split at hq;rename_i hle;simp only[BU,CZ] at hq;obtain⟨rfl,rfl⟩:=hq;obtain⟨rfl,hi⟩:=hx.gp_inv;obtain⟨k1,k2,k3⟩:=hy.cells hc.2.1;have hne:s.st.getD i []≠ []:=fun e=>(by rw[e] at hle;simp at hle);have hlen:y.forget2.cells.length=y.cells.length:=(by cases y<;>simp[PV.forget2,PV.forget1,PV.cells]);have hrun:=Ec hT (h.store.holds i hi) (off:=off) (v:=u) oG oG k3;have hfr:=hy.forget2 hc.2.2;have f1:=h.storeG h.ext.le.n i off u.cells.toList y.forget2.cells (by rw[hlen];simpa using k1) hi hne hle.1 (fun j hj=>by
  rw[hlen] at hj;have hk:=k2 j hj;have e:u.cells.toList.getD j undef=u.cells.getD j undef:=(by simp[q_f,q_a]);rw[e];by_cases hag: ∃cs,y= .agg cs;obtain⟨cs,rfl⟩:=hag;have hh:Rep w g u (.agg (cs.map PV.forget1)):=hfr;obtain⟨vs,rfl,hl,hv⟩:=hy.agg_inv;cases hh with
  | agg vs cs' hl' h'=>exact h' j (by simp only[PV.cells] at hj;simpa using hj)
  have e1:y.cells= [y]:=by cases y<;>first | rfl | exact absurd ⟨_,rfl⟩ hag
  have e2:y.forget2.cells= [y.forget2]:=by cases y<;>first | rfl | exact absurd ⟨_,rfl⟩ hag
  rw[e1] at hj k1;rw[e2];simp at hj;subst hj;have hone:=qe hy (by have:=hc.2.1;rw[e1] at this;simpa using this);have e3:u.cells= #[u]:=by cases u<;>first | rfl | cases hone
  rw[e3];exact hfr)
 exact⟨.skip,_,g,F,by simp only[Sem.run_bind,hrun,Result.andThen_ok,Sem.run_pure],f1,.inr ⟨rfl,rfl⟩⟩;cases hq;cases hq;cases hq
theorem Mu (t:Lt)(v:Value):(newVar t v).run P w= .ok ⟨w.heap.size,0,none⟩ (w.alloc (.cells v.cells t)):=by simp[newVar,newRow,newObj,Sem.run]
theorem Y0o (h:FSRep E a w g F s)(t:Lt)(v:Value)(ps:Lp)(hl:v.cells.size=ps.length)(hr: ∀j,j<ps.length->RepF w g F s.T (v.cells.getD j undef) (ps.getD j .junk)){m:Sem Value}
 (hm:m.run P w= .ok (.pointer (some ⟨w.heap.size,0,none⟩)) (w.alloc (.cells v.cells t))):
 X9 P E a w (do pure (.value (<-m))) (.lp s.L.length 0) { s with L:=s.L++ [ps] } :=by
 obtain⟨g',F',f1,f2,f3,f4⟩:=h.box_new t v.cells ps hl hr;refine⟨_,_,g',F',by simp only[Sem.run_bind,hm,Result.andThen_ok,Sem.run_pure];rfl,f1,.inl ⟨_,rfl,?_⟩⟩;rw[<-f2];exact .lp _ _ f3
end
section
variable {P:Program} {E:Ent} {a:Act} {w:World} {g:Gh} {F:Fr} {s s':PFS} {p:PV}
theorem Z2j {t:Lt}(h:FSRep E a w g F s)(hq:(Gl (ti P t)).run s=some (p,s')):X9 P E a w (do pure (.value (<-Instr.alloc t true (.tuple #[])))) p s':=by unfold Gl at hq;split at hq;cases hq;rename_i z hn hT;simp only[Req.run,BU,CZ] at hq;obtain⟨rfl,rfl⟩:=hq;have hz:=yX (w:=w) (g:=g) (F:=F) (T:=s.T) z;refine Y0o h t z _ (hz.2 (fun cs e=>hn cs e)) hz.1 ?_;simp only[Instr.alloc,Sem.run_bind,Dc hT rfl,Result.andThen_ok,Mu,Sem.run_pure];cases hq
theorem y1d {t:Lt}{x:PV}{v:Value}(h:FSRep E a w g F s)(hq:(qk x).run s=some (p,s'))(hx:RepF w g F s.T v x):X9 P E a w (do pure (.value (<-Instr.box t v))) p s':=by unfold qk at hq;split at hq;rename_i hc;simp only[Req.run,BU,CZ] at hq;obtain⟨rfl,rfl⟩:=hq;obtain⟨k1,k2,k3⟩:=hx.cells hc;refine Y0o h t v _ k1 k2 ?_;simp only[Instr.box,Sem.run_bind,Result.andThen_ok,Mu,Sem.run_pure];cases hq
theorem xy (sz:Nat): ∀(ps:List (Nat×Value)) (k:Nat) (cells:Lb),ps.map (·.1)=List.range' k ps.length->(∀j,j<ps.length->(ps.getD j (0,undef)).2.cells.size=sz)->(k+ps.length)*sz<=cells.size->
 ∃cells',Instr.fill (fun i=>some (i*sz,sz)) cells ps=some cells'/\cells'.size=cells.size/\(∀m,m<k*sz->cells'.getD m undef=cells.getD m undef)/\
  ∀i j,i<ps.length->j<sz->cells'.getD ((k+i)*sz+j) undef=(ps.getD i (0,undef)).2.cells.getD j undef
 | [],k,cells,_,_,_=>⟨cells,rfl,rfl,fun _ _=>rfl,fun i j hi=>by simp at hi⟩
 | (i0,v)::ps,k,cells,he,hs,hl=>by
  simp only[DX,C1,List.range'_succ,FJ] at he;obtain⟨rfl,he⟩:=he;have hv:v.cells.size=sz:=hs 0 (by simp);have hk:(i0+(ps.length+1))*sz=i0*sz+sz+ps.length*sz:=(by rw[BQ,BQ];omega);have hl':i0*sz+sz+ps.length*sz<=cells.size:=(by rw[<-hk];simpa using hl);have hfold:(v.cells.zipIdx.foldl (fun cs (x:Value×Nat)=>cs.setIfInBounds (i0*sz+x.2) x.1) cells)=(Q4 cells.toList (i0*sz) v.cells.toList).toArray:=by have:=K0l v.cells.toList 0 (i0*sz) cells;rw[B1] at this;rcases this with h | h;rw[<-h,<-Array.foldl_toList];simp;simp at h;omega
  have hlen:(Q4 cells.toList (i0*sz) v.cells.toList).length=cells.size:=by rw[Y4 _ _ _ (by simp;omega)];simp
  obtain⟨cells',f1,f2,f3,f4⟩:=xy sz ps (i0+1) (Q4 cells.toList (i0*sz) v.cells.toList).toArray he (fun j hj=>hs (j+1) (by simpa using hj))
   (by simp only[EY,hlen];rw[BQ,BQ];omega)
  have hget: ∀m,(Q4 cells.toList (i0*sz) v.cells.toList).toArray.getD m undef=if i0*sz<=m/\m<i0*sz+sz then v.cells.getD (m-i0*sz) undef else cells.getD m undef:=fun m=>by rw[Vh,Y5 _ _ _ (by simp;omega)];simp only[Array.length_toList,hv];split<;>simp[q_f,q_a]
  refine⟨cells',?_,by rw[f2];simp[hlen],fun m hm=> ?_,fun i j hi hj=> ?_⟩;simp only[Instr.fill];rw[BA (by simp[hv];omega)];rw[<-f1];congr 1;rw[f3 m (by rw[BQ];omega),hget,BA oG];cases i with
  | zero=>
   have:=f3 (i0*sz+j) (by rw[BQ];omega);rw[B1,this,hget,BC ⟨oG,oG⟩,DY];rfl
  | succ i=>
   have:=f4 i j (by simpa using hi) hj;rw[show i0+(i+1)=i0+1+i from oG,this];rfl
theorem w1u {t:Lt}{len:Nat}{ps:List (Nat×Value)}{qs:List (Nat×PV)}(h:FSRep E a w g F s)(hq:(Gf (ti P t) len qs).run s=some (p,s'))(he:ps.map (·.1)=qs.map (·.1))
 (hv: ∀j,j<qs.length->RepF w g F s.T (ps.getD j (0,undef)).2 (qs.getD j (0,.junk)).2):X9 P E a w (do pure (.value (<-Instr.buildSlice t len ps.toArray))) p s':=by
 unfold Gf at hq;split at hq;rename_i e _ hT;obtain⟨i',u,hi',hu,hT'⟩:=QU hT;obtain⟨rfl,hei⟩:=ZH (B4 TI.ud hT').symm;split at hq;rename_i hc;obtain⟨c1,c2,c3,c4⟩:=hc;simp only[Req.run,BU,CZ] at hq;obtain⟨rfl,rfl⟩:=hq;have hqlen:qs.length=len:=(by have:=B4 List.length c1;simpa using this);have hplen:ps.length=len:=(by have:=B4 List.length he;simp at this;omega);have hall:=List.all_eq_true.1 c4;have hpart: ∀j,j<len->(ps.getD j (0,undef)).2.cells.size=e.sz/\(qs.getD j (0,.junk)).2.cells.length=e.sz/\(qs.getD j (0,.junk)).2.closed2=true/\(qs.getD j (0,.junk)).2.cells.all PV.cellOK=true:=fun j hj=>by have hm:=hall _ (QE qs j (0,.junk) oG);simp only[q_i,FL] at hm;obtain⟨⟨m1,m2⟩,m3⟩:=hm;exact⟨by rw[((hv j oG).cells m3).1,m2],m2,m1,m3⟩
 obtain⟨i2,u2,hi2,hu2,e2⟩:=JW hei;have hsz2:i2.size=e.sz:=(by rw[e2]);obtain⟨z,hz,hzs⟩: ∃z,i2.zero=some z/\z.cells.size=i2.size:=by have:=B4 EI.zok e2;rw[c3] at this;simp only at this;split at this;rename_i z hz;exact⟨z,hz,by simpa using this.symm⟩;cases this
 have hfill:=xy e.sz ps 0 ((Array.range (len*e.sz)).map (fun i=>(if len*e.sz=0 then #[] else z.cells)[i % (if len*e.sz=0 then #[] else z.cells).size]!)) (by rw[he,c1,hplen,F6]) (fun j hj=>(hpart j oG).1) (by simp[hplen]);obtain⟨cells',f1,f2,f3,f4⟩:=hfill;have hrun:(Instr.buildSlice t len ps.toArray).run P w= .ok (.slice (some ⟨w.heap.size,0,none⟩) len len) (w.alloc (.cells cells' e.id)):=by unfold Instr.buildSlice;simp only[Sem.run_bind,run_underlying hu,Result.andThen_ok,Wf hei];rw[BA oG];by_cases h0:len*e.sz=0;simp only[h0,D4,Sem.run_pure,Result.andThen_ok] at f1⊢;simp only[f1,newRow,newObj,Sem.run_bind,Sem.run_pure,Result.andThen_ok];simp[Sem.run];simp only[h0,DT,Sem.run_bind,zeroValue,typeInfo,hi2,hz,Sem.run_pure,Result.andThen_ok] at f1⊢;simp[hi2,hz,f1,newRow,newObj,Sem.run]
 have hel:(qs.map fun x=>x.2.forget2).length=len:=(by simp[hqlen]);have hgd: ∀i,i<len->(qs.map fun x=>x.2.forget2).getD i .junk=(qs.getD i (0,.junk)).2.forget2:=fun i hi=>Jb _ _ _ _ _ oG;have hfl: ∀p:PV,p.forget2.cells.length=p.cells.length:=fun p=>(by cases p<;>simp[PV.forget2,PV.forget1,PV.cells]);obtain⟨g',_,_,_,r1,r2,r3,_⟩:=h.slice_new e.id cells' (qs.map fun x=>x.2.forget2) e.sz len (fun i hi=>by
  rw[hel] at hi;rw[hgd i hi,hfl];exact(hpart i hi).2.1) (by rw[hel];exact BD _) (by rw[f2];simp) (fun m hm=>by
  rw[hel] at hm;obtain⟨d1,d2⟩:=H2 hm;obtain⟨q1,q2,q3,q4⟩:=hpart _ d1;rw[hgd _ d1];have hc:=f4 (m/e.sz) (m % e.sz) oG d2;rw[CU,Nat.div_add_mod'] at hc;rw[hc];have hr:=hv (m/e.sz) oG;obtain⟨k1,k2,k3⟩:=hr.cells q4
  --the part's cells,forgotten
  generalize (ps.getD (m/e.sz) (0,undef)).2=v at*
  generalize (qs.getD (m/e.sz) (0,PV.junk)).2=q at*
  have hfr:=hr.forget2 q3;by_cases hag: ∃cs,q= .agg cs;obtain⟨cs,rfl⟩:=hag;have hfr':Rep w g v (.agg (cs.map PV.forget1)):=hfr;cases hfr' with
  | agg vs cs' hl' h'=>exact h' _ (by simp only[PV.cells] at q2;simp;omega)
  have e1:q.cells= [q]:=by cases q<;>first | rfl | exact absurd ⟨_,rfl⟩ hag
  have e2':q.forget2.cells= [q.forget2]:=by cases q<;>first | rfl | exact absurd ⟨_,rfl⟩ hag
  rw[e1] at q2 q4;simp at q2;have hone:=qe hr (by simpa using q4);have e3:v.cells= #[v]:=by cases v<;>first | rfl | cases hone
  have e4:m % e.sz=0:=oG;rw[e2',e3,e4];exact hfr)
 rw[hel] at r3;refine⟨_,_,g',F,by simp only[Sem.run_bind,hrun,Result.andThen_ok,Sem.run_pure],r1,.inl ⟨_,rfl,.base _ _ (r3 .full rfl (fun _=>rfl))⟩⟩;cases hq;cases hq
end
section
variable {P:Program} {E:Ent} {a:Act} {w:World} {g:Gh} {F:Fr} {s s':PFS} {p:PV}
theorem G8 {tx e':Lt}(hu:P.underlying tx=some (.slice e')){x:Value}{ys:Lp}{sz:Nat}(hx:Rep w g x (.sl .no ys))(hs:ys.all (fun y=>(y.cells.length==sz)&&y.cells.all PV.cellOK)=true):
 ∃news,Source P w g sz tx x ys news:=by
 have hsz: ∀i,i<ys.length->(ys.getD i .junk).cells.length=sz:=fun i hi=>by have:=List.all_eq_true.1 hs _ (QE ys i .junk hi);simp only[q_i,FL] at this;exact this.1
 rcases hx.sl_cells sz hsz with ⟨ad,rfl,rfl⟩ | ⟨b,off,cap,cell,rfl,hcap,_,_,hc⟩;cases ad with
 | none=>exact⟨[],⟨Src.ofNil w hu 0,fun i hi=>by simp at hi,fun m hm=>by simp at hm⟩⟩
 | some a=>exact⟨[],⟨Src.ofSlice w hu a 0 0 [] (by simp) (fun j u hu'=>by simp at hu') (fun u hu'=>by simp at hu'),fun i hi=>by simp at hi,fun m hm=>by simp at hm⟩⟩
 have hcells: ∀m,m<ys.length*sz->w.cell? ⟨b,off+m,none⟩=some (cell m):=fun m hm=>(hc m hm).1;refine⟨(List.range (ys.length*sz)).map cell,⟨Src.ofSlice w hu ⟨b,off,none⟩ ys.length cap _ (by simp) (fun j u hu'=> ?_) (fun u hu'=> ?_),hsz,fun m hm=> ?_⟩⟩;rw[Addr.add_mid];have hj:j<ys.length*sz:=by have:=(E7.1 hu').1;simpa using this
 rw[hcells j hj];simp[EB hj] at hu';rw[hu'];obtain⟨m,hm,rfl⟩:=CF.1 hu';have hm':m<ys.length*sz:=(by simpa using hm);obtain⟨d1,d2⟩:=H2 hm';have hy:=List.all_eq_true.1 hs _ (QE ys (m/sz) .junk d1);simp only[q_i] at hy;have hcl:=hsz _ d1;have hlt:m % sz<(ys.getD (m/sz) PV.junk).cells.length:=(by rw[hcl];exact d2);exact qe (F:=⟨0,fun _=>0,fun _=>none⟩) (T:= []) (.base _ _ (hc m hm').2) (List.all_eq_true.1 hy.2 _ (QE _ (m % sz) PV.junk hlt));have e:((List.range (ys.length*sz)).map cell).getD m undef=cell m:=(by simp[q_a,hm]);rw[e];exact(hc m hm).2
theorem j0y {tx:Lt}(hu:P.underlying tx=some .string)(b:ByteArray):Source P w g 1 tx (.string b) (b.data.toList.map fun c=> .sc (.int .u8 c.toNat)) (byteCells b):=by
 have hlen:(b.data.toList.map fun c=>PV.sc (.int .u8 c.toNat)).length=b.size:=by rw[BR,Array.length_toList];rfl
 refine⟨?_,fun i hi=> ?_,fun m hm=> ?_⟩;rw[hlen];exact Src.ofString w hu b;rw[Jb _ _ _ _ 0 (by simpa using hi)];rfl;rw[EH,hlen] at hm;have hm':m<b.data.toList.length:=(by simpa using hm);rw[F9,FQ,Jb _ _ _ _ 0 hm'];have:(byteCells b).getD m undef= .int .u8 (b.data.toList.getD m 0).toNat:=by unfold byteCells;exact Jb _ _ _ _ 0 hm'
 rw[this];exact .sc _
theorem j0x {tx:Lt}(hu:P.underlying tx=some .string){b:ByteArray}{sz:Nat}(hs:(b.data.toList.map fun c=>PV.sc (.int .u8 c.toNat)).all (fun y=>(y.cells.length==sz)&&y.cells.all PV.cellOK)=true):
 ∃news,Source P w g sz tx (.string b) (b.data.toList.map fun c=>PV.sc (.int .u8 c.toNat)) news:=by
 cases hb:b.data.toList with
 | nil=>
  have hz:b.size=0:=by
   have:b.data.toList.length=b.size:=by rw[Array.length_toList];rfl
   rw[hb] at this;simpa using this.symm
  have hcell: ∀w:World,(Builtin.firstCells sz 0 (.string b)).run P w= .ok #[] w:=fun w=>by
   have:(b.extract 0 0).data= #[]:=by apply Array.eq_empty_of_size_eq_zero;simp
   simp[Builtin.firstCells,this]
  refine⟨[],⟨⟨.inr hu,fun w'=> ?_,hcell w,hcell w.drew,by simp,fun _ h=>by cases h⟩,fun i hi=>by simp at hi,fun m hm=>by simp at hm⟩⟩;simp[Builtin.lenOf,hz]
 | cons c r=>
  rw[hb] at hs;simp only[DX,List.all_cons,q_i,FL] at hs;have:sz=1:=hs.1.1.symm;subst this;rw[<-hb];exact⟨_,j0y hu b⟩
theorem yI {t tx:Lt}{e:EI}(hu:P.underlying t=some (.slice e.id))(hei:ei P e.id=some e){tg:Tag}{es ys:Lp}{v x:Value}{ty:Lt}
 (h:FSRep E a w g F s) (hv:RepF w g F s.T v (.sl tg es)) (hsrc:e.zok=true->ys.all (fun y=>(y.cells.length==e.sz)&&y.cells.all PV.cellOK)=true-> ∃news,Source P w g e.sz tx x ys news)
 (hq:(Req.app tg es ys e).run s=some (p,s')):X9 P E a w (do pure (.value (<-Builtin.append_ #[t,tx] ty #[v,x]))) p s':=by
 simp only[Req.run] at hq;split at hq
 . rename_i hc;obtain⟨c1,c2,c3,c4,c5⟩:=hc;obtain⟨news,hs⟩:=hsrc c1 c5;obtain⟨i,u,hi,hu',he⟩:=JW hei;have e1:i.size=e.sz:=(by rw[he]);have e2:i.bytes=e.by_:=(by rw[he]);obtain⟨z,hz,hzs⟩: ∃z,i.zero=some z/\z.cells.size=i.size:=by have:=B4 EI.zok he;rw[c1] at this;simp only at this;split at this;rename_i z hz;exact⟨z,hz,by simpa using this.symm⟩;cases this
   have hes:=xS c4;split at hq;rename_i k;split at hq;rename_i hT;simp only[BU,CZ] at hq;obtain⟨rfl,rfl⟩:=hq;obtain⟨v',w',g',F',r1,r2,r3⟩:=h.append (P:=P) (t:=t) (tx:=tx) (ty:=ty) hu hi hz hzs hv (by rw[hT,e1]) (by rw[e1];exact hes) (by rw[e1];exact hs) oG (by rw[e2];exact c3);rw[e1] at r2 r3;exact⟨_,w',g',F',by simp only[Sem.run_bind,r1,Result.andThen_ok,Sem.run_pure],r2,.inl ⟨v',rfl,r3⟩⟩;cases hq
   . split at hq;rotate_left;cases hq;rename_i hnil;simp only[BU,CZ] at hq;obtain⟨rfl,rfl⟩:=hq;obtain⟨F1,m1,m2,m3,m4,m5⟩:=h.mint es.length e.sz none (fun b hb=>by cases hb);have hvn:=hv.slNo;have hR:Right w g none e.sz v es\/(∃a,v= .slice a es.length es.length)/\0<ys.length:=by
      have hfull:Rep w g v (.sl .full es):=by
       cases hv with
       | base _ _ hv=>exact hv
      rcases hfull.sl_cells e.sz hes with ⟨ad,rfl,rfl⟩ | ⟨b,off,cap,cell,rfl,_,hf,_⟩;exact .inl ⟨.inr ⟨_,rfl⟩,rfl⟩;rcases hnil with hnil | hpos;exact .inl ⟨.inr ⟨_,by rw[hf rfl]⟩,hnil⟩;exact .inr ⟨⟨_,by rw[hf rfl]⟩,hpos⟩
     have hlast:(s.T++ [(es.length,e.sz)]).getD s.T.length (0,0)=(es.length,e.sz):=(by simp[q_a]);have hown:ys.length=0->RepF w g F1 (s.T++ [(es.length,e.sz)]) v (.sl (.own s.T.length) es):=fun h0=> .own _ _ _ hvn (by simp) (by rw[hlast];exact BD _) (fun _=>by rw[hlast,m2];rcases hR with hR | ⟨_,hpos⟩;exact hR;omega);obtain⟨v',w',g',F',r1,r2,r3⟩:=m1.append0 (P:=P) (t:=t) (tx:=tx) (ty:=ty) hu hi hz hzs hvn (by simp) (by rw[e1];exact hlast) (by rw[e1];exact hes) hown (by rw[e1,m2];exact hR) (by rw[e1];exact hs) oG (by rw[e2];exact c3);have hset:(s.T++ [(es.length,e.sz)]).set s.T.length (es.length+ys.length,i.size)=s.T++ [(es.length+ys.length,e.sz)]:=(by rw[e1,CJ _ _ (BD _)];simp);simp only[hset] at r2 r3;exact⟨_,w',g',F',by simp only[Sem.run_bind,r1,Result.andThen_ok,Sem.run_pure],r2,.inl ⟨v',rfl,r3⟩⟩
   cases hq
 cases hq
theorem Z2f {t tx ty:Lt}{x y:PV}{v u:Value}(h:FSRep E a w g F s)(hq:(qx (ti P t) (ti P tx) x y).run s=some (p,s'))(hx:RepF w g F s.T v x)(hy:RepF w g F s.T u y):
 X9 P E a w (do pure (.value (<-Builtin.append_ #[t,tx] ty #[v,u]))) p s':=by
 unfold qx at hq;split at hq;rename_i hT;obtain⟨i',u',hi',hu,hT'⟩:=QU hT;obtain⟨rfl,hei⟩:=ZH (B4 TI.ud hT').symm;split at hq;rename_i hT2;obtain⟨_,_,_,hu2,hT2'⟩:=QU hT2;obtain⟨rfl,_⟩:=ZH (B4 TI.ud hT2').symm;exact yI hu hei h hx (fun _ hs=>G8 hu2 hy.slNo hs) hq;rename_i hT2;obtain⟨_,_,_,hu2,hT2'⟩:=QU hT2;obtain⟨rfl,_⟩:=ZH (B4 TI.ud hT2').symm;have hy':=hy.pre_inv.preNo;refine yI hu hei h hx (fun _ hs=> ?_) hq;exact G8 hu2 hy' hs;rename_i hT2;obtain⟨_,u2,_,hu2,hT2'⟩:=QU hT2;have hud:=B4 TI.ud hT2';simp only at hud;cases u2<;>simp only[XO] at hud<;>(try split at hud)<;>try cases hud
 have:=hy.sc_inv;subst this;refine yI hu hei h hx (fun _ hs=> ?_) hq;exact j0x hu2 hs;cases hq;cases hq
end
section
variable {P:Program} {E:Ent} {a:Act} {w:World} {g:Gh} {F:Fr} {s s':PFS} {p:PV}
theorem U1h {t ty:Lt}{x:PV}{v:Value}(hq:(Hj (ti P t) x).run s=some (p,s'))(hx:RepF w g F s.T v x)(r1:List TypeId)(r2:Ps):s'=s/\Val P (Builtin.len_ (t::r1).toArray ty (v::r2).toArray) w (fun v=>RepF w g F s.T v p):=by
 unfold Hj at hq;have fin: ∀ {n:Nat} {u:TypeDesc},P.underlying t=some u->(match u,v with
  | .string,.string s=>some s.size
  | .slice _,.slice _ n _=>some n
  | _,_=>none)=some n->Val P (Builtin.len_ (t::r1).toArray ty (v::r2).toArray) w (fun v=>RepF w g F s.T v (.sc (.int .i64 n))):=by
  intro n u hu hm;refine⟨.int .i64 n,?_,.base _ _ (.sc _)⟩;cases u<;>cases v<;>simp at hm<;>subst hm<;>simp[Builtin.len_,run_underlying hu,goInt]
 split at hq;rename_i hT;obtain⟨_,u,_,hu,hT'⟩:=QU hT;obtain⟨rfl,_⟩:=ZH (B4 TI.ud hT').symm;cases hq;obtain⟨b,c,rfl⟩:=hx.slNo.len_sl;exact⟨rfl,fin hu rfl⟩;rename_i hT;obtain⟨_,u,_,hu,hT'⟩:=QU hT;obtain⟨rfl,_⟩:=ZH (B4 TI.ud hT').symm;cases hq;obtain⟨b,c,rfl⟩:=hx.pre_inv.len_pre;exact⟨rfl,fin hu rfl⟩;rename_i hT;obtain⟨_,u,_,hu,hT'⟩:=QU hT;obtain⟨rfl,_⟩:=ZH (B4 TI.ud hT').symm;cases hq;obtain⟨b,c,rfl⟩:=hx.len_ms;exact⟨rfl,fin hu rfl⟩;rename_i hT;obtain⟨_,u,_,hu,hT'⟩:=QU hT;obtain⟨rfl,_⟩:=ZH (B4 TI.ud hT').symm;cases hq;obtain⟨b,rfl⟩:=hx.len_mr;exact⟨rfl,fin hu rfl⟩;rename_i hT;obtain⟨_,u,_,hu,hT'⟩:=QU hT;obtain⟨rfl,_⟩:=ZH (B4 TI.ud hT').symm;cases hq;obtain⟨b,rfl⟩:=hx.len_gr;exact⟨rfl,fin hu rfl⟩;rename_i hT;obtain⟨_,u,_,hu,hT'⟩:=QU hT;have hud:=B4 TI.ud hT';simp only at hud;cases u<;>simp only[XO] at hud<;>(try split at hud)<;>try cases hud
 cases hq;have:=hx.sc_inv;subst this;exact⟨rfl,fin hu rfl⟩;cases hq
theorem evs {args:List Operand}(h:FSRep E a w g F s): ∀j,j<(args.map s.ev).length->RepF w g F s.T ((args.map a.eval).getD j undef) ((args.map s.ev).getD j .junk):=fun j hj=>by have hj':j<args.length:=(by simpa using hj);simp only[q_a,B8,BB hj',FT,D9];exact h.ev _
theorem v0b {ys:Lp}(h:ys.all PV.scal=true): ∀i,i<ys.length-> ∃v:Value,ys.getD i .junk= .sc v/\v.oneCell'=true:=fun i hi=>by
 have:=List.all_eq_true.1 h _ (QE ys i .junk hi);generalize ys.getD i .junk=y at this;cases y with
 | sc v=>exact⟨v,rfl,this⟩
 | _=>cases this
theorem k1x {t tx ty:Lt}{x y:PV}{v u:Value}(h:FSRep E a w g F s)(hq:(IV (ti P t) x y).run s=some (p,s'))(hx:RepF w g F s.T v x)(hy:RepF w g F s.T u y):
 X9 P E a w (do pure (.value (<-Builtin.copy_ #[t,tx] ty #[v,u]))) p s':=by
 unfold IV at hq;split at hq;rename_i e _ gl i off n tg ys hT;obtain⟨_,_,_,hu,hT'⟩:=QU hT;obtain⟨rfl,hei⟩:=ZH (B4 TI.ud hT').symm;split at hq;rename_i hc;obtain⟨c1,c2⟩:=hc;obtain⟨inf,_,hi,_,he⟩:=JW hei;have hinfo:(P.info? e.id).map (·.size)=some 1:=by rw[hi];have:e.sz=inf.size:=B4 EI.sz he;simp only[FT,BU];omega
 have hsc:=v0b c2;have hone: ∀m,m<ys.length->(ys.getD m .junk).cells.length=1:=fun m hm=>(by obtain⟨v,e,_⟩:=hsc m hm;rw[e];rfl);have hlt: ∀j,j<(ys.take n).length->(ys.take n).getD j .junk=ys.getD j .junk:=fun j hj=>by rw[BX] at hj;have h1:j<n:=oG;rw[q_a,ED,BC h1,<-q_a]
 obtain⟨vs,hvl,hvr,hrun⟩: ∃vs:List Value,vs.length=(ys.take n).length/\(∀j,j<(ys.take n).length->Rep w g (vs.getD j undef) ((ys.take n).getD j .junk))/\
  ∀b cap,(∀j,j<vs.length->w.frozen? ⟨b,off+j,none⟩=false/\(w.cell? ⟨b,off+j,none⟩).isSome=true)->(Builtin.copy_ #[t,tx] ty #[.slice (some ⟨b,off,none⟩) n cap,u]).run P w= .ok (goInt vs.length) (w.setCells b off vs):=by
  rcases hy.slNo.sl_cells 1 hone with ⟨ad,rfl,rfl⟩ | ⟨b2,off2,cap2,cell,rfl,_,_,_,hcell⟩;exact⟨[],by simp,fun j hj=>by simp at hj,fun b cap _=>run_copy_none w t tx ty e.id (some ⟨b,off,none⟩) ad n cap 0 0 hu hinfo (by simp[Nat.min_def])⟩;refine⟨(List.range (ys.take n).length).map cell,by simp,fun j hj=> ?_,fun b cap hbc=> ?_⟩;have hj':j<ys.length:=(by simp at hj;omega);have:=(hcell j oG).2;rw[F9,FQ] at this;obtain⟨v,e1,_⟩:=hsc j hj';rw[hlt j hj,e1];rw[e1] at this;have e2:((List.range (ys.take n).length).map cell).getD j undef=cell j:=(by rw[q_a,B8,EB hj];rfl);rw[e2];exact this;refine run_copy_cells w t tx ty e.id b off n cap ⟨b2,off2,none⟩ ys.length cap2 _ hu hinfo (by simp[Nat.min_comm]) (fun j v hv=> ?_) (fun j hj=>(hbc j hj).2) (fun j hj=>(hbc j hj).1) (fun v hv=> ?_);have hj:j<(ys.take n).length:=by have:=(E7.1 hv).1;simpa using this
  have hj':j<ys.length:=by simp at hj;omega
  rw[Addr.add_mid,(hcell j oG).1];rw[B8,EB hj] at hv;exact hv;obtain⟨m,hm,rfl⟩:=CF.1 hv;have hm':m<ys.length:=(by simp at hm;omega);obtain⟨v,e1,e2⟩:=hsc m hm';have:=(hcell m oG).2;rw[F9,FQ,e1] at this;rw[show cell m=v from Rep.sc_inv this];exact e2
 cases gl with
 | false=>
  simp only[Req.run,B3,DT] at hq;split at hq;rename_i hle;simp only[BU,CZ] at hq;obtain⟨rfl,rfl⟩:=hq;have hne:s.L.getD i []≠ []:=fun e=>(by rw[e] at hle;simp at hle);obtain⟨cap,rfl⟩: ∃cap,v= .slice (some ⟨F.lmu i,off,none⟩) n cap:=by
   cases hx with
   | base _ _ hx=>cases hx
   | lms i off len cap hi hcap=>exact⟨cap,rfl⟩
  have hr:=hrun (F.lmu i) cap (fun j hj=>by obtain⟨q1,c,q2,_⟩:=h.box i (off+j) oG;exact⟨q1,by simp[q2]⟩);obtain⟨f1,f2⟩:=h.storeL i off vs (ys.take n) hvl hne hle.1 (fun j hj=> .base _ _ (hvr j hj));exact⟨.value (goInt vs.length),_,g,F,by simp only[Sem.run_bind,hr,Result.andThen_ok,Sem.run_pure],f1,.inl ⟨_,rfl,.base _ _ (.junk _)⟩⟩;cases hq
 | true=>
  simp only[Req.run,D4] at hq;split at hq;rename_i hle;simp only[BU,CZ] at hq;obtain⟨rfl,rfl⟩:=hq;have hne:s.st.getD i []≠ []:=fun e=>(by rw[e] at hle;simp at hle);obtain⟨hin,cap,rfl⟩:i<g.n/\ ∃cap,v= .slice (some ⟨g.mu i,off,none⟩) n cap:=by
   cases hx with
   | base _ _ hx=>cases hx with | gms i off len cap hi hcap=>exact⟨hi,cap,rfl⟩
  have hr:=hrun (g.mu i) cap (fun j hj=>by obtain⟨q1,c,q2,_⟩:=h.store.holds i hin (off+j) oG;exact⟨q1,by simp[q2]⟩);have f1:=h.storeG h.ext.le.n i off vs (ys.take n) hvl hin hne hle.1 hvr;exact⟨.value (goInt vs.length),_,g,F,by simp only[Sem.run_bind,hr,Result.andThen_ok,Sem.run_pure],f1,.inl ⟨_,rfl,.base _ _ (.junk _)⟩⟩;cases hq
 cases hq;cases hq
theorem w1t {b:Builtin}{ts:List TypeId}{args:List Operand}{ty:Lt}{cs:Lc}(h:FSRep E a w g F s)(hq:(Yl P b ts (args.map s.ev)).run s=some (p,s')):
 X9 P E a w (builtin b ts.toArray ty cs (args.map a.eval).toArray) p s':=by
 unfold Yl at hq;split at hq;rename_i t r1 x r2 hargs;cases args with
 | nil=>cases hargs
 | cons o os=>
  simp only[DX,FJ] at hargs;obtain⟨rfl,rfl⟩:=hargs;exact Val.does h (U1h hq (h.ev o) r1 (os.map a.eval))
 rename_i t u x y hargs
 match args,hargs,hq with
 | [o1,o2],hargs,hq=>
  simp only[DX,F4,FJ,and_true] at hargs;obtain⟨rfl,rfl⟩:=hargs;exact Z2f h hq (h.ev o1) (h.ev o2)
 | [],hargs,_=>cases hargs
 | [_],hargs,_=>simp at hargs
 | _::_::_::_,hargs,_=>simp at hargs
 rename_i t u x y hargs
 match args,hargs,hq with
 | [o1,o2],hargs,hq=>
  simp only[DX,F4,FJ,and_true] at hargs;obtain⟨rfl,rfl⟩:=hargs;exact k1x h hq (h.ev o1) (h.ev o2)
 | [],hargs,_=>cases hargs
 | [_],hargs,_=>simp at hargs
 | _::_::_::_,hargs,_=>simp at hargs
 rename_i k x k' y hargs
 match args,hargs,hq with
 | [o1,o2],hargs,hq=>
  simp only[DX,F4,FJ,and_true] at hargs;have h1:=h.ev o1;have h2:=h.ev o2;rw[hargs.1] at h1;rw[hargs.2] at h2;by_cases hk:k=k';subst hk;rw[BC rfl] at hq;simp only[Req.run,BU,CZ] at hq;obtain⟨rfl,rfl⟩:=hq;show X9 P E a w (do pure (.value (<-Builtin.min_ _ _ _))) _ _;refine Val.does h ⟨rfl,_,?_,.base _ _ (.sc _)⟩;simp[Builtin.min_,h1.sc_inv,h2.sc_inv,Builtin.min2];rw[BA hk] at hq;cases hq
 | [],hargs,_=>cases hargs
 | [_],hargs,_=>simp at hargs
 | _::_::_::_,hargs,_=>simp at hargs
 rename_i k x k' y hargs
 match args,hargs,hq with
 | [o1,o2],hargs,hq=>
  simp only[DX,F4,FJ,and_true] at hargs;have h1:=h.ev o1;have h2:=h.ev o2;rw[hargs.1] at h1;rw[hargs.2] at h2;by_cases hk:k=k';subst hk;rw[BC rfl] at hq;simp only[Req.run,BU,CZ] at hq;obtain⟨rfl,rfl⟩:=hq;show X9 P E a w (do pure (.value (<-Builtin.max_ _ _ _))) _ _;refine Val.does h ⟨rfl,_,?_,.base _ _ (.sc _)⟩;simp[Builtin.max_,h1.sc_inv,h2.sc_inv,Builtin.max2];rw[BA hk] at hq;cases hq
 | [],hargs,_=>cases hargs
 | [_],hargs,_=>simp at hargs
 | _::_::_::_,hargs,_=>simp at hargs
 cases hq
theorem X1s {c x y:PV}{vc vx vy:Value}(hq:(U6 c x y).run s=some (p,s'))(hc:RepF w g F s.T vc c)(hx:RepF w g F s.T vx x)(hy:RepF w g F s.T vy y):
 s'=s/\ ∃b,vc= .bool b/\RepF w g F s.T (if b then vx else vy) p:=by
 unfold U6 at hq;split at hq;cases hq;have:=hx.sc_inv;subst this;have:=hy.sc_inv;subst this;refine⟨rfl,_,hc.sc_inv,?_⟩;rename_i b _ _;cases b<;>exact .base _ _ (.sc _);cases hq;refine⟨rfl,_,hc.sc_inv,?_⟩;split;exact hx;exact hy;cases hq
theorem V1f {x:PV}{v:Value}(hq:(UE x).run s=some (p,s'))(hx:RepF w g F s.T v x):s'=s/\p=x/\ ∃ad,v= .pointer (some ad):=by unfold UE at hq;split at hq;cases hq;exact⟨rfl,rfl,_,hx.lp_inv⟩;cases hq;exact⟨rfl,rfl,_,hx.gp_inv.1⟩;cases hq;obtain⟨b,base,cf,h,_⟩:=hx.ep_inv.ep_inv;exact⟨rfl,rfl,_,h⟩;cases hq
theorem GP (n:Nat)(cs:Lp):(XI n cs).length=n*cs.length:=by simp[XI]
theorem Oj (cs:Lp)(h0:0<cs.length): ∀(n j:Nat),j<n*cs.length->(XI n cs).getD j .junk=cs.getD (j % cs.length) .junk
 | 0,j,h=>by simp at h
 | n+1,j,h=>by have e:XI (n+1) cs=cs++XI n cs:=(by simp[XI,List.replicate_succ]);rw[e];by_cases hj:j<cs.length;rw[QV _ _ _ _ hj,BJ hj];rw[Zi _ _ _ _ oG,Oj cs h0 n (j-cs.length) (by rw[BQ] at h;omega)];congr 1;rw[<-Nat.mod_eq_sub_mod oG]
theorem W1f {t:Lt}{x y:PV}{v u:Value}(h:FSRep E a w g F s)(hq:(I2 P t x y).run s=some (p,s'))(hx:RepF w g F s.T v x)(hy:RepF w g F s.T u y):
 X9 P E a w (do pure (.value (<-Instr.makeSlice t v u))) p s':=by
 unfold I2 at hq;split at hq;rename_i e _ n c hT;obtain⟨_,_,_,hu,hT'⟩:=QU hT;obtain⟨rfl,hei⟩:=ZH (B4 TI.ud hT').symm;split at hq;rename_i T hTe;split at hq;rename_i zs hz;split at hq;rename_i hc;obtain⟨c1,rfl,c3,c4,c5,c6⟩:=hc;simp only[Req.run,BU,CZ] at hq;obtain⟨rfl,rfl⟩:=hq;have:=hx.sc_inv;subst this;have:=hy.sc_inv;subst this;obtain⟨i,u2,hi,hu2,he⟩:=JW hei;have e1:i.size=e.sz:=(by rw[he]);have e2:i.bytes=e.by_:=(by rw[he]);have hzi:i.zero=some (.agg zs):=by obtain⟨i',_,hi',_,hT2⟩:=QU hTe;rw[hi] at hi';cases hi';rw[hT2] at hz;exact hz
 have hby:(i.bytes:Int)*n<=281474976710656:=by obtain⟨m,rfl⟩:=EE c1;simp only[FN] at c3;have h2:((m*e.by_:Nat):Int)<=((140737488355328:Nat):Int):=Int.ofNat_le.2 c3;rw[CN,Int.mul_comm] at h2;rw[e2];omega
 have hrun:=run_make (P:=P) w t e.id i (.agg zs) hu hi hzi .i64 .i64 n n c1 (Int.le_refl _) hby c4;have hrep:=Ij w g (.agg zs);have hzl:(Xa (.agg zs)).cells.length=zs.size:=(by simp[Xa,PV.cells]);have hzc:Value.cells (.agg zs)=zs:=rfl;rw[hzc] at hrun;have hsz:(madeCells zs (n.toNat*i.size)).size=n.toNat*zs.size:=(by rw[size_madeCells,e1,<-c5,hzl]);have hp:0<zs.size:=(by rw[<-hzl,c5];exact c6);have hget: ∀j,j<n.toNat*zs.size->(madeCells zs (n.toNat*i.size)).getD j undef=zs.getD (j % zs.size) undef:=fun j hj=>by
  have hj':j<n.toNat*i.size:=by rw[e1,<-c5,hzl];exact hj
  rw[q_f];unfold madeCells;rw[Array.getElem?_map,Array.getElem?_range,BC hj'];have hm:j % zs.size<zs.size:=CG _ hp;simp[q_f,hm]
 obtain⟨g',F',f1,f2,f3,f4⟩:=h.box_new e.id (madeCells zs (n.toNat*i.size)) (XI n.toNat (Xa (.agg zs)).cells) (by rw[hsz,GP,hzl]) (fun j hj=>by
  have hj':j<n.toNat*zs.size:=by rw[GP,hzl] at hj;exact hj
  rw[hget j hj',Oj _ oG _ _ (by rw[hzl];exact hj'),hzl];have hm:j % zs.size<zs.size:=CG _ hp;cases hrep with
  | agg vs cs hl hr=>exact .base _ _ (hr _ (by rw[<-hl];exact hm)))
 refine⟨_,_,g',F',by simp only[Sem.run_bind,hrun,Result.andThen_ok,Sem.run_pure];rfl,f1,.inl ⟨_,rfl,?_⟩⟩;rw[<-f2];exact .lms _ _ _ _ f3 (BD _);cases hq;rename_i z _ hz;split at hq;rename_i hc;obtain⟨c1,rfl,c3,c4,c5,c6⟩:=hc;simp only[Req.run,BU,CZ] at hq;obtain⟨rfl,rfl⟩:=hq;have:=hx.sc_inv;subst this;have:=hy.sc_inv;subst this;obtain⟨i,u2,hi,hu2,he⟩:=JW hei;have e1:i.size=1:=(by rw[<-c6,he]);have e2:i.bytes=e.by_:=(by rw[he]);have hzi:i.zero=some z:=by obtain⟨i',_,hi',_,hT2⟩:=QU hTe;rw[hi] at hi';cases hi';rw[hT2] at hz;exact hz
 have hzc:z.cells= #[z]:=by cases z<;>first | rfl | cases c5
 have hby:(i.bytes:Int)*n<=281474976710656:=by obtain⟨m,rfl⟩:=EE c1;simp only[FN] at c3;have h2:((m*e.by_:Nat):Int)<=((140737488355328:Nat):Int):=Int.ofNat_le.2 c3;rw[CN,Int.mul_comm] at h2;rw[e2];omega
 have hrun:=run_make (P:=P) w t e.id i z hu hi hzi .i64 .i64 n n c1 (Int.le_refl _) hby c4;have hsz:(madeCells z.cells (n.toNat*i.size)).size=n.toNat:=(by rw[size_madeCells,e1,EH]);have hget: ∀j,j<n.toNat->(madeCells z.cells (n.toNat*i.size)).getD j undef=z:=fun j hj=>by rw[hzc,e1,EH,q_f];unfold madeCells;rw[Array.getElem?_map,Array.getElem?_range,BC hj];simp[FQ]
 obtain⟨g',F',f1,f2,f3,f4⟩:=h.box_new e.id (madeCells z.cells (n.toNat*i.size)) (List.replicate n.toNat (Xa z)) (by rw[hsz];simp) (fun j hj=>by have hj':j<n.toNat:=(by simpa using hj);rw[hget j hj'];have e3:(List.replicate n.toNat (Xa z)).getD j .junk=Xa z:=(by simp[q_a,hj']);rw[e3];exact .base _ _ (Ij w g z));refine⟨_,_,g',F',by simp only[Sem.run_bind,hrun,Result.andThen_ok,Sem.run_pure];rfl,f1,.inl ⟨_,rfl,?_⟩⟩;rw[<-f2];exact .lms _ _ _ _ f3 (BD _);cases hq;cases hq;cases hq;cases hq
theorem J1q {o:Oper}(h:FSRep E a w g F s)(hq:(req P o.op o.type s.ev).run s=some (p,s')):X9 P E a w (execOp a.eval o) p s':=by
 unfold req at hq;unfold execOp;split at hq;simp only[Req.run,BU,CZ] at hq;obtain⟨rfl,rfl⟩:=hq;rename_i x heq;simp only[heq];exact Val.does' h (h.ev x);simp only[Req.run,BU,CZ] at hq;obtain⟨rfl,rfl⟩:=hq;rename_i x heq;simp only[heq];exact Val.does' h (h.ev x);rename_i c x y heq;simp only[heq];obtain⟨rfl,b,hb,hr⟩:=X1s hq (h.ev c) (h.ev x) (h.ev y);refine⟨_,w,g,F,by simp only[hb,asBool,Sem.run_bind,Sem.run_pure,Result.andThen_ok],h,.inl ⟨_,rfl,hr⟩⟩;rename_i t heq;simp only[heq];exact Z2j h hq;rename_i t x heq;simp only[heq];exact y1d h hq (h.ev x);rename_i t ps heq;simp only[heq];have e:ps.map (fun(x:Nat×Operand)=>(x.1,a.eval x.2))=(ps.toList.map fun x=>(x.1,a.eval x.2)).toArray:=by apply Array.ext';simp
 have:=Val.does h (w1v (w:=w) (g:=g) (F:=F) (T:=s.T) (ps:=ps.toList.map fun x=>(x.1,a.eval x.2)) hq (by simp) (fun j hj=>by have hj':j<ps.toList.length:=(by simpa using hj);rw[Jb _ _ _ _ (0,.tmp 0) hj',Jb _ _ _ _ (0,.tmp 0) hj'];exact h.ev _));rw[<-e] at this;exact this;rename_i t len ps heq;simp only[heq];have e:ps.map (fun(x:Nat×Operand)=>(x.1,a.eval x.2))=(ps.toList.map fun x=>(x.1,a.eval x.2)).toArray:=(by apply Array.ext';simp);have:=w1u (ps:=ps.toList.map fun x=>(x.1,a.eval x.2)) h hq (by simp) (fun j hj=>by have hj':j<ps.toList.length:=(by simpa using hj);rw[Jb _ _ _ _ (0,.tmp 0) hj',Jb _ _ _ _ (0,.tmp 0) hj'];exact h.ev _);rw[<-e] at this;exact this;rename_i t x heq;simp only[heq];exact Val.does h (U1c h hq (h.ev x));rename_i t x y heq;simp only[heq];exact j0b h hq (h.ev x) (h.ev y);rename_i x heq;simp only[heq];obtain⟨rfl,rfl,ad,hv⟩:=V1f hq (h.ev x);have hr:=h.ev x;rw[hv] at hr;simp only[hv];exact Val.does' h hr;rename_i op t x y ty heq;simp only[heq];exact Val.does h (y1x x y hq (h.ev x) (h.ev y));rename_i op t x heq;simp only[heq];exact Val.does h (q0f hq (h.ev x));rename_i sT d x heq;simp only[heq];exact Val.does h (k1y hq (h.ev x));rename_i t x f heq;simp only[heq];exact Val.does h (z1w hq (h.ev x));rename_i t x f heq;simp only[heq];exact Val.does h (z1u hq (h.ev x));rename_i t x i heq;simp only[heq];exact Val.does h (H1e hq (h.ev x) (h.ev i));rename_i t x i heq;simp only[heq];exact Val.does h (H1d hq (h.ev x) (h.ev i));rename_i t x lo hi mx heq;simp only[heq];have ho: ∀o:Option Operand,OptRep w g F s.T (o.map a.eval) (o.map s.ev):=fun o=>by
  cases o with
  | none=>trivial
  | some o=>exact h.ev o
 exact Val.does h (k0f hq (h.ev x) (ho lo) (ho hi) (ho mx));rename_i f bs cs heq;simp only[heq];cases hq;refine⟨_,w,g,F,rfl,h,.inl ⟨_,rfl,.fn f _ _ _ _ (by simp) (by simp) (fun j hj=> ?_) (fun j hj=> ?_)⟩⟩;have:=evs h (args:=bs.toList) j hj;rw[<-Vh] at this;simpa using this;have:=evs h (args:=cs.toList) j hj;rw[<-Vh] at this;simpa using this;rename_i t l c heq;simp only[heq];exact W1f h hq (h.ev l) (h.ev c);rename_i x i heq;simp only[heq];split at hq;rename_i vs hx;split at hq;rename_i hi;cases hq;have:=h.ev x;rw[hx] at this;obtain⟨us,hu,hl,hr⟩:=this.tup_inv;refine Val.does h ⟨rfl,us.getD i undef,?_,hr i hi⟩;have hi':i<us.size:=oG;simp[hu,Instr.extract,CW hi',q_f];cases hq;cases hq;rename_i b args ts heq;simp only[heq];have:=w1t (ty:=o.type) (cs:=args.map fun | .const _=>true | _=>false) h hq;obtain⟨nx,w',g',F',r1,r2,r3⟩:=this;refine⟨nx,w',g',F',?_,r2,r3⟩;simp only[resolve,invoke,Sem.run_bind,Sem.run_pure,Result.andThen_ok];have e:args.map a.eval=(args.toList.map a.eval).toArray:=(by apply Array.ext';simp);rw[e];exact r1;cases hq
end
def QH (P:Program)(f:FuncId):Bool:=
 match P.funcs[f]? with
 | some fn=>fn.body.isSome&& !(fn.name== "runtime.NumGoroutine")
 | none=>false
def ExtCalls (P:Program)(f:FuncId)(as:List PV)(st:Qc)(Q:PV->Qc->Prop):Prop:=
 ∃r,(∀sz es,r≠ .sl (.fresh sz) es)/\(∀w g (vs:Array Value),WI w g vs as-> ∃v,(callFunc f vs).run P w= .ok (.value v) w/\Rep w g v r)/\Q r st
theorem ExtCalls.mono {P f as st}{Q Q':PV->Qc->Prop}(h:ExtCalls P f as st Q)(hq: ∀r st,Q r st->Q' r st):ExtCalls P f as st Q':=by obtain⟨r,h1,h2,h3⟩:=h;exact⟨r,h1,h2,hq _ _ h3⟩
def CallsOr (P:Program)(f:FuncId)(as:List PV)(st:Qc)(Q:PV->Qc->Prop):Prop:=if QH P f=true then PCalls P f as st Q else ExtCalls P f as st Q
theorem CallsOr.mono {P f as st}{Q Q':PV->Qc->Prop}(h:CallsOr P f as st Q)(hq: ∀r st,Q r st->Q' r st):CallsOr P f as st Q':=by unfold CallsOr at h⊢;split;rename_i hc;rw[BC hc] at h;exact h.mono hq;rename_i hc;rw[BA hc] at h;exact h.mono hq
def PFS.recv (s:PFS)(d:Option Tmp)(r:PV)(st:Qc):PFS:=
 match r with
 | .sl (.fresh sz) es=>({ s with st:=st,T:=s.T++ [(es.length,sz)] } :PFS).put d (.sl (.own s.T.length) es)
 | r=>({ s with st:=st } :PFS).put d r
def JZ (op:Op)(r:Operand->PV):Option (FuncId×List PV):=
 match op with
 | .call { callee:= .value f,args,.. } =>
  match r f with
  | .fn (.func f) bs cs=>some (f,bs++args.toList.map r++cs)
  | _=>none
 | _=>none
def KB (P:Program)(o:Oper)(s:PFS):Option PFS:=
 match (req P o.op o.type s.ev).run s with
 | some (p,s')=>some (s'.put o.dst p)
 | none=>none
def gv (p:PV)(want:Bool):Option Bool:=
 match p with
 | .sc (.bool b)=>some b
 | .tup []=>some (!want)
 | _=>none
theorem Wz (w:Lw)(g:Gh):Rep w g undef (.tup []):= .tup #[] [] rfl (fun j hj=>by simp at hj)
def ZA (ops:List Oper)(s:PFS)(j:Nat)(want:Bool):Option Bool:=
 match ops[j]? with
 | some o=>match o.dst with
  | some d=>gv (s.pa.getD d .junk) want
  | none=>none
 | none=>none
def JR (P:Program)(op:Op)(r:Operand->PV):Option (Bool×List PV):=
 match op with
 | .binOp .eql t x (.const (.slice none 0 0)) _=>match ti P t,r x with
  | some ⟨_,_,.slice _,_⟩,.sl _ es=>some (false,es)
  | _,_=>none
 | .binOp .neq t x (.const (.slice none 0 0)) _=>match ti P t,r x with
  | some ⟨_,_,.slice _,_⟩,.sl _ es=>some (true,es)
  | _,_=>none
 | _=>none
def PO (P:Program)(o:Oper)(K:PFS->Prop)(s:PFS):Prop:=
 match JR P o.op s.ev with
 | some (ne,es)=> ∀b:Bool,(b=true->es= [])->K (s.put o.dst (.sc (.bool (b !=ne))))
 | none=>
 match JZ o.op s.ev with
 | some (f,as)=>as.all PV.closed2=true/\CallsOr P f (as.map PV.forget2) s.st (fun r st=>K (s.recv o.dst r st))
 | none=>match KB P o s with
  | some s'=>K s'
  | none=>False
def PLc (P:Program)(ops:List Oper):List Oper->(PFS->Prop)->PFS->Prop
 | [],K,s=>K s
 | o::rest,K,s=>
  match o.guard with
  | none=>PO P o (PLc P ops rest K) s
  | some (j,want)=>
   match ZA ops s j want with
   | some b=>if b=want then PO P o (PLc P ops rest K) s else PLc P ops rest K (s.put o.dst (.tup []))
   | none=>False
section
variable {P:Program} {E:Ent} {a:Act} {w:World} {g:Gh} {F:Fr} {s:PFS}
theorem jW {as:Lp}{vs:Lb}(hl:vs.size=as.length)(hr: ∀j,j<as.length->RepF w g F s.T (vs.getD j undef) (as.getD j .junk))(hc:as.all PV.closed2=true):WI w g vs (as.map PV.forget2):=by refine⟨by simpa using hl,fun j hj=> ?_⟩;have hj':j<as.length:=(by simpa using hj);rw[Jb _ _ _ _ .junk hj'];exact(hr j hj').forget2 (List.all_eq_true.1 hc _ (QE _ _ _ hj'))
theorem FSRep.recv {w' g' st}{v:Value}{r:PV}(h:FSRep E a w g F s)(hx:Ext w g w' g')(hs:StoreOK w' g' st)(hr:RepRes w.heap.size w' g' v r)(d:Po):
 ∃F',FSRep E (a.put d v) w' g' F' (s.recv d r st):=by
 obtain⟨h1,h2⟩:=h.called hx hs;by_cases hf: ∃sz es,r= .sl (.fresh sz) es;obtain⟨sz,es,rfl⟩:=hf;obtain⟨hrep,hfr⟩:=hr;have hfin: ∀tb,(∀b,tb=some b->E.w.heap.size<=b/\b<w'.heap.size/\(∃c e,w'.heap[b]?=some (.cells c e (0,0)))/\(∀j,j<g'.n->g'.mu j≠b)/\(∀i,s.L.getD i []≠ []->F.lmu i≠b)/\ ∀k,k<s.T.length->F.tb k≠some b)->
  Right w' g' tb sz v es-> ∃F',FSRep E (a.put d v) w' g' F' (s.recv d (.sl (.fresh sz) es) st):=by
  intro tb htb hR;obtain⟨F',m1,m2,m3,m4,m5⟩:=h1.mint es.length sz tb htb;have hlast:(s.T++ [(es.length,sz)]).getD s.T.length (0,0)=(es.length,sz):=(by simp[q_a]);refine⟨F',m1.put d (p:= .sl (.own s.T.length) es) (.own _ _ _ hrep (by simp) ?_ fun _=> ?_)⟩;simp only;rw[hlast];exact BD _;simp only;rw[hlast,m2];exact hR
 rcases hfr with ⟨b,hR,b1,b2,b3,b4⟩ | hR;refine hfin (some b) (fun b' hb=> ?_) hR;cases hb;exact⟨B7 h.ext.size b1,b2,b4,b3,fun i hi e=>by have:=(h.frame.lo i hi).2.1;omega,fun k hk e=>by have:=(h.frame.tlo k b hk e).2.1;omega⟩;exact hfin none (fun b hb=>by cases hb) hR;have e:s.recv d r st=({ s with st:=st } :PFS).put d r:=by unfold PFS.recv;split;exact absurd ⟨_,_,rfl⟩ hf;rfl
 rw[e];refine⟨F,h1.put d (.base _ _ ?_)⟩;unfold RepRes at hr;split at hr;exact absurd ⟨_,_,rfl⟩ hf;exact hr
theorem V0h {o:Oper}{f:FuncId}{as:Lp}(h:FSRep E a w g F s)(hc:JZ o.op s.ev=some (f,as)):
 ∃vs:Array Value,vs.size=as.length/\(∀j,j<as.length->RepF w g F s.T (vs.getD j undef) (as.getD j .junk))/\(execOp a.eval o).run P w=(callFunc f vs).run P w:=by
 unfold JZ at hc;split at hc;rename_i fo args ts heq;split at hc;rename_i f' bs cs hfo;simp only[BU,CZ] at hc;obtain⟨rfl,rfl⟩:=hc;have hv:=h.ev fo;rw[hfo] at hv;obtain⟨us,ws,hval,hk,hl,h0,h1⟩: ∃us ws:Array Value,a.eval fo= .func (.func f') us ws/\us.size=bs.length/\ws.size=cs.length/\(∀j,j<bs.length->RepF w g F s.T (us.getD j undef) (bs.getD j .junk))/\ ∀j,j<cs.length->RepF w g F s.T (ws.getD j undef) (cs.getD j .junk):=by
  generalize a.eval fo=v at hv;cases hv with
  | base _ _ hv=>cases hv with | fn f us vs bs cs hk hl h0 h=>exact⟨us,vs,rfl,hk,hl,fun j hj=> .base _ _ (h0 j hj),fun j hj=> .base _ _ (h j hj)⟩
  | fn f us vs bs cs hk hl h0 h=>exact⟨us,vs,rfl,hk,hl,h0,h⟩
 have hm:=evs h (args:=args.toList);simp only[BR] at hm;refine⟨us++args.map a.eval++ws,by simp[hk,hl],fun j hj=> ?_,?_⟩;have gl: ∀(x y:Lb) (j:Nat),j<x.size->(x++y).getD j undef=x.getD j undef:=fun x y j hj=>Array.getD_append_left' x y j undef hj;have gr: ∀(x y:Lb) (j:Nat),x.size<=j->(x++y).getD j undef=y.getD (j-x.size) undef:=fun x y j hj=>(by rw[q_f,Array.getElem?_append_right hj,<-q_f]);by_cases j1:j<bs.length;rw[gl _ _ _ (by simp;omega),gl _ _ _ oG,QV _ _ _ _ (by simp;omega),QV _ _ _ _ j1];exact h0 j j1;by_cases j2:j<bs.length+args.size;rw[gl _ _ _ (by simp;omega),gr _ _ _ oG,QV _ _ _ _ (by simp;omega),Zi _ _ _ _ oG,hk];have:=hm (j-bs.length) (by simp;omega);rw[<-Vh] at this;simpa using this;rw[gr _ _ _ (by simp;omega),Zi _ _ _ _ (by simp;omega)];have e1:(us++args.map a.eval).size=bs.length+args.size:=(by simp[hk]);have e2:(bs++args.toList.map s.ev).length=bs.length+args.size:=(by simp);rw[e1,e2];refine h1 _ ?_;have e3:(bs++args.toList.map s.ev++cs).length=bs.length+args.size+cs.length:=(by simp;omega);omega;simp only[execOp,heq,resolve,Deferred.ofValue,hval,invoke,Sem.run_bind,Sem.run_pure,Result.andThen_ok];cases hc;cases hc
theorem x1d {o:Oper}{f:FuncId}{as:Lp}(h:FSRep E a w g F s)(hc:JZ o.op s.ev=some (f,as))(hf:QH P f=true):
 ∃vs:Array Value,vs.size=as.length/\(∀j,j<as.length->RepF w g F s.T (vs.getD j undef) (as.getD j .junk))/\(execOp a.eval o).run P w= .ok (.enter f vs) w:=by
 obtain⟨vs,v1,v2,v3⟩:=V0h (P:=P) h hc;refine⟨vs,v1,v2,v3.trans ?_⟩;unfold QH at hf;split at hf;rename_i fn hfn;simp only[q_i,EK,Option.isSome_iff_exists] at hf;obtain⟨⟨c,hc⟩,hn⟩:=hf;have hb:fn.body.isNone=false:=(by simp[hc]);simp only[callFunc,Sem.run_bind,Sem.run_pure,Result.andThen_ok,run_program,hfn,hn,hb,B3,DT,Sem.run_ite];cases hf
theorem V1g {o:Oper}{ne:Bool}{es:Lp}(h:FSRep E a w g F s)(hc:JR P o.op s.ev=some (ne,es)): ∃b:Bool,(b=true->es= [])/\(execOp a.eval o).run P w= .ok (.value (.bool (b !=ne))) w:=by
 unfold JR at hc;split at hc;rename_i t x ty heq;split at hc;rename_i hT hx;simp only[BU,CZ] at hc;obtain⟨rfl,rfl⟩:=hc;obtain⟨_,_,_,hu,hT'⟩:=QU hT;obtain⟨rfl,_⟩:=ZH (B4 TI.ud hT').symm;have hv:=h.ev x;rw[hx] at hv;have hv:=hv.slNo;have key: ∀ad n c,a.eval x= .slice ad n c->(execOp a.eval o).run P w= .ok (.value (.bool ad.isNone)) w:=fun ad n c e=>by
  have he:(Op.equal t (.slice ad n c) (.slice none 0 0)).run P w= .ok ad.isNone w:=by
   have: ∀d,(Op.equalIn (d+1) t (.slice ad n c) (.slice none 0 0)).run P w= .ok ad.isNone w:=fun d=>by cases ad<;>simp[Op.equalIn,run_underlying hu]
   exact this 9999
  have hb:(binOp .eql t (.slice ad n c) (.slice none 0 0)).run P w= .ok (.bool (ad.isNone)) w:=by show((do pure (Value.bool ((<-Op.equal t (.slice ad n c) (.slice none 0 0)))):Sem Value)).run P w=_;simp only[Sem.run_bind,he,Result.andThen_ok,Sem.run_pure]
  have ec:a.eval (.const (.slice none 0 0))= .slice none 0 0:=rfl;simp only[execOp,heq,e,ec,Sem.run_bind,wL (P:=P) .eql t x (.const (.slice none 0 0)) (.slice ad n c) (.slice none 0 0) w (by simp) (by simp),Result.andThen_ok,hb,Sem.run_pure]
 cases hv':a.eval x with
 | slice ad n c=>
  refine⟨ad.isNone,fun hb=> ?_,?_⟩;rw[hv'] at hv;cases ad with
  | none=>cases hv with | nil=>rfl
  | some ad=>cases hb
  rw[key ad n c hv'];simp
 | _=>rw[hv'] at hv;obtain⟨_,_,e⟩:=hv.len_sl;cases e
 cases hc;rename_i t x ty heq;split at hc;rename_i hT hx;simp only[BU,CZ] at hc;obtain⟨rfl,rfl⟩:=hc;obtain⟨_,_,_,hu,hT'⟩:=QU hT;obtain⟨rfl,_⟩:=ZH (B4 TI.ud hT').symm;have hv:=h.ev x;rw[hx] at hv;have hv:=hv.slNo;have key: ∀ad n c,a.eval x= .slice ad n c->(execOp a.eval o).run P w= .ok (.value (.bool (!ad.isNone))) w:=fun ad n c e=>by
  have he:(Op.equal t (.slice ad n c) (.slice none 0 0)).run P w= .ok ad.isNone w:=by
   have: ∀d,(Op.equalIn (d+1) t (.slice ad n c) (.slice none 0 0)).run P w= .ok ad.isNone w:=fun d=>by cases ad<;>simp[Op.equalIn,run_underlying hu]
   exact this 9999
  have hb:(binOp .neq t (.slice ad n c) (.slice none 0 0)).run P w= .ok (.bool (!ad.isNone)) w:=by show((do pure (Value.bool (!(<-Op.equal t (.slice ad n c) (.slice none 0 0)))):Sem Value)).run P w=_;simp only[Sem.run_bind,he,Result.andThen_ok,Sem.run_pure]
  have ec:a.eval (.const (.slice none 0 0))= .slice none 0 0:=rfl;simp only[execOp,heq,e,ec,Sem.run_bind,wL (P:=P) .neq t x (.const (.slice none 0 0)) (.slice ad n c) (.slice none 0 0) w (by simp) (by simp),Result.andThen_ok,hb,Sem.run_pure]
 cases hv':a.eval x with
 | slice ad n c=>
  refine⟨ad.isNone,fun hb=> ?_,?_⟩;rw[hv'] at hv;cases ad with
  | none=>cases hv with | nil=>rfl
  | some ad=>cases hb
  rw[key ad n c hv'];simp
 | _=>rw[hv'] at hv;obtain⟨_,_,e⟩:=hv.len_sl;cases e
 cases hc;cases hc
theorem X2f {o:Oper}{K:Pf}(h:FSRep E a w g F s)(hp:PO P o K s){next:Act->World->Prop}{Q:Pt}
 (hn: ∀a' w' g' F' s',FSRep E a' w' g' F' s'->K s'->next a' w'):o.wp P a w next Q:=by
 unfold PO at hp;split at hp;rename_i ne es hc;obtain⟨b,hb,hrun⟩:=V1g h hc;unfold Oper.wp;rw[hrun];exact hn _ _ _ _ _ (h.put o.dst (.base _ _ (.sc _))) (hp b hb);split at hp
 . rename_i f as hc;obtain⟨h1,h3⟩:=hp;unfold CallsOr at h3;split at h3;rotate_left;obtain⟨r,r1,r2,hK⟩:=h3;obtain⟨vs,v1,v2,v3⟩:=V0h (P:=P) h hc;obtain⟨v,hv,hrep⟩:=r2 w g vs (jW v1 v2 h1);unfold Oper.wp;rw[v3,hv];have e:s.recv o.dst r s.st=s.put o.dst r:=by unfold PFS.recv;split;exact absurd rfl (r1 _ _);rfl
   rw[e] at hK;exact hn _ _ _ _ _ (h.put o.dst (.base _ _ hrep)) hK;rename_i h2;obtain⟨vs,v1,v2,v3⟩:=x1d h hc h2;unfold Oper.wp;rw[v3,Oper.upon_enter];refine(h3 w g vs h.store (jW v1 v2 h1)).mono ?_;rintro e w' ⟨v,g',r,st,rfl,hx,hs,hr,hK⟩;obtain⟨F',hf⟩:=h.recv hx hs hr o.dst;exact hn _ _ _ _ _ hf hK
 split at hp;rename_i s' hs;unfold KB at hs;split at hs;rename_i p s1 hq;cases hs;obtain⟨nx,w',g',F',r1,r2,r3⟩:=J1q h hq;unfold Oper.wp;rw[r1];rcases r3 with ⟨v,rfl,hv⟩ | ⟨rfl,rfl⟩;exact hn _ _ _ _ _ (r2.put o.dst hv) hp;exact hn _ _ _ _ _ (r2.put o.dst (.base _ _ (.junk _))) hp;cases hs;exact hp.elim
theorem X2g {o:Oper}{K:Pf}{s:PFS}(hp:PO P o K s): ∀c,o.op≠ .defer c:=by intro c hc;unfold PO at hp;rw[hc] at hp;simp only[JR,JZ] at hp;unfold KB at hp;rw[hc] at hp;simp[req,Req.run] at hp
theorem Jt {o:Oper}{K:Pf}(h:FSRep E a w g F s)(hp:PO P o K s){next:Act->World->Prop}{Q:Pt}
 (hn: ∀a' w' g' F' s',FSRep E a' w' g' F' s'->K s'->next a' w'):o.wpIn (fen E.rd) 0 P a w next Q:=Gp E.rd (X2g hp) (X2f h hp hn)
theorem RepF.tup_nil {v:Value}{T:Lv}(h:RepF w g F T v (.tup [])):v= .tuple #[]:=by obtain⟨vs,rfl,hl,_⟩:=h.tup_inv;have:vs= #[]:=(by simpa using hl);rw[this]
theorem W9 {ops:La}(h:FSRep E a w g F s){j:Nat}{b want:Bool}(hg:ZA ops.toList s j want=some b):(yielded ops a.tmps j==some want)=(b==want):=by
 unfold ZA at hg;split at hg;rename_i o ho;split at hg;rename_i d hd;have ho':ops[j]?=some o:=(by simpa using ho);unfold gv at hg;split at hg;rename_i b' hb;cases hg;have hlt:d<s.pa.length:=by apply ES;intro hle;rw[q_a,C2 hle] at hb;cases hb
 have:=h.tmps d hlt;rw[hb] at this;have hv:=this.sc_inv;have hsz:d<a.tmps.size:=(by rw[h.len];exact hlt);rw[q_f,CW hsz] at hv;simp only[D9] at hv;have hy:yielded ops a.tmps j=some b:=(by simp[yielded,ho',hd,CW hsz,hv]);rw[hy];rfl;rename_i hb;cases hg;have hlt:d<s.pa.length:=by apply ES;intro hle;rw[q_a,C2 hle] at hb;cases hb
 have:=h.tmps d hlt;rw[hb] at this;have hv:=this.tup_nil;have hsz:d<a.tmps.size:=(by rw[h.len];exact hlt);rw[q_f,CW hsz] at hv;simp only[D9] at hv;have hy:yielded ops a.tmps j=none:=(by simp[yielded,ho',hd,CW hsz,hv]);rw[hy];cases want<;>rfl;cases hg;cases hg;cases hg
theorem YT {ops:La}{Q:Pt}{K:Pf}(hK: ∀a' w' g' F' s',FSRep E a' w' g' F' s'->K s'->Q .normal a' w'): ∀(rest:Lo) (a:Act) (w:Lw) (g:Gh) (F:Fr) (s:PFS),FSRep E a w g F s->PLc P ops.toList rest K s->wpListIn (fen E.rd) 0 P ops Q rest a w
 | [],a,w,g,F,s,h,hp=>hK a w g F s h hp
 | o::rest,a,w,g,F,s,h,hp=>by have ih:=YT (ops:=ops) hK rest;unfold PLc at hp;unfold wpListIn;split at hp;rename_i hg;rw[BC (by simp[Region.wanted,hg])];exact Jt h hp fun a' w' g' F' s' hr hk=>ih a' w' g' F' s' hr hk;rename_i j want hg;split at hp;rename_i b hb;have hy:=W9 h hb;split at hp;rename_i he;subst he;rw[BC (by unfold Region.wanted;rw[hg];simp only;rw[hy];simp)];exact Jt h hp fun a' w' g' F' s' hr hk=>ih a' w' g' F' s' hr hk;rename_i he;rw[BA (by unfold Region.wanted;rw[hg];simp only;rw[hy];simp[he])];exact⟨V7,ih _ w g F _ (h.put o.dst (.base _ _ (Wz _ _))) hp⟩;exact hp.elim
theorem Q1v {id:Nat}{ops:La}{Q:Pe}(h:PLc P ops.toList ops.toList (Q .normal) s):PWP P E (.region id ops false) Q s:=fun a w g F hr=>
 wpIn_region_list (YT (fun a' w' g' F' s' hr' hk=>⟨g',F',s',hr',hk⟩) ops.toList a w g F s hr h)
end
end Go.Pv
end
