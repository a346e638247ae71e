/- Parts of the walk: N92, N93, N96. -/
import Derived.Test.YtofoadghajnglaaGreatDoorZCC
import Derived.Test.YtofoadghajnglaaGreatDoorZCB
import Derived.Test.YtofoadghajnglaaGreatDoorZAR
import Derived.Test.YtofoadghajnglaaGreatDoorZBV
import Derived.Test.YtofoadghajnglaaGreatDoorZBG
import Derived.Test.YtofoadghajnglaaGreatDoorZBI
set_option linter.unusedVariables false
set_option linter.unusedSimpArgs false
section
/-flow.Series$1:the next coefficient. -/
set_option maxRecDepth 100000
namespace Go.Pv
open Go.Proofs
theorem k2b (n:Nat) (hn:n<12):(mkX false [UInt64.ofNat n] 0).1=ptW n:=by
 unfold mkX ptW
 have:valW [UInt64.ofNat n]=n:=by
  have:(UInt64.ofNat n).toNat=n:=by simp;omega
  simp [valW,nW,val,this]
 rw [this]
theorem Z2m (f:List (List Mn)) (xs:List (List Ivl)) (i k:Nat) (p:Int) (st:Q0e) (hi:i<f.length) (hk:k≤10) (wf:wF f) (wx:wXs xs):
 PCalls Tryz.prog 171 [.sc (.int .i64 i),.sc (.int .i64 k),.ep [.sl .no (X0d f)] 0,.ep [.sl .no (encM xs)] 0,.ep [.sc (.int .i64 p)] 0] st
 (fun r st'=>r= .tup [.agg (encI (j0z f xs k p i).1),.sc (.int .i64 (j0z f xs k p i).2)]∧st'=st):=by
 refine Q0b none Tryz.func171 rfl fun E=>Q0a ?_
 have gF:=k0l f i hi
 have wk:IntKind.i64.wrap ((k:Int)+1)=((k+1:Nat):Int):=by rw [Q0k _ (by omega) (by omega)];omega
 simp -dsimp only [go_sem]
 refine Q0p Z0g 35 (.step 0 [] (.step 1 [] (.step 2 [] (.step 3 [] (.step 4 [] (.step 5 [] (.step 6 [] (.alt (.step 7 [] (.step 8 [] (.step 9 [] (.step 10 [] (.step 11 [0,3,4,6] (.step 12 [] (.step 13 [] (.done)))))))) (.step 11 [0,3,4,6] (.step 7 [] (.step 8 [] (.step 9 [] (.step 10 [] (.step 12 [] (.step 13 [] (.done)))))))))))))))) (by decide+kernel) (by simp) ?_
 simp -dsimp only [go_sem,gF]
 refine⟨⟨by omega,by omega⟩,And.intro ?_ ?_⟩
 all_goals
  refine(Z2l (f.getD i []) xs k p _ (wf.2 i hi) wx).mono ?_
  rintro r st ⟨rfl,rfl⟩
  have hw:wI (H0q (f.getD i []) xs k p).1:=by
   unfold H0q
   split
   · exact k2g _
   · exact Y0k
  unfold j0z
  generalize H0q (f.getD i []) xs k p=c at hw⊢
  by_cases hc:c.2=0
  · have ec:(c.2 !=0)=false:=by rw [hc];rfl
    rw [if_neg (by rw [hc];decide)]
    simp -dsimp only [go_sem,ec]
    refine Q0p Z0g 35 (.step 0 [] (.step 1 [] (.step 2 [] (.step 5 [] (.step 3 [0,5] (.step 4 [0,5] (.step 6 [] (.step 7 [] (.step 8 [] (.step 9 [] (.step 10 [] (.done)))))))))))) (by decide+kernel) (by simp) ?_
    simp -dsimp only [go_sem,wk]
    refine(j0y (k+1) _ (by omega)).mono ?_
    rintro r st ⟨rfl,rfl⟩
    rw [k2b (k+1) (by omega)]
    obtain⟨p1,p2,p3,p4⟩:=x1w (k+1) (by omega) (by omega)
    simp -dsimp only [go_sem]
    refine(J1p (ptW (k+1)) _ (V0m p1)).mono ?_
    rintro r st ⟨rfl,rfl⟩
    simp -dsimp only [go_sem]
    refine(K2n c.1 (ptW (k+1)) p _ hw p1 p2 p3 p4).mono ?_
    rintro r st ⟨rfl,rfl⟩
    simp -dsimp only [go_sem]
  · have ec:(c.2 !=0)=true:=bne_iff_ne.2 hc
    rw [if_pos hc]
    simp -dsimp only [go_sem,ec]
    rfl
end Go.Pv
end
section
/-flow.Series:a solution's coefficients. -/
set_option maxRecDepth 100000
namespace Go.Pv
open Go.Proofs
def Z0c (tag:Nat→Tag) (rows:List (List Ivl)):List PV:=(List.range rows.length).map fun j=> .sl (tag j) (Q0s (rows.getD j []))
theorem Z0t (tag:Nat→Tag) (rows:List (List Ivl)):(Z0c tag rows).length=rows.length:=by simp [Z0c]
theorem w0h (tag:Nat→Tag) (rows:List (List Ivl)) (R:List PV) (j:Nat) (h:j<rows.length):(Z0c tag rows++R).getD j .junk= .sl (tag j) (Q0s (rows.getD j [])):=by
 rw [Q0j _ _ _ _ (by rw [Z0t];exact h)]
 simp [Z0c,List.getD_eq_getElem?_getD,h]
theorem K1i {tag tag':Nat→Tag} {rows:List (List Ivl)} (h: ∀j,j<rows.length→tag j=tag' j):Z0c tag rows=Z0c tag' rows:=by
 unfold Z0c
 refine List.map_congr_left fun j hj=> ?_
 rw [h j (List.mem_range.1 hj)]
theorem z1q (tag:Nat→Tag) (rows:List (List Ivl)) (R:List PV) (i:Nat) (hi:i<rows.length) (t:Tag) (r:List Ivl):
 over (Z0c tag rows++R) i [.sl t (Q0s r)]=Z0c (fun j=>if j=i then t else tag j) (rows.set i r)++R:=by
 have hl:=Z0t tag rows
 have h1:over (Z0c tag rows++R) i [.sl t (Q0s r)]=(Z0c tag rows++R).set i (.sl t (Q0s r)):=by
  unfold over
  rw [List.set_eq_take_append_cons_drop,if_pos (by rw [List.length_append];omega)]
  simp
 rw [h1,List.set_append_left _ _ (by omega)]
 congr 1
 apply List.ext_getElem
 · simp [Z0c]
 · intro j h1 h2
   by_cases e:i=j
   · subst e
     simp [Z0c,List.getD_eq_getElem?_getD,hi]
   · have e': ¬j=i:=fun h=>e h.symm
     simp [Z0c,List.getElem_set,e,e',List.getD_eq_getElem?_getD,List.getElem?_set_ne e]
theorem z1p (tag:Nat→Tag) (rows:List (List Ivl)) (r:List Ivl):Z0c tag (rows++ [r])=Z0c tag rows++ [.sl (tag rows.length) (Q0s r)]:=by
 unfold Z0c
 rw [List.length_append,List.length_singleton,List.range_succ,List.map_append]
 congr 1
 · refine List.map_congr_left fun j hj=> ?_
   have:=List.mem_range.1 hj
   simp [List.getD_eq_getElem?_getD,List.getElem?_append_left this]
 · simp [List.getD_eq_getElem?_getD]
theorem k0q (tag:Nat→Tag) (rows:List (List Ivl)):(Z0c tag rows).map PV.forget1=encM rows:=by
 unfold Z0c encM
 apply List.ext_getElem
 · simp
 · intro j h1 h2
   simp at h1
   simp [PV.forget1,List.getD_eq_getElem?_getD,h1]
theorem K1h (tag:Nat→Tag) (rows:List (List Ivl)) (a b:Nat) (h: ∀j,j<rows.length→ ∀k,tag j= .own k→k<b):(Z0c tag rows).all (PV.lim a b)=true:=by
 rw [List.all_eq_true]
 intro p hp
 simp only [Z0c,List.mem_map,List.mem_range] at hp
 obtain⟨j,hj,rfl⟩:=hp
 have:=h j hj
 cases ht:tag j with
 | own k=>exact decide_eq_true (this k ht)
 | _=>rfl
theorem q0l (rows:List (List Ivl)):(Z0c (fun _=> .full) rows).all PV.quiet=true:=by
 rw [List.all_eq_true]
 intro p hp
 simp only [Z0c,List.mem_map,List.mem_range] at hp
 obtain⟨j,hj,rfl⟩:=hp
 rfl
def tagU (b:Bool) (i j:Nat):Tag:=if b=true∧i≤j then .full else .own (j+1)
theorem W2n (tag:Nat→Tag) (rows:List (List Ivl)) (R:List PV) (h:R.all PV.quiet=true) (ht: ∀j sz,tag j≠ .fresh sz):fzOK (Z0c tag rows++R)=true:=by
 have h2:=G2t h
 unfold fzOK at h2⊢
 rw [List.all_append,h2,Bool.and_true,List.all_eq_true]
 intro p hp
 simp only [Z0c,List.mem_map,List.mem_range] at hp
 obtain⟨j,hj,rfl⟩:=hp
 have:=ht j
 cases h3:tag j with
 | fresh sz=>exact absurd h3 (this sz)
 | _=>rfl
theorem v1e (b:Bool) (i j sz:Nat):tagU b i j≠ .fresh sz:=by
 unfold tagU;split<;>exact fun h=>by cases h
theorem z1o (tag:Nat→Tag) (rows:List (List Ivl)) (R:List PV):(((Z0c tag rows++R).map PV.forget2).drop 0).take rows.length=encM rows:=by
 rw [List.drop_zero,List.map_append,List.take_append_of_le_length (by simp [Z0t]),List.take_of_length_le (by simp [Z0t])]
 rw [←k0q tag]
 unfold Z0c
 simp [PV.forget1,PV.forget2]
theorem G2h {O:List (List Ivl)} {R ys:List PV} {cap n by_:Nat} {id:TypeId} (hn:n=O.length) (hc:n≤cap) (hR:R.length=cap-n) (hq:R.all PV.quiet=true) (hl:n≤1000) (hby:by_≤1000) (ho:ys.length=ys.length):
 k1l (Z0c (fun _=> .full) O++R) n cap [.sl .full ys] ⟨id,1,by_,false,true,false⟩:=by
 have h1:=Z0t (fun _=> .full) O
 refine⟨rfl,by show 0<1;decide,by show _=cap*1;rw [List.length_append,h1,hR];omega,by show n+1≤_;omega,?_,?_,by rw [List.all_append,q0l,hq];rfl,rfl⟩
 · show(n+1)*by_≤_
   have:(n+1)*by_≤1001*1000:=Nat.mul_le_mul (by omega) hby
   omega
 · rfl
theorem H1n (b:Bool) (i j:Nat) (es:List PV):(PV.sl (tagU b i j) es).closed1=true:=by
 unfold tagU;split<;>rfl
theorem J2x (f:List (List Mn)) (rows:List (List Ivl)) (p:Int) (cap i k:Nat) (R:List PV) (b:Bool) (m:Nat):
 LendOK [[.sl .no (X0d f)],[.sc (.int .i64 p)],[.mr 3 rows.length cap],Z0c (tagU b m) rows++R] [1,1,1,rows.length] ([]++ [.sc (.int .i64 (i:Nat)),.sc (.int .i64 (k:Nat))]++ [PV.lp 0 0,.lp 2 0,.lp 1 0])∧
 ([]++ [PV.sc (.int .i64 (i:Nat)),.sc (.int .i64 (k:Nat))]++ [PV.lp 0 0,.lp 2 0,.lp 1 0]).map (PV.lend2 [[.sl .no (X0d f)],[.sc (.int .i64 p)],[.mr 3 rows.length cap],Z0c (tagU b m) rows++R])=
  [.sc (.int .i64 (i:Nat)),.sc (.int .i64 (k:Nat)),.ep [.sl .no (X0d f)] 0,.ep [.sl .no (encM rows)] 0,.ep [.sc (.int .i64 p)] 0]:=by
 have hcl: ∀o,o<rows.length→((Z0c (tagU b m) rows++R).getD o .junk).closed1=true:=fun o ho=>by
  rw [w0h _ _ _ _ ho];exact H1n _ _ _ _
 have hmap:((Z0c (tagU b m) rows++R).take rows.length).map PV.forget1=encM rows:=by
  rw [List.take_append_of_le_length (by rw [Z0t];omega),List.take_of_length_le (by rw [Z0t];omega),k0q]
 have heq:([]++ [PV.sc (.int .i64 (i:Nat)),.sc (.int .i64 (k:Nat))]++ [PV.lp 0 0,.lp 2 0,.lp 1 0]).map (PV.lend2 [[.sl .no (X0d f)],[.sc (.int .i64 p)],[.mr 3 rows.length cap],Z0c (tagU b m) rows++R])=
  [.sc (.int .i64 (i:Nat)),.sc (.int .i64 (k:Nat)),.ep [.sl .no (X0d f)] 0,.ep [.sl .no (encM rows)] 0,.ep [.sc (.int .i64 p)] 0]:=by
  show [PV.sc (.int .i64 (i:Nat)),.sc (.int .i64 (k:Nat)),.ep [.sl .no (X0d f)] 0,.ep [.sl .no (((Z0c (tagU b m) rows++R).take rows.length).map PV.forget1)] 0,.ep [.sc (.int .i64 p)] 0]=_
  rw [hmap]
 refine⟨⟨fun j o ho=> ?_,fun a ha=> ?_,fun a ha=> ?_⟩,heq⟩
 · match j,ho with
   | 0,ho=>
    have:o=0:=by simp at ho;omega
    subst this;exact⟨Nat.zero_lt_one,rfl⟩
   | 1,ho=>
    have:o=0:=by simp at ho;omega
    subst this;exact⟨Nat.zero_lt_one,rfl⟩
   | 2,ho=>
    have:o=0:=by simp at ho;omega
    subst this;exact⟨Nat.zero_lt_one,rfl⟩
   | 3,ho=>
    have ho:o<rows.length:=ho
    refine⟨?_,?_⟩
    · show o<(Z0c (tagU b m) rows++R).length
      rw [List.length_append,Z0t];omega
    · show((Z0c (tagU b m) rows++R).getD o .junk).notU=true
      rw [w0h _ _ _ _ ho];rfl
   | j+4,ho=>exact absurd ho (Nat.not_lt_zero _)
 · simp only [List.nil_append,List.cons_append,List.mem_cons,List.not_mem_nil,or_false] at ha
   rcases ha with rfl | rfl | rfl | rfl | rfl
   · exact rfl
   · exact rfl
   · refine⟨Nat.le_refl 1,Nat.zero_lt_one,fun o ho=> ?_⟩
     have:o=0:=by have ho:o<1:=ho;omega
     subst this;exact rfl
   · refine⟨Nat.le_refl 1,Nat.zero_lt_one,fun o ho=> ?_⟩
     have:o=0:=by have ho:o<1:=ho;omega
     subst this;exact⟨Nat.le_refl _,hcl⟩
   · refine⟨Nat.le_refl 1,Nat.zero_lt_one,fun o ho=> ?_⟩
     have:o=0:=by have ho:o<1:=ho;omega
     subst this;exact rfl
 · have hm:=List.mem_map_of_mem (f:=PV.lend2 [[.sl .no (X0d f)],[.sc (.int .i64 p)],[.mr 3 rows.length cap],Z0c (tagU b m) rows++R]) ha
   rw [heq] at hm
   generalize a.lend2 _=z at hm
   simp only [List.mem_cons,List.not_mem_nil,or_false] at hm
   rcases hm with rfl | rfl | rfl | rfl | rfl
   · exact w0p _ _
   · exact w0p _ _
   · exact J2r fun c hc=>by rw [List.mem_singleton.1 hc];exact((w2e _ f).low 0).1
   · exact J2r fun c hc=>by rw [List.mem_singleton.1 hc];exact((j2t _ rows).low 0).1
   · exact J2r fun c hc=>by rw [List.mem_singleton.1 hc];exact w0p _ _
def TH (n k:Nat):List (Nat×Nat):=if k=0 then [] else(n,6)::List.replicate n (k+1,6)
def TU (n k i:Nat):List (Nat×Nat):=(n,6)::if k=0 then List.replicate i (2,6) else List.replicate i (k+2,6)++List.replicate (n-i) (k+1,6)
theorem G3p {n k i:Nat} (h:k=0):(TU n k i).length=i+1:=by unfold TU;rw [if_pos h];simp
theorem G3s {n k i m:Nat} (h:k=0) (hm:m=k+1):TU n k i++ [(m+1,6)]=TU n k (i+1):=by
 subst h hm
 unfold TU
 rw [if_pos rfl,if_pos rfl,List.replicate_succ']
 rfl
theorem G3q {n k i m:Nat} (h:0<k) (hi:i<n) (hm:m=k+1):(TU n k i).getD (i+1) (0,0)=(m,6):=by
 subst hm
 unfold TU
 rw [if_neg (by omega)]
 show(List.replicate i (k+2,6)++List.replicate (n-i) (k+1,6)).getD i (0,0)=_
 rw [Q0l _ _ _ _ (by simp)]
 simp [List.getD_eq_getElem?_getD,(by omega:0<n-i)]
theorem G3o {n k i m:Nat} (h:0<k) (hi:i<n) (hm:m=k+1):(TU n k i).set (i+1) (m+1,6)=TU n k (i+1):=by
 subst hm
 unfold TU
 rw [if_neg (by omega),if_neg (by omega)]
 show(n,6)::(List.replicate i (k+2,6)++List.replicate (n-i) (k+1,6)).set i (k+1+1,6)=_
 rw [List.set_append_right _ _ (by simp),List.length_replicate,Nat.sub_self,show n-i=(n-(i+1))+1 by omega,List.replicate_succ,List.set_cons_zero,List.replicate_succ',List.append_assoc]
 rfl
theorem Y2l {n k i:Nat} (hi:i≤n):(TU n k i).take (n+1)=TU n k i:=by
 refine List.take_of_length_le ?_
 unfold TU
 rw [List.length_cons]
 split
 · rw [List.length_replicate];omega
 · rw [List.length_append,List.length_replicate,List.length_replicate];omega
theorem G3r (n k:Nat):TU n k n=TH n (k+1):=by
 unfold TU TH
 rw [if_neg (show¬(k+1=0) by omega)]
 by_cases h:k=0
 · rw [if_pos h,h]
 · rw [if_neg h,Nat.sub_self];simp
set_option maxHeartbeats 4000000 in
theorem K2v (f:List (List Mn)) (x:List Ivl) (order p:Int) (st:Q0e) (wf:wF f) (wx:wB x):
 PCalls Tryz.prog 108 [.sl .no (X0d f),.sl .no (Q0s x),.sc (.int .i64 order),.sc (.int .i64 p)] st
 (fun r st'=>r= .tup [.sl .no (encM (U0z f x order p).1),.sc (.int .i64 (U0z f x order p).2)]∧st'=st):=by
 have bad: ¬(V0n f=true∧rightB x=true∧x.length=f.length∧0≤order∧order≤10∧Z0i p=true)→U0z f x order p=([],1):=fun h=>by unfold U0z;rw [if_neg h]
 refine Q0b none Tryz.func108 rfl fun E=>Q0a ?_
 simp -dsimp only [go_sem]
 refine(w0r f st wf).mono ?_
 rintro r st ⟨rfl,rfl⟩
 cases hf:V0n f with
 | false=>
  rw [bad (fun h=>by rw [hf] at h;exact absurd h.1 (by decide))]
  simp -dsimp only [go_sem]
 | true=>
 simp -dsimp only [go_sem]
 refine(K1k x st wx).mono ?_
 rintro r st ⟨rfl,rfl⟩
 cases hx:rightB x with
 | false=>
  rw [bad (fun h=>by rw [hx] at h;exact absurd h.2.1 (by decide))]
  simp -dsimp only [go_sem]
 | true=>
 by_cases hl:x.length=f.length
 rotate_left
 · have d1:((x.length:Int) !=(f.length:Int))=true:=by simp;omega
   rw [bad (fun h=>hl h.2.2.1)]
   simp -dsimp only [go_sem,d1]
 have d1:((f.length:Int) !=(f.length:Int))=false:=by simp
 by_cases h0:0≤order
 rotate_left
 · have d2:decide (order<0)=true:=decide_eq_true (by omega)
   rw [bad (fun h=>h0 h.2.2.2.1)]
   simp -dsimp only [go_sem,d1,d2,hl]
 have d2:decide (order<0)=false:=decide_eq_false (by omega)
 by_cases h10:order≤10
 rotate_left
 · have d3:decide (order>10)=true:=decide_eq_true (by omega)
   rw [bad (fun h=>h10 h.2.2.2.2.1)]
   simp -dsimp only [go_sem,d1,d2,d3,hl]
 have d3:decide (order>10)=false:=decide_eq_false (by omega)
 simp -dsimp only [go_sem,d1,d2,d3,hl]
 refine(Y0b p st).mono ?_
 rintro r st ⟨rfl,rfl⟩
 cases hp:Z0i p with
 | false=>
  rw [bad (fun h=>by rw [hp] at h;exact absurd h.2.2.2.2.2 (by decide))]
  simp -dsimp only [go_sem]
 | true=>
 have hfl:U0z f x order p=X0j f x p order.toNat:=by unfold U0z;rw [if_pos ⟨hf,hx,hl,h0,h10,hp⟩]
 rw [hfl]
 obtain⟨q,rfl⟩:=Int.eq_ofNat_of_zero_le h0
 rw [Int.toNat_natCast]
 simp -dsimp only [go_sem]
 refine X2d ?_
 refine q1b 2 0 3 (by simp) (by rfl) ?_
 simp -dsimp only [go_sem]
 have wx': ∀a∈x,wI a:=fun a ha=>by
  obtain⟨i,hi,rfl⟩:=List.mem_iff_getElem.1 ha
  have:=wx.2 i hi
  rwa [show x.getD i default=x[i] by simp [List.getD_eq_getElem?_getD,hi]] at this
 have hx':=hx
 unfold rightB at hx'
 simp only [Bool.and_eq_true,decide_eq_true_eq,List.all_eq_true] at hx'
 obtain⟨⟨hxr,hx1⟩,hx4⟩:=hx'
 refine Q0x [false,false,true,false,true,false,false,true,false,false,true,false,false,false,false,false,false,false,false,false,false,false,false,false,false,false,false,false,false,false,false,false,false,false,false,false,false,false,false,false,false,false,false,false,false,false,false,false,false,false,false,true,true,true] 4 0
  (fun c s=> ∃(i cap:Nat) (R:List PV),c=f.length-i∧i≤f.length∧i≤cap∧R.length=cap-i∧R.all PV.quiet=true∧
   s=⟨[.junk,.junk,.sc (.int .i64 (q:Nat)),.junk,.lp 0 0,.junk,.junk,.lp 1 0,.junk,.junk,.lp 2 0]++List.replicate 40 .junk++ [.sl .no (Q0s x),.sc (.int .i64 (f.length:Nat)),.sc (.int .i64 (i:Nat))]++List.replicate 62 .junk,
    [[.sl .no (X0d f)],[.sc (.int .i64 p)],[.mr 3 i cap],Z0c (fun _=> .full) ((x.take i).map fun a=> [a])++R],[],st⟩) f.length ?_ ?_
 · simp -dsimp only [go_sem,hl]
   refine⟨0,0,[],by omega,by omega,by omega,rfl,rfl,?_⟩
   rw [show Z0c (fun _=>Tag.full) (List.map (fun a=> [a]) (List.take 0 x))++ []= [] from by simp [Z0c]];rfl
 · rintro c s ⟨i,cap,R,rfl,hi,r1,r2,r3,rfl⟩
   have hall:(Z0c (fun _=> .full) ((x.take i).map fun a=> [a])++R).all PV.quiet=true:=by rw [List.all_append,q0l,r3];rfl
   refine Q0h (Q0a ?_)
   simp -dsimp only [go_sem]
   refine Q0h (Q0a ?_)
   simp -dsimp only [go_sem]
   refine ck (fun h=> ?_) (fun h=> ?_)
   · have hlt:i<f.length:=by have:=of_decide_eq_true h;omega
     have e3:IntKind.i64.wrap ((i:Int)+1)=((i+1:Nat):Int):=by rw [Q0k _ (by omega) (by omega)];omega
     have gI:=Z0m x i (by omega)
     have hxi:x.getD i default∈x:=Q0t _ _ _ (by omega)
     have mk:q1r (x.getD i default).lo (x.getD i default).hi=(x.getD i default,0):=by unfold q1r;rw [if_pos (hxr _ hxi)]
     simp -dsimp only [go_sem]
     refine Q0h (X0a (Q0h (Q0a ?_)))
     simp -dsimp only [go_sem,gI]
     refine⟨by omega,?_⟩
     refine Q0h (Q0a ?_)
     simp -dsimp only [go_sem]
     refine(j1o _ _ _ (wx' _ hxi).1 (wx' _ hxi).2).mono ?_
     rintro r st ⟨rfl,rfl⟩
     simp -dsimp only [go_sem,mk]
     refine G2z [.no,.no,.no,.keep,.room,.no] ?_
     have hxl:((x.take i).map fun a=> [a]).length=i:=by simp;omega
     have t1:(Z0c (fun _=> .full) ((x.take i).map fun a=> [a])++R).take i=Z0c (fun _=> .full) ((x.take i).map fun a=> [a]):=by
      have:=Z0t (fun _=> .full) ((x.take i).map fun a=> [a])
      rw [hxl] at this
      rw [List.take_append_of_le_length (by omega),List.take_of_length_le (by omega)]
     simp -dsimp only [go_sem,Nat.mul_one,t1]
     refine⟨G2h hxl.symm r1 r2 r3 (by omega) (by omega) rfl,?_⟩
     intro c1 R1 g1 g2 g3
     have hsn:Z0c (fun _=> .full) ((x.take i).map fun a=> [a])++(flat [PV.sl .full [PV.agg [.sc (.bool (x.getD i default).lo.neg),.sc (.int .i64 (x.getD i default).lo.exp),.sl .no (encW (x.getD i default).lo.w),.sc (.bool (x.getD i default).hi.neg),.sc (.int .i64 (x.getD i default).hi.exp),.sl .no (encW (x.getD i default).hi.w)]]]++R1)=Z0c (fun _=> .full) ((x.take (i+1)).map fun a=> [a])++R1:=by
      have e:(x.take (i+1)).map (fun a=> [a])=(x.take i).map (fun a=> [a])++ [[x.getD i default]]:=by
       rw [List.take_succ_eq_append_getElem (by omega),List.map_append]
       simp [List.getD_eq_getElem?_getD,(show i<x.length by omega)]
      rw [e,z1p,List.append_assoc];rfl
     have hall2:(Z0c (fun _=> .full) ((x.take (i+1)).map fun a=> [a])++R1).all PV.quiet=true:=by rw [List.all_append,q0l,g3];rfl
     have hlims:=z0e (a:=4) (b:=0) hall2
     refine Q0a ?_
     simp -dsimp only [go_sem,e3,hsn,hlims]
     exact⟨f.length-(i+1),by omega,i+1,c1,R1,rfl,by omega,g1,g2,g3,rfl⟩
   · have hge:i=f.length:=by have:=of_decide_eq_false h;omega
     subst hge
     simp -dsimp only [go_sem]
     refine Q0a ?_
     simp -dsimp only [go_sem]
     have hok:=y0n (p:=p) hl wx'
     have fin: ∀k,k<q→(X0j f x p k).2=0→(X0j f x p (k+1)).2≠0→X0j f x p q=([],(X0j f x p (k+1)).2):=fun k hk h0 he=>by
      by_cases e:k+1=q
      · rw [←e]
        rw [X0j,if_neg (by rw [h0];decide)] at he⊢
        split
        · rfl
        · rename_i c;rw [if_neg c] at he;exact absurd rfl he
      · have:=w0c he (q-(k+1+1))
        rwa [show k+1+1+(q-(k+1+1))=q by omega] at this
     refine Q0x [false,false,false,false,true,false,false,false,false,false,true,false,false,false,false,true,false,false,false,false,false,false,false,false,false,false,false,false,false,false,false,false,false,false,false,false,false,false,false,false,false,false,false,false,false,false,false,false,false,false,false,false,false,false,false,false,false,false,false,false,false,false,false,false,false,false,false,false,false,false,false,false,true,true] 4 (f.length+1)
      (fun c s=> ∃(k cap:Nat) (R:List PV),c=q-k∧k≤q∧(X0j f x p k).2=0∧f.length≤cap∧R.length=cap-f.length∧R.all PV.quiet=true∧
       s=⟨[.junk,.junk,.junk,.junk,.lp 0 0,.junk,.junk,.junk,.junk,.junk,.lp 2 0,.junk,.junk,.junk,.junk,.fn (.func 171) [] [.lp 0 0,.lp 2 0,.lp 1 0]]++List.replicate 56 .junk++ [.sc (.int .i64 (q:Nat)),.sc (.int .i64 (k:Nat))]++List.replicate 42 .junk,
        [[.sl .no (X0d f)],[.sc (.int .i64 p)],[.mr 3 f.length cap],Z0c (tagU (decide (k=0)) 0) (X0j f x p k).1++R],TH f.length k,st⟩) q ?_ ?_
     · have hlims:(Z0c (fun _=> .full) ((x.take f.length).map fun a=> [a])++R).all (PV.lim 4 (f.length+1))=true:=z0e hall
       simp -dsimp only [go_sem,hlims]
       refine⟨0,cap,R,by omega,by omega,rfl,r1,r2,r3,?_⟩
       rw [List.take_of_length_le (show x.length≤f.length by omega)]
       rfl
     · rintro c s ⟨k,cap,R,rfl,hk,hz,r1,r2,r3,rfl⟩
       obtain⟨hn1,hn2⟩:=hok k hz
       generalize hrows:(X0j f x p k).1=rows at*
       refine Q0h (Q0a ?_)
       simp -dsimp only [go_sem]
       refine Q0h (Q0a ?_)
       simp -dsimp only [go_sem]
       refine ck (fun h=> ?_) (fun h=> ?_)
       · have hlt:k<q:=by have:=of_decide_eq_true h;omega
         have e3:IntKind.i64.wrap ((k:Int)+1)=((k+1:Nat):Int):=by rw [Q0k _ (by omega) (by omega)];omega
         refine Q0h (X0a (Q0h (Q0a ?_)))
         simp -dsimp only [go_sem]
         refine Q0h (Q0a ?_)
         simp -dsimp only [go_sem]
         refine Z0l 17 6 ?_
         simp -dsimp only [go_sem]
         have wxs:wXs rows:=⟨by omega,fun i hi=>by
          obtain⟨a1,a2⟩:=hn2 i (by omega)
          exact⟨by omega,a2⟩⟩
         have limT: ∀j,j<rows.length→ ∀m,tagU (decide (k=0)) 0 j= .own m→m<(TH f.length k).length+1:=fun j hj m hm=>by
          unfold tagU at hm
          split at hm
          · cases hm
          · rename_i hc
            have hk0:k≠0:=fun e=>hc ⟨decide_eq_true e,Nat.zero_le _⟩
            unfold TH
            rw [if_neg hk0]
            cases hm
            simp;omega
         have hlimC:=K1h (tagU (decide (k=0)) 0) rows 4 ((TH f.length k).length+1) limT
         have hlimR:R.all (PV.lim 4 ((TH f.length k).length+1))=true:=z0e r3
         have hlimA:(Z0c (tagU (decide (k=0)) 0) rows++R).all (PV.lim 4 ((TH f.length k).length+1))=true:=by rw [List.all_append,hlimC,hlimR];rfl
         generalize hT0:TH f.length k=T0 at hlimA⊢
         have tk: ∀z,(T0++ [z]).take (T0.length+1)=T0++ [z]:=fun z=>List.take_of_length_le (by simp)
         have tg: ∀z,(T0++ [z]).getD T0.length (0,0)=z:=fun z=>by simp [List.getD_eq_getElem?_getD]
         have ts: ∀z z',(T0++ [z]).set T0.length z'=T0++ [z']:=fun z z'=>by rw [List.set_append_right _ _ (Nat.le_refl _)];simp
         refine Q0h (Q0a ?_)
         simp -dsimp only [go_sem]
         refine Q0x [false,false,false,false,true,false,false,false,false,false,true,false,false,false,false,true,true,true,false,false,false,false,false,false,false,false,false,false,false,false,false,false,false,false,false,false,false,false,false,false,false,false,false,false,false,false,false,false,false,false,false,false,false,false,false,false,false,false,false,false,false,false,false,false,false,false,false,false,false,false,false,false,true,true,false,false,false,true,true] 4 (T0.length+1)
          (fun c s=> ∃(i:Nat) (o:List Ivl),c=f.length-i∧i≤f.length∧o.length=i∧tabF (j0z f rows k p) i (f.length-i) o=V1a f rows k p∧
           s=⟨[.junk,.junk,.junk,.junk,.lp 0 0,.junk,.junk,.junk,.junk,.junk,.lp 2 0,.junk,.junk,.junk,.junk,.fn (.func 171) [] [.lp 0 0,.lp 2 0,.lp 1 0],.sc (.int .i64 (k:Nat)),.sl (.own T0.length) (Q0s o)]++List.replicate 54 .junk++ [.sc (.int .i64 (q:Nat)),.sc (.int .i64 (k:Nat)),.junk,.junk,.junk,.sc (.int .i64 (f.length:Nat)),.sc (.int .i64 (i:Nat))]++List.replicate 37 .junk,
            [[.sl .no (X0d f)],[.sc (.int .i64 p)],[.mr 3 f.length cap],Z0c (tagU (decide (k=0)) 0) rows++R],T0++ [(i,6)],st⟩) f.length ?_ ?_
         · simp -dsimp only [go_sem,hlimA,tk]
           exact⟨0,[],by omega,by omega,rfl,rfl,rfl⟩
         · rintro c s ⟨i,o,rfl,hi,ho,ht,rfl⟩
           refine Q0h (Q0a ?_)
           simp -dsimp only [go_sem]
           refine Q0h (Q0a ?_)
           simp -dsimp only [go_sem]
           refine ck (fun h=> ?_) (fun h=> ?_)
           · have hlt2:i<f.length:=by have:=of_decide_eq_true h;omega
             have e4:IntKind.i64.wrap ((i:Int)+1)=((i+1:Nat):Int):=by rw [Q0k _ (by omega) (by omega)];omega
             rw [K0w _ hlt2] at ht
             simp -dsimp only [go_sem]
             refine Q0h (X0a (Q0h (Q0a ?_)))
             simp -dsimp only [go_sem]
             refine Q0h (G2y [1,1,1,f.length] [false,false,false,true] ?_)
             simp -dsimp only [go_sem]
             have lfl:=J2x f rows p cap i k R (decide (k=0)) 0
             rw [hn1,hl] at lfl
             refine Z4f (.tup [.agg (encI (j0z f rows k p i).1),.sc (.int .i64 (j0z f rows k p i).2)]) (by simp only [go_sem]) ?_ ?_ ?_ ?_
             · exact lfl.1
             · exact U2d _ _
             · have:=Z2m f rows i k p [] hlt2 (by omega) wf wxs
               rw [←lfl.2] at this
               exact this
             · simp -dsimp only [go_sem]
               have hsn:=Y0z o (j0z f rows k p i).1
               generalize j0z f rows k p i=c at ht hsn⊢
               refine Q0h (Q0a ?_)
               by_cases hc:c.2=0
               · have ec:(c.2 !=0)=false:=by rw [hc];rfl
                 rw [if_neg (by rw [hc];decide)] at ht
                 simp -dsimp only [go_sem,ec]
                 refine Q0a ?_
                 simp -dsimp only [go_sem,hsn,tg,ts,ho]
                 refine⟨by omega,?_⟩
                 refine Q0a ?_
                 simp -dsimp only [go_sem,e4,hlimA,tk]
                 exact⟨f.length-(i+1),by omega,i+1,o++ [c.1],rfl,by omega,by simp [ho],ht,rfl⟩
               · have ec:(c.2 !=0)=true:=bne_iff_ne.2 hc
                 rw [if_pos hc] at ht
                 have hk1:(X0j f x p (k+1)).2=c.2:=by rw [X0j,if_neg (by rw [hz];decide),hrows,←ht,if_pos hc]
                 simp -dsimp only [go_sem,ec]
                 rw [fin k hlt hz (by rw [hk1];exact hc),hk1]
                 rfl
           · have hge2:i=f.length:=by have:=of_decide_eq_false h;omega
             subst hge2
             rw [W0e] at ht
             have hrow:X0j f x p (k+1)=(W0w rows o f.length,0):=by
              rw [X0j,if_neg (by rw [hz];decide),hrows,←ht,if_neg (fun h=>h rfl)]
             subst hT0
             have limU: ∀i,∀j,j<(W0w rows o i).length→ ∀m,tagU (decide (k=0)) i j= .own m→m<f.length+1:=fun i j hj m hm=>by
              rw [V0f] at hj
              unfold tagU at hm
              split at hm
              · cases hm
              · cases hm;omega
             have hlimR2:R.all (PV.lim 4 (f.length+1))=true:=z0e r3
             have hlimU: ∀i,(Z0c (tagU (decide (k=0)) i) (W0w rows o i)++R).all (PV.lim 4 (f.length+1))=true:=fun i=>by rw [List.all_append,K1h _ _ 4 _ (limU i),hlimR2];rfl
             have hT1:(TH f.length k++ [(f.length,6)]).take (f.length+1)=TU f.length k 0:=by
              unfold TH TU
              by_cases hk0:k=0
              · rw [if_pos hk0,if_pos hk0];simp
              · rw [if_neg hk0,if_neg hk0];simp
             simp -dsimp only [go_sem]
             refine Y0o [false,false,false,false,false,false,false,false,false,false,false,false,false,false,false,false,false,true] (Q0a ?_)
             simp -dsimp only [go_sem,ho]
             have hlim0:=hlimU 0
             refine Q0x [false,false,false,false,true,false,false,false,false,false,true,false,false,false,false,true,false,false,false,false,false,false,false,false,false,false,false,false,false,false,false,false,false,false,false,false,false,false,false,false,false,false,false,false,false,false,false,false,false,false,false,false,false,false,false,false,false,false,false,false,false,false,false,false,false,false,false,false,false,false,false,false,true,true,false,false,false,false,false,false,false,false,false,false,false,false,false,false,false,false,false,false,false,false,false,false,true,true,true] 4 (f.length+1)
              (fun c s=> ∃(i:Nat),c=f.length-i∧i≤f.length∧
               s=⟨[.junk,.junk,.junk,.junk,.lp 0 0,.junk,.junk,.junk,.junk,.junk,.lp 2 0,.junk,.junk,.junk,.junk,.fn (.func 171) [] [.lp 0 0,.lp 2 0,.lp 1 0]]++List.replicate 56 .junk++ [.sc (.int .i64 (q:Nat)),.sc (.int .i64 (k:Nat))]++List.replicate 22 .junk++ [.sl .no (Q0s o),.sc (.int .i64 (f.length:Nat)),.sc (.int .i64 (i:Nat))]++List.replicate 17 .junk,
                [[.sl .no (X0d f)],[.sc (.int .i64 p)],[.mr 3 f.length cap],Z0c (tagU (decide (k=0)) i) (W0w rows o i)++R],TU f.length k i,st⟩) f.length ?_ ?_
             · have hu0:W0w rows o 0=rows:=rfl
               rw [hu0] at hlim0
               simp -dsimp only [go_sem,hlim0,hT1]
               exact⟨0,by omega,by omega,rfl⟩
             · rintro c s ⟨i,rfl,hi,rfl⟩
               refine Q0h (Q0a ?_)
               simp -dsimp only [go_sem]
               refine Q0h (Q0a ?_)
               simp -dsimp only [go_sem]
               refine ck (fun h=> ?_) (fun h=> ?_)
               · have hlt2:i<f.length:=by have:=of_decide_eq_true h;omega
                 have e4:IntKind.i64.wrap ((i:Int)+1)=((i+1:Nat):Int):=by rw [Q0k _ (by omega) (by omega)];omega
                 have gO:=Z0m o i (by omega)
                 have hil:i<(W0w rows o i).length:=by rw [V0f];omega
                 have gC:=w0h (tagU (decide (k=0)) i) (W0w rows o i) R i hil
                 have gU:=j0i rows o i (by omega) i
                 rw [if_neg (by omega)] at gU
                 rw [gU] at gC
                 have gV:=z1q (tagU (decide (k=0)) i) (W0w rows o i) R i hil (.own (i+1)) (rows.getD i []++ [o.getD i default])
                 rw [show(W0w rows o i).set i (rows.getD i []++ [o.getD i default])=W0w rows o (i+1) from rfl,K1i (tag:=fun j=>if j=i then .own (i+1) else tagU (decide (k=0)) i j) (tag':=tagU (decide (k=0)) (i+1)) (fun j _=>by
                  show(if j=i then Tag.own (i+1) else tagU (decide (k=0)) i j)=_
                  by_cases e:j=i
                  · subst e;rw [if_pos rfl];unfold tagU;rw [if_neg (by omega)]
                  · rw [if_neg e];unfold tagU
                    by_cases hb:decide (k=0)=true∧i≤j
                    · rw [if_pos hb,if_pos ⟨hb.1,by omega⟩]
                    · rw [if_neg hb,if_neg (fun hc=>hb ⟨hc.1,by omega⟩)])] at gV
                 have hsn:=Y0z (rows.getD i []) (o.getD i default)
                 have hrl:=(hn2 i (by omega)).1
                 have hlimV:=hlimU (i+1)
                 have htk:=Y2l (n:=f.length) (k:=k) (show i+1≤f.length by omega)
                 have hcl:i<(Z0c (tagU (decide (k=0)) i) (W0w rows o i)).length+R.length:=by rw [Z0t];omega
                 simp -dsimp only [go_sem]
                 refine Q0h (X0a (Q0h (Q0a ?_)))
                 simp -dsimp only [go_sem,gO]
                 refine⟨by omega,?_⟩
                 rcases Nat.eq_zero_or_pos k with k0 | k0
                 · have tg0:tagU (decide (k=0)) i i= .full:=by unfold tagU;rw [if_pos ⟨decide_eq_true k0,Nat.le_refl _⟩]
                   rw [tg0] at gC
                   have hTl:=G3p (n:=f.length) (i:=i) k0
                   have hTa:=G3s (n:=f.length) (i:=i) k0 hrl
                   refine Q0p Z0g 116 (.step 0 [] (.step 1 [] (.step 2 [] (.step 3 [] (.step 4 [] (.step 5 [] (.step 6 [] (.step 7 [] (.step 8 [0] (.step 9 [] (.step 10 [] (.done)))))))))))) (by decide+kernel) (by simp) ?_
                   simp -dsimp only [go_sem,gC]
                   refine⟨by omega,by omega,by omega,by omega,by omega,?_⟩
                   refine Q0a ?_
                   simp -dsimp only [go_sem,e4,hsn,hTl,hTa,gV,hlimV,htk]
                   exact⟨f.length-(i+1),by omega,i+1,rfl,by omega,rfl⟩
                 · have tg0:tagU (decide (k=0)) i i= .own (i+1):=by unfold tagU;rw [if_neg (fun h=>by have:=of_decide_eq_true h.1;omega)]
                   rw [tg0] at gC
                   have hTg:=G3q (n:=f.length) (i:=i) k0 hlt2 hrl
                   have hTs:=G3o (n:=f.length) (i:=i) k0 hlt2 hrl
                   refine Q0p Z0g 116 (.step 0 [] (.step 1 [] (.step 2 [] (.step 3 [] (.step 4 [] (.step 5 [] (.step 6 [] (.step 7 [] (.step 8 [0] (.step 9 [] (.step 10 [] (.done)))))))))))) (by decide+kernel) (by simp) ?_
                   simp -dsimp only [go_sem,gC]
                   refine⟨by omega,by omega,by omega,hTg,by omega,by omega,?_⟩
                   refine Q0a ?_
                   simp -dsimp only [go_sem,e4,hsn,hTs,gV,hlimV,htk]
                   exact⟨f.length-(i+1),by omega,i+1,rfl,by omega,rfl⟩
               · have hge2:i=f.length:=by have:=of_decide_eq_false h;omega
                 subst hge2
                 simp -dsimp only [go_sem]
                 have hC:Z0c (tagU (decide (k=0)) f.length) (W0w rows o f.length)=Z0c (tagU (decide (k+1=0)) 0) (X0j f x p (k+1)).1:=by
                  rw [hrow]
                  refine K1i fun j hj=> ?_
                  rw [V0f] at hj
                  unfold tagU
                  rw [if_neg (by omega),if_neg (by simp)]
                 have hTn:=G3r f.length k
                 have hlimE:=hlimU f.length
                 have htk:=Y2l (n:=f.length) (k:=k) (Nat.le_refl f.length)
                 rw [show decide (k+1=0)=false from by simp] at hC
                 rw [hC] at hlimE
                 rw [hTn] at htk
                 refine Q0a ?_
                 simp -dsimp only [go_sem,e3,hC,hTn,hlimE,htk]
                 exact⟨q-(k+1),by omega,k+1,cap,R,rfl,by omega,by rw [hrow],r1,r2,r3,rfl⟩
       · have hge:k=q:=by have:=of_decide_eq_false h;omega
         subst hge
         have hpos:0<f.length:=by omega
         simp -dsimp only [go_sem]
         refine Q0h (Q0a ?_)
         simp -dsimp only [go_sem]
         refine G2x 8 3 f.length cap (by rfl) hpos ?_
         simp -dsimp only [go_sem]
         refine Z0u 3 ?_ (Q0a ?_)
         · simp only [Z1d]
           exact W2n _ _ _ r3 (v1e _ _)
         have c1:=z1o (tagU (decide (k=0)) 0) rows R
         rw [hn1,hl,List.drop_zero] at c1
         have c0:f.length≤(Z0c (tagU (decide (k=0)) 0) rows).length+R.length:=by rw [Z0t];omega
         simp -dsimp only [go_sem,c0,c1]
         rw [hrows,hz]
end Go.Pv
end
section
/-Layer 15:known. -/
set_option maxRecDepth 100000
namespace Go.Pv
open Go.Proofs
def k5o :Nm:=⟨false,0,[1]⟩
def k5h :Nm:=⟨false, -1,[1]⟩
def k5F :List (List Mn):= [[⟨k5o,[1]⟩]]
def k5x :List Ivl:= [⟨k5o,k5o⟩]
theorem v3t :wF k5F:=by unfold wF wP wMn wN wK;decide
theorem v3s :wB k5x:=by unfold wB wI wN;decide
theorem q2x :wN k5o:=by unfold wN;decide
end Go.Pv
end
