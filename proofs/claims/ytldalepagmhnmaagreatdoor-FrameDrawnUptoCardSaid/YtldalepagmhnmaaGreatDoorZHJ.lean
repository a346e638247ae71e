/- Parts of the walk: N187, N188, N189, N190, N191. -/
import Derived.Test.YtldalepagmhnmaaGreatDoorZHI
import Derived.Test.YtldalepagmhnmaaGreatDoorZFI
set_option linter.unusedVariables false
set_option linter.unusedSimpArgs false
section
set_option maxRecDepth 100000
namespace Go.Pv
open Go.Proofs
theorem W2s (f:Fm)(p:Int)(st:Q0f)(hf:wFm f):PCalls Tryz.prog 91 [.agg (Y0p f),.sc (.int .i64 p)] st
 (fun r st'=>r= .tup [.sl .no (Q0z (J1h f p).1),.sc (.int .i64 (J1h f p).2)]/\st'=st):=by
 obtain⟨wm,wa,wr⟩:=hf;refine Q0b none Tryz.func91 rfl fun E=>Q0d (Q0a ?_);refine Y4w ?_;refine W4t ?_;refine(j0e f _ ⟨wm,wa,wr⟩).w ?_;rintro st' rfl;cases hr:X0m f with
 | false=>
  rw[Q1d (fun h=>by rw[hr] at h;cases h.1)];exact Y4v
 | true=>
 refine Y4w ?_;refine(j1z p _).w ?_;rintro st' rfl;cases hp:Z0c p with
 | false=>
  rw[Q1d (fun h=>by rw[hp] at h;cases h.2)];exact Y4v
 | true=>
 rw[K2e ⟨hr,hp⟩];refine Y4w ?_;refine Q0d ?_;refine Q0k Z0b 37 (X2p [0,1,3,4,5] (.step 2 [4] (X2p [6,7,8,9,10,11] .done))) (by decide+kernel) (by simp) ?_;refine Y4w ?_;refine(U0b f.a _ wa).plain.w ?_;rintro st' rfl;refine Y4w ?_;refine(G2d (ofM f.a) f.r p _ (w2p wa) wr).w ?_;rintro st' rfl;have wv:=Q1z (ofM f.a) f.r p;generalize vecM (ofM f.a) f.r p=V at*
 refine Y4w ?_;refine Q0d (Q0a ?_);by_cases h1:V.2=0;rotate_left;have d1:(V.2 !=0)=true:=bne_iff_ne.2 h1;rw[if_pos h1];simp-dsimp only[go_sem,d1];have d1:(V.2 !=0)=false:=(by rw[h1];rfl);rw[if_neg (fun e=>e h1)];simp-dsimp only[go_sem,d1];refine W4u ?_;refine(J1t f.m _ wm).plain.w ?_;rintro st' rfl;refine Y4w ?_;refine(J2m (ofB f.m) V.1 p _ (z0p wm) wv).w ?_;rintro st' rfl;exact Y4v
def H1m (c:Mx)(p:Int):(List (List Nm)×Mx)×Int:=if (Y0j c p).2≠0 then(([],[]),(Y0j c p).2) else Y0j c p
theorem y1h {c:Mx}{p:Int}(h:(ownF c p).2=3):H1m c p=((oneQ c.length,idM c.length),0):=by unfold H1m Y0j;rw[if_pos h,if_neg (fun e=>e rfl)]
theorem G2g {c:Mx}{p:Int}(h:(ownF c p).2≠3):H1m c p=if (ownF c p).2≠0 then(([],[]),(ownF c p).2) else ownF c p:=by unfold H1m Y0j;rw[if_neg h]
theorem H2q (c:Mx)(p:Int)(st:Q0f)(wc:wM c)(rc:rightM c=true):PCalls Tryz.prog 173 [.sl .no (encM c),.sc (.int .i64 p)] st
 (fun r st'=>r= .tup [.sl .no (encQ (H1m c p).1.1),.sl .no (encM (H1m c p).1.2),.sc (.int .i64 (H1m c p).2)]/\st'=st):=by
 have wone:wQ (oneQ (c.length:Int)):=Z1s _;have hid:ofM (oneQ (c.length:Int))=idM c.length:=q1k _;refine Q0b none Tryz.func173 rfl fun E=>Q0d (Q0a ?_);have m3:=v3o (c:=c) (p:=p);have ho:ownF c p=if (midM c p).2≠0 then(([],[]),(midM c p).2) else if (W0x (midM c p).1 p).2≠0 then(([],[]),(W0x (midM c p).1 p).2) else(((W0x (midM c p).1 p).1,(V0o (W0x (midM c p).1 p).1 p).1),(V0o (W0x (midM c p).1 p).1 p).2):=rfl;have hplain:=y1h (c:=c) (p:=p);have hown:=G2g (c:=c) (p:=p);refine Y4w ?_;refine W4t ?_;refine(H3i (c.length:Int) _).w ?_;rintro st' rfl;refine Y4w ?_;refine W4t ?_;refine(Z3z c p _ wc).w ?_;rintro st' rfl;have wq:=z2t c p;generalize midM c p=M at*
 refine Y4w ?_;refine Q0d (Q0a ?_);by_cases h1:M.2=0;rotate_left;have d1:(M.2 !=0)=true:=bne_iff_ne.2 h1;rw[if_pos h1] at ho;rw[hown (by rw[ho];exact m3),ho,if_pos h1];simp-dsimp only[go_sem,d1]
 try rfl
 have d1:(M.2 !=0)=false:=by rw[h1];rfl
 rw[if_neg (fun e=>e h1)] at ho;simp-dsimp only[go_sem,d1];refine W4t ?_;refine(j1r M.1 p _ wq).w ?_;rintro st' rfl;have wcq:=Z2j (a:=M.1) (p:=p);generalize W0x M.1 p=B at*
 refine Y4w ?_;refine Q0d (Q0a ?_);by_cases h2:B.2=0;rotate_left;rw[if_pos h2] at ho;by_cases h3:B.2=3;have z3:(B.2==3)=true:=(by rw[h3];rfl);rw[hplain (by rw[ho];exact h3)];simp-dsimp only[go_sem,z3];refine(U0b (oneQ (c.length:Int)) _ wone).plain.w ?_;rintro st' rfl;simp-dsimp only[go_sem,hid]
 try rfl
 have z3:(B.2==3)=false:=(by simpa using h3);have d2:(B.2 !=0)=true:=bne_iff_ne.2 h2;rw[hown (by rw[ho];exact h3),ho,if_pos h2];simp-dsimp only[go_sem,z3];refine Q0d (Q0a ?_);simp-dsimp only[go_sem,d2]
 try rfl
 have z3:(B.2==3)=false:=by rw[h2];rfl
 have d2:(B.2 !=0)=false:=by rw[h2];rfl
 rw[if_neg (fun e=>e h2)] at ho;simp-dsimp only[go_sem,z3];refine Q0d (Q0a ?_);simp-dsimp only[go_sem,d2];refine W4t ?_;refine(H2s B.1 p _ (wcq h2)).w ?_;rintro st' rfl;generalize V0o B.1 p=V at*
 refine Y4w ?_;refine Q0d (Q0a ?_);by_cases h3:V.2=3;have z4:(V.2==3)=true:=(by rw[h3];rfl);rw[hplain (by rw[ho];exact h3)];simp-dsimp only[go_sem,z4];refine(U0b (oneQ (c.length:Int)) _ wone).plain.w ?_;rintro st' rfl;simp-dsimp only[go_sem,hid]
 try rfl
 have z4:(V.2==3)=false:=(by simpa using h3);rw[hown (by rw[ho];exact h3),ho];simp-dsimp only[go_sem,z4];refine Q0d (Q0a ?_);by_cases h4:V.2=0;have d4:(V.2 !=0)=false:=(by rw[h4];rfl);rw[if_neg (fun e=>e h4)];simp-dsimp only[go_sem,d4];refine Q0a ?_;simp-dsimp only[go_sem,h4]
 try rfl
 have d4:(V.2 !=0)=true:=bne_iff_ne.2 h4;rw[if_pos h4];simp-dsimp only[go_sem,d4]
 try rfl
theorem Q2m {z:List Ivl}{p:Int}(h:(midB z p).2=0):(midB z p).1.length=z.length/\ ∀x∈(midB z p).1,Q0h x=true:=by unfold midB at h⊢;split at h;rename_i c;rw[if_pos c];rw[W0c] at h⊢;exact⟨(G0g h).1,z0q (fun x=>Q0h x=true) _ 0 [] (fun j _ _=>Z1w _ _) (fun x hx=>by cases hx)⟩;exact absurd h (by decide)
theorem X3a {c:Mx}{p:Int}(h:(midM c p).2=0):(midM c p).1.length=c.length:=by unfold midM at h⊢;split at h;rename_i hc;rw[if_pos hc];exact(G0g h).1;exact absurd h (by decide)
theorem U3x {c:Mx}{p:Int}(rc:rightM c=true)(h:(Y0j c p).2=0):rightM (Y0j c p).1.2=true/\(Y0j c p).1.2.length=c.length:=by unfold Y0j at h⊢;split;have hl:=Z0u rc;obtain⟨si,hil⟩:=W3l hl.1 hl.2;exact⟨si.right,hil⟩;rename_i c3;rw[if_neg c3] at h;unfold ownF at h⊢;split at h;rename_i c;exact absurd h c;rename_i c1;rw[if_neg c1];split at h;rename_i c;exact absurd h c;rename_i c2;rw[if_neg c2];refine⟨K1l h,?_⟩;rw[(K1k h).2.1,(K2v (Classical.not_not.1 c2)).1,X3a (Classical.not_not.1 c1)]
theorem z2a {q:List Nm}(h1:1<=q.length)(h4:q.length<=4)(h: ∀x∈q,Q0h x=true):rightB (ofB q)=true:=by have hl:(ofB q).length=q.length:=(by simp[ofB]);refine U0v (fun i hi=> ?_) oG oG;rw[hl] at hi;rw[Q2d hi];exact v0w (h _ (Q0r _ _ _ hi))
theorem Y2e (f:Fm)(z:List Ivl)(m:List Nm)(c:Mx)(t:List (List Nm)×Mx)(p:Int):z2k f z m c t p=
 if (opB 1 z (ofB m) p).2≠0 then(default,(opB 1 z (ofB m) p).2) else if (mulM t.2 c p).2≠0 then(default,(mulM t.2 c p).2) else if (vecM (mulM t.2 c p).1 f.r p).2≠0 then(default,(vecM (mulM t.2 c p).1 f.r p).2)
 else if (vecM t.2 (opB 1 z (ofB m) p).1 p).2≠0 then(default,(vecM t.2 (opB 1 z (ofB m) p).1 p).2) else if (opB 0 (vecM (mulM t.2 c p).1 f.r p).1 (vecM t.2 (opB 1 z (ofB m) p).1 p).1 p).2≠0 then(default,(opB 0 (vecM (mulM t.2 c p).1 f.r p).1 (vecM t.2 (opB 1 z (ofB m) p).1 p).1 p).2)
 else(⟨m,t.1,(opB 0 (vecM (mulM t.2 c p).1 f.r p).1 (vecM t.2 (opB 1 z (ofB m) p).1 p).1 p).1⟩,0):=by
 unfold z2k z2i H1x;generalize (opB 1 z (ofB m) p)=D;generalize mulM t.2 c p=V;generalize vecM V.1 f.r p=X;generalize vecM t.2 D.1 p=Y;generalize opB 0 X.1 Y.1 p=S;obtain⟨d1,d2⟩:=D;obtain⟨v1,v2⟩:=V;obtain⟨x1,x2⟩:=X;obtain⟨y1,y2⟩:=Y;obtain⟨s1,s2⟩:=S;by_cases h1:d2=0<;>by_cases h2:v2=0<;>by_cases h3:x2=0<;>by_cases h4:y2=0<;>by_cases h5:s2=0<;>simp[h1,h2,h3,h4,h5]
set_option maxHeartbeats 16000000 in
theorem W2r (f:Fm)(z:List Ivl)(s:Mx)(p:Int)(st:Q0f)(hf:wFm f)(wz:wB z)(ws:wM s):PCalls Tryz.prog 92 [.agg (Y0p f),.sl .no (Q0z z),.sl .no (encM s),.sc (.int .i64 p)] st
 (fun r st'=>r= .tup [.agg (Y0p (x0l f z s p).1),.sc (.int .i64 (x0l f z s p).2)]/\st'=st):=by
 obtain⟨wm,wa,wr⟩:=hf;have wml:=wm.1;have wzl:=wz.1;have wsl:=ws.1;refine Q0b none Tryz.func92 rfl fun E=>Q0d (Q0a ?_);refine Y4w ?_;refine W4t ?_;refine(j0e f _ ⟨wm,wa,wr⟩).w ?_;rintro st' rfl;cases h1:X0m f with
 | false=>
  rw[J0x (fun h=>by rw[h1] at h;cases h.1)];simp-dsimp only[go_sem]
  try rfl
 | true=>
 refine Y4w ?_;refine(V0z z _ wz).w ?_;rintro st' rfl;cases h2:rightB z with
 | false=>
  rw[J0x (fun h=>by rw[h2] at h;cases h.2.1)];simp-dsimp only[go_sem]
  try rfl
 | true=>
 refine Y4w ?_;refine(Y0a s _ ws).w ?_;rintro st' rfl;cases h3:rightM s with
 | false=>
  rw[J0x (fun h=>by rw[h3] at h;cases h.2.2.1)];simp-dsimp only[go_sem]
  try rfl
 | true=>
 by_cases h4:z.length=f.m.length;rotate_left;have z4:((z.length:Int) !=(f.m.length:Int))=true:=bne_iff_ne.2 oG;rw[J0x (fun h=>h4 h.2.2.2.1)];simp-dsimp only[go_sem,z4]
 try rfl
 have z4:((z.length:Int) !=(f.m.length:Int))=false:=by rw[h4];simp
 by_cases h5:s.length=f.m.length;rotate_left;have z5:((s.length:Int) !=(f.m.length:Int))=true:=bne_iff_ne.2 oG;rw[J0x (fun h=>h5 h.2.2.2.2.1)];simp-dsimp only[go_sem,z4,z5]
 try rfl
 have z5:((s.length:Int) !=(f.m.length:Int))=false:=by rw[h5];simp
 simp-dsimp only[go_sem,z4,z5];refine(j1z p _).w ?_;rintro st' rfl;cases h6:Z0c p with
 | false=>
  rw[J0x (fun h=>by rw[h6] at h;cases h.2.2.2.2.2)];simp-dsimp only[go_sem]
  try rfl
 | true=>
 rw[k1h h1 h2 h3 h4 h5 h6];unfold z2j;obtain⟨n1,n4, -, -,frl, -,frb⟩:=X0v h1;refine Y4w ?_
 --the middle
 refine W4t ?_;refine(q1q z p _ wz).w ?_;rintro st' rfl;have wmid:=H1i z p wz;have mrt:=Q2m (z:=z) (p:=p);generalize midB z p=M at*
 refine Y4w ?_;refine Q0d (Q0a ?_);by_cases e1:M.2=0;rotate_left;have d1:(M.2 !=0)=true:=bne_iff_ne.2 e1;rw[if_pos e1];simp-dsimp only[go_sem,d1]
 try rfl
 have d1:(M.2 !=0)=false:=by rw[e1];rfl
 rw[if_neg (fun e=>e e1)];obtain⟨ml,mr⟩:=mrt e1;unfold Z3m;simp-dsimp only[go_sem,d1]
 --the product
 refine W4t ?_;refine(U0b f.a _ wa).plain.w ?_;rintro st' rfl;refine Y4w ?_;refine(q1o s (ofM f.a) p _ ws (w2p wa)).w ?_;rintro st' rfl;have wc:=Z1v s (ofM f.a) p;have rc:=Q2h (a:=s) (b:=ofM f.a) (p:=p);generalize mulM s (ofM f.a) p=C at*
 refine Y4w ?_;refine Q0d (Q0a ?_);by_cases e2:C.2=0;rotate_left;have d2:(C.2 !=0)=true:=bne_iff_ne.2 e2;rw[if_pos e2];simp-dsimp only[go_sem,d2]
 try rfl
 have d2:(C.2 !=0)=false:=by rw[e2];rfl
 rw[if_neg (fun e=>e e2)];unfold Z3j;obtain⟨rc,lc⟩:=rc e2;simp-dsimp only[go_sem,d2]
 --the columns
 refine W4t ?_;refine(H2q C.1 p _ wc rc).w ?_;rintro st' rfl;have wt:=W3h (n:=0) (p:=p) rc;have trt:=U3x (p:=p) rc;have hR:H1m C.1 p=if (Y0j C.1 p).2≠0 then(([],[]),(Y0j C.1 p).2) else Y0j C.1 p:=rfl;generalize H1m C.1 p=T' at*
 generalize Y0j C.1 p=T at*
 refine Y4w ?_;refine Q0d (Q0a ?_);by_cases e3:T.2=0;rotate_left;rw[if_pos e3] at hR;subst hR;have d3:(T.2 !=0)=true:=bne_iff_ne.2 e3;rw[if_pos e3];simp-dsimp only[go_sem,d3]
 try rfl
 rw[if_neg (fun e=>e e3)] at hR;subst hR;obtain⟨⟨tb,tv⟩,te⟩:=T';have d3:(te !=0)=false:=(by have:te=0:=e3;rw[this];rfl);rw[if_neg (fun e=>e e3)];have wt:=wt e3;obtain⟨rt,lt⟩:=trt e3;simp only at wt rt lt;rw[Y2e];have he1:e02 (opB 1 z (ofB M.1) p).2:=v3e h2 (z2a oG oG mr) (by simp[ofB];omega) h6;have hD:=G0n (k:=1) (a:=z) (b:=ofB M.1) (p:=p);have hDl:=fun h=>(Q2b (k:=1) (a:=z) (b:=ofB M.1) (p:=p) h).2.1;have he2:e02 (mulM tv C.1 p).2:=H3s rt rc oG h6;have hV:=Q2h (a:=tv) (b:=C.1) (p:=p);have wV:=Z1v tv C.1 p;simp-dsimp only[go_sem,d3];refine W4t ?_;refine(q1o tv C.1 p _ wt wc).w ?_;rintro st' rfl;generalize mulM tv C.1 p=V at*
 generalize hDD:opB 1 z (ofB M.1) p=D at*
 refine Y4w ?_;refine Q0d (Q0a ?_);by_cases e4:V.2=0;rotate_left;have d4:(V.2 !=0)=true:=bne_iff_ne.2 e4;have v2:V.2=2:=he2.resolve_left e4;simp-dsimp only[go_sem,d4];rcases he1 with h | h;rw[if_neg (fun e=>e h),if_pos e4];try rfl
 rw[if_pos (by rw[h];decide),h,v2];try rfl
 have d4:(V.2 !=0)=false:=by rw[e4];rfl
 obtain⟨rV,lV⟩:=hV e4;have he3:e02 (vecM V.1 f.r p).2:=U3m rV frb oG h6;have hX:=U3l (m:=V.1) (b:=f.r) (p:=p);have wX:=Q1z V.1 f.r p;simp-dsimp only[go_sem,d4];refine W4t ?_;refine(G2d V.1 f.r p _ wV wr).w ?_;rintro st' rfl;generalize vecM V.1 f.r p=X at*
 refine Y4w ?_;refine Q0d (Q0a ?_);by_cases e5:X.2=0;rotate_left;have d5:(X.2 !=0)=true:=bne_iff_ne.2 e5;have v2:X.2=2:=he3.resolve_left e5;simp-dsimp only[go_sem,d5];rcases he1 with h | h;rw[if_neg (fun e=>e h),if_neg (fun e=>e e4),if_pos e5];try rfl
 rw[if_pos (by rw[h];decide),h,v2];try rfl
 have d5:(X.2 !=0)=false:=by rw[e5];rfl
 simp-dsimp only[go_sem,d5];refine W4t ?_;refine(J1t M.1 _ wmid).plain.w ?_;rintro st' rfl;refine Y4w ?_;refine(q1j z (ofB M.1) p _ wz (z0p wmid)).w ?_;rintro st' rfl;rw[hDD];clear hDD;refine Y4w ?_;refine Q0d (Q0a ?_);by_cases e6:D.2=0;rotate_left;have d6:(D.2 !=0)=true:=bne_iff_ne.2 e6;rw[if_pos e6];simp-dsimp only[go_sem,d6]
 try rfl
 have d6:(D.2 !=0)=false:=by rw[e6];rfl
 rw[if_neg (fun e=>e e6),if_neg (fun e=>e e4),if_neg (fun e=>e e5)];have wD:=G0v (hD e6);simp-dsimp only[go_sem,d6];refine W4t ?_;refine(G2d tv D.1 p _ wt wD).w ?_;rintro st' rfl;have wY:=Q1z tv D.1 p;generalize vecM tv D.1 p=Y at*
 refine Y4w ?_;refine Q0d (Q0a ?_);by_cases e7:Y.2=0;rotate_left;have d7:(Y.2 !=0)=true:=bne_iff_ne.2 e7;rw[if_pos e7];simp-dsimp only[go_sem,d7]
 try rfl
 have d7:(Y.2 !=0)=false:=by rw[e7];rfl
 rw[if_neg (fun e=>e e7)];simp-dsimp only[go_sem,d7];refine W4t ?_;refine(J2m X.1 Y.1 p _ wX wY).w ?_;rintro st' rfl;generalize opB 0 X.1 Y.1 p=S at*
 refine Y4w ?_;refine Q0d (Q0a ?_);by_cases e8:S.2=0;rotate_left;have d8:(S.2 !=0)=true:=bne_iff_ne.2 e8;rw[if_pos e8];simp-dsimp only[go_sem,d8]
 try rfl
 have d8:(S.2 !=0)=false:=by rw[e8];rfl
 rw[if_neg (fun e=>e e8)];simp-dsimp only[go_sem,d8];refine Q0a ?_;simp-dsimp only[go_sem]
 try rfl
theorem V0m :wFm default:=⟨⟨Nat.zero_le _,fun i hi=>absurd hi (Nat.not_lt_zero i)⟩,⟨Nat.zero_le _,fun i hi=>absurd hi (Nat.not_lt_zero i)⟩,⟨Nat.zero_le _,fun i hi=>absurd hi (Nat.not_lt_zero i)⟩⟩
theorem J3r (b:List Ivl)(p:Int):wFm (v0k b p).1:=by unfold v0k;split;exact V0m;rename_i h1;split;exact V0m;rename_i h2;have h1:=Classical.not_not.1 h1;have hl:=K1a h1;have hm:=Q2m h1;refine⟨⟨by show(midB b p).1.length<=_;omega,fun i hi=>Q0o (hm.2 _ (Q0r _ _ _ hi))⟩,?_,G0v (G0n (Classical.not_not.1 h2))⟩;have e:oneQ (b.length:Int)=Q3z b.length:=(by rw[oneQ,if_pos oG];rfl);show wQs (Q3z b.length);rw[<-e];exact Z1s _
theorem H3p {f:Fm}{m:List Nm}{c:Mx}{t:List (List Nm)×Mx}{d:List Ivl}{p:Int}(hm:wNs' m)(ht:wQs t.1):wFm (z2i f m c t d p).1:=by unfold z2i;split;exact V0m;rename_i h;have h:=Classical.not_not.1 h;unfold H1x at h⊢;split at h;rename_i c;exact absurd h c;rename_i c1;rw[if_neg c1];split at h;rename_i c;exact absurd h c;rename_i c2;rw[if_neg c2];split at h;rename_i c;exact absurd h c;rename_i c3;rw[if_neg c3];exact⟨hm,ht,G0v (G0n h)⟩
theorem U3w {c:Mx}{p:Int}(h:(Y0j c p).2=0):wQs (Y0j c p).1.1:=by unfold Y0j at h⊢;split;exact Z1s _;rename_i c3;rw[if_neg c3] at h;unfold ownF at h⊢;split at h;rename_i c;exact absurd h c;rename_i c1;rw[if_neg c1];split at h;rename_i c;exact absurd h c;rename_i c2;rw[if_neg c2];exact Z2j (Classical.not_not.1 c2)
theorem Z3l (f:Fm)(z:List Ivl)(s:Mx)(p:Int):wFm (x0l f z s p).1:=by unfold x0l;split;rotate_left;exact V0m;unfold z2j;split;exact V0m;rename_i h1;have h1:=Classical.not_not.1 h1;have hl:=K1a h1;have hm:=Q2m h1;unfold Z3m;split;exact V0m;unfold Z3j;split;exact V0m;rename_i h3;unfold z2k;split;exact V0m;exact H3p ⟨oG,fun i hi=>Q0o (hm.2 _ (Q0r _ _ _ hi))⟩ (U3w (Classical.not_not.1 h3))
theorem q3m (f:Fm)(p:Int):wB (J1h f p).1:=by
 unfold J1h;split;split;exact⟨Nat.zero_le _,fun i hi=>absurd hi (Nat.not_lt_zero i)⟩;by_cases hh:(opB 0 (ofB f.m) (vecM (ofM f.a) f.r p).1 p).2=0;exact G0v (G0n hh);have he:(opB 0 (ofB f.m) (vecM (ofM f.a) f.r p).1 p).1= []:=by unfold opB at hh⊢;split at hh;rename_i c;rw[if_pos c];rw[W0c] at hh⊢;exact x1o _ _ _ hh;rename_i c;rw[if_neg c]
 rw[he];exact⟨Nat.zero_le _,fun i hi=>absurd hi (Nat.not_lt_zero i)⟩;exact⟨Nat.zero_le _,fun i hi=>absurd hi (Nat.not_lt_zero i)⟩
set_option maxHeartbeats 8000000 in
theorem J1o (f:Fm)(z:List Ivl)(s:Mx)(p:Int)(st:Q0f)(hf:wFm f)(wz:wB z)(ws:wM s):PR 32 [.agg (Y0p f),.sl .no (Q0z z),.sl .no (encM s),.sc (.int .i64 p)] st (.sc (.bool true)):=by
 refine Q0b none Tryz.func32 rfl fun E=>Q0d (Q0a ?_);refine Y4w ?_;refine W4t ?_;refine(K2o f p _ hf).w ?_;rintro st' rfl;refine Y4w ?_;refine W4t ?_;refine(W2s f p _ hf).w ?_;rintro st' rfl;have wh:=q3m f p;generalize J1h f p=H at*
 refine Y4w ?_;refine W4t ?_;refine(K2n f z s p _ hf wz ws).w ?_;rintro st' rfl;refine Y4w ?_;refine W4t ?_;refine(W2r f z s p _ hf wz ws).w ?_;rintro st' rfl;have wn:=Z3l f z s p;generalize x0l f z s p=N at*
 refine Y4w ?_;refine W4t ?_;refine(Y3h z p _ wz).w ?_;rintro st' rfl;refine Y4w ?_;refine W4t ?_;refine(j2d z p _ wz).w ?_;rintro st' rfl;have wo:=J3r z p;generalize v0k z p=O at*
 refine Y4w ?_;have q1:(H.2==H.2)=true:=beq_self_eq_true _;have q2:(N.2==N.2)=true:=beq_self_eq_true _;have q3:(O.2==O.2)=true:=beq_self_eq_true _;have q4:decide (H.1=H.1)=true:=q_h rfl;have q5:decide (N.1=N.1)=true:=q_h rfl;have q6:decide (O.1=O.1)=true:=q_h rfl;have q7:(X0m f==X0m f)=true:=beq_self_eq_true _;refine Q0d ?_;refine j1y Z0b 96 [⟨0,0,false,false⟩,⟨1,0,false,false⟩,⟨2,3,false,false⟩,⟨3,4,false,false⟩,⟨4,8,false,false⟩,⟨5,8,false,false⟩,⟨6,56,false,false⟩,⟨7,72,false,false⟩,⟨8,136,false,false⟩,⟨9,256,false,false⟩,⟨10,256,false,false⟩,⟨11,1792,false,false⟩,⟨12,2304,false,false⟩,⟨13,4352,false,false⟩,⟨14,8192,false,false⟩,⟨15,8192,false,false⟩,⟨16,57344,false,true⟩,⟨17,73728,false,false⟩,⟨18,196608,false,false⟩,⟨19,262144,true,false⟩,⟨20,262144,true,false⟩,⟨21,1835008,false,true⟩,⟨22,2359296,false,false⟩,⟨23,6291456,false,false⟩,⟨24,8388608,true,false⟩,⟨25,8388608,true,false⟩,⟨26,58720256,false,true⟩,⟨27,75497472,false,false⟩,⟨28,201326592,false,false⟩,⟨29,268435456,true,false⟩,⟨30,805306368,false,true⟩,⟨31,268435456,true,false⟩,⟨32,3489660928,false,true⟩,⟨33,5637144576,false,false⟩,⟨34,8858370048,false,false⟩,⟨35,34359738367,false,false⟩] (.step 0 [] (.step 1 [] (.step 2 [] (.step 3 [] (.step 4 [] (.step 5 [] (.step 6 [] (.step 7 [] (.step 8 [] (.step 9 [] (.step 10 [] (.step 11 [] (.step 12 [] (.step 13 [] (.step 14 [] (.step 15 [] (.step 16 [] (.step 17 [] (.step 18 [] (.step 19 [] (.step 20 [] (.step 21 [] (.step 22 [] (.step 23 [] (.step 24 [] (.step 25 [] (.step 26 [] (.step 27 [] (.step 28 [] (.step 29 [] (.step 31 [] (.step 30 [19,20,31] (.step 32 [19,20] (.step 33 [] (.step 34 [] (.step 35 [] (.done))))))))))))))))))))))))))))))))))))) (by decide+kernel) (by decide+kernel) (by simp) ?_;simp-dsimp only[go_sem,q1,q2,q3];refine(x1y H.1 H.1 _ wh wh).w ?_;rintro st' rfl;simp-dsimp only[go_sem,q4];refine(K1s N.1 N.1 _ wn wn).w ?_;rintro st' rfl;simp-dsimp only[go_sem,q5];refine(K1s O.1 O.1 _ wo wo).w ?_;rintro st' rfl;simp-dsimp only[go_sem,q6];refine(Y0h f _ hf).w ?_;rintro st' rfl;refine Y4w ?_;refine(j0e f _ hf).w ?_;rintro st' rfl;simp-dsimp only[go_sem,q7];refine Q0a ?_;simp-dsimp only[go_sem,q7]
def K0p :Nm:=⟨false,1,[1]⟩
def k18f :Fm:=⟨[⟨false,0,[1]⟩],[[⟨false,0,[1]⟩]],[⟨⟨true,0,[1]⟩,⟨false,0,[1]⟩⟩]⟩
def k18n :Fm:=⟨[⟨false,1,[1]⟩],[[⟨false, -1,[1]⟩]],[⟨⟨true,2,[1]⟩,⟨false,2,[1]⟩⟩]⟩
theorem k18a :v0k [⟨default,K0p⟩] 16=(k18f,0):=by decide+kernel
theorem k18b :J1h k18f 16=([⟨default,K0p⟩],0):=by decide+kernel
theorem k18c :x0l k18f [⟨K0p,K0p⟩] [[⟨K0p,K0p⟩]] 16=(k18n,0):=by decide+kernel
theorem k18r :X0m k18f=true:=by decide+kernel
theorem G2c {a:Ivl}(h:wI a):wB [a]:=⟨by simp,fun i hi=>by have:i=0:=(by simpa using hi);subst this;exact h⟩
theorem Y2p (x:Nm)(st:Q0f)(hx:wN x):PR 90 [.agg (encN x)] st (.sc (.bool (decide (x=default)))):=by unfold wN at hx;refine W4y Tryz.func90 fun E=> ?_;refine(U0w x default _ oG (by decide)).w ?_;rintro st' rfl;exact Y4v
set_option maxHeartbeats 16000000 in
theorem x2n (st:Q0f):PR 30 [] st (.sc (.bool true)):=by
 have wt:wN K0p:=Q0o (by decide);have wd:wN default:=Q0o (by decide);have wf:=j1i k18r;have c1:=Y3h [⟨default,K0p⟩] 16 st (G2c ⟨wd,wt⟩);have c2:=K2o k18f 16 st wf;have c3:=K2n k18f [⟨K0p,K0p⟩] [[⟨K0p,K0p⟩]] 16 st wf (G2c ⟨wt,wt⟩) ⟨by simp,fun i hi=>by have:i=0:=(by simpa using hi);subst this;exact G2c ⟨wt,wt⟩⟩;rw[k18a] at c1;rw[k18b] at c2;rw[k18c] at c3;refine Q0b none Tryz.func30 rfl fun E=>Q0d (Q0a ?_);refine Y4w ?_;refine W4t ?_;refine W4t ?_;refine c1.w ?_;rintro st' rfl;refine Y4w ?_;refine W4t ?_;refine c2.w ?_;rintro st' rfl;refine Y4w ?_;refine Q0d ?_;refine Q0k Z0b 124 (X2p [0,1,4] (.alt (.step 2 [0,4] (.step 3 [] (.alt (.step 5 [0] (.step 6 [] (.step 7 [] (.alt (X2p [8,9,10,11] (.step 12 [0,1,4] (.step 13 [] (.step 14 [] (.done))))) (.step 12 [0,1,4] (X2p [8,9,10,11,13,14] .done)))))) (.step 12 [0,1,4] (.step 5 [0] (X2p [6,7,8,9,10,11,13,14] .done)))))) (.step 12 [0,1,4] (.step 2 [0,4] (.step 3 [] (.step 5 [0] (X2p [6,7,8,9,10,11,13,14] .done))))))) (by decide+kernel) (by simp) ?_;refine Y4w ?_;refine And.intro ?_ ?_
 all_goals
  refine(G1i K0p _ wt).w ?_;rintro st' rfl;simp-dsimp only[go_sem]
  try refine And.intro ?_ ?_
 all_goals
  refine(G1i K0p _ wt).w ?_;rintro st' rfl;simp-dsimp only[go_sem]
  try refine And.intro ?_ ?_
 all_goals
  refine c3.w ?_;rintro st' rfl;simp-dsimp only[go_sem]
 all_goals
  have z0:((0:Int)==0)=true:=rfl;have z1:(((1:Nat):Int)==1)=true:=rfl;have f1:k18f.m= [⟨false,0,[1]⟩]:=rfl;have f2:(Q0u [⟨false,0,[1]⟩]).getD 0 .junk= .agg (encN ⟨false,0,[1]⟩):=rfl;have f3:(Q0z [(⟨default,K0p⟩:Ivl)]).getD 0 .junk= .agg (encI ⟨default,K0p⟩):=rfl;have f4:k18n.m= [K0p]:=rfl;have f5:(Q0u [K0p]).getD 0 .junk= .agg (encN K0p):=rfl;have f6:k18n.a.length=1:=rfl;have f7:(encQ k18n.a).getD 0 .junk= .sl .no (Q0u [⟨false, -1,[1]⟩]):=rfl;have f8:k18n.r.length=1:=rfl;refine Q0d ?_;refine j1y Z0b 124 [⟨0,0,false,false⟩,⟨1,1,false,false⟩,⟨2,2,false,false⟩,⟨3,4,false,false⟩,⟨4,12,false,false⟩,⟨5,20,false,false⟩,⟨6,36,false,false⟩,⟨7,64,false,false⟩,⟨8,192,false,false⟩,⟨9,320,false,false⟩,⟨10,576,false,false⟩,⟨11,1024,false,false⟩,⟨12,3072,true,false⟩,⟨13,5120,false,false⟩,⟨14,9216,false,false⟩,⟨15,17408,false,false⟩,⟨16,33792,false,false⟩,⟨17,65536,false,false⟩,⟨18,196608,true,false⟩,⟨19,327680,false,false⟩,⟨20,589824,true,false⟩,⟨21,65536,true,false⟩,⟨22,3211264,false,true⟩,⟨23,4259840,false,false⟩,⟨24,12582912,false,false⟩,⟨25,16777216,false,false⟩,⟨26,50331648,false,false⟩,⟨27,83886080,false,false⟩,⟨28,150994944,false,false⟩,⟨29,285212672,false,false⟩,⟨30,536870912,false,false⟩,⟨31,1610612736,false,false⟩,⟨32,2684354560,false,false⟩,⟨33,4831838208,true,false⟩,⟨34,536870912,true,false⟩,⟨35,26306674688,false,true⟩,⟨36,34896609280,false,false⟩,⟨37,103079215104,false,false⟩,⟨38,137438953472,false,false⟩,⟨39,412316860416,false,false⟩,⟨40,687194767360,false,false⟩,⟨41,1236950581248,true,false⟩,⟨42,2336462209024,false,true⟩,⟨43,4535485464576,false,false⟩,⟨44,13194139533312,false,false⟩,⟨45,17592186044416,true,false⟩,⟨46,52776558133248,false,true⟩,⟨47,87960930222080,false,false⟩,⟨48,211106232532992,false,false⟩,⟨49,281474976710656,true,false⟩,⟨50,281474976710656,true,false⟩,⟨51,1970324836974592,false,true⟩,⟨52,2533274790395904,false,false⟩,⟨53,6755399441055744,false,false⟩,⟨54,9007199254740992,false,false⟩,⟨55,27021597764222976,true,false⟩,⟨56,45035996273704960,false,false⟩,⟨57,81064793292668928,false,false⟩,⟨58,153122387330596864,false,false⟩,⟨59,297237575406452736,false,false⟩,⟨60,576460752303423488,false,false⟩,⟨61,1729382256910270464,true,false⟩,⟨62,2882303761517117440,false,false⟩,⟨63,5188146770730811392,true,false⟩,⟨64,576460752303423488,true,false⟩,⟨65,28246576862867750912,false,true⟩,⟨66,37469948899722526720,false,false⟩,⟨67,110680464442257309696,false,false⟩,⟨68,147573952589676412928,false,false⟩,⟨69,442721857769029238784,true,false⟩,⟨70,737869762948382064640,false,false⟩,⟨71,1328165573307087716352,false,false⟩,⟨72,2508757194024499019776,false,false⟩,⟨73,4869940435459321626624,false,false⟩,⟨74,9444732965739290427392,false,false⟩,⟨75,28334198897217871282176,true,false⟩,⟨76,47223664828696452136960,false,false⟩,⟨77,85002596691653613846528,true,false⟩,⟨78,160560460417567937265664,false,false⟩,⟨79,311676187869396584103936,false,false⟩,⟨80,613907642773053877780480,false,false⟩,⟨81,1218370552580368465133568,false,false⟩,⟨82,2417851639229258349412352,false,false⟩,⟨83,7253554917687775048237056,true,false⟩,⟨84,12089258196146291747061760,false,false⟩,⟨85,21760664753063325144711168,false,false⟩,⟨86,41103477866897391940009984,false,false⟩,⟨87,154742504910672534362390527,false,false⟩] (.step 0 [] (.step 1 [] (.step 2 [] (.step 3 [] (.step 4 [] (.step 5 [] (.step 6 [] (.step 7 [] (.step 8 [] (.step 9 [] (.step 10 [] (.step 11 [] (.step 12 [] (.step 13 [] (.step 14 [] (.step 15 [] (.step 16 [] (.step 17 [] (.step 18 [] (.step 19 [] (.step 20 [] (.step 21 [] (.step 22 [12] (.step 23 [] (.step 24 [] (.step 25 [] (.step 26 [] (.step 27 [] (.step 28 [] (.step 29 [] (.step 30 [] (.step 31 [] (.step 32 [] (.step 33 [] (.step 34 [] (.step 35 [12,18,20,21] (.step 36 [] (.step 37 [] (.step 38 [] (.step 39 [] (.step 40 [] (.step 41 [] (.step 42 [12,18,20,21] (.step 43 [] (.step 44 [] (.step 45 [] (.step 46 [12,18,20,21,33,34] (.step 47 [] (.step 48 [] (.step 49 [] (.step 50 [] (.step 51 [12,18,20,21,33,34,41] (.step 52 [] (.step 53 [] (.step 54 [] (.step 55 [] (.step 56 [] (.step 57 [] (.step 58 [] (.step 59 [] (.step 60 [] (.step 61 [] (.step 62 [] (.step 63 [] (.step 64 [] (.step 65 [12,18,20,21,33,34,41,45,49,50,55] (.step 66 [] (.step 67 [] (.step 68 [] (.step 69 [] (.step 70 [] (.step 71 [] (.step 72 [] (.step 73 [] (.step 74 [] (.step 75 [] (.step 76 [] (.step 77 [] (.step 78 [] (.step 79 [] (.step 80 [] (.step 81 [] (.step 82 [] (.step 83 [] (.step 84 [] (.step 85 [] (.step 86 [] (.step 87 [] (.done))))))))))))))))))))))))))))))))))))))))))))))))))))))))))))))))))))))))))))))))))))))))) (by decide+kernel) (by decide+kernel) (by simp) ?_;simp-dsimp only[go_sem,z0,z1,f1,f2,f3,f4,f5,f6,f7,f8,Y1r,w0m,List.append_eq,List.cons_append,List.nil_append];refine(U0w ⟨false,0,[1]⟩ ⟨false,0,[1]⟩ _ (by decide) (by decide)).w ?_;rintro st' rfl;rw[q_h (rfl:(⟨false,0,[1]⟩:Nm)=⟨false,0,[1]⟩)];simp-dsimp only[go_sem,z0,z1,f1,f2,f3,f4,f5,f6,f7,f8,Y1r,w0m,List.append_eq,List.cons_append,List.nil_append];refine(U0w K0p K0p _ (by decide) (by decide)).w ?_;rintro st' rfl;rw[q_h (rfl:K0p=K0p)];simp-dsimp only[go_sem,z0,z1,f1,f2,f3,f4,f5,f6,f7,f8,Y1r,w0m,List.append_eq,List.cons_append,List.nil_append];refine(Y2p default _ wd).w ?_;rintro st' rfl;rw[q_h (rfl:(default:Nm)=default)];simp-dsimp only[go_sem,z0,z1,f1,f2,f3,f4,f5,f6,f7,f8,Y1r,w0m,List.append_eq,List.cons_append,List.nil_append];refine(Y0h k18f _ wf).w ?_;rintro st' rfl;rw[k18r];simp-dsimp only[go_sem,z0,z1,f1,f2,f3,f4,f5,f6,f7,f8,Y1r,w0m,List.append_eq,List.cons_append,List.nil_append];refine(J3t k18f k18f _ wf wf).w ?_;rintro st' rfl;rw[q_h (rfl:k18f=k18f)];simp-dsimp only[go_sem,z0,z1,f1,f2,f3,f4,f5,f6,f7,f8,Y1r,w0m,List.append_eq,List.cons_append,List.nil_append];refine(U0w K0p K0p _ (by decide) (by decide)).w ?_;rintro st' rfl;rw[q_h (rfl:K0p=K0p)];simp-dsimp only[go_sem,z0,z1,f1,f2,f3,f4,f5,f6,f7,f8,Y1r,w0m,List.append_eq,List.cons_append,List.nil_append];refine Q0a ?_;simp-dsimp only[go_sem]
end Go.Pv
end
