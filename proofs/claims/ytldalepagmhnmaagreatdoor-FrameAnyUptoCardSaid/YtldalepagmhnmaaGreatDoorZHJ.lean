/- Parts of the walk: N187, N188, N189, N190, N191. -/
import Derived.Test.YtldalepagmhnmaaGreatDoorZHI
import Derived.Test.YtldalepagmhnmaaGreatDoorZFK
set_option linter.unusedVariables false
set_option linter.unusedSimpArgs false
section
set_option maxRecDepth 100000
namespace Go.Pv
open Go.Proofs
theorem V2j (f:Fm)(p:Int)(st:Q0g)(hf:wFm f):PCalls Tryz.prog 91 [.agg (K0u f),.sc (.int .i64 p)] st
 (fun r st'=>r= .tup [.sl .no (Q0z (X1r f p).1),.sc (.int .i64 (X1r f p).2)]/\st'=st):=by
 obtain⟨wm,wa,wr⟩:=hf;refine Q0b none Tryz.func91 rfl fun E=>Q0c (Q0a ?_);refine K4w ?_;refine J4x ?_;refine(x0l f _ ⟨wm,wa,wr⟩).w ?_;rintro st' rfl;cases hr:X0n f with
 | false=>
  rw[y0q (fun h=>by rw[hr] at h;cases h.1)];exact K4v
 | true=>
 refine K4w ?_;refine(j1b p _).w ?_;rintro st' rfl;cases hp:Z0b p with
 | false=>
  rw[y0q (fun h=>by rw[hp] at h;cases h.2)];exact K4v
 | true=>
 rw[X2y ⟨hr,hp⟩];refine K4w ?_;refine Q0c ?_;refine Q0k Z0c 37 (Z2k [0,1,3,4,5] (.step 2 [4] (Z2k [6,7,8,9,10,11] .done))) (by decide+kernel) (by simp) ?_;refine K4w ?_;refine(Y0s f.a _ wa).plain.w ?_;rintro st' rfl;refine K4w ?_;refine(Y2l (ofM f.a) f.r p _ (k2r wa) wr).w ?_;rintro st' rfl;have wv:=Q1i (ofM f.a) f.r p;generalize vecM (ofM f.a) f.r p=V at*
 refine K4w ?_;refine Q0c (Q0a ?_);by_cases h1:V.2=0;rotate_left;have d1:(V.2 !=0)=true:=bne_iff_ne.2 h1;rw[if_pos h1];simp-dsimp only[go_sem,d1];have d1:(V.2 !=0)=false:=(by rw[h1];rfl);rw[if_neg (fun e=>e h1)];simp-dsimp only[go_sem,d1];refine J4y ?_;refine(J1b f.m _ wm).plain.w ?_;rintro st' rfl;refine K4w ?_;refine(X2f (ofB f.m) V.1 p _ (q0z wm) wv).w ?_;rintro st' rfl;exact K4v
def G1s (c:Mx)(p:Int):(List (List Nm)×Mx)×Int:=if (W0x c p).2≠0 then(([],[]),(W0x c p).2) else W0x c p
theorem w1e {c:Mx}{p:Int}(h:(ownF c p).2=3):G1s c p=((oneQ c.length,idM c.length),0):=by unfold G1s W0x;rw[if_pos h,if_neg (fun e=>e rfl)]
theorem Y2p {c:Mx}{p:Int}(h:(ownF c p).2≠3):G1s c p=if (ownF c p).2≠0 then(([],[]),(ownF c p).2) else ownF c p:=by unfold G1s W0x;rw[if_neg h]
theorem U2y (c:Mx)(p:Int)(st:Q0g)(wc:wM c)(rc:rightM c=true):PCalls Tryz.prog 173 [.sl .no (encM c),.sc (.int .i64 p)] st
 (fun r st'=>r= .tup [.sl .no (encQ (G1s c p).1.1),.sl .no (encM (G1s c p).1.2),.sc (.int .i64 (G1s c p).2)]/\st'=st):=by
 have wone:wQ (oneQ (c.length:Int)):=Z1b _;have hid:ofM (oneQ (c.length:Int))=idM c.length:=H1o _;refine Q0b none Tryz.func173 rfl fun E=>Q0c (Q0a ?_);have m3:=j3g (c:=c) (p:=p);have ho:ownF c p=if (midM c p).2≠0 then(([],[]),(midM c p).2) else if (W0q (midM c p).1 p).2≠0 then(([],[]),(W0q (midM c p).1 p).2) else(((W0q (midM c p).1 p).1,(V0l (W0q (midM c p).1 p).1 p).1),(V0l (W0q (midM c p).1 p).1 p).2):=rfl;have hplain:=w1e (c:=c) (p:=p);have hown:=Y2p (c:=c) (p:=p);refine K4w ?_;refine J4x ?_;refine(U3f (c.length:Int) _).w ?_;rintro st' rfl;refine K4w ?_;refine J4x ?_;refine(y2s c p _ wc).w ?_;rintro st' rfl;have wq:=H2x c p;generalize midM c p=M at*
 refine K4w ?_;refine Q0c (Q0a ?_);by_cases h1:M.2=0;rotate_left;have d1:(M.2 !=0)=true:=bne_iff_ne.2 h1;rw[if_pos h1] at ho;rw[hown (by rw[ho];exact m3),ho,if_pos h1];simp-dsimp only[go_sem,d1]
 try rfl
 have d1:(M.2 !=0)=false:=by rw[h1];rfl
 rw[if_neg (fun e=>e h1)] at ho;simp-dsimp only[go_sem,d1];refine J4x ?_;refine(x1u M.1 p _ wq).w ?_;rintro st' rfl;have wcq:=Q2g (a:=M.1) (p:=p);generalize W0q M.1 p=B at*
 refine K4w ?_;refine Q0c (Q0a ?_);by_cases h2:B.2=0;rotate_left;rw[if_pos h2] at ho;by_cases h3:B.2=3;have z3:(B.2==3)=true:=(by rw[h3];rfl);rw[hplain (by rw[ho];exact h3)];simp-dsimp only[go_sem,z3];refine(Y0s (oneQ (c.length:Int)) _ wone).plain.w ?_;rintro st' rfl;simp-dsimp only[go_sem,hid]
 try rfl
 have z3:(B.2==3)=false:=(by simpa using h3);have d2:(B.2 !=0)=true:=bne_iff_ne.2 h2;rw[hown (by rw[ho];exact h3),ho,if_pos h2];simp-dsimp only[go_sem,z3];refine Q0c (Q0a ?_);simp-dsimp only[go_sem,d2]
 try rfl
 have z3:(B.2==3)=false:=by rw[h2];rfl
 have d2:(B.2 !=0)=false:=by rw[h2];rfl
 rw[if_neg (fun e=>e h2)] at ho;simp-dsimp only[go_sem,z3];refine Q0c (Q0a ?_);simp-dsimp only[go_sem,d2];refine J4x ?_;refine(G2a B.1 p _ (wcq h2)).w ?_;rintro st' rfl;generalize V0l B.1 p=V at*
 refine K4w ?_;refine Q0c (Q0a ?_);by_cases h3:V.2=3;have z4:(V.2==3)=true:=(by rw[h3];rfl);rw[hplain (by rw[ho];exact h3)];simp-dsimp only[go_sem,z4];refine(Y0s (oneQ (c.length:Int)) _ wone).plain.w ?_;rintro st' rfl;simp-dsimp only[go_sem,hid]
 try rfl
 have z4:(V.2==3)=false:=(by simpa using h3);rw[hown (by rw[ho];exact h3),ho];simp-dsimp only[go_sem,z4];refine Q0c (Q0a ?_);by_cases h4:V.2=0;have d4:(V.2 !=0)=false:=(by rw[h4];rfl);rw[if_neg (fun e=>e h4)];simp-dsimp only[go_sem,d4];refine Q0a ?_;simp-dsimp only[go_sem,h4]
 try rfl
 have d4:(V.2 !=0)=true:=bne_iff_ne.2 h4;rw[if_pos h4];simp-dsimp only[go_sem,d4]
 try rfl
theorem y1j {z:List Ivl}{p:Int}(h:(midB z p).2=0):(midB z p).1.length=z.length/\ ∀x∈(midB z p).1,Q0h x=true:=by unfold midB at h⊢;split at h;rename_i c;rw[if_pos c];rw[W0a] at h⊢;exact⟨(U0u h).1,z0a (fun x=>Q0h x=true) _ 0 [] (fun j _ _=>Z1f _ _) (fun x hx=>by cases hx)⟩;exact absurd h (by decide)
theorem y2t {c:Mx}{p:Int}(h:(midM c p).2=0):(midM c p).1.length=c.length:=by unfold midM at h⊢;split at h;rename_i hc;rw[if_pos hc];exact(U0u h).1;exact absurd h (by decide)
theorem W3t {c:Mx}{p:Int}(rc:rightM c=true)(h:(W0x c p).2=0):rightM (W0x c p).1.2=true/\(W0x c p).1.2.length=c.length:=by unfold W0x at h⊢;split;have hl:=Z0x rc;obtain⟨si,hil⟩:=K3e hl.1 hl.2;exact⟨si.right,hil⟩;rename_i c3;rw[if_neg c3] at h;unfold ownF at h⊢;split at h;rename_i c;exact absurd h c;rename_i c1;rw[if_neg c1];split at h;rename_i c;exact absurd h c;rename_i c2;rw[if_neg c2];refine⟨J1v h,?_⟩;rw[(J1u h).2.1,(J2o (Classical.not_not.1 c2)).1,y2t (Classical.not_not.1 c1)]
theorem H2f {q:List Nm}(h1:1<=q.length)(h4:q.length<=4)(h: ∀x∈q,Q0h x=true):rightB (ofB q)=true:=by have hl:(ofB q).length=q.length:=(by simp[ofB]);refine G0k (fun i hi=> ?_) oG oG;rw[hl] at hi;rw[w1z hi];exact K1t (h _ (Q0q _ _ _ hi))
theorem V2u (f:Fm)(z:List Ivl)(m:List Nm)(c:Mx)(t:List (List Nm)×Mx)(p:Int):H2o f z m c t p=
 if (opB 1 z (ofB m) p).2≠0 then(default,(opB 1 z (ofB m) p).2) else if (mulM t.2 c p).2≠0 then(default,(mulM t.2 c p).2) else if (vecM (mulM t.2 c p).1 f.r p).2≠0 then(default,(vecM (mulM t.2 c p).1 f.r p).2)
 else if (vecM t.2 (opB 1 z (ofB m) p).1 p).2≠0 then(default,(vecM t.2 (opB 1 z (ofB m) p).1 p).2) else if (opB 0 (vecM (mulM t.2 c p).1 f.r p).1 (vecM t.2 (opB 1 z (ofB m) p).1 p).1 p).2≠0 then(default,(opB 0 (vecM (mulM t.2 c p).1 f.r p).1 (vecM t.2 (opB 1 z (ofB m) p).1 p).1 p).2)
 else(⟨m,t.1,(opB 0 (vecM (mulM t.2 c p).1 f.r p).1 (vecM t.2 (opB 1 z (ofB m) p).1 p).1 p).1⟩,0):=by
 unfold H2o H2m H1d;generalize (opB 1 z (ofB m) p)=D;generalize mulM t.2 c p=V;generalize vecM V.1 f.r p=X;generalize vecM t.2 D.1 p=Y;generalize opB 0 X.1 Y.1 p=S;obtain⟨d1,d2⟩:=D;obtain⟨v1,v2⟩:=V;obtain⟨x1,x2⟩:=X;obtain⟨y1,y2⟩:=Y;obtain⟨s1,s2⟩:=S;by_cases h1:d2=0<;>by_cases h2:v2=0<;>by_cases h3:x2=0<;>by_cases h4:y2=0<;>by_cases h5:s2=0<;>simp[h1,h2,h3,h4,h5]
set_option maxHeartbeats 16000000 in
theorem V2i (f:Fm)(z:List Ivl)(s:Mx)(p:Int)(st:Q0g)(hf:wFm f)(wz:wB z)(ws:wM s):PCalls Tryz.prog 92 [.agg (K0u f),.sl .no (Q0z z),.sl .no (encM s),.sc (.int .i64 p)] st
 (fun r st'=>r= .tup [.agg (K0u (z0u f z s p).1),.sc (.int .i64 (z0u f z s p).2)]/\st'=st):=by
 obtain⟨wm,wa,wr⟩:=hf;have wml:=wm.1;have wzl:=wz.1;have wsl:=ws.1;refine Q0b none Tryz.func92 rfl fun E=>Q0c (Q0a ?_);refine K4w ?_;refine J4x ?_;refine(x0l f _ ⟨wm,wa,wr⟩).w ?_;rintro st' rfl;cases h1:X0n f with
 | false=>
  rw[J0r (fun h=>by rw[h1] at h;cases h.1)];simp-dsimp only[go_sem]
  try rfl
 | true=>
 refine K4w ?_;refine(V0x z _ wz).w ?_;rintro st' rfl;cases h2:rightB z with
 | false=>
  rw[J0r (fun h=>by rw[h2] at h;cases h.2.1)];simp-dsimp only[go_sem]
  try rfl
 | true=>
 refine K4w ?_;refine(W0s s _ ws).w ?_;rintro st' rfl;cases h3:rightM s with
 | false=>
  rw[J0r (fun h=>by rw[h3] at h;cases h.2.2.1)];simp-dsimp only[go_sem]
  try rfl
 | true=>
 by_cases h4:z.length=f.m.length;rotate_left;have z4:((z.length:Int) !=(f.m.length:Int))=true:=bne_iff_ne.2 oG;rw[J0r (fun h=>h4 h.2.2.2.1)];simp-dsimp only[go_sem,z4]
 try rfl
 have z4:((z.length:Int) !=(f.m.length:Int))=false:=by rw[h4];simp
 by_cases h5:s.length=f.m.length;rotate_left;have z5:((s.length:Int) !=(f.m.length:Int))=true:=bne_iff_ne.2 oG;rw[J0r (fun h=>h5 h.2.2.2.2.1)];simp-dsimp only[go_sem,z4,z5]
 try rfl
 have z5:((s.length:Int) !=(f.m.length:Int))=false:=by rw[h5];simp
 simp-dsimp only[go_sem,z4,z5];refine(j1b p _).w ?_;rintro st' rfl;cases h6:Z0b p with
 | false=>
  rw[J0r (fun h=>by rw[h6] at h;cases h.2.2.2.2.2)];simp-dsimp only[go_sem]
  try rfl
 | true=>
 rw[j1j h1 h2 h3 h4 h5 h6];unfold H2n;obtain⟨n1,n4, -, -,frl, -,frb⟩:=X0s h1;refine K4w ?_
 --the middle
 refine J4x ?_;refine(H1u z p _ wz).w ?_;rintro st' rfl;have wmid:=G1o z p wz;have mrt:=y1j (z:=z) (p:=p);generalize midB z p=M at*
 refine K4w ?_;refine Q0c (Q0a ?_);by_cases e1:M.2=0;rotate_left;have d1:(M.2 !=0)=true:=bne_iff_ne.2 e1;rw[if_pos e1];simp-dsimp only[go_sem,d1]
 try rfl
 have d1:(M.2 !=0)=false:=by rw[e1];rfl
 rw[if_neg (fun e=>e e1)];obtain⟨ml,mr⟩:=mrt e1;unfold y2f;simp-dsimp only[go_sem,d1]
 --the product
 refine J4x ?_;refine(Y0s f.a _ wa).plain.w ?_;rintro st' rfl;refine K4w ?_;refine(H1s s (ofM f.a) p _ ws (k2r wa)).w ?_;rintro st' rfl;have wc:=Z1e s (ofM f.a) p;have rc:=y1e (a:=s) (b:=ofM f.a) (p:=p);generalize mulM s (ofM f.a) p=C at*
 refine K4w ?_;refine Q0c (Q0a ?_);by_cases e2:C.2=0;rotate_left;have d2:(C.2 !=0)=true:=bne_iff_ne.2 e2;rw[if_pos e2];simp-dsimp only[go_sem,d2]
 try rfl
 have d2:(C.2 !=0)=false:=by rw[e2];rfl
 rw[if_neg (fun e=>e e2)];unfold y2c;obtain⟨rc,lc⟩:=rc e2;simp-dsimp only[go_sem,d2]
 --the columns
 refine J4x ?_;refine(U2y C.1 p _ wc rc).w ?_;rintro st' rfl;have wt:=K3a (n:=0) (p:=p) rc;have trt:=W3t (p:=p) rc;have hR:G1s C.1 p=if (W0x C.1 p).2≠0 then(([],[]),(W0x C.1 p).2) else W0x C.1 p:=rfl;generalize G1s C.1 p=T' at*
 generalize W0x C.1 p=T at*
 refine K4w ?_;refine Q0c (Q0a ?_);by_cases e3:T.2=0;rotate_left;rw[if_pos e3] at hR;subst hR;have d3:(T.2 !=0)=true:=bne_iff_ne.2 e3;rw[if_pos e3];simp-dsimp only[go_sem,d3]
 try rfl
 rw[if_neg (fun e=>e e3)] at hR;subst hR;obtain⟨⟨tb,tv⟩,te⟩:=T';have d3:(te !=0)=false:=(by have:te=0:=e3;rw[this];rfl);rw[if_neg (fun e=>e e3)];have wt:=wt e3;obtain⟨rt,lt⟩:=trt e3;simp only at wt rt lt;rw[V2u];have he1:e02 (opB 1 z (ofB M.1) p).2:=x3w h2 (H2f oG oG mr) (by simp[ofB];omega) h6;have hD:=G0a (k:=1) (a:=z) (b:=ofB M.1) (p:=p);have hDl:=fun h=>(w1x (k:=1) (a:=z) (b:=ofB M.1) (p:=p) h).2.1;have he2:e02 (mulM tv C.1 p).2:=U3o rt rc oG h6;have hV:=y1e (a:=tv) (b:=C.1) (p:=p);have wV:=Z1e tv C.1 p;simp-dsimp only[go_sem,d3];refine J4x ?_;refine(H1s tv C.1 p _ wt wc).w ?_;rintro st' rfl;generalize mulM tv C.1 p=V at*
 generalize hDD:opB 1 z (ofB M.1) p=D at*
 refine K4w ?_;refine Q0c (Q0a ?_);by_cases e4:V.2=0;rotate_left;have d4:(V.2 !=0)=true:=bne_iff_ne.2 e4;have v2:V.2=2:=he2.resolve_left e4;simp-dsimp only[go_sem,d4];rcases he1 with h | h;rw[if_neg (fun e=>e h),if_pos e4];try rfl
 rw[if_pos (by rw[h];decide),h,v2];try rfl
 have d4:(V.2 !=0)=false:=by rw[e4];rfl
 obtain⟨rV,lV⟩:=hV e4;have he3:e02 (vecM V.1 f.r p).2:=W3e rV frb oG h6;have hX:=W3d (m:=V.1) (b:=f.r) (p:=p);have wX:=Q1i V.1 f.r p;simp-dsimp only[go_sem,d4];refine J4x ?_;refine(Y2l V.1 f.r p _ wV wr).w ?_;rintro st' rfl;generalize vecM V.1 f.r p=X at*
 refine K4w ?_;refine Q0c (Q0a ?_);by_cases e5:X.2=0;rotate_left;have d5:(X.2 !=0)=true:=bne_iff_ne.2 e5;have v2:X.2=2:=he3.resolve_left e5;simp-dsimp only[go_sem,d5];rcases he1 with h | h;rw[if_neg (fun e=>e h),if_neg (fun e=>e e4),if_pos e5];try rfl
 rw[if_pos (by rw[h];decide),h,v2];try rfl
 have d5:(X.2 !=0)=false:=by rw[e5];rfl
 simp-dsimp only[go_sem,d5];refine J4x ?_;refine(J1b M.1 _ wmid).plain.w ?_;rintro st' rfl;refine K4w ?_;refine(H1n z (ofB M.1) p _ wz (q0z wmid)).w ?_;rintro st' rfl;rw[hDD];clear hDD;refine K4w ?_;refine Q0c (Q0a ?_);by_cases e6:D.2=0;rotate_left;have d6:(D.2 !=0)=true:=bne_iff_ne.2 e6;rw[if_pos e6];simp-dsimp only[go_sem,d6]
 try rfl
 have d6:(D.2 !=0)=false:=by rw[e6];rfl
 rw[if_neg (fun e=>e e6),if_neg (fun e=>e e4),if_neg (fun e=>e e5)];have wD:=q0i (hD e6);simp-dsimp only[go_sem,d6];refine J4x ?_;refine(Y2l tv D.1 p _ wt wD).w ?_;rintro st' rfl;have wY:=Q1i tv D.1 p;generalize vecM tv D.1 p=Y at*
 refine K4w ?_;refine Q0c (Q0a ?_);by_cases e7:Y.2=0;rotate_left;have d7:(Y.2 !=0)=true:=bne_iff_ne.2 e7;rw[if_pos e7];simp-dsimp only[go_sem,d7]
 try rfl
 have d7:(Y.2 !=0)=false:=by rw[e7];rfl
 rw[if_neg (fun e=>e e7)];simp-dsimp only[go_sem,d7];refine J4x ?_;refine(X2f X.1 Y.1 p _ wX wY).w ?_;rintro st' rfl;generalize opB 0 X.1 Y.1 p=S at*
 refine K4w ?_;refine Q0c (Q0a ?_);by_cases e8:S.2=0;rotate_left;have d8:(S.2 !=0)=true:=bne_iff_ne.2 e8;rw[if_pos e8];simp-dsimp only[go_sem,d8]
 try rfl
 have d8:(S.2 !=0)=false:=by rw[e8];rfl
 rw[if_neg (fun e=>e e8)];simp-dsimp only[go_sem,d8];refine Q0a ?_;simp-dsimp only[go_sem]
 try rfl
set_option maxHeartbeats 4000000 in
theorem y0o (f:Fm)(st:Q0g)(hf:wFm f):PCalls Tryz.prog 31 [.agg (K0u f)] st (fun r st'=> ∃b,r= .sc (.bool b)/\st'=st):=by obtain⟨wm,⟨wal,wa⟩,wr⟩:=hf;have wml:=wm.1;have wrl:=wr.1;refine Q0b none Tryz.func31 rfl fun E=>Q0a ?_;by_cases h1:(f.m.length:Int)>6;have d1:decide ((f.m.length:Int)>6)=true:=q_h h1;simp-dsimp only[go_sem,d1];exact⟨_,rfl⟩;have d1:decide ((f.m.length:Int)>6)=false:=q_g h1;by_cases h2:(f.a.length:Int)>6;have d2:decide ((f.a.length:Int)>6)=true:=q_h h2;simp-dsimp only[go_sem,d1,d2];exact⟨_,rfl⟩;have d2:decide ((f.a.length:Int)>6)=false:=q_g h2;by_cases h3:(f.r.length:Int)>6;have d3:decide ((f.r.length:Int)>6)=true:=q_h h3;simp-dsimp only[go_sem,d1,d2,d3];exact⟨_,rfl⟩;have d3:decide ((f.r.length:Int)>6)=false:=q_g h3;simp-dsimp only[go_sem,d1,d2,d3];refine Q0d [false,true,false,true] 1 0 (fun m s=> ∃i,m=f.m.length-i/\i<=f.m.length/\s=⟨[.junk,.lp 0 0,.junk,.sc (.int .i64 (i:Nat))]++jk 96,[K0u f],[],st⟩) f.m.length ?_ ?_;refine K4w ?_;exact⟨0,oG,oG,rfl⟩;rintro m s ⟨i,rfl,hi,rfl⟩;refine K4a (fun h=> ?_) (fun h=> ?_);have hlt:i<f.m.length:=(oT h);have x1:=Z0s i oG;have gN:=Z0d f.m i hlt;simp-dsimp only[go_sem,gN];refine⟨oG,?_⟩;refine ck (fun h4=> ?_) (fun h4=> ?_);refine K4w ?_;exact⟨_,rfl⟩;simp-dsimp only[go_sem,x1];exact⟨f.m.length-(i+1),oG,i+1,rfl,oG,rfl⟩;refine K4w ?_;refine J4y ?_;refine Q0d [false,true,false,false,true] 1 0 (fun m s=> ∃i,m=f.r.length-i/\i<=f.r.length/\s=⟨[.junk,.lp 0 0,.junk,.junk,.sc (.int .i64 (i:Nat))]++jk 95,[K0u f],[],st⟩) f.r.length ?_ ?_;refine K4w ?_;exact⟨0,oG,oG,rfl⟩;rintro m s ⟨i,rfl,hi,rfl⟩;refine K4a (fun h=> ?_) (fun h=> ?_);have hlt:i<f.r.length:=(oT h);have x1:=Z0s i oG;have gN:=Z0p f.r i hlt;by_cases h4:((f.r.getD i default).lo.w.length:Int)>10;have d4:decide (((f.r.getD i default).lo.w.length:Int)>10)=true:=q_h h4;simp-dsimp only[go_sem,gN,d4];refine⟨oG,?_⟩;exact⟨_,rfl⟩;have d4:decide (((f.r.getD i default).lo.w.length:Int)>10)=false:=q_g h4;simp-dsimp only[go_sem,gN,d4];refine⟨oG,oG,?_⟩;refine ck (fun h5=> ?_) (fun h5=> ?_);refine K4w ?_;exact⟨_,rfl⟩;simp-dsimp only[go_sem,x1];exact⟨f.r.length-(i+1),oG,i+1,rfl,oG,rfl⟩;refine K4w ?_;refine J4y ?_;refine Q0d [false,true,false,false,false,true] 1 0 (fun m s=> ∃i,m=f.a.length-i/\i<=f.a.length/\s=⟨[.junk,.lp 0 0,.junk,.junk,.junk,.sc (.int .i64 (i:Nat))]++jk 94,[K0u f],[],st⟩) f.a.length ?_ ?_;refine K4w ?_;exact⟨0,oG,oG,rfl⟩;rintro m s ⟨i,rfl,hi,rfl⟩;refine K4a (fun h=> ?_) (fun h=> ?_);rotate_left;refine K4w ?_;refine J4y ?_;exact⟨_,rfl⟩;have hlt:i<f.a.length:=(oT h);have x1:=Z0s i oG;have gQ:=X0z f.a i hlt;have hai:=(wa i hlt).1;simp-dsimp only[go_sem,gQ];refine⟨oG,?_⟩;refine ck (fun h4=> ?_) (fun h4=> ?_);refine K4w ?_;exact⟨_,rfl⟩;refine K4w ?_;refine Q0d [false,true,false,false,false,true,true] 1 0 (fun m s=> ∃j,m=(f.a.getD i []).length-j/\j<=(f.a.getD i []).length/\s=⟨[.junk,.lp 0 0,.junk,.junk,.junk,.sc (.int .i64 (i:Nat)),.sc (.int .i64 (j:Nat))]++jk 93,[K0u f],[],st⟩) (f.a.getD i []).length ?_ ?_;refine K4w ?_;exact⟨0,oG,oG,rfl⟩;rintro m s ⟨j,rfl,hj,rfl⟩;simp-dsimp only[go_sem,gQ];refine⟨oG,?_⟩;refine ck (fun h5=> ?_) (fun h5=> ?_);rotate_left;refine K4w ?_;refine Q0a ?_;simp-dsimp only[go_sem,x1];exact⟨f.a.length-(i+1),oG,i+1,rfl,oG,rfl⟩;have hjn:j<(f.a.getD i []).length:=(oT h5);have x2:=Z0s j oG;have eN:=Z0d (f.a.getD i []) j hjn;simp-dsimp only[go_sem,gQ,eN];refine⟨⟨oG,hlt⟩,⟨oG,hjn⟩,?_⟩;refine ck (fun h6=> ?_) (fun h6=> ?_);refine K4w ?_;exact⟨_,rfl⟩;simp-dsimp only[go_sem,x2];exact⟨(f.a.getD i []).length-(j+1),oG,j+1,rfl,oG,rfl⟩
theorem V0j :wFm default:=⟨⟨Nat.zero_le _,fun i hi=>absurd hi (Nat.not_lt_zero i)⟩,⟨Nat.zero_le _,fun i hi=>absurd hi (Nat.not_lt_zero i)⟩,⟨Nat.zero_le _,fun i hi=>absurd hi (Nat.not_lt_zero i)⟩⟩
theorem Z3l (b:List Ivl)(p:Int):wFm (k0v b p).1:=by unfold k0v;split;exact V0j;rename_i h1;split;exact V0j;rename_i h2;have h1:=Classical.not_not.1 h1;have hl:=J1i h1;have hm:=y1j h1;refine⟨⟨by show(midB b p).1.length<=_;omega,fun i hi=>Q0o (hm.2 _ (Q0q _ _ _ hi))⟩,?_,q0i (G0a (Classical.not_not.1 h2))⟩;have e:oneQ (b.length:Int)=w2s b.length:=(by rw[oneQ,if_pos oG];rfl);show wQs (w2s b.length);rw[<-e];exact Z1b _
theorem U3l {f:Fm}{m:List Nm}{c:Mx}{t:List (List Nm)×Mx}{d:List Ivl}{p:Int}(hm:wNs' m)(ht:wQs t.1):wFm (H2m f m c t d p).1:=by unfold H2m;split;exact V0j;rename_i h;have h:=Classical.not_not.1 h;unfold H1d at h⊢;split at h;rename_i c;exact absurd h c;rename_i c1;rw[if_neg c1];split at h;rename_i c;exact absurd h c;rename_i c2;rw[if_neg c2];split at h;rename_i c;exact absurd h c;rename_i c3;rw[if_neg c3];exact⟨hm,ht,q0i (G0a h)⟩
theorem W3s {c:Mx}{p:Int}(h:(W0x c p).2=0):wQs (W0x c p).1.1:=by unfold W0x at h⊢;split;exact Z1b _;rename_i c3;rw[if_neg c3] at h;unfold ownF at h⊢;split at h;rename_i c;exact absurd h c;rename_i c1;rw[if_neg c1];split at h;rename_i c;exact absurd h c;rename_i c2;rw[if_neg c2];exact Q2g (Classical.not_not.1 c2)
theorem y2e (f:Fm)(z:List Ivl)(s:Mx)(p:Int):wFm (z0u f z s p).1:=by unfold z0u;split;rotate_left;exact V0j;unfold H2n;split;exact V0j;rename_i h1;have h1:=Classical.not_not.1 h1;have hl:=J1i h1;have hm:=y1j h1;unfold y2f;split;exact V0j;unfold y2c;split;exact V0j;rename_i h3;unfold H2o;split;exact V0j;exact U3l ⟨oG,fun i hi=>Q0o (hm.2 _ (Q0q _ _ _ hi))⟩ (W3s (Classical.not_not.1 h3))
theorem G3f (f:Fm)(p:Int):wB (X1r f p).1:=by
 unfold X1r;split;split;exact⟨Nat.zero_le _,fun i hi=>absurd hi (Nat.not_lt_zero i)⟩;by_cases hh:(opB 0 (ofB f.m) (vecM (ofM f.a) f.r p).1 p).2=0;exact q0i (G0a hh);have he:(opB 0 (ofB f.m) (vecM (ofM f.a) f.r p).1 p).1= []:=by unfold opB at hh⊢;split at hh;rename_i c;rw[if_pos c];rw[W0a] at hh⊢;exact z1u _ _ _ hh;rename_i c;rw[if_neg c]
 rw[he];exact⟨Nat.zero_le _,fun i hi=>absurd hi (Nat.not_lt_zero i)⟩;exact⟨Nat.zero_le _,fun i hi=>absurd hi (Nat.not_lt_zero i)⟩
set_option maxHeartbeats 8000000 in
theorem k2z (f:Fm)(z:List Ivl)(s:Mx)(p:Int)(st:Q0g)(hf:wFm f)(wz:wB z)(ws:wM s):PR 32 [.agg (K0u f),.sl .no (Q0z z),.sl .no (encM s),.sc (.int .i64 p)] st (.sc (.bool true)):=by
 refine Q0b none Tryz.func32 rfl fun E=>Q0c (Q0a ?_);refine K4w ?_;refine J4x ?_;refine(J2h f p _ hf).w ?_;rintro st' rfl;refine K4w ?_;refine J4x ?_;refine(V2j f p _ hf).w ?_;rintro st' rfl;have wh:=G3f f p;generalize X1r f p=H at*
 refine K4w ?_;refine J4x ?_;refine(J2g f z s p _ hf wz ws).w ?_;rintro st' rfl;refine K4w ?_;refine J4x ?_;refine(V2i f z s p _ hf wz ws).w ?_;rintro st' rfl;have wn:=y2e f z s p;generalize z0u f z s p=N at*
 refine K4w ?_;refine J4x ?_;refine(V3a z p _ wz).w ?_;rintro st' rfl;refine K4w ?_;refine J4x ?_;refine(z2f z p _ wz).w ?_;rintro st' rfl;have wo:=Z3l z p;generalize k0v z p=O at*
 refine K4w ?_;have q1:(H.2==H.2)=true:=beq_self_eq_true _;have q2:(N.2==N.2)=true:=beq_self_eq_true _;have q3:(O.2==O.2)=true:=beq_self_eq_true _;have q4:decide (H.1=H.1)=true:=q_h rfl;have q5:decide (N.1=N.1)=true:=q_h rfl;have q6:decide (O.1=O.1)=true:=q_h rfl;have q7:(X0n f==X0n f)=true:=beq_self_eq_true _;refine Q0c ?_;refine j1a Z0c 96 [⟨0,0,false,false⟩,⟨1,0,false,false⟩,⟨2,3,false,false⟩,⟨3,4,false,false⟩,⟨4,8,false,false⟩,⟨5,8,false,false⟩,⟨6,56,false,false⟩,⟨7,72,false,false⟩,⟨8,136,false,false⟩,⟨9,256,false,false⟩,⟨10,256,false,false⟩,⟨11,1792,false,false⟩,⟨12,2304,false,false⟩,⟨13,4352,false,false⟩,⟨14,8192,false,false⟩,⟨15,8192,false,false⟩,⟨16,57344,false,true⟩,⟨17,73728,false,false⟩,⟨18,196608,false,false⟩,⟨19,262144,true,false⟩,⟨20,262144,true,false⟩,⟨21,1835008,false,true⟩,⟨22,2359296,false,false⟩,⟨23,6291456,false,false⟩,⟨24,8388608,true,false⟩,⟨25,8388608,true,false⟩,⟨26,58720256,false,true⟩,⟨27,75497472,false,false⟩,⟨28,201326592,false,false⟩,⟨29,268435456,true,false⟩,⟨30,805306368,false,true⟩,⟨31,268435456,true,false⟩,⟨32,3489660928,false,true⟩,⟨33,5637144576,false,false⟩,⟨34,8858370048,false,false⟩,⟨35,34359738367,false,false⟩] (.step 0 [] (.step 1 [] (.step 2 [] (.step 3 [] (.step 4 [] (.step 5 [] (.step 6 [] (.step 7 [] (.step 8 [] (.step 9 [] (.step 10 [] (.step 11 [] (.step 12 [] (.step 13 [] (.step 14 [] (.step 15 [] (.step 16 [] (.step 17 [] (.step 18 [] (.step 19 [] (.step 20 [] (.step 21 [] (.step 22 [] (.step 23 [] (.step 24 [] (.step 25 [] (.step 26 [] (.step 27 [] (.step 28 [] (.step 29 [] (.step 31 [] (.step 30 [19,20,31] (.step 32 [19,20] (.step 33 [] (.step 34 [] (.step 35 [] (.done))))))))))))))))))))))))))))))))))))) (by decide+kernel) (by decide+kernel) (by simp) ?_;simp-dsimp only[go_sem,q1,q2,q3];refine(x1d H.1 H.1 _ wh wh).w ?_;rintro st' rfl;simp-dsimp only[go_sem,q4];refine(v0c N.1 N.1 _ wn wn).w ?_;rintro st' rfl;simp-dsimp only[go_sem,q5];refine(v0c O.1 O.1 _ wo wo).w ?_;rintro st' rfl;simp-dsimp only[go_sem,q6];refine(H0p f _ hf).w ?_;rintro st' rfl;refine K4w ?_;refine(x0l f _ hf).w ?_;rintro st' rfl;simp-dsimp only[go_sem,q7];refine Q0a ?_;simp-dsimp only[go_sem,q7]
def K0l :Nm:=⟨false,1,[1]⟩
def k18f :Fm:=⟨[⟨false,0,[1]⟩],[[⟨false,0,[1]⟩]],[⟨⟨true,0,[1]⟩,⟨false,0,[1]⟩⟩]⟩
def k18n :Fm:=⟨[⟨false,1,[1]⟩],[[⟨false, -1,[1]⟩]],[⟨⟨true,2,[1]⟩,⟨false,2,[1]⟩⟩]⟩
theorem k18a :k0v [⟨default,K0l⟩] 16=(k18f,0):=by decide+kernel
theorem k18b :X1r k18f 16=([⟨default,K0l⟩],0):=by decide+kernel
theorem k18c :z0u k18f [⟨K0l,K0l⟩] [[⟨K0l,K0l⟩]] 16=(k18n,0):=by decide+kernel
theorem k18r :X0n k18f=true:=by decide+kernel
theorem Y2k {a:Ivl}(h:wI a):wB [a]:=⟨by simp,fun i hi=>by have:i=0:=(by simpa using hi);subst this;exact h⟩
theorem W2f (x:Nm)(st:Q0g)(hx:wN x):PR 90 [.agg (encN x)] st (.sc (.bool (decide (x=default)))):=by unfold wN at hx;refine J4z Tryz.func90 fun E=> ?_;refine(U0k x default _ oG (by decide)).w ?_;rintro st' rfl;exact K4v
set_option maxHeartbeats 16000000 in
theorem q2s (st:Q0g):PR 30 [] st (.sc (.bool true)):=by
 have wt:wN K0l:=Q0o (by decide);have wd:wN default:=Q0o (by decide);have wf:=U2u k18r;have c1:=V3a [⟨default,K0l⟩] 16 st (Y2k ⟨wd,wt⟩);have c2:=J2h k18f 16 st wf;have c3:=J2g k18f [⟨K0l,K0l⟩] [[⟨K0l,K0l⟩]] 16 st wf (Y2k ⟨wt,wt⟩) ⟨by simp,fun i hi=>by have:i=0:=(by simpa using hi);subst this;exact Y2k ⟨wt,wt⟩⟩;rw[k18a] at c1;rw[k18b] at c2;rw[k18c] at c3;refine Q0b none Tryz.func30 rfl fun E=>Q0c (Q0a ?_);refine K4w ?_;refine J4x ?_;refine J4x ?_;refine c1.w ?_;rintro st' rfl;refine K4w ?_;refine J4x ?_;refine c2.w ?_;rintro st' rfl;refine K4w ?_;refine Q0c ?_;refine Q0k Z0c 124 (Z2k [0,1,4] (.alt (.step 2 [0,4] (.step 3 [] (.alt (.step 5 [0] (.step 6 [] (.step 7 [] (.alt (Z2k [8,9,10,11] (.step 12 [0,1,4] (.step 13 [] (.step 14 [] (.done))))) (.step 12 [0,1,4] (Z2k [8,9,10,11,13,14] .done)))))) (.step 12 [0,1,4] (.step 5 [0] (Z2k [6,7,8,9,10,11,13,14] .done)))))) (.step 12 [0,1,4] (.step 2 [0,4] (.step 3 [] (.step 5 [0] (Z2k [6,7,8,9,10,11,13,14] .done))))))) (by decide+kernel) (by simp) ?_;refine K4w ?_;refine And.intro ?_ ?_
 all_goals
  refine(U1r K0l _ wt).w ?_;rintro st' rfl;simp-dsimp only[go_sem]
  try refine And.intro ?_ ?_
 all_goals
  refine(U1r K0l _ wt).w ?_;rintro st' rfl;simp-dsimp only[go_sem]
  try refine And.intro ?_ ?_
 all_goals
  refine c3.w ?_;rintro st' rfl;simp-dsimp only[go_sem]
 all_goals
  have z0:((0:Int)==0)=true:=rfl;have z1:(((1:Nat):Int)==1)=true:=rfl;have f1:k18f.m= [⟨false,0,[1]⟩]:=rfl;have f2:(Q0t [⟨false,0,[1]⟩]).getD 0 .junk= .agg (encN ⟨false,0,[1]⟩):=rfl;have f3:(Q0z [(⟨default,K0l⟩:Ivl)]).getD 0 .junk= .agg (encI ⟨default,K0l⟩):=rfl;have f4:k18n.m= [K0l]:=rfl;have f5:(Q0t [K0l]).getD 0 .junk= .agg (encN K0l):=rfl;have f6:k18n.a.length=1:=rfl;have f7:(encQ k18n.a).getD 0 .junk= .sl .no (Q0t [⟨false, -1,[1]⟩]):=rfl;have f8:k18n.r.length=1:=rfl;refine Q0c ?_;refine j1a Z0c 124 [⟨0,0,false,false⟩,⟨1,1,false,false⟩,⟨2,2,false,false⟩,⟨3,4,false,false⟩,⟨4,12,false,false⟩,⟨5,20,false,false⟩,⟨6,36,false,false⟩,⟨7,64,false,false⟩,⟨8,192,false,false⟩,⟨9,320,false,false⟩,⟨10,576,false,false⟩,⟨11,1024,false,false⟩,⟨12,3072,true,false⟩,⟨13,5120,false,false⟩,⟨14,9216,false,false⟩,⟨15,17408,false,false⟩,⟨16,33792,false,false⟩,⟨17,65536,false,false⟩,⟨18,196608,true,false⟩,⟨19,327680,false,false⟩,⟨20,589824,true,false⟩,⟨21,65536,true,false⟩,⟨22,3211264,false,true⟩,⟨23,4259840,false,false⟩,⟨24,12582912,false,false⟩,⟨25,16777216,false,false⟩,⟨26,50331648,false,false⟩,⟨27,83886080,false,false⟩,⟨28,150994944,false,false⟩,⟨29,285212672,false,false⟩,⟨30,536870912,false,false⟩,⟨31,1610612736,false,false⟩,⟨32,2684354560,false,false⟩,⟨33,4831838208,true,false⟩,⟨34,536870912,true,false⟩,⟨35,26306674688,false,true⟩,⟨36,34896609280,false,false⟩,⟨37,103079215104,false,false⟩,⟨38,137438953472,false,false⟩,⟨39,412316860416,false,false⟩,⟨40,687194767360,false,false⟩,⟨41,1236950581248,true,false⟩,⟨42,2336462209024,false,true⟩,⟨43,4535485464576,false,false⟩,⟨44,13194139533312,false,false⟩,⟨45,17592186044416,true,false⟩,⟨46,52776558133248,false,true⟩,⟨47,87960930222080,false,false⟩,⟨48,211106232532992,false,false⟩,⟨49,281474976710656,true,false⟩,⟨50,281474976710656,true,false⟩,⟨51,1970324836974592,false,true⟩,⟨52,2533274790395904,false,false⟩,⟨53,6755399441055744,false,false⟩,⟨54,9007199254740992,false,false⟩,⟨55,27021597764222976,true,false⟩,⟨56,45035996273704960,false,false⟩,⟨57,81064793292668928,false,false⟩,⟨58,153122387330596864,false,false⟩,⟨59,297237575406452736,false,false⟩,⟨60,576460752303423488,false,false⟩,⟨61,1729382256910270464,true,false⟩,⟨62,2882303761517117440,false,false⟩,⟨63,5188146770730811392,true,false⟩,⟨64,576460752303423488,true,false⟩,⟨65,28246576862867750912,false,true⟩,⟨66,37469948899722526720,false,false⟩,⟨67,110680464442257309696,false,false⟩,⟨68,147573952589676412928,false,false⟩,⟨69,442721857769029238784,true,false⟩,⟨70,737869762948382064640,false,false⟩,⟨71,1328165573307087716352,false,false⟩,⟨72,2508757194024499019776,false,false⟩,⟨73,4869940435459321626624,false,false⟩,⟨74,9444732965739290427392,false,false⟩,⟨75,28334198897217871282176,true,false⟩,⟨76,47223664828696452136960,false,false⟩,⟨77,85002596691653613846528,true,false⟩,⟨78,160560460417567937265664,false,false⟩,⟨79,311676187869396584103936,false,false⟩,⟨80,613907642773053877780480,false,false⟩,⟨81,1218370552580368465133568,false,false⟩,⟨82,2417851639229258349412352,false,false⟩,⟨83,7253554917687775048237056,true,false⟩,⟨84,12089258196146291747061760,false,false⟩,⟨85,21760664753063325144711168,false,false⟩,⟨86,41103477866897391940009984,false,false⟩,⟨87,154742504910672534362390527,false,false⟩] (.step 0 [] (.step 1 [] (.step 2 [] (.step 3 [] (.step 4 [] (.step 5 [] (.step 6 [] (.step 7 [] (.step 8 [] (.step 9 [] (.step 10 [] (.step 11 [] (.step 12 [] (.step 13 [] (.step 14 [] (.step 15 [] (.step 16 [] (.step 17 [] (.step 18 [] (.step 19 [] (.step 20 [] (.step 21 [] (.step 22 [12] (.step 23 [] (.step 24 [] (.step 25 [] (.step 26 [] (.step 27 [] (.step 28 [] (.step 29 [] (.step 30 [] (.step 31 [] (.step 32 [] (.step 33 [] (.step 34 [] (.step 35 [12,18,20,21] (.step 36 [] (.step 37 [] (.step 38 [] (.step 39 [] (.step 40 [] (.step 41 [] (.step 42 [12,18,20,21] (.step 43 [] (.step 44 [] (.step 45 [] (.step 46 [12,18,20,21,33,34] (.step 47 [] (.step 48 [] (.step 49 [] (.step 50 [] (.step 51 [12,18,20,21,33,34,41] (.step 52 [] (.step 53 [] (.step 54 [] (.step 55 [] (.step 56 [] (.step 57 [] (.step 58 [] (.step 59 [] (.step 60 [] (.step 61 [] (.step 62 [] (.step 63 [] (.step 64 [] (.step 65 [12,18,20,21,33,34,41,45,49,50,55] (.step 66 [] (.step 67 [] (.step 68 [] (.step 69 [] (.step 70 [] (.step 71 [] (.step 72 [] (.step 73 [] (.step 74 [] (.step 75 [] (.step 76 [] (.step 77 [] (.step 78 [] (.step 79 [] (.step 80 [] (.step 81 [] (.step 82 [] (.step 83 [] (.step 84 [] (.step 85 [] (.step 86 [] (.step 87 [] (.done))))))))))))))))))))))))))))))))))))))))))))))))))))))))))))))))))))))))))))))))))))))))) (by decide+kernel) (by decide+kernel) (by simp) ?_;simp-dsimp only[go_sem,z0,z1,f1,f2,f3,f4,f5,f6,f7,f8,Y1c,v0y,List.append_eq,List.cons_append,List.nil_append];refine(U0k ⟨false,0,[1]⟩ ⟨false,0,[1]⟩ _ (by decide) (by decide)).w ?_;rintro st' rfl;rw[q_h (rfl:(⟨false,0,[1]⟩:Nm)=⟨false,0,[1]⟩)];simp-dsimp only[go_sem,z0,z1,f1,f2,f3,f4,f5,f6,f7,f8,Y1c,v0y,List.append_eq,List.cons_append,List.nil_append];refine(U0k K0l K0l _ (by decide) (by decide)).w ?_;rintro st' rfl;rw[q_h (rfl:K0l=K0l)];simp-dsimp only[go_sem,z0,z1,f1,f2,f3,f4,f5,f6,f7,f8,Y1c,v0y,List.append_eq,List.cons_append,List.nil_append];refine(W2f default _ wd).w ?_;rintro st' rfl;rw[q_h (rfl:(default:Nm)=default)];simp-dsimp only[go_sem,z0,z1,f1,f2,f3,f4,f5,f6,f7,f8,Y1c,v0y,List.append_eq,List.cons_append,List.nil_append];refine(H0p k18f _ wf).w ?_;rintro st' rfl;rw[k18r];simp-dsimp only[go_sem,z0,z1,f1,f2,f3,f4,f5,f6,f7,f8,Y1c,v0y,List.append_eq,List.cons_append,List.nil_append];refine(q1f k18f k18f _ wf wf).w ?_;rintro st' rfl;rw[q_h (rfl:k18f=k18f)];simp-dsimp only[go_sem,z0,z1,f1,f2,f3,f4,f5,f6,f7,f8,Y1c,v0y,List.append_eq,List.cons_append,List.nil_append];refine(U0k K0l K0l _ (by decide) (by decide)).w ?_;rintro st' rfl;rw[q_h (rfl:K0l=K0l)];simp-dsimp only[go_sem,z0,z1,f1,f2,f3,f4,f5,f6,f7,f8,Y1c,v0y,List.append_eq,List.cons_append,List.nil_append];refine Q0a ?_;simp-dsimp only[go_sem]
set_option maxHeartbeats 8000000 in
theorem W2m (f g:Fm)(z:List Ivl)(s:Mx)(p:Int)(hf:wFm f)(hg:wFm g)(wz:wB z)(ws:wM s):PCalls Tryz.prog 6 [.agg (K0u f),.agg (K0u g),.sl .no (Q0z z),.sl .no (encM s),.sc (.int .i64 p)] [] (fun r st'=>r= .sc (.bool true)):=by
 have wz':wFm ⟨[],[],z⟩:=⟨⟨Nat.zero_le _,fun i hi=>absurd hi (Nat.not_lt_zero i)⟩,⟨Nat.zero_le _,fun i hi=>absurd hi (Nat.not_lt_zero i)⟩,wz⟩;have wsl:=ws.1;refine Q0b none Tryz.func6 rfl fun E=>Q0c (Q0a ?_);refine K4w ?_;refine J4x ?_;refine(q2s _).w ?_;rintro st' rfl;refine K4w ?_;refine J4x ?_;refine(y0o f _ hf).mono ?_;rintro r st' ⟨b1,rfl,rfl⟩;cases b1 with
 | false=>simp-dsimp only[go_sem]
 | true=>
 refine K4w ?_;refine(y0o g _ hg).mono ?_;rintro r st' ⟨b2,rfl,rfl⟩;cases b2 with
 | false=>simp-dsimp only[go_sem]
 | true=>
 refine K4w ?_;refine(y0o ⟨[],[],z⟩ _ wz').mono ?_;rintro r st' ⟨b3,rfl,rfl⟩;cases b3 with
 | false=>simp-dsimp only[go_sem]
 | true=>
 by_cases h4:(s.length:Int)>6;have d4:decide ((s.length:Int)>6)=true:=q_h h4;simp-dsimp only[go_sem,d4];have d4:decide ((s.length:Int)>6)=false:=q_g h4;simp-dsimp only[go_sem,d4];refine J4y ?_;refine Q0d [false,false,true,true,true,true,true,false,false,false,false,true] 2 0 (fun m st=> ∃i,m=s.length-i/\i<=s.length/\st=⟨[.junk,.junk,.sl .no (Q0z z),.sl .no (encM s),.sc (.int .i64 p),.lp 0 0,.lp 1 0,.junk,.junk,.junk,.junk,.sc (.int .i64 (i:Nat))]++jk 53,[K0u f,K0u g],[],[]⟩) s.length ?_ ?_;refine K4w ?_;exact⟨0,oG,oG,rfl⟩;rintro m st ⟨i,rfl,hi,rfl⟩;refine K4a (fun h=> ?_) (fun h=> ?_);have hlt:i<s.length:=(oT h);have x1:=Z0s i oG;have gM:=K0b s i hlt;have wi:wFm ⟨[],[],s.getD i []⟩:=⟨⟨Nat.zero_le _,fun i hi=>absurd hi (Nat.not_lt_zero i)⟩,⟨Nat.zero_le _,fun i hi=>absurd hi (Nat.not_lt_zero i)⟩,ws.2 i hlt⟩;simp-dsimp only[go_sem,gM];refine⟨oG,?_⟩;refine(y0o ⟨[],[],s.getD i []⟩ _ wi).mono ?_;rintro r st' ⟨b5,rfl,rfl⟩;cases b5 with
 | false=>simp-dsimp only[go_sem]
 | true=>
  simp-dsimp only[go_sem,x1];exact⟨s.length-(i+1),oG,i+1,rfl,oG,rfl⟩
 refine K4w ?_;refine J4y ?_;refine Q0k Z0c 65 (Z2k [0,1,2,3,4,5,6,7,9,10] (.step 8 [9,10] (Z2k [11,12,13,14,15,16] (.step 17 [0,6,7] (.step 18 [] (.step 19 [] (.done))))))) (by decide+kernel) (by simp) ?_;refine K4w ?_;refine(k2z f z s p _ hf wz ws).w ?_;rintro st' rfl;refine K4w ?_;refine(q1f f g _ hf hg).w ?_;rintro st' rfl;refine K4w ?_;refine(v0c f g _ hf hg).w ?_;rintro st' rfl;have q1:(decide (f=g)==decide (f=g))=true:=beq_self_eq_true _;simp-dsimp only[go_sem,q1];refine(q1f f f _ hf hf).w ?_;rintro st' rfl;rw[q_h (rfl:f=f)];simp-dsimp only[go_sem,q1]
end Go.Pv
end
