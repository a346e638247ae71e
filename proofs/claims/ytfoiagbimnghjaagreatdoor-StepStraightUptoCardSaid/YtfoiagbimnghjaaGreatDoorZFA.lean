/- Walk. -/
import Derived.Test.YtfoiagbimnghjaaGreatDoorZAB
set_option linter.all false
section
namespace Go.Pv
def XM (B v1 v2 u0:Nat):Nat->Nat->Nat
 | 0,_=>0
 | q+1,r=>if B<=r\/(q+1)*v2<=r*B+u0 then q+1 else XM B v1 v2 u0 q (r+v1)
theorem vE (B v1 v2 u0:Nat): ∀q r,XM B v1 v2 u0 q r<=q
 | 0,r=>BD _
 | q+1,r=>by rw[XM];split;exact BD _;exact Nat.le_succ_of_le (vE B v1 v2 u0 q _)
theorem X0c (B v1 v2 u0 T:Nat)(hv2:v2<B): ∀q r,q<=B->q*v1+r=T->
 XM B v1 v2 u0 q r*(v1*B+v2)<=T*B+u0/\(XM B v1 v2 u0 q r=q\/T*B+u0<(XM B v1 v2 u0 q r+1)*(v1*B+v2))
 | 0,r,_,h=>⟨by rw[XM,DC];exact CX _,.inl rfl⟩
 | q+1,r,hq,h=>by
  have e: ∀x:Nat,x*(v1*B+v2)=x*v1*B+x*v2:=fun x=>(by rw[CE,BW]);have eT:T*B=(q+1)*v1*B+r*B:=(by rw[<-h,BQ]);have e1:=e (q+1);rw[XM];split;rename_i hc;refine⟨?_,.inl rfl⟩;have h3:(q+1)*v2<=r*B+u0:=by rcases hc with hc | hc;have h4:(q+1)*v2<=B*B:=DW hq oG;have h5:B*B<=r*B:=BG _ hc;omega;exact hc
  omega;rename_i hc;have h4:T*B+u0<(q+1)*(v1*B+v2):=oG;obtain⟨i1,i2⟩:=X0c B v1 v2 u0 T hv2 q (r+v1) oG (by rw[<-h,BQ,CY];omega);refine⟨i1,.inr ?_⟩;rcases i2 with i2 | i2;rw[i2];exact h4;exact i2
theorem G1n {B v1 v2 v0 T u0 w M U V q r:Nat}(hV:V=(v1*B+v2)*M+v0)(hU:U=(T*B+u0)*M+w)(hv0:v0<M)(hw:w<M)(hv1:0<v1)
 (hv2:v2<B) (hu0:u0<B) (hlt:U<V*B) (hq:q+1<=B) (hT:q*v1+r=T) (hr:q+1=B\/r<v1):
 XM B v1 v2 u0 q r=U/V\/XM B v1 v2 u0 q r=U/V+1:=by
 have hM:0<M:=oG;have hB:0<B:=oG;have hvB:B<=v1*B+v2:=by have:1*B<=v1*B:=BG _ hv1;omega
 have hV0:0<V:=by have h1:0<(v1*B+v2)*M:=Nat.mul_pos oG hM;omega
 obtain⟨g1,g2⟩:=X0c B v1 v2 u0 T hv2 q r oG hT;have g0:=vE B v1 v2 u0 q r;generalize XM B v1 v2 u0 q r=g at g0 g1 g2;have hQ:U/V<B:=DE hlt;have d1:U/V*V<=U:=LH U V;have d2:U<(U/V+1)*V:=by rw[BM,CE,EJ];have:=D5 U V;have:=CG U hV0;omega
 generalize U/V=Q at hQ d1 d2;have a1:Q*(v1*B+v2)<=T*B+u0:=by have h2:Q*((v1*B+v2)*M)<=Q*V:=DP _ oG;have h3:Q*(v1*B+v2)*M<(T*B+u0+1)*M:=(by rw[BQ (T*B+u0),BW];omega);have:=Nat.lt_of_mul_lt_mul_right h3;omega
 have a2:Q<=g:=by rcases g2 with g2 | g2;rw[g2];rcases hr with hr | hr;omega;refine BE fun hn=> ?_;have h1:(q+1)*(v1*B+v2)<=T*B+u0:=B7 (BG _ oG) a1;have h2:(q+1)*(v1*B+v2)=(q+1)*v1*B+(q+1)*v2:=(by rw[CE,BW]);have h3:(q+1)*v1=q*v1+v1:=(by rw[BQ,CY]);have h4:T+1<=(q+1)*v1:=oG;have h5:(T+1)*B<=(q+1)*v1*B:=BG _ h4;have h6:(T+1)*B=T*B+B:=(by rw[BQ,CY]);omega;refine BE fun hn=> ?_;have h1:(g+1)*(v1*B+v2)<=Q*(v1*B+v2):=BG _ oG;omega
 have a3:g<=Q+1:=by refine BE fun hn=> ?_;have h1:(Q+1+1)*V<=g*V:=BG _ oG;have h3:(Q+1+1)*V=(Q+1)*V+V:=(by rw[BQ (Q+1),CY]);have h4:g*V=g*(v1*B+v2)*M+g*v0:=(by rw[hV,CE,BW]);have h5:g*(v1*B+v2)*M<=(T*B+u0)*M:=BG _ g1;have h6:g*v0<=B*M:=DW oG oG;have h7:B*M<=(v1*B+v2)*M:=BG _ hvB;omega
 omega
theorem Z0g (o:Lu)(i:Nat)(z:UInt64){B c b c' b' lo q w S V:Nat}(hB:B=18446744073709551616)(hi:i<o.length)(h1:z.toNat+lo+b=(o.getD i 0).toNat+B*b')(h2:lo+B*c'=q*w+c)
 (hv:Qc o+q*S=V+B^i*(c+b)):Qc (o.set i z)+q*(S+B^i*w)=V+B^(i+1)*(c'+b'):=by
 have hs:=YA o i z hi;rw[<-hB] at hs;have e0:B^i*(z.toNat+lo+b)=B^i*((o.getD i 0).toNat+B*b'):=(by rw[h1]);have e1:B^i*(lo+B*c')=B^i*(q*w+c):=(by rw[h2]);have e2:q*(S+B^i*w)=q*S+B^i*(q*w):=(by rw[CE,EK]);have e3:B^(i+1)*(c'+b')=B^i*(B*c')+B^i*(B*b'):=(by rw[B5,BW,CE,CE]);simp only[CE] at e0 e1 hv;rw[e2,e3];omega
theorem Q0h (o:Lu)(i:Nat)(z:UInt64){B c c' w S V:Nat}(hB:B=18446744073709551616)(hi:i<o.length)(h1:z.toNat+B*c'=(o.getD i 0).toNat+w+c)
 (hv:Qc o+B^i*c=V+S):Qc (o.set i z)+B^(i+1)*c'=V+(S+B^i*w):=by
 have hs:=YA o i z hi;rw[<-hB] at hs;have e0:B^i*(z.toNat+B*c')=B^i*((o.getD i 0).toNat+w+c):=(by rw[h1]);have e3:B^(i+1)*c'=B^i*(B*c'):=(by rw[B5,BW]);simp only[CE] at e0;rw[e3];omega
theorem j1h {E W V g R b:Nat}(hV:0<V)(hg:g=W/V\/g=W/V+1)(hW:W<E)(hR:R<E)(h:R+g*V=W+E*b):
 (b=0->g=W/V/\R=W % V)/\(b≠0->g=W/V+1/\ ∀R' c,R'<E->R'+E*c=R+V->R'=W % V):=by
 have hd:=D5 W V;have hm:=CG W hV;rw[BM] at hd;have hs:(W/V+1)*V=W/V*V+V:=(by rw[BQ,CY]);refine⟨fun h0=> ?_,fun h0=> ?_⟩;subst h0;rcases hg with hg | hg;rw[hg] at h;exact⟨hg,oG⟩;rw[hg,hs] at h;omega;have hb:E<=E*b:=Nat.le_mul_of_pos_right E oG;rcases hg with hg | hg;rw[hg] at h;omega;refine⟨hg,fun R' c hR' hc=> ?_⟩;rw[hg,hs] at h
 --R+V=W % V+E*b,and all are below 2 E
 have h2:R+V=W % V+E*b:=oG;have h3:R'+E*c=W % V+E*b:=oG;have h4:(R'+E*c) % E=(W % V+E*b) % E:=(by rw[h3]);rw[D7,D7,BJ hR',BJ] at h4;exact h4;have:=Nat.mod_le W V;omega
theorem yM {B V n j:Nat}(hB:B=18446744073709551616)(u:Lu)(hl:j+n+1<=u.length)(hV:V<=B^n)(h:Qc u<V*B^(j+1)):
 Qc ((u.drop j).take (n+1))<V*B/\Qc u=Qc (u.take j)+B^j*Qc ((u.drop j).take (n+1))/\Qc (u.drop (j+(n+1)))=0:=by
 have h1:=HK u j oG;have h2:=HK (u.drop j) (n+1) (by simp;omega);rw[<-hB] at h1 h2;have hp:0<B^j:=DJ oG;have h3:Qc (u.drop j)<V*B:=by have e:V*B^(j+1)=B^j*(V*B):=(by rw[B5,EK]);rw[e] at h;exact Nat.lt_of_mul_lt_mul_left (a:=B^j) oG
 have h4:V*B<=B^(n+1):=by rw[B5];exact BG _ hV
 have hz:Qc ((u.drop j).drop (n+1))=0:=by refine BE fun hn=> ?_;have:B^(n+1)<=B^(n+1)*Qc ((u.drop j).drop (n+1)):=Nat.le_mul_of_pos_right _ oG;omega
 rw[hz,DQ,B1] at h2;rw[<-h2];refine⟨h3,h1,?_⟩;rw[LP] at hz;exact hz
theorem Uv {B:Nat}(hB:B=18446744073709551616)(v:Lu)(n:Nat)(h:n<v.length):Qc (v.take (n+1))=(v.getD n 0).toNat*B^n+Qc (v.take n)/\Qc (v.take n)<B^n:=by have h1:=V7 v n h;have h2:=Xe (v.take n);rw[BX,DA oG] at h2;rw[<-hB] at h1 h2;exact⟨by rw[h1,BM,EZ],h2⟩
theorem Cc {B:Nat}(hB:B=18446744073709551616)(v:Lu)(n:Nat)(h:v.length=n+2):Qc v=((v.getD (n+1) 0).toNat*B+(v.getD n 0).toNat)*B^n+Qc (v.take n)/\Qc (v.take n)<B^n:=by have h1:=Uv hB v (n+1) oG;have h2:=Uv hB v n oG;rw[BF oG] at h1;refine⟨?_,h2.2⟩;rw[h1.1,h2.1,BQ,B5,BW,BM B,DK]
theorem q0v {B:Nat}(hB:B=18446744073709551616)(u:Lu)(n:Nat)(h:u.length=n+3):
 Qc u=(((u.getD (n+2) 0).toNat*B+(u.getD (n+1) 0).toNat)*B+(u.getD n 0).toNat)*B^n+Qc (u.take n)/\Qc (u.take n)<B^n:=by
 have h1:=Uv hB u (n+2) oG;have h2:=Cc hB (u.take (n+2)) n (by simp;omega);rw[BF oG] at h1;have g: ∀k,k<n+2->(u.take (n+2)).getD k 0=u.getD k 0:=fun k hk=>(by simp[q_a,ED,hk]);rw[List.take_take,DA oG,g _ oG,g _ oG] at h2;refine⟨?_,h2.2⟩;rw[h1.1,h2.1];have e:B^(n+2)=B*B*B^n:=(by rw[B5,B5,BM (B^n*B),BM (B^n),BW]);rw[e];simp only[BQ,BW,DK]
def Jc (B v1 u2 u1:Nat):Nat×Nat:=if u2<v1 then((u2*B+u1)/v1,(u2*B+u1) % v1) else(B-1,u1+v1)
theorem G1m {B:Nat}(hB:B=18446744073709551616)(v u:Lu)(n:Nat)(hv:v.length=n+2)(hu:u.length=n+3)(h1:0<(v.getD (n+1) 0).toNat)(hlt:Qc u<Qc v*B):
 XM B (v.getD (n+1) 0).toNat (v.getD n 0).toNat (u.getD n 0).toNat (Jc B (v.getD (n+1) 0).toNat (u.getD (n+2) 0).toNat (u.getD (n+1) 0).toNat).1 (Jc B (v.getD (n+1) 0).toNat (u.getD (n+2) 0).toNat (u.getD (n+1) 0).toNat).2=Qc u/Qc v\/
 XM B (v.getD (n+1) 0).toNat (v.getD n 0).toNat (u.getD n 0).toNat (Jc B (v.getD (n+1) 0).toNat (u.getD (n+2) 0).toNat (u.getD (n+1) 0).toNat).1 (Jc B (v.getD (n+1) 0).toNat (u.getD (n+2) 0).toNat (u.getD (n+1) 0).toNat).2=Qc u/Qc v+1:=by
 obtain⟨a1,a2⟩:=Cc hB v n hv;obtain⟨b1,b2⟩:=q0v hB u n hu;have c0:=(u.getD n 0).toNat_lt;have c1:=(u.getD (n+1) 0).toNat_lt;have c2:=(v.getD n 0).toNat_lt;have c3:=(v.getD (n+1) 0).toNat_lt;have c0':(u.getD n 0).toNat<B:=oG;have c1':(u.getD (n+1) 0).toNat<B:=oG;have c2':(v.getD n 0).toNat<B:=oG;clear c0 c1 c2 c3 hB;generalize (u.getD n 0).toNat=u0 at*
 generalize (u.getD (n+1) 0).toNat=u1 at*
 generalize (u.getD (n+2) 0).toNat=u2 at*
 generalize (v.getD n 0).toNat=v2 at*
 generalize (v.getD (n+1) 0).toNat=v1 at*
 --the highest word is at most that of v
 have hle:u2<=v1:=by
  refine BE fun hn=> ?_;have hp:0<B^n:=oG;have s1:(v1*B+v2)*B^n+Qc (v.take n)<(v1*B+v2+1)*B^n:=(by rw[BQ (v1*B+v2),CY];omega);have s2:(v1*B+v2+1)*B^n<=(v1+1)*B*B^n:=BG _ (by rw[BQ,CY];omega);have s3:(v1+1)*B*B^n*B=(v1+1)*B*B*B^n:=(by rw[FM]);have s4:(v1+1)*B*B*B^n<=((u2*B+u1)*B+u0)*B^n:=by refine BG _ ?_;have:(v1+1)*B*B<=u2*B*B:=BG _ (BG _ oG);have e:=BQ (u2*B) u1 B;omega
  have s5:Qc v*B<=(v1+1)*B*B^n*B:=BG _ oG;omega
 have hT:(Jc B v1 u2 u1).1*v1+(Jc B v1 u2 u1).2=u2*B+u1/\(Jc B v1 u2 u1).1+1<=B/\((Jc B v1 u2 u1).1+1=B\/(Jc B v1 u2 u1).2<v1):=by
  unfold Jc;split;rename_i hc;refine⟨E8 _ _,?_,.inr (CG _ h1)⟩;have:u2*B+u1<v1*B:=by have:(u2+1)*B<=v1*B:=BG _ hc;rw[BQ,CY] at this;omega
  have:=DE this;show(u2*B+u1)/v1+1<=B;omega;rename_i hc;have:u2=v1:=oG;refine⟨?_,by show B-1+1<=B;omega,.inl (by show B-1+1=B;omega)⟩;show(B-1)*v1+(u1+v1)=u2*B+u1;rw[this,Nat.sub_mul,CY,BM v1 B];have:1*v1<=B*v1:=BG _ oG;omega
 exact G1n (T:=u2*B+u1) a1 b1 a2 b2 h1 c2' c0' hlt hT.2.1 hT.1 hT.2.2
theorem j1i {A O V W low B j:Nat}(hV:0<V)(h:A=O*B^(j+1)*V+(low+B^j*W))(hlow:low<B^j):
 A=(W/V+B*O)*B^j*V+(low+B^j*(W % V))/\low+B^j*(W % V)<V*B^j:=by
 have hd:=D5 W V;have hm:=CG W hV;constructor
 . rw[h];have e1:O*B^(j+1)*V=B*O*B^j*V:=(by rw[B5,BM B O,BM (B^j) B,<-BW O]);have e2:B^j*W=W/V*B^j*V+B^j*(W % V):=by
    conv=>lhs;rw[<-hd]
    rw[CE,BM V,<-BW,BM (B^j)]
   rw[e1,e2,BQ,BQ];omega
 have h1:B^j*(W % V+1)<=B^j*V:=DP _ hm;rw[CE,EJ] at h1;rw[BM V];omega
theorem j1j {a b s O r:Nat}(hb:0<b)(h:a*2^s=O*(b*2^s)+r)(hr:r<b*2^s):O=a/b/\r/2^s=a % b:=by have hp:0<2^s:=CT s;have hO:O=a*2^s/(b*2^s):=(by rw[h,EZ,Nat.add_mul_div_right _ _ (Nat.mul_pos hb hp),CP hr,CU]);have hr2:r=a*2^s % (b*2^s):=(by rw[h,EZ,Nat.add_mul_mod_self_right,BJ hr]);rw[Nat.mul_div_mul_right _ _ hp] at hO;rw[Nat.mul_mod_mul_right] at hr2;exact⟨hO,by rw[hr2,LL _ hp]⟩
def KZ (B v1 v2 u0:Nat):Nat->Nat->Nat×Nat
 | 0,r=>(0,r)
 | q+1,r=>if B<=q+1\/r*B+u0<(q+1)*v2 then(if B<=r+v1 then(q,r+v1) else KZ B v1 v2 u0 q (r+v1)) else(q+1,r)
theorem X0a (B v1 v2 u0 T:Nat)(hv2:v2<B)(hu0:u0<B)(hT:T<v1*B+v2): ∀q r,q<=B+1->q*v1+r=T->(T*B+u0)/(v1*B+v2)<=q->
 (KZ B v1 v2 u0 q r).1=(T*B+u0)/(v1*B+v2)
 | 0,r,_,h,hQ=>(Nat.le_zero.1 hQ).symm
 | q+1,r,hq,h,hQ=>by
  have hV:0<v1*B+v2:=oG;have hB:0<B:=oG;have e:q*v1+(r+v1)=T:=(by rw[<-h,BQ,CY];omega);have eT:T*B=(q+1)*v1*B+r*B:=(by rw[<-h,BQ]);have eT2:T*B=q*v1*B+(r+v1)*B:=(by rw[<-e,BQ]);have e1:(q+1)*(v1*B+v2)=(q+1)*v1*B+(q+1)*v2:=(by rw[CE,BW]);have e2:q*(v1*B+v2)=q*v1*B+q*v2:=(by rw[CE,BW]);have hQB:(T*B+u0)/(v1*B+v2)<B:=by refine DE ?_;have:(T+1)*B<=(v1*B+v2)*B:=BG _ hT;rw[BQ,CY] at this;omega
  rw[KZ];split;rename_i hc;have hQ1:(T*B+u0)/(v1*B+v2)<=q:=by rcases hc with hc | hc;omega;have:T*B+u0<(q+1)*(v1*B+v2):=oG;have:=(DV hV).2 this;omega
  split;rename_i hr;refine Nat.le_antisymm ?_ hQ1;refine(EQ hV).2 ?_;show q*(v1*B+v2)<=T*B+u0;have h1:q*v2<=B*B:=DW oG oG;have h2:B*B<=(r+v1)*B:=BG _ hr;omega;exact X0a B v1 v2 u0 T hv2 hu0 hT q _ oG e hQ1;rename_i hc;refine Nat.le_antisymm ?_ hQ;refine(EQ hV).2 ?_;show(q+1)*(v1*B+v2)<=T*B+u0;omega
theorem X0b {B v1 v2 u0 T:Nat}(hv2:v2<B)(hu0:u0<B)(hT:T<v1*B+v2)(hn:B<=2*v1)(hB:0<B):
 (KZ B v1 v2 u0 (T/v1) (T % v1)).1=(T*B+u0)/(v1*B+v2):=by
 have h1:0<v1:=oG;have hV:0<v1*B+v2:=oG;refine X0a B v1 v2 u0 T hv2 hu0 hT _ _ ?_ (E8 T v1) ?_;have:T<v1*(B+2):=(by rw[CE];omega);have:=DE this;omega;refine(EQ h1).2 ?_;have hd:=LH (T*B+u0) (v1*B+v2);generalize (T*B+u0)/(v1*B+v2)=Q at hd;refine BE fun hn2=> ?_;have a1:(T+1)*B<=Q*v1*B:=BG _ oG;have a2:Q*(v1*B+v2)=Q*v1*B+Q*v2:=(by rw[CE,BW]);rw[BQ,CY] at a1;omega
set_option maxRecDepth 100000
open Go.Proofs
theorem UK (P R:Lp)(T:Lu)(k:Nat)(h:k<T.length):(P++(Qf T++R)).getD (P.length+k) .junk= .sc (.int .u64 (T.getD k 0).toNat):=by rw[q_a,CA oG,DY,B6 (by rw[Jp];exact h),<-q_a];exact Zs T k h
theorem zA (P R:Lp)(T:Lu)(k:Nat)(c:UInt64)(h:k<T.length):Qu (P++(Qf T++R)) (P.length+k) [.sc (.int .u64 c.toNat)]=P++(Qf (T.set k c)++R):=by unfold Qu;have e:Qf (T.set k c)=(Qf T).set k (.sc (.int .u64 c.toNat)):=(by unfold Qf;rw[FA]);have hl:k<(Qf T).length:=(by rw[Jp];exact h);have e2:(P++(Qf T++R)).set (P.length+k) (.sc (.int .u64 c.toNat))=P++((Qf T).set k (.sc (.int .u64 c.toNat))++R):=(by rw[CJ (s:=P) _ _ (Nat.le_add_right _ _),DY,List.set_append_left _ _ hl]);rw[e,<-e2,DS,BC (by rw[BH,BH];omega)];simp
theorem qL {st:Qd}{k:Nat}{X:Lp}(hk:k<st.length)(h:st.getD k []=X):st.set k X=st:=by rw[q_a,BB hk,D9] at h;rw[<-h];exact List.set_getElem_self hk
theorem GE {st:Qd}{k:Nat}(X:Lp)(hk:k<st.length):(st.set k X).getD k []=X:=by rw[q_a,F6 hk,D9]
theorem V1f (v o:Lu)(P R:Lp)(k:Nat)(st:Qd)(hk:k<st.length)(hg:st.getD k []=P++(Qf o++R))(ho:o.length=v.length+1)(hv:v.length<=1000000000000):
 PCalls Tryz.prog 393 [.ms true k P.length (v.length+1),.sl .no (Qf v)] st
 (fun r st'=> ∃o' c,o'.length=o.length/\Qc o'+18446744073709551616^(v.length+1)*c=Qc o+Qc v/\r= .tup []/\st'=st.set k (P++(Qf o'++R))):=by
 refine Qj Tryz.func393 fun E=> ?_;refine Q3 [true,true,false,false,true,false,false,true,true,true] 0 0
  (fun m s=> ∃i c T,m=v.length-i/\i<=v.length/\c<=1/\T.length=o.length/\Qc T+18446744073709551616^i*c=Qc o+Qc (v.take i)/\
   s=⟨[.ms true k P.length (v.length+1),.sl .no (Qf v),.junk,.junk,.sc (.int .u64 (c:Nat)),.junk,.junk,.sl .no (Qf v),.sc (.int .i64 v.length),.sc (.int .i64 (i:Nat))]++jk 26,[],[],st.set k (P++(Qf T++R))⟩) v.length ?_ ?_
 refine Qr ?_;exact⟨0,0,o,oG,oG,oG,rfl,by simp[Qc,nW,val],by rw[qL hk hg];rfl⟩;rintro m s ⟨i,c,T,rfl,hi,hc,hT,hs,rfl⟩;have gst:=GE (P++(Qf T++R)) hk;refine QM ?_ ?_<;>intro h;have hlt:i<v.length:=(oT h);have g1:=Zs v i hlt;have g2:=UK P R T i oG;have x6:=J2u i oG;simp-dsimp only[go_sem,g1,g2,gst];refine⟨⟨oG,hlt⟩,⟨oG,oG⟩,oG,?_⟩;refine(W0 (T.getD i 0).toNat (v.getD i 0).toNat c _ (BT _) (BT _) hc).mono ?_;rintro r st' ⟨z,c',hc',hz,rfl,rfl⟩;have o1:=zA P R T i z oG;have e2:=V7 v i hlt;have hs2:=Q0h T i z rfl oG hz hs;simp-dsimp only[go_sem,g1,g2,gst,o1,EF,x6];refine⟨⟨oG,oG⟩,oG,v.length-(i+1),oG,i+1,c',T.set i z,rfl,oG,hc',by rw[BL];exact hT,?_,rfl⟩;rw[e2];exact hs2;have hge:i=v.length:=(oF h);refine Qr ?_;refine Qq ?_;subst hge;rw[B0] at hs;have g2:=UK P R T v.length oG;simp-dsimp only[go_sem,g2,gst];have hz:(UInt64.ofNat (((T.getD v.length 0).toNat+c) % 18446744073709551616)).toNat=((T.getD v.length 0).toNat+c) % 18446744073709551616:=(by rw[FG];omega);have ew:IntKind.u64.wrap (((T.getD v.length 0).toNat:Int)+(c:Int))=((UInt64.ofNat (((T.getD v.length 0).toNat+c) % 18446744073709551616)).toNat:Int):=(by rw[hz,show(((T.getD v.length 0).toNat:Int)+(c:Int))=(((T.getD v.length 0).toNat+c:Nat):Int) from rfl,ZW]);have o1:=zA P R T v.length (UInt64.ofNat (((T.getD v.length 0).toNat+c) % 18446744073709551616)) oG;have hs2:=Q0h T v.length (UInt64.ofNat (((T.getD v.length 0).toNat+c) % 18446744073709551616)) (c':=((T.getD v.length 0).toNat+c)/18446744073709551616) (w:=0) rfl oG (by rw[hz];omega) hs;rw[ew,o1,EF];rw[DQ,B1] at hs2;exact⟨oG,oG,oG,⟨oG,oG⟩,_,_,by rw[BL];exact hT,hs2,rfl⟩
theorem Y1b (v o:Lu)(q:Nat)(P R:Lp)(k:Nat)(st:Qd)(hk:k<st.length)(hg:st.getD k []=P++(Qf o++R))(ho:o.length=v.length+1)(hv:v.length<=1000000000000)(hq:q<18446744073709551616):
 PCalls Tryz.prog 392 [.ms true k P.length (v.length+1),.sl .no (Qf v),.sc (.int .u64 q)] st
 (fun r st'=> ∃o' b,o'.length=o.length/\Qc o'+q*Qc v=Qc o+18446744073709551616^(v.length+1)*b/\r= .sc (.bool (decide (b≠0)))/\st'=st.set k (P++(Qf o'++R))):=by
 refine Qj Tryz.func392 fun E=> ?_;refine Q3 [true,true,true,false,false,false,false,true,true,false,false,false,false,false,true,true,true] 0 0
  (fun m s=> ∃i c b T,m=v.length-i/\i<=v.length/\b<=1/\c<18446744073709551616/\T.length=o.length/\Qc T+q*Qc (v.take i)=Qc o+18446744073709551616^i*(c+b)/\
   s=⟨[.ms true k P.length (v.length+1),.sl .no (Qf v),.sc (.int .u64 q),.junk,.junk,.junk,.junk,.sc (.int .u64 (c:Nat)),.sc (.int .u64 (b:Nat)),.junk,.junk,.junk,.junk,.junk,.sl .no (Qf v),.sc (.int .i64 v.length),.sc (.int .i64 (i:Nat))]++jk 50,[],[],st.set k (P++(Qf T++R))⟩) v.length ?_ ?_
 refine Qr ?_;exact⟨0,0,0,o,oG,oG,oG,oG,rfl,by simp[Qc,nW,val],by rw[qL hk hg];rfl⟩;rintro m s ⟨i,c,b,T,rfl,hi,hb,hc,hT,hs,rfl⟩;have gst:=GE (P++(Qf T++R)) hk;refine QM ?_ ?_<;>intro h;have hlt:i<v.length:=(oT h);have g1:=Zs v i hlt;have g2:=UK P R T i oG;have x6:=J2u i oG;have hwl:=(v.getD i 0).toNat_lt;have hP:q*(v.getD i 0).toNat<=18446744073709551615*18446744073709551615:=DW oG oG;simp-dsimp only[go_sem,g1,g2,gst];refine⟨⟨oG,hlt⟩,?_⟩;refine(zO q (v.getD i 0).toNat _ hq hwl).mono ?_;rintro r st' ⟨H,L,hHL,rfl,rfl⟩;simp-dsimp only[go_sem,g1,g2,gst];refine(W0 L.toNat c 0 _ (BT _) hc oG).mono ?_;rintro r st' ⟨lo,ov,hov,hlo,rfl,rfl⟩;have hH:=H.toNat_lt;have hL:=L.toNat_lt;have hcc:H.toNat+ov<18446744073709551616:=oG;have x7:IntKind.u64.wrap ((H.toNat:Int)+(ov:Int))=((H.toNat+ov:Nat):Int):=(by rw[show((H.toNat:Int)+(ov:Int))=((H.toNat+ov:Nat):Int) from rfl,ZW,BJ hcc]);simp-dsimp only[go_sem,g1,g2,gst,x7];refine⟨⟨oG,oG⟩,oG,?_⟩;refine(qH (T.getD i 0).toNat lo.toNat b _ (BT _) (BT _) hb).mono ?_;rintro r st' ⟨z,b',hb',hz,rfl,rfl⟩;have o1:=zA P R T i z oG;have e2:=V7 v i hlt;have hs2:=Z0g T i z (c':=H.toNat+ov) (lo:=lo.toNat) (w:=(v.getD i 0).toNat) rfl oG hz oG hs;simp-dsimp only[go_sem,g1,g2,gst,o1,EF,x6];refine⟨⟨oG,oG⟩,oG,v.length-(i+1),oG,i+1,H.toNat+ov,b',T.set i z,rfl,oG,hb',hcc,by rw[BL];exact hT,?_,rfl⟩;rw[e2];exact hs2;have hge:i=v.length:=(oF h);refine Qr ?_;refine Qb ?_;subst hge;rw[B0] at hs;have g2:=UK P R T v.length oG;simp-dsimp only[go_sem,g2,gst];refine⟨oG,oG,?_⟩;refine(qH (T.getD v.length 0).toNat c b _ (BT _) hc hb).mono ?_;rintro r st' ⟨z,b',hb',hz,rfl,rfl⟩;have o1:=zA P R T v.length z oG;have hs2:=Z0g T v.length z (c':=0) (b':=b') (lo:=c) (w:=0) rfl oG hz oG hs;rw[DQ,B1,CU] at hs2;simp-dsimp only[go_sem,g2,gst,o1,EF];refine⟨oG,⟨oG,oG⟩,_,b',by rw[BL];exact hT,hs2,?_,rfl⟩;congr 2;by_cases h0:b'=0;subst h0;rfl;have:((b':Int) !=0)=true:=(by simp;omega);rw[this,q_h h0]
def U0n :Prop:= ∀(hi lo d:Nat) (st:Qd),0<d->d<18446744073709551616->hi<d->lo<18446744073709551616->PR 389 [.sc (.int .u64 hi),.sc (.int .u64 lo),.sc (.int .u64 d)] st (.tup [.sc (.int .u64 (((hi*18446744073709551616+lo)/d:Nat):Int)),.sc (.int .u64 (((hi*18446744073709551616+lo) % d:Nat):Int))])
theorem J0p {B v1 u2 u1:Nat}(h:u2<v1):(Jc B v1 u2 u1).1=(u2*B+u1)/v1/\(Jc B v1 u2 u1).2=(u2*B+u1) % v1:=by unfold Jc;rw[BC h];exact⟨rfl,rfl⟩
theorem J0q {B v1 u2 u1:Nat}(h: ¬u2<v1):(Jc B v1 u2 u1).1=B-1/\(Jc B v1 u2 u1).2=u1+v1:=by unfold Jc;rw[BA h];exact⟨rfl,rfl⟩
theorem X0d {B v1 v2 u0 q r q' r':Nat}(h1:q=q')(h2:r=r'):XM B v1 v2 u0 q r=XM B v1 v2 u0 q' r':=by rw[h1,h2]
theorem zY {B v1 v2 u0 q r:Nat}(h: ¬(B<=r\/(q+1)*v2<=r*B+u0)):XM B v1 v2 u0 (q+1) r=XM B v1 v2 u0 q (r+v1):=by rw[XM,BA h]
theorem Hn {B v1 v2 u0 q r:Nat}(h:B<=r\/q*v2<=r*B+u0):XM B v1 v2 u0 q r=q:=by
 cases q with
 | zero=>rfl
 | succ q=>rw[XM,BC h]
set_option maxHeartbeats 16000000 in
theorem G1o (hD:U0n)(v o:Lu)(n:Nat)(P R:Lp)(k:Nat)(st:Qd)(hk:k<st.length)(hg:st.getD k []=P++(Qf o++R))(hv:v.length=n+2)(ho:o.length=n+3)(hn:n<=1000000000000)
 (h0:0<(v.getD (n+1) 0).toNat) (hle:(o.getD (n+2) 0).toNat<=(v.getD (n+1) 0).toNat):
 PR 391 [.ms true k P.length (n+3),.sl .no (Qf v)] st (.sc (.int .u64 ((XM 18446744073709551616 (v.getD (n+1) 0).toNat (v.getD n 0).toNat (o.getD n 0).toNat (Jc 18446744073709551616 (v.getD (n+1) 0).toNat (o.getD (n+2) 0).toNat (o.getD (n+1) 0).toNat).1 (Jc 18446744073709551616 (v.getD (n+1) 0).toNat (o.getD (n+2) 0).toNat (o.getD (n+1) 0).toNat).2:Nat):Int))):=by
 have x1:IntKind.i64.wrap ((v.length:Int)-1)=((n+1:Nat):Int):=(by rw[hv,show(((n+2:Nat):Int)-1)=((n+1:Nat):Int) by omega,Zd _ oG]);have x2:IntKind.i64.wrap ((v.length:Int)-2)=((n:Nat):Int):=(by rw[hv,show(((n+2:Nat):Int)-2)=((n:Nat):Int) by omega,Zd _ oG]);have g1:=Zs v (n+1) oG;have g2:=Zs v n oG;have g3:(P++(Qf o++R)).getD (P.length+v.length) .junk= .sc (.int .u64 (o.getD (n+2) 0).toNat):=(by rw[hv];exact UK P R o (n+2) oG);have g4:=UK P R o (n+1) oG;have g5:=UK P R o n oG;have hv1:=(v.getD (n+1) 0).toNat_lt;have hv2:=(v.getD n 0).toNat_lt;have hu0:=(o.getD n 0).toNat_lt;have hu1:=(o.getD (n+1) 0).toNat_lt;have hu2:=(o.getD (n+2) 0).toNat_lt;refine Qj Tryz.func391 fun E=> ?_;refine Q5 96 (Qi [0,1,2,3,4,5,6,7,8,9,10,11,12,13,14,15,16] .done) ?_;simp-dsimp only[go_sem,hg,x1,x2,g1,g2,g3,g4,g5];refine⟨⟨oG,oG⟩,oG,oG,oG,oG,oG,⟨oG,oG⟩,?_⟩;obtain⟨G,hGG⟩: ∃G,G=XM 18446744073709551616 (v.getD (n+1) 0).toNat (v.getD n 0).toNat (o.getD n 0).toNat (Jc 18446744073709551616 (v.getD (n+1) 0).toNat (o.getD (n+2) 0).toNat (o.getD (n+1) 0).toNat).1 (Jc 18446744073709551616 (v.getD (n+1) 0).toNat (o.getD (n+2) 0).toNat (o.getD (n+1) 0).toNat).2:=⟨_,rfl⟩;rw[<-hGG];refine ck ?_ ?_<;>intro h;have hlt:(o.getD (n+2) 0).toNat<(v.getD (n+1) 0).toNat:=(oT h);simp-dsimp only[go_sem,hg,x1,x2,g1,g2,g3,g4,g5];refine⟨⟨oG,oG⟩,?_⟩;refine(hD (o.getD (n+2) 0).toNat (o.getD (n+1) 0).toNat (v.getD (n+1) 0).toNat _ h0 hv1 hlt hu1).q ?_;have hqq:((o.getD (n+2) 0).toNat*18446744073709551616+(o.getD (n+1) 0).toNat)/(v.getD (n+1) 0).toNat<18446744073709551616:=DE (by have:=BG 18446744073709551616 (show(o.getD (n+2) 0).toNat+1<=(v.getD (n+1) 0).toNat by omega);omega);have hrr:=CG ((o.getD (n+2) 0).toNat*18446744073709551616+(o.getD (n+1) 0).toNat) h0;simp-dsimp only[go_sem,hg,x1,x2,g1,g2,g3,g4,g5];refine Q3 [false,true,false,false,false,true,false,false,true,true,true,true] 0 0
  (fun m s=> ∃q r c,m=q/\q<18446744073709551616/\r<18446744073709551616/\c<=1/\XM 18446744073709551616 (v.getD (n+1) 0).toNat (v.getD n 0).toNat (o.getD n 0).toNat q (r+18446744073709551616*c)=G/\
   s=⟨[.junk,.sl .no (Qf v),.junk,.junk,.junk,.sc (.int .i64 v.length),.junk,.junk,.sc (.int .u64 (o.getD n 0).toNat),.sc (.int .u64 (q:Nat)),.sc (.int .u64 (r:Nat)),.sc (.int .u64 (c:Nat))]++jk 84,[],[],st⟩) (((o.getD (n+2) 0).toNat*18446744073709551616+(o.getD (n+1) 0).toNat)/(v.getD (n+1) 0).toNat) ?_ ?_
 refine Qr ?_;exact⟨((o.getD (n+2) 0).toNat*18446744073709551616+(o.getD (n+1) 0).toNat)/(v.getD (n+1) 0).toNat,((o.getD (n+2) 0).toNat*18446744073709551616+(o.getD (n+1) 0).toNat) % (v.getD (n+1) 0).toNat,0,rfl,hqq,oG,oG,(X0d (by rw[(J0p hlt).1]) (by rw[(J0p hlt).2];omega)).trans hGG.symm,rfl⟩;rintro q s ⟨q',r,c,rfl,hq,hr,hc,hG,rfl⟩;refine QM ?_ ?_<;>intro h1;have hc0:c=0:=(by have:=eq_of_beq h1;omega);subst hc0;simp-dsimp only[go_sem,x2,g2];refine⟨⟨oG,oG⟩,?_⟩;refine(zO q (v.getD n 0).toNat _ hq hv2).mono ?_;rintro r2 st ⟨H,L,hHL,rfl,rfl⟩;have hLl:=L.toNat_lt;refine Qr ?_;by_cases p1:H.toNat<r;have f1:decide ((H.toNat:Int)<(r:Int))=true:=q_h oG;simp-dsimp only[go_sem,f1];refine Qq ?_;rw[<-hG,Hn (.inr oG)];have f1:decide ((H.toNat:Int)<(r:Int))=false:=q_g oG;by_cases p2:H.toNat=r;have f2:((H.toNat:Int)==(r:Int))=true:=(by rw[p2];exact EG _);by_cases p3:L.toNat<=(o.getD n 0).toNat;have f3:decide ((L.toNat:Int)<=((o.getD n 0).toNat:Int))=true:=q_h oG;simp-dsimp only[go_sem,f1,f2,f3];refine Qq ?_;rw[<-hG,Hn (.inr oG)];have f3:decide ((L.toNat:Int)<=((o.getD n 0).toNat:Int))=false:=q_g oG;obtain⟨q2,rfl⟩: ∃q2,q=q2+1:=⟨q-1,by
  have:q≠0:=fun e=>by rw[e,DC] at hHL;omega
  omega⟩
 have x8:IntKind.u64.wrap (((q2+1:Nat):Int)-1)=((q2:Nat):Int):=(by rw[show(((q2+1:Nat):Int)-1)=((q2:Nat):Int) by omega,ZW,BJ oG]);simp-dsimp only[go_sem,f1,f2,f3,x8,x1,g1];refine⟨⟨oG,oG⟩,?_⟩;refine(W0 r (v.getD (n+1) 0).toNat 0 _ hr hv1 oG).mono ?_;rintro r3 st ⟨z,c',hc',hz,rfl,rfl⟩;simp-dsimp only[go_sem,x8,x1,g1];refine⟨q2,oG,q2,z.toNat,c',rfl,oG,BT _,hc',?_,rfl⟩;rw[zY oG] at hG;rw[<-hG,show z.toNat+18446744073709551616*c'=r+18446744073709551616*0+(v.getD (n+1) 0).toNat by omega];have f2:((H.toNat:Int)==(r:Int))=false:=CL.2 oG;obtain⟨q2,rfl⟩: ∃q2,q=q2+1:=⟨q-1,by
  have:q≠0:=fun e=>by rw[e,DC] at hHL;omega
  omega⟩
 have x8:IntKind.u64.wrap (((q2+1:Nat):Int)-1)=((q2:Nat):Int):=(by rw[show(((q2+1:Nat):Int)-1)=((q2:Nat):Int) by omega,ZW,BJ oG]);simp-dsimp only[go_sem,f1,f2,x8,x1,g1];refine⟨⟨oG,oG⟩,?_⟩;refine(W0 r (v.getD (n+1) 0).toNat 0 _ hr hv1 oG).mono ?_;rintro r3 st ⟨z,c',hc',hz,rfl,rfl⟩;simp-dsimp only[go_sem,x8,x1,g1];refine⟨q2,oG,q2,z.toNat,c',rfl,oG,BT _,hc',?_,rfl⟩;rw[zY oG] at hG;rw[<-hG,show z.toNat+18446744073709551616*c'=r+18446744073709551616*0+(v.getD (n+1) 0).toNat by omega];have hc1:c=1:=(by have:=ne_of_beq_false h1;omega);refine Qr ?_;refine Qq ?_;rw[<-hG,Hn (.inl oG)];have hge:(o.getD (n+2) 0).toNat=(v.getD (n+1) 0).toNat:=(oF h);simp-dsimp only[go_sem,hg,x1,x2,g1,g2,g3,g4,g5];refine⟨⟨oG,oG⟩,?_⟩;refine(W0 (o.getD (n+1) 0).toNat (v.getD (n+1) 0).toNat 0 _ hu1 hv1 oG).mono ?_;rintro r st ⟨z,c',hc',hz,rfl,rfl⟩;simp-dsimp only[go_sem,hg,x1,x2,g1,g2,g3,g4,g5];refine Q3 [false,true,false,false,false,true,false,false,true,true,true,true] 0 0
  (fun m s=> ∃q r c,m=q/\q<18446744073709551616/\r<18446744073709551616/\c<=1/\XM 18446744073709551616 (v.getD (n+1) 0).toNat (v.getD n 0).toNat (o.getD n 0).toNat q (r+18446744073709551616*c)=G/\
   s=⟨[.junk,.sl .no (Qf v),.junk,.junk,.junk,.sc (.int .i64 v.length),.junk,.junk,.sc (.int .u64 (o.getD n 0).toNat),.sc (.int .u64 (q:Nat)),.sc (.int .u64 (r:Nat)),.sc (.int .u64 (c:Nat))]++jk 84,[],[],st⟩) (18446744073709551615) ?_ ?_
 refine Qr ?_;exact⟨18446744073709551615,z.toNat,c',rfl,oG,BT _,hc',(X0d (by rw[(J0q oG).1]) (by rw[(J0q oG).2];omega)).trans hGG.symm,rfl⟩;rintro q s ⟨q',r,c,rfl,hq,hr,hc,hG,rfl⟩;refine QM ?_ ?_<;>intro h1;have hc0:c=0:=(by have:=eq_of_beq h1;omega);subst hc0;simp-dsimp only[go_sem,x2,g2];refine⟨⟨oG,oG⟩,?_⟩;refine(zO q (v.getD n 0).toNat _ hq hv2).mono ?_;rintro r2 st ⟨H,L,hHL,rfl,rfl⟩;have hLl:=L.toNat_lt;refine Qr ?_;by_cases p1:H.toNat<r;have f1:decide ((H.toNat:Int)<(r:Int))=true:=q_h oG;simp-dsimp only[go_sem,f1];refine Qq ?_;rw[<-hG,Hn (.inr oG)];have f1:decide ((H.toNat:Int)<(r:Int))=false:=q_g oG;by_cases p2:H.toNat=r;have f2:((H.toNat:Int)==(r:Int))=true:=(by rw[p2];exact EG _);by_cases p3:L.toNat<=(o.getD n 0).toNat;have f3:decide ((L.toNat:Int)<=((o.getD n 0).toNat:Int))=true:=q_h oG;simp-dsimp only[go_sem,f1,f2,f3];refine Qq ?_;rw[<-hG,Hn (.inr oG)];have f3:decide ((L.toNat:Int)<=((o.getD n 0).toNat:Int))=false:=q_g oG;obtain⟨q2,rfl⟩: ∃q2,q=q2+1:=⟨q-1,by
  have:q≠0:=fun e=>by rw[e,DC] at hHL;omega
  omega⟩
 have x8:IntKind.u64.wrap (((q2+1:Nat):Int)-1)=((q2:Nat):Int):=(by rw[show(((q2+1:Nat):Int)-1)=((q2:Nat):Int) by omega,ZW,BJ oG]);simp-dsimp only[go_sem,f1,f2,f3,x8,x1,g1];refine⟨⟨oG,oG⟩,?_⟩;refine(W0 r (v.getD (n+1) 0).toNat 0 _ hr hv1 oG).mono ?_;rintro r3 st ⟨z,c',hc',hz,rfl,rfl⟩;simp-dsimp only[go_sem,x8,x1,g1];refine⟨q2,oG,q2,z.toNat,c',rfl,oG,BT _,hc',?_,rfl⟩;rw[zY oG] at hG;rw[<-hG,show z.toNat+18446744073709551616*c'=r+18446744073709551616*0+(v.getD (n+1) 0).toNat by omega];have f2:((H.toNat:Int)==(r:Int))=false:=CL.2 oG;obtain⟨q2,rfl⟩: ∃q2,q=q2+1:=⟨q-1,by
  have:q≠0:=fun e=>by rw[e,DC] at hHL;omega
  omega⟩
 have x8:IntKind.u64.wrap (((q2+1:Nat):Int)-1)=((q2:Nat):Int):=(by rw[show(((q2+1:Nat):Int)-1)=((q2:Nat):Int) by omega,ZW,BJ oG]);simp-dsimp only[go_sem,f1,f2,x8,x1,g1];refine⟨⟨oG,oG⟩,?_⟩;refine(W0 r (v.getD (n+1) 0).toNat 0 _ hr hv1 oG).mono ?_;rintro r3 st ⟨z,c',hc',hz,rfl,rfl⟩;simp-dsimp only[go_sem,x8,x1,g1];refine⟨q2,oG,q2,z.toNat,c',rfl,oG,BT _,hc',?_,rfl⟩;rw[zY oG] at hG;rw[<-hG,show z.toNat+18446744073709551616*c'=r+18446744073709551616*0+(v.getD (n+1) 0).toNat by omega];have hc1:c=1:=(by have:=ne_of_beq_false h1;omega);refine Qr ?_;refine Qq ?_;rw[<-hG,Hn (.inl oG)]
end Go.Pv
end
