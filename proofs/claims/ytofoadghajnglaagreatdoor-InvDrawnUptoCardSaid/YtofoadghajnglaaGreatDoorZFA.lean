/- Parts of the walk: M79, M80, M81, M82, N111, N112, N113. -/
import Derived.Test.YtofoadghajnglaaGreatDoorZD
import Derived.Test.YtofoadghajnglaaGreatDoorZY
import Derived.Test.YtofoadghajnglaaGreatDoorZAB
set_option linter.unusedVariables false
set_option linter.unusedSimpArgs false
section
/-A word of a quotient,guessed by the highest words;B is the measure of a word. No program in it. -/
namespace Go.Pv
def K0o (B v1 v2 u0:Nat):Nat→Nat→Nat
 | 0,_=>0
 | q+1,r=>if B≤r∨(q+1)*v2≤r*B+u0 then q+1 else K0o B v1 v2 u0 q (r+v1)
theorem X1t (B v1 v2 u0:Nat): ∀q r,K0o B v1 v2 u0 q r≤q
 | 0,r=>Nat.le_refl _
 | q+1,r=>by
  rw [K0o]
  split
  · exact Nat.le_refl _
  · exact Nat.le_succ_of_le (X1t B v1 v2 u0 q _)
theorem X1s (B v1 v2 u0 T:Nat) (hv2:v2<B): ∀q r,q≤B→q*v1+r=T→
 K0o B v1 v2 u0 q r*(v1*B+v2)≤T*B+u0∧(K0o B v1 v2 u0 q r=q∨T*B+u0<(K0o B v1 v2 u0 q r+1)*(v1*B+v2))
 | 0,r,_,h=>⟨by rw [K0o,Nat.zero_mul];exact Nat.zero_le _,.inl rfl⟩
 | q+1,r,hq,h=>by
  have e: ∀x:Nat,x*(v1*B+v2)=x*v1*B+x*v2:=fun x=>by rw [Nat.mul_add,Nat.mul_assoc]
  have eT:T*B=(q+1)*v1*B+r*B:=by rw [←h,Nat.add_mul]
  have e1:=e (q+1)
  rw [K0o]
  split
  · rename_i hc
    refine⟨?_,.inl rfl⟩
    have h3:(q+1)*v2≤r*B+u0:=by
     rcases hc with hc | hc
     · have h4:(q+1)*v2≤B*B:=Nat.mul_le_mul hq (by omega)
       have h5:B*B≤r*B:=Nat.mul_le_mul_right _ hc
       omega
     · exact hc
    omega
  · rename_i hc
    have h4:T*B+u0<(q+1)*(v1*B+v2):=by omega
    obtain⟨i1,i2⟩:=X1s B v1 v2 u0 T hv2 q (r+v1) (by omega) (by rw [←h,Nat.add_mul,Nat.one_mul];omega)
    refine⟨i1,.inr ?_⟩
    rcases i2 with i2 | i2
    · rw [i2];exact h4
    · exact i2
theorem Q2o {B v1 v2 v0 T u0 w M U V q r:Nat} (hV:V=(v1*B+v2)*M+v0) (hU:U=(T*B+u0)*M+w) (hv0:v0<M) (hw:w<M) (hv1:0<v1)
 (hv2:v2<B) (hu0:u0<B) (hlt:U<V*B) (hq:q+1≤B) (hT:q*v1+r=T) (hr:q+1=B∨r<v1):
 K0o B v1 v2 u0 q r=U/V∨K0o B v1 v2 u0 q r=U/V+1:=by
 have hM:0<M:=by omega
 have hB:0<B:=by omega
 have hvB:B≤v1*B+v2:=by
  have:1*B≤v1*B:=Nat.mul_le_mul_right _ hv1
  omega
 have hV0:0<V:=by
  have h1:0<(v1*B+v2)*M:=Nat.mul_pos (by omega) hM
  omega
 obtain⟨g1,g2⟩:=X1s B v1 v2 u0 T hv2 q r (by omega) hT
 have g0:=X1t B v1 v2 u0 q r
 generalize K0o B v1 v2 u0 q r=g at g0 g1 g2
 have hQ:U/V<B:=Nat.div_lt_of_lt_mul hlt
 have d1:U/V*V≤U:=Nat.div_mul_le_self U V
 have d2:U<(U/V+1)*V:=by
  rw [Nat.mul_comm,Nat.mul_add,Nat.mul_one]
  have:=Nat.div_add_mod U V
  have:=Nat.mod_lt U hV0
  omega
 generalize U/V=Q at hQ d1 d2
 have a1:Q*(v1*B+v2)≤T*B+u0:=by
  have h2:Q*((v1*B+v2)*M)≤Q*V:=Nat.mul_le_mul_left _ (by omega)
  have h3:Q*(v1*B+v2)*M<(T*B+u0+1)*M:=by rw [Nat.add_mul (T*B+u0),Nat.mul_assoc];omega
  have:=Nat.lt_of_mul_lt_mul_right h3
  omega
 have a2:Q≤g:=by
  rcases g2 with g2 | g2
  · rw [g2]
    rcases hr with hr | hr
    · omega
    · refine Classical.byContradiction fun hn=> ?_
      have h1:(q+1)*(v1*B+v2)≤T*B+u0:=Nat.le_trans (Nat.mul_le_mul_right _ (by omega)) a1
      have h2:(q+1)*(v1*B+v2)=(q+1)*v1*B+(q+1)*v2:=by rw [Nat.mul_add,Nat.mul_assoc]
      have h3:(q+1)*v1=q*v1+v1:=by rw [Nat.add_mul,Nat.one_mul]
      have h4:T+1≤(q+1)*v1:=by omega
      have h5:(T+1)*B≤(q+1)*v1*B:=Nat.mul_le_mul_right _ h4
      have h6:(T+1)*B=T*B+B:=by rw [Nat.add_mul,Nat.one_mul]
      omega
  · refine Classical.byContradiction fun hn=> ?_
    have h1:(g+1)*(v1*B+v2)≤Q*(v1*B+v2):=Nat.mul_le_mul_right _ (by omega)
    omega
 have a3:g≤Q+1:=by
  refine Classical.byContradiction fun hn=> ?_
  have h1:(Q+1+1)*V≤g*V:=Nat.mul_le_mul_right _ (by omega)
  have h3:(Q+1+1)*V=(Q+1)*V+V:=by rw [Nat.add_mul (Q+1),Nat.one_mul]
  have h4:g*V=g*(v1*B+v2)*M+g*v0:=by rw [hV,Nat.mul_add,Nat.mul_assoc]
  have h5:g*(v1*B+v2)*M≤(T*B+u0)*M:=Nat.mul_le_mul_right _ g1
  have h6:g*v0≤B*M:=Nat.mul_le_mul (by omega) (by omega)
  have h7:B*M≤(v1*B+v2)*M:=Nat.mul_le_mul_right _ hvB
  omega
 omega
end Go.Pv
end
section
/-Division word by word:one word's step,the window's value. No program in it. -/
namespace Go.Pv
theorem V1d (o:List UInt64) (i:Nat) (z:UInt64) {B c b c' b' lo q w S V:Nat} (hB:B=18446744073709551616) (hi:i<o.length) (h1:z.toNat+lo+b=(o.getD i 0).toNat+B*b') (h2:lo+B*c'=q*w+c)
 (hv:valW o+q*S=V+B^i*(c+b)):valW (o.set i z)+q*(S+B^i*w)=V+B^(i+1)*(c'+b'):=by
 have hs:=U0r o i z hi
 rw [←hB] at hs
 have e0:B^i*(z.toNat+lo+b)=B^i*((o.getD i 0).toNat+B*b'):=by rw [h1]
 have e1:B^i*(lo+B*c')=B^i*(q*w+c):=by rw [h2]
 have e2:q*(S+B^i*w)=q*S+B^i*(q*w):=by rw [Nat.mul_add,Nat.mul_left_comm]
 have e3:B^(i+1)*(c'+b')=B^i*(B*c')+B^i*(B*b'):=by rw [Nat.pow_succ,Nat.mul_assoc,Nat.mul_add,Nat.mul_add]
 simp only [Nat.mul_add] at e0 e1 hv
 rw [e2,e3]
 omega
theorem K1z (o:List UInt64) (i:Nat) (z:UInt64) {B c c' w S V:Nat} (hB:B=18446744073709551616) (hi:i<o.length) (h1:z.toNat+B*c'=(o.getD i 0).toNat+w+c)
 (hv:valW o+B^i*c=V+S):valW (o.set i z)+B^(i+1)*c'=V+(S+B^i*w):=by
 have hs:=U0r o i z hi
 rw [←hB] at hs
 have e0:B^i*(z.toNat+B*c')=B^i*((o.getD i 0).toNat+w+c):=by rw [h1]
 have e3:B^(i+1)*c'=B^i*(B*c'):=by rw [Nat.pow_succ,Nat.mul_assoc]
 simp only [Nat.mul_add] at e0
 rw [e3]
 omega
theorem x2b {E W V g R b:Nat} (hV:0<V) (hg:g=W/V∨g=W/V+1) (hW:W<E) (hR:R<E) (h:R+g*V=W+E*b):
 (b=0→g=W/V∧R=W % V)∧(b≠0→g=W/V+1∧ ∀R' c,R'<E→R'+E*c=R+V→R'=W % V):=by
 have hd:=Nat.div_add_mod W V
 have hm:=Nat.mod_lt W hV
 rw [Nat.mul_comm] at hd
 have hs:(W/V+1)*V=W/V*V+V:=by rw [Nat.add_mul,Nat.one_mul]
 refine⟨fun h0=> ?_,fun h0=> ?_⟩
 · subst h0
   rcases hg with hg | hg
   · rw [hg] at h;exact⟨hg,by omega⟩
   · rw [hg,hs] at h;omega
 · have hb:E≤E*b:=Nat.le_mul_of_pos_right E (by omega)
   rcases hg with hg | hg
   · rw [hg] at h;omega
   · refine⟨hg,fun R' c hR' hc=> ?_⟩
     rw [hg,hs] at h
     --R+V=W % V+E*b,and all are below 2 E
     have h2:R+V=W % V+E*b:=by omega
     have h3:R'+E*c=W % V+E*b:=by omega
     have h4:(R'+E*c) % E=(W % V+E*b) % E:=by rw [h3]
     rw [Nat.add_mul_mod_self_left,Nat.add_mul_mod_self_left,Nat.mod_eq_of_lt hR',Nat.mod_eq_of_lt] at h4
     · exact h4
     · have:=Nat.mod_le W V
       omega
theorem j2i {B V n j:Nat} (hB:B=18446744073709551616) (u:List UInt64) (hl:j+n+1≤u.length) (hV:V≤B^n) (h:valW u<V*B^(j+1)):
 valW ((u.drop j).take (n+1))<V*B∧valW u=valW (u.take j)+B^j*valW ((u.drop j).take (n+1))∧valW (u.drop (j+(n+1)))=0:=by
 have h1:=V0k u j (by omega)
 have h2:=V0k (u.drop j) (n+1) (by simp;omega)
 rw [←hB] at h1 h2
 have hp:0<B^j:=Nat.pow_pos (by omega)
 have h3:valW (u.drop j)<V*B:=by
  have e:V*B^(j+1)=B^j*(V*B):=by rw [Nat.pow_succ,Nat.mul_left_comm]
  rw [e] at h
  exact Nat.lt_of_mul_lt_mul_left (a:=B^j) (by omega)
 have h4:V*B≤B^(n+1):=by rw [Nat.pow_succ];exact Nat.mul_le_mul_right _ hV
 have hz:valW ((u.drop j).drop (n+1))=0:=by
  refine Classical.byContradiction fun hn=> ?_
  have:B^(n+1)≤B^(n+1)*valW ((u.drop j).drop (n+1)):=Nat.le_mul_of_pos_right _ (by omega)
  omega
 rw [hz,Nat.mul_zero,Nat.add_zero] at h2
 rw [←h2]
 refine⟨h3,h1,?_⟩
 rw [List.drop_drop] at hz
 exact hz
end Go.Pv
end
section
/-Division word by word:the highest words,one round,the end. No program in it. -/
namespace Go.Pv
theorem top1 {B:Nat} (hB:B=18446744073709551616) (v:List UInt64) (n:Nat) (h:n<v.length):valW (v.take (n+1))=(v.getD n 0).toNat*B^n+valW (v.take n)∧valW (v.take n)<B^n:=by
 have h1:=Z0q v n h
 have h2:=X0b (v.take n)
 rw [List.length_take,Nat.min_eq_left (by omega)] at h2
 rw [←hB] at h1 h2
 exact⟨by rw [h1,Nat.mul_comm,Nat.add_comm],h2⟩
theorem top2 {B:Nat} (hB:B=18446744073709551616) (v:List UInt64) (n:Nat) (h:v.length=n+2):valW v=((v.getD (n+1) 0).toNat*B+(v.getD n 0).toNat)*B^n+valW (v.take n)∧valW (v.take n)<B^n:=by
 have h1:=top1 hB v (n+1) (by omega)
 have h2:=top1 hB v n (by omega)
 rw [List.take_of_length_le (by omega)] at h1
 refine⟨?_,h2.2⟩
 rw [h1.1,h2.1,Nat.add_mul,Nat.pow_succ,Nat.mul_assoc,Nat.mul_comm B,Nat.add_assoc]
theorem top3 {B:Nat} (hB:B=18446744073709551616) (u:List UInt64) (n:Nat) (h:u.length=n+3):
 valW u=(((u.getD (n+2) 0).toNat*B+(u.getD (n+1) 0).toNat)*B+(u.getD n 0).toNat)*B^n+valW (u.take n)∧valW (u.take n)<B^n:=by
 have h1:=top1 hB u (n+2) (by omega)
 have h2:=top2 hB (u.take (n+2)) n (by simp;omega)
 rw [List.take_of_length_le (by omega)] at h1
 have g: ∀k,k<n+2→(u.take (n+2)).getD k 0=u.getD k 0:=fun k hk=>by simp [List.getD_eq_getElem?_getD,List.getElem?_take,hk]
 rw [List.take_take,Nat.min_eq_left (by omega),g _ (by omega),g _ (by omega)] at h2
 refine⟨?_,h2.2⟩
 rw [h1.1,h2.1]
 have e:B^(n+2)=B*B*B^n:=by rw [Nat.pow_succ,Nat.pow_succ,Nat.mul_comm (B^n*B),Nat.mul_comm (B^n),Nat.mul_assoc]
 rw [e]
 simp only [Nat.add_mul,Nat.mul_assoc,Nat.add_assoc]
def V0i (B v1 u2 u1:Nat):Nat×Nat:=if u2<v1 then((u2*B+u1)/v1,(u2*B+u1) % v1) else(B-1,u1+v1)
theorem x1t {B:Nat} (hB:B=18446744073709551616) (v u:List UInt64) (n:Nat) (hv:v.length=n+2) (hu:u.length=n+3) (h1:0<(v.getD (n+1) 0).toNat) (hlt:valW u<valW v*B):
 K0o B (v.getD (n+1) 0).toNat (v.getD n 0).toNat (u.getD n 0).toNat (V0i B (v.getD (n+1) 0).toNat (u.getD (n+2) 0).toNat (u.getD (n+1) 0).toNat).1 (V0i B (v.getD (n+1) 0).toNat (u.getD (n+2) 0).toNat (u.getD (n+1) 0).toNat).2=valW u/valW v∨
 K0o B (v.getD (n+1) 0).toNat (v.getD n 0).toNat (u.getD n 0).toNat (V0i B (v.getD (n+1) 0).toNat (u.getD (n+2) 0).toNat (u.getD (n+1) 0).toNat).1 (V0i B (v.getD (n+1) 0).toNat (u.getD (n+2) 0).toNat (u.getD (n+1) 0).toNat).2=valW u/valW v+1:=by
 obtain⟨a1,a2⟩:=top2 hB v n hv
 obtain⟨b1,b2⟩:=top3 hB u n hu
 have c0:=(u.getD n 0).toNat_lt
 have c1:=(u.getD (n+1) 0).toNat_lt
 have c2:=(v.getD n 0).toNat_lt
 have c3:=(v.getD (n+1) 0).toNat_lt
 have c0':(u.getD n 0).toNat<B:=by omega
 have c1':(u.getD (n+1) 0).toNat<B:=by omega
 have c2':(v.getD n 0).toNat<B:=by omega
 clear c0 c1 c2 c3 hB
 generalize (u.getD n 0).toNat=u0 at*
 generalize (u.getD (n+1) 0).toNat=u1 at*
 generalize (u.getD (n+2) 0).toNat=u2 at*
 generalize (v.getD n 0).toNat=v2 at*
 generalize (v.getD (n+1) 0).toNat=v1 at*
 --the highest word is at most that of v
 have hle:u2≤v1:=by
  refine Classical.byContradiction fun hn=> ?_
  have hp:0<B^n:=by omega
  have s1:(v1*B+v2)*B^n+valW (v.take n)<(v1*B+v2+1)*B^n:=by rw [Nat.add_mul (v1*B+v2),Nat.one_mul];omega
  have s2:(v1*B+v2+1)*B^n≤(v1+1)*B*B^n:=Nat.mul_le_mul_right _ (by rw [Nat.add_mul,Nat.one_mul];omega)
  have s3:(v1+1)*B*B^n*B=(v1+1)*B*B*B^n:=by rw [Nat.mul_right_comm]
  have s4:(v1+1)*B*B*B^n≤((u2*B+u1)*B+u0)*B^n:=by
   refine Nat.mul_le_mul_right _ ?_
   have:(v1+1)*B*B≤u2*B*B:=Nat.mul_le_mul_right _ (Nat.mul_le_mul_right _ (by omega))
   have e:=Nat.add_mul (u2*B) u1 B
   omega
  have s5:valW v*B≤(v1+1)*B*B^n*B:=Nat.mul_le_mul_right _ (by omega)
  omega
 have hT:(V0i B v1 u2 u1).1*v1+(V0i B v1 u2 u1).2=u2*B+u1∧(V0i B v1 u2 u1).1+1≤B∧((V0i B v1 u2 u1).1+1=B∨(V0i B v1 u2 u1).2<v1):=by
  unfold V0i
  split
  · rename_i hc
    refine⟨Nat.div_add_mod' _ _,?_,.inr (Nat.mod_lt _ h1)⟩
    have:u2*B+u1<v1*B:=by
     have:(u2+1)*B≤v1*B:=Nat.mul_le_mul_right _ hc
     rw [Nat.add_mul,Nat.one_mul] at this
     omega
    have:=Nat.div_lt_of_lt_mul this
    show(u2*B+u1)/v1+1≤B
    omega
  · rename_i hc
    have:u2=v1:=by omega
    refine⟨?_,by show B-1+1≤B;omega,.inl (by show B-1+1=B;omega)⟩
    show(B-1)*v1+(u1+v1)=u2*B+u1
    rw [this,Nat.sub_mul,Nat.one_mul,Nat.mul_comm v1 B]
    have:1*v1≤B*v1:=Nat.mul_le_mul_right _ (by omega)
    omega
 exact Q2o (T:=u2*B+u1) a1 b1 a2 b2 h1 c2' c0' hlt hT.2.1 hT.1 hT.2.2
theorem W2c {A O V W low B j:Nat} (hV:0<V) (h:A=O*B^(j+1)*V+(low+B^j*W)) (hlow:low<B^j):
 A=(W/V+B*O)*B^j*V+(low+B^j*(W % V))∧low+B^j*(W % V)<V*B^j:=by
 have hd:=Nat.div_add_mod W V
 have hm:=Nat.mod_lt W hV
 constructor
 · rw [h]
   have e1:O*B^(j+1)*V=B*O*B^j*V:=by rw [Nat.pow_succ,Nat.mul_comm B O,Nat.mul_comm (B^j) B,←Nat.mul_assoc O]
   have e2:B^j*W=W/V*B^j*V+B^j*(W % V):=by
    conv=>lhs;rw [←hd]
    rw [Nat.mul_add,Nat.mul_comm V,←Nat.mul_assoc,Nat.mul_comm (B^j)]
   rw [e1,e2,Nat.add_mul,Nat.add_mul]
   omega
 · have h1:B^j*(W % V+1)≤B^j*V:=Nat.mul_le_mul_left _ hm
   rw [Nat.mul_add,Nat.mul_one] at h1
   rw [Nat.mul_comm V]
   omega
theorem Z3m {a b s O r:Nat} (hb:0<b) (h:a*2^s=O*(b*2^s)+r) (hr:r<b*2^s):O=a/b∧r/2^s=a % b:=by
 have hp:0<2^s:=Nat.two_pow_pos s
 have hO:O=a*2^s/(b*2^s):=by
  rw [h,Nat.add_comm,Nat.add_mul_div_right _ _ (Nat.mul_pos hb hp),Nat.div_eq_of_lt hr,Nat.zero_add]
 have hr2:r=a*2^s % (b*2^s):=by
  rw [h,Nat.add_comm,Nat.add_mul_mod_self_right,Nat.mod_eq_of_lt hr]
 rw [Nat.mul_div_mul_right _ _ hp] at hO
 rw [Nat.mul_mod_mul_right] at hr2
 exact⟨hO,by rw [hr2,Nat.mul_div_cancel _ hp]⟩
end Go.Pv
end
section
/-math/bits.Div64:half a word of the quotient,put right;B is the measure of half a word. No program in it. -/
namespace Go.Pv
def v0n (B v1 v2 u0:Nat):Nat→Nat→Nat×Nat
 | 0,r=>(0,r)
 | q+1,r=>if B≤q+1∨r*B+u0<(q+1)*v2 then(if B≤r+v1 then(q,r+v1) else v0n B v1 v2 u0 q (r+v1)) else(q+1,r)
theorem V1i (B v1 v2 u0 T:Nat) (hv2:v2<B) (hu0:u0<B) (hT:T<v1*B+v2): ∀q r,q≤B+1→q*v1+r=T→(T*B+u0)/(v1*B+v2)≤q→
 (v0n B v1 v2 u0 q r).1=(T*B+u0)/(v1*B+v2)
 | 0,r,_,h,hQ=>(Nat.le_zero.1 hQ).symm
 | q+1,r,hq,h,hQ=>by
  have hV:0<v1*B+v2:=by omega
  have hB:0<B:=by omega
  have e:q*v1+(r+v1)=T:=by rw [←h,Nat.add_mul,Nat.one_mul];omega
  have eT:T*B=(q+1)*v1*B+r*B:=by rw [←h,Nat.add_mul]
  have eT2:T*B=q*v1*B+(r+v1)*B:=by rw [←e,Nat.add_mul]
  have e1:(q+1)*(v1*B+v2)=(q+1)*v1*B+(q+1)*v2:=by rw [Nat.mul_add,Nat.mul_assoc]
  have e2:q*(v1*B+v2)=q*v1*B+q*v2:=by rw [Nat.mul_add,Nat.mul_assoc]
  have hQB:(T*B+u0)/(v1*B+v2)<B:=by
   refine Nat.div_lt_of_lt_mul ?_
   have:(T+1)*B≤(v1*B+v2)*B:=Nat.mul_le_mul_right _ hT
   rw [Nat.add_mul,Nat.one_mul] at this
   omega
  rw [v0n]
  split
  · rename_i hc
    have hQ1:(T*B+u0)/(v1*B+v2)≤q:=by
     rcases hc with hc | hc
     · omega
     · have:T*B+u0<(q+1)*(v1*B+v2):=by omega
       have:=(Nat.div_lt_iff_lt_mul hV).2 this
       omega
    split
    · rename_i hr
      refine Nat.le_antisymm ?_ hQ1
      refine(Nat.le_div_iff_mul_le hV).2 ?_
      show q*(v1*B+v2)≤T*B+u0
      have h1:q*v2≤B*B:=Nat.mul_le_mul (by omega) (by omega)
      have h2:B*B≤(r+v1)*B:=Nat.mul_le_mul_right _ hr
      omega
    · exact V1i B v1 v2 u0 T hv2 hu0 hT q _ (by omega) e hQ1
  · rename_i hc
    refine Nat.le_antisymm ?_ hQ
    refine(Nat.le_div_iff_mul_le hV).2 ?_
    show(q+1)*(v1*B+v2)≤T*B+u0
    omega
theorem H1g {B v1 v2 u0 T:Nat} (hv2:v2<B) (hu0:u0<B) (hT:T<v1*B+v2) (hn:B≤2*v1) (hB:0<B):
 (v0n B v1 v2 u0 (T/v1) (T % v1)).1=(T*B+u0)/(v1*B+v2):=by
 have h1:0<v1:=by omega
 have hV:0<v1*B+v2:=by omega
 refine V1i B v1 v2 u0 T hv2 hu0 hT _ _ ?_ (Nat.div_add_mod' T v1) ?_
 · have:T<v1*(B+2):=by rw [Nat.mul_add];omega
   have:=Nat.div_lt_of_lt_mul this
   omega
 · refine(Nat.le_div_iff_mul_le h1).2 ?_
   have hd:=Nat.div_mul_le_self (T*B+u0) (v1*B+v2)
   generalize (T*B+u0)/(v1*B+v2)=Q at hd
   refine Classical.byContradiction fun hn2=> ?_
   have a1:(T+1)*B≤Q*v1*B:=Nat.mul_le_mul_right _ (by omega)
   have a2:Q*(v1*B+v2)=Q*v1*B+Q*v2:=by rw [Nat.mul_add,Nat.mul_assoc]
   rw [Nat.add_mul,Nat.one_mul] at a1
   omega
end Go.Pv
end
section
/-nat.more,nat.less:a j2i of words that lie in an object of the store is written. -/
set_option maxRecDepth 100000
namespace Go.Pv
open Go.Proofs
theorem j0e (P R:List PV) (T:List UInt64) (k:Nat) (h:k<T.length):(P++(encW T++R)).getD (P.length+k) .junk= .sc (.int .u64 (T.getD k 0).toNat):=by
 rw [List.getD_eq_getElem?_getD,List.getElem?_append_right (by omega),Nat.add_sub_cancel_left,List.getElem?_append_left (by rw [Z0m];exact h),←List.getD_eq_getElem?_getD]
 exact Z0e T k h
theorem W1z (P R:List PV) (T:List UInt64) (k:Nat) (c:UInt64) (h:k<T.length):over (P++(encW T++R)) (P.length+k) [.sc (.int .u64 c.toNat)]=P++(encW (T.set k c)++R):=by
 unfold over
 have e:encW (T.set k c)=(encW T).set k (.sc (.int .u64 c.toNat)):=by unfold encW;rw [List.map_set]
 have hl:k<(encW T).length:=by rw [Z0m];exact h
 have e2:(P++(encW T++R)).set (P.length+k) (.sc (.int .u64 c.toNat))=P++((encW T).set k (.sc (.int .u64 c.toNat))++R):=by
  rw [List.set_append_right (s:=P) _ _ (Nat.le_add_right _ _),Nat.add_sub_cancel_left,List.set_append_left _ _ hl]
 rw [e,←e2,List.set_eq_take_append_cons_drop,if_pos (by rw [List.length_append,List.length_append];omega)]
 simp
theorem W1i {st:Q0f} {k:Nat} {X:List PV} (hk:k<st.length) (h:st.getD k []=X):st.set k X=st:=by
 rw [List.getD_eq_getElem?_getD,List.getElem?_eq_getElem hk,Option.getD_some] at h
 rw [←h]
 exact List.set_getElem_self hk
theorem y0o {st:Q0f} {k:Nat} (X:List PV) (hk:k<st.length):(st.set k X).getD k []=X:=by
 rw [List.getD_eq_getElem?_getD,List.getElem?_set_self hk,Option.getD_some]
theorem V3t (v o:List UInt64) (P R:List PV) (k:Nat) (st:Q0f) (hk:k<st.length) (hg:st.getD k []=P++(encW o++R)) (ho:o.length=v.length+1) (hv:v.length≤1000000000000):
 PCalls Tryz.prog 280 [.ms true k P.length (v.length+1),.sl .no (encW v)] st
 (fun r st'=> ∃o' c,o'.length=o.length∧valW o'+18446744073709551616^(v.length+1)*c=valW o+valW v∧r= .tup []∧st'=st.set k (P++(encW o'++R))):=by
 refine Q0b none Tryz.func280 rfl fun E=>Q0a ?_
 simp -dsimp only [go_sem]
 refine Q0e [true,true,false,false,true,false,false,true,true,true] 0 0
  (fun m s=> ∃i c T,m=v.length-i∧i≤v.length∧c≤1∧T.length=o.length∧valW T+18446744073709551616^i*c=valW o+valW (v.take i)∧
   s=⟨[.ms true k P.length (v.length+1),.sl .no (encW v),.junk,.junk,.sc (.int .u64 (c:Nat)),.junk,.junk,.sl .no (encW v),.sc (.int .i64 v.length),.sc (.int .i64 (i:Nat))]++List.replicate 26 .junk,[],[],st.set k (P++(encW T++R))⟩) v.length ?_ ?_
 · simp -dsimp only [go_sem]
   exact⟨0,0,o,by omega,by omega,by omega,rfl,by simp [valW,nW,val],by rw [W1i hk hg];rfl⟩
 · rintro m s ⟨i,c,T,rfl,hi,hc,hT,hs,rfl⟩
   have gst:=y0o (P++(encW T++R)) hk
   simp -dsimp only [go_sem]
   refine ck (fun h=> ?_) (fun h=> ?_)
   · have hlt:i<v.length:=by have:=of_decide_eq_true h;omega
     have g1:=Z0e v i hlt
     have g2:=j0e P R T i (by omega)
     have x6:IntKind.i64.wrap ((i:Int)+1)=((i+1:Nat):Int):=by
      rw [show((i:Int)+1)=((i+1:Nat):Int) from rfl,Q0m _ (by omega)]
     simp -dsimp only [go_sem,g1,g2,gst]
     refine⟨⟨by omega,hlt⟩,⟨by omega,by omega⟩,by omega,?_⟩
     refine(W0d (T.getD i 0).toNat (v.getD i 0).toNat c _ (UInt64.toNat_lt _) (UInt64.toNat_lt _) hc).mono ?_
     rintro r st' ⟨z,c',hc',hz,rfl,rfl⟩
     have o1:=W1z P R T i z (by omega)
     have e2:=Z0q v i hlt
     have hs2:=K1z T i z rfl (by omega) hz hs
     simp -dsimp only [go_sem,g1,g2,gst,o1,List.set_set,x6]
     refine⟨⟨by omega,by omega⟩,by omega,v.length-(i+1),by omega,i+1,c',T.set i z,rfl,by omega,hc',by rw [List.length_set];exact hT,?_,rfl⟩
     rw [e2];exact hs2
   · have hge:i=v.length:=by have:=of_decide_eq_false h;omega
     simp -dsimp only [go_sem]
     refine Q0a ?_
     simp -dsimp only [go_sem]
     subst hge
     rw [List.take_length] at hs
     have g2:=j0e P R T v.length (by omega)
     simp -dsimp only [go_sem,g2,gst]
     have hz:(UInt64.ofNat (((T.getD v.length 0).toNat+c) % 18446744073709551616)).toNat=((T.getD v.length 0).toNat+c) % 18446744073709551616:=by rw [UInt64.toNat_ofNat'];omega
     have ew:IntKind.u64.wrap (((T.getD v.length 0).toNat:Int)+(c:Int))=((UInt64.ofNat (((T.getD v.length 0).toNat+c) % 18446744073709551616)).toNat:Int):=by
      rw [hz,show(((T.getD v.length 0).toNat:Int)+(c:Int))=(((T.getD v.length 0).toNat+c:Nat):Int) from rfl,Z0w]
     have o1:=W1z P R T v.length (UInt64.ofNat (((T.getD v.length 0).toNat+c) % 18446744073709551616)) (by omega)
     have hs2:=K1z T v.length (UInt64.ofNat (((T.getD v.length 0).toNat+c) % 18446744073709551616)) (c':=((T.getD v.length 0).toNat+c)/18446744073709551616) (w:=0) rfl (by omega) (by rw [hz];omega) hs
     rw [ew,o1,List.set_set]
     rw [Nat.mul_zero,Nat.add_zero] at hs2
     exact⟨by omega,by omega,by omega,⟨by omega,by omega⟩,_,_,by rw [List.length_set];exact hT,hs2,rfl⟩
end Go.Pv
end
section
/-nat.less. -/
set_option maxRecDepth 100000
namespace Go.Pv
open Go.Proofs
theorem y2y (v o:List UInt64) (q:Nat) (P R:List PV) (k:Nat) (st:Q0f) (hk:k<st.length) (hg:st.getD k []=P++(encW o++R)) (ho:o.length=v.length+1) (hv:v.length≤1000000000000) (hq:q<18446744073709551616):
 PCalls Tryz.prog 279 [.ms true k P.length (v.length+1),.sl .no (encW v),.sc (.int .u64 q)] st
 (fun r st'=> ∃o' b,o'.length=o.length∧valW o'+q*valW v=valW o+18446744073709551616^(v.length+1)*b∧r= .sc (.bool (decide (b≠0)))∧st'=st.set k (P++(encW o'++R))):=by
 refine Q0b none Tryz.func279 rfl fun E=>Q0a ?_
 simp -dsimp only [go_sem]
 refine Q0e [true,true,true,false,false,false,false,true,true,false,false,false,false,false,true,true,true] 0 0
  (fun m s=> ∃i c b T,m=v.length-i∧i≤v.length∧b≤1∧c<18446744073709551616∧T.length=o.length∧valW T+q*valW (v.take i)=valW o+18446744073709551616^i*(c+b)∧
   s=⟨[.ms true k P.length (v.length+1),.sl .no (encW v),.sc (.int .u64 q),.junk,.junk,.junk,.junk,.sc (.int .u64 (c:Nat)),.sc (.int .u64 (b:Nat)),.junk,.junk,.junk,.junk,.junk,.sl .no (encW v),.sc (.int .i64 v.length),.sc (.int .i64 (i:Nat))]++List.replicate 50 .junk,[],[],st.set k (P++(encW T++R))⟩) v.length ?_ ?_
 · simp -dsimp only [go_sem]
   exact⟨0,0,0,o,by omega,by omega,by omega,by omega,rfl,by simp [valW,nW,val],by rw [W1i hk hg];rfl⟩
 · rintro m s ⟨i,c,b,T,rfl,hi,hb,hc,hT,hs,rfl⟩
   have gst:=y0o (P++(encW T++R)) hk
   simp -dsimp only [go_sem]
   refine ck (fun h=> ?_) (fun h=> ?_)
   · have hlt:i<v.length:=by have:=of_decide_eq_true h;omega
     have g1:=Z0e v i hlt
     have g2:=j0e P R T i (by omega)
     have x6:IntKind.i64.wrap ((i:Int)+1)=((i+1:Nat):Int):=by
      rw [show((i:Int)+1)=((i+1:Nat):Int) from rfl,Q0m _ (by omega)]
     have hwl:=(v.getD i 0).toNat_lt
     have hP:q*(v.getD i 0).toNat≤18446744073709551615*18446744073709551615:=Nat.mul_le_mul (by omega) (by omega)
     simp -dsimp only [go_sem,g1,g2,gst]
     refine⟨⟨by omega,hlt⟩,?_⟩
     refine(Y1c q (v.getD i 0).toNat _ hq hwl).mono ?_
     rintro r st' ⟨H,L,hHL,rfl,rfl⟩
     simp -dsimp only [go_sem,g1,g2,gst]
     refine(W0d L.toNat c 0 _ (UInt64.toNat_lt _) hc (by omega)).mono ?_
     rintro r st' ⟨lo,ov,hov,hlo,rfl,rfl⟩
     have hH:=H.toNat_lt
     have hL:=L.toNat_lt
     have hcc:H.toNat+ov<18446744073709551616:=by omega
     have x7:IntKind.u64.wrap ((H.toNat:Int)+(ov:Int))=((H.toNat+ov:Nat):Int):=by
      rw [show((H.toNat:Int)+(ov:Int))=((H.toNat+ov:Nat):Int) from rfl,Z0w,Nat.mod_eq_of_lt hcc]
     simp -dsimp only [go_sem,g1,g2,gst,x7]
     refine⟨⟨by omega,by omega⟩,by omega,?_⟩
     refine(Q1f (T.getD i 0).toNat lo.toNat b _ (UInt64.toNat_lt _) (UInt64.toNat_lt _) hb).mono ?_
     rintro r st' ⟨z,b',hb',hz,rfl,rfl⟩
     have o1:=W1z P R T i z (by omega)
     have e2:=Z0q v i hlt
     have hs2:=V1d T i z (c':=H.toNat+ov) (lo:=lo.toNat) (w:=(v.getD i 0).toNat) rfl (by omega) hz (by omega) hs
     simp -dsimp only [go_sem,g1,g2,gst,o1,List.set_set,x6]
     refine⟨⟨by omega,by omega⟩,by omega,v.length-(i+1),by omega,i+1,H.toNat+ov,b',T.set i z,rfl,by omega,hb',hcc,by rw [List.length_set];exact hT,?_,rfl⟩
     rw [e2];exact hs2
   · have hge:i=v.length:=by have:=of_decide_eq_false h;omega
     simp -dsimp only [go_sem]
     refine Q0a ?_
     subst hge
     rw [List.take_length] at hs
     have g2:=j0e P R T v.length (by omega)
     simp -dsimp only [go_sem,g2,gst]
     refine⟨by omega,by omega,?_⟩
     refine(Q1f (T.getD v.length 0).toNat c b _ (UInt64.toNat_lt _) hc hb).mono ?_
     rintro r st' ⟨z,b',hb',hz,rfl,rfl⟩
     have o1:=W1z P R T v.length z (by omega)
     have hs2:=V1d T v.length z (c':=0) (b':=b') (lo:=c) (w:=0) rfl (by omega) hz (by omega) hs
     rw [Nat.mul_zero,Nat.add_zero,Nat.zero_add] at hs2
     simp -dsimp only [go_sem,g2,gst,o1,List.set_set]
     refine⟨by omega,⟨by omega,by omega⟩,_,b',by rw [List.length_set];exact hT,hs2,?_,rfl⟩
     congr 2
     by_cases h0:b'=0
     · subst h0;rfl
     · have:((b':Int) !=0)=true:=by simp;omega
       rw [this,decide_eq_true h0]
end Go.Pv
end
section
/-nat.guess (given what math/bits.Div64 does). -/
set_option maxRecDepth 100000
namespace Go.Pv
open Go.Proofs
def U3n :Prop:= ∀(hi lo d:Nat) (st:Q0f),0<d→d<18446744073709551616→hi<d→lo<18446744073709551616→PCalls Tryz.prog 276 [.sc (.int .u64 hi),.sc (.int .u64 lo),.sc (.int .u64 d)] st
 (fun r st'=>r= .tup [.sc (.int .u64 (((hi*18446744073709551616+lo)/d:Nat):Int)),.sc (.int .u64 (((hi*18446744073709551616+lo) % d:Nat):Int))]∧st'=st)
theorem H1o {B v1 u2 u1:Nat} (h:u2<v1):(V0i B v1 u2 u1).1=(u2*B+u1)/v1∧(V0i B v1 u2 u1).2=(u2*B+u1) % v1:=by
 unfold V0i;rw [if_pos h];exact⟨rfl,rfl⟩
theorem H1p {B v1 u2 u1:Nat} (h: ¬u2<v1):(V0i B v1 u2 u1).1=B-1∧(V0i B v1 u2 u1).2=u1+v1:=by
 unfold V0i;rw [if_neg h];exact⟨rfl,rfl⟩
theorem X1u {B v1 v2 u0 q r q' r':Nat} (h1:q=q') (h2:r=r'):K0o B v1 v2 u0 q r=K0o B v1 v2 u0 q' r':=by rw [h1,h2]
theorem H0t {B v1 v2 u0 q r:Nat} (h: ¬(B≤r∨(q+1)*v2≤r*B+u0)):K0o B v1 v2 u0 (q+1) r=K0o B v1 v2 u0 q (r+v1):=by rw [K0o,if_neg h]
theorem W0k {B v1 v2 u0 q r:Nat} (h:B≤r∨q*v2≤r*B+u0):K0o B v1 v2 u0 q r=q:=by
 cases q with
 | zero=>rfl
 | succ q=>rw [K0o,if_pos h]
set_option maxHeartbeats 4000000 in
theorem Q3k (hD:U3n) (v o:List UInt64) (n:Nat) (P R:List PV) (k:Nat) (st:Q0f) (hk:k<st.length) (hg:st.getD k []=P++(encW o++R)) (hv:v.length=n+2) (ho:o.length=n+3) (hn:n≤1000000000000)
 (h0:0<(v.getD (n+1) 0).toNat) (hle:(o.getD (n+2) 0).toNat≤(v.getD (n+1) 0).toNat):
 PCalls Tryz.prog 278 [.ms true k P.length (n+3),.sl .no (encW v)] st
 (fun r st'=>r= .sc (.int .u64 ((K0o 18446744073709551616 (v.getD (n+1) 0).toNat (v.getD n 0).toNat (o.getD n 0).toNat (V0i 18446744073709551616 (v.getD (n+1) 0).toNat (o.getD (n+2) 0).toNat (o.getD (n+1) 0).toNat).1 (V0i 18446744073709551616 (v.getD (n+1) 0).toNat (o.getD (n+2) 0).toNat (o.getD (n+1) 0).toNat).2:Nat):Int))∧st'=st):=by
 have x1:IntKind.i64.wrap ((v.length:Int)-1)=((n+1:Nat):Int):=by
  rw [hv,show(((n+2:Nat):Int)-1)=((n+1:Nat):Int) by omega,Q0m _ (by omega)]
 have x2:IntKind.i64.wrap ((v.length:Int)-2)=((n:Nat):Int):=by
  rw [hv,show(((n+2:Nat):Int)-2)=((n:Nat):Int) by omega,Q0m _ (by omega)]
 have g1:=Z0e v (n+1) (by omega)
 have g2:=Z0e v n (by omega)
 have g3:(P++(encW o++R)).getD (P.length+v.length) .junk= .sc (.int .u64 (o.getD (n+2) 0).toNat):=by rw [hv];exact j0e P R o (n+2) (by omega)
 have g4:=j0e P R o (n+1) (by omega)
 have g5:=j0e P R o n (by omega)
 have hv1:=(v.getD (n+1) 0).toNat_lt
 have hv2:=(v.getD n 0).toNat_lt
 have hu0:=(o.getD n 0).toNat_lt
 have hu1:=(o.getD (n+1) 0).toNat_lt
 have hu2:=(o.getD (n+2) 0).toNat_lt
 refine Q0b none Tryz.func278 rfl fun E=>Q0a ?_
 simp -dsimp only [go_sem]
 refine Q0k Z0f 96 (.step 0 [] (.step 1 [] (.step 2 [] (.step 3 [] (.step 4 [] (.step 5 [] (.step 6 [] (.step 7 [] (.step 8 [] (.step 9 [] (.step 10 [] (.step 11 [] (.step 12 [] (.step 13 [] (.step 14 [] (.step 15 [] (.step 16 [] (.done)))))))))))))))))) (by decide+kernel) (by simp) ?_
 simp -dsimp only [go_sem,hg,x1,x2,g1,g2,g3,g4,g5]
 refine⟨⟨by omega,by omega⟩,by omega,by omega,by omega,by omega,by omega,⟨by omega,by omega⟩,?_⟩
 obtain⟨G,hGG⟩: ∃G,G=K0o 18446744073709551616 (v.getD (n+1) 0).toNat (v.getD n 0).toNat (o.getD n 0).toNat (V0i 18446744073709551616 (v.getD (n+1) 0).toNat (o.getD (n+2) 0).toNat (o.getD (n+1) 0).toNat).1 (V0i 18446744073709551616 (v.getD (n+1) 0).toNat (o.getD (n+2) 0).toNat (o.getD (n+1) 0).toNat).2:=⟨_,rfl⟩
 rw [←hGG]
 refine ck (fun h=> ?_) (fun h=> ?_)
 · have hlt:(o.getD (n+2) 0).toNat<(v.getD (n+1) 0).toNat:=by have:=of_decide_eq_true h;omega
   simp -dsimp only [go_sem,hg,x1,x2,g1,g2,g3,g4,g5]
   refine⟨⟨by omega,by omega⟩,?_⟩
   refine(hD (o.getD (n+2) 0).toNat (o.getD (n+1) 0).toNat (v.getD (n+1) 0).toNat _ h0 hv1 hlt hu1).mono ?_
   rintro r st ⟨rfl,rfl⟩
   have hqq:((o.getD (n+2) 0).toNat*18446744073709551616+(o.getD (n+1) 0).toNat)/(v.getD (n+1) 0).toNat<18446744073709551616:=Nat.div_lt_of_lt_mul (by
    have:=Nat.mul_le_mul_right 18446744073709551616 (show(o.getD (n+2) 0).toNat+1≤(v.getD (n+1) 0).toNat by omega)
    omega)
   have hrr:=Nat.mod_lt ((o.getD (n+2) 0).toNat*18446744073709551616+(o.getD (n+1) 0).toNat) h0
   simp -dsimp only [go_sem,hg,x1,x2,g1,g2,g3,g4,g5]
   refine Q0e [false,true,false,false,false,true,false,false,true,true,true,true] 0 0
    (fun m s=> ∃q r c,m=q∧q<18446744073709551616∧r<18446744073709551616∧c≤1∧K0o 18446744073709551616 (v.getD (n+1) 0).toNat (v.getD n 0).toNat (o.getD n 0).toNat q (r+18446744073709551616*c)=G∧
     s=⟨[.junk,.sl .no (encW v),.junk,.junk,.junk,.sc (.int .i64 v.length),.junk,.junk,.sc (.int .u64 (o.getD n 0).toNat),.sc (.int .u64 (q:Nat)),.sc (.int .u64 (r:Nat)),.sc (.int .u64 (c:Nat))]++List.replicate 84 .junk,[],[],st⟩) (((o.getD (n+2) 0).toNat*18446744073709551616+(o.getD (n+1) 0).toNat)/(v.getD (n+1) 0).toNat) ?_ ?_
   · simp -dsimp only [go_sem]
     exact⟨((o.getD (n+2) 0).toNat*18446744073709551616+(o.getD (n+1) 0).toNat)/(v.getD (n+1) 0).toNat,((o.getD (n+2) 0).toNat*18446744073709551616+(o.getD (n+1) 0).toNat) % (v.getD (n+1) 0).toNat,0,rfl,hqq,by omega,by omega,(X1u (by rw [(H1o hlt).1]) (by rw [(H1o hlt).2];omega)).trans hGG.symm,rfl⟩
   · rintro q s ⟨q',r,c,rfl,hq,hr,hc,hG,rfl⟩
     simp -dsimp only [go_sem]
     refine ck (fun h1=> ?_) (fun h1=> ?_)
     · have hc0:c=0:=by have:=eq_of_beq h1;omega
       subst hc0
       simp -dsimp only [go_sem,x2,g2]
       refine⟨⟨by omega,by omega⟩,?_⟩
       refine(Y1c q (v.getD n 0).toNat _ hq hv2).mono ?_
       rintro r2 st ⟨H,L,hHL,rfl,rfl⟩
       have hLl:=L.toNat_lt
       simp -dsimp only [go_sem]
       by_cases p1:H.toNat<r
       · have f1:decide ((H.toNat:Int)<(r:Int))=true:=decide_eq_true (by omega)
         simp -dsimp only [go_sem,f1]
         refine Q0a ?_
         simp -dsimp only [go_sem]
         rw [←hG,W0k (.inr (by omega))]
       have f1:decide ((H.toNat:Int)<(r:Int))=false:=decide_eq_false (by omega)
       by_cases p2:H.toNat=r
       · have f2:((H.toNat:Int)==(r:Int))=true:=by rw [p2];exact beq_self_eq_true _
         by_cases p3:L.toNat≤(o.getD n 0).toNat
         · have f3:decide ((L.toNat:Int)≤((o.getD n 0).toNat:Int))=true:=decide_eq_true (by omega)
           simp -dsimp only [go_sem,f1,f2,f3]
           refine Q0a ?_
           simp -dsimp only [go_sem]
           rw [←hG,W0k (.inr (by omega))]
         · have f3:decide ((L.toNat:Int)≤((o.getD n 0).toNat:Int))=false:=decide_eq_false (by omega)
           obtain⟨q2,rfl⟩: ∃q2,q=q2+1:=⟨q-1,by
            have:q≠0:=fun e=>by rw [e,Nat.zero_mul] at hHL;omega
            omega⟩
           have x8:IntKind.u64.wrap (((q2+1:Nat):Int)-1)=((q2:Nat):Int):=by
            rw [show(((q2+1:Nat):Int)-1)=((q2:Nat):Int) by omega,Z0w,Nat.mod_eq_of_lt (by omega)]
           simp -dsimp only [go_sem,f1,f2,f3,x8,x1,g1]
           refine⟨⟨by omega,by omega⟩,?_⟩
           refine(W0d r (v.getD (n+1) 0).toNat 0 _ hr hv1 (by omega)).mono ?_
           rintro r3 st ⟨z,c',hc',hz,rfl,rfl⟩
           simp -dsimp only [go_sem,x8,x1,g1]
           refine⟨q2,by omega,q2,z.toNat,c',rfl,by omega,UInt64.toNat_lt _,hc',?_,rfl⟩
           rw [H0t (by omega)] at hG
           rw [←hG,show z.toNat+18446744073709551616*c'=r+18446744073709551616*0+(v.getD (n+1) 0).toNat by omega]
       · have f2:((H.toNat:Int)==(r:Int))=false:=beq_eq_false_iff_ne.2 (by omega)
         obtain⟨q2,rfl⟩: ∃q2,q=q2+1:=⟨q-1,by
          have:q≠0:=fun e=>by rw [e,Nat.zero_mul] at hHL;omega
          omega⟩
         have x8:IntKind.u64.wrap (((q2+1:Nat):Int)-1)=((q2:Nat):Int):=by
          rw [show(((q2+1:Nat):Int)-1)=((q2:Nat):Int) by omega,Z0w,Nat.mod_eq_of_lt (by omega)]
         simp -dsimp only [go_sem,f1,f2,x8,x1,g1]
         refine⟨⟨by omega,by omega⟩,?_⟩
         refine(W0d r (v.getD (n+1) 0).toNat 0 _ hr hv1 (by omega)).mono ?_
         rintro r3 st ⟨z,c',hc',hz,rfl,rfl⟩
         simp -dsimp only [go_sem,x8,x1,g1]
         refine⟨q2,by omega,q2,z.toNat,c',rfl,by omega,UInt64.toNat_lt _,hc',?_,rfl⟩
         rw [H0t (by omega)] at hG
         rw [←hG,show z.toNat+18446744073709551616*c'=r+18446744073709551616*0+(v.getD (n+1) 0).toNat by omega]
     · have hc1:c=1:=by
        have:=ne_of_beq_false h1
        omega
       simp -dsimp only [go_sem]
       refine Q0a ?_
       simp -dsimp only [go_sem]
       rw [←hG,W0k (.inl (by omega))]
 · have hge:(o.getD (n+2) 0).toNat=(v.getD (n+1) 0).toNat:=by have:=of_decide_eq_false h;omega
   simp -dsimp only [go_sem,hg,x1,x2,g1,g2,g3,g4,g5]
   refine⟨⟨by omega,by omega⟩,?_⟩
   refine(W0d (o.getD (n+1) 0).toNat (v.getD (n+1) 0).toNat 0 _ hu1 hv1 (by omega)).mono ?_
   rintro r st ⟨z,c',hc',hz,rfl,rfl⟩
   simp -dsimp only [go_sem,hg,x1,x2,g1,g2,g3,g4,g5]
   refine Q0e [false,true,false,false,false,true,false,false,true,true,true,true] 0 0
    (fun m s=> ∃q r c,m=q∧q<18446744073709551616∧r<18446744073709551616∧c≤1∧K0o 18446744073709551616 (v.getD (n+1) 0).toNat (v.getD n 0).toNat (o.getD n 0).toNat q (r+18446744073709551616*c)=G∧
     s=⟨[.junk,.sl .no (encW v),.junk,.junk,.junk,.sc (.int .i64 v.length),.junk,.junk,.sc (.int .u64 (o.getD n 0).toNat),.sc (.int .u64 (q:Nat)),.sc (.int .u64 (r:Nat)),.sc (.int .u64 (c:Nat))]++List.replicate 84 .junk,[],[],st⟩) (18446744073709551615) ?_ ?_
   · simp -dsimp only [go_sem]
     exact⟨18446744073709551615,z.toNat,c',rfl,by omega,UInt64.toNat_lt _,hc',(X1u (by rw [(H1p (by omega)).1]) (by rw [(H1p (by omega)).2];omega)).trans hGG.symm,rfl⟩
   · rintro q s ⟨q',r,c,rfl,hq,hr,hc,hG,rfl⟩
     simp -dsimp only [go_sem]
     refine ck (fun h1=> ?_) (fun h1=> ?_)
     · have hc0:c=0:=by have:=eq_of_beq h1;omega
       subst hc0
       simp -dsimp only [go_sem,x2,g2]
       refine⟨⟨by omega,by omega⟩,?_⟩
       refine(Y1c q (v.getD n 0).toNat _ hq hv2).mono ?_
       rintro r2 st ⟨H,L,hHL,rfl,rfl⟩
       have hLl:=L.toNat_lt
       simp -dsimp only [go_sem]
       by_cases p1:H.toNat<r
       · have f1:decide ((H.toNat:Int)<(r:Int))=true:=decide_eq_true (by omega)
         simp -dsimp only [go_sem,f1]
         refine Q0a ?_
         simp -dsimp only [go_sem]
         rw [←hG,W0k (.inr (by omega))]
       have f1:decide ((H.toNat:Int)<(r:Int))=false:=decide_eq_false (by omega)
       by_cases p2:H.toNat=r
       · have f2:((H.toNat:Int)==(r:Int))=true:=by rw [p2];exact beq_self_eq_true _
         by_cases p3:L.toNat≤(o.getD n 0).toNat
         · have f3:decide ((L.toNat:Int)≤((o.getD n 0).toNat:Int))=true:=decide_eq_true (by omega)
           simp -dsimp only [go_sem,f1,f2,f3]
           refine Q0a ?_
           simp -dsimp only [go_sem]
           rw [←hG,W0k (.inr (by omega))]
         · have f3:decide ((L.toNat:Int)≤((o.getD n 0).toNat:Int))=false:=decide_eq_false (by omega)
           obtain⟨q2,rfl⟩: ∃q2,q=q2+1:=⟨q-1,by
            have:q≠0:=fun e=>by rw [e,Nat.zero_mul] at hHL;omega
            omega⟩
           have x8:IntKind.u64.wrap (((q2+1:Nat):Int)-1)=((q2:Nat):Int):=by
            rw [show(((q2+1:Nat):Int)-1)=((q2:Nat):Int) by omega,Z0w,Nat.mod_eq_of_lt (by omega)]
           simp -dsimp only [go_sem,f1,f2,f3,x8,x1,g1]
           refine⟨⟨by omega,by omega⟩,?_⟩
           refine(W0d r (v.getD (n+1) 0).toNat 0 _ hr hv1 (by omega)).mono ?_
           rintro r3 st ⟨z,c',hc',hz,rfl,rfl⟩
           simp -dsimp only [go_sem,x8,x1,g1]
           refine⟨q2,by omega,q2,z.toNat,c',rfl,by omega,UInt64.toNat_lt _,hc',?_,rfl⟩
           rw [H0t (by omega)] at hG
           rw [←hG,show z.toNat+18446744073709551616*c'=r+18446744073709551616*0+(v.getD (n+1) 0).toNat by omega]
       · have f2:((H.toNat:Int)==(r:Int))=false:=beq_eq_false_iff_ne.2 (by omega)
         obtain⟨q2,rfl⟩: ∃q2,q=q2+1:=⟨q-1,by
          have:q≠0:=fun e=>by rw [e,Nat.zero_mul] at hHL;omega
          omega⟩
         have x8:IntKind.u64.wrap (((q2+1:Nat):Int)-1)=((q2:Nat):Int):=by
          rw [show(((q2+1:Nat):Int)-1)=((q2:Nat):Int) by omega,Z0w,Nat.mod_eq_of_lt (by omega)]
         simp -dsimp only [go_sem,f1,f2,x8,x1,g1]
         refine⟨⟨by omega,by omega⟩,?_⟩
         refine(W0d r (v.getD (n+1) 0).toNat 0 _ hr hv1 (by omega)).mono ?_
         rintro r3 st ⟨z,c',hc',hz,rfl,rfl⟩
         simp -dsimp only [go_sem,x8,x1,g1]
         refine⟨q2,by omega,q2,z.toNat,c',rfl,by omega,UInt64.toNat_lt _,hc',?_,rfl⟩
         rw [H0t (by omega)] at hG
         rw [←hG,show z.toNat+18446744073709551616*c'=r+18446744073709551616*0+(v.getD (n+1) 0).toNat by omega]
     · have hc1:c=1:=by
        have:=ne_of_beq_false h1
        omega
       simp -dsimp only [go_sem]
       refine Q0a ?_
       simp -dsimp only [go_sem]
       rw [←hG,W0k (.inl (by omega))]
end Go.Pv
end
