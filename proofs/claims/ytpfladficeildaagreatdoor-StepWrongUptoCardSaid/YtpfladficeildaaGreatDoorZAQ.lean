/- Walk. -/
import Derived.Test.YtpfladficeildaaGreatDoorZAE
set_option linter.all false
set_option maxHeartbeats 160000000
section
namespace Go.Pv
@[go_sem] theorem H2y {Q:Pe}{s:PFS}{id:Nat} :XL id Q .normal s=Q .normal s:=(rfl)
@[go_sem] theorem H2x {Q:Pe}{s:PFS}{id:Nat} :XL id Q .ret s=Q .ret s:=(rfl)
@[go_sem] theorem H2z {Q:Pe}{s:PFS}{id:Nat} :XL id Q (.exit id) s=Q .normal s:=by simp[XL]
@[go_sem] theorem U2n {Q:Pe}{s:PFS} :Hv Q .ret s=Q .ret s:=(rfl)
@[go_sem] theorem U2o {Q:Pe}{s:PFS}{id:Nat} :Hv Q (.exit id) s=Q (.exit id) s:=(rfl)
theorem X0 {P:Pg}{E:Ent}{c:Code}{Q:Pe}{s:PFS}(bs:Ld)(nL nT:Nat)(I:Nat->PFS->Prop)(n:Nat)(h0:s.maskOK bs nL nT/\I n (s.mask bs nL nT))
 (round: ∀n s,I n s->PWP P E c (ZO (fun s'=>s'.maskOK bs nL nT/\ ∃m,m<n/\I m (s'.mask bs nL nT)) Q) s):PWP P E (.loop c) Q s:=by
 refine Rl (fun n s=>s.maskOK bs nL nT/\I n (s.mask bs nL nT)) n h0 fun n s ⟨hm,hI⟩=> ?_;refine J0 (Uc hm) (zF (round n _ hI) ?_);intro e s hq;cases e with
 | normal=>obtain⟨hm',m,hlt,hI'⟩:=hq;exact⟨m,hlt,hm',hI'⟩
 | _=>exact hq
def Q7 {β:Type}(G:Nat->β×Int):Nat->Nat->List β->List β×Int
 | _,0,acc=>(acc,0)
 | i,k+1,acc=>if (G i).2≠0 then([],(G i).2) else Q7 G (i+1) k (acc++ [(G i).1])
theorem V0u {α β:Type}[Inhabited α](F:Nat->α->β×Int): ∀(l:List α) (i:Nat) (acc:List β),Z1 F i l acc=Q7 (fun j=>F j (l.getD (j-i) default)) i l.length acc
 | [],i,acc=>rfl
 | x::l,i,acc=>by
  have e: ∀j,i+1<=j->j<i+1+l.length->F j (l.getD (j-(i+1)) default)=F j ((x::l).getD (j-i) default):=fun j h1 _=>by rw[show j-i=(j-(i+1))+1 from oG];rfl
  have key: ∀(k i':Nat) (acc:List β),i+1<=i'->i'+k<=i+1+l.length->Q7 (fun j=>F j (l.getD (j-(i+1)) default)) i' k acc=Q7 (fun j=>F j ((x::l).getD (j-i) default)) i' k acc:=by
   intro k
   induction k with
   | zero=>intro i' acc _ _;rfl
   | succ k ih=>
    intro i' acc h1 h2;simp only[Q7,e i' h1 oG];split;rfl;exact ih _ _ oG oG
  have e0:F i ((x::l).getD (i-i) default)=F i x:=by rw[DD];rfl
  rw[Z1,C1,Q7,e0,V0u F l (i+1),key _ _ _ oG oG]
theorem UX {α β:Type}[Inhabited α](F:Nat->α->β×Int)(l:List α):Z1 F 0 l []=Q7 (fun j=>F j (l.getD j default)) 0 l.length []:=by rw[V0u];simp only[Nat.sub_zero]
theorem Dm {β:Type}[Inhabited β]{G:Nat->β×Int} : ∀(k i:Nat) (acc:List β),(Q7 G i k acc).2=0->
 (Q7 G i k acc).1.length=acc.length+k/\(∀j,j<k->(G (i+j)).2=0)/\ ∀j,j<acc.length+k->(Q7 G i k acc).1.getD j default=if j<acc.length then acc.getD j default else(G (i+(j-acc.length))).1
 | 0,i,acc,_=>by refine⟨rfl,fun j h=>oG,fun j h=> ?_⟩;rw[BC oG];rfl
 | k+1,i,acc,h=>by
  simp only[Q7] at h⊢;by_cases h0:(G i).2≠0;rw[BC h0] at h;exact absurd h h0;rw[BA h0] at h⊢;obtain⟨a1,a2,a3⟩:=Dm k (i+1) (acc++ [(G i).1]) h;refine⟨by rw[a1];simp;omega,fun j hj=> ?_,fun j hj=> ?_⟩;cases j with
  | zero=>exact C8.1 h0
  | succ j=>have:=a2 j oG;rw[show i+(j+1)=i+1+j from oG];exact this
  rw[a3 j (by simp;omega)];simp only[BH,C1,D6];by_cases c1:j<acc.length;rw[BC oG,BC c1,q_a,B6 c1,<-q_a];rw[BA c1];by_cases c2:j=acc.length;subst c2;rw[BC oG,DD,B1];simp[q_a];rw[BA oG];rw[show i+1+(j-(acc.length+(0+1)))=i+(j-acc.length) from oG]
theorem j6 {β:Type}[Inhabited β]{G:Nat->β×Int} : ∀(k i:Nat) (acc:List β),(∀j,i<=j->j<i+k->(G j).2=0)->(Q7 G i k acc).2=0
 | 0,i,acc,_=>rfl
 | k+1,i,acc,h=>by simp only[Q7];rw[BA (by rw[h i oG oG];decide)];exact j6 k _ _ fun j h1 h2=>h j oG oG
theorem WS {β:Type}[Inhabited β]{G:Nat->β×Int}{k:Nat}(h:(Q7 G 0 k []).2=0):(Q7 G 0 k []).1.length=k/\(∀j,j<k->(G j).2=0)/\ ∀j,j<k->(Q7 G 0 k []).1.getD j default=(G j).1:=by obtain⟨a1,a2,a3⟩:=Dm k 0 [] h;refine⟨by simpa using a1,fun j hj=>by simpa using a2 j hj,fun j hj=> ?_⟩;have:=a3 j (by simpa using hj);simpa using this
theorem Uk {β:Type}{G:Nat->β×Int} : ∀(k i:Nat) (acc:List β),(Q7 G i k acc).1.length<=acc.length+k
 | 0,i,acc=>by simp[Q7]
 | k+1,i,acc=>by simp only[Q7];split;simp;have:=Uk (G:=G) k (i+1) (acc++ [(G i).1]);simp at this;omega
theorem z0y {β:Type}{G:Nat->β×Int}(k:Nat)(h:0<k)(e:Int)(he:e≠0)(hf: ∀i,(G i).2=e):Q7 G 0 k []=([],e):=by
 cases k with
 | zero=>omega
 | succ k=>simp only[Q7];rw[BC (by rw[hf];exact he),hf]
theorem WR {β:Type}(p:β->Prop){G:Nat->β×Int} : ∀(k i:Nat) (acc:List β),(∀j,i<=j->j<i+k->p (G j).1)->(∀x∈acc,p x)-> ∀x∈(Q7 G i k acc).1,p x
 | 0,i,acc,_,h=>h
 | k+1,i,acc,hg,h=>by simp only[Q7];split;intro x hx;cases hx;refine WR p k _ _ (fun j h1 h2=>hg j oG oG) fun x hx=> ?_;rcases DN.1 hx with hx | hx;exact h x hx;rw[C0.1 hx];exact hg i oG oG
theorem VM {β:Type}(G:Nat->β×Int){i n:Nat}(h:i<n)(acc:List β):Q7 G i (n-i) acc=if (G i).2≠0 then([],(G i).2) else Q7 G (i+1) (n-(i+1)) (acc++ [(G i).1]):=by rw[show n-i=(n-(i+1))+1 from oG,Q7]
theorem Wt {β:Type}(G:Nat->β×Int)(n:Nat)(acc:List β):Q7 G n (n-n) acc=(acc,0):=by rw[DD];rfl
abbrev Mx :=List (List Ivl)
def wM (m:Mx):Prop:=m.length<=100000000000/\ ∀i,i<m.length->wB (m.getD i [])
def Za (m:Mx):Bool:=(m.all fun r=>decide (r.length=m.length)&&rightB r)&&decide (1<=m.length)&&decide (m.length<=4)
theorem Jj {m:Mx}(h:Za m=true):1<=m.length/\m.length<=4:=by unfold Za at h;simp only[q_i,BN] at h;exact⟨h.1.2,h.2⟩
theorem Ku {m:Mx}(h:Za m=true){i:Nat}(hi:i<m.length):(m.getD i []).length=m.length/\rightB (m.getD i [])=true:=by unfold Za at h;simp only[q_i,BN,q_d] at h;have hm:m.getD i []∈m:=(by simp[q_a,BB hi]);have:=h.1.1 _ hm;simpa using this
theorem rightM_iff {m:Mx} :Za m=true<->(∀i,i<m.length->(m.getD i []).length=m.length/\rightB (m.getD i [])=true)/\1<=m.length/\m.length<=4:=by constructor;intro h;exact⟨fun i hi=>Ku h hi,Jj h⟩;rintro⟨h1,h2,h3⟩;unfold Za;simp only[q_i,BN,q_d];refine⟨⟨fun r hr=> ?_,h2⟩,h3⟩;obtain⟨i,hi,rfl⟩:=List.getElem_of_mem hr;have:=h1 i hi;rw[q_a,BB hi] at this;simpa using this
theorem Od {b:Li}(h:rightB b=true){i:Nat}(hi:i<b.length):Qr (b.getD i default)=true:=by unfold rightB at h;simp only[q_i,q_d] at h;exact h.1.1 _ (by simp[q_a,BB hi])
def atM (m:Mx)(i j:Nat):Ivl:=(m.getD i []).getD j default
theorem w0v {m:Mx}(h:Za m=true){i j:Nat}(hi:i<m.length)(hj:j<m.length):Qr (atM m i j)=true:=by obtain⟨h1,h2⟩:=Ku h hi;exact Od h2 (by rw[h1];exact hj)
def X7 (G:Nat->Nat->Ivl×Int)(n:Nat):Mx×Int:=Q7 (fun i=>Q7 (fun j=>G i j) 0 n []) 0 n []
def opM (k:Nat)(a b:Mx)(p:Int):Mx×Int:=if Za a=true/\Za b=true/\a.length=b.length/\Qv p=true then X7 (fun i j=>opI k (atM a i j) (atM b i j) p) a.length else([],1)
def K9 (x:Ivl)(m:Mx)(p:Int):Mx×Int:=if Za m=true/\Qr x=true/\Qv p=true then X7 (fun i j=>opI 2 x (atM m i j) p) m.length else([],1)
def Zs (x y:Nat->Ivl)(p:Int):Nat->Ivl×Int
 | 0=>(default,0)
 | k+1=>
  if (Zs x y p k).2≠0 then(default,(Zs x y p k).2) else
  if (opI 2 (x k) (y k) p).2≠0 then(default,(opI 2 (x k) (y k) p).2) else
  if k=0 then opI 2 (x k) (y k) p else
  if (opI 0 (Zs x y p k).1 (opI 2 (x k) (y k) p).1 p).2≠0 then(default,(opI 0 (Zs x y p k).1 (opI 2 (x k) (y k) p).1 p).2) else
  opI 0 (Zs x y p k).1 (opI 2 (x k) (y k) p).1 p
def Zb (a b:Mx)(p:Int):Mx×Int:=if Za a=true/\Za b=true/\a.length=b.length/\Qv p=true then X7 (fun i j=>Zs (atM a i) (fun k=>atM b k j) p a.length) a.length else([],1)
def Xy (m:Mx)(b:List Ivl)(p:Int):List Ivl×Int:=if Za m=true/\rightB b=true/\m.length=b.length/\Qv p=true then Q7 (fun i=>Zs (atM m i) (fun k=>b.getD k default) p b.length) 0 m.length [] else([],1)
def XT (m:Mx)(p:Int):List (List Nm)×Int:=if Za m=true/\Qv p=true then Q7 (fun i=>QJ (m.getD i []) p) 0 m.length [] else([],1)
def K0 (x:Nm):Nm:=⟨false,x.exp,x.w⟩
def XZ (a:Ivl):Nm:=if Qr a=true then Z2 (K0 a.lo) (K0 a.hi) else default
def ZR (r:Nat->Ivl)(p:Int):Nat->Nm×Int
 | 0=>(XZ (r 0),0)
 | j+1=>if (ZR r p j).2≠0 then(default,(ZR r p j).2) else Qw 0 (ZR r p j).1 (XZ (r (j+1))) p true
def Xb (m:Mx)(p:Int):Nat->Nm×Int
 | 0=>(default,0)
 | i+1=>if (Xb m p i).2≠0 then(default,(Xb m p i).2) else
  if (ZR (atM m i) p (m.length-1)).2≠0 then(default,(ZR (atM m i) p (m.length-1)).2) else
  if Q6 (ZR (atM m i) p (m.length-1)).1 (Xb m p i).1>0 then((ZR (atM m i) p (m.length-1)).1,0) else((Xb m p i).1,0)
theorem Dx {r:Nat->Ivl}{p:Int}{j:Nat}(h:(ZR r p j).2≠0): ∀d,(ZR r p (j+d)).2=(ZR r p j).2
 | 0=>rfl
 | d+1=>by have ih:=Dx h d;rw[show j+(d+1)=(j+d)+1 from oG,ZR,BC (by rw[ih];exact h)];exact ih
theorem Dz {r:Nat->Ivl}{p:Int}{j:Nat}(h:(ZR r p j).2=0):ZR r p (j+1)=Qw 0 (ZR r p j).1 (XZ (r (j+1))) p true:=by rw[ZR,BA (by rw[h];decide)]
theorem Q0z {m:Mx}{p e:Int}{i:Nat}(he:e≠0)(h:Xb m p i=(default,e)): ∀d,Xb m p (i+d)=(default,e)
 | 0=>h
 | d+1=>by have ih:=Q0z he h d;rw[show i+(d+1)=(i+d)+1 from oG,Xb,ih,BC he]
theorem V1b {m:Mx}{p e:Int}{i j:Nat}(he:e≠0)(hi:i<m.length)(hj:j<=m.length-1)(h:(Xb m p i).2=0)(hs:(ZR (atM m i) p j).2=e):Xb m p m.length=(default,e):=by have h1:=Dx (r:=atM m i) (p:=p) (j:=j) (by rw[hs];exact he) (m.length-1-j);rw[show j+(m.length-1-j)=m.length-1 from oG,hs] at h1;have h2:Xb m p (i+1)=(default,e):=(by rw[Xb,BA (by rw[h];decide),BC (by rw[h1];exact he),h1]);have:=Q0z he h2 (m.length-(i+1));rwa [show i+1+(m.length-(i+1))=m.length from oG] at this
theorem Z0b {m:Mx}{p:Int}{i:Nat}(h:(Xb m p i).2=0)(hs:(ZR (atM m i) p (m.length-1)).2=0):
 Xb m p (i+1)=if Q6 (ZR (atM m i) p (m.length-1)).1 (Xb m p i).1>0 then((ZR (atM m i) p (m.length-1)).1,0) else((Xb m p i).1,0):=by
 rw[Xb,BA (by rw[h];decide),BA (by rw[hs];decide)]
theorem xh {x:Nm}(h:Qg x=true):Qg (K0 x)=true:=by
 unfold Qg K0 at*
 simp only at h⊢;split;rename_i hw;rw[BC hw] at h;simp at h;simp[h];rename_i hw;rw[BA hw] at h;exact h
theorem Uy :Qg default=true:=by decide
theorem X0b (a:Ivl):Qg (XZ a)=true:=by unfold XZ;split;rename_i h;have:=ZJ h;exact Hl (P:=fun x=>Qg x=true) (xh this.1) (xh this.2.1);exact Uy
theorem zf (r:Nat->Ivl)(p:Int): ∀j,Qg (ZR r p j).1=true
 | 0=>X0b _
 | j+1=>by unfold ZR;split;exact Uy;exact KX _ _ _ _ _
theorem zY (m:Mx)(p:Int): ∀i,Qg (Xb m p i).1=true
 | 0=>Uy
 | i+1=>by unfold Xb;split;exact Uy;split;exact Uy;split;exact zf _ _ _;exact zY m p i
def Zm (m:Mx)(p:Int):Nm×Int:=if Za m=true/\Qv p=true then Xb m p m.length else(default,1)
def oneN :Nm:=⟨false,0,[1]⟩
def idM (n:Int):Mx:=if 1<=n/\n<=4 then(List.range n.toNat).map fun i=>(List.range n.toNat).map fun j=>if i=j then⟨oneN,oneN⟩ else default else []
def ofM (q:List (List Nm)):Mx:=q.map ofB
set_option maxRecDepth 100000
open Go.Proofs
theorem xf (m:Mx)(st:Qc)(hm:wM m):PR 136 [.sl .no (Qt m)] st (.sc (.bool (Za m))):=by
 have hl:=hm.1;refine Ql Tryz.func136 fun E=> ?_;refine Q1 [true,false,false,false,false,true,true,true] 0 0
  (fun n s=> ∃i,n=m.length-i/\i<=m.length/\(∀j,j<i->(m.getD j []).length=m.length/\rightB (m.getD j [])=true)/\s=⟨[.sl .no (Qt m),.junk,.junk,.junk,.junk,.sl .no (Qt m),.sc (.int .i64 m.length),.sc (.int .i64 (i:Nat))]++jk 22,[],[],st⟩) m.length ?_ ?_
 refine Qq ?_;exact⟨0,oG,oG,fun j hj=>oG,rfl⟩;rintro n s ⟨i,rfl,hi,hr,rfl⟩;refine QS ?_ ?_<;>intro h';have hlt:i<m.length:=(by have:=q_b h';omega);have e1:=Kl m i hlt;have e3:=Zd i oG;simp-dsimp only[go_sem,e1];refine⟨oG,?_⟩;refine gkF ?_ ?_<;>intro h2;have hn:=Kg h2;simp-dsimp only[go_sem,h2,e1];refine(Ko _ _ (hm.2 i hlt)).q ?_;simp-dsimp only[go_sem,h2];refine ck ?_ ?_<;>intro h3;have hf:rightB (m.getD i [])=false:=(by simpa using h3);refine Qq ?_;have:Za m=false:=CS.2 fun e=>by have:=((rightM_iff.1 e).1 i hlt).2;rw[hf] at this;cases this
 rw[this];have ht:rightB (m.getD i [])=true:=(by simpa using h3);simp-dsimp only[go_sem,e3];refine⟨m.length-(i+1),oG,i+1,rfl,oG,fun j hj=> ?_,rfl⟩;by_cases e:j=i;subst e;exact⟨hn,ht⟩;exact hr j oG;have hn:=Ve h2;simp-dsimp only[go_sem,h2];have:Za m=false:=CS.2 fun e=>hn ((rightM_iff.1 e).1 i hlt).1;rw[this];have hge:i=m.length:=(by have:=q_c h';omega);refine Qq ?_;refine Qp ?_;refine gkT ?_ ?_<;>intro h;have h1:1<=m.length:=(oT h);simp-dsimp only[go_sem,h];have:Za m=decide ((m.length:Int)<=4):=by rw[E3,rightM_iff,D0];exact⟨fun hh=>oG,fun hh=>⟨fun j hj=>hr j oG,h1,oG⟩⟩
 rw[this];have h1: ¬1<=m.length:=(oF h);simp-dsimp only[go_sem,h];have:Za m=false:=CS.2 fun e=>h1 (rightM_iff.1 e).2.1;rw[this]
def VK (a b:Mx)(p:Int):Bool:=Za a&&Za b&&decide (a.length=b.length)&&Qv p
theorem validM_iff {a b:Mx}{p:Int} :VK a b p=true<->Za a=true/\Za b=true/\a.length=b.length/\Qv p=true:=by unfold VK;simp only[q_i,BN];exact⟨fun h=>⟨h.1.1.1,h.1.1.2,h.1.2,h.2⟩,fun h=>⟨⟨⟨h.1,h.2.1⟩,h.2.2.1⟩,h.2.2.2⟩⟩
theorem UG (a b:Mx)(p:Int)(st:Qc)(ha:wM a)(hb:wM b):PR 121 [.sl .no (Qt a),.sl .no (Qt b),.sc (.int .i64 p)] st (.sc (.bool (VK a b p))):=by
 refine Qh none Tryz.func121 rfl fun E=>Qb ?_;unfold VK;refine Qq ?_;refine(xf a st ha).q ?_;cases h:Za a with
 | false=>simp-dsimp only[go_sem];try rfl
 | true=>
  refine Qq ?_;refine(xf b st hb).q ?_;cases h':Za b with
  | false=>simp-dsimp only[go_sem];try rfl
  | true=>
   by_cases hn:a.length=b.length
   . have f1:((a.length:Int)==(b.length:Int))=true:=by rw[hn];simp
     rw[q_h hn];simp-dsimp only[go_sem,f1];refine(Ks p _).q ?_;simp-dsimp only[go_sem]
     try rfl
   . have f1:((a.length:Int)==(b.length:Int))=false:=by rw[CL];omega
     rw[q_g hn];simp-dsimp only[go_sem,f1]
     try rfl
theorem K1m (q:Ly)(i:Nat)(h:i<q.length):ofM (q.take (i+1))=ofM (q.take i)++ [ofB (q.getD i [])]:=by unfold ofM;rw[HU q i [] h,E2];rfl
def wQ (q:List (List Nm)):Prop:=q.length<=100000000000/\ ∀i,i<q.length->wNs (q.getD i [])
theorem v5 (q:Ly)(st:Qc)(hq:wQ q):PR 70 [.sl .no (Qu q)] st (.sl (.fresh 1) (Qt (ofM q))):=by
 obtain⟨hl,hw⟩:=hq;refine Ql Tryz.func70 fun E=> ?_;refine ZE 3 1 ?_;refine Qq ?_;refine Q1 [false,false,false,true,false,false,true,true,true] 0 1
  (fun n s=> ∃i,n=q.length-i/\i<=q.length/\s=⟨[.junk,.junk,.junk,.sl (.own 0) (Qt (ofM (q.take i))),.junk,.junk,.sl .no (Qu q),.sc (.int .i64 q.length),.sc (.int .i64 (i:Nat))]++jk 10,[],[((ofM (q.take i)).length,1)],st⟩) q.length ?_ ?_
 refine Qq ?_;exact⟨0,oG,oG,rfl⟩;rintro n s ⟨i,rfl,hi,rfl⟩;refine QS ?_ ?_<;>intro h';have hlt:i<q.length:=(by have:=q_b h';omega);have e1:=V8 q i hlt;have e3:=Zd i oG;have ll:(ofM (q.take i)).length=i:=(by simp[ofM];omega);simp-dsimp only[go_sem,e1];refine⟨oG,?_⟩;refine(Gi _ _ (hw i hlt)).plain.q ?_;simp-dsimp only[go_sem,e3];refine⟨⟨oG,oG⟩,q.length-(i+1),oG,i+1,rfl,oG,?_⟩;rw[K1m q i hlt];simp;have hge:i=q.length:=(by have:=q_c h';omega);refine Qq ?_;refine Qp ?_;rw[hge,B0]
theorem I1 (g:FuncId)(caps:Lp)(G:Nat->Nat->Ivl×Int)(n:Nat)(st:Qc)(hc:QH Tryz.prog g=true)(hn:n<=100000)(h1:caps.all PV.closed2=true)(h1':caps.all PV.closed1=true)(h2:caps.map PV.forget2=caps)(h2':caps.map PV.forget1=caps)(hlim: ∀k,caps.all (PV.lim1 0 k)=true)
 (h: ∀i j,i<n->j<n->PR g ([.sc (.int .i64 i),.sc (.int .i64 j)]++caps) st (.tup [.agg (Qm (G i j).1),.sc (.int .i64 (G i j).2)])):
 PR 210 [.sc (.int .i64 n),.fn (.func g) [] caps] st (.tup [.sl .no (Qt (X7 G n).1),.sc (.int .i64 (X7 G n).2)]):=by
 refine Ql Tryz.func210 fun E=> ?_;refine ZE 6 1 ?_;refine Qq ?_;refine Q1 [true,true,false,false,false,false,true,false,false,false,false,false,true,true] 0 1
  (fun k s=> ∃(i:Nat) (o:Mx),k=n-i/\i<=n/\o.length=i/\X7 G n=Q7 (fun i=>Q7 (fun j=>G i j) 0 n []) i (n-i) o/\
   s=⟨[.sc (.int .i64 n),.fn (.func g) [] caps,.junk,.junk,.junk,.junk,.sl (.own 0) (Qt o),.junk,.junk,.junk,.junk,.junk,.sc (.int .i64 n),.sc (.int .i64 (i:Nat))]++jk 27,[],[(o.length,1)],st⟩) n ?_ ?_
 simp-dsimp only[go_sem,hlim];exact⟨0,[],oG,oG,rfl,rfl,rfl⟩;rintro k s ⟨i,o,rfl,hi,ho,hr,rfl⟩;refine QS ?_ ?_<;>intro h';have hlt:i<n:=(by have:=q_b h';omega);have e3:=Zd i oG;have e4:=VM (fun i=>Q7 (fun j=>G i j) 0 n []) hlt o;refine Qq ?_;refine ZE 8 6 ?_;refine Qq ?_;refine Q1 [true,true,false,false,false,false,true,true,true,false,false,false,true,true,false,false,true,true] 0 2
  (fun k s=> ∃(j:Nat) (r:Li),k=n-j/\j<=n/\r.length=j/\Q7 (fun j=>G i j) 0 n []=Q7 (fun j=>G i j) j (n-j) r/\
   s=⟨[.sc (.int .i64 n),.fn (.func g) [] caps,.junk,.junk,.junk,.junk,.sl (.own 0) (Qt o),.sc (.int .i64 (i:Nat)),.sl (.own 1) (Qj r),.junk,.junk,.junk,.sc (.int .i64 n),.sc (.int .i64 (i:Nat)),.junk,.junk,.sc (.int .i64 n),.sc (.int .i64 (j:Nat))]++jk 23,[],[(o.length,1),(r.length,6)],st⟩) n ?_ ?_
 simp-dsimp only[go_sem,hlim];exact⟨0,[],oG,oG,rfl,rfl,rfl⟩;rintro k s ⟨j,r,rfl,hj,hrl,hrr,rfl⟩;refine QS (fun h''=> ?_) (fun h''=> ?_);have hlt2:j<n:=(by have:=q_b h'';omega);have f3:=Zd j oG;have f4:=VM (fun j=>G i j) hlt2 r;simp-dsimp only[go_sem,hc,h1,h2];refine(h i j hlt hlt2).Q ?_;refine ck ?_ ?_<;>intro h5;have hne:=Xm h5;refine Qq ?_;have q1:Q7 (fun j=>G i j) 0 n []=([],(G i j).2):=(by rw[hrr,f4,BC hne]);rw[hr,e4,BC (by rw[q1];exact hne),q1];rfl;have he:=XA h5;simp-dsimp only[go_sem,f3,hlim];refine⟨⟨oG,oG⟩,n-(j+1),oG,j+1,r++ [(G i j).1],rfl,oG,by simp[hrl],?_,?_⟩;rw[hrr,f4,BA (fun hh=>hh he)];simp[Qj,Qm];have hge:j=n:=(by have:=q_c h'';omega);have q1:Q7 (fun j=>G i j) 0 n []=(r,0):=(by rw[hrr,hge];exact Wt _ n r);refine Qq ?_;refine Qp ?_;refine⟨⟨oG,oG⟩,Qb ?_⟩;simp-dsimp only[go_sem,e3,hlim];refine⟨n-(i+1),oG,i+1,o++ [r],rfl,oG,by simp[ho],?_,?_⟩;rw[hr,e4,q1,BA (by simp)];simp;have hge:i=n:=(by have:=q_c h';omega);refine Qq ?_;refine Qp ?_;rw[hr,hge,Wt]
theorem Y1l (i j:Nat)(a b:Mx)(p:Int)(st:Qc)(ha:wM a)(hb:wM b)(ai:i<a.length)(aj:j<(a.getD i []).length)(bi:i<b.length)(bj:j<(b.getD i []).length):
 PR 278 ([.sc (.int .i64 i),.sc (.int .i64 j)]++ [.ep [.sl .no (Qt a)] 0,.ep [.sl .no (Qt b)] 0,.ep [.sc (.int .i64 p)] 0]) st (.tup [.agg (Qm (opI 0 (atM a i j) (atM b i j) p).1),.sc (.int .i64 (opI 0 (atM a i j) (atM b i j) p).2)]):=by
 have e1:=Kl a i ai;have e2:=Kl b i bi;have e3:=Zr (a.getD i []) j aj;have e4:=Zr (b.getD i []) j bj;refine Ql Tryz.func278 fun E=> ?_;refine Q8 27 (Qk [0,1,2,3,4,5,6,7,8,9,10,11,12,13,14] (.step 15 [0,7] (Qk [16,17,18,19] .done))) ?_;simp-dsimp only[go_sem,e1,e2,e3,e4];refine⟨oG,oG,oG,oG,?_⟩;refine(UL _ _ p _ ((ha.2 i ai).2 j aj) ((hb.2 i bi).2 j bj)).q ?_;simp-dsimp only[go_sem]
 try rfl
theorem Y1k (a b:Mx)(p:Int)(st:Qc)(ha:wM a)(hb:wM b):PR 209 [.sl .no (Qt a),.sl .no (Qt b),.sc (.int .i64 p)] st (.tup [.sl .no (Qt (opM 0 a b p).1),.sc (.int .i64 (opM 0 a b p).2)]):=by
 refine Qh none Tryz.func209 rfl fun E=>Qe (Qb ?_);refine Qq ?_;refine Z5 0 ?_ ?_;exact QA;refine Qq ?_;refine Z5 1 ?_ ?_;exact QA;refine Qq ?_;refine Z5 2 ?_ ?_;exact QA;refine Qp ?_;refine(UG a b p _ ha hb).q ?_;cases hv:VK a b p with
 | false=>
  refine Qq ?_;rw[opM,BA (fun hh=>by rw[validM_iff.2 hh] at hv;cases hv)];rfl
 | true=>
  obtain⟨v1,v2,v3,v4⟩:=validM_iff.1 hv;have hl:=Jj v1;refine Qq ?_;refine(I1 _ [.ep [.sl .no (Qt a)] 0,.ep [.sl .no (Qt b)] 0,.ep [.sc (.int .i64 p)] 0] (fun i j=>opI 0 (atM a i j) (atM b i j) p) a.length st rfl oG rfl rfl rfl rfl (fun _=>rfl) fun i j hi hj=>
   Y1l i j a b p st ha hb hi (by rw[(Ku v1 hi).1];exact hj) oG (by rw[(Ku v2 oG).1];omega)).mono ?_
  rintro r st ⟨rfl,rfl⟩;refine Qq ?_;rw[opM,BC ⟨v1,v2,v3,v4⟩]
theorem Y1e (i j:Nat)(a b:Mx)(p:Int)(st:Qc)(ha:wM a)(hb:wM b)(ai:i<a.length)(aj:j<(a.getD i []).length)(bi:i<b.length)(bj:j<(b.getD i []).length):
 PR 352 ([.sc (.int .i64 i),.sc (.int .i64 j)]++ [.ep [.sl .no (Qt a)] 0,.ep [.sl .no (Qt b)] 0,.ep [.sc (.int .i64 p)] 0]) st (.tup [.agg (Qm (opI 1 (atM a i j) (atM b i j) p).1),.sc (.int .i64 (opI 1 (atM a i j) (atM b i j) p).2)]):=by
 have e1:=Kl a i ai;have e2:=Kl b i bi;have e3:=Zr (a.getD i []) j aj;have e4:=Zr (b.getD i []) j bj;refine Ql Tryz.func352 fun E=> ?_;refine Q8 27 (Qk [0,1,2,3,4,5,6,7,8,9,10,11,12,13,14] (.step 15 [0,7] (Qk [16,17,18,19] .done))) ?_;simp-dsimp only[go_sem,e1,e2,e3,e4];refine⟨oG,oG,oG,oG,?_⟩;refine(J0a _ _ p _ ((ha.2 i ai).2 j aj) ((hb.2 i bi).2 j bj)).q ?_;simp-dsimp only[go_sem]
 try rfl
theorem Y1d (a b:Mx)(p:Int)(st:Qc)(ha:wM a)(hb:wM b):PR 323 [.sl .no (Qt a),.sl .no (Qt b),.sc (.int .i64 p)] st (.tup [.sl .no (Qt (opM 1 a b p).1),.sc (.int .i64 (opM 1 a b p).2)]):=by
 refine Qh none Tryz.func323 rfl fun E=>Qe (Qb ?_);refine Qq ?_;refine Z5 0 ?_ ?_;exact QA;refine Qq ?_;refine Z5 1 ?_ ?_;exact QA;refine Qq ?_;refine Z5 2 ?_ ?_;exact QA;refine Qp ?_;refine(UG a b p _ ha hb).q ?_;cases hv:VK a b p with
 | false=>
  refine Qq ?_;rw[opM,BA (fun hh=>by rw[validM_iff.2 hh] at hv;cases hv)];rfl
 | true=>
  obtain⟨v1,v2,v3,v4⟩:=validM_iff.1 hv;have hl:=Jj v1;refine Qq ?_;refine(I1 _ [.ep [.sl .no (Qt a)] 0,.ep [.sl .no (Qt b)] 0,.ep [.sc (.int .i64 p)] 0] (fun i j=>opI 1 (atM a i j) (atM b i j) p) a.length st rfl oG rfl rfl rfl rfl (fun _=>rfl) fun i j hi hj=>
   Y1e i j a b p st ha hb hi (by rw[(Ku v1 hi).1];exact hj) oG (by rw[(Ku v2 oG).1];omega)).mono ?_
  rintro r st ⟨rfl,rfl⟩;refine Qq ?_;rw[opM,BC ⟨v1,v2,v3,v4⟩]
theorem Y1c (i j:Nat)(x:Ivl)(a:Mx)(p:Int)(st:Qc)(hx:wI x)(ha:wM a)(ai:i<a.length)(aj:j<(a.getD i []).length):
 PR 277 ([.sc (.int .i64 i),.sc (.int .i64 j)]++ [.ep (Qm x) 0,.ep [.sl .no (Qt a)] 0,.ep [.sc (.int .i64 p)] 0]) st (.tup [.agg (Qm (opI 2 x (atM a i j) p).1),.sc (.int .i64 (opI 2 x (atM a i j) p).2)]):=by
 have e1:=Kl a i ai;have e3:=Zr (a.getD i []) j aj;refine Ql Tryz.func277 fun E=> ?_;refine Q8 21 (Qk [0,1,2,3,4,5,6,7,8] (.step 9 [1] (Qk [10,11,12,13] .done))) ?_;simp-dsimp only[go_sem,e1,e3];refine⟨oG,oG,?_⟩;refine(UK _ _ p _ hx ((ha.2 i ai).2 j aj)).q ?_;simp-dsimp only[go_sem]
 try rfl
theorem Y1b (x:Ivl)(a:Mx)(p:Int)(st:Qc)(hx:wI x)(ha:wM a):PR 208 [.agg (Qm x),.sl .no (Qt a),.sc (.int .i64 p)] st (.tup [.sl .no (Qt (K9 x a p).1),.sc (.int .i64 (K9 x a p).2)]):=by
 refine Qh none Tryz.func208 rfl fun E=>Qe (Qb ?_);refine Qq ?_;refine Z5 0 ?_ ?_;exact QA;refine Qq ?_;refine Z5 1 ?_ ?_;exact QA;refine Qq ?_;refine Z5 2 ?_ ?_;exact QA;refine Qp ?_;refine(JF x _ hx).q ?_;cases r1:Qr x with
 | false=>
  refine Qq ?_;rw[K9,BA (by simp[r1])];rfl
 | true=>
  refine Qq ?_;refine(UG a a p _ ha ha).q ?_;cases hv:VK a a p with
  | false=>
   refine Qq ?_;rw[K9,BA (fun hh=>by rw[validM_iff.2 ⟨hh.1,hh.1,rfl,hh.2.2⟩] at hv;cases hv)];rfl
  | true=>
   obtain⟨v1,v2,v3,v4⟩:=validM_iff.1 hv;have hl:=Jj v1;refine Qq ?_;refine(I1 _ [.ep (Qm x) 0,.ep [.sl .no (Qt a)] 0,.ep [.sc (.int .i64 p)] 0] (fun i j=>opI 2 x (atM a i j) p) a.length st rfl oG rfl rfl rfl rfl (fun _=>rfl) fun i j hi hj=>
    Y1c i j x a p st hx ha hi (by rw[(Ku v1 hi).1];exact hj)).mono ?_
   rintro r st ⟨rfl,rfl⟩;refine Qq ?_;rw[K9,BC ⟨v1,r1,v4⟩]
theorem Z0u (g:FuncId)(caps:Lp)(x y:Nat->Ivl)(n:Nat)(p:Int)(st:Qc)(hc:QH Tryz.prog g=true)(hn:n<=100000)(h1:caps.all PV.closed2=true)(h1':caps.all PV.closed1=true)(h2:caps.map PV.forget2=caps)(h2':caps.map PV.forget1=caps)(hlim: ∀k,caps.all (PV.lim1 k 0)=true)
 (hw: ∀k,k<n->wI (x k)/\wI (y k)) (hd: ∀k,wI (Zs x y p k).1)
 (h: ∀k,k<n->PR g ([.sc (.int .i64 k)]++caps) st (.tup [.agg (Qm (x k)),.agg (Qm (y k))])):
 PR 122 [.sc (.int .i64 n),.sc (.int .i64 p),.fn (.func g) [] caps] st (.tup [.agg (Qm (Zs x y p n).1),.sc (.int .i64 (Zs x y p n).2)]):=by
 refine Ql Tryz.func122 fun E=> ?_;refine Va 1 ?_;refine Qq ?_;refine Q1 [false,true,true,false,false,false,true,false,true,false,false,false,false,false,true,true] 2 0
  (fun m s=> ∃k,m=n-k/\k<=n/\(Zs x y p k).2=0/\s=⟨[.junk,.sc (.int .i64 p),.fn (.func g) [] caps,.junk,.junk,.junk,.lp 0 0,.junk,.lp 1 0,.junk,.junk,.junk,.junk,.junk,.sc (.int .i64 n),.sc (.int .i64 (k:Nat))]++jk 35,
   [[.sc (.bool false),.sc (.int .i64 0),.sl .full [],.sc (.bool false),.sc (.int .i64 0),.sl .full []],Qm (Zs x y p k).1],[],st⟩) n ?_ ?_
 simp-dsimp only[go_sem,hlim];exact⟨0,oG,oG,rfl,rfl⟩;rintro m s ⟨k,rfl,hk,hz,rfl⟩;refine QS ?_ ?_<;>intro h';have hlt:k<n:=(by have:=q_b h';omega);have e3:=Zd k oG;have hdk:=hd k;have hstep:Zs x y p (k+1)=if (opI 2 (x k) (y k) p).2≠0 then(default,(opI 2 (x k) (y k) p).2) else
  if k=0 then opI 2 (x k) (y k) p else
  if (opI 0 (Zs x y p k).1 (opI 2 (x k) (y k) p).1 p).2≠0 then(default,(opI 0 (Zs x y p k).1 (opI 2 (x k) (y k) p).1 p).2) else
  opI 0 (Zs x y p k).1 (opI 2 (x k) (y k) p).1 p:=by
  rw[Zs,BA (by rw[hz];decide)]
 have hend: ∀e,e≠0->Zs x y p (k+1)=(default,e)->Zs x y p n=(default,e):=fun e he h0=>by
  have key: ∀d,Zs x y p (k+1+d)=(default,e):=by
   intro d
   induction d with
   | zero=>exact h0
   | succ d ih=>rw[show k+1+(d+1)=(k+1+d)+1 from oG,Zs,ih,BC he]
  have:=key (n-(k+1));rwa [show k+1+(n-(k+1))=n from oG] at this
 simp-dsimp only[go_sem,hc,h1,h2];refine(h k hlt).Q ?_;refine(UK _ _ p _ (hw k hlt).1 (hw k hlt).2).q ?_;have hmw:wI (opI 2 (x k) (y k) p).1:=Kq (KK _ _ _ _);by_cases hm:(opI 2 (x k) (y k) p).2=0;rw[BA (fun hh=>hh hm)] at hstep;rw[hm];have z1:((0:Int)==0)=true:=rfl;have z2:((0:Int) !=0)=false:=rfl;by_cases h0:k=0;rw[BC h0] at hstep;have g1:decide ((k:Int)>0)=false:=q_g oG;simp-dsimp only[go_sem,z1,z2,g1,e3,hlim];refine⟨n-(k+1),oG,k+1,rfl,oG,by rw[hstep];exact hm,?_⟩;rw[hstep];rw[BA h0] at hstep;have g1:decide ((k:Int)>0)=true:=q_h oG;simp-dsimp only[go_sem,z1,z2,g1];refine(UL _ _ p _ hdk hmw).q ?_;by_cases ha:(opI 0 (Zs x y p k).1 (opI 2 (x k) (y k) p).1 p).2=0;rw[BA (fun hh=>hh ha)] at hstep;rw[ha];simp-dsimp only[go_sem,z2,e3,hlim];refine⟨n-(k+1),oG,k+1,rfl,oG,by rw[hstep];exact ha,?_⟩;rw[hstep];rw[BC ha] at hstep;have hq:=hend _ ha hstep;have g2:((opI 0 (Zs x y p k).1 (opI 2 (x k) (y k) p).1 p).2 !=0)=true:=(by simpa using ha);rw[hq];simp-dsimp only[go_sem,g2];rfl;rw[BC hm] at hstep;have hq:=hend _ hm hstep;have g1:((opI 2 (x k) (y k) p).2==0)=false:=(by simpa using hm);have g2:((opI 2 (x k) (y k) p).2 !=0)=true:=(by simpa using hm);rw[hq];simp-dsimp only[go_sem,g1,g2];rfl;have hge:k=n:=(by have:=q_c h';omega);subst hge;refine Qq ?_;refine Qp ?_;rw[hz]
theorem zv :Qr default=true:=by decide
theorem IR (x y:Nat->Ivl)(p:Int): ∀k,Qr (Zs x y p k).1=true
 | 0=>zv
 | k+1=>by unfold Zs;split;exact zv;split;exact zv;split;exact KK _ _ _ _;split;exact zv;exact KK _ _ _ _
theorem Y1h (i j k:Nat)(a b:Mx)(st:Qc)(ai:i<a.length)(aj:k<(a.getD i []).length)(bi:k<b.length)(bj:j<(b.getD k []).length):
 PR 212 ([.sc (.int .i64 k)]++ [.ep [.sl .no (Qt a)] 0,.ep [.sc (.int .i64 i)] 0,.ep [.sl .no (Qt b)] 0,.ep [.sc (.int .i64 j)] 0]) st (.tup [.agg (Qm (atM a i k)),.agg (Qm (atM b k j))]):=by
 have e1:=Kl a i ai;have e2:=Kl b k bi;have e3:=Zr (a.getD i []) k aj;have e4:=Zr (b.getD k []) j bj;refine Ql Tryz.func212 fun E=> ?_;refine Q8 22 (Qk [0,1,2,3,4,5,6,7,8,9,10,11,12,13] (.step 14 [7,10,11,13] (.step 15 [] (.done)))) ?_;simp-dsimp only[go_sem,e1,e2,e3,e4];exact⟨oG,oG,oG,oG,rfl⟩
theorem Y1g (i j:Nat)(a b:Mx)(p:Int)(st:Qc)(ha:wM a)(hb:wM b)(v1:Za a=true)(v2:Za b=true)(v3:a.length=b.length)(hi:i<a.length)(hj:j<a.length):
 PR 211 ([.sc (.int .i64 i),.sc (.int .i64 j)]++ [.ep [.sl .no (Qt a)] 0,.ep [.sc (.int .i64 p)] 0,.ep [.sl .no (Qt b)] 0]) st (.tup [.agg (Qm (Zs (atM a i) (fun k=>atM b k j) p a.length).1),.sc (.int .i64 (Zs (atM a i) (fun k=>atM b k j) p a.length).2)]):=by
 have hl:=Jj v1;refine Qh none Tryz.func211 rfl fun E=>Qe (Qb ?_);refine Qq ?_;refine Z5 0 ?_ ?_;exact QA;refine Qq ?_;refine Z5 1 ?_ ?_;exact QA;refine Qp ?_;refine(Z0u _ [.ep [.sl .no (Qt a)] 0,.ep [.sc (.int .i64 i)] 0,.ep [.sl .no (Qt b)] 0,.ep [.sc (.int .i64 j)] 0] (atM a i) (fun k=>atM b k j) a.length p st rfl oG rfl rfl rfl rfl (fun _=>rfl)
  (fun k hk=>⟨(ha.2 i hi).2 k (by rw[(Ku v1 hi).1];exact hk),(hb.2 k oG).2 j (by rw[(Ku v2 oG).1];omega)⟩) (fun k=>Kq (IR _ _ _ _))
  fun k hk=>Y1h i j k a b st hi (by rw[(Ku v1 hi).1];exact hk) oG (by rw[(Ku v2 oG).1];omega)).mono ?_
 rintro r st ⟨rfl,rfl⟩;exact QA
theorem v6 (a b:Mx)(p:Int)(st:Qc)(ha:wM a)(hb:wM b):PR 137 [.sl .no (Qt a),.sl .no (Qt b),.sc (.int .i64 p)] st (.tup [.sl .no (Qt (Zb a b p).1),.sc (.int .i64 (Zb a b p).2)]):=by
 refine Qh none Tryz.func137 rfl fun E=>Qe (Qb ?_);refine Qq ?_;refine Z5 0 ?_ ?_;exact QA;refine Qq ?_;refine Z5 1 ?_ ?_;exact QA;refine Qq ?_;refine Z5 2 ?_ ?_;exact QA;refine Qp ?_;refine(UG a b p _ ha hb).q ?_;cases hv:VK a b p with
 | false=>
  refine Qq ?_;rw[Zb,BA (fun hh=>by rw[validM_iff.2 hh] at hv;cases hv)];rfl
 | true=>
  obtain⟨v1,v2,v3,v4⟩:=validM_iff.1 hv;have hl:=Jj v1;refine Qq ?_;refine(I1 _ [.ep [.sl .no (Qt a)] 0,.ep [.sc (.int .i64 p)] 0,.ep [.sl .no (Qt b)] 0] (fun i j=>Zs (atM a i) (fun k=>atM b k j) p a.length) a.length st rfl oG rfl rfl rfl rfl (fun _=>rfl) fun i j hi hj=>
   Y1g i j a b p st ha hb v1 v2 v3 hi hj).mono ?_
  rintro r st ⟨rfl,rfl⟩;refine Qq ?_;rw[Zb,BC ⟨v1,v2,v3,v4⟩]
theorem Y1a (k:Nat)(r b:Li)(st:Qc)(ai:k<r.length)(bi:k<b.length):
 PCalls Tryz.prog 123 ([.sc (.int .i64 k)]++ [.ep [.sl .no (Qj r)] 0,.ep [.sl .no (Qj b)] 0]) st (fun q st'=>q= .tup [.agg (Qm (r.getD k default)),.agg (Qm (b.getD k default))]/\st'=st):=by
 have e1:=Zr r k ai;have e2:=Zr b k bi;refine Ql Tryz.func123 fun E=> ?_;refine Q8 14 (Qk [0,1,2,3,4,5,6,7] (.step 8 [4,7] (.step 9 [] (.done)))) ?_;simp-dsimp only[go_sem,e1,e2];exact⟨oG,oG⟩
theorem Y1i (m:Mx)(p:Int)(st:Qc)(hm:wM m):PR 214 [.sl .no (Qt m),.sc (.int .i64 p)] st (.tup [.sl .no (Qu (XT m p).1),.sc (.int .i64 (XT m p).2)]):=by
 refine Ql Tryz.func214 fun E=> ?_;refine(UG m m p _ hm hm).q ?_;cases hv:VK m m p with
 | false=>
  refine Qq ?_;rw[XT,BA (fun hh=>by rw[validM_iff.2 ⟨hh.1,hh.1,rfl,hh.2⟩] at hv;cases hv)];rfl
 | true=>
  obtain⟨v1,v2,v3,v4⟩:=validM_iff.1 hv;have hl:=Jj v1;have hM:XT m p=Q7 (fun i=>QJ (m.getD i []) p) 0 m.length []:=BC ⟨v1,v4⟩;rw[hM];refine Qq ?_;refine ZE 6 1 ?_;refine Qq ?_;refine Q1 ([false,true,false,false,false,false,true]++rF 9++ [true,true,true]) 0 1
   (fun k s=> ∃(i:Nat) (o:Ly),k=m.length-i/\i<=m.length/\o.length=i/\Q7 (fun i=>QJ (m.getD i []) p) 0 m.length []=Q7 (fun i=>QJ (m.getD i []) p) i (m.length-i) o/\
    s=⟨[.junk,.sc (.int .i64 p),.junk,.junk,.junk,.junk,.sl (.own 0) (Qu o)]++jk 9++ [.sl .no (Qt m),.sc (.int .i64 m.length),.sc (.int .i64 (i:Nat))]++jk 18,[],[(o.length,1)],st⟩) m.length ?_ ?_
  refine Qq ?_;exact⟨0,[],oG,oG,rfl,rfl,rfl⟩;rintro k s ⟨i,o,rfl,hi,ho,hr,rfl⟩;refine QS ?_ ?_<;>intro h';have hlt:i<m.length:=(by have:=q_b h';omega);have e1:=Kl m i hlt;have e3:=Zd i oG;have e4:=VM (fun i=>QJ (m.getD i []) p) hlt o;simp-dsimp only[go_sem,e1];refine⟨oG,?_⟩;refine(y5 _ p _ (hm.2 i hlt)).Q ?_;refine ck ?_ ?_<;>intro h2;have hne:=Xm h2;refine Qq ?_;rw[hr,e4,BC hne];rfl;have he:=XA h2;simp-dsimp only[go_sem,e3];refine⟨⟨oG,oG⟩,m.length-(i+1),oG,i+1,o++ [(QJ (m.getD i []) p).1],rfl,oG,by simp[ho],?_,?_⟩;rw[hr,e4,BA (fun hh=>hh he)];simp;have hge:i=m.length:=(by have:=q_c h';omega);refine Qq ?_;refine Qp ?_;rw[hr,hge,Wt]
theorem vw (m:Mx)(b:Li)(p:Int)(st:Qc)(hm:wM m)(hb:wB b):PR 69 [.sl .no (Qt m),.sl .no (Qj b),.sc (.int .i64 p)] st (.tup [.sl .no (Qj (Xy m b p).1),.sc (.int .i64 (Xy m b p).2)]):=by
 refine Qh none Tryz.func69 rfl fun E=>Qe (Qb ?_);refine Qq ?_;refine Z5 0 ?_ ?_;exact QA;refine Qp ?_;refine(UG m m p _ hm hm).q ?_;cases hv:VK m m p with
 | false=>
  refine Qq ?_;rw[Xy,BA (fun hh=>by rw[validM_iff.2 ⟨hh.1,hh.1,rfl,hh.2.2.2⟩] at hv;cases hv)];rfl
 | true=>
  obtain⟨v1,v2,v3,v4⟩:=validM_iff.1 hv;have hl:=Jj v1;refine Qq ?_;refine(Ko b _ hb).q ?_;cases r1:rightB b with
  | false=>
   refine Qq ?_;rw[Xy,BA (fun hh=>by simp[r1] at hh)];rfl
  | true=>
   by_cases hn:m.length=b.length;have f1:((b.length:Int) !=(m.length:Int))=false:=(by rw[hn];simp);have hM:Xy m b p=Q7 (fun i=>Zs (atM m i) (fun k=>b.getD k default) p b.length) 0 m.length []:=BC ⟨v1,r1,hn,v4⟩;rw[hM];simp-dsimp only[go_sem,f1];refine ZE 8 6 ?_;refine Qq ?_;refine X0 ([false,false,true,false,true,false,false,false,true]++rF 21++ [true,true,true]) 1 1
    (fun k s=> ∃(i:Nat) (o:Li),k=m.length-i/\i<=m.length/\o.length=i/\Q7 (fun i=>Zs (atM m i) (fun k=>b.getD k default) p b.length) 0 m.length []=Q7 (fun i=>Zs (atM m i) (fun k=>b.getD k default) p b.length) i (m.length-i) o/\
     s=⟨[.junk,.junk,.sc (.int .i64 p),.junk,.ep [.sl .no (Qj b)] 0,.junk,.junk,.junk,.sl (.own 0) (Qj o)]++jk 21++ [.sl .no (Qt m),.sc (.int .i64 m.length),.sc (.int .i64 (i:Nat))]++jk 20,[[]],[(o.length,6)],st⟩) m.length ?_ ?_
   refine Qq ?_;exact⟨0,[],oG,oG,rfl,rfl,rfl⟩;rintro k s ⟨i,o,rfl,hi,ho,hr,rfl⟩;refine Qa ?_;refine Qa ?_;refine ck ?_ ?_<;>intro h';have hlt:i<m.length:=(by have:=q_b h';omega);have e1:=Kl m i hlt;have e3:=Zd i oG;have e4:=VM (fun i=>Zs (atM m i) (fun k=>b.getD k default) p b.length) hlt o;obtain⟨q1,q2⟩:=Ku v1 hlt;refine Qq ?_;refine Qe (Xp (Qe (Qb ?_)));simp-dsimp only[go_sem,e1];refine⟨oG,?_⟩;refine Z5 1 ?_ ?_;exact QA;refine Qq ?_;refine Qp ?_;refine(Z0u _ [.ep [.sl .no (Qj (m.getD i []))] 0,.ep [.sl .no (Qj b)] 0] (atM m i) (fun k=>b.getD k default) b.length p st rfl oG rfl rfl rfl rfl (fun _=>rfl)
    (fun k hk=>⟨(hm.2 i hlt).2 k oG,hb.2 k hk⟩) (fun k=>Kq (IR _ _ _ _))
    fun k hk=>Y1a k (m.getD i []) b st oG hk).mono ?_
   rintro r st ⟨rfl,rfl⟩;refine QS ?_ ?_<;>intro h2;have hne:=Xm h2;refine Qq ?_;rw[hr,e4,BC hne];rfl;have he:=XA h2;refine Qq ?_;refine⟨⟨oG,oG⟩,Qb ?_⟩;simp-dsimp only[go_sem,e3];refine⟨m.length-(i+1),oG,i+1,o++ [(Zs (atM m i) (fun k=>b.getD k default) p b.length).1],rfl,oG,by simp[ho],?_,?_⟩;rw[hr,e4,BA (fun hh=>hh he)];simp[Qj,Qm];have hge:i=m.length:=(by have:=q_c h';omega);refine Qq ?_;refine Qp ?_;rw[hr,hge,Wt];have f1:((b.length:Int) !=(m.length:Int))=true:=(by rw[BV];omega);simp-dsimp only[go_sem,f1];rw[Xy,BA (fun hh=>hn hh.2.2.1)];rfl
theorem kW (n:Nat)(st:Qc)(hn:n<9223372036854775808):PR 179 [.sc (.int .i64 n)] st (.agg (Qf (mkX false [UInt64.ofNat n] 0).1)):=by
 have g1:decide ((n:Int)<0)=false:=q_g oG;have g2:IntKind.u64.wrap (n:Int)=n:=G0p n oG;have g3: [PV.sc (.int .u64 n)]=Qo [UInt64.ofNat n]:=by simp only[Qo,DX,F4];rw[UInt64.toNat_ofNat_of_lt' (show n<UInt64.size by unfold UInt64.size;omega)]
 refine Qh none Tryz.func179 rfl fun E=>Qb ?_;simp-dsimp only[go_sem,g1,g2];rw[g3];refine(zX false _ 0 _ (by simp) oG oG).Q0
theorem J1w :(mkX false [1] 0).1=oneN:=by decide+kernel
theorem UB (st:Qc):PR 179 [.sc (.int .i64 1)] st (.agg (Qf oneN)):=by have:=kW 1 st oG;rw[show UInt64.ofNat 1=1 from rfl,J1w] at this;exact this
theorem wJ (x:Nm)(st:Qc):PR 362 [.agg (Qf x)] st (.agg (Qf (K0 x))):=by
 refine Qh none Tryz.func362 rfl fun E=>Qb ?_;simp-dsimp only[go_sem]
 try rfl
theorem Em {x:Nm}(h:sm x):sm (K0 x):=h
theorem J0b (a:Ivl)(st:Qc)(ha:wI a):PR 353 [.agg (Qm a)] st (.agg (Qf (XZ a))):=by
 refine Qh none Tryz.func353 rfl fun E=>Qb ?_;unfold XZ;refine Qq ?_;refine(JF a _ ha).q ?_;cases h:Qr a with
 | false=>simp-dsimp only[go_sem];rfl
 | true=>
  obtain⟨r1,r2,_⟩:=ZJ h;rw[BC rfl];refine Qq ?_;refine Q8 15 (Qk [0,1,3,4] (.step 2 [4] (Qk [5,6,7,8] .done))) ?_;refine Qq ?_;refine(wJ a.lo _).Q ?_;refine(wJ a.hi _).Q ?_;refine(I8 _ _ _ (Em (QZ r1)) (Em (QZ r2))).Q ?_;refine(yh _ _ (Hl (P:=wN) (Xc (QZ (xh r1))) (Xc (QZ (xh r2))))).Q0
theorem Y1j (i j:Nat)(st:Qc):PR 274 ([.sc (.int .i64 i),.sc (.int .i64 j)]++ []) st (.tup [.agg (Qm (if i=j then⟨oneN,oneN⟩ else default)),.sc (.int .i64 0)]):=by refine Qh none Tryz.func274 rfl fun E=>Qb ?_;by_cases h:i=j;have f1:((i:Int)==(j:Int))=true:=(by rw[h];simp);rw[BC h];simp-dsimp only[go_sem,f1];refine(UB _).Q ?_;refine(Ki oneN _ (by unfold wN;decide)).Q0;have f1:((i:Int)==(j:Int))=false:=(by rw[CL];omega);rw[BA h];simp-dsimp only[go_sem,f1];rfl
theorem H1f {n:Nat}(h1:1<=n)(h4:n<=4):X7 (fun i j=>((if i=j then⟨oneN,oneN⟩ else default:Ivl),0)) n=(idM (n:Int),0):=by have:n=1\/n=2\/n=3\/n=4:=oG;rcases this with rfl | rfl | rfl | rfl<;>decide+kernel
theorem v7 (n:Int)(st:Qc):PR 206 [.sc (.int .i64 n)] st (.sl .no (Qt (idM n))):=by refine Qh none Tryz.func206 rfl fun E=>Qb ?_;by_cases h1:n<1;have f1:decide (n<1)=true:=q_h h1;simp-dsimp only[go_sem,f1];rw[idM,BA oG];rfl;have f1:decide (n<1)=false:=q_g h1;by_cases h4:n>4;have f2:decide (n>4)=true:=q_h h4;simp-dsimp only[go_sem,f1,f2];rw[idM,BA oG];rfl;have f2:decide (n>4)=false:=q_g h4;obtain⟨k,rfl⟩:=EE (show 0<=n by omega);simp-dsimp only[go_sem,f1,f2];refine(I1 _ [] (fun i j=>((if i=j then⟨oneN,oneN⟩ else default:Ivl),0)) k st rfl oG rfl rfl rfl rfl (fun _=>rfl) fun i j hi hj=>Y1j i j st).q ?_;rw[H1f oG oG];exact QA
theorem Z0v (m:Mx)(p:Int)(st:Qc)(hm:wM m):PR 324 [.sl .no (Qt m),.sc (.int .i64 p)] st (.tup [.agg (Qf (Zm m p).1),.sc (.int .i64 (Zm m p).2)]):=by
 refine Ql Tryz.func324 fun E=> ?_;refine(UG m m p _ hm hm).q ?_;cases hv:VK m m p with
 | false=>
  refine Qq ?_;rw[Zm,BA (fun hh=>by rw[validM_iff.2 ⟨hh.1,hh.1,rfl,hh.2⟩] at hv;cases hv)];rfl
 | true=>
  obtain⟨v1,v2,v3,v4⟩:=validM_iff.1 hv;have hl:=Jj v1;have hM:Zm m p=Xb m p m.length:=BC ⟨v1,v4⟩;rw[hM];refine Qq ?_;refine Va 1 ?_;refine Qq ?_;refine Q1 ([false,true,false,false,true,false,true]++rF 13++ [true,true,true]) 2 0
   (fun k s=> ∃i,k=m.length-i/\i<=m.length/\(Xb m p i).2=0/\
    s=⟨[.junk,.sc (.int .i64 p),.junk,.junk,.lp 0 0,.junk,.lp 1 0]++jk 13++ [.sl .no (Qt m),.sc (.int .i64 m.length),.sc (.int .i64 (i:Nat))]++jk 35,
     [[.sc (.bool false),.sc (.int .i64 0),.sl .full []],Qf (Xb m p i).1],[],st⟩) m.length ?_ ?_
  refine Qq ?_;exact⟨0,oG,oG,rfl,rfl⟩
  . rintro k s ⟨i,rfl,hi,hz,rfl⟩;refine QS ?_ ?_<;>intro h'
    . have hlt:i<m.length:=by have:=q_b h';omega
      have e1:=Kl m i hlt;have e3:=Zd i oG;obtain⟨q1,q2⟩:=Ku v1 hlt;have hrl:=Wx q2;have e2:=Zr (m.getD i []) 0 oG;simp-dsimp only[go_sem,e1,e2];refine⟨oG,oG,?_⟩;refine(J0b _ _ ((hm.2 i hlt).2 0 oG)).Q ?_;have t1:(m.getD i []).take (m.getD i []).length=m.getD i []:=B0;have t2:((m.getD i []).drop 1).length=m.length-1:=(by rw[DM,q1]);have hs0:ZR (atM m i) p 0=(XZ ((m.getD i []).getD 0 default),0):=rfl;generalize hR:(m.getD i []).drop 1=R at*
      have hget: ∀j,j<R.length->R.getD j default=atM m i (j+1):=fun j hj=>by rw[<-hR];unfold atM;simp only[q_a,DH];rw[EW 1 j]
      simp-dsimp only[go_sem,t1,hR];refine⟨oG,?_⟩;refine Q1 ([false,true,false,false,true,false,true,false,false,true]++rF 10++ [true,true,true]++rF 8++ [true,true,true]) 3 0
       (fun k s=> ∃j,k=R.length-j/\j<=R.length/\(ZR (atM m i) p j).2=0/\
        s=⟨[.junk,.sc (.int .i64 p),.junk,.junk,.lp 0 0,.junk,.lp 1 0,.junk,.junk,.lp 2 0]++jk 10++ [.sl .no (Qt m),.sc (.int .i64 m.length),.sc (.int .i64 (i:Nat)),.junk,.junk,.junk,.junk,.junk,.junk,.junk,.junk,.sl .no (Qj R),.sc (.int .i64 R.length),.sc (.int .i64 (j:Nat))]++jk 24,
         [[.sc (.bool false),.sc (.int .i64 0),.sl .full []],Qf (Xb m p i).1,Qf (ZR (atM m i) p j).1],[],st⟩) R.length ?_ ?_
      refine Qq ?_;exact⟨0,oG,oG,by rw[hs0],by rw[hs0];rfl⟩
      . rintro k s ⟨j,rfl,hj,hsz,rfl⟩;refine QS ?_ ?_<;>intro h2
        . have hlt2:j<R.length:=oT h2
          have f1:=Zr R j hlt2;have f3:=Zd j oG;have f4:=Dz hsz;have f5:=hget j hlt2;have wx:wI (atM m i (j+1)):=(hm.2 i hlt).2 (j+1) oG;simp-dsimp only[go_sem,f1];refine⟨oG,?_⟩;refine Q8 58 (Qk [0,1,3] (.alt (.step 2 [0] (.alt (Qk [4,5,6,7] (.step 8 [0,1] (.step 9 [] (.step 10 [] (.done))))) (.step 8 [0,1] (Qk [4,5,6,7,9,10] .done)))) (.step 8 [0,1] (.step 2 [0] (Qk [4,5,6,7,9,10] .done))))) ?_;refine Qq ?_;have wm:=Xc (QZ (X0b (atM m i (j+1))));have ws:=Xc (QZ (zf (atM m i) p j));rw[<-f5] at wx;refine And.intro ?_ ?_
          all_goals
           refine(J0b _ _ wx).q ?_;rw[f5];simp-dsimp only[go_sem]
          refine And.intro ?_ ?_
          all_goals
           refine(jP _ _ p true _ ws wm).q ?_;refine QS ?_ ?_<;>intro h3;have hne:=Xm h3;refine Qq ?_;rw[V1b (j:=j+1) hne hlt oG hz (by rw[f4])];rfl;have he:=XA h3;simp-dsimp only[go_sem,f3];exact⟨R.length-(j+1),oG,j+1,rfl,oG,by rw[f4];exact he,by rw[f4]⟩
        have hge:j=R.length:=oF h2
        subst hge;have hnx:=Z0b hz (by rw[<-t2];exact hsz);rw[<-t2] at hnx;have w1:=Xc (QZ (zf (atM m i) p R.length));have w2:=Xc (QZ (zY m p i));refine Qq ?_;refine Qp ?_;refine(VW _ _ _ (by unfold wN at w1;omega) (by unfold wN at w2;omega)).Q ?_;refine ck ?_ ?_<;>intro h3;have hc:=q_b h3;rw[BC hc] at hnx;refine Qq ?_;refine Qb ?_;simp-dsimp only[go_sem,e3];exact⟨m.length-(i+1),oG,i+1,rfl,oG,by rw[hnx],by rw[hnx]⟩;have hc:=q_c h3;rw[BA hc] at hnx;refine Qq ?_;refine Qb ?_;simp-dsimp only[go_sem,e3];exact⟨m.length-(i+1),oG,i+1,rfl,oG,by rw[hnx],by rw[hnx]⟩
    have hge:i=m.length:=by have:=q_c h';omega
    subst hge;refine Qq ?_;refine Qp ?_;rw[hz]
theorem Dh {α:Type}(f:Nat->α)(n i:Nat)(h:i<n):((List.range n).map f).take (i+1)=((List.range n).map f).take i++ [f i]:=by rw[<-List.map_take,<-List.map_take,List.take_range,List.take_range,DA oG,DA oG,List.range_succ,E2];rfl
theorem kG (f:PV->PV)(l:Lp)(o:Nat)(r:Lp):(Q4 l o r).map f=Q4 (l.map f) o (r.map f):=by simp[Q4,List.map_take,List.map_drop]
theorem zz (f:PV->PV)(n:Nat)(z:Lp):(XI n z).map f=XI n (z.map f):=by unfold XI;rw[List.map_flatten,List.map_replicate]
theorem vY {l r:Lp}{o:Nat}(h1:Zj l=true)(h2:Zj r=true):Zj (Q4 l o r)=true:=by
 unfold Zj at*
 rw[q_d] at*
 intro p hp;simp only[Q4,DN] at hp;rcases hp with (hp | hp) | hp;exact h1 p (List.mem_of_mem_take hp);exact h2 p hp;exact h1 p (List.mem_of_mem_drop hp)
theorem vX {n:Nat}{z:Lp}(h:Zj z=true):Zj (XI n z)=true:=by
 unfold Zj at*
 rw[q_d] at*
 intro p hp;simp only[XI,List.mem_flatten,List.mem_replicate] at hp;obtain⟨l,⟨_,rfl⟩,hp⟩:=hp;exact h p hp
theorem Ok (n:Nat):XI n (Qf default)=flat (Q5 (List.replicate n default)):=by simp[XI,flat,Q5,PV.cells]
def KD (n i:Nat):List Nm:=(List.replicate n default).set i oneN
def X4 (k:Nat):List (List Nm):=(List.range k).map (KD k)
theorem Ha (k:Nat):(X4 k).length=k:=by simp[X4]
def KM (n:Int):List (List Nm):=if 1<=n/\n<=4 then X4 n.toNat else []
theorem J1y (n:Int):ofM (KM n)=idM n:=by unfold KM idM;split;rename_i h;have:n=1\/n=2\/n=3\/n=4:=oG;rcases this with rfl | rfl | rfl | rfl<;>decide+kernel;rfl
theorem GI (n i:Nat):(KD n i).length=n:=by simp[KD]
theorem J1x (n:Int)(st:Qc):PR 114 [.sc (.int .i64 n)] st (.sl .no (Qu (KM n))):=by
 refine Qh none Tryz.func114 rfl fun E=>Qb ?_;by_cases h1:n<1;have f1:decide (n<1)=true:=q_h h1;simp-dsimp only[go_sem,f1];rw[KM,BA oG];rfl;have f1:decide (n<1)=false:=q_g h1;by_cases h4:n>4;have f2:decide (n>4)=true:=q_h h4;simp-dsimp only[go_sem,f1,f2];rw[KM,BA oG];rfl;have f2:decide (n>4)=false:=q_g h4;obtain⟨k,rfl⟩:=EE (show 0<=n by omega);have hq:KM (k:Int)=X4 k:=(by rw[KM,BC oG];rfl);rw[hq];simp-dsimp only[go_sem,f1,f2];refine ZE 3 1 ?_;refine Qq ?_;refine X0 [true,false,false,true,true] 0 1
  (fun m s=> ∃i,m=k-i/\i<=k/\s=⟨[.sc (.int .i64 k),.junk,.junk,.sl (.own 0) (Qu ((X4 k).take i)),.sc (.int .i64 (i:Nat))]++jk 24,[],[(((X4 k).take i).length,1)],st⟩) k ?_ ?_
 refine Qq ?_;exact⟨0,oG,oG,rfl⟩;rintro m s ⟨i,rfl,hi,rfl⟩;refine Qa ?_;refine ck ?_ ?_<;>intro h';have hlt:i<k:=(by have:=q_b h';omega);have e3:=Zd i oG;have ll:((X4 k).take i).length=i:=(by rw[BX,Ha];omega);have e5:(X4 k).take (i+1)=(X4 k).take i++ [KD k i]:=Dh _ _ _ hlt;have e6:flat (Q5 (KD k i))=Q4 (flat (Q5 (List.replicate k default))) (i*3) (Qf oneN):=(K0v _ i oneN (by simpa using hlt)).symm;refine Qq ?_;refine Qe (Xp (Qe (Qb ?_)));refine Qq ?_;refine⟨⟨oG,oG⟩,?_⟩;refine Qe (Qb ?_);simp-dsimp only[go_sem,GP];refine⟨⟨oG,hlt⟩,⟨oG,oG⟩,?_⟩;have r0:XI k [.sc (.bool false),.sc (.int .i64 0),.sl .no []]=flat (Q5 (List.replicate k default)):=Ok k;have r1:Q4 (flat (Q5 (List.replicate k default))) (i*3) [.sc (.bool false),.sc (.int .i64 0),.sl .no [.sc (.int .u64 1)]]=flat (Q5 (KD k i)):=e6.symm;have r2:=yn (KD k i) k (GI k i).symm;have r3:=GI k i;refine GQ 0 3 ?_ ?_;refine Qq ?_;exact vY (vX rfl) rfl;simp-dsimp only[go_sem,kG,zz,r0,r1,r2,r3];refine Qp ?_;refine⟨⟨oG,oG⟩,Qb ?_⟩;simp-dsimp only[go_sem,e3];refine⟨k-(i+1),oG,i+1,rfl,oG,?_⟩;rw[e5];simp;have hge:i=k:=(by have:=q_c h';omega);have ht:(X4 k).take i=X4 k:=BF (by rw[Ha];omega);rw[ht];refine Qq ?_;refine KG [false,false,false,true] (Qb ?_);exact QA
def smM (m:Mx):Prop:=1<=m.length/\m.length<=4/\ ∀i,i<m.length->(m.getD i []).length=m.length/\ ∀j,j<m.length->smI (atM m i j)
theorem smM.right {m:Mx}(h:smM m):Za m=true:=rightM_iff.2 ⟨fun i hi=>⟨(h.2.2 i hi).1,GN (fun j hj=>by have:=(h.2.2 i hi).2 j (by rw[<-(h.2.2 i hi).1];exact hj);exact this.1) (by rw[(h.2.2 i hi).1];exact h.1) (by rw[(h.2.2 i hi).1];exact h.2.1)⟩,h.1,h.2.1⟩
theorem Uz {m:Mx}(h:Za m=true):wM m:=⟨by have:=Jj h;omega,fun i hi=>Ih (Ku h hi).2⟩
theorem H0o {m:Mx}(h1:m.length<=100000000000)(h2: ∀r∈m,wB r):wM m:=⟨h1,fun i hi=>h2 _ (QE _ _ _ hi)⟩
theorem H0x {b:Li}(h1:b.length<=100000000000)(h2: ∀x∈b,wI x):wB b:=⟨h1,fun i hi=>h2 _ (QE _ _ _ hi)⟩
theorem Dk {G:Nat->Ivl×Int}{n:Nat}(hn:n<=100000)(h: ∀i,wI (G i).1):wB (Q7 G 0 n []).1:=by refine H0x ?_ (WR wI n 0 [] (fun i _ _=>h i) (fun x hx=>by cases hx));have:=Uk (G:=G) n 0 [];simp at this;omega
theorem wC {G:Nat->Nat->Ivl×Int}{n:Nat}(hn:n<=100000)(h: ∀i j,wI (G i j).1):wM (X7 G n).1:=by refine H0o ?_ (WR wB n 0 [] (fun i _ _=>Dk hn (h i)) (fun x hx=>by cases hx));have:=Uk (G:=fun i=>Q7 (fun j=>G i j) 0 n []) n 0 [];simp at this;unfold X7;omega
theorem HJ :wM []:=⟨by simp,fun i hi=>by simp at hi⟩
theorem Tx (k:Nat)(a b:Mx)(p:Int):wM (opM k a b p).1:=by unfold opM;split;rename_i h;have:=Jj h.1;exact wC oG fun i j=>Kq (KK _ _ _ _);exact HJ
theorem vl (a b:Mx)(p:Int):wM (Zb a b p).1:=by unfold Zb;split;rename_i h;have:=Jj h.1;exact wC oG fun i j=>Kq (IR _ _ _ _);exact HJ
theorem z0k (x:Ivl)(a:Mx)(p:Int):wM (K9 x a p).1:=by unfold K9;split;rename_i h;have:=Jj h.1;exact wC oG fun i j=>Kq (KK _ _ _ _);exact HJ
theorem jf (a:Mx)(b:Li)(p:Int):wB (Xy a b p).1:=by unfold Xy;split;rename_i h;have:=Jj h.1;exact Dk oG fun i=>Kq (IR _ _ _ _);exact Kr
theorem W1u (b:Li)(p:Int):wNs (QJ b p).1:=by unfold QJ;split;rename_i h;have hl:=Wx h.1;rw[UX];have h1:=Uk (G:=fun j=>Zk (b.getD j default) p) b.length 0 [];have h2:=WR wN (G:=fun j=>Zk (b.getD j default) p) b.length 0 [] (fun i _ _=>Xc (QZ (Hf _ _))) (fun x hx=>by cases hx);rw[D6,CU] at h1;exact⟨oG,fun i hi=>h2 _ (QE _ _ _ hi)⟩;exact⟨by simp,fun i hi=>by simp at hi⟩
theorem W1r (a:Mx)(p:Int):wQ (XT a p).1:=by unfold XT;split;rename_i h;have hl:=Jj h.1;have h1:=Uk (G:=fun j=>QJ (a.getD j []) p) a.length 0 [];have h2:=WR wNs (G:=fun j=>QJ (a.getD j []) p) a.length 0 [] (fun i _ _=>W1u _ _) (fun x hx=>by cases hx);rw[D6,CU] at h1;exact⟨oG,fun i hi=>h2 _ (QE _ _ _ hi)⟩;exact⟨by simp,fun i hi=>by simp at hi⟩
theorem K1o {q:Lx}(h:wNs q):wB (ofB q):=by refine⟨by unfold ofB;rw[BR];exact h.1,fun i hi=> ?_⟩;have hi':i<q.length:=(by simpa[ofB] using hi);have e:(ofB q).getD i default=⟨q.getD i default,q.getD i default⟩:=(by simp[ofB,q_a,hi']);rw[e];exact⟨h.2 i hi',h.2 i hi'⟩
theorem K1n (q:Ly)(i:Nat)(h:i<q.length):(ofM q).getD i []=ofB (q.getD i []):=by simp[ofM,q_a,h]
theorem kQ {q:Ly}(h:wQ q):wM (ofM q):=by refine⟨by unfold ofM;rw[BR];exact h.1,fun i hi=> ?_⟩;have hi':i<q.length:=(by simpa[ofM] using hi);rw[K1n q i hi'];exact K1o (h.2 i hi')
theorem w0t :Qg oneN=true:=by decide
theorem v0x (n i j:Nat)(h:j<n):(KD n i).getD j default=if i=j then oneN else default:=by unfold KD;rw[vT _ _ _ _ _ (by simpa using h)];split;rfl;simp[q_a,h]
theorem Q0f (n:Int):wQ (KM n):=by unfold KM;split;rename_i h;refine⟨by rw[Ha];omega,fun i hi=> ?_⟩;rw[Ha] at hi;have e:(X4 n.toNat).getD i []=KD n.toNat i:=(by simp[X4,q_a,hi]);rw[e];refine⟨by rw[GI];omega,fun j hj=> ?_⟩;rw[GI] at hj;rw[v0x _ _ _ hj];split;exact Xc (QZ w0t);exact Xc (QZ Uy);exact⟨by simp,fun i hi=>by simp at hi⟩
def luQ (L U:Nat)(x:Rat):Prop:= ∃z:Int,x=qM z (-(L:Int))/\z.natAbs<=2^(L+U)
theorem X0f (L U:Nat):luQ L U 0:=⟨0,(XD _).symm,CX _⟩
theorem luQ.up {L U U':Nat}{x:Rat}(h:luQ L U x)(hu:U<=U'):luQ L U' x:=by obtain⟨z,h1,h2⟩:=h;exact⟨z,h1,B7 h2 (BS oG oG)⟩
theorem luQ.down {L L' U:Nat}{x:Rat}(h:luQ L U x)(hl:L<=L'):luQ L' U x:=by obtain⟨z,h1,h2⟩:=h;refine⟨z*2^(L'-L),?_,?_⟩;rw[Jz,h1];congr 1;omega;have e:(z*2^(L'-L)).natAbs=z.natAbs*2^(L'-L):=(by rw[Int.natAbs_mul,Int.natAbs_pow];rfl);rw[e,show L'+U=(L+U)+(L'-L) from oG,B2];exact BG _ h2
theorem luQ.mono {L U L' U':Nat}{x:Rat}(h:luQ L U x)(hl:L<=L')(hu:U<=U'):luQ L' U' x:=(h.down hl).up hu
theorem Y1t {L U:Nat}{x:Rat}(h:luQ L U x):luQ L U (-x):=by obtain⟨z,h1,h2⟩:=h;exact⟨-z,by rw[Ya,h1],by rw[Int.natAbs_neg];exact h2⟩
theorem UH {L U:Nat}{x y:Rat}(hx:luQ L U x)(hy:luQ L U y):luQ L (U+1) (x+y):=by obtain⟨z,h1,h2⟩:=hx;obtain⟨w,h3,h4⟩:=hy;refine⟨z+w,by rw[Iq,h1,h3],?_⟩;have:=Int.natAbs_add_le z w;rw[show L+(U+1)=(L+U)+1 from oG,B5];omega
theorem X0g {L U:Nat}{x y:Rat}(hx:luQ L U x)(hy:luQ L U y):luQ L (U+1) (x-y):=by have:=UH hx (Y1t hy);rwa [<-Rat.sub_eq_add_neg] at this
theorem Hh (v:Vl):(QK v).natAbs=v.m:=by unfold QK;split<;>simp
theorem Y1u {n k:Nat}{v:Vl}(h:bdV n k v):luQ k (n+k) (qV v):=by obtain⟨h1,h2,h3⟩:=h;have hm:=bitlen_le_iff.1 h1;refine⟨QK v*2^(v.e+k).toNat,?_,?_⟩;rw[Jz];unfold qV;congr 1;omega;have e:(QK v*2^(v.e+k).toNat).natAbs=v.m*2^(v.e+k).toNat:=(by rw[Int.natAbs_mul,Int.natAbs_pow,Hh];rfl);rw[e,show k+(n+k)=n+2*k from oG,B2];exact DW (F0 hm) (BS oG oG)
theorem X0d {L U:Nat}{v:Vl}(hc:QF v)(h:luQ L U (qV v)):v.m=0\/(-(L:Int)<=v.e/\v.e+(Qn v.m:Int)<=(U:Int)+1):=by
 rcases hc with hm | rfl;rotate_left;exact .inl rfl;refine .inr ?_;obtain⟨z,h1,h2⟩:=h;have hz:QK v≠0:=fun e=>(by have:=Hh v;rw[e] at this;simp at this;omega);have hge: -(L:Int)<=v.e:=by
  apply F8.1;intro hlt;obtain⟨d,hd⟩: ∃d:Nat, -(L:Int)=v.e+((d+1:Nat):Int):=⟨(-(L:Int)-v.e-1).toNat,oG⟩;have e1:qM z (-(L:Int))=qM (z*2^(d+1)) v.e:=(by rw[Jz,hd]);have e2:QK v=z*2^(d+1):=qM_eq.1 (h1.trans e1);have e3:v.m=z.natAbs*2^d*2:=by have:=Hh v;rw[e2,Int.natAbs_mul,Int.natAbs_pow,B5] at this;rw[<-this,BW];rfl
  omega
 refine⟨hge,?_⟩;have e1:QK v*2^(v.e+L).toNat=z:=by
  have:qM (QK v*2^(v.e+L).toNat) (-(L:Int))=qM z (-(L:Int)):=by rw[Jz,<-h1];unfold qV;congr 1;omega
  exact qM_eq.1 this
 have e2:v.m*2^(v.e+L).toNat<=2^(L+U):=by
  have:(QK v*2^(v.e+L).toNat).natAbs=v.m*2^(v.e+L).toNat:=by rw[Int.natAbs_mul,Int.natAbs_pow,Hh];rfl
  rw[<-this,e1];exact h2
 have e3:Qn (v.m*2^(v.e+L).toNat)<=L+U+1:=bitlen_le_iff.2 (D1 e2 (Nat.pow_lt_pow_right oG oG));rw[qm _ _ oG] at e3;omega
theorem X0e {L U:Nat}{v:Vl}(hc:QF v)(h:luQ L U (qV v)):bdV (L+U+1) (L+U+1) v:=by rcases X0d hc h with h0 | ⟨h1,h2⟩;rcases hc with hm | rfl;omega;refine⟨?_,?_,?_⟩;show Qn 0<=_;rw[VH];omega;show -((L+U+1:Nat):Int)<=0;omega;show(0:Int)<=((L+U+1:Nat):Int);omega;exact⟨oG,oG,oG⟩
theorem YB {L U:Nat}{v:Vl}(hc:QF v)(h:luQ L U (qV v))(hb:L+U+1<=4096):(QI v).2=0:=zU (X0e hc h) hb oG
theorem kz {m:Nat}(h:m≠0):2^(Qn m-1)<=m:=by apply F5;intro hlt;have:=bitlen_le_iff.2 hlt;have:=ql h;omega
theorem vC {L U:Nat}{v:Vl}(hc:QF v)(h:luQ L U (qV v))(p:Nat)(hp:1<=p)(up:Bool):luQ L (U+1) (qV (QR v p up)):=by
 unfold QR;split;exact h.up oG;rename_i hlt;have h0:v.m≠0:=fun e=>(by rw[e,VH] at hlt;omega);rcases X0d hc h with h1 | ⟨h1,h2⟩;exact absurd h1 h0;obtain⟨z,hz1,hz2⟩:=h;have e1:QK v*2^(v.e+L).toNat=z:=by
  have:qM (QK v*2^(v.e+L).toNat) (-(L:Int))=qM z (-(L:Int)):=by rw[Jz,<-hz1];unfold qV;congr 1;omega
  exact qM_eq.1 this
 have e2:v.m*2^(v.e+L).toNat<=2^(L+U):=by
  have:(QK v*2^(v.e+L).toNat).natAbs=v.m*2^(v.e+L).toNat:=by rw[Int.natAbs_mul,Int.natAbs_pow,Hh];rfl
  rw[<-this,e1];exact hz2
 rw[Vy,zp];generalize hd:Qn v.m-p=d at*
 generalize hc':(if v.m % 2^d≠0/\up≠v.neg then 1 else 0)=c;have hcl:c<=1:=(by rw[<-hc'];split<;>omega);have hb1:(v.m/2^d+c)*2^d<=2*v.m:=by
  have a1:=Nat.div_mul_le_self v.m (2^d);have a2:2^d<=v.m:=B7 (BS oG oG) (kz h0);have a3:c*2^d<=2^d:=by have:=BG (2^d) hcl;omega
  rw[BQ];omega
 refine⟨(if v.neg then -(((v.m/2^d+c)*2^d:Nat):Int) else(((v.m/2^d+c)*2^d:Nat):Int))*2^(v.e+L).toNat,?_,?_⟩;rw[Jz];congr 1;omega;have e3:((if v.neg then -(((v.m/2^d+c)*2^d:Nat):Int) else(((v.m/2^d+c)*2^d:Nat):Int))*2^(v.e+L).toNat).natAbs=(v.m/2^d+c)*2^d*2^(v.e+L).toNat:=by rw[Int.natAbs_mul,Int.natAbs_pow];generalize (v.m/2^d+c)*2^d=M;split;rw[Int.natAbs_neg];rfl;rfl
 rw[e3,show L+(U+1)=(L+U)+1 from oG,B5];have:=BG (2^(v.e+L).toNat) hb1;rw[BW 2] at this;omega
def luI (L U:Nat)(a:Ivl):Prop:=Qr a=true/\luQ L U (qN a.lo)/\luQ L U (qN a.hi)
theorem luI.mono {L U L' U':Nat}{a:Ivl}(h:luI L U a)(hl:L<=L')(hu:U<=U'):luI L' U' a:=⟨h.1,h.2.1.mono hl hu,h.2.2.mono hl hu⟩
theorem kx {p:Int}(h:Qv p=true):1<=p.toNat:=by unfold Qv at h;simp only[q_i,BN] at h;omega
theorem x1t {L U:Nat}{lo hi:Vl}(h1:QF lo)(h2:QF hi)(q1:luQ L U (qV lo))(q2:luQ L U (qV hi))(hb:L+U+1<=4096)(hle:qV lo<=qV hi):(XK lo hi).2=0/\luI L U (XK lo hi).1:=by have f1:=YB h1 q1 hb;have f2:=YB h2 q2 hb;have hr:=V0k h1 h2 hle;unfold XK at hr⊢;rw[BC ⟨f1,f2⟩] at hr⊢;refine⟨rfl,hr,?_,?_⟩;rw[(JQ h1 f1).2];exact q1;rw[(JQ h2 f2).2];exact q2
theorem J1t {k L U:Nat}{a b:Ivl}{p:Int}(hk:k<2)(ha:luI L U a)(hb:luI L U b)(hp:Qv p=true)(hbd:L+U+3<=4096):(opI k a b p).2=0/\luI L (U+2) (opI k a b p).1:=by
 have ca:=XG ha.1;have cb:=XG hb.1;have pp:=kx hp;have hlo:luQ L (U+1) (qV (loV k (ofN a.lo) (ofN a.hi) (ofN b.lo) (ofN b.hi))):=by unfold loV;split;rw[KF];exact UH ha.2.1 hb.2.1;rw[BC oG,W4];exact X0g ha.2.1 hb.2.2
 have hhi:luQ L (U+1) (qV (hiV k (ofN a.lo) (ofN a.hi) (ofN b.lo) (ofN b.hi))):=by unfold hiV;split;rw[KF];exact UH ha.2.2 hb.2.2;rw[BC oG,W4];exact X0g ha.2.2 hb.2.1
 have c1:=qf k ca.1 ca.2 cb.1 cb.2;have c2:=qh k ca.1 ca.2 cb.1 cb.2;unfold opI;rw[BC ⟨ha.1,hb.1,hp⟩];exact x1t (JY c1 _ _) (JY c2 _ _) (vC c1 hlo _ pp _) (vC c2 hhi _ pp _) oG (X0o k ha.1 hb.1 _)
def xH (X Y:Nat->Rat):Nat->Rat
 | 0=>0
 | n+1=>xH X Y n+X n*Y n
theorem Z0t :KO 0 default:=by have e:qN (default:Ivl).lo=0:=XD 0;have e2:qN (default:Ivl).hi=0:=XD 0;exact⟨by rw[e];exact CB,by rw[e2];exact CB⟩
theorem W0a {x y:Nat->Ivl}{p:Int}{X Y:Nat->Rat} : ∀n,(Zs x y p n).2=0->(∀k,k<n->KO (X k) (x k)/\KO (Y k) (y k))->KO (xH X Y n) (Zs x y p n).1
 | 0,_,_=>Z0t
 | n+1,h,hm=>by rw[Zs] at h⊢;by_cases c1:(Zs x y p n).2≠0;rw[BC c1] at h;exact absurd h c1;rw[BA c1] at h⊢;have c1:=C8.1 c1;by_cases c2:(opI 2 (x n) (y n) p).2≠0;rw[BC c2] at h;exact absurd h c2;rw[BA c2] at h⊢;have c2:=C8.1 c2;have ih:=W0a n c1 fun k hk=>hm k oG;have hp:=zO 2 c2 (hm n oG).1 (hm n oG).2;rw[V0j] at hp;by_cases c3:n=0;rw[BC c3] at h⊢;subst c3;show KO (0+X 0*Y 0) _;rw[Rat.zero_add];exact hp;rw[BA c3] at h⊢;by_cases c4:(opI 0 (Zs x y p n).1 (opI 2 (x n) (y n) p).1 p).2≠0;rw[BC c4] at h;exact absurd h c4;rw[BA c4] at h⊢;have:=zO 0 h ih hp;rw[IK] at this;exact this
def Q0d :Vl:=QN false 1 0
theorem Q1o :qV Q0d=1:=by unfold Q0d;rw[Q1n];rfl
theorem Ip :qN oneN=1:=by have:qN oneN=qM 1 0:=rfl;rw[this];unfold qM;rw[kF,Rat.intCast_one,Rat.mul_one]
theorem Kw :qN (default:Nm)=0:=XD 0
theorem k0b :smI ⟨oneN,oneN⟩:=by
 have hb:bdV 6 12 (ofN oneN):=by refine⟨bitlen_le_iff.2 (by decide),?_,?_⟩;show -((12:Nat):Int)<=0;omega;show(0:Int)<=((12:Nat):Int);omega
 exact⟨by decide,hb,hb⟩
theorem k0c :smI default:=⟨by decide,xQ,xQ⟩
theorem I7 {n i j:Nat}(h1:1<=n)(h4:n<=4)(hi:i<n)(hj:j<n):(idM (n:Int)).length=n/\((idM (n:Int)).getD i []).length=n/\atM (idM (n:Int)) i j=if i=j then⟨oneN,oneN⟩ else default:=by
 have e:idM (n:Int)=(List.range n).map fun i=>(List.range n).map fun j=>if i=j then⟨oneN,oneN⟩ else default:=by rw[idM,BC oG];rfl
 rw[e];have e2:((List.range n).map fun i=>(List.range n).map fun j=>if i=j then(⟨oneN,oneN⟩:Ivl) else default).getD i []=(List.range n).map fun j=>if i=j then(⟨oneN,oneN⟩:Ivl) else default:=(by simp[q_a,hi]);refine⟨by simp,by rw[e2];simp,?_⟩;unfold atM;rw[e2];simp[q_a,hj]
theorem k0a {n:Nat}(h1:1<=n)(h4:n<=4):smM (idM (n:Int))/\(idM (n:Int)).length=n:=by have hl:=(I7 h1 h4 (i:=0) (j:=0) oG oG).1;refine⟨⟨oG,oG,fun i hi=> ?_⟩,hl⟩;rw[hl] at hi⊢;refine⟨(I7 h1 h4 hi hi).2.1,fun j hj=> ?_⟩;rw[(I7 h1 h4 hi hj).2.2];split;exact k0b;exact k0c
def yb (i k:Nat):Rat:=if i=k then 1 else 0
theorem W1z {n i k:Nat}(h1:1<=n)(h4:n<=4)(hi:i<n)(hk:k<n):KO (yb i k) (atM (idM (n:Int)) i k):=by rw[(I7 h1 h4 hi hk).2.2];unfold yb;split;exact⟨by show qN oneN<=1;rw[Ip];exact CB,by show 1<=qN oneN;rw[Ip];exact CB⟩;exact Z0t
theorem W1x {a:Ivl}(h:Qr a=true):KO (qN a.hi) a:=⟨by have:=JD h;rwa [Zv,Zv] at this,CB⟩
def I6 (A x:Rat):Prop:= -A<=x/\x<=A
def G7 (A:Nat->Rat):Nat->Rat
 | 0=>0
 | n+1=>G7 A n+A n
theorem Rj (x:Nm):qN x<=qN (K0 x)/\ -qN x<=qN (K0 x)/\0<=qN (K0 x):=by
 have e:Z6 (K0 x)=(Qd x.w:Int):=by unfold Z6 K0;simp
 have e2:qN (K0 x)=qM (Qd x.w:Int) x.exp:=by unfold qN;rw[e];rfl
 rw[e2];have h0:(0:Rat)=qM 0 x.exp:=(XD _).symm;refine⟨?_,?_,?_⟩;unfold qN Z6;rw[qM_le];split<;>omega;unfold qN Z6;rw[<-Ya,qM_le];split<;>omega;rw[h0,qM_le];omega
theorem Y1r {a:Ivl}{X:Rat}(ha:Qr a=true)(h:KO X a):I6 (qN (XZ a)) X/\0<=qN (XZ a):=by unfold XZ;rw[BC ha];obtain⟨g1,g2,_⟩:=zA (K0 a.lo) (K0 a.hi);obtain⟨l1,l2,l3⟩:=Rj a.lo;obtain⟨u1,u2,u3⟩:=Rj a.hi;obtain⟨m1,m2⟩:=h;exact⟨⟨by grind,by grind⟩,by grind⟩
theorem Tu (a b:Vl):XX a b>0<->qV b<qV a:=by have:=Tq a b;rw[<-Rat.not_le,<-this];omega
end Go.Pv
end
