/- Parts of the walk: PvAl, M37, N31, N32, N33. -/
import Derived.Test.YthlnpmkcmbohaaaGreatDoorZAN
import Derived.Test.YthlnpmkcmbohaaaGreatDoorZAF
set_option linter.unusedVariables false
set_option linter.unusedSimpArgs false
section
namespace Go.Pv
@[go_sem] theorem U1c {Q:Exit->PFS->Prop}{s:PFS}{id:Nat} :U0n id Q .normal s=Q .normal s:=(rfl)
@[go_sem] theorem y1l {Q:Exit->PFS->Prop}{s:PFS}{id:Nat} :U0n id Q .ret s=Q .ret s:=(rfl)
@[go_sem] theorem j1y {Q:Exit->PFS->Prop}{s:PFS}{id:Nat} :U0n id Q (.exit id) s=Q .normal s:=by simp[U0n]
@[go_sem] theorem K1r {Q:Exit->PFS->Prop}{s:PFS}{id id':Nat}(h:id'≠id):U0n id Q (.exit id') s=Q (.exit id') s:=by simp[U0n,h]
@[go_sem] theorem z1l {Q:Exit->PFS->Prop}{s:PFS} :K0d Q .ret s=Q .ret s:=(rfl)
theorem QF {P:Program}{E:Ent}{c:Code}{Q:Exit->PFS->Prop}{s:PFS}(bs:List Bool)(nL nT:Nat)(I:Nat->PFS->Prop)(n:Nat)(h0:s.maskOK bs nL nT/\I n (s.mask bs nL nT))
 (round: ∀n s,I n s->PWP P E c (We (fun s'=>s'.maskOK bs nL nT/\ ∃m,m<n/\I m (s'.mask bs nL nT)) Q) s):PWP P E (.loop c) Q s:=by
 refine J0c (fun n s=>s.maskOK bs nL nT/\I n (s.mask bs nL nT)) n h0 fun n s ⟨hm,hI⟩=> ?_;refine Xv (Ir hm) (HX (round n _ hI) ?_);intro e s hq;cases e with
 | normal=>obtain⟨hm',m,hlt,hI'⟩:=hq;exact⟨m,hlt,hm',hI'⟩
 | _=>exact hq
def XZ {β:Type}(G:Nat->β×Int):Nat->Nat->List β->List β×Int
 | _,0,acc=>(acc,0)
 | i,k+1,acc=>if (G i).2≠0 then([],(G i).2) else XZ G (i+1) k (acc++ [(G i).1])
theorem wD {α β:Type}[Inhabited α](F:Nat->α->β×Int): ∀(l:List α) (i:Nat) (acc:List β),Jr F i l acc=XZ (fun j=>F j (l.getD (j-i) default)) i l.length acc
 | [],i,acc=>rfl
 | x::l,i,acc=>by
  have e: ∀j,i+1<=j->j<i+1+l.length->F j (l.getD (j-(i+1)) default)=F j ((x::l).getD (j-i) default):=fun j h1 _=>by rw[show j-i=(j-(i+1))+1 from oG];rfl
  have key: ∀(k i':Nat) (acc:List β),i+1<=i'->i'+k<=i+1+l.length->XZ (fun j=>F j (l.getD (j-(i+1)) default)) i' k acc=XZ (fun j=>F j ((x::l).getD (j-i) default)) i' k acc:=by
   intro k
   induction k with
   | zero=>intro i' acc _ _;rfl
   | succ k ih=>
    intro i' acc h1 h2;simp only[XZ,e i' h1 oG];split;rfl;exact ih _ _ oG oG
  have e0:F i ((x::l).getD (i-i) default)=F i x:=by rw[DD];rfl
  rw[Jr,C1,XZ,e0,wD F l (i+1),key _ _ _ oG oG]
theorem Ku {α β:Type}[Inhabited α](F:Nat->α->β×Int)(l:List α):Jr F 0 l []=XZ (fun j=>F j (l.getD j default)) 0 l.length []:=by rw[wD];simp only[Nat.sub_zero]
theorem G0k {β:Type}[Inhabited β]{G:Nat->β×Int} : ∀(k i:Nat) (acc:List β),(XZ G i k acc).2=0->
 (XZ G i k acc).1.length=acc.length+k/\(∀j,j<k->(G (i+j)).2=0)/\ ∀j,j<acc.length+k->(XZ G i k acc).1.getD j default=if j<acc.length then acc.getD j default else(G (i+(j-acc.length))).1
 | 0,i,acc,_=>by refine⟨rfl,fun j h=>oG,fun j h=> ?_⟩;rw[BC oG];rfl
 | k+1,i,acc,h=>by
  simp only[XZ] at h⊢;by_cases h0:(G i).2≠0;rw[BC h0] at h;exact absurd h h0;rw[BA h0] at h⊢;obtain⟨a1,a2,a3⟩:=G0k k (i+1) (acc++ [(G i).1]) h;refine⟨by rw[a1];simp;omega,fun j hj=> ?_,fun j hj=> ?_⟩;cases j with
  | zero=>exact C8.1 h0
  | succ j=>have:=a2 j oG;rw[show i+(j+1)=i+1+j from oG];exact this
  rw[a3 j (by simp;omega)];simp only[BH,C1,D8];by_cases c1:j<acc.length;rw[BC oG,BC c1,q_a,B6 c1,<-q_a];rw[BA c1];by_cases c2:j=acc.length;subst c2;rw[BC oG,DD,B1];simp[q_a];rw[BA oG];rw[show i+1+(j-(acc.length+(0+1)))=i+(j-acc.length) from oG]
theorem VB {β:Type}[Inhabited β]{G:Nat->β×Int} : ∀(k i:Nat) (acc:List β),(∀j,i<=j->j<i+k->(G j).2=0)->(XZ G i k acc).2=0
 | 0,i,acc,_=>rfl
 | k+1,i,acc,h=>by simp only[XZ];rw[BA (by rw[h i oG oG];decide)];exact VB k _ _ fun j h1 h2=>h j oG oG
theorem Js {β:Type}[Inhabited β]{G:Nat->β×Int}{k:Nat}(h:(XZ G 0 k []).2=0):(XZ G 0 k []).1.length=k/\(∀j,j<k->(G j).2=0)/\ ∀j,j<k->(XZ G 0 k []).1.getD j default=(G j).1:=by obtain⟨a1,a2,a3⟩:=G0k k 0 [] h;refine⟨by simpa using a1,fun j hj=>by simpa using a2 j hj,fun j hj=> ?_⟩;have:=a3 j (by simpa using hj);simpa using this
theorem UE {β:Type}{G:Nat->β×Int} : ∀(k i:Nat) (acc:List β),(XZ G i k acc).1.length<=acc.length+k
 | 0,i,acc=>by simp[XZ]
 | k+1,i,acc=>by simp only[XZ];split;simp;have:=UE (G:=G) k (i+1) (acc++ [(G i).1]);simp at this;omega
theorem VA {β:Type}(p:β->Prop){G:Nat->β×Int} : ∀(k i:Nat) (acc:List β),(∀j,i<=j->j<i+k->p (G j).1)->(∀x∈acc,p x)-> ∀x∈(XZ G i k acc).1,p x
 | 0,i,acc,_,h=>h
 | k+1,i,acc,hg,h=>by simp only[XZ];split;intro x hx;cases hx;refine VA p k _ _ (fun j h1 h2=>hg j oG oG) fun x hx=> ?_;rcases DN.1 hx with hx | hx;exact h x hx;rw[C0.1 hx];exact hg i oG oG
theorem Vh {β:Type}(G:Nat->β×Int){i n:Nat}(h:i<n)(acc:List β):XZ G i (n-i) acc=if (G i).2≠0 then([],(G i).2) else XZ G (i+1) (n-(i+1)) (acc++ [(G i).1]):=by rw[show n-i=(n-(i+1))+1 from oG,XZ]
theorem WV {β:Type}(G:Nat->β×Int)(n:Nat)(acc:List β):XZ G n (n-n) acc=(acc,0):=by rw[DD];rfl
abbrev Mx :=List (List Ivl)
def wM (m:Mx):Prop:=m.length<=100000000000/\ ∀i,i<m.length->wB (m.getD i [])
def rightM (m:Mx):Bool:=(m.all fun r=>decide (r.length=m.length)&&rightB r)&&decide (1<=m.length)&&decide (m.length<=4)
theorem QI {m:Mx}(h:rightM m=true):1<=m.length/\m.length<=4:=by unfold rightM at h;simp only[q_i,BN] at h;exact⟨h.1.2,h.2⟩
theorem Z3 {m:Mx}(h:rightM m=true){i:Nat}(hi:i<m.length):(m.getD i []).length=m.length/\rightB (m.getD i [])=true:=by unfold rightM at h;simp only[q_i,BN,q_d] at h;have hm:m.getD i []∈m:=(by simp[q_a,BB hi]);have:=h.1.1 _ hm;simpa using this
theorem rightM_iff {m:Mx} :rightM m=true<->(∀i,i<m.length->(m.getD i []).length=m.length/\rightB (m.getD i [])=true)/\1<=m.length/\m.length<=4:=by constructor;intro h;exact⟨fun i hi=>Z3 h hi,QI h⟩;rintro⟨h1,h2,h3⟩;unfold rightM;simp only[q_i,BN,q_d];refine⟨⟨fun r hr=> ?_,h2⟩,h3⟩;obtain⟨i,hi,rfl⟩:=List.getElem_of_mem hr;have:=h1 i hi;rw[q_a,BB hi] at this;simpa using this
theorem Ky {b:List Ivl}(h:rightB b=true){i:Nat}(hi:i<b.length):Qs (b.getD i default)=true:=by unfold rightB at h;simp only[q_i,q_d] at h;exact h.1.1 _ (by simp[q_a,BB hi])
def atM (m:Mx)(i j:Nat):Ivl:=(m.getD i []).getD j default
theorem Wq {m:Mx}(h:rightM m=true){i j:Nat}(hi:i<m.length)(hj:j<m.length):Qs (atM m i j)=true:=by obtain⟨h1,h2⟩:=Z3 h hi;exact Ky h2 (by rw[h1];exact hj)
def Km (G:Nat->Nat->Ivl×Int)(n:Nat):Mx×Int:=XZ (fun i=>XZ (fun j=>G i j) 0 n []) 0 n []
def opM (k:Nat)(a b:Mx)(p:Int):Mx×Int:=if rightM a=true/\rightM b=true/\a.length=b.length/\Q4 p=true then Km (fun i j=>opI k (atM a i j) (atM b i j) p) a.length else([],1)
def JZ (x y:Nat->Ivl)(p:Int):Nat->Ivl×Int
 | 0=>(default,0)
 | k+1=>
  if (JZ x y p k).2≠0 then(default,(JZ x y p k).2) else
  if (opI 2 (x k) (y k) p).2≠0 then(default,(opI 2 (x k) (y k) p).2) else
  if k=0 then opI 2 (x k) (y k) p else
  if (opI 0 (JZ x y p k).1 (opI 2 (x k) (y k) p).1 p).2≠0 then(default,(opI 0 (JZ x y p k).1 (opI 2 (x k) (y k) p).1 p).2) else
  opI 0 (JZ x y p k).1 (opI 2 (x k) (y k) p).1 p
def XW (a b:Mx)(p:Int):Mx×Int:=if rightM a=true/\rightM b=true/\a.length=b.length/\Q4 p=true then Km (fun i j=>JZ (atM a i) (fun k=>atM b k j) p a.length) a.length else([],1)
def V4 (m:Mx)(b:List Ivl)(p:Int):List Ivl×Int:=if rightM m=true/\rightB b=true/\m.length=b.length/\Q4 p=true then XZ (fun i=>JZ (atM m i) (fun k=>b.getD k default) p b.length) 0 m.length [] else([],1)
def IY (m:Mx)(p:Int):List (List Nm)×Int:=if rightM m=true/\Q4 p=true then XZ (fun i=>Xc (m.getD i []) p) 0 m.length [] else([],1)
def jz (x:Nm):Nm:=⟨false,x.exp,x.w⟩
def HH (a:Ivl):Nm:=if Qs a=true then Z4 (jz a.lo) (jz a.hi) else default
def VD (r:Nat->Ivl)(p:Int):Nat->Nm×Int
 | 0=>(HH (r 0),0)
 | j+1=>if (VD r p j).2≠0 then(default,(VD r p j).2) else Qv 0 (VD r p j).1 (HH (r (j+1))) p true
def Xy (m:Mx)(p:Int):Nat->Nm×Int
 | 0=>(default,0)
 | i+1=>if (Xy m p i).2≠0 then(default,(Xy m p i).2) else
  if (VD (atM m i) p (m.length-1)).2≠0 then(default,(VD (atM m i) p (m.length-1)).2) else
  if Uw (VD (atM m i) p (m.length-1)).1 (Xy m p i).1>0 then((VD (atM m i) p (m.length-1)).1,0) else((Xy m p i).1,0)
theorem ky {r:Nat->Ivl}{p:Int}{j:Nat}(h:(VD r p j).2≠0): ∀d,(VD r p (j+d)).2=(VD r p j).2
 | 0=>rfl
 | d+1=>by have ih:=ky h d;rw[show j+(d+1)=(j+d)+1 from oG,VD,BC (by rw[ih];exact h)];exact ih
theorem Wm {r:Nat->Ivl}{p:Int}{j:Nat}(h:(VD r p j).2=0):VD r p (j+1)=Qv 0 (VD r p j).1 (HH (r (j+1))) p true:=by rw[VD,BA (by rw[h];decide)]
theorem zT {m:Mx}{p e:Int}{i:Nat}(he:e≠0)(h:Xy m p i=(default,e)): ∀d,Xy m p (i+d)=(default,e)
 | 0=>h
 | d+1=>by have ih:=zT he h d;rw[show i+(d+1)=(i+d)+1 from oG,Xy,ih,BC he]
theorem z0c {m:Mx}{p e:Int}{i j:Nat}(he:e≠0)(hi:i<m.length)(hj:j<=m.length-1)(h:(Xy m p i).2=0)(hs:(VD (atM m i) p j).2=e):Xy m p m.length=(default,e):=by have h1:=ky (r:=atM m i) (p:=p) (j:=j) (by rw[hs];exact he) (m.length-1-j);rw[show j+(m.length-1-j)=m.length-1 from oG,hs] at h1;have h2:Xy m p (i+1)=(default,e):=(by rw[Xy,BA (by rw[h];decide),BC (by rw[h1];exact he),h1]);have:=zT he h2 (m.length-(i+1));rwa [show i+1+(m.length-(i+1))=m.length from oG] at this
theorem Yn {m:Mx}{p:Int}{i:Nat}(h:(Xy m p i).2=0)(hs:(VD (atM m i) p (m.length-1)).2=0):
 Xy m p (i+1)=if Uw (VD (atM m i) p (m.length-1)).1 (Xy m p i).1>0 then((VD (atM m i) p (m.length-1)).1,0) else((Xy m p i).1,0):=by
 rw[Xy,BA (by rw[h];decide),BA (by rw[hs];decide)]
theorem Yp {x:Nm}(h:Qg x=true):Qg (jz x)=true:=by
 unfold Qg jz at*
 simp only at h⊢;split;rename_i hw;rw[BC hw] at h;simp at h;simp[h];rename_i hw;rw[BA hw] at h;exact h
theorem X0 :Qg default=true:=by decide
theorem Yq (a:Ivl):Qg (HH a)=true:=by unfold HH;split;rename_i h;have:=Q1 h;exact Gn (P:=fun x=>Qg x=true) (Yp this.1) (Yp this.2.1);exact X0
theorem WW (r:Nat->Ivl)(p:Int): ∀j,Qg (VD r p j).1=true
 | 0=>Yq _
 | j+1=>by unfold VD;split;exact X0;exact QB _ _ _ _ _
theorem VJ (m:Mx)(p:Int): ∀i,Qg (Xy m p i).1=true
 | 0=>X0
 | i+1=>by unfold Xy;split;exact X0;split;exact X0;split;exact WW _ _ _;exact VJ m p i
def Z1 (m:Mx)(p:Int):Nm×Int:=if rightM m=true/\Q4 p=true then Xy m p m.length else(default,1)
def oneN :Nm:=⟨false,0,[1]⟩
def idM (n:Int):Mx:=if 1<=n/\n<=4 then(List.range n.toNat).map fun i=>(List.range n.toNat).map fun j=>if i=j then⟨oneN,oneN⟩ else default else []
def ofM (q:List (List Nm)):Mx:=q.map ofB
set_option maxRecDepth 100000
open Go.Proofs
theorem Ha (m:Mx)(st:Qf)(hm:wM m):PR 49 [.sl .no (XE m)] st (.sc (.bool (rightM m))):=by
 have hl:=hm.1;refine U2m Tryz.func49 fun E=> ?_;refine Qd [true,false,false,false,false,true,true,true] 0 0
  (fun n s=> ∃i,n=m.length-i/\i<=m.length/\(∀j,j<i->(m.getD j []).length=m.length/\rightB (m.getD j [])=true)/\s=⟨[.sl .no (XE m),.junk,.junk,.junk,.junk,.sl .no (XE m),.sc (.int .i64 m.length),.sc (.int .i64 (i:Nat))]++jk 22,[],[],st⟩) m.length ?_ ?_
 refine G2s ?_;exact⟨0,oG,oG,fun j hj=>oG,rfl⟩;rintro n s ⟨i,rfl,hi,hr,rfl⟩;refine U2n (fun h'=> ?_) (fun h'=> ?_);have hlt:i<m.length:=(by have:=q_b h';omega);have e1:=Kn m i hlt;have e3:=Zw i oG;simp-dsimp only[go_sem,e1];refine⟨oG,?_⟩;refine gkF (fun h2=> ?_) (fun h2=> ?_);have hn:=Vq h2;simp-dsimp only[go_sem,h2,e1];refine(Jq _ _ (hm.2 i hlt)).q ?_;simp-dsimp only[go_sem,h2];refine ck (fun h3=> ?_) (fun h3=> ?_);have hf:rightB (m.getD i [])=false:=(by simpa using h3);refine G2s ?_;have:rightM m=false:=CS.2 fun e=>by have:=((rightM_iff.1 e).1 i hlt).2;rw[hf] at this;cases this
 rw[this];have ht:rightB (m.getD i [])=true:=(by simpa using h3);simp-dsimp only[go_sem,e3];refine⟨m.length-(i+1),oG,i+1,rfl,oG,fun j hj=> ?_,rfl⟩;by_cases e:j=i;subst e;exact⟨hn,ht⟩;exact hr j oG;have hn:=YG h2;simp-dsimp only[go_sem,h2];have:rightM m=false:=CS.2 fun e=>hn ((rightM_iff.1 e).1 i hlt).1;rw[this];have hge:i=m.length:=(by have:=q_c h';omega);refine G2s ?_;refine U2i ?_;refine gkT (fun h=> ?_) (fun h=> ?_);have h1:1<=m.length:=(oT h);simp-dsimp only[go_sem,h];have:rightM m=decide ((m.length:Int)<=4):=by rw[E6,rightM_iff,D0];exact⟨fun hh=>oG,fun hh=>⟨fun j hj=>hr j oG,h1,oG⟩⟩
 rw[this];have h1: ¬1<=m.length:=(oF h);simp-dsimp only[go_sem,h];have:rightM m=false:=CS.2 fun e=>h1 (rightM_iff.1 e).2.1;rw[this]
def U6 (a b:Mx)(p:Int):Bool:=rightM a&&rightM b&&decide (a.length=b.length)&&Q4 p
theorem validM_iff {a b:Mx}{p:Int} :U6 a b p=true<->rightM a=true/\rightM b=true/\a.length=b.length/\Q4 p=true:=by unfold U6;simp only[q_i,BN];exact⟨fun h=>⟨h.1.1.1,h.1.1.2,h.1.2,h.2⟩,fun h=>⟨⟨⟨h.1,h.2.1⟩,h.2.2.1⟩,h.2.2.2⟩⟩
theorem Vs (a b:Mx)(p:Int)(st:Qf)(ha:wM a)(hb:wM b):PR 97 [.sl .no (XE a),.sl .no (XE b),.sc (.int .i64 p)] st (.sc (.bool (U6 a b p))):=by
 refine Qb none Tryz.func97 rfl fun E=>Qa ?_;unfold U6;refine G2s ?_;refine(Ha a st ha).q ?_;cases h:rightM a with
 | false=>simp-dsimp only[go_sem];try rfl
 | true=>
  refine G2s ?_;refine(Ha b st hb).q ?_;cases h':rightM b with
  | false=>simp-dsimp only[go_sem];try rfl
  | true=>
   by_cases hn:a.length=b.length
   . have f1:((a.length:Int)==(b.length:Int))=true:=by rw[hn];simp
     rw[q_h hn];simp-dsimp only[go_sem,f1];refine(Xp p _).q ?_;simp-dsimp only[go_sem]
     try rfl
   . have f1:((a.length:Int)==(b.length:Int))=false:=by rw[CL];omega
     rw[q_g hn];simp-dsimp only[go_sem,f1]
     try rfl
theorem Z1j (q:List (List Nm))(i:Nat)(h:i<q.length):ofM (q.take (i+1))=ofM (q.take i)++ [ofB (q.getD i [])]:=by unfold ofM;rw[Wl q i [] h,E5];rfl
def wQ (q:List (List Nm)):Prop:=q.length<=100000000000/\ ∀i,i<q.length->wNs (q.getD i [])
theorem Q0i (q:List (List Nm))(st:Qf)(hq:wQ q):PR 53 [.sl .no (Z8 q)] st (.sl (.fresh 1) (XE (ofM q))):=by
 obtain⟨hl,hw⟩:=hq;refine U2m Tryz.func53 fun E=> ?_;refine QQ 3 1 ?_;refine G2s ?_;refine Qd [false,false,false,true,false,false,true,true,true] 0 1
  (fun n s=> ∃i,n=q.length-i/\i<=q.length/\s=⟨[.junk,.junk,.junk,.sl (.own 0) (XE (ofM (q.take i))),.junk,.junk,.sl .no (Z8 q),.sc (.int .i64 q.length),.sc (.int .i64 (i:Nat))]++jk 10,[],[((ofM (q.take i)).length,1)],st⟩) q.length ?_ ?_
 refine G2s ?_;exact⟨0,oG,oG,rfl⟩;rintro n s ⟨i,rfl,hi,rfl⟩;refine U2n (fun h'=> ?_) (fun h'=> ?_);have hlt:i<q.length:=(by have:=q_b h';omega);have e1:=Xh q i hlt;have e3:=Zw i oG;have ll:(ofM (q.take i)).length=i:=(by simp[ofM];omega);simp-dsimp only[go_sem,e1];refine⟨oG,?_⟩;refine(WS _ _ (hw i hlt)).plain.q ?_;simp-dsimp only[go_sem,e3];refine⟨⟨oG,oG⟩,q.length-(i+1),oG,i+1,rfl,oG,?_⟩;rw[Z1j q i hlt];simp;have hge:i=q.length:=(by have:=q_c h';omega);refine G2s ?_;refine U2i ?_;rw[hge,B0]
theorem YY (g:FuncId)(caps:List PV)(G:Nat->Nat->Ivl×Int)(n:Nat)(st:Qf)(hc:Qc Tryz.prog g=true)(hn:n<=100000)(h1:caps.all PV.closed2=true)(h1':caps.all PV.closed1=true)(h2:caps.map PV.forget2=caps)(h2':caps.map PV.forget1=caps)(hlim: ∀k,caps.all (PV.lim1 0 k)=true)
 (h: ∀i j,i<n->j<n->PR g ([.sc (.int .i64 i),.sc (.int .i64 j)]++caps) st (.tup [.agg (ZQ (G i j).1),.sc (.int .i64 (G i j).2)])):
 PR 73 [.sc (.int .i64 n),.fn (.func g) [] caps] st (.tup [.sl .no (XE (Km G n).1),.sc (.int .i64 (Km G n).2)]):=by
 refine U2m Tryz.func73 fun E=> ?_;refine QQ 6 1 ?_;refine G2s ?_;refine Qd [true,true,false,false,false,false,true,false,false,false,false,false,true,true] 0 1
  (fun k s=> ∃(i:Nat) (o:Mx),k=n-i/\i<=n/\o.length=i/\Km G n=XZ (fun i=>XZ (fun j=>G i j) 0 n []) i (n-i) o/\
   s=⟨[.sc (.int .i64 n),.fn (.func g) [] caps,.junk,.junk,.junk,.junk,.sl (.own 0) (XE o),.junk,.junk,.junk,.junk,.junk,.sc (.int .i64 n),.sc (.int .i64 (i:Nat))]++jk 27,[],[(o.length,1)],st⟩) n ?_ ?_
 simp-dsimp only[go_sem,hlim];exact⟨0,[],oG,oG,rfl,rfl,rfl⟩;rintro k s ⟨i,o,rfl,hi,ho,hr,rfl⟩;refine U2n (fun h'=> ?_) (fun h'=> ?_);have hlt:i<n:=(by have:=q_b h';omega);have e3:=Zw i oG;have e4:=Vh (fun i=>XZ (fun j=>G i j) 0 n []) hlt o;refine G2s ?_;refine QQ 8 6 ?_;refine G2s ?_;refine Qd [true,true,false,false,false,false,true,true,true,false,false,false,true,true,false,false,true,true] 0 2
  (fun k s=> ∃(j:Nat) (r:List Ivl),k=n-j/\j<=n/\r.length=j/\XZ (fun j=>G i j) 0 n []=XZ (fun j=>G i j) j (n-j) r/\
   s=⟨[.sc (.int .i64 n),.fn (.func g) [] caps,.junk,.junk,.junk,.junk,.sl (.own 0) (XE o),.sc (.int .i64 (i:Nat)),.sl (.own 1) (QE r),.junk,.junk,.junk,.sc (.int .i64 n),.sc (.int .i64 (i:Nat)),.junk,.junk,.sc (.int .i64 n),.sc (.int .i64 (j:Nat))]++jk 23,[],[(o.length,1),(r.length,6)],st⟩) n ?_ ?_
 simp-dsimp only[go_sem,hlim];exact⟨0,[],oG,oG,rfl,rfl,rfl⟩;rintro k s ⟨j,r,rfl,hj,hrl,hrr,rfl⟩;refine U2n (fun h''=> ?_) (fun h''=> ?_);have hlt2:j<n:=(by have:=q_b h'';omega);have f3:=Zw j oG;have f4:=Vh (fun j=>G i j) hlt2 r;simp-dsimp only[go_sem,hc,h1,h2];refine(h i j hlt hlt2).Q ?_;refine ck (fun h5=> ?_) (fun h5=> ?_);have hne:=VT h5;refine G2s ?_;have q1:XZ (fun j=>G i j) 0 n []=([],(G i j).2):=(by rw[hrr,f4,BC hne]);rw[hr,e4,BC (by rw[q1];exact hne),q1];rfl;have he:=Wh h5;simp-dsimp only[go_sem,f3,hlim];refine⟨⟨oG,oG⟩,n-(j+1),oG,j+1,r++ [(G i j).1],rfl,oG,by simp[hrl],?_,?_⟩;rw[hrr,f4,BA (fun hh=>hh he)];simp[QE,ZQ];have hge:j=n:=(by have:=q_c h'';omega);have q1:XZ (fun j=>G i j) 0 n []=(r,0):=(by rw[hrr,hge];exact WV _ n r);refine G2s ?_;refine U2i ?_;refine⟨⟨oG,oG⟩,Qa ?_⟩;simp-dsimp only[go_sem,e3,hlim];refine⟨n-(i+1),oG,i+1,o++ [r],rfl,oG,by simp[ho],?_,?_⟩;rw[hr,e4,q1,BA (by simp)];simp;have hge:i=n:=(by have:=q_c h';omega);refine G2s ?_;refine U2i ?_;rw[hr,hge,WV]
theorem z0r (i j:Nat)(a b:Mx)(p:Int)(st:Qf)(ha:wM a)(hb:wM b)(ai:i<a.length)(aj:j<(a.getD i []).length)(bi:i<b.length)(bj:j<(b.getD i []).length):
 PR 193 ([.sc (.int .i64 i),.sc (.int .i64 j)]++ [.ep [.sl .no (XE a)] 0,.ep [.sl .no (XE b)] 0,.ep [.sc (.int .i64 p)] 0]) st (.tup [.agg (ZQ (opI 1 (atM a i j) (atM b i j) p).1),.sc (.int .i64 (opI 1 (atM a i j) (atM b i j) p).2)]):=by
 have e1:=Kn a i ai;have e2:=Kn b i bi;have e3:=Zl (a.getD i []) j aj;have e4:=Zl (b.getD i []) j bj;refine U2m Tryz.func193 fun E=> ?_;refine Qm QH 27 (X0p [0,1,2,3,4,5,6,7,8,9,10,11,12,13,14] (.step 15 [0,7] (X0p [16,17,18,19] .done))) (by decide+kernel) (by simp) ?_;simp-dsimp only[go_sem,e1,e2,e3,e4];refine⟨oG,oG,oG,oG,?_⟩;refine(x0h _ _ p _ ((ha.2 i ai).2 j aj) ((hb.2 i bi).2 j bj)).q ?_;simp-dsimp only[go_sem]
 try rfl
theorem X1n (a b:Mx)(p:Int)(st:Qf)(ha:wM a)(hb:wM b):PR 171 [.sl .no (XE a),.sl .no (XE b),.sc (.int .i64 p)] st (.tup [.sl .no (XE (opM 1 a b p).1),.sc (.int .i64 (opM 1 a b p).2)]):=by
 refine Qb none Tryz.func171 rfl fun E=>Qe (Qa ?_);refine G2s ?_;refine QD 0 ?_ ?_;exact G2r;refine G2s ?_;refine QD 1 ?_ ?_;exact G2r;refine G2s ?_;refine QD 2 ?_ ?_;exact G2r;refine U2i ?_;refine(Vs a b p _ ha hb).q ?_;cases hv:U6 a b p with
 | false=>
  refine G2s ?_;rw[opM,BA (fun hh=>by rw[validM_iff.2 hh] at hv;cases hv)];rfl
 | true=>
  obtain⟨v1,v2,v3,v4⟩:=validM_iff.1 hv;have hl:=QI v1;refine G2s ?_;refine(YY _ [.ep [.sl .no (XE a)] 0,.ep [.sl .no (XE b)] 0,.ep [.sc (.int .i64 p)] 0] (fun i j=>opI 1 (atM a i j) (atM b i j) p) a.length st rfl oG rfl rfl rfl rfl (fun _=>rfl) fun i j hi hj=>
   z0r i j a b p st ha hb hi (by rw[(Z3 v1 hi).1];exact hj) oG (by rw[(Z3 v2 oG).1];omega)).mono ?_
  rintro r st ⟨rfl,rfl⟩;refine G2s ?_;rw[opM,BC ⟨v1,v2,v3,v4⟩]
theorem qd (g:FuncId)(caps:List PV)(x y:Nat->Ivl)(n:Nat)(p:Int)(st:Qf)(hc:Qc Tryz.prog g=true)(hn:n<=100000)(h1:caps.all PV.closed2=true)(h1':caps.all PV.closed1=true)(h2:caps.map PV.forget2=caps)(h2':caps.map PV.forget1=caps)(hlim: ∀k,caps.all (PV.lim1 k 0)=true)
 (hw: ∀k,k<n->wI (x k)/\wI (y k)) (hd: ∀k,wI (JZ x y p k).1)
 (h: ∀k,k<n->PR g ([.sc (.int .i64 k)]++caps) st (.tup [.agg (ZQ (x k)),.agg (ZQ (y k))])):
 PR 99 [.sc (.int .i64 n),.sc (.int .i64 p),.fn (.func g) [] caps] st (.tup [.agg (ZQ (JZ x y p n).1),.sc (.int .i64 (JZ x y p n).2)]):=by
 refine U2m Tryz.func99 fun E=> ?_;refine ZN 1 ?_;refine G2s ?_;refine Qd [false,true,true,false,false,false,true,false,true,false,false,false,false,false,true,true] 2 0
  (fun m s=> ∃k,m=n-k/\k<=n/\(JZ x y p k).2=0/\s=⟨[.junk,.sc (.int .i64 p),.fn (.func g) [] caps,.junk,.junk,.junk,.lp 0 0,.junk,.lp 1 0,.junk,.junk,.junk,.junk,.junk,.sc (.int .i64 n),.sc (.int .i64 (k:Nat))]++jk 35,
   [[.sc (.bool false),.sc (.int .i64 0),.sl .full [],.sc (.bool false),.sc (.int .i64 0),.sl .full []],ZQ (JZ x y p k).1],[],st⟩) n ?_ ?_
 simp-dsimp only[go_sem,hlim];exact⟨0,oG,oG,rfl,rfl⟩;rintro m s ⟨k,rfl,hk,hz,rfl⟩;refine U2n (fun h'=> ?_) (fun h'=> ?_);have hlt:k<n:=(by have:=q_b h';omega);have e3:=Zw k oG;have hdk:=hd k;have hstep:JZ x y p (k+1)=if (opI 2 (x k) (y k) p).2≠0 then(default,(opI 2 (x k) (y k) p).2) else
  if k=0 then opI 2 (x k) (y k) p else
  if (opI 0 (JZ x y p k).1 (opI 2 (x k) (y k) p).1 p).2≠0 then(default,(opI 0 (JZ x y p k).1 (opI 2 (x k) (y k) p).1 p).2) else
  opI 0 (JZ x y p k).1 (opI 2 (x k) (y k) p).1 p:=by
  rw[JZ,BA (by rw[hz];decide)]
 have hend: ∀e,e≠0->JZ x y p (k+1)=(default,e)->JZ x y p n=(default,e):=fun e he h0=>by
  have key: ∀d,JZ x y p (k+1+d)=(default,e):=by
   intro d
   induction d with
   | zero=>exact h0
   | succ d ih=>rw[show k+1+(d+1)=(k+1+d)+1 from oG,JZ,ih,BC he]
  have:=key (n-(k+1));rwa [show k+1+(n-(k+1))=n from oG] at this
 simp-dsimp only[go_sem,hc,h1,h2];refine(h k hlt).Q ?_;refine(q1q _ _ p _ (hw k hlt).1 (hw k hlt).2).q ?_;have hmw:wI (opI 2 (x k) (y k) p).1:=KE (JT _ _ _ _);by_cases hm:(opI 2 (x k) (y k) p).2=0;rw[BA (fun hh=>hh hm)] at hstep;rw[hm];have z1:((0:Int)==0)=true:=rfl;have z2:((0:Int) !=0)=false:=rfl;by_cases h0:k=0;rw[BC h0] at hstep;have g1:decide ((k:Int)>0)=false:=q_g oG;simp-dsimp only[go_sem,z1,z2,g1,e3,hlim];refine⟨n-(k+1),oG,k+1,rfl,oG,by rw[hstep];exact hm,?_⟩;rw[hstep];rw[BA h0] at hstep;have g1:decide ((k:Int)>0)=true:=q_h oG;simp-dsimp only[go_sem,z1,z2,g1];refine(x0k _ _ p _ hdk hmw).q ?_;by_cases ha:(opI 0 (JZ x y p k).1 (opI 2 (x k) (y k) p).1 p).2=0;rw[BA (fun hh=>hh ha)] at hstep;rw[ha];simp-dsimp only[go_sem,z2,e3,hlim];refine⟨n-(k+1),oG,k+1,rfl,oG,by rw[hstep];exact ha,?_⟩;rw[hstep];rw[BC ha] at hstep;have hq:=hend _ ha hstep;have g2:((opI 0 (JZ x y p k).1 (opI 2 (x k) (y k) p).1 p).2 !=0)=true:=(by simpa using ha);rw[hq];simp-dsimp only[go_sem,g2];rfl;rw[BC hm] at hstep;have hq:=hend _ hm hstep;have g1:((opI 2 (x k) (y k) p).2==0)=false:=(by simpa using hm);have g2:((opI 2 (x k) (y k) p).2 !=0)=true:=(by simpa using hm);rw[hq];simp-dsimp only[go_sem,g1,g2];rfl;have hge:k=n:=(by have:=q_c h';omega);subst hge;refine G2s ?_;refine U2i ?_;rw[hz]
theorem JJ :Qs default=true:=by decide
theorem Kv (x y:Nat->Ivl)(p:Int): ∀k,Qs (JZ x y p k).1=true
 | 0=>JJ
 | k+1=>by unfold JZ;split;exact JJ;split;exact JJ;split;exact JT _ _ _ _;split;exact JJ;exact JT _ _ _ _
theorem W0x (i j k:Nat)(a b:Mx)(st:Qf)(ai:i<a.length)(aj:k<(a.getD i []).length)(bi:k<b.length)(bj:j<(b.getD k []).length):
 PR 100 ([.sc (.int .i64 k)]++ [.ep [.sl .no (XE a)] 0,.ep [.sc (.int .i64 i)] 0,.ep [.sl .no (XE b)] 0,.ep [.sc (.int .i64 j)] 0]) st (.tup [.agg (ZQ (atM a i k)),.agg (ZQ (atM b k j))]):=by
 have e1:=Kn a i ai;have e2:=Kn b k bi;have e3:=Zl (a.getD i []) k aj;have e4:=Zl (b.getD k []) j bj;refine U2m Tryz.func100 fun E=> ?_;refine Qm QH 22 (X0p [0,1,2,3,4,5,6,7,8,9,10,11,12,13] (.step 14 [7,10,11,13] (.step 15 [] (.done)))) (by decide+kernel) (by simp) ?_;simp-dsimp only[go_sem,e1,e2,e3,e4];exact⟨oG,oG,oG,oG,rfl⟩
theorem z0s (i j:Nat)(a b:Mx)(p:Int)(st:Qf)(ha:wM a)(hb:wM b)(v1:rightM a=true)(v2:rightM b=true)(v3:a.length=b.length)(hi:i<a.length)(hj:j<a.length):
 PCalls Tryz.prog 98 ([.sc (.int .i64 i),.sc (.int .i64 j)]++ [.ep [.sl .no (XE a)] 0,.ep [.sc (.int .i64 p)] 0,.ep [.sl .no (XE b)] 0]) st
  (fun r st'=>r= .tup [.agg (ZQ (JZ (atM a i) (fun k=>atM b k j) p a.length).1),.sc (.int .i64 (JZ (atM a i) (fun k=>atM b k j) p a.length).2)]/\st'=st):=by
 have hl:=QI v1;refine Qb none Tryz.func98 rfl fun E=>Qe (Qa ?_);refine G2s ?_;refine QD 0 ?_ ?_;exact G2r;refine G2s ?_;refine QD 1 ?_ ?_;exact G2r;refine U2i ?_;refine(qd _ [.ep [.sl .no (XE a)] 0,.ep [.sc (.int .i64 i)] 0,.ep [.sl .no (XE b)] 0,.ep [.sc (.int .i64 j)] 0] (atM a i) (fun k=>atM b k j) a.length p st rfl oG rfl rfl rfl rfl (fun _=>rfl)
  (fun k hk=>⟨(ha.2 i hi).2 k (by rw[(Z3 v1 hi).1];exact hk),(hb.2 k oG).2 j (by rw[(Z3 v2 oG).1];omega)⟩) (fun k=>KE (Kv _ _ _ _))
  fun k hk=>W0x i j k a b st hi (by rw[(Z3 v1 hi).1];exact hk) oG (by rw[(Z3 v2 oG).1];omega)).mono ?_
 rintro r st ⟨rfl,rfl⟩;exact G2r
theorem jx (a b:Mx)(p:Int)(st:Qf)(ha:wM a)(hb:wM b):PR 52 [.sl .no (XE a),.sl .no (XE b),.sc (.int .i64 p)] st (.tup [.sl .no (XE (XW a b p).1),.sc (.int .i64 (XW a b p).2)]):=by
 refine Qb none Tryz.func52 rfl fun E=>Qe (Qa ?_);refine G2s ?_;refine QD 0 ?_ ?_;exact G2r;refine G2s ?_;refine QD 1 ?_ ?_;exact G2r;refine G2s ?_;refine QD 2 ?_ ?_;exact G2r;refine U2i ?_;refine(Vs a b p _ ha hb).q ?_;cases hv:U6 a b p with
 | false=>
  refine G2s ?_;rw[XW,BA (fun hh=>by rw[validM_iff.2 hh] at hv;cases hv)];rfl
 | true=>
  obtain⟨v1,v2,v3,v4⟩:=validM_iff.1 hv;have hl:=QI v1;refine G2s ?_;refine(YY _ [.ep [.sl .no (XE a)] 0,.ep [.sc (.int .i64 p)] 0,.ep [.sl .no (XE b)] 0] (fun i j=>JZ (atM a i) (fun k=>atM b k j) p a.length) a.length st rfl oG rfl rfl rfl rfl (fun _=>rfl) fun i j hi hj=>
   z0s i j a b p st ha hb v1 v2 v3 hi hj).mono ?_
  rintro r st ⟨rfl,rfl⟩;refine G2s ?_;rw[XW,BC ⟨v1,v2,v3,v4⟩]
theorem z0q (k:Nat)(r b:List Ivl)(st:Qf)(ai:k<r.length)(bi:k<b.length):
 PCalls Tryz.prog 117 ([.sc (.int .i64 k)]++ [.ep [.sl .no (QE r)] 0,.ep [.sl .no (QE b)] 0]) st (fun q st'=>q= .tup [.agg (ZQ (r.getD k default)),.agg (ZQ (b.getD k default))]/\st'=st):=by
 have e1:=Zl r k ai;have e2:=Zl b k bi;refine U2m Tryz.func117 fun E=> ?_;refine Qm QH 14 (X0p [0,1,2,3,4,5,6,7] (.step 8 [4,7] (.step 9 [] (.done)))) (by decide+kernel) (by simp) ?_;simp-dsimp only[go_sem,e1,e2];exact⟨oG,oG⟩
theorem X1p (m:Mx)(p:Int)(st:Qf)(hm:wM m):PR 102 [.sl .no (XE m),.sc (.int .i64 p)] st (.tup [.sl .no (Z8 (IY m p).1),.sc (.int .i64 (IY m p).2)]):=by
 refine U2m Tryz.func102 fun E=> ?_;refine(Vs m m p _ hm hm).q ?_;cases hv:U6 m m p with
 | false=>
  refine G2s ?_;rw[IY,BA (fun hh=>by rw[validM_iff.2 ⟨hh.1,hh.1,rfl,hh.2⟩] at hv;cases hv)];rfl
 | true=>
  obtain⟨v1,v2,v3,v4⟩:=validM_iff.1 hv;have hl:=QI v1;have hM:IY m p=XZ (fun i=>Xc (m.getD i []) p) 0 m.length []:=BC ⟨v1,v4⟩;rw[hM];refine G2s ?_;refine QQ 6 1 ?_;refine G2s ?_;refine Qd ([false,true,false,false,false,false,true]++rF 9++ [true,true,true]) 0 1
   (fun k s=> ∃(i:Nat) (o:List (List Nm)),k=m.length-i/\i<=m.length/\o.length=i/\XZ (fun i=>Xc (m.getD i []) p) 0 m.length []=XZ (fun i=>Xc (m.getD i []) p) i (m.length-i) o/\
    s=⟨[.junk,.sc (.int .i64 p),.junk,.junk,.junk,.junk,.sl (.own 0) (Z8 o)]++jk 9++ [.sl .no (XE m),.sc (.int .i64 m.length),.sc (.int .i64 (i:Nat))]++jk 18,[],[(o.length,1)],st⟩) m.length ?_ ?_
  refine G2s ?_;exact⟨0,[],oG,oG,rfl,rfl,rfl⟩;rintro k s ⟨i,o,rfl,hi,ho,hr,rfl⟩;refine U2n (fun h'=> ?_) (fun h'=> ?_);have hlt:i<m.length:=(by have:=q_b h';omega);have e1:=Kn m i hlt;have e3:=Zw i oG;have e4:=Vh (fun i=>Xc (m.getD i []) p) hlt o;simp-dsimp only[go_sem,e1];refine⟨oG,?_⟩;refine(jW _ p _ (hm.2 i hlt)).Q ?_;refine ck (fun h2=> ?_) (fun h2=> ?_);have hne:=VT h2;refine G2s ?_;rw[hr,e4,BC hne];rfl;have he:=Wh h2;simp-dsimp only[go_sem,e3];refine⟨⟨oG,oG⟩,m.length-(i+1),oG,i+1,o++ [(Xc (m.getD i []) p).1],rfl,oG,by simp[ho],?_,?_⟩;rw[hr,e4,BA (fun hh=>hh he)];simp;have hge:i=m.length:=(by have:=q_c h';omega);refine G2s ?_;refine U2i ?_;rw[hr,hge,WV]
theorem jw (m:Mx)(b:List Ivl)(p:Int)(st:Qf)(hm:wM m)(hb:wB b):PR 76 [.sl .no (XE m),.sl .no (QE b),.sc (.int .i64 p)] st (.tup [.sl .no (QE (V4 m b p).1),.sc (.int .i64 (V4 m b p).2)]):=by
 refine Qb none Tryz.func76 rfl fun E=>Qe (Qa ?_);refine G2s ?_;refine QD 0 ?_ ?_;exact G2r;refine U2i ?_;refine(Vs m m p _ hm hm).q ?_;cases hv:U6 m m p with
 | false=>
  refine G2s ?_;rw[V4,BA (fun hh=>by rw[validM_iff.2 ⟨hh.1,hh.1,rfl,hh.2.2.2⟩] at hv;cases hv)];rfl
 | true=>
  obtain⟨v1,v2,v3,v4⟩:=validM_iff.1 hv;have hl:=QI v1;refine G2s ?_;refine(Jq b _ hb).q ?_;cases r1:rightB b with
  | false=>
   refine G2s ?_;rw[V4,BA (fun hh=>by simp[r1] at hh)];rfl
  | true=>
   by_cases hn:m.length=b.length;have f1:((b.length:Int) !=(m.length:Int))=false:=(by rw[hn];simp);have hM:V4 m b p=XZ (fun i=>JZ (atM m i) (fun k=>b.getD k default) p b.length) 0 m.length []:=BC ⟨v1,r1,hn,v4⟩;rw[hM];simp-dsimp only[go_sem,f1];refine QQ 8 6 ?_;refine G2s ?_;refine QF ([false,false,true,false,true,false,false,false,true]++rF 21++ [true,true,true]) 1 1
    (fun k s=> ∃(i:Nat) (o:List Ivl),k=m.length-i/\i<=m.length/\o.length=i/\XZ (fun i=>JZ (atM m i) (fun k=>b.getD k default) p b.length) 0 m.length []=XZ (fun i=>JZ (atM m i) (fun k=>b.getD k default) p b.length) i (m.length-i) o/\
     s=⟨[.junk,.junk,.sc (.int .i64 p),.junk,.ep [.sl .no (QE b)] 0,.junk,.junk,.junk,.sl (.own 0) (QE o)]++jk 21++ [.sl .no (XE m),.sc (.int .i64 m.length),.sc (.int .i64 (i:Nat))]++jk 20,[[]],[(o.length,6)],st⟩) m.length ?_ ?_
   refine G2s ?_;exact⟨0,[],oG,oG,rfl,rfl,rfl⟩;rintro k s ⟨i,o,rfl,hi,ho,hr,rfl⟩;refine U2h ?_;refine U2h ?_;refine ck (fun h'=> ?_) (fun h'=> ?_);have hlt:i<m.length:=(by have:=q_b h';omega);have e1:=Kn m i hlt;have e3:=Zw i oG;have e4:=Vh (fun i=>JZ (atM m i) (fun k=>b.getD k default) p b.length) hlt o;obtain⟨q1,q2⟩:=Z3 v1 hlt;refine G2s ?_;refine Qe (Zp (Qe (Qa ?_)));simp-dsimp only[go_sem,e1];refine⟨oG,?_⟩;refine QD 1 ?_ ?_;exact G2r;refine G2s ?_;refine U2i ?_;refine(qd _ [.ep [.sl .no (QE (m.getD i []))] 0,.ep [.sl .no (QE b)] 0] (atM m i) (fun k=>b.getD k default) b.length p st rfl oG rfl rfl rfl rfl (fun _=>rfl)
    (fun k hk=>⟨(hm.2 i hlt).2 k oG,hb.2 k hk⟩) (fun k=>KE (Kv _ _ _ _))
    fun k hk=>z0q k (m.getD i []) b st oG hk).mono ?_
   rintro r st ⟨rfl,rfl⟩;refine U2n (fun h2=> ?_) (fun h2=> ?_);have hne:=VT h2;refine G2s ?_;rw[hr,e4,BC hne];rfl;have he:=Wh h2;refine G2s ?_;refine⟨⟨oG,oG⟩,Qa ?_⟩;simp-dsimp only[go_sem,e3];refine⟨m.length-(i+1),oG,i+1,o++ [(JZ (atM m i) (fun k=>b.getD k default) p b.length).1],rfl,oG,by simp[ho],?_,?_⟩;rw[hr,e4,BA (fun hh=>hh he)];simp[QE,ZQ];have hge:i=m.length:=(by have:=q_c h';omega);refine G2s ?_;refine U2i ?_;rw[hr,hge,WV];have f1:((b.length:Int) !=(m.length:Int))=true:=(by rw[BV];omega);simp-dsimp only[go_sem,f1];rw[V4,BA (fun hh=>hn hh.2.2.1)];rfl
end Go.Pv
end
