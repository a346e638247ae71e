/- Parts of the walk: PvAl, M37, N31, N32, N33. -/
import Derived.Test.YtldalepagmhnmaaGreatDoorZAN
import Derived.Test.YtldalepagmhnmaaGreatDoorZAF
set_option linter.unusedVariables false
set_option linter.unusedSimpArgs false
section
namespace Go.Pv
@[go_sem] theorem Y3q {Q:Exit->PFS->Prop}{s:PFS}{id:Nat} :eblk id Q .normal s=Q .normal s:=(rfl)
@[go_sem] theorem w3s {Q:Exit->PFS->Prop}{s:PFS}{id:Nat} :eblk id Q .ret s=Q .ret s:=(rfl)
@[go_sem] theorem j3h {Q:Exit->PFS->Prop}{s:PFS}{id:Nat} :eblk id Q (.exit id) s=Q .normal s:=by simp[eblk]
@[go_sem] theorem K3k {Q:Exit->PFS->Prop}{s:PFS}{id id':Nat}(h:id'≠id):eblk id Q (.exit id') s=Q (.exit id') s:=by simp[eblk,h]
@[go_sem] theorem z3c {Q:Exit->PFS->Prop}{s:PFS} :K2q Q .ret s=Q .ret s:=(rfl)
theorem Z0e {P:Program}{E:Ent}{c:Code}{Q:Exit->PFS->Prop}{s:PFS}(bs:List Bool)(nL nT:Nat)(I:Nat->PFS->Prop)(n:Nat)(h0:s.maskOK bs nL nT/\I n (s.mask bs nL nT))
 (round: ∀n s,I n s->PWP P E c (x0s (fun s'=>s'.maskOK bs nL nT/\ ∃m,m<n/\I m (s'.mask bs nL nT)) Q) s):PWP P E (.loop c) Q s:=by
 refine J2i (fun n s=>s.maskOK bs nL nT/\I n (s.mask bs nL nT)) n h0 fun n s ⟨hm,hI⟩=> ?_;refine K0l (K1g hm) (J1r (round n _ hI) ?_);intro e s hq;cases e with
 | normal=>obtain⟨hm',m,hlt,hI'⟩:=hq;exact⟨m,hlt,hm',hI'⟩
 | _=>exact hq
def tabF {β:Type}(G:Nat->β×Int):Nat->Nat->List β->List β×Int
 | _,0,acc=>(acc,0)
 | i,k+1,acc=>if (G i).2≠0 then([],(G i).2) else tabF G (i+1) k (acc++ [(G i).1])
theorem v1m {α β:Type}[Inhabited α](F:Nat->α->β×Int): ∀(l:List α) (i:Nat) (acc:List β),V0g F i l acc=tabF (fun j=>F j (l.getD (j-i) default)) i l.length acc
 | [],i,acc=>rfl
 | x::l,i,acc=>by
  have e: ∀j,i+1<=j->j<i+1+l.length->F j (l.getD (j-(i+1)) default)=F j ((x::l).getD (j-i) default):=fun j h1 _=>by rw[show j-i=(j-(i+1))+1 from oG];rfl
  have key: ∀(k i':Nat) (acc:List β),i+1<=i'->i'+k<=i+1+l.length->tabF (fun j=>F j (l.getD (j-(i+1)) default)) i' k acc=tabF (fun j=>F j ((x::l).getD (j-i) default)) i' k acc:=by
   intro k
   induction k with
   | zero=>intro i' acc _ _;rfl
   | succ k ih=>
    intro i' acc h1 h2;simp only[tabF,e i' h1 oG];split;rfl;exact ih _ _ oG oG
  have e0:F i ((x::l).getD (i-i) default)=F i x:=by rw[Nat.sub_self];rfl
  rw[V0g,List.length_cons,tabF,e0,v1m F l (i+1),key _ _ _ oG oG]
theorem W0c {α β:Type}[Inhabited α](F:Nat->α->β×Int)(l:List α):V0g F 0 l []=tabF (fun j=>F j (l.getD j default)) 0 l.length []:=by rw[v1m];simp only[Nat.sub_zero]
theorem U1j {β:Type}{G G':Nat->β×Int} : ∀(k i:Nat) (acc:List β),(∀j,i<=j->j<i+k->G j=G' j)->tabF G i k acc=tabF G' i k acc
 | 0,_,_,_=>rfl
 | k+1,i,acc,h=>by simp only[tabF,h i oG oG];split;rfl;exact U1j k _ _ fun j h1 h2=>h j oG oG
theorem G2l {β:Type}[Inhabited β]{G:Nat->β×Int} : ∀(k i:Nat) (acc:List β),(tabF G i k acc).2=0->
 (tabF G i k acc).1.length=acc.length+k/\(∀j,j<k->(G (i+j)).2=0)/\ ∀j,j<acc.length+k->(tabF G i k acc).1.getD j default=if j<acc.length then acc.getD j default else(G (i+(j-acc.length))).1
 | 0,i,acc,_=>by refine⟨rfl,fun j h=>oG,fun j h=> ?_⟩;rw[if_pos oG];rfl
 | k+1,i,acc,h=>by
  simp only[tabF] at h⊢;by_cases h0:(G i).2≠0;rw[if_pos h0] at h;exact absurd h h0;rw[if_neg h0] at h⊢;obtain⟨a1,a2,a3⟩:=G2l k (i+1) (acc++ [(G i).1]) h;refine⟨by rw[a1];simp;omega,fun j hj=> ?_,fun j hj=> ?_⟩;cases j with
  | zero=>exact Classical.not_not.1 h0
  | succ j=>have:=a2 j oG;rw[show i+(j+1)=i+1+j from oG];exact this
  rw[a3 j (by simp;omega)];simp only[List.length_append,List.length_cons,List.length_nil];by_cases c1:j<acc.length;rw[if_pos oG,if_pos c1,q_a,List.getElem?_append_left c1,<-q_a];rw[if_neg c1];by_cases c2:j=acc.length;subst c2;rw[if_pos oG,Nat.sub_self,Nat.add_zero];simp[q_a];rw[if_neg oG];rw[show i+1+(j-(acc.length+(0+1)))=i+(j-acc.length) from oG]
theorem H1o {β:Type}[Inhabited β]{G:Nat->β×Int} : ∀(k i:Nat) (acc:List β),(∀j,i<=j->j<i+k->(G j).2=0)->(tabF G i k acc).2=0
 | 0,i,acc,_=>rfl
 | k+1,i,acc,h=>by simp only[tabF];rw[if_neg (by rw[h i oG oG];decide)];exact H1o k _ _ fun j h1 h2=>h j oG oG
theorem G0g {β:Type}[Inhabited β]{G:Nat->β×Int}{k:Nat}(h:(tabF G 0 k []).2=0):(tabF G 0 k []).1.length=k/\(∀j,j<k->(G j).2=0)/\ ∀j,j<k->(tabF G 0 k []).1.getD j default=(G j).1:=by obtain⟨a1,a2,a3⟩:=G2l k 0 [] h;refine⟨by simpa using a1,fun j hj=>by simpa using a2 j hj,fun j hj=> ?_⟩;have:=a3 j (by simpa using hj);simpa using this
theorem w0x {β:Type}{G:Nat->β×Int} : ∀(k i:Nat) (acc:List β),(tabF G i k acc).1.length<=acc.length+k
 | 0,i,acc=>by simp[tabF]
 | k+1,i,acc=>by simp only[tabF];split;simp;have:=w0x (G:=G) k (i+1) (acc++ [(G i).1]);simp at this;omega
theorem z0q {β:Type}(p:β->Prop){G:Nat->β×Int} : ∀(k i:Nat) (acc:List β),(∀j,i<=j->j<i+k->p (G j).1)->(∀x∈acc,p x)-> ∀x∈(tabF G i k acc).1,p x
 | 0,i,acc,_,h=>h
 | k+1,i,acc,hg,h=>by simp only[tabF];split;intro x hx;cases hx;refine z0q p k _ _ (fun j h1 h2=>hg j oG oG) fun x hx=> ?_;rcases List.mem_append.1 hx with hx | hx;exact h x hx;rw[List.mem_singleton.1 hx];exact hg i oG oG
theorem J0t {β:Type}(G:Nat->β×Int){i n:Nat}(h:i<n)(acc:List β):tabF G i (n-i) acc=if (G i).2≠0 then([],(G i).2) else tabF G (i+1) (n-(i+1)) (acc++ [(G i).1]):=by rw[show n-i=(n-(i+1))+1 from oG,tabF]
theorem K0s {β:Type}(G:Nat->β×Int)(n:Nat)(acc:List β):tabF G n (n-n) acc=(acc,0):=by rw[Nat.sub_self];rfl
abbrev Mx :=List (List Ivl)
def wM (m:Mx):Prop:=m.length<=100000000000/\ ∀i,i<m.length->wB (m.getD i [])
def rightM (m:Mx):Bool:=(m.all fun r=>decide (r.length=m.length)&&rightB r)&&decide (1<=m.length)&&decide (m.length<=4)
theorem Z0u {m:Mx}(h:rightM m=true):1<=m.length/\m.length<=4:=by unfold rightM at h;simp only[q_i,decide_eq_true_eq] at h;exact⟨h.1.2,h.2⟩
theorem Z0y {m:Mx}(h:rightM m=true){i:Nat}(hi:i<m.length):(m.getD i []).length=m.length/\rightB (m.getD i [])=true:=by unfold rightM at h;simp only[q_i,decide_eq_true_eq,q_d] at h;have hm:m.getD i []∈m:=(by simp[q_a,List.getElem?_eq_getElem hi]);have:=h.1.1 _ hm;simpa using this
theorem rightM_iff {m:Mx} :rightM m=true<->(∀i,i<m.length->(m.getD i []).length=m.length/\rightB (m.getD i [])=true)/\1<=m.length/\m.length<=4:=by constructor;intro h;exact⟨fun i hi=>Z0y h hi,Z0u h⟩;rintro⟨h1,h2,h3⟩;unfold rightM;simp only[q_i,decide_eq_true_eq,q_d];refine⟨⟨fun r hr=> ?_,h2⟩,h3⟩;obtain⟨i,hi,rfl⟩:=List.getElem_of_mem hr;have:=h1 i hi;rw[q_a,List.getElem?_eq_getElem hi] at this;simpa using this
theorem q0y {b:List Ivl}(h:rightB b=true){i:Nat}(hi:i<b.length):Q0w (b.getD i default)=true:=by unfold rightB at h;simp only[q_i,q_d] at h;exact h.1.1 _ (by simp[q_a,List.getElem?_eq_getElem hi])
def atM (m:Mx)(i j:Nat):Ivl:=(m.getD i []).getD j default
theorem U0u {m:Mx}(h:rightM m=true){i j:Nat}(hi:i<m.length)(hj:j<m.length):Q0w (atM m i j)=true:=by obtain⟨h1,h2⟩:=Z0y h hi;exact q0y h2 (by rw[h1];exact hj)
def U0h (G:Nat->Nat->Ivl×Int)(n:Nat):Mx×Int:=tabF (fun i=>tabF (fun j=>G i j) 0 n []) 0 n []
def opM (k:Nat)(a b:Mx)(p:Int):Mx×Int:=if rightM a=true/\rightM b=true/\a.length=b.length/\Z0c p=true then U0h (fun i j=>opI k (atM a i j) (atM b i j) p) a.length else([],1)
def dotF (x y:Nat->Ivl)(p:Int):Nat->Ivl×Int
 | 0=>(default,0)
 | k+1=>
  if (dotF x y p k).2≠0 then(default,(dotF x y p k).2) else
  if (opI 2 (x k) (y k) p).2≠0 then(default,(opI 2 (x k) (y k) p).2) else
  if k=0 then opI 2 (x k) (y k) p else
  if (opI 0 (dotF x y p k).1 (opI 2 (x k) (y k) p).1 p).2≠0 then(default,(opI 0 (dotF x y p k).1 (opI 2 (x k) (y k) p).1 p).2) else
  opI 0 (dotF x y p k).1 (opI 2 (x k) (y k) p).1 p
theorem G1z {x x' y y':Nat->Ivl}{p:Int} : ∀n,(∀k,k<n->x k=x' k/\y k=y' k)->dotF x y p n=dotF x' y' p n
 | 0,_=>rfl
 | n+1,h=>by obtain⟨h1,h2⟩:=h n oG;simp only[dotF,G1z n (fun k hk=>h k oG),h1,h2]
def mulM (a b:Mx)(p:Int):Mx×Int:=if rightM a=true/\rightM b=true/\a.length=b.length/\Z0c p=true then U0h (fun i j=>dotF (atM a i) (fun k=>atM b k j) p a.length) a.length else([],1)
def vecM (m:Mx)(b:List Ivl)(p:Int):List Ivl×Int:=if rightM m=true/\rightB b=true/\m.length=b.length/\Z0c p=true then tabF (fun i=>dotF (atM m i) (fun k=>b.getD k default) p b.length) 0 m.length [] else([],1)
def midM (m:Mx)(p:Int):List (List Nm)×Int:=if rightM m=true/\Z0c p=true then tabF (fun i=>midB (m.getD i []) p) 0 m.length [] else([],1)
def magN (x:Nm):Nm:=⟨false,x.exp,x.w⟩
def magI (a:Ivl):Nm:=if Q0w a=true then J0c (magN a.lo) (magN a.hi) else default
def sumF (r:Nat->Ivl)(p:Int):Nat->Nm×Int
 | 0=>(magI (r 0),0)
 | j+1=>if (sumF r p j).2≠0 then(default,(sumF r p j).2) else Q0t 0 (sumF r p j).1 (magI (r (j+1))) p true
def W0b (m:Mx)(p:Int):Nat->Nm×Int
 | 0=>(default,0)
 | i+1=>if (W0b m p i).2≠0 then(default,(W0b m p i).2) else
  if (sumF (atM m i) p (m.length-1)).2≠0 then(default,(sumF (atM m i) p (m.length-1)).2) else
  if cmpR (sumF (atM m i) p (m.length-1)).1 (W0b m p i).1>0 then((sumF (atM m i) p (m.length-1)).1,0) else((W0b m p i).1,0)
theorem x1s {r:Nat->Ivl}{p:Int}{j:Nat}(h:(sumF r p j).2≠0): ∀d,(sumF r p (j+d)).2=(sumF r p j).2
 | 0=>rfl
 | d+1=>by have ih:=x1s h d;rw[show j+(d+1)=(j+d)+1 from oG,sumF,if_pos (by rw[ih];exact h)];exact ih
theorem K1m {r:Nat->Ivl}{p:Int}{j:Nat}(h:(sumF r p j).2=0):sumF r p (j+1)=Q0t 0 (sumF r p j).1 (magI (r (j+1))) p true:=by rw[sumF,if_neg (by rw[h];decide)]
theorem G1a {m:Mx}{p e:Int}{i:Nat}(he:e≠0)(h:W0b m p i=(default,e)): ∀d,W0b m p (i+d)=(default,e)
 | 0=>h
 | d+1=>by have ih:=G1a he h d;rw[show i+(d+1)=(i+d)+1 from oG,W0b,ih,if_pos he]
theorem k1f {m:Mx}{p e:Int}{i j:Nat}(he:e≠0)(hi:i<m.length)(hj:j<=m.length-1)(h:(W0b m p i).2=0)(hs:(sumF (atM m i) p j).2=e):W0b m p m.length=(default,e):=by have h1:=x1s (r:=atM m i) (p:=p) (j:=j) (by rw[hs];exact he) (m.length-1-j);rw[show j+(m.length-1-j)=m.length-1 from oG,hs] at h1;have h2:W0b m p (i+1)=(default,e):=(by rw[W0b,if_neg (by rw[h];decide),if_pos (by rw[h1];exact he),h1]);have:=G1a he h2 (m.length-(i+1));rwa [show i+1+(m.length-(i+1))=m.length from oG] at this
theorem Z1t {m:Mx}{p:Int}{i:Nat}(h:(W0b m p i).2=0)(hs:(sumF (atM m i) p (m.length-1)).2=0):
 W0b m p (i+1)=if cmpR (sumF (atM m i) p (m.length-1)).1 (W0b m p i).1>0 then((sumF (atM m i) p (m.length-1)).1,0) else((W0b m p i).1,0):=by
 rw[W0b,if_neg (by rw[h];decide),if_neg (by rw[hs];decide)]
theorem k0p {x:Nm}(h:Q0h x=true):Q0h (magN x)=true:=by
 unfold Q0h magN at*
 simp only at h⊢;split;rename_i hw;rw[if_pos hw] at h;simp at h;simp[h];rename_i hw;rw[if_neg hw] at h;exact h
theorem V0p :Q0h default=true:=by decide
theorem X1a (a:Ivl):Q0h (magI a)=true:=by unfold magI;split;rename_i h;have:=Q0x h;exact Q1g (P:=fun x=>Q0h x=true) (k0p this.1) (k0p this.2.1);exact V0p
theorem G0l (r:Nat->Ivl)(p:Int): ∀j,Q0h (sumF r p j).1=true
 | 0=>X1a _
 | j+1=>by unfold sumF;split;exact V0p;exact Z0l _ _ _ _ _
theorem H0a (m:Mx)(p:Int): ∀i,Q0h (W0b m p i).1=true
 | 0=>V0p
 | i+1=>by unfold W0b;split;exact V0p;split;exact V0p;split;exact G0l _ _ _;exact H0a m p i
def X0n (m:Mx)(p:Int):Nm×Int:=if rightM m=true/\Z0c p=true then W0b m p m.length else(default,1)
def oneN :Nm:=⟨false,0,[1]⟩
def idM (n:Int):Mx:=if 1<=n/\n<=4 then(List.range n.toNat).map fun i=>(List.range n.toNat).map fun j=>if i=j then⟨oneN,oneN⟩ else default else []
def ofM (q:List (List Nm)):Mx:=q.map ofB
set_option maxRecDepth 100000
open Go.Proofs
theorem Z1x (m:Mx)(st:Q0f)(hm:wM m):PR 101 [.sl .no (encM m)] st (.sc (.bool (rightM m))):=by
 have hl:=hm.1;refine W4y Tryz.func101 fun E=> ?_;refine Q0e [true,false,false,false,false,true,true,true] 0 0
  (fun n s=> ∃i,n=m.length-i/\i<=m.length/\(∀j,j<i->(m.getD j []).length=m.length/\rightB (m.getD j [])=true)/\s=⟨[.sl .no (encM m),.junk,.junk,.junk,.junk,.sl .no (encM m),.sc (.int .i64 m.length),.sc (.int .i64 (i:Nat))]++jk 22,[],[],st⟩) m.length ?_ ?_
 refine Y4w ?_;exact⟨0,oG,oG,fun j hj=>oG,rfl⟩;rintro n s ⟨i,rfl,hi,hr,rfl⟩;refine W4z (fun h'=> ?_) (fun h'=> ?_);have hlt:i<m.length:=(by have:=q_b h';omega);have e1:=K0f m i hlt;have e3:=Z0x i oG;simp-dsimp only[go_sem,e1];refine⟨oG,?_⟩;refine gkF (fun h2=> ?_) (fun h2=> ?_);have hn:=H0b h2;simp-dsimp only[go_sem,h2,e1];refine(G0s _ _ (hm.2 i hlt)).q ?_;simp-dsimp only[go_sem,h2];refine ck (fun h3=> ?_) (fun h3=> ?_);have hf:rightB (m.getD i [])=false:=(by simpa using h3);refine Y4w ?_;have:rightM m=false:=Bool.eq_false_iff.2 fun e=>by have:=((rightM_iff.1 e).1 i hlt).2;rw[hf] at this;cases this
 rw[this];have ht:rightB (m.getD i [])=true:=(by simpa using h3);simp-dsimp only[go_sem,e3];refine⟨m.length-(i+1),oG,i+1,rfl,oG,fun j hj=> ?_,rfl⟩;by_cases e:j=i;subst e;exact⟨hn,ht⟩;exact hr j oG;have hn:=x0m h2;simp-dsimp only[go_sem,h2];have:rightM m=false:=Bool.eq_false_iff.2 fun e=>hn ((rightM_iff.1 e).1 i hlt).1;rw[this];have hge:i=m.length:=(by have:=q_c h';omega);refine Y4w ?_;refine W4u ?_;refine gkT (fun h=> ?_) (fun h=> ?_);have h1:1<=m.length:=(oT h);simp-dsimp only[go_sem,h];have:rightM m=decide ((m.length:Int)<=4):=by rw[Bool.eq_iff_iff,rightM_iff,decide_eq_true_iff];exact⟨fun hh=>oG,fun hh=>⟨fun j hj=>hr j oG,h1,oG⟩⟩
 rw[this];have h1: ¬1<=m.length:=(oF h);simp-dsimp only[go_sem,h];have:rightM m=false:=Bool.eq_false_iff.2 fun e=>h1 (rightM_iff.1 e).2.1;rw[this]
def w0p (a b:Mx)(p:Int):Bool:=rightM a&&rightM b&&decide (a.length=b.length)&&Z0c p
theorem validM_iff {a b:Mx}{p:Int} :w0p a b p=true<->rightM a=true/\rightM b=true/\a.length=b.length/\Z0c p=true:=by unfold w0p;simp only[q_i,decide_eq_true_eq];exact⟨fun h=>⟨h.1.1.1,h.1.1.2,h.1.2,h.2⟩,fun h=>⟨⟨⟨h.1,h.2.1⟩,h.2.2.1⟩,h.2.2.2⟩⟩
theorem z0c (a b:Mx)(p:Int)(st:Q0f)(ha:wM a)(hb:wM b):PR 84 [.sl .no (encM a),.sl .no (encM b),.sc (.int .i64 p)] st (.sc (.bool (w0p a b p))):=by
 refine Q0b none Tryz.func84 rfl fun E=>Q0a ?_;unfold w0p;refine Y4w ?_;refine(Z1x a st ha).q ?_;cases h:rightM a with
 | false=>simp-dsimp only[go_sem];try rfl
 | true=>
  refine Y4w ?_;refine(Z1x b st hb).q ?_;cases h':rightM b with
  | false=>simp-dsimp only[go_sem];try rfl
  | true=>
   by_cases hn:a.length=b.length;have f1:((a.length:Int)==(b.length:Int))=true:=(by rw[hn];simp);rw[q_h hn];simp-dsimp only[go_sem,f1];refine(V0b p _).q ?_;simp-dsimp only[go_sem]
   try rfl
   have f1:((a.length:Int)==(b.length:Int))=false:=by rw[beq_eq_false_iff_ne];omega
   rw[q_g hn];simp-dsimp only[go_sem,f1]
   try rfl
theorem J2q (q:List (List Nm))(i:Nat)(h:i<q.length):ofM (q.take (i+1))=ofM (q.take i)++ [ofB (q.getD i [])]:=by unfold ofM;rw[x0z q i [] h,List.map_append];rfl
def wQ (q:List (List Nm)):Prop:=q.length<=100000000000/\ ∀i,i<q.length->wNs (q.getD i [])
theorem q1s (q:List (List Nm))(st:Q0f)(hq:wQ q):PR 39 [.sl .no (encQ q)] st (.sl (.fresh 1) (encM (ofM q))):=by
 obtain⟨hl,hw⟩:=hq;refine W4y Tryz.func39 fun E=> ?_;refine Z0d 3 1 ?_;refine Y4w ?_;refine Q0e [false,false,false,true,false,false,true,true,true] 0 1
  (fun n s=> ∃i,n=q.length-i/\i<=q.length/\s=⟨[.junk,.junk,.junk,.sl (.own 0) (encM (ofM (q.take i))),.junk,.junk,.sl .no (encQ q),.sc (.int .i64 q.length),.sc (.int .i64 (i:Nat))]++jk 10,[],[((ofM (q.take i)).length,1)],st⟩) q.length ?_ ?_
 refine Y4w ?_;exact⟨0,oG,oG,rfl⟩;rintro n s ⟨i,rfl,hi,rfl⟩;refine W4z (fun h'=> ?_) (fun h'=> ?_);have hlt:i<q.length:=(by have:=q_b h';omega);have e1:=J0d q i hlt;have e3:=Z0x i oG;have ll:(ofM (q.take i)).length=i:=(by simp[ofM];omega);simp-dsimp only[go_sem,e1];refine⟨oG,?_⟩;refine(X1q _ _ (hw i hlt)).plain.q ?_;simp-dsimp only[go_sem,e3];refine⟨⟨oG,oG⟩,q.length-(i+1),oG,i+1,rfl,oG,?_⟩;rw[J2q q i hlt];simp;have hge:i=q.length:=(by have:=q_c h';omega);refine Y4w ?_;refine W4u ?_;rw[hge,List.take_length]
theorem w0a (g:FuncId)(caps:List PV)(G:Nat->Nat->Ivl×Int)(n:Nat)(st:Q0f)(hc:Q0c Tryz.prog g=true)(hn:n<=100000)(h1:caps.all PV.closed2=true)(h1':caps.all PV.closed1=true)(h2:caps.map PV.forget2=caps)(h2':caps.map PV.forget1=caps)(hlim: ∀k,caps.all (PV.lim1 0 k)=true)
 (h: ∀i j,i<n->j<n->PR g ([.sc (.int .i64 i),.sc (.int .i64 j)]++caps) st (.tup [.agg (encI (G i j).1),.sc (.int .i64 (G i j).2)])):
 PR 122 [.sc (.int .i64 n),.fn (.func g) [] caps] st (.tup [.sl .no (encM (U0h G n).1),.sc (.int .i64 (U0h G n).2)]):=by
 refine W4y Tryz.func122 fun E=> ?_;refine Z0d 6 1 ?_;refine Y4w ?_;refine Q0e [true,true,false,false,false,false,true,false,false,false,false,false,true,true] 0 1
  (fun k s=> ∃(i:Nat) (o:Mx),k=n-i/\i<=n/\o.length=i/\U0h G n=tabF (fun i=>tabF (fun j=>G i j) 0 n []) i (n-i) o/\
   s=⟨[.sc (.int .i64 n),.fn (.func g) [] caps,.junk,.junk,.junk,.junk,.sl (.own 0) (encM o),.junk,.junk,.junk,.junk,.junk,.sc (.int .i64 n),.sc (.int .i64 (i:Nat))]++jk 27,[],[(o.length,1)],st⟩) n ?_ ?_
 simp-dsimp only[go_sem,hlim];exact⟨0,[],oG,oG,rfl,rfl,rfl⟩;rintro k s ⟨i,o,rfl,hi,ho,hr,rfl⟩;refine W4z (fun h'=> ?_) (fun h'=> ?_);have hlt:i<n:=(by have:=q_b h';omega);have e3:=Z0x i oG;have e4:=J0t (fun i=>tabF (fun j=>G i j) 0 n []) hlt o;refine Y4w ?_;refine Z0d 8 6 ?_;refine Y4w ?_;refine Q0e [true,true,false,false,false,false,true,true,true,false,false,false,true,true,false,false,true,true] 0 2
  (fun k s=> ∃(j:Nat) (r:List Ivl),k=n-j/\j<=n/\r.length=j/\tabF (fun j=>G i j) 0 n []=tabF (fun j=>G i j) j (n-j) r/\
   s=⟨[.sc (.int .i64 n),.fn (.func g) [] caps,.junk,.junk,.junk,.junk,.sl (.own 0) (encM o),.sc (.int .i64 (i:Nat)),.sl (.own 1) (Q0z r),.junk,.junk,.junk,.sc (.int .i64 n),.sc (.int .i64 (i:Nat)),.junk,.junk,.sc (.int .i64 n),.sc (.int .i64 (j:Nat))]++jk 23,[],[(o.length,1),(r.length,6)],st⟩) n ?_ ?_
 simp-dsimp only[go_sem,hlim];exact⟨0,[],oG,oG,rfl,rfl,rfl⟩;rintro k s ⟨j,r,rfl,hj,hrl,hrr,rfl⟩;refine W4z (fun h''=> ?_) (fun h''=> ?_);have hlt2:j<n:=(by have:=q_b h'';omega);have f3:=Z0x j oG;have f4:=J0t (fun j=>G i j) hlt2 r;simp-dsimp only[go_sem,hc,h1,h2];refine(h i j hlt hlt2).Q ?_;refine ck (fun h5=> ?_) (fun h5=> ?_);have hne:=W0k h5;refine Y4w ?_;have q1:tabF (fun j=>G i j) 0 n []=([],(G i j).2):=(by rw[hrr,f4,if_pos hne]);rw[hr,e4,if_pos (by rw[q1];exact hne),q1];rfl;have he:=W0y h5;simp-dsimp only[go_sem,f3,hlim];refine⟨⟨oG,oG⟩,n-(j+1),oG,j+1,r++ [(G i j).1],rfl,oG,by simp[hrl],?_,?_⟩;rw[hrr,f4,if_neg (fun hh=>hh he)];simp[Q0z,encI];have hge:j=n:=(by have:=q_c h'';omega);have q1:tabF (fun j=>G i j) 0 n []=(r,0):=(by rw[hrr,hge];exact K0s _ n r);refine Y4w ?_;refine W4u ?_;refine⟨⟨oG,oG⟩,Q0a ?_⟩;simp-dsimp only[go_sem,e3,hlim];refine⟨n-(i+1),oG,i+1,o++ [r],rfl,oG,by simp[ho],?_,?_⟩;rw[hr,e4,q1,if_neg (by simp)];simp;have hge:i=n:=(by have:=q_c h';omega);refine Y4w ?_;refine W4u ?_;rw[hr,hge,K0s]
theorem z2w (i j:Nat)(a b:Mx)(p:Int)(st:Q0f)(ha:wM a)(hb:wM b)(ai:i<a.length)(aj:j<(a.getD i []).length)(bi:i<b.length)(bj:j<(b.getD i []).length):
 PR 316 ([.sc (.int .i64 i),.sc (.int .i64 j)]++ [.ep [.sl .no (encM a)] 0,.ep [.sl .no (encM b)] 0,.ep [.sc (.int .i64 p)] 0]) st (.tup [.agg (encI (opI 1 (atM a i j) (atM b i j) p).1),.sc (.int .i64 (opI 1 (atM a i j) (atM b i j) p).2)]):=by
 have e1:=K0f a i ai;have e2:=K0f b i bi;have e3:=Z0q (a.getD i []) j aj;have e4:=Z0q (b.getD i []) j bj;refine W4y Tryz.func316 fun E=> ?_;refine Q0k Z0b 27 (X2p [0,1,2,3,4,5,6,7,8,9,10,11,12,13,14] (.step 15 [0,7] (X2p [16,17,18,19] .done))) (by decide+kernel) (by simp) ?_;simp-dsimp only[go_sem,e1,e2,e3,e4];refine⟨oG,oG,oG,oG,?_⟩;refine(x2o _ _ p _ ((ha.2 i ai).2 j aj) ((hb.2 i bi).2 j bj)).q ?_;simp-dsimp only[go_sem]
 try rfl
theorem X3e (a b:Mx)(p:Int)(st:Q0f)(ha:wM a)(hb:wM b):PR 288 [.sl .no (encM a),.sl .no (encM b),.sc (.int .i64 p)] st (.tup [.sl .no (encM (opM 1 a b p).1),.sc (.int .i64 (opM 1 a b p).2)]):=by
 refine Q0b none Tryz.func288 rfl fun E=>Q0d (Q0a ?_);refine Y4w ?_;refine Z0j 0 ?_ ?_;exact Y4v;refine Y4w ?_;refine Z0j 1 ?_ ?_;exact Y4v;refine Y4w ?_;refine Z0j 2 ?_ ?_;exact Y4v;refine W4u ?_;refine(z0c a b p _ ha hb).q ?_;cases hv:w0p a b p with
 | false=>
  refine Y4w ?_;rw[opM,if_neg (fun hh=>by rw[validM_iff.2 hh] at hv;cases hv)];rfl
 | true=>
  obtain⟨v1,v2,v3,v4⟩:=validM_iff.1 hv;have hl:=Z0u v1;refine Y4w ?_;refine(w0a _ [.ep [.sl .no (encM a)] 0,.ep [.sl .no (encM b)] 0,.ep [.sc (.int .i64 p)] 0] (fun i j=>opI 1 (atM a i j) (atM b i j) p) a.length st rfl oG rfl rfl rfl rfl (fun _=>rfl) fun i j hi hj=>
   z2w i j a b p st ha hb hi (by rw[(Z0y v1 hi).1];exact hj) oG (by rw[(Z0y v2 oG).1];omega)).mono ?_
  rintro r st ⟨rfl,rfl⟩;refine Y4w ?_;rw[opM,if_pos ⟨v1,v2,v3,v4⟩]
theorem V1t (g:FuncId)(caps:List PV)(x y:Nat->Ivl)(n:Nat)(p:Int)(st:Q0f)(hc:Q0c Tryz.prog g=true)(hn:n<=100000)(h1:caps.all PV.closed2=true)(h1':caps.all PV.closed1=true)(h2:caps.map PV.forget2=caps)(h2':caps.map PV.forget1=caps)(hlim: ∀k,caps.all (PV.lim1 k 0)=true)
 (hw: ∀k,k<n->wI (x k)/\wI (y k)) (hd: ∀k,wI (dotF x y p k).1)
 (h: ∀k,k<n->PR g ([.sc (.int .i64 k)]++caps) st (.tup [.agg (encI (x k)),.agg (encI (y k))])):
 PR 86 [.sc (.int .i64 n),.sc (.int .i64 p),.fn (.func g) [] caps] st (.tup [.agg (encI (dotF x y p n).1),.sc (.int .i64 (dotF x y p n).2)]):=by
 refine W4y Tryz.func86 fun E=> ?_;refine J0q 1 ?_;refine Y4w ?_;refine Q0e [false,true,true,false,false,false,true,false,true,false,false,false,false,false,true,true] 2 0
  (fun m s=> ∃k,m=n-k/\k<=n/\(dotF x y p k).2=0/\s=⟨[.junk,.sc (.int .i64 p),.fn (.func g) [] caps,.junk,.junk,.junk,.lp 0 0,.junk,.lp 1 0,.junk,.junk,.junk,.junk,.junk,.sc (.int .i64 n),.sc (.int .i64 (k:Nat))]++jk 35,
   [[.sc (.bool false),.sc (.int .i64 0),.sl .full [],.sc (.bool false),.sc (.int .i64 0),.sl .full []],encI (dotF x y p k).1],[],st⟩) n ?_ ?_
 simp-dsimp only[go_sem,hlim];exact⟨0,oG,oG,rfl,rfl⟩;rintro m s ⟨k,rfl,hk,hz,rfl⟩;refine W4z (fun h'=> ?_) (fun h'=> ?_);have hlt:k<n:=(by have:=q_b h';omega);have e3:=Z0x k oG;have hdk:=hd k;have hstep:dotF x y p (k+1)=if (opI 2 (x k) (y k) p).2≠0 then(default,(opI 2 (x k) (y k) p).2) else
  if k=0 then opI 2 (x k) (y k) p else
  if (opI 0 (dotF x y p k).1 (opI 2 (x k) (y k) p).1 p).2≠0 then(default,(opI 0 (dotF x y p k).1 (opI 2 (x k) (y k) p).1 p).2) else
  opI 0 (dotF x y p k).1 (opI 2 (x k) (y k) p).1 p:=by
  rw[dotF,if_neg (by rw[hz];decide)]
 have hend: ∀e,e≠0->dotF x y p (k+1)=(default,e)->dotF x y p n=(default,e):=fun e he h0=>by
  have key: ∀d,dotF x y p (k+1+d)=(default,e):=by
   intro d
   induction d with
   | zero=>exact h0
   | succ d ih=>rw[show k+1+(d+1)=(k+1+d)+1 from oG,dotF,ih,if_pos he]
  have:=key (n-(k+1));rwa [show k+1+(n-(k+1))=n from oG] at this
 simp-dsimp only[go_sem,hc,h1,h2];refine(h k hlt).Q ?_;refine(q3h _ _ p _ (hw k hlt).1 (hw k hlt).2).q ?_;have hmw:wI (opI 2 (x k) (y k) p).1:=H0o (G0y _ _ _ _);by_cases hm:(opI 2 (x k) (y k) p).2=0;rw[if_neg (fun hh=>hh hm)] at hstep;rw[hm];have z1:((0:Int)==0)=true:=rfl;have z2:((0:Int) !=0)=false:=rfl;by_cases h0:k=0;rw[if_pos h0] at hstep;have g1:decide ((k:Int)>0)=false:=q_g oG;simp-dsimp only[go_sem,z1,z2,g1,e3,hlim];refine⟨n-(k+1),oG,k+1,rfl,oG,by rw[hstep];exact hm,?_⟩;rw[hstep];rw[if_neg h0] at hstep;have g1:decide ((k:Int)>0)=true:=q_h oG;simp-dsimp only[go_sem,z1,z2,g1];refine(x2q _ _ p _ hdk hmw).q ?_;by_cases ha:(opI 0 (dotF x y p k).1 (opI 2 (x k) (y k) p).1 p).2=0;rw[if_neg (fun hh=>hh ha)] at hstep;rw[ha];simp-dsimp only[go_sem,z2,e3,hlim];refine⟨n-(k+1),oG,k+1,rfl,oG,by rw[hstep];exact ha,?_⟩;rw[hstep];rw[if_pos ha] at hstep;have hq:=hend _ ha hstep;have g2:((opI 0 (dotF x y p k).1 (opI 2 (x k) (y k) p).1 p).2 !=0)=true:=(by simpa using ha);rw[hq];simp-dsimp only[go_sem,g2];rfl;rw[if_pos hm] at hstep;have hq:=hend _ hm hstep;have g1:((opI 2 (x k) (y k) p).2==0)=false:=(by simpa using hm);have g2:((opI 2 (x k) (y k) p).2 !=0)=true:=(by simpa using hm);rw[hq];simp-dsimp only[go_sem,g1,g2];rfl;have hge:k=n:=(by have:=q_c h';omega);subst hge;refine Y4w ?_;refine W4u ?_;rw[hz]
theorem U0m :Q0w default=true:=by decide
theorem Y0i (x y:Nat->Ivl)(p:Int): ∀k,Q0w (dotF x y p k).1=true
 | 0=>U0m
 | k+1=>by unfold dotF;split;exact U0m;split;exact U0m;split;exact G0y _ _ _ _;split;exact U0m;exact G0y _ _ _ _
theorem Y2h (i j k:Nat)(a b:Mx)(st:Q0f)(ai:i<a.length)(aj:k<(a.getD i []).length)(bi:k<b.length)(bj:j<(b.getD k []).length):
 PR 180 ([.sc (.int .i64 k)]++ [.ep [.sl .no (encM a)] 0,.ep [.sc (.int .i64 i)] 0,.ep [.sl .no (encM b)] 0,.ep [.sc (.int .i64 j)] 0]) st (.tup [.agg (encI (atM a i k)),.agg (encI (atM b k j))]):=by
 have e1:=K0f a i ai;have e2:=K0f b k bi;have e3:=Z0q (a.getD i []) k aj;have e4:=Z0q (b.getD k []) j bj;refine W4y Tryz.func180 fun E=> ?_;refine Q0k Z0b 22 (X2p [0,1,2,3,4,5,6,7,8,9,10,11,12,13] (.step 14 [7,10,11,13] (.step 15 [] (.done)))) (by decide+kernel) (by simp) ?_;simp-dsimp only[go_sem,e1,e2,e3,e4];exact⟨oG,oG,oG,oG,rfl⟩
theorem z2x (i j:Nat)(a b:Mx)(p:Int)(st:Q0f)(ha:wM a)(hb:wM b)(v1:rightM a=true)(v2:rightM b=true)(v3:a.length=b.length)(hi:i<a.length)(hj:j<a.length):
 PCalls Tryz.prog 179 ([.sc (.int .i64 i),.sc (.int .i64 j)]++ [.ep [.sl .no (encM a)] 0,.ep [.sc (.int .i64 p)] 0,.ep [.sl .no (encM b)] 0]) st
  (fun r st'=>r= .tup [.agg (encI (dotF (atM a i) (fun k=>atM b k j) p a.length).1),.sc (.int .i64 (dotF (atM a i) (fun k=>atM b k j) p a.length).2)]/\st'=st):=by
 have hl:=Z0u v1;refine Q0b none Tryz.func179 rfl fun E=>Q0d (Q0a ?_);refine Y4w ?_;refine Z0j 0 ?_ ?_;exact Y4v;refine Y4w ?_;refine Z0j 1 ?_ ?_;exact Y4v;refine W4u ?_;refine(V1t _ [.ep [.sl .no (encM a)] 0,.ep [.sc (.int .i64 i)] 0,.ep [.sl .no (encM b)] 0,.ep [.sc (.int .i64 j)] 0] (atM a i) (fun k=>atM b k j) a.length p st rfl oG rfl rfl rfl rfl (fun _=>rfl)
  (fun k hk=>⟨(ha.2 i hi).2 k (by rw[(Z0y v1 hi).1];exact hk),(hb.2 k oG).2 j (by rw[(Z0y v2 oG).1];omega)⟩) (fun k=>H0o (Y0i _ _ _ _))
  fun k hk=>Y2h i j k a b st hi (by rw[(Z0y v1 hi).1];exact hk) oG (by rw[(Z0y v2 oG).1];omega)).mono ?_
 rintro r st ⟨rfl,rfl⟩;exact Y4v
theorem q1t (a b:Mx)(p:Int)(st:Q0f)(ha:wM a)(hb:wM b):PR 104 [.sl .no (encM a),.sl .no (encM b),.sc (.int .i64 p)] st (.tup [.sl .no (encM (mulM a b p).1),.sc (.int .i64 (mulM a b p).2)]):=by
 refine Q0b none Tryz.func104 rfl fun E=>Q0d (Q0a ?_);refine Y4w ?_;refine Z0j 0 ?_ ?_;exact Y4v;refine Y4w ?_;refine Z0j 1 ?_ ?_;exact Y4v;refine Y4w ?_;refine Z0j 2 ?_ ?_;exact Y4v;refine W4u ?_;refine(z0c a b p _ ha hb).q ?_;cases hv:w0p a b p with
 | false=>
  refine Y4w ?_;rw[mulM,if_neg (fun hh=>by rw[validM_iff.2 hh] at hv;cases hv)];rfl
 | true=>
  obtain⟨v1,v2,v3,v4⟩:=validM_iff.1 hv;have hl:=Z0u v1;refine Y4w ?_;refine(w0a _ [.ep [.sl .no (encM a)] 0,.ep [.sc (.int .i64 p)] 0,.ep [.sl .no (encM b)] 0] (fun i j=>dotF (atM a i) (fun k=>atM b k j) p a.length) a.length st rfl oG rfl rfl rfl rfl (fun _=>rfl) fun i j hi hj=>
   z2x i j a b p st ha hb v1 v2 v3 hi hj).mono ?_
  rintro r st ⟨rfl,rfl⟩;refine Y4w ?_;rw[mulM,if_pos ⟨v1,v2,v3,v4⟩]
theorem z2v (k:Nat)(r b:List Ivl)(st:Q0f)(ai:k<r.length)(bi:k<b.length):
 PCalls Tryz.prog 87 ([.sc (.int .i64 k)]++ [.ep [.sl .no (Q0z r)] 0,.ep [.sl .no (Q0z b)] 0]) st (fun q st'=>q= .tup [.agg (encI (r.getD k default)),.agg (encI (b.getD k default))]/\st'=st):=by
 have e1:=Z0q r k ai;have e2:=Z0q b k bi;refine W4y Tryz.func87 fun E=> ?_;refine Q0k Z0b 14 (X2p [0,1,2,3,4,5,6,7] (.step 8 [4,7] (.step 9 [] (.done)))) (by decide+kernel) (by simp) ?_;simp-dsimp only[go_sem,e1,e2];exact⟨oG,oG⟩
theorem X3g (m:Mx)(p:Int)(st:Q0f)(hm:wM m):PR 182 [.sl .no (encM m),.sc (.int .i64 p)] st (.tup [.sl .no (encQ (midM m p).1),.sc (.int .i64 (midM m p).2)]):=by
 refine W4y Tryz.func182 fun E=> ?_;refine(z0c m m p _ hm hm).q ?_;cases hv:w0p m m p with
 | false=>
  refine Y4w ?_;rw[midM,if_neg (fun hh=>by rw[validM_iff.2 ⟨hh.1,hh.1,rfl,hh.2⟩] at hv;cases hv)];rfl
 | true=>
  obtain⟨v1,v2,v3,v4⟩:=validM_iff.1 hv;have hl:=Z0u v1;have hM:midM m p=tabF (fun i=>midB (m.getD i []) p) 0 m.length []:=if_pos ⟨v1,v4⟩;rw[hM];refine Y4w ?_;refine Z0d 6 1 ?_;refine Y4w ?_;refine Q0e ([false,true,false,false,false,false,true]++rF 9++ [true,true,true]) 0 1
   (fun k s=> ∃(i:Nat) (o:List (List Nm)),k=m.length-i/\i<=m.length/\o.length=i/\tabF (fun i=>midB (m.getD i []) p) 0 m.length []=tabF (fun i=>midB (m.getD i []) p) i (m.length-i) o/\
    s=⟨[.junk,.sc (.int .i64 p),.junk,.junk,.junk,.junk,.sl (.own 0) (encQ o)]++jk 9++ [.sl .no (encM m),.sc (.int .i64 m.length),.sc (.int .i64 (i:Nat))]++jk 18,[],[(o.length,1)],st⟩) m.length ?_ ?_
  refine Y4w ?_;exact⟨0,[],oG,oG,rfl,rfl,rfl⟩;rintro k s ⟨i,o,rfl,hi,ho,hr,rfl⟩;refine W4z (fun h'=> ?_) (fun h'=> ?_);have hlt:i<m.length:=(by have:=q_b h';omega);have e1:=K0f m i hlt;have e3:=Z0x i oG;have e4:=J0t (fun i=>midB (m.getD i []) p) hlt o;simp-dsimp only[go_sem,e1];refine⟨oG,?_⟩;refine(z1w _ p _ (hm.2 i hlt)).Q ?_;refine ck (fun h2=> ?_) (fun h2=> ?_);have hne:=W0k h2;refine Y4w ?_;rw[hr,e4,if_pos hne];rfl;have he:=W0y h2;simp-dsimp only[go_sem,e3];refine⟨⟨oG,oG⟩,m.length-(i+1),oG,i+1,o++ [(midB (m.getD i []) p).1],rfl,oG,by simp[ho],?_,?_⟩;rw[hr,e4,if_neg (fun hh=>hh he)];simp;have hge:i=m.length:=(by have:=q_c h';omega);refine Y4w ?_;refine W4u ?_;rw[hr,hge,K0s]
theorem q1r (m:Mx)(b:List Ivl)(p:Int)(st:Q0f)(hm:wM m)(hb:wB b):PR 28 [.sl .no (encM m),.sl .no (Q0z b),.sc (.int .i64 p)] st (.tup [.sl .no (Q0z (vecM m b p).1),.sc (.int .i64 (vecM m b p).2)]):=by
 refine Q0b none Tryz.func28 rfl fun E=>Q0d (Q0a ?_);refine Y4w ?_;refine Z0j 0 ?_ ?_;exact Y4v;refine W4u ?_;refine(z0c m m p _ hm hm).q ?_;cases hv:w0p m m p with
 | false=>
  refine Y4w ?_;rw[vecM,if_neg (fun hh=>by rw[validM_iff.2 ⟨hh.1,hh.1,rfl,hh.2.2.2⟩] at hv;cases hv)];rfl
 | true=>
  obtain⟨v1,v2,v3,v4⟩:=validM_iff.1 hv;have hl:=Z0u v1;refine Y4w ?_;refine(G0s b _ hb).q ?_;cases r1:rightB b with
  | false=>
   refine Y4w ?_;rw[vecM,if_neg (fun hh=>by simp[r1] at hh)];rfl
  | true=>
   by_cases hn:m.length=b.length;have f1:((b.length:Int) !=(m.length:Int))=false:=(by rw[hn];simp);have hM:vecM m b p=tabF (fun i=>dotF (atM m i) (fun k=>b.getD k default) p b.length) 0 m.length []:=if_pos ⟨v1,r1,hn,v4⟩;rw[hM];simp-dsimp only[go_sem,f1];refine Z0d 8 6 ?_;refine Y4w ?_;refine Z0e ([false,false,true,false,true,false,false,false,true]++rF 21++ [true,true,true]) 1 1
    (fun k s=> ∃(i:Nat) (o:List Ivl),k=m.length-i/\i<=m.length/\o.length=i/\tabF (fun i=>dotF (atM m i) (fun k=>b.getD k default) p b.length) 0 m.length []=tabF (fun i=>dotF (atM m i) (fun k=>b.getD k default) p b.length) i (m.length-i) o/\
     s=⟨[.junk,.junk,.sc (.int .i64 p),.junk,.ep [.sl .no (Q0z b)] 0,.junk,.junk,.junk,.sl (.own 0) (Q0z o)]++jk 21++ [.sl .no (encM m),.sc (.int .i64 m.length),.sc (.int .i64 (i:Nat))]++jk 20,[[]],[(o.length,6)],st⟩) m.length ?_ ?_
   refine Y4w ?_;exact⟨0,[],oG,oG,rfl,rfl,rfl⟩;rintro k s ⟨i,o,rfl,hi,ho,hr,rfl⟩;refine W4t ?_;refine W4t ?_;refine ck (fun h'=> ?_) (fun h'=> ?_);have hlt:i<m.length:=(by have:=q_b h';omega);have e1:=K0f m i hlt;have e3:=Z0x i oG;have e4:=J0t (fun i=>dotF (atM m i) (fun k=>b.getD k default) p b.length) hlt o;obtain⟨q1,q2⟩:=Z0y v1 hlt;refine Y4w ?_;refine Q0d (X0b (Q0d (Q0a ?_)));simp-dsimp only[go_sem,e1];refine⟨oG,?_⟩;refine Z0j 1 ?_ ?_;exact Y4v;refine Y4w ?_;refine W4u ?_;refine(V1t _ [.ep [.sl .no (Q0z (m.getD i []))] 0,.ep [.sl .no (Q0z b)] 0] (atM m i) (fun k=>b.getD k default) b.length p st rfl oG rfl rfl rfl rfl (fun _=>rfl)
    (fun k hk=>⟨(hm.2 i hlt).2 k oG,hb.2 k hk⟩) (fun k=>H0o (Y0i _ _ _ _))
    fun k hk=>z2v k (m.getD i []) b st oG hk).mono ?_
   rintro r st ⟨rfl,rfl⟩;refine W4z (fun h2=> ?_) (fun h2=> ?_);have hne:=W0k h2;refine Y4w ?_;rw[hr,e4,if_pos hne];rfl;have he:=W0y h2;refine Y4w ?_;refine⟨⟨oG,oG⟩,Q0a ?_⟩;simp-dsimp only[go_sem,e3];refine⟨m.length-(i+1),oG,i+1,o++ [(dotF (atM m i) (fun k=>b.getD k default) p b.length).1],rfl,oG,by simp[ho],?_,?_⟩;rw[hr,e4,if_neg (fun hh=>hh he)];simp[Q0z,encI];have hge:i=m.length:=(by have:=q_c h';omega);refine Y4w ?_;refine W4u ?_;rw[hr,hge,K0s];have f1:((b.length:Int) !=(m.length:Int))=true:=(by rw[bne_iff_ne];omega);simp-dsimp only[go_sem,f1];rw[vecM,if_neg (fun hh=>hn hh.2.2.1)];rfl
end Go.Pv
end
