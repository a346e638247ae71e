/- Parts of the walk: PvAl, M37, N31, N32, N33. -/
import Derived.Test.YtldalepagmhnmaaGreatDoorZAN
import Derived.Test.YtldalepagmhnmaaGreatDoorZAF
set_option linter.unusedVariables false
set_option linter.unusedSimpArgs false
section
namespace Go.Pv
@[go_sem] theorem V3p {Q:Exit->PFS->Prop}{s:PFS}{id:Nat} :eblk id Q .normal s=Q .normal s:=(rfl)
@[go_sem] theorem y3v {Q:Exit->PFS->Prop}{s:PFS}{id:Nat} :eblk id Q .ret s=Q .ret s:=(rfl)
@[go_sem] theorem x3n {Q:Exit->PFS->Prop}{s:PFS}{id:Nat} :eblk id Q (.exit id) s=Q .normal s:=by simp[eblk]
@[go_sem] theorem X3b {Q:Exit->PFS->Prop}{s:PFS}{id id':Nat}(h:id'≠id):eblk id Q (.exit id') s=Q (.exit id') s:=by simp[eblk,h]
@[go_sem] theorem k2r {Q:Exit->PFS->Prop}{s:PFS} :Y1u Q .normal s=Q .normal s:=(rfl)
@[go_sem] theorem G3u {Q:Exit->PFS->Prop}{s:PFS} :Y1u Q .ret s=Q .ret s:=(rfl)
@[go_sem] theorem V3l {Q:Exit->PFS->Prop}{s:PFS}{id:Nat} :Y1u Q (.exit id) s=Q (.exit id) s:=(rfl)
theorem Q0r {P:Program}{E:Ent}{c:Code}{Q:Exit->PFS->Prop}{s:PFS}(bs:List Bool)(nL nT:Nat)(I:Nat->PFS->Prop)(n:Nat)(h0:s.maskOK bs nL nT/\I n (s.mask bs nL nT))
 (round: ∀n s,I n s->PWP P E c (W0y (fun s'=>s'.maskOK bs nL nT/\ ∃m,m<n/\I m (s'.mask bs nL nT)) Q) s):PWP P E (.loop c) Q s:=by
 refine Z2a (fun n s=>s.maskOK bs nL nT/\I n (s.mask bs nL nT)) n h0 fun n s ⟨hm,hI⟩=> ?_;refine J0u (z0v hm) (X1e (round n _ hI) ?_);intro e s hq;cases e with
 | normal=>obtain⟨hm',m,hlt,hI'⟩:=hq;exact⟨m,hlt,hm',hI'⟩
 | _=>exact hq
def tabF {β:Type}(G:Nat->β×Int):Nat->Nat->List β->List β×Int
 | _,0,acc=>(acc,0)
 | i,k+1,acc=>if (G i).2≠0 then([],(G i).2) else tabF G (i+1) k (acc++ [(G i).1])
theorem j1h {α β:Type}[Inhabited α](F:Nat->α->β×Int): ∀(l:List α) (i:Nat) (acc:List β),W2a F i l acc=tabF (fun j=>F j (l.getD (j-i) default)) i l.length acc
 | [],i,acc=>rfl
 | x::l,i,acc=>by
  have e: ∀j,i+1<=j->j<i+1+l.length->F j (l.getD (j-(i+1)) default)=F j ((x::l).getD (j-i) default):=fun j h1 _=>by rw[show j-i=(j-(i+1))+1 from by omega];rfl
  have key: ∀(k i':Nat) (acc:List β),i+1<=i'->i'+k<=i+1+l.length->tabF (fun j=>F j (l.getD (j-(i+1)) default)) i' k acc=tabF (fun j=>F j ((x::l).getD (j-i) default)) i' k acc:=by
   intro k
   induction k with
   | zero=>intro i' acc _ _;rfl
   | succ k ih=>
    intro i' acc h1 h2;simp only[tabF,e i' h1 (by omega)];split;rfl;exact ih _ _ (by omega) (by omega)
  have e0:F i ((x::l).getD (i-i) default)=F i x:=by rw[Nat.sub_self];rfl
  rw[W2a,List.length_cons,tabF,e0,j1h F l (i+1),key _ _ _ (by omega) (by omega)]
theorem j0p {α β:Type}[Inhabited α](F:Nat->α->β×Int)(l:List α):W2a F 0 l []=tabF (fun j=>F j (l.getD j default)) 0 l.length []:=by rw[j1h];simp only[Nat.sub_zero]
theorem Y2s {β:Type}[Inhabited β]{G:Nat->β×Int} : ∀(k i:Nat) (acc:List β),(tabF G i k acc).2=0->
 (tabF G i k acc).1.length=acc.length+k/\(∀j,j<k->(G (i+j)).2=0)/\ ∀j,j<acc.length+k->(tabF G i k acc).1.getD j default=if j<acc.length then acc.getD j default else(G (i+(j-acc.length))).1
 | 0,i,acc,_=>by refine⟨rfl,fun j h=>by omega,fun j h=> ?_⟩;rw[if_pos (by omega)];rfl
 | k+1,i,acc,h=>by
  simp only[tabF] at h⊢;by_cases h0:(G i).2≠0;rw[if_pos h0] at h;exact absurd h h0;rw[if_neg h0] at h⊢;obtain⟨a1,a2,a3⟩:=Y2s k (i+1) (acc++ [(G i).1]) h;refine⟨by rw[a1];simp;omega,fun j hj=> ?_,fun j hj=> ?_⟩;cases j with
  | zero=>exact Classical.not_not.1 h0
  | succ j=>have:=a2 j (by omega);rw[show i+(j+1)=i+1+j from by omega];exact this
  rw[a3 j (by simp;omega)];simp only[List.length_append,List.length_cons,List.length_nil];by_cases c1:j<acc.length;rw[if_pos (by omega),if_pos c1,q_a,List.getElem?_append_left c1,<-q_a];rw[if_neg c1];by_cases c2:j=acc.length;subst c2;rw[if_pos (by omega),Nat.sub_self,Nat.add_zero];simp[q_a];rw[if_neg (by omega)];rw[show i+1+(j-(acc.length+(0+1)))=i+(j-acc.length) from by omega]
theorem q0v {β:Type}[Inhabited β]{G:Nat->β×Int} : ∀(k i:Nat) (acc:List β),(∀j,i<=j->j<i+k->(G j).2=0)->(tabF G i k acc).2=0
 | 0,i,acc,_=>rfl
 | k+1,i,acc,h=>by simp only[tabF];rw[if_neg (by rw[h i (by omega) (by omega)];decide)];exact q0v k _ _ fun j h1 h2=>h j (by omega) (by omega)
theorem J0t {β:Type}[Inhabited β]{G:Nat->β×Int}{k:Nat}(h:(tabF G 0 k []).2=0):(tabF G 0 k []).1.length=k/\(∀j,j<k->(G j).2=0)/\ ∀j,j<k->(tabF G 0 k []).1.getD j default=(G j).1:=by obtain⟨a1,a2,a3⟩:=Y2s k 0 [] h;refine⟨by simpa using a1,fun j hj=>by simpa using a2 j hj,fun j hj=> ?_⟩;have:=a3 j (by simpa using hj);simpa using this
theorem j0a {β:Type}{G:Nat->β×Int} : ∀(k i:Nat) (acc:List β),(tabF G i k acc).1.length<=acc.length+k
 | 0,i,acc=>by simp[tabF]
 | k+1,i,acc=>by simp only[tabF];split;simp;have:=j0a (G:=G) k (i+1) (acc++ [(G i).1]);simp at this;omega
theorem H0b {β:Type}(p:β->Prop){G:Nat->β×Int} : ∀(k i:Nat) (acc:List β),(∀j,i<=j->j<i+k->p (G j).1)->(∀x∈acc,p x)-> ∀x∈(tabF G i k acc).1,p x
 | 0,i,acc,_,h=>h
 | k+1,i,acc,hg,h=>by simp only[tabF];split;intro x hx;cases hx;refine H0b p k _ _ (fun j h1 h2=>hg j (by omega) (by omega)) fun x hx=> ?_;rcases List.mem_append.1 hx with hx | hx;exact h x hx;rw[List.mem_singleton.1 hx];exact hg i (by omega) (by omega)
theorem V0u {β:Type}(G:Nat->β×Int){i n:Nat}(h:i<n)(acc:List β):tabF G i (n-i) acc=if (G i).2≠0 then([],(G i).2) else tabF G (i+1) (n-(i+1)) (acc++ [(G i).1]):=by rw[show n-i=(n-(i+1))+1 from by omega,tabF]
theorem Y0i {β:Type}(G:Nat->β×Int)(n:Nat)(acc:List β):tabF G n (n-n) acc=(acc,0):=by rw[Nat.sub_self];rfl
abbrev Mx :=List (List Ivl)
def wM (m:Mx):Prop:=m.length<=100000000000/\ ∀i,i<m.length->wB (m.getD i [])
def K0u (m:Mx):Bool:=(m.all fun r=>decide (r.length=m.length)&&rightB r)&&decide (1<=m.length)&&decide (m.length<=4)
theorem U0q {m:Mx}(h:K0u m=true):1<=m.length/\m.length<=4:=by unfold K0u at h;simp only[q_i,decide_eq_true_eq] at h;exact⟨h.1.2,h.2⟩
theorem q0b {m:Mx}(h:K0u m=true){i:Nat}(hi:i<m.length):(m.getD i []).length=m.length/\rightB (m.getD i [])=true:=by unfold K0u at h;simp only[q_i,decide_eq_true_eq,q_d] at h;have hm:m.getD i []∈m:=(by simp[q_a,List.getElem?_eq_getElem hi]);have:=h.1.1 _ hm;simpa using this
theorem rightM_iff {m:Mx} :K0u m=true<->(∀i,i<m.length->(m.getD i []).length=m.length/\rightB (m.getD i [])=true)/\1<=m.length/\m.length<=4:=by constructor;intro h;exact⟨fun i hi=>q0b h hi,U0q h⟩;rintro⟨h1,h2,h3⟩;unfold K0u;simp only[q_i,decide_eq_true_eq,q_d];refine⟨⟨fun r hr=> ?_,h2⟩,h3⟩;obtain⟨i,hi,rfl⟩:=List.getElem_of_mem hr;have:=h1 i hi;rw[q_a,List.getElem?_eq_getElem hi] at this;simpa using this
theorem q1r {b:List Ivl}(h:rightB b=true){i:Nat}(hi:i<b.length):Q0p (b.getD i default)=true:=by unfold rightB at h;simp only[q_i,q_d] at h;exact h.1.1 _ (by simp[q_a,List.getElem?_eq_getElem hi])
def atM (m:Mx)(i j:Nat):Ivl:=(m.getD i []).getD j default
def j0x (G:Nat->Nat->Ivl×Int)(n:Nat):Mx×Int:=tabF (fun i=>tabF (fun j=>G i j) 0 n []) 0 n []
def opM (k:Nat)(a b:Mx)(p:Int):Mx×Int:=if K0u a=true/\K0u b=true/\a.length=b.length/\Z0p p=true then j0x (fun i j=>opI k (atM a i j) (atM b i j) p) a.length else([],1)
def H0a (x:Ivl)(m:Mx)(p:Int):Mx×Int:=if K0u m=true/\Q0p x=true/\Z0p p=true then j0x (fun i j=>opI 2 x (atM m i j) p) m.length else([],1)
def dotF (x y:Nat->Ivl)(p:Int):Nat->Ivl×Int
 | 0=>(default,0)
 | k+1=>
  if (dotF x y p k).2≠0 then(default,(dotF x y p k).2) else
  if (opI 2 (x k) (y k) p).2≠0 then(default,(opI 2 (x k) (y k) p).2) else
  if k=0 then opI 2 (x k) (y k) p else
  if (opI 0 (dotF x y p k).1 (opI 2 (x k) (y k) p).1 p).2≠0 then(default,(opI 0 (dotF x y p k).1 (opI 2 (x k) (y k) p).1 p).2) else
  opI 0 (dotF x y p k).1 (opI 2 (x k) (y k) p).1 p
theorem U1b {x x' y y':Nat->Ivl}{p:Int} : ∀n,(∀k,k<n->x k=x' k/\y k=y' k)->dotF x y p n=dotF x' y' p n
 | 0,_=>rfl
 | n+1,h=>by obtain⟨h1,h2⟩:=h n (by omega);simp only[dotF,U1b n (fun k hk=>h k (by omega)),h1,h2]
def oneN :Nm:=⟨false,0,[1]⟩
def idM (n:Int):Mx:=if 1<=n/\n<=4 then(List.range n.toNat).map fun i=>(List.range n.toNat).map fun j=>if i=j then⟨oneN,oneN⟩ else default else []
set_option maxRecDepth 100000
open Go.Proofs
theorem Q1i (m:Mx)(st:Q0f)(hm:wM m):PCalls Tryz.prog 101 [.sl .no (encM m)] st (fun r st'=>r= .sc (.bool (K0u m))/\st'=st):=by
 have hl:=hm.1;refine Q0b none Tryz.func101 rfl fun E=>Q0a ?_;simp-dsimp only[go_sem];refine Q0d [true,false,false,false,false,true,true,true] 0 0
  (fun n s=> ∃i,n=m.length-i/\i<=m.length/\(∀j,j<i->(m.getD j []).length=m.length/\rightB (m.getD j [])=true)/\s=⟨[.sl .no (encM m),.junk,.junk,.junk,.junk,.sl .no (encM m),.sc (.int .i64 m.length),.sc (.int .i64 (i:Nat))]++List.replicate 22 .junk,[],[],st⟩) m.length ?_ ?_
 simp-dsimp only[go_sem];exact⟨0,by omega,by omega,fun j hj=>by omega,rfl⟩;rintro n s ⟨i,rfl,hi,hr,rfl⟩;simp-dsimp only[go_sem];refine ck (fun h'=> ?_) (fun h'=> ?_);have hlt:i<m.length:=(by have:=q_b h';omega);have e1:=Y0l m i hlt;have e3:=J0n i (by omega);simp-dsimp only[go_sem,e1];refine⟨by omega,?_⟩;refine gkF (fun h2=> ?_) (fun h2=> ?_);have hn:=K1d h2;simp-dsimp only[go_sem,h2,e1];refine(U1j _ _ (hm.2 i hlt)).mono ?_;rintro r st ⟨rfl,rfl⟩;simp-dsimp only[go_sem,h2];refine ck (fun h3=> ?_) (fun h3=> ?_);have hf:rightB (m.getD i [])=false:=(by simpa using h3);simp-dsimp only[go_sem];have:K0u m=false:=Bool.eq_false_iff.2 fun e=>by have:=((rightM_iff.1 e).1 i hlt).2;rw[hf] at this;cases this
 rw[this];have ht:rightB (m.getD i [])=true:=(by simpa using h3);simp-dsimp only[go_sem,e3];refine⟨m.length-(i+1),by omega,i+1,rfl,by omega,fun j hj=> ?_,rfl⟩;by_cases e:j=i;subst e;exact⟨hn,ht⟩;exact hr j (by omega);have hn:=z1r h2;simp-dsimp only[go_sem,h2];have:K0u m=false:=Bool.eq_false_iff.2 fun e=>hn ((rightM_iff.1 e).1 i hlt).1;rw[this];have hge:i=m.length:=(by have:=q_c h';omega);simp-dsimp only[go_sem];refine Q0a ?_;simp-dsimp only[go_sem];refine gkT (fun h=> ?_) (fun h=> ?_);have h1:1<=m.length:=(by have:=q_b h;omega);simp-dsimp only[go_sem,h];have:K0u m=decide ((m.length:Int)<=4):=by rw[Bool.eq_iff_iff,rightM_iff,decide_eq_true_iff];exact⟨fun hh=>by omega,fun hh=>⟨fun j hj=>hr j (by omega),h1,by omega⟩⟩
 rw[this];have h1: ¬1<=m.length:=(by have:=q_c h;omega);simp-dsimp only[go_sem,h];have:K0u m=false:=Bool.eq_false_iff.2 fun e=>h1 (rightM_iff.1 e).2.1;rw[this]
def W1j (a b:Mx)(p:Int):Bool:=K0u a&&K0u b&&decide (a.length=b.length)&&Z0p p
theorem validM_iff {a b:Mx}{p:Int} :W1j a b p=true<->K0u a=true/\K0u b=true/\a.length=b.length/\Z0p p=true:=by unfold W1j;simp only[q_i,decide_eq_true_eq];exact⟨fun h=>⟨h.1.1.1,h.1.1.2,h.1.2,h.2⟩,fun h=>⟨⟨⟨h.1,h.2.1⟩,h.2.2.1⟩,h.2.2.2⟩⟩
theorem Y1f (a b:Mx)(p:Int)(st:Q0f)(ha:wM a)(hb:wM b):PCalls Tryz.prog 84 [.sl .no (encM a),.sl .no (encM b),.sc (.int .i64 p)] st (fun r st'=>r= .sc (.bool (W1j a b p))/\st'=st):=by
 refine Q0b none Tryz.func84 rfl fun E=>Q0a ?_;unfold W1j;simp-dsimp only[go_sem];refine(Q1i a st ha).mono ?_;rintro r st ⟨rfl,rfl⟩;cases h:K0u a with
 | false=>simp-dsimp only[go_sem];try rfl
 | true=>
  simp-dsimp only[go_sem];refine(Q1i b st hb).mono ?_;rintro r st ⟨rfl,rfl⟩;cases h':K0u b with
  | false=>simp-dsimp only[go_sem];try rfl
  | true=>
   by_cases hn:a.length=b.length;have f1:((a.length:Int)==(b.length:Int))=true:=(by rw[hn];simp);rw[q_h hn];simp-dsimp only[go_sem,f1];refine(U0p p _).mono ?_;rintro r st ⟨rfl,rfl⟩;simp-dsimp only[go_sem]
   try rfl
   have f1:((a.length:Int)==(b.length:Int))=false:=by rw[beq_eq_false_iff_ne];omega
   rw[q_g hn];simp-dsimp only[go_sem,f1]
   try rfl
theorem k0v (g:FuncId)(caps:List PV)(G:Nat->Nat->Ivl×Int)(n:Nat)(st:Q0f)(hc:Q0c Tryz.prog g=true)(hn:n<=100000)(h1:caps.all PV.closed2=true)(h1':caps.all PV.closed1=true)(h2:caps.map PV.forget2=caps)(h2':caps.map PV.forget1=caps)(hlim: ∀k,caps.all (PV.lim1 0 k)=true)
 (h: ∀i j,i<n->j<n->PCalls Tryz.prog g ([.sc (.int .i64 i),.sc (.int .i64 j)]++caps) st (fun r st'=>r= .tup [.agg (encI (G i j).1),.sc (.int .i64 (G i j).2)]/\st'=st)):
 PCalls Tryz.prog 122 [.sc (.int .i64 n),.fn (.func g) [] caps] st (fun r st'=>r= .tup [.sl .no (encM (j0x G n).1),.sc (.int .i64 (j0x G n).2)]/\st'=st):=by
 refine Q0b none Tryz.func122 rfl fun E=>Q0a ?_;simp-dsimp only[go_sem];refine Z0c 6 1 ?_;simp-dsimp only[go_sem];refine Q0d [true,true,false,false,false,false,true,false,false,false,false,false,true,true] 0 1
  (fun k s=> ∃(i:Nat) (o:Mx),k=n-i/\i<=n/\o.length=i/\j0x G n=tabF (fun i=>tabF (fun j=>G i j) 0 n []) i (n-i) o/\
   s=⟨[.sc (.int .i64 n),.fn (.func g) [] caps,.junk,.junk,.junk,.junk,.sl (.own 0) (encM o),.junk,.junk,.junk,.junk,.junk,.sc (.int .i64 n),.sc (.int .i64 (i:Nat))]++List.replicate 27 .junk,[],[(o.length,1)],st⟩) n ?_ ?_
 simp-dsimp only[go_sem,hlim];exact⟨0,[],by omega,by omega,rfl,rfl,rfl⟩;rintro k s ⟨i,o,rfl,hi,ho,hr,rfl⟩;simp-dsimp only[go_sem];refine ck (fun h'=> ?_) (fun h'=> ?_);have hlt:i<n:=(by have:=q_b h';omega);have e3:=J0n i (by omega);have e4:=V0u (fun i=>tabF (fun j=>G i j) 0 n []) hlt o;simp-dsimp only[go_sem];refine Z0c 8 6 ?_;simp-dsimp only[go_sem];refine Q0d [true,true,false,false,false,false,true,true,true,false,false,false,true,true,false,false,true,true] 0 2
  (fun k s=> ∃(j:Nat) (r:List Ivl),k=n-j/\j<=n/\r.length=j/\tabF (fun j=>G i j) 0 n []=tabF (fun j=>G i j) j (n-j) r/\
   s=⟨[.sc (.int .i64 n),.fn (.func g) [] caps,.junk,.junk,.junk,.junk,.sl (.own 0) (encM o),.sc (.int .i64 (i:Nat)),.sl (.own 1) (Q0v r),.junk,.junk,.junk,.sc (.int .i64 n),.sc (.int .i64 (i:Nat)),.junk,.junk,.sc (.int .i64 n),.sc (.int .i64 (j:Nat))]++List.replicate 23 .junk,[],[(o.length,1),(r.length,6)],st⟩) n ?_ ?_
 simp-dsimp only[go_sem,hlim];exact⟨0,[],by omega,by omega,rfl,rfl,rfl⟩;rintro k s ⟨j,r,rfl,hj,hrl,hrr,rfl⟩;simp-dsimp only[go_sem];refine ck (fun h''=> ?_) (fun h''=> ?_);have hlt2:j<n:=(by have:=q_b h'';omega);have f3:=J0n j (by omega);have f4:=V0u (fun j=>G i j) hlt2 r;simp-dsimp only[go_sem,hc,h1,h2];refine(h i j hlt hlt2).mono ?_;rintro rr st ⟨rfl,rfl⟩;simp-dsimp only[go_sem];refine ck (fun h5=> ?_) (fun h5=> ?_);have hne:=G0x h5;simp-dsimp only[go_sem];have q1:tabF (fun j=>G i j) 0 n []=([],(G i j).2):=(by rw[hrr,f4,if_pos hne]);rw[hr,e4,if_pos (by rw[q1];exact hne),q1];rfl;have he:=H0t h5;simp-dsimp only[go_sem,f3,hlim];refine⟨⟨by omega,by omega⟩,n-(j+1),by omega,j+1,r++ [(G i j).1],rfl,by omega,by simp[hrl],?_,?_⟩;rw[hrr,f4,if_neg (fun hh=>hh he)];simp[Q0v,encI];have hge:j=n:=(by have:=q_c h'';omega);have q1:tabF (fun j=>G i j) 0 n []=(r,0):=(by rw[hrr,hge];exact Y0i _ n r);simp-dsimp only[go_sem];refine Q0a ?_;simp-dsimp only[go_sem];refine⟨⟨by omega,by omega⟩,Q0a ?_⟩;simp-dsimp only[go_sem,e3,hlim];refine⟨n-(i+1),by omega,i+1,o++ [r],rfl,by omega,by simp[ho],?_,?_⟩;rw[hr,e4,q1,if_neg (by simp)];simp;have hge:i=n:=(by have:=q_c h';omega);simp-dsimp only[go_sem];refine Q0a ?_;simp-dsimp only[go_sem];rw[hr,hge,Y0i]
theorem H2y (i j:Nat)(a b:Mx)(p:Int)(st:Q0f)(ha:wM a)(hb:wM b)(ai:i<a.length)(aj:j<(a.getD i []).length)(bi:i<b.length)(bj:j<(b.getD i []).length):
 PCalls Tryz.prog 197 ([.sc (.int .i64 i),.sc (.int .i64 j)]++ [.ep [.sl .no (encM a)] 0,.ep [.sl .no (encM b)] 0,.ep [.sc (.int .i64 p)] 0]) st (fun r st'=>r= .tup [.agg (encI (opI 0 (atM a i j) (atM b i j) p).1),.sc (.int .i64 (opI 0 (atM a i j) (atM b i j) p).2)]/\st'=st):=by
 have e1:=Y0l a i ai;have e2:=Y0l b i bi;have e3:=X0r (a.getD i []) j aj;have e4:=X0r (b.getD i []) j bj;refine Q0b none Tryz.func197 rfl fun E=>Q0a ?_;simp-dsimp only[go_sem];refine Q0o Z0m 27 (.step 0 [] (.step 1 [] (.step 2 [] (.step 3 [] (.step 4 [] (.step 5 [] (.step 6 [] (.step 7 [] (.step 8 [] (.step 9 [] (.step 10 [] (.step 11 [] (.step 12 [] (.step 13 [] (.step 14 [] (.step 15 [0,7] (.step 16 [] (.step 17 [] (.step 18 [] (.step 19 [] (.done))))))))))))))))))))) (by decide+kernel) (by simp) ?_;simp-dsimp only[go_sem,e1,e2,e3,e4];refine⟨by omega,by omega,by omega,by omega,?_⟩;refine(G1q _ _ p _ ((ha.2 i ai).2 j aj) ((hb.2 i bi).2 j bj)).mono ?_;rintro r st ⟨rfl,rfl⟩;simp-dsimp only[go_sem]
 try rfl
theorem Q3d (a b:Mx)(p:Int)(st:Q0f)(ha:wM a)(hb:wM b):PCalls Tryz.prog 130 [.sl .no (encM a),.sl .no (encM b),.sc (.int .i64 p)] st (fun r st'=>r= .tup [.sl .no (encM (opM 0 a b p).1),.sc (.int .i64 (opM 0 a b p).2)]/\st'=st):=by
 refine Q0b none Tryz.func130 rfl fun E=>Q0h (Q0a ?_);simp-dsimp only[go_sem];refine Z0w 0 ?_ ?_;simp-dsimp only[go_sem];simp-dsimp only[go_sem];refine Z0w 1 ?_ ?_;simp-dsimp only[go_sem];simp-dsimp only[go_sem];refine Z0w 2 ?_ ?_;simp-dsimp only[go_sem];refine Q0a ?_;simp-dsimp only[go_sem];refine(Y1f a b p _ ha hb).mono ?_;rintro r st ⟨rfl,rfl⟩;cases hv:W1j a b p with
 | false=>
  simp-dsimp only[go_sem];rw[opM,if_neg (fun hh=>by rw[validM_iff.2 hh] at hv;cases hv)];rfl
 | true=>
  obtain⟨v1,v2,v3,v4⟩:=validM_iff.1 hv;have hl:=U0q v1;simp-dsimp only[go_sem];refine(k0v _ [.ep [.sl .no (encM a)] 0,.ep [.sl .no (encM b)] 0,.ep [.sc (.int .i64 p)] 0] (fun i j=>opI 0 (atM a i j) (atM b i j) p) a.length st rfl (by omega) rfl rfl rfl rfl (fun _=>rfl) fun i j hi hj=>
   H2y i j a b p st ha hb hi (by rw[(q0b v1 hi).1];exact hj) (by omega) (by rw[(q0b v2 (by omega)).1];omega)).mono ?_
  rintro r st ⟨rfl,rfl⟩;simp-dsimp only[go_sem];rw[opM,if_pos ⟨v1,v2,v3,v4⟩]
theorem w1g (i j:Nat)(x:Ivl)(a:Mx)(p:Int)(st:Q0f)(hx:wI x)(ha:wM a)(ai:i<a.length)(aj:j<(a.getD i []).length):
 PCalls Tryz.prog 196 ([.sc (.int .i64 i),.sc (.int .i64 j)]++ [.ep (encI x) 0,.ep [.sl .no (encM a)] 0,.ep [.sc (.int .i64 p)] 0]) st (fun r st'=>r= .tup [.agg (encI (opI 2 x (atM a i j) p).1),.sc (.int .i64 (opI 2 x (atM a i j) p).2)]/\st'=st):=by
 have e1:=Y0l a i ai;have e3:=X0r (a.getD i []) j aj;refine Q0b none Tryz.func196 rfl fun E=>Q0a ?_;simp-dsimp only[go_sem];refine Q0o Z0m 21 (.step 0 [] (.step 1 [] (.step 2 [] (.step 3 [] (.step 4 [] (.step 5 [] (.step 6 [] (.step 7 [] (.step 8 [] (.step 9 [1] (.step 10 [] (.step 11 [] (.step 12 [] (.step 13 [] (.done))))))))))))))) (by decide+kernel) (by simp) ?_;simp-dsimp only[go_sem,e1,e3];refine⟨by omega,by omega,?_⟩;refine(w1m _ _ p _ hx ((ha.2 i ai).2 j aj)).mono ?_;rintro r st ⟨rfl,rfl⟩;simp-dsimp only[go_sem]
 try rfl
theorem V2d (x:Ivl)(a:Mx)(p:Int)(st:Q0f)(hx:wI x)(ha:wM a):PCalls Tryz.prog 129 [.agg (encI x),.sl .no (encM a),.sc (.int .i64 p)] st (fun r st'=>r= .tup [.sl .no (encM (H0a x a p).1),.sc (.int .i64 (H0a x a p).2)]/\st'=st):=by
 refine Q0b none Tryz.func129 rfl fun E=>Q0h (Q0a ?_);simp-dsimp only[go_sem];refine Z0w 0 ?_ ?_;simp-dsimp only[go_sem];simp-dsimp only[go_sem];refine Z0w 1 ?_ ?_;simp-dsimp only[go_sem];simp-dsimp only[go_sem];refine Z0w 2 ?_ ?_;simp-dsimp only[go_sem];refine Q0a ?_;simp-dsimp only[go_sem];refine(Y0v x _ hx).mono ?_;rintro r st ⟨rfl,rfl⟩;cases r1:Q0p x with
 | false=>
  simp-dsimp only[go_sem];rw[H0a,if_neg (by simp[r1])];rfl
 | true=>
  simp-dsimp only[go_sem];refine(Y1f a a p _ ha ha).mono ?_;rintro r st ⟨rfl,rfl⟩;cases hv:W1j a a p with
  | false=>
   simp-dsimp only[go_sem];rw[H0a,if_neg (fun hh=>by rw[validM_iff.2 ⟨hh.1,hh.1,rfl,hh.2.2⟩] at hv;cases hv)];rfl
  | true=>
   obtain⟨v1,v2,v3,v4⟩:=validM_iff.1 hv;have hl:=U0q v1;simp-dsimp only[go_sem];refine(k0v _ [.ep (encI x) 0,.ep [.sl .no (encM a)] 0,.ep [.sc (.int .i64 p)] 0] (fun i j=>opI 2 x (atM a i j) p) a.length st rfl (by omega) rfl rfl rfl rfl (fun _=>rfl) fun i j hi hj=>
    w1g i j x a p st hx ha hi (by rw[(q0b v1 hi).1];exact hj)).mono ?_
   rintro r st ⟨rfl,rfl⟩;simp-dsimp only[go_sem];rw[H0a,if_pos ⟨v1,r1,v4⟩]
end Go.Pv
end
