/- Parts of the walk: N17, N18, N19, N20, N21, N22, N24, N25, N23, N26. -/
import Derived.Test.YthlnpmkcmbohaaaGreatDoorZAE
import Derived.Test.YthlnpmkcmbohaaaGreatDoorZAA
set_option linter.unusedVariables false
set_option linter.unusedSimpArgs false
section
set_option maxRecDepth 100000
namespace Go.Pv
open Go.Proofs
theorem YB {v:Vl}{n k:Nat}(h:bdV n k v)(h1:n<=1000000000000)(h2:k<=100000000000):smV v:=⟨by have:=h.1;omega,by have:=h.2.1;omega,by have:=h.2.2;omega⟩
theorem zG {x:Nm}(h:Qg x=true):x.w.length<=1000000000000:=by have:=(Zc h).1;omega
theorem Q1h (a:Ivl)(x:Nm)(st:Qf)(ha:wI a)(hx:wN x):PR 60 [.agg (ZQ a),.agg (Q9 x)] st (.sc (.bool (qm a x))):=by
 refine Qb none Tryz.func60 rfl fun E=>Qa ?_;unfold qm;refine G2s ?_;refine(H4 a _ ha).q ?_;cases r1:Qs a with
 | false=>simp-dsimp only[go_sem];try rfl
 | true=>
  refine G2s ?_;refine(XG x _ (by unfold wN at hx;omega)).q ?_;cases r2:Qg x with
  | false=>simp-dsimp only[go_sem];try rfl
  | true=>
   have a1:=(Q1 r1).1;have a2:=(Q1 r1).2.1;have e1:Uw a.lo x=VP a.lo x:=BC ⟨a1,r2⟩;have e2:Uw x a.hi=VP x a.hi:=BC ⟨r2,a2⟩;refine G2s ?_;refine(Ik a.lo x _ (zG a1) (zG r2)).q ?_;rw[e1];cases c1:decide (VP a.lo x<=0) with
   | false=>simp-dsimp only[go_sem,c1];try rfl
   | true=>
    simp-dsimp only[go_sem,c1];refine(Ik x a.hi _ (zG r2) (zG a2)).q ?_;rw[e2];simp-dsimp only[go_sem,c1]
    try rfl
theorem Y0f (a b:List Nm)(st:Qf)(ha:wNs a)(hb:wNs b):PR 30 [.sl .no (Qy a),.sl .no (Qy b)] st (.sc (.bool (decide (a=b)))):=by have hal:=ha.1;refine U2m Tryz.func30 fun E=> ?_;refine ck (fun h0=> ?_) (fun h0=> ?_);have hne:=YG h0;refine G2s ?_;rw[q_g (fun e=>hne (by rw[e]))];have hl:=Vq h0;refine G2s ?_;refine Qd [true,true,false,false,false,true] 0 0 (fun n s=> ∃i,n=a.length-i/\i<=a.length/\(∀j,j<i->a.getD j default=b.getD j default)/\s=⟨[.sl .no (Qy a),.sl .no (Qy b),.junk,.junk,.junk,.sc (.int .i64 (i:Nat))]++jk 21,[],[],st⟩) a.length ?_ ?_;refine G2s ?_;exact⟨0,oG,oG,fun j hj=>oG,rfl⟩;rintro n s ⟨i,rfl,hi,hr,rfl⟩;refine U2n (fun h'=> ?_) (fun h'=> ?_);have hlt:i<a.length:=(by have:=q_b h';omega);have e1:=QG a i hlt;have e2:=QG b i oG;have e3:IntKind.i64.wrap ((i:Int)+1)=((i+1:Nat):Int):=(by rw[Qw _ oG oG];omega);have w1:=ha.2 i hlt;have w2:=hb.2 i oG;unfold wN at w1 w2;refine G2s ?_;refine Qm QH 27 (X0p [0,1,2,3,4,5,6,7,8,9] .done) (by decide+kernel) (by simp) ?_;simp-dsimp only[go_sem,e1,e2];refine⟨⟨oG,oG⟩,⟨oG,oG⟩,?_⟩;refine(Wt _ _ _ oG oG).Q ?_;refine ck (fun h2=> ?_) (fun h2=> ?_);have hf: ¬a.getD i default=b.getD i default:=(by simpa using h2);refine G2s ?_;rw[q_g (fun e=>hf (by rw[e]))];have ht:a.getD i default=b.getD i default:=(by simpa using h2);simp-dsimp only[go_sem,e3];refine⟨a.length-(i+1),oG,i+1,rfl,oG,fun j hj=> ?_,rfl⟩;by_cases e:j=i;subst e;exact ht;exact hr j oG;have hge:i=a.length:=(by have:=q_c h';omega);refine G2s ?_;refine U2i ?_;rw[q_h (Vy default hl fun j hj=>hr j oG)]
theorem wE {α β:Type}(F:Nat->α->β×Int)(P:β->Prop)(hp: ∀i x,x∈([]:List α)\/P (F i x).1): ∀(l:List α) (i:Nat) (acc:List β),(∀y,y∈acc->P y)->(∀y,y∈(Jr F i l acc).1->P y)/\(Jr F i l acc).1.length<=acc.length+l.length
 | [],i,acc,h=>⟨h,by simp[Jr]⟩
 | x::l,i,acc,h=>by unfold Jr;split;exact⟨fun y hy=>by simp at hy,by simp⟩;obtain⟨h1,h2⟩:=wE F P hp l (i+1) (acc++ [(F i x).1]) (fun y hy=>by rcases DN.1 hy with h3 | h3;exact h y h3;rw[C0.1 h3];rcases hp i x with h4 | h4;simp at h4;exact h4);exact⟨h1,by simp at h2⊢;omega⟩
theorem j0w (F:Nat->Ivl->Nm×Int)(hF: ∀i x,wN (F i x).1)(l:List Ivl)(hl:l.length<=100000000000):wNs (Jr F 0 l []).1:=by obtain⟨h1,h2⟩:=wE F wN (fun i x=> .inr (hF i x)) l 0 [] (fun y hy=>by simp at hy);exact⟨by simp at h2;omega,fun i hi=>h1 _ (Qq _ i default hi)⟩
theorem U1u :wNs []:=⟨by simp,fun i hi=>by simp at hi⟩
theorem U0x (b:List Ivl)(p:Int)(hb:wB b):wNs (Xc b p).1:=by unfold Xc;split;exact j0w _ (fun i x=>Y1 (Q6 (Jm _ _))) b hb.1;exact U1u
def k1 :Nm:=⟨false,0,[1]⟩
def k2 :Nm:=⟨false,1,[1]⟩
def k4 :Nm:=⟨false,2,[1]⟩
theorem zh {P:Program}{ops l m:List Oper}{x:Oper}{K:PFS->Prop}{s:PFS} :OL P ops (List.append (x::l) m) K s=OL P ops (x::List.append l m) K s:=rfl
theorem U0 {P:Program}{ops m:List Oper}{K:PFS->Prop}{s:PFS} :OL P ops (List.append [] m) K s=OL P ops m K s:=rfl
theorem Zw (i:Nat)(h:i<100000000000000):IntKind.i64.wrap ((i:Int)+1)=((i+1:Nat):Int):=by rw[Qw _ oG oG];omega
theorem q0g (l:List UInt64)(i k:Nat)(st:Qf)(h:atD st k l i)(hi:i<=1000000000):PCalls Tryz.prog 12 [.gp k 0] st
 (fun r st'=> ∃(p j:Nat),8<=p/\p<=256/\i<=j/\j<=i+2/\r= .sc (.int .i64 p)/\st'=st.set k (dk l j)):=by
 refine U2m Tryz.func12 fun E=> ?_;refine(qL l i k 6 st h oG oG oG).w ?_;rintro st' rfl;refine U2n (fun h1=> ?_) (fun h1=> ?_);refine G2s ?_;exact⟨8,i+1,oG,oG,oG,oG,rfl,rfl⟩;refine U2n (fun h2=> ?_) (fun h2=> ?_);refine G2s ?_;exact⟨256,i+1,oG,oG,oG,oG,rfl,rfl⟩;refine G2s ?_;refine(qL l (i+1) k 60 _ (h.set (i+1)) oG oG oG).w ?_;rintro st' rfl;have n1:=Z1k l (i+1) (n:=60) oG;have x1:IntKind.i64.wrap (12+(nx l (i+1) 60:Int))=((12+nx l (i+1) 60:Nat):Int):=(by rw[show(12+(nx l (i+1) 60:Int))=((12+nx l (i+1) 60:Nat):Int) from oG,Qn _ oG]);simp-dsimp only[go_sem,Vi,x1];exact⟨12+nx l (i+1) 60,i+2,oG,oG,oG,oG,rfl,rfl⟩
set_option maxHeartbeats 4000000 in
theorem V1a (l:List UInt64)(i k:Nat)(a:Ivl)(st:Qf)(h:atD st k l i)(hi:i<=1000000000)(ha:Qs a=true):PCalls Tryz.prog 61 [.gp k 0,.agg (ZQ a)] st
 (fun r st'=>r= .agg (Q9 (inN a (nx l i 9)))/\st'=st.set k (dk l (i+1))):=by
 have hlt:=Z1k l i (n:=9) oG;obtain⟨a1,a2,_⟩:=Q1 ha;have d1:=Uz a1;have d2:=Uz a2;refine U2m Tryz.func61 fun E=> ?_;refine(qL l i k 9 st h oG oG oG).w ?_;rintro st' rfl;generalize nx l i 9=n at*
 unfold inN;have x0:IntKind.i64.wrap (n:Int)=(n:Int):=Qn _ oG;simp-dsimp only[go_sem,x0];refine ck (fun h1=> ?_) (fun h1=> ?_);have h0:n=0:=JU (b:=0) h1;rw[BC h0];exact G2r
 . have h0:n≠0:=Vr (b:=0) h1;rw[BA h0];refine U2n (fun h2=> ?_) (fun h2=> ?_);have h8:n=8:=JU (b:=8) h2;rw[BC h8];exact G2r
   . have h8:n≠8:=Vr (b:=8) h2;rw[BA h8];have x1:IntKind.i64.wrap (8-(n:Int))=((8-n:Nat):Int):=(by rw[show 8-(n:Int)=((8-n:Nat):Int) from oG,Qn _ oG]);have w1:=WT (k:=8-n) oG;have w2:=WT (k:=n) oG;have b1:=x9 d1 w1;have b2:=x9 d2 w2;have b3:=K0s b1 b2;have b4:=xz b3;have hin:inV a n=K7 (Jc (byV (ofN a.lo) (XH false (8-n) 0)) (byV (ofN a.hi) (XH false n 0))):=rfl;rw[hin];refine G2s ?_;refine Qm QH 50 (X0p [0,1,3,4,7,8,10] (.alt (.step 2 [8] (.alt (.step 5 [8] (.alt (.step 6 [8] (.alt (.step 9 [] (.alt (.step 11 [1] (.alt (.step 12 [1] (.alt (.step 13 [] (.step 14 [1,8] (.step 15 [] (.done)))) (.step 14 [1,8] (.step 13 [] (.step 15 [] (.done)))))) (.step 14 [1,8] (.step 12 [1] (.step 13 [] (.step 15 [] (.done))))))) (.step 14 [1,8] (.step 11 [1] (.step 12 [1] (.step 13 [] (.step 15 [] (.done)))))))) (.step 14 [1,8] (.step 9 [] (.step 11 [1] (.step 12 [1] (.step 13 [] (.step 15 [] (.done))))))))) (.step 14 [1,8] (.step 6 [8] (.step 9 [] (.step 11 [1] (.step 12 [1] (.step 13 [] (.step 15 [] (.done)))))))))) (.step 14 [1,8] (.step 5 [8] (.step 6 [8] (.step 9 [] (.step 11 [1] (.step 12 [1] (.step 13 [] (.step 15 [] (.done))))))))))) (.step 14 [1,8] (.step 2 [8] (.step 5 [8] (.step 6 [8] (.step 9 [] (.step 11 [1] (.step 12 [1] (.step 13 [] (.step 15 [] (.done)))))))))))) (by decide+kernel) (by simp) ?_;simp-dsimp only[go_sem,x1]
     all_goals try refine And.intro ?_ ?_
     all_goals
      refine(yn a.lo _ (zG a1)).w ?_;rintro st' rfl;simp-dsimp only[go_sem,x1]
     all_goals try refine And.intro ?_ ?_
     all_goals
      refine(xH (8-n) _ oG).w ?_;rintro st' rfl;simp-dsimp only[go_sem,x1]
     all_goals try refine And.intro ?_ ?_
     all_goals
      refine(w0r _ _ _ (YB d1 oG oG) (YB w1 oG oG)).w ?_;rintro st' rfl;simp-dsimp only[go_sem,x1]
     all_goals try refine And.intro ?_ ?_
     all_goals
      refine(yn a.hi _ (zG a2)).w ?_;rintro st' rfl;simp-dsimp only[go_sem,x1]
     all_goals try refine And.intro ?_ ?_
     all_goals
      refine(xH n _ oG).w ?_;rintro st' rfl;simp-dsimp only[go_sem,x1]
     all_goals try refine And.intro ?_ ?_
     all_goals
      refine(w0r _ _ _ (YB d2 oG oG) (YB w2 oG oG)).w ?_;rintro st' rfl;simp-dsimp only[go_sem,x1]
     all_goals try refine And.intro ?_ ?_
     all_goals
      refine(IK _ _ _ (YB b1 oG oG) (YB b2 oG oG)).w ?_;rintro st' rfl
     all_goals
      generalize Jc (byV (ofN a.lo) (XH false (8-n) 0)) (byV (ofN a.hi) (XH false n 0))=v at*
      have x2:IntKind.i64.wrap (v.e-3)=v.e-3:=Qw _ (by have:=b3.2.1;omega) (by have:=b3.2.2;omega);refine G2s ?_;refine(xZ v _).w ?_;rintro st' rfl;refine U2n (fun h3=> ?_) (fun h3=> ?_)
      case' refine_1=>
       have hz:=VT h3;have he:K7 v= { v with e:=v.e-3 } :=BC hz;rw[he] at b4⊢;generalize hzz:({ v with e:=v.e-3 } :Vl)=z at*
       have z1:v.neg=z.neg:=(by rw[<-hzz]);have z2:v.m=z.m:=(by rw[<-hzz]);have z3:v.e-3=z.e:=(by rw[<-hzz]);simp-dsimp only[go_sem,x2];rw[z1,z2,z3]
      case' refine_2=>
       have hz:=Wh h3;have he:K7 v=v:=BA (fun e=>e hz);rw[he] at b4⊢;generalize v=z at*
       simp-dsimp only[go_sem]
      all_goals
       refine(W1i z _ (U0b b4 oG)).w ?_;rintro st' rfl;refine U2n (fun h4=> ?_) (fun h4=> ?_);have hne:=VT h4;rw[BC hne];exact G2r;have hne:=Wh h4;rw[BA (fun e=>e hne)];exact G2r
theorem Gl (l:List UInt64)(i k:Nat)(b:List Ivl)(st:Qf)(h:atD st k l i)(hi:i<=100000000)(hl:b.length<=1000000)(hb: ∀j,j<b.length->Qs (b.getD j default)=true):PCalls Tryz.prog 15 [.gp k 0,.sl .no (QE b)] st
 (fun r st'=> ∃q,q.length=b.length/\(∀j,j<b.length-> ∃n,n<=8/\q.getD j default=inN (b.getD j default) n)/\r= .sl .no (Qy q)/\st'=st.set k (dk l (i+b.length))):=by
 refine U2m Tryz.func15 fun E=> ?_;refine QQ 5 3 ?_;refine G2s ?_;refine Qd [true,true,false,false,false,true,true] 0 1 (fun m s=> ∃q,m=b.length-q.length/\q.length<=b.length/\(∀j,j<q.length-> ∃n,n<=8/\q.getD j default=inN (b.getD j default) n)/\
  s=⟨[.gp k 0,.sl .no (QE b),.junk,.junk,.junk,.sl (.own 0) (Qy q),.sc (.int .i64 (q.length:Nat))]++jk 16,[],[(q.length,3)],st.set k (dk l (i+q.length))⟩) b.length ?_ ?_
 refine G2s ?_;refine⟨[],by simp,by simp,(fun j hj=>by simp at hj),?_⟩;show _=PFS.mk _ _ _ (st.set k (dk l i));rw[h.same];rfl;rintro m s ⟨q,rfl,hq,hr,rfl⟩;refine U2n (fun h1=> ?_) (fun h1=> ?_);have hlt:q.length<b.length:=(oT h1);have e1:=Zl b q.length hlt;have x1:IntKind.i64.wrap ((q.length:Int)+1)=((q.length+1:Nat):Int):=(by rw[show((q.length:Int)+1)=((q.length+1:Nat):Int) from rfl,Qn _ oG]);have n1:=Z1k l (i+q.length) (n:=9) oG;simp-dsimp only[go_sem,e1];refine⟨⟨oG,hlt⟩,?_⟩;refine(V1a l (i+q.length) k _ _ (h.set (i+q.length)) oG (hb _ hlt)).w ?_;rintro st' rfl;simp-dsimp only[go_sem,Vi,x1];refine⟨oG,b.length-(q.length+1),oG,q++ [inN (b.getD q.length default) (nx l (i+q.length) 9)],by simp,by simp;omega,fun j hj=> ?_,by simp[Qy,Q9,DK]⟩;by_cases hj2:j<q.length;rw[kz _ _ _ _ hj2];exact hr j hj2;have e:j=q.length:=(by simp at hj;omega);rw[e,H2];exact⟨_,oG,rfl⟩;have hge:q.length=b.length:=(oF h1);refine G2s ?_;refine XR [false,false,false,false,false,true] (Qa ?_);refine G2s ?_;exact⟨q,hge,fun j hj=>hr j oG,rfl,by rw[hge]⟩
end Go.Pv
end
