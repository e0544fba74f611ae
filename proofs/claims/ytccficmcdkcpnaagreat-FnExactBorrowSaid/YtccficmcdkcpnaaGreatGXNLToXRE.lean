import Derived.Test.YtccficmcdkcpnaaGreatGPlainAToXNJ
set_option linter.all false
namespace RC
open Go
theorem Kg {α β:Type}{l:List α}(L:Nat->Int->List β->Option (List β))(g:α->β)(h0 :∀n acc,L (n+1) ((l.length:Nat):Int) acc=some acc)
  (hs :∀n i x acc,l[i]?=some x->acc.length=i->L (n+1) ((i:Nat):Int) acc=L n ((i+1:Nat):Int) (acc++[g x])) {N:Nat} (hN:l.length<N):L N 0 []=some (l.map g):=by
 have key:∀{N i:Nat},i<=l.length->l.length-i<N->L N (i:Int) ((l.take i).map g)=some (l.map g):=by
  intro N i hi hN;refine A4 l.length (λN i=>L N (i:Int) ((l.take i).map g)=some (l.map g)) ?_ ?_ hi hN
  ·intro n;rw[h0,nT]
  ·intro n i hi ih;obtain⟨x,hx,_⟩:=Ax hi;rw[hs n i x _ hx (by simp;omega),<- ih,CO hx,oF];rfl
 have:=key (mi _) (by omega:l.length-0<N);simpa using this
theorem Wo {α:Type}{l:List α}(L:Nat->Int->List α->Option (List α))(g:α->α)(h0 :∀n acc,L (n+1) ((l.length:Nat):Int) acc=some acc)
  (hs :∀n (A:List α) (x:α) (C:List α),A.length+C.length<l.length->l[A.length]?=some x->L (n+1) ((A.length:Nat):Int) (A++x::C)=L n ((A.length+1:Nat):Int) (A++g x::C)) {N:Nat} (hN:l.length<N):L N 0 l=some (l.map g):=by
 have key:∀(C A:List α) (n:Nat),C.length<n->A.length<=l.length->C=l.drop A.length->L n ((A.length:Nat):Int) (A++C)=some (A++C.map g):=by
  intro C
  induction C with
  | nil=>
   intro A n hn h1 h2;obtain⟨n,rfl⟩ :∃m,n=m+1:=⟨n-1,by simp at hn;omega⟩
   have h3:=nO List.length h2;simp at h3;rw[show A.length=l.length by omega,h0];simp
  | cons x C ih=>
   intro A n hn h1 h2;have h3:=nO List.length h2;simp only[nE,pz]at hn h3;obtain⟨n,rfl⟩ :∃m,n=m+1:=⟨n-1,by omega⟩
   have hx:l[A.length]?=some x:=by
    have:=nO (λz=>z[0]?) h2;simpa using this.symm
   rw[hs n A x C (by omega) hx];have:=ih (A++[g x]) n (by omega) (by simp;omega) (by
    rw[drop_cons hx]at h2;simpa using (List.cons.inj h2).2)
   simpa using this
 have:=key l [] N hN (by simp) (by simp);simpa using this
theorem fM {l:List Int}(hl:l.length<=1048576):Dc l=some l:=by
 unfold Dc;rw[DD [] l 8 (by simp;omega) (by simp;omega)];rfl
theorem gp {l:List Int}(hl:l.length<=1048576):Bf l=some l:=by
 unfold Bf;rw[DD [] l 8 (by simp;omega) (by simp;omega)];rfl
theorem WY {D:List AR}{i:Nat}{d:AR}(hd:D[i]?=some d)(hz:dz d<=1048576){N:Nat}(hN:2000000<=N):DU i D N 0 []=some d.cons:=by
 unfold dz at hz;rw[Kg (l:=d.cons) (DU i D) id (λn acc=>by rw[DU,An hd];simp only[mR];rw[CG]) (λn j c acc hc ha=>?_) (by omega)]
 ·simp
 ·have hj:=(mT.1 hc).1;have hcz:=Ga cz (mS hc);rw[DU,An hd,mR,Cf,An hc,mR,fM (show cz c<=1048576 by omega),mR,DD acc _ 24 (by simp;omega) (by simp;omega),mR];rw[wN];rfl
theorem WT {D:List AR}(hl:D.length<=1048576)(hz :∀d∈D,dz d<=1048576){N:Nat}(hN:2000000<=N):Hg N D=some D:=by
 unfold Hg;rw[Kg (l:=D) (EF N D) id (λn acc=>by rw[EF,CG]) (λn j c acc hc ha=>?_) (by omega)]
 ·simp
 ·have hj:=(mT.1 hc).1;rw[EF,Cf,WY hc (hz c (mS hc)) hN,An hc];simp only[mR];rw[DD acc _ 40 (by simp;omega) (by simp;omega)];simp only[mR];rw[wN];rfl
theorem U7 {D:List AR}(hl:D.length<=1048576)(hz :∀d∈D,dz d<=1048576){N:Nat}(hN:2000000<=N):HK N D=some D:=by
 unfold HK Cd;rw[DD [] D 40 (by simp;omega) (by simp;omega)];simp only[mR,ny];rw[Wo (l:=D) (Dk N (Sh.len D)) id (λn acc=>by rw[Dk,CG]) (λn A d C hA hd=>?_) (by omega)]
 ·simp
 ·have h1:=hz d (mS hd);unfold dz at h1;rw[Dk,Cf,Ek,mR];unfold CA;rw[DD [] d.cons 24 (by simp;omega) (by simp;omega)];simp only[mR,ny];rw[Wo (l:=d.cons) (Dh d.cons) id (λn acc=>by rw[Dh,CG]) (λn B c E hB hc=>?_) (by omega)]
  ·simp only[mR,GX,nt];rw[wN];rfl
  ·have hcz:=Ga cz (mS hc);have hl:=(mT.1 hc).1;rw[Dh,Cf,An hc,mR,gp (show cz c<=1048576 by omega),Ek,mR];rw[GX,wN];rfl
theorem R3 {N:Nat}(hN:2000000<=N){rec:Block->Option Block}{s:Step}(hs:MX s<=1048576)(rv :∀b∈s.kids,rec b=some b):IJ N rec s=some s:=by
 rw[Kp]at hs;unfold IJ;rw[Kg (l:=s.kids) (Ec s rec) id (λn acc=>by rw[Ec,CG]) (λn j c acc hc ha=>?_) (by omega)]
 ·simp only[mR];rw[fM (by omega),nt];exact nO some (Mb s).symm
 ·have hj:=(mT.1 hc).1;rw[Ec,Cf,An hc,mR,rv c (mS hc),mR,DD acc _ 32 (by simp;omega) (by simp;omega),mR];rw[wN];rfl
theorem PK {N:Nat}(hN:2000000<=N):∀(n:Nat) (b:Block),Bs b->IB b<n->FJ N n b=some b:=by
 intro n
 induction n with
 | zero=>intro b _ h;omega
 | succ n ih=>
  intro b hb hn;have hl:=hb.len;rw[FJ];unfold Hz;rw[Kg (l:=b.steps) (DO N b (FJ N n)) id (λn acc=>by rw[DO,CG]) (λq j s acc hs ha=>?_) (by omega)]
  ·simp
  ·have hj:=(mT.1 hs).1;have hm:=mS hs;have h1:=Hr hm;rw[DO,Cf,An hs,mR,R3 hN (by unfold Bs at hb;omega) (λc hc=>ih c (Iv hb hm hc).1 (by have:=(Iv hb hm hc).2;omega)),mR,DD acc _ 72 (by simp;omega) (by simp;omega),mR];rw[wN];rfl
theorem RT {b:Block}(hb:Bs b){N:Nat}(hN:2000000<=N):JF N b=some b:=by
 unfold JF;exact PK hN N b hb (by unfold Bs at hb;omega)
theorem S9 {N:Nat}(hN:2000000<=N){rec:Block->Option Block}{s:Step}(hs:MX s<=1048576)(rv :∀b∈s.kids,rec b=some b):Ge N rec s=some s:=by
 rw[Kp]at hs;unfold Ge;rw[Kg (l:=s.kids) (C2 s rec) id (λn acc=>by rw[C2,CG]) (λn j c acc hc ha=>?_) (by omega)]
 ·simp only[mR];unfold G3;rw[gp (by omega),nt];exact nO some (Mb s).symm
 ·have hj:=(mT.1 hc).1;rw[C2,Cf,An hc,mR,rv c (mS hc),mR,DD acc _ 32 (by simp;omega) (by simp;omega),mR];rw[wN];rfl
theorem Oq {N:Nat}(hN:2000000<=N):∀(n:Nat) (b:Block),Bs b->Ku b=true->IB b<n->D7 N n b=some b:=by
 intro n
 induction n with
 | zero=>intro b _ _ h;omega
 | succ n ih=>
  intro b hb hp hn;have hl:=hb.len;rw[SP,O2,ma]at hp;rw[D7];unfold HX;rw[Kg (l:=b.steps) (CR N b (D7 N n)) id (λn acc=>by rw[CR,CG]) (λq j s acc hs ha=>?_) (by omega)]
  ·simp
  ·have hj:=(mT.1 hs).1;have hm:=mS hs;have h1:=Hr hm;have h2:=hp s hm;rw[Sl,bN,Sk]at h2;simp only[mh,ob,mv,ma]at h2;rw[CR,Cf,An hs,mR,Ja,h2.1.1];simp only[mR,pV,nL];rw[S9 hN (by unfold Bs at hb;omega) (λc hc=>ih c (Iv hb hm hc).1 (h2.2 c hc) (by have:=(Iv hb hm hc).2;omega)),mR,DD acc _ 72 (by simp;omega) (by simp;omega),mR,wN,<- h2.1.2];exact nO (λz=>CR N b (D7 N n) q ((j+1:Nat):Int) (acc++[z])) (Mb s).symm
theorem Qd {b:Block}(hb:Bs b)(hp:Ku b=true){N:Nat}(hN:2000000<=N):Ig N b=some b:=by
 unfold Ig;exact Oq hN N b hb hp (by unfold Bs at hb;omega)
end RC
namespace RC
open Go
theorem ZU {α:Type}(L:Nat->Int->Int->List α->Option (Int×List α))(H:List α->Nat->Int->Int->Option (Int ⊕ Int))(wt:α->Nat)(ok:α->Prop)
  (h0 :∀n k l,L (n+1) k ((l.length:Nat):Int) l=some (k,l)) (g0 :∀l n k,H l (n+1) k ((l.length:Nat):Int)=some (.inr k))
  (hs :∀n (k:Nat) (A:List α) (x:α) (C:List α),A.length+C.length<=1048576->ok x->k+wt x<=20000000->∃(k':Nat) (y:α),k'<=k+wt x/\L (n+1) k ((A.length:Nat):Int) (A++x::C)=L n k' ((A.length+1:Nat):Int) (A++y::C)/\∀m E,H (A++y::E) (m+1) k ((A.length:Nat):Int)=H (A++y::E) m k' ((A.length+1:Nat):Int)) :
  ∀(C A:List α) (k n:Nat),C.length<n->A.length+C.length<=1048576->(∀x∈C,ok x)->k+(C.map wt).sum<=20000000->∃(k':Nat) (C':List α),k'<=k+(C.map wt).sum/\L n k ((A.length:Nat):Int) (A++C)=some ((k':Int),A++C')/\∀m,C.length<m->H (A++C') m k ((A.length:Nat):Int)=some (.inr (k':Int))
 | [],A,k,n,hn,_,_,_=>by
  obtain⟨n,rfl⟩ :∃m,n=m+1:=⟨n-1,by simp at hn;omega⟩
  refine⟨k,[],by simp,?_,λm hm=>?_⟩
  ·rw[oE,h0]
  ·obtain⟨m,rfl⟩ :∃q,m=q+1:=⟨m-1,by simp at hm;omega⟩
   rw[oE,g0]
 | x::C,A,k,n,hn,hl,rR,hk=>by
  simp only[nE,mz,oV]at hn hl hk⊢;obtain⟨n,rfl⟩ :∃m,n=m+1:=⟨n-1,by omega⟩
  obtain⟨k1,y,h1,h2,h5⟩:=hs n k A x C (by omega) (rR x (by simp)) (by omega);obtain⟨k2,C',h3,h4,h6⟩:=ZU L H wt ok h0 g0 hs C (A++[y]) k1 n (by omega) (by simp;omega) (λz hz=>rR z (by simp[hz])) (by omega);refine⟨k2,y::C',by omega,?_,λm hm=>?_⟩
  ·rw[h2];simpa using h4
  ·obtain⟨m,rfl⟩ :∃q,m=q+1:=⟨m-1,by omega⟩
   rw[h5];have:=h6 m (by omega);simpa using this
theorem Vq {α:Type}{L:Nat->Int->Int->List α->Option (Int×List α)}{H:List α->Nat->Int->Int->Option (Int ⊕ Int)}{wt:α->Nat}{ok:α->Prop}
  (h0 :∀n k l,L (n+1) k ((l.length:Nat):Int) l=some (k,l)) (g0 :∀l n k,H l (n+1) k ((l.length:Nat):Int)=some (.inr k))
  (hs :∀n (k:Nat) (A:List α) (x:α) (C:List α),A.length+C.length<=1048576->ok x->k+wt x<=20000000->∃(k':Nat) (y:α),k'<=k+wt x/\L (n+1) k ((A.length:Nat):Int) (A++x::C)=L n k' ((A.length+1:Nat):Int) (A++y::C)/\∀m E,H (A++y::E) (m+1) k ((A.length:Nat):Int)=H (A++y::E) m k' ((A.length+1:Nat):Int))
  {l:List α} {k N:Nat} (hN:2000000<=N) (hl:l.length<=1048576) (rR :∀x∈l,ok x) (hk:k+(l.map wt).sum<=20000000) :∃(k':Nat) (l':List α),k'<=k+(l.map wt).sum/\L N k 0 l=some ((k':Int),l')/\H l' N k 0=some (.inr (k':Int)):=by
 obtain⟨k',l',h1,h2,h3⟩:=ZU L H wt ok h0 g0 hs l [] k N (by omega) (by simp;omega) rR hk;exact⟨k',l',h1,h2,h3 N (by omega)⟩
theorem ie {l:List BN}{k N:Nat}(hN:2000000<=N)(hl:l.length<=1048576)(rR :∀c∈l,cz c<=1048576)(hk:k+(l.map cz).sum<=20000000):∃(k':Nat) (l':List BN),k'<=k+(l.map cz).sum/\IG N l k=some ((k':Int),l')/\IF N l' k=some (k':Int):=by
 obtain⟨k',l',h1,h2,h3⟩:=Vq (L:=EZ N) (H:=Ed N) (wt:=cz) (ok:=λc=>cz c<=1048576) (λn k l=>by rw[EZ,CG]) (λl n k=>by rw[Ed,CG]) (λn k A x C hA hx hk=>by
  refine⟨k+cz x,⟨MG k (cz x)⟩,ml _,?_,λm E=>?_⟩
  ·rw[EZ,me (by simp[Ae];omega),Ek,mR,Lr hx (by omega) hN];simp only[mR,GX];rw[Ef (by omega)];rfl
  ·rw[Ed,me (by simp[Ae];omega),Ek,mR,Lm hx (by omega) hN,mR];rw[mj (by simp<;>omega),Ef (by omega)]) hN hl rR hk
 refine⟨k',l',h1,?_,?_⟩
 ·unfold IG;rw[h2];rfl
 ·unfold IF;rw[h3];rfl
theorem fz {l:List AR}{k N:Nat}(hN:2000000<=N)(hl:l.length<=1048576)(rR :∀d∈l,dz d<=1048576)(hk:k+(l.map dT).sum<=20000000):∃(k':Nat) (l':List AR),k'<=k+(l.map dT).sum/\Hm N l k=some ((k':Int),l')/\Hk N l' k=some (k':Int):=by
 obtain⟨k',l',h1,h2,h3⟩:=Vq (L:=EA N) (H:=EE N) (wt:=dT) (ok:=λd=>dz d<=1048576) (λn k l=>by rw[EA,CG]) (λl n k=>by rw[EE,CG]) (λn k A x C hA hx hk=>by
  unfold dz at hx;unfold dT at hk⊢;obtain⟨k1,l1,g1,g2,g3⟩:=ie (l:=x.cons) (k:=k+1+1) hN (by omega) (λc hc=>by have:=Ga cz hc;omega) (by omega);refine⟨k1,⟨(k:Int),((k+1:Nat):Int),l1⟩,by omega,?_,λm E=>?_⟩
  ·rw[EA,me (by simp[Ae];omega),Ef (n:=k) (by omega),Ef (n:=k+1) (by omega),Ef (n:=A.length) (by omega)];simp only[Ek,GX,mR];rw[g2,mR]
  ·rw[EE,me (by simp[Ae];omega),Ek,mR,Ef (n:=k) (by omega),Ef (n:=k+1) (by omega),Ef (n:=A.length) (by omega),g3];simp only[nB,nb,mW,my,mR];rw[mj (by simp<;>omega)]) hN hl rR hk
 refine⟨k',l',h1,?_,?_⟩
 ·unfold Hm;rw[h2];rfl
 ·unfold Hk;rw[h3];rfl
def MH (rec:List Step->Int->Option (Int×List Step))(rech:List Step->Int->Option Int)(l:List Step):Prop:=∀k:Nat,k+Vw l<=20000000->∃(k':Nat) (l':List Step),k'<=k+Vw l/\rec l k=some ((k':Int),l')/\rech l' k=some (k':Int)
theorem dZ {rec:List Step->Int->Option (Int×List Step)}{rech:List Step->Int->Option Int}{l:List Block}{k N:Nat}(hN:2000000<=N)(hl:l.length<=1048576)(rR :∀b∈l,MH rec rech b.steps)(hk:k+WB l<=20000000):∃(k':Nat) (l':List Block),k'<=k+WB l/\HD N rec l k=some ((k':Int),l')/\G9 N rech l' k=some (k':Int):=by
 rw[cQ]at hk⊢;obtain⟨k',l',h1,h2,h3⟩:=Vq (L:=Dm rec) (H:=λl=>Dl l rech) (wt:=mb) (ok:=λb=>MH rec rech b.steps) (λn k l=>by rw[Dm,CG]) (λl n k=>by rw[Dl,CG]) (λn k A x C hA hx hk=>by
  rw[kV]at hk⊢;obtain⟨k1,l1,g1,g2,g3⟩:=hx k (by omega);refine⟨k1+1,⟨l1,(k1:Int)⟩,by omega,?_,λm E=>?_⟩
  ·rw[Dm,me (by simp[Ae];omega),Ef (n:=A.length) (by omega)];simp only[Ek,GX,mR];rw[g2];simp only[Ek,GX,mR];rw[Ef (n:=k1) (by omega)]
  ·rw[Dl,me (by simp[Ae];omega),Ek,mR,g3];simp only[nB,nb,mW,my,mR];rw[mj (by simp<;>omega),Ef (n:=k1) (by omega),Ef (n:=A.length) (by omega)]) hN hl rR hk
 refine⟨k',l',h1,?_,?_⟩
 ·unfold HD;rw[h2];rfl
 ·unfold G9;rw[h3];rfl
theorem aJ {N:Nat}(hN:2000000<=N):∀(m:Nat) (l:List Step),l.length+Lq l<=1048576->l.length+Lq l<m->MH (Ds N m) (D0 N m) l:=by
 intro m
 induction m with
 | zero=>intro l _ h;omega
 | succ m ih=>
  intro l hl hm k hk;rw[cZ]at hk⊢;rw[Ds];unfold H0;obtain⟨k',l',h1,h2,h3⟩:=Vq (L:=DK N (Ds N m)) (H:=λl=>DN N l (D0 N m)) (wt:=ms) (ok:=λs=>MX s<=1048576/\∀b∈s.kids,MH (Ds N m) (D0 N m) b.steps) (λn k l=>by rw[DK,CG]) (λl n k=>by rw[DN,CG]) (λn k A x C hA hx hk=>by
   have hz:=Kp x;obtain⟨yb,hx2⟩:=hx;rw[kI]at hk⊢;obtain⟨o,nu,it,ar,kd⟩:=x;simp only[Step.args,Step.kids]at hz hx2 hk⊢;have e1:=Lr (l:=ar) (by omega) (k:=k+1+1+1) (by omega) hN;have e2:=Lm (m:=ar.length) (by omega) (k:=k+1+1+1) (by omega) hN;obtain⟨k1,l1,g1,g2,g3⟩:=dZ (rec:=Ds N m) (rech:=D0 N m) (l:=kd) (k:=k+1+1+1+ar.length) hN (by omega) hx2 (by omega);refine⟨k1,⟨(k:Int),((k+1:Nat):Int),((k+1+1:Nat):Int),MG (k+1+1+1) ar.length,l1⟩,by omega,?_,λq E=>?_⟩
   ·rw[DK,me (by simp[Ae];omega),Ef (n:=k) (by omega),Ef (n:=k+1) (by omega),Ef (n:=k+1+1) (by omega),Ef (n:=A.length) (by omega)];simp only[Ek,GX,mR,Step.op,Step.num,Step.A5,Step.args,Step.kids];rw[e1];simp only[Ek,GX,mR,Step.op,Step.num,Step.A5,Step.args,Step.kids];rw[g2,mR]
   ·rw[DN,me (by simp[Ae];omega),Ek];simp only[mR,Step.op,Step.num,Step.A5,Step.args,Step.kids];rw[Ef (n:=k) (by omega),Ef (n:=k+1) (by omega),Ef (n:=k+1+1) (by omega),Ef (n:=A.length) (by omega),e2];simp only[nB,nb,mW,my,mR];rw[mj (by simp<;>omega),g3,mR];rw[mj (by simp<;>omega)]) hN (by omega) (λs hs=>by
    have h1:=Y8 hs;have h2:=oc hs;refine⟨by omega,λb hb=>?_⟩;have h3:=OH hb;rw[OB]at h3;exact ih b.steps (by omega) (by omega)) hk
  refine⟨k',l',h1,?_,?_⟩
  ·rw[h2];rfl
  ·rw[D0];unfold H4;rw[h3];rfl
theorem fK {N:Nat}(hN:2000000<=N){b:Block}(hb:Bs b):MH (JI N) (JL N) b.steps:=by
 unfold Bs at hb;rw[OB]at hb;unfold JI JL;exact aJ hN N b.steps hb (by omega)
theorem ZV {l:List AP}{k N:Nat}(hN:2000000<=N)(hl:l.length<=1048576)(rR :∀r∈l,Kk r<=1048576)(hk:k+(l.map eK).sum<=20000000):∃(k':Nat) (l':List AP),k'<=k+(l.map eK).sum/\GW N l k=some ((k':Int),l')/\Gb N l' k=some (k':Int):=by
 obtain⟨k',l',h1,h2,h3⟩:=Vq (L:=C3 N) (H:=C0 N) (wt:=eK) (ok:=λr=>Kk r<=1048576) (λn k l=>by rw[C3,CG]) (λl n k=>by rw[C0,CG]) (λn k A x C hA hx hk=>by
  unfold Kk at hx;unfold eK at hk⊢;have e1:=Lr (l:=x.params) (by omega) (k:=k) (by omega) hN;have e2:=Lr (l:=x.Ao) (by omega) (k:=k+x.params.length) (by omega) hN;have f1:=Lm (m:=x.params.length) (by omega) (k:=k) (by omega) hN;have f2:=Lm (m:=x.Ao.length) (by omega) (k:=k+x.params.length) (by omega) hN;obtain⟨k1,l1,g1,g2,g3⟩:=fK hN (b:=x.body) (by unfold Bs;omega) (k+x.params.length+x.Ao.length+1) (by omega);refine⟨k1+1,⟨MG k x.params.length,MG (k+x.params.length) x.Ao.length,((k+x.params.length+x.Ao.length:Nat):Int),⟨l1,(k1:Int)⟩⟩,by omega,?_,λm E=>?_⟩
  ·rw[C3,me (by simp[Ae];omega),Ef (n:=A.length) (by omega)];simp only[Ek,GX,mR];rw[e1];simp only[Ek,GX,mR];rw[e2];simp only[Ek,GX,mR];rw[Ef (n:=k+x.params.length+x.Ao.length) (by omega),g2];simp only[Ek,GX,mR];rw[Ef (n:=k1) (by omega)]
  ·rw[C0,me (by simp[Ae];omega),Ek,Ef (n:=A.length) (by omega),mR,f1,mR,mj (by simp<;>omega),f2,mR,mj (by simp<;>omega),Ef (n:=k+x.params.length+x.Ao.length) (by omega),g3];simp only[nB,nb,mW,my,mR];rw[mj (by simp<;>omega),Ef (n:=k1) (by omega)]) hN hl rR hk
 refine⟨k',l',h1,?_,?_⟩
 ·unfold GW;rw[h2];rfl
 ·unfold Gb;rw[h3];rfl
theorem XU {n:AL}(hn:OU n<=1048576){N:Nat}(hN:2000000<=N):∃(k:Nat) (d:List AR) (r:List AP),GR N n.decls n.AB 1=some ((k:Int),d,r)/\GS N ⟨d,r⟩ 1=some (k:Int):=by
 unfold OU at hn;have s1:(n.decls.map dT).sum<=2*n.decls.length+1*(n.decls.map dz).sum:=YZ λd _=>by unfold dT dz;omega
 have s2:(n.AB.map eK).sum<=2*n.AB.length+3*(n.AB.map Kk).sum:=YZ λr _=>by
  have:=Xy r.body.steps;unfold eK Kk;rw[OB];omega
 obtain⟨k1,d,g1,g2,g3⟩:=fz (l:=n.decls) (k:=1) hN (by omega) (λd hd=>by have:=Ga dz hd;omega) (by omega);obtain⟨k2,r,g4,g5,g6⟩:=ZV (l:=n.AB) (k:=k1) hN (by omega) (λd hd=>by have:=Ga Kk hd;omega) (by omega);refine⟨k2,d,r,?_,?_⟩
 ·unfold GR;rw[show (1:Int)=((1:Nat):Int) from rfl,g2,mR];rw[g5];rfl
 ·unfold GS;rw[show (1:Int)=((1:Nat):Int) from rfl,g3,mR,mj (by simp<;>omega),g6,mR,mj (by simp<;>omega)]
end RC
namespace RC
open Go
section
variable {n : AL} {R1 : AL -> List Int -> Block -> Option Int} {R2 : Aq -> List Int -> Block -> Option Int} {T : List Int -> Block -> Int} {s : Step} {v : List Int} {N : Nat} {t : Int}
theorem Ur {D:List AR}{F:List HZ}(S:NI D F){num:Int}(hN:2000000<=N){x:List Int}(h:B5 N D num=some x):x.length<=3:=by
 have hD:=S.Pj;have hn:=S.nc;by_cases hr:0<=num/\num<(nc D:Int)
 ·obtain⟨c,hc⟩:=nm hr.1;obtain⟨t',x',e1,e3⟩:=JW (D:=D) (by omega) (by omega) (show c<nc D by omega) hN;obtain⟨g1,g2,d,g3,g4⟩:=QF e1;rw[hc,e3]at h;cases h;exact (S.NV d g3 x' g4).1
 ·unfold B5 at h;rw[Mt (by omega) (by omega) (by omega) hN]at h;simp at h;rw[h];simp
structure ZZ (n:AL) (T:List Int->Block->Int) (s:Step) (v:List Int):Prop where
 args :∃l,CK v s.args=some l
 Jf:s.args.length<=3
 call:s.op=9->∃r,r∈n.AB/\Sh.get n.AB s.num=some r/\Sh.get (Cg n).funcs s.num=some ⟨r.params,r.Ao,r.result⟩
 cg:¬ s.op=7->¬ s.op=8->s.kids=[]
 lO:s.op=7->s.kids.length=2/\∀k∈s.kids,0<=T v k
 ll:s.op=8->(En n.decls s.num).length=s.kids.length/\∀(i:Nat) c k,(En n.decls s.num)[i]?=some c->s.kids[i]?=some k->0<=T (v++L3 n.decls c) k
theorem Wm {ts:List Int}(h:¬ GJ ts<0):∀t∈ts,0<=t:=by
 unfold GJ at h;cases ts with
 | nil=>simp
 | cons a r=>
  dsimp only at h;split at h
  ·rename_i h1;intro t ht;rcases mr.1 ht with rfl|ht
   ·omega
   ·have:=ma.1 h1 t ht;simp only[mv]at this;omega
  ·exact absurd (by decide) h
theorem bz {o:Option Bool}{x:Option (Int×Bool)}{t:Int}(h:(o.bind λc=>if c=true then some (-1,false) else x.bind λq=>some (q.1,q.2))=some (t,true)):x=some (t,true):=by
 cases o with
 | none=>simp at h
 | some c=>
  cases c with
  | true=>simp at h
  | false=>
   cases x with
   | none=>simp at h
   | some q=>simpa [Prod.ext_iff] using h
theorem dr (H:RY n R1 R2 T (Ot s))(V:SK n s v)(S:Hn n)(hN:2000000<=N)(h0:0<=s.op)(h5:s.op<=11)(ra:BT N R2 (Cg n) v s=some (t,true)):ZZ n T s v:=by
 obtain⟨b,sf,sd⟩:=Rf (n:=n) (s:=s) V.aP (by have:=V.KM;omega);rw[JT (by have:=V.KM;omega) V.Jf hN sd]at ra;have hI:=Zh V.WQ;cases ha:CK v s.args with
 | none=>rw[ha]at ra;simp at ra
 | some l=>
  rw[ha]at ra;have wR:=FW ha;have xE:l.length<=1048576:=by have:=V.Jf;omega
  cases b with
  | false=>simp at ra
  | true=>
   simp only[oG,nL]at ra;unfold CN at ra;rw[Ja,show MO s.op=false by unfold MO;rw[nY,mm,mm];omega]at ra;simp only[mR,mW,my]at ra;by_cases h7:s.op=7
   ·simp only[h7,nB,nL]at ra;have g1:l.length=1:=by
     refine oD λq=>?_;have:¬ ((l.length:Nat):Int)=1:=by omega
     simp[Ae,this]at ra
    obtain⟨a,rfl⟩:=List.length_eq_one_iff.1 g1;have g2:s.kids.length=2:=by
     refine oD λq=>?_;have q':¬ ((s.kids.length:Nat):Int)=2:=by omega
     by_cases q1:a=0<;>by_cases q2:s.num=0<;>simp[Ae,Sh.get,q1,q2,q']at ra
    have g3:a=0/\s.num=0:=by
     by_cases q1:a=0<;>by_cases q2:s.num=0<;>simp[Ae,Sh.get,q1,q2]at ra⊢
    simp only[Ae,g2,pw,Sh.get,g3.1,g3.2]at ra;rw[show Sh.mk ([]:List Int) 2 24=some [[],[]] from MT [] 2 24 (by decide) (by decide)]at ra;have e:=OE H V hN (ms:=[[],[]]) (by simp[g2]) (by simp) (by simp) VA;simp[e]at ra;have hneg:¬ GJ (IZ T v [[],[]] s.kids)<0:=λq=>by simp[q]at ra
    have tG:=Wm hneg;refine⟨⟨_,ha⟩,by simp at wR;omega,λq=>by omega,λq=>absurd h7 q,λ_=>⟨g2,λk hk=>?_⟩,λq=>by omega⟩
    match hks:s.kids,g2 with
    | [k0,k1],_=>
     rw[hks]at hk tG;simp[IZ]at tG hk;rcases hk with rfl|rfl
     ·exact tG.1
     ·exact tG.2
   ·by_cases h8:s.op=8
    ·simp only[h8,Int.reduceEq,nB,nH,mW,nL,my]at ra;rw[PC S hN]at ra;simp only[mR]at ra;have g1:l.length=1:=by
      refine oD λq=>?_;have:¬ ((l.length:Nat):Int)=1:=by omega
      simp[Ae,this]at ra
     obtain⟨a,rfl⟩:=List.length_eq_one_iff.1 g1;have g2:(En n.decls s.num).length=s.kids.length:=by
      refine oD λq=>?_;have q':¬ ((s.kids.length:Nat):Int)=((En n.decls s.num).length:Int):=by omega
      by_cases q1:a=s.num<;>by_cases q2:((En n.decls s.num).length:Int)=0<;>simp[Ae,Sh.get,q1,q']at ra
     have g3:a=s.num:=by
      by_cases q1:a=s.num
      ·exact q1
      ·simp[Ae,Sh.get,q1]at ra
     have g4:¬ En n.decls s.num=[]:=λq=>by
      rw[q]at ra;simp[Ae,Sh.get,g3]at ra
     have g4':¬ ((En n.decls s.num).length:Int)=0:=λq=>g4 (nI (by omega));have uL:=L6 S.VM s.num;have hms:∀m∈(En n.decls s.num).map (L3 n.decls),m.length<=3/\∀x∈m,Cw n.decls x=true:=λm hm=>by
      obtain⟨c,hc,rfl⟩:=mu.1 hm;exact (N6 S hc hN).2.2
     have e:=OE H V hN (ms:=(En n.decls s.num).map (L3 n.decls)) (by simp[g2]) (by simpa using g4) (by simp;omega) hms;simp[Ae,Sh.get,g3,g4,g2,e]at ra;have hneg:¬ GJ (IZ T v ((En n.decls s.num).map (L3 n.decls)) s.kids)<0:=λq=>by by_cases hk0:s.kids=[]<;>simp[q,hk0]at ra
     have tG:=Wm hneg;refine⟨⟨_,ha⟩,by simp at wR;omega,λq=>by omega,λ_ q=>absurd h8 q,λq=>by omega,λ_=>⟨g2,λi c k hc hk=>?_⟩⟩;exact tG _ (mS (Us (T:=T) (v:=v) (show ((En n.decls s.num).map (L3 n.decls))[i]?=some (L3 n.decls c) by rw[mX,hc];rfl) hk))
    ·have hk:s.kids=[]:=by
      refine oD λq=>?_;have q':decide (0<Sh.len s.kids)=true:=by
       have:=pb.2 q;simp[Ae];omega
      simp[h7,h8,q']at ra
     simp only[h7,h8,nH,mW,my,hk,Ae,nj]at ra;have rp:Af N (Cg n) s.op s.num l=some (t,true):=bz ra;rw[show (Cg n)=⟨n.decls,(Cg n).funcs⟩ from rfl]at rp;have hG:(Cg n).funcs.length<=4:=by rw[Fp];exact S.Pb
     have key:l.length<=3/\(s.op=9->∃r,r∈n.AB/\Sh.get n.AB s.num=some r/\Sh.get (Cg n).funcs s.num=some ⟨r.params,r.Ao,r.result⟩):=by
      by_cases c0:s.op=0
      ·rw[Wy c0]at rp;simp at rp;exact⟨by simp[rp.2.2],λq=>by omega⟩
      by_cases c1:s.op=1∨s.op=2∨s.op=3∨s.op=4
      ·rw[O7 xE hN c1]at rp;simp at rp;exact⟨by simp[rp.2.2],λq=>by omega⟩
      by_cases c5:s.op=5
      ·rw[O6 xE hN c5]at rp;simp at rp;exact⟨by simp[rp.2.2],λq=>by omega⟩
      by_cases c6:s.op=6
      ·rcases QK (G:=(Cg n).funcs) S xE hI hN c6 with ⟨t',x,_,_,_,_,x5,x6⟩|⟨_,x6⟩
       ·rw[x6]at rp;simp at rp;exact⟨by rw[rp.2];exact Ur S hN x5,λq=>by omega⟩
       ·rw[x6]at rp;simp at rp
      by_cases c9:s.op=9
      ·rcases Sn S s.num with ⟨r,r0,r1,r2,r3,r4,_⟩|hr
       ·rw[VI xE hG hN c9 r0 (by rw[Fp];exact r1) r3]at rp;simp at rp;exact⟨by rw[rp.2];exact r4,λ_=>⟨r,mS (by rw[<- P7 r0];exact r2),r2,r3⟩⟩
       ·rw[I5 hG (.inl c9) (by rw[Fp];exact hr)]at rp;simp at rp
      by_cases wW:s.op=10
      ·rcases Sn S s.num with ⟨r,r0,r1,r2,r3,r4,_⟩|hr
       ·rcases PH (D:=n.decls) xE S.Pj hG (f:=⟨r.params,r.Ao,r.result⟩) r4 hN wW r0 (by rw[Fp];exact r1) r3 with ⟨_,x6⟩|⟨m,x,x1,x2,x6⟩
        ·rw[x6]at rp;simp at rp
        ·rw[x6]at rp;simp at rp;exact⟨by rw[rp.2.2];simp;omega,λq=>by omega⟩
       ·rw[I5 hG (.inr wW) (by rw[Fp];exact hr)]at rp;simp at rp
      have c11:s.op=11:=by omega
      by_cases uW:l.length=2
      ·exact⟨by omega,λq=>by omega⟩
      ·rw[ML c11 uW]at rp;simp at rp
     exact⟨⟨_,ha⟩,by omega,key.2,λ_ _=>hk,λq=>absurd q h7,λq=>absurd q h8⟩
end
end RC
namespace RC
open Go
theorem cy {l:List Int}{x:Int}(hl:l.length<=1048576){N i:Nat}(hi:i<=l.length)(hN:l.length-i<N):
  FZ l x N (i:Int)=some (if x∈l.drop i then .inl true else .inr ()):=by
 refine A4 l.length (λN i=>FZ l x N (i:Int)=some (if x∈l.drop i then .inl true else .inr ())) ?_ ?_ hi hN
 ·intro n;rw[nf,FZ,CG];simp
 ·intro n i hi ih;obtain⟨y,hy,_⟩:=Ax hi;rw[drop_cons hy,FZ,Cf,An hy];simp only[mR,mr];rw[wN,ih];by_cases e:y=x
  ·simp[e]
  ·have e':¬ x=y:=λq=>e q.symm;simp[e,e']
theorem dM {l:List Int}{x:Int}(hl:l.length<=1048576){N:Nat}(hN:2000000<=N):Kc N l x=some (decide (x∈l)):=by
 have h:=cy (x:=x) hl (mi _) (by omega:l.length-0<N);rw[nP,rD]at h;unfold Kc;rw[h];by_cases hx:x∈l<;>simp[hx,Sh.cont]
theorem bt {i j:Nat}(h:i+j<=4000000):Sh.wk .i64 (Sh.shr .u64 (Sh.wk .u64 (Sh.w ((i:Int)+(j:Int)))) 1)=(((i+j) / 2:Nat):Int):=by
 rw[wI];have e1:Sh.wk .u64 ((i:Int)+(j:Int))=((i+j:Nat):Int):=by
  unfold Sh.wk IntKind.wrap;simp[IntKind.bits,IntKind.signed];omega
 rw[e1];have e2:Sh.shr .u64 ((i+j:Nat):Int) 1=(((i+j) / 2:Nat):Int):=by
  unfold Sh.shr;rw[Int.fdiv_eq_ediv_of_nonneg _ (by simp[IntKind.bits])];simp[IntKind.bits]
 rw[e2];exact W0 (n:=(((i+j) / 2:Nat):Int)) (by omega) (by omega)
theorem aA (a b:Int):I6 a b=some (decide (a<b)):=by
 unfold I6 IY;simp
theorem fa {l:List Int}{v:Int}(hl:l.length<=1000000):∀(d i j M:Nat),j-i<=d->d<M->i<=j->j<=l.length->∃q:Nat,q<=l.length/\Au l v M (i:Int) (j:Int)=some (q:Int)/\((∀x∈l,x<v)->q=j):=by
 intro d
 induction d with
 | zero=>
  intro i j M h1 h2 h3 h4;obtain⟨M,rfl⟩ :∃m,M=m+1:=⟨M-1,by omega⟩
  refine⟨i,by omega,?_,λ_=>by omega⟩;rw[Au,mj (by simp;omega)]
 | succ d ih=>
  intro i j M h1 h2 h3 h4;obtain⟨M,rfl⟩ :∃m,M=m+1:=⟨M-1,by omega⟩
  rw[Au];by_cases xf:i<j
  ·obtain⟨x,hx,uM⟩:=Ax (l:=l) (i:=(i+j) / 2) (by omega);rw[me (by simp;omega),bt (by omega),An hx,mR,aA,mR];by_cases hv:x<v
   ·rw[me (by simpa using hv),wI,show (((i+j) / 2:Nat):Int)+1=(((i+j) / 2+1:Nat):Int) by omega];exact ih _ _ M (by omega) (by omega) (by omega) h4
   ·rw[mj (by simpa using hv)];obtain⟨q,q1,q2,_⟩:=ih i ((i+j) / 2) M (by omega) (by omega) (by omega) (by omega);exact⟨q,q1,q2,λh=>absurd (h x uM) hv⟩
  ·rw[mj (by simp;omega)];exact⟨i,by omega,rfl,λ_=>by omega⟩
theorem ct {l:List Int}{v:Int}(hl:l.length<=1000000){N:Nat}(hN:2000000<=N):∃l',F4 N l v=some l'/\l'.length<=l.length+1/\((∀x∈l,x<v)->l'=l++[v]):=by
 obtain⟨q,q1,q2,q3⟩:=fa (l:=l) (v:=v) hl l.length 0 l.length N (by omega) (by omega) (by omega) (ml _);have ins:FL l [v] (q:Int)=some (l.take q++v::l.drop q):=by
  unfold FL;dsimp only;rw[me ⟨by omega,by omega,by omega⟩];simp
 have cl:DM l=some l:=by
  unfold DM;rw[DD [] l 8 (by simp;omega) (by simp;omega)];rfl
 unfold F4 BW;rw[show (0:Int)=((0:Nat):Int) from rfl,Ae,q2,mR];by_cases hq:q<l.length
 ·obtain⟨x,hx,uM⟩:=Ax hq;rw[me (by simp;omega),An hx,mR];by_cases hv:x=v
  ·refine⟨l,by simp[hv],by omega,λh=>absurd (h x uM) (by omega)⟩
  ·refine⟨l.take q++v::l.drop q,?_,by simp;omega,λh=>absurd (q3 h) (by omega)⟩;rw[mj (by simpa using hv)];unfold Fz;simp[cl,ins]
 ·refine⟨l.take q++v::l.drop q,?_,by simp;omega,λh=>?_⟩
  ·rw[mj (by simp;omega)];simp[cl,ins]
  ·have:q=l.length:=by omega
   subst this;simp
theorem dI {l:List Int}{v:Int}(hl:l.length<=1000000)(h :∀x∈l,x<v){N:Nat}(hN:2000000<=N):F4 N l v=some (l++[v]):=by
 obtain⟨l',h1,_,h3⟩:=ct (l:=l) (v:=v) hl hN;rw[h1,h3 h]
def hf:Int->List Int->List Int
 | _,[]=>[]
 | m,t::r=>if t=0 then hf (m+1) r else m::hf (m+1) r
theorem Ul:∀(m:Int) (l:List Int),(hf m l).length<=l.length
 | _,[]=>ml _
 | m,t::r=>by
  unfold hf;have:=Ul (m+1) r;split<;>simp<;>omega
theorem YR:∀(m:Int) (l:List Int) (x:Int),x∈hf m l->m<=x/\x<m+l.length
 | _,[],_,h=>by simp[hf]at h
 | m,t::r,x,h=>by
  unfold hf at h;have ih:=YR (m+1) r x;simp only[nE];split at h
  ·have:=ih h;omega
  ·rcases mr.1 h with rfl|h
   ·omega
   ·have:=ih h;omega
theorem U1:∀(m:Int) (l:List Int) (t:Int),hf m (l++[t])=hf m l++(if t=0 then [] else [m+l.length])
 | m,[],t=>by simp[hf]
 | m,a::l,t=>by
  rw[py,hf,hf,U1 (m+1) l t];have:m+1+(l.length:Int)=m+((a::l).length:Int):=by simp;omega
  rw[this];split<;>simp
theorem Yb {F:List Int}{m:Int}(hF:F.length<=1000)(h0:0<=m)(h1:m<=4000000){N:Nat}(hN:2000000<=N):IQ N F m=some (hf m F):=by
 have key:∀{M i:Nat},i<=F.length->F.length-i<M->D5 F m M (i:Int) (hf m (F.take i))=some (hf m F):=by
  intro M i hi hM;refine A4 F.length (λM i=>D5 F m M (i:Int) (hf m (F.take i))=some (hf m F)) ?_ ?_ hi hM
  ·intro q;rw[D5,CG,nT]
  ·intro q i hi ih;obtain⟨t,ht,_⟩:=Ax hi;have hle:=Ul m (F.take i);rw[nw]at hle;rw[CO ht,U1,nw,ou (by omega)]at ih;rw[D5,Cf,An ht,mR,wN,wI (n:=m+(i:Int))];by_cases z:t=0
   ·rw[me z]at ih;simp only[z,nB,nb,mW,my,mR];simpa using ih
   ·rw[mj z]at ih;simp only[z,nH,pV,nL,mR];rw[DD _ _ 8 (by simp;omega) (by simp;omega)];exact ih
 have:=key (mi _) (by omega:F.length-0<N);unfold IQ;rw[oO,rD,show hf m []=[] from rfl]at this;rw[this];rfl
end RC
namespace RC
open Go
def Vp (o:Int):Bool:=decide (o=6) || (decide (o=9) || (decide (o=10) || decide (o=11)))
theorem dV (o:Int):G8 o=some (Vp o):=by
 unfold G8 Vp;by_cases h1:o=6<;>by_cases h2:o=9<;>by_cases h3:o=10<;>simp[h1,h2,h3]
theorem dg (o:Int):F5 o=some (Vp o):=by
 unfold F5 Vp;by_cases h1:o=6<;>by_cases h2:o=9<;>by_cases h3:o=10<;>simp[h1,h2,h3]
section
variable {n : AL} {T : List Int -> Block -> Int} {s : Step} {w : List Int} {N : Nat}
variable {xK : AL -> List Int -> Block -> List Int -> Option Block} {xL : Aq -> Block -> List Int -> List Int -> Option Block}
end
end RC
namespace RC
open Go
section
variable {n : AL} {T : List Int -> Block -> Int} {N : Nat} {xK : AL -> List Int -> Block -> List Int -> Option Block} {xL : Aq -> Block -> List Int -> List Int -> Option Block}
end
end RC
namespace RC
open Go
theorem TO {α:Type}{f:Nat->α->Bool}:∀(l:List α) (k:Nat),Db f k l=true->∀(i:Nat) x,l[i]?=some x->f (k+i) x=true
 | [],_,_,_,_,h=>by simp at h
 | a::r,k,h,i,x,hx=>by
  rw[Db,mh]at h;cases i with
  | zero=>simp only[mw,mU]at hx;subst hx;exact h.1
  | succ i=>
   have:=TO r (k+1) h.2 i x (by simpa using hx);rwa [show k+1+i=k+(i+1) by omega]at this
theorem eh {ps ls:List Int}(h:Db (Gi ps ls) 0 ls=true):ls.length<=ps.length:=by
 have key:∀(i:Nat) v,ls[i]?=some v->(i:Int)<=v/\v<(ps.length:Int):=by
  intro i
  induction i with
  | zero=>
   intro v hv;have:=TO ls 0 h 0 v hv;unfold Gi at this;simp only[mh,mv]at this;exact⟨this.1.1,this.1.2⟩
  | succ i ih=>
   intro v hv;have hi:=(mT.1 hv).1;obtain⟨u,hu,_⟩:=Ax (l:=ls) (i:=i) (by omega);have h1:=(ih u hu).1;have:=TO ls 0 h (i+1) v hv;unfold Gi at this;rw[show 0+(i+1)-1=i by omega,hu]at this;simp only[mh,ob,nY,mv,mm,oh]at this;obtain⟨⟨_,h2⟩,_,h3⟩:=this;exact⟨by omega,h2⟩
 refine oD λhc=>?_;obtain⟨v,hv,_⟩:=Ax (l:=ls) (i:=ps.length) (by omega);have:=key _ v hv;omega
theorem LF {α:Type}{f:α->Nat}{c:Nat}:∀{l:List α},(∀x∈l,f x<=c)->(l.map f).sum<=c*l.length
 | [],_=>by simp
 | a::l,h=>by
  have h1:=h a (by simp);have h2:=LF (l:=l) λx hx=>h x (by simp[hx]);simp only[mz,oV,nE,Nat.mul_add,qh];omega
section
variable {n : AL} {N : Nat}
structure lD (n:AL) (N:Nat) (T:List Int->Block->Int):Prop where
 sig:Hn n
 mC:RY n (Bp N) (Bu N) T 601
 E1 :∀(v:List Int) (b:Block),GL b<601->BK n b v->Dx N (Bp N) n v b=some (T v b)
 Qb :∀r∈n.AB,GL r.body<=600/\BK n r.body r.params/\0<=T r.params r.body/\r.params.length<=3/\r.Ao.length<=3
theorem az (S:Ir n)(hN:2000000<=N)(h:Ea N n=some true):(∃T,lD n N T)/\GK N n=some (Cg n,true):=by
 have hl:=S.Pb;obtain⟨q,i1,i2⟩:=Tm S hN;unfold Ea at h;rw[Tx S hN]at h;simp only[mR]at h;cases hs:X9 n with
 | false=>rw[hs]at h;simp at h
 | true=>
  rw[hs]at h i1;have uD:=hs;unfold X9 at uD;simp only[mh,mv,ma]at uD;have SO:Hn n:=NI.of (p:=⟨n.decls,n.AB.map Qp⟩) (by
    rw[show List.map (λf:HZ=>(f.params,f.result)) (n.AB.map Qp)=n.AB.map λr=>(r.params,r.result) by rw[oC];rfl];exact uD.2.1)
  obtain⟨T,hT⟩:=Rx SO hN 601;have hBK:∀r∈n.AB,GL r.body<=600->BK n r.body r.params:=λr hr he=>by
   obtain⟨q1,q2,q3⟩:=SO.bj (Qp r) (pc hr);have q1':r.params.length<=3:=q1;exact⟨(S.WQ.AB.1 r hr).body,(S.rz hr).2.2,by omega,q2⟩
  have L1:=Cj (l:=n.AB) (Bx N n) (λ_ r=>LU T r) (λq=>by rw[Bx,CG]) (λq i r hi=>by
   have tj:=(mT.1 hi).1;have hr:=mS hi;rw[Bx,Cf,An hi,mR,Nw (S.rz hr).2.2 hN,wI,show ((i:Int)+1)=((i+1:Nat):Int) by omega,mR];unfold LU;by_cases he:GL r.body<=600
   ·rw[me he,mj (by simp),(show Bp N n r.params r.body=some (T r.params r.body) from (hT r.params r.body (by omega) (hBK r hr he) N N (by omega) (by omega)).1)];by_cases hq:T r.params r.body=r.result<;>simp[he,hq]
   ·rw[mj he];simp[he]) (by omega:n.AB.length<N)
  rw[Dr]at L1;rw[L1]at h;simp only[nb,mW,my]at h;rw[DP]at h;have tG:n.AB.all (LU T)=true:=by
   cases hb:n.AB.all (LU T) with
   | true=>rfl
   | false=>rw[hb]at h;simp at h
  rw[ma]at tG;refine⟨⟨T,SO,λv b a1 a2 a3 a4 a5=>hT v b a3 ⟨a1,a2,a4,a5⟩ N N (by omega) (by omega),λv b hb B=>?_,λr hr=>?_⟩,by rw[i1,i2 hs]⟩
  ·have:=(hT v b hb B (N+1) N (by omega) (by omega)).1;rwa [Cv]at this
  ·have hb:=tG r hr;unfold LU at hb;simp only[mh,mv]at hb;obtain⟨q1,q2,q3⟩:=SO.bj (Qp r) (pc hr);have q3':Cw n.decls r.result=true:=q3;have q1':r.params.length<=3:=q1;have xJ:Db (Gi r.params r.Ao) 0 r.Ao=true:=uD.2.2 r hr;have:=eh xJ;exact⟨hb.1,hBK r hr hb.1,by rw[hb.2];exact (Mn q3').1,q1',by omega⟩
end
end RC
namespace RC
open Go
def ins:List Int->Int->List Int
 | [],x=>[x]
 | a::r,x=>if x<=a then (if x<a then x::a::r else a::r) else a::ins r x
theorem VC:∀(l:List Int) (x y:Int),y∈ins l x↔y=x∨y∈l
 | [],x,y=>by simp[ins]
 | a::r,x,y=>by
  have ih:=VC r x y;simp only[ins];split
  ·split
   ·simp
   ·have:x=a:=by omega
    subst this;simp
  ·simp only[mr,ih];constructor
   ·rintro (h|h|h)<;>simp[h]
   ·rintro (h|h|h)<;>simp[h]
theorem Zn:∀{l:List Int} (x:Int),l.Pairwise (·<·)->(ins l x).Pairwise (·<·)
 | [],x,_=>by simp[ins]
 | a::r,x,h=>by
  rw[oX]at h;simp only[ins];split
  ·split
   ·rename_i h1 h2;rw[oX,oX];refine⟨λy hy=>?_,h⟩;rcases mr.1 hy with rfl|hy
    ·exact h2
    ·have:=h.1 y hy;omega
   ·rw[oX];exact h
  ·rename_i h1;rw[oX];refine⟨λy hy=>?_,Zn x h.2⟩;rcases (VC r x y).1 hy with rfl|hy
   ·omega
   ·exact h.1 y hy
theorem Y0:∀{a b:List Int},a.Pairwise (·<·)->b.Pairwise (·<·)->(∀x,x∈a↔x∈b)->a=b
 | [],[],_,_,_=>rfl
 | [],y::b,_,_,h=>by have:=(h y).2 (by simp);simp at this
 | x::a,[],_,_,h=>by have:=(h x).1 (by simp);simp at this
 | x::a,y::b,ha,hb,h=>by
  rw[oX]at ha hb;have e:x=y:=by
   rcases mr.1 ((h x).1 (by simp)) with e|h1
   ·exact e
   ·rcases mr.1 ((h y).2 (by simp)) with e|h2
    ·exact e.symm
    ·have:=hb.1 x h1;have:=ha.1 y h2;omega
  subst e;rw[Y0 ha.2 hb.2 λz=>?_];constructor
  ·intro hz;rcases mr.1 ((h z).1 (by simp[hz])) with e|h1
   ·subst e;have:=ha.1 z hz;omega
   ·exact h1
  ·intro hz;rcases mr.1 ((h z).2 (by simp[hz])) with e|h1
   ·subst e;have:=hb.1 z hz;omega
   ·exact h1
mutual
def vs:Step->List Int|.mk o _ _ a k=>if MO o then [] else a++lV k
def lV:List (ET Step)->List Int|[]=>[]|b::k=>mH b++lV k
def mH:ET Step->List Int|⟨ss,r⟩=>lF ss++[r]
def lF:List Step->List Int|[]=>[]|s::l=>vs s++lF l
end
end RC
namespace RC
open Go
abbrev Y4 (l:List Int):Prop:=l.Pairwise (·<·)
theorem W7 {l:List Int}(h:Y4 l){i:Nat}{x:Int}(hi:l[i]?=some x):(∀y∈l.take i,y<x)/\∀y∈l.drop (i+1),x<y:=by
 have e:l=l.take i++x::l.drop (i+1):=by rw[<- drop_cons hi,pI]
 rw[e]at h;unfold Y4 at h;rw[List.pairwise_append,oX]at h;exact⟨λy hy=>h.2.2 y hy x (by simp),h.2.1.1⟩
theorem ij {l:List Int}{v:Int}(hl:l.length<=1048577)(ha:Y4 l):∀(d i j M:Nat),j-i<=d->d<M->i<=j->j<=l.length->(∀x∈l.take i,x<v)->(∀x∈l.drop j,v<=x)->
  ∃q:Nat,q<=l.length/\Au l v M (i:Int) (j:Int)=some (q:Int)/\(∀x∈l.take q,x<v)/\∀x∈l.drop q,v<=x:=by
 intro d
 induction d with
 | zero=>
  intro i j M h1 h2 h3 h4 h5 h6;obtain⟨M,rfl⟩ :∃m,M=m+1:=⟨M-1,by omega⟩
  have:i=j:=by omega
  subst this;exact⟨i,by omega,by rw[Au,mj (by simp)],h5,h6⟩
 | succ d ih=>
  intro i j M h1 h2 h3 h4 h5 h6;obtain⟨M,rfl⟩ :∃m,M=m+1:=⟨M-1,by omega⟩
  rw[Au];by_cases xf:i<j
  ·obtain⟨x,hx,uM⟩:=Ax (l:=l) (i:=(i+j) / 2) (by omega);obtain⟨t1,t2⟩:=W7 ha hx;rw[me (by simp;omega),bt (by omega),An hx,mR,aA,mR];by_cases hv:x<v
   ·rw[me (by simpa using hv),wI,show (((i+j) / 2:Nat):Int)+1=(((i+j) / 2+1:Nat):Int) by omega];refine ih _ _ M (by omega) (by omega) (by omega) h4 (λy hy=>?_) h6;rw[CO hx]at hy;rcases nM.1 hy with hy|hy
    ·have:=t1 y hy;omega
    ·simp at hy;omega
   ·rw[mj (by simpa using hv)];refine ih i ((i+j) / 2) M (by omega) (by omega) (by omega) (by omega) h5 λy hy=>?_;rw[drop_cons hx]at hy;rcases mr.1 hy with rfl|hy
    ·omega
    ·have:=t2 y hy;omega
  ·rw[mj (by simp;omega)];have:i=j:=by omega
   subst this;exact⟨i,by omega,rfl,h5,h6⟩
theorem ky {l:List Int}{v:Int}(hl:l.length<=1048577)(ha:Y4 l){N:Nat}(hN:2000000<=N):∃q:Nat,q<=l.length/\BW N l v=some ((q:Int),decide (v∈l))/\(v ∉ l->ins l v=l.take q++v::l.drop q):=by
 obtain⟨q,q1,q2,q3,q4⟩:=ij (v:=v) hl ha l.length 0 l.length N (by omega) (by omega) (by omega) (ml _) (by simp) (by simp);refine⟨q,q1,?_,λhv=>?_⟩
 ·unfold BW;rw[show (0:Int)=((0:Nat):Int) from rfl,Ae,q2,mR];by_cases hq:q<l.length
  ·obtain⟨x,hx,uM⟩:=Ax hq;rw[me (by simp;omega),An hx,mR];by_cases hv:x=v
   ·subst hv;simp[uM]
   ·have hn:v ∉ l:=λh=>by
     rw[<- pI q l]at h;rcases nM.1 h with h|h
     ·have:=q3 v h;omega
     ·rw[drop_cons hx]at h;rcases mr.1 h with h|h
      ·exact hv h.symm
      ·have h1:=(W7 ha hx).2 v h;have h2:=q4 x (by rw[drop_cons hx];simp);omega
    rw[mj (by simpa using hv)];unfold Fz;simp[hn]
  ·have hn:v ∉ l:=λh=>by
    have e:l.take q=l:=oN (by omega);have:=q3 v (by rw[e];exact h);omega
   rw[mj (by simp;omega)];simp[hn]
 ·refine Y0 (Zn v ha) ?_ λx=>?_
  ·have h0:(l.take q++l.drop q).Pairwise (·<·):=by rw[pI];exact ha
   show List.Pairwise (·<·) (l.take q++v::l.drop q);rw[List.pairwise_append]at h0⊢;refine⟨h0.1,?_,λa h1 b h2=>?_⟩
   ·rw[oX];refine⟨λb hb=>?_,h0.2.1⟩;have:=q4 b hb;have:b≠v:=λe=>hv (e▸oK hb);omega
   ·rcases mr.1 h2 with rfl|h2
    ·exact q3 a h1
    ·exact h0.2.2 a h1 b h2
  ·rw[VC,nM,mr];constructor
   ·rintro (h|h)
    ·exact .inr (.inl h)
    ·rw[<- pI q l]at h;rcases nM.1 h with h|h
     ·exact .inl h
     ·exact .inr (.inr h)
   ·rintro (h|h|h)
    ·exact .inr (oL h)
    ·exact .inl h
    ·exact .inr (oK h)
theorem has_eq {l:List Int}{v:Int}(hl:l.length<=1048577)(ha:Y4 l){N:Nat}(hN:2000000<=N):GN N l v=some (decide (v∈l)):=by
 obtain⟨q,_,h,_⟩:=ky (v:=v) hl ha hN;unfold GN;rw[h];rfl
section
variable {N : Nat}
variable {U A : List Int} {D : List AR} {G : List BM} {o s4' : List Int} {ss : List Step}
end
end RC
namespace RC
open Go
section
variable {n : AL} {T : List Int -> Block -> Int} {s : Step} {w : List Int} {N : Nat}
variable {own lat : List Int}
end
end RC
namespace RC
open Go
section
variable {n : AL} {T : List Int -> Block -> Int} {s : Step} {w : List Int} {N : Nat} {own lat U A : List Int} {D : List AR} {G : List BM}
end
end RC
namespace RC
open Go
section
variable {n : AL} {w own lat U A : List Int} {N : Nat} {D : List AR} {G : List BM}
end
end RC
namespace RC
open Go
def eu:Nat->Block->Prop
 | 0,_=>False
 | d+1,b=>b.steps.length<=50000/\∀s∈b.steps,s.args.length<=3/\s.kids.length<=3/\∀k∈s.kids,eu d k
section
variable {n : AL} {T : List Int -> Block -> Int} {s : Step} {w : List Int} {N : Nat} {own lat U A : List Int}
variable {xK : AL -> List Int -> Block -> List Int -> List Int -> Option Block} {xL : List AR -> List BM -> List Int -> List Int -> List Int -> List Step -> Block -> Option (Block × List Int × List Int × List Step)}
end
end RC
namespace RC
open Go
section
variable {n : AL} {T : List Int -> Block -> Int} {s : Step} {w : List Int} {N : Nat} {own lat U A : List Int}
variable {xK : AL -> List Int -> Block -> List Int -> List Int -> Option Block} {xL : List AR -> List BM -> List Int -> List Int -> List Int -> List Step -> Block -> Option (Block × List Int × List Int × List Step)}
theorem dp (I:ZZ n T s w)(S:Hn n):s.kids.length<=3:=by
 have uL:=L6 S.VM s.num;by_cases h7:s.op=7
 ·have:=(I.lO h7).1;omega
 ·by_cases h8:s.op=8
  ·have:=(I.ll h8).1;omega
  ·rw[I.cg h7 h8];simp
theorem Yx (I:ZZ n T s w)(S:Hn n)(hN:2000000<=N):∃ms:List (List Int),(if decide (s.op=8)=true then (CM N (Cg n) s.num).bind λwX=>some wX else some (List.replicate s.kids.length ([]:List Int)))=some ms/\ms.length=s.kids.length/\(∀m∈ms,m.length<=3/\∀x∈m,Cw n.decls x=true)/\
   (∀(i:Nat) m k,ms[i]?=some m->s.kids[i]?=some k->0<=T (w++m) k)/\
   (∀(i:Nat) m,ms[i]?=some m->(if decide (s.op=8)=true then (Sh.get (En n.decls s.num) i).bind λc=>(B5 N n.decls c).bind λq=>some q else some [])=some m):=by
 by_cases h8:s.op=8
 ·obtain⟨q1,q2⟩:=I.ll h8;refine⟨(En n.decls s.num).map (L3 n.decls),?_,by simpa using q1,λm hm=>?_,λi m k hm hk=>?_,λi m hm=>?_⟩
  ·rw[me (by simpa using h8),PC S hN];rfl
  ·obtain⟨c,hc,rfl⟩:=mu.1 hm;exact (N6 S hc hN).2.2
  ·rw[mX,mZ]at hm;obtain⟨c,hc,rfl⟩:=hm;exact q2 i c k hc hk
  ·rw[mX,mZ]at hm;obtain⟨c,hc,rfl⟩:=hm;rw[me (by simpa using h8),An hc,mR];rw[(N6 S (mS hc) hN).1];rfl
 ·refine⟨List.replicate s.kids.length [],by rw[mj (by simpa using h8)],by simp,λm hm=>?_,λi m k hm hk=>?_,λi m hm=>?_⟩
  ·rw[(pD.1 hm).2];simp
  ·have hm':=(pD.1 (mS hm)).2;subst hm';by_cases h7:s.op=7
   ·rw[oE];exact (I.lO h7).2 k (mS hk)
   ·rw[I.cg h7 h8]at hk;simp at hk
  ·rw[mj (by simpa using h8),(pD.1 (mS hm)).2]
end
end RC
namespace RC
open Go
section
variable {n : AL} {T : List Int -> Block -> Int} {N : Nat}
variable {xK : AL -> List Int -> Block -> List Int -> List Int -> Option Block} {xL : List AR -> List BM -> List Int -> List Int -> List Int -> List Step -> Block -> Option (Block × List Int × List Int × List Step)}
end
end RC
namespace RC
open Go
theorem Zo:∀(d:Nat) (b:Block),eu d b->IB b<=8*GL b
 | 0,_,h=>h.elim
 | d+1,b,h=>by
  rw[OB,OM];have key:∀l:List Step,(∀s∈l,s.args.length<=3/\s.kids.length<=3/\∀k∈s.kids,eu d k)->l.length+Lq l<=8*IP l:=λl=>by
   induction l with
   | nil=>intro _;simp[Lq,IP]
   | cons s l ih=>
    intro hl;have i1:=ih λx hx=>hl x (by simp[hx]);obtain⟨h1,h2,h3⟩:=hl s (by simp);have kk:∀ks:List Block,(∀k∈ks,eu d k)->Kj ks<=8*Iy ks:=λks=>by
     induction ks with
     | nil=>intro _;simp[Kj]
     | cons k ks ih=>
      intro hk;have a1:=ih λx hx=>hk x (by simp[hx]);have a2:=Zo d k (hk k (by simp));simp only[Kj,Iy];omega
    have i2:=kk s.kids h3;simp only[Lq,IP,nE,Kp,Mm];omega
  exact key b.steps h.2
section
variable {n : AL} {T : List Int -> Block -> Int} {N : Nat}
variable {xK : AL -> List Int -> Block -> List Int -> List Int -> Option Block} {xL : List AR -> List BM -> List Int -> List Int -> List Int -> List Step -> Block -> Option (Block × List Int × List Int × List Step)}
end
end RC
namespace RC
open Go
section
variable {n : AL} {R1 : AL -> List Int -> Block -> Option Int} {R2 : Aq -> List Int -> Block -> Option Int} {T : List Int -> Block -> Int} {s : Step} {v : List Int} {N : Nat} {t : Int}
theorem dH (V:SK n s v)(S:Hn n)(hN:2000000<=N)(h:s.op=9∨s.op=10)(ra:BT N R2 (Cg n) v s=some (t,true)):0<=s.num/\s.num<(n.AB.length:Int):=by
 obtain⟨b,sf,sd⟩:=Rf (n:=n) (s:=s) V.aP (by have:=V.KM;omega);rw[JT (by have:=V.KM;omega) V.Jf hN sd]at ra;cases ha:CK v s.args with
 | none=>rw[ha]at ra;simp at ra
 | some l=>
  rw[ha]at ra;have wR:=FW ha;have xE:l.length<=1048576:=by have:=V.Jf;omega
  cases b with
  | false=>simp at ra
  | true=>
   simp only[oG,nL]at ra;unfold CN at ra;rw[Ja,show MO s.op=false by unfold MO;rw[nY,mm,mm];omega]at ra;simp only[mR,mW,my]at ra;have h7:¬ s.op=7:=by omega
   have h8:¬ s.op=8:=by omega
   have hk:s.kids=[]:=by
    refine oD λq=>?_;have q':decide (0<Sh.len s.kids)=true:=by
     have:=pb.2 q;simp[Ae];omega
    simp[h7,h8,q']at ra
   simp only[h7,h8,nH,mW,my,hk,Ae,nj]at ra;have rp:Af N (Cg n) s.op s.num l=some (t,true):=bz ra;rw[show (Cg n)=⟨n.decls,(Cg n).funcs⟩ from rfl]at rp;have hG:(Cg n).funcs.length<=4:=by rw[Fp];exact S.Pb
   refine oD λq=>?_;rw[I5 hG h (by rw[Fp];omega)]at rp;simp at rp
end
def okB (m:Nat):Nat->Block->Prop
 | 0,_=>False
 | d+1,b=>b.steps.length<=50000/\∀s∈b.steps,(s.op=9∨s.op=10->0<=s.num/\s.num<(m:Int))/\s.args.length<=3/\s.kids.length<=3/\∀k∈s.kids,okB m d k
theorem okB.wf {m:Nat}:∀{d:Nat} {b:Block},okB m d b->eu d b
 | 0,_,h=>h.elim
 | d+1,_,h=>⟨h.1,λs hs=>⟨(h.2 s hs).2.1,(h.2 s hs).2.2.1,λk hk=>okB.wf ((h.2 s hs).2.2.2 k hk)⟩⟩
section
variable {n : AL} {T : List Int -> Block -> Int} {N : Nat}
theorem fA (HT:RY n (Bp N) (Bu N) T 601)(S:Hn n)(hN:2000000<=N){b:Block}(uH:JA b)(Ki:Bs b)(vn:Ku b=true)(hnb:GL b<=600){lw:List Int}{M i:Nat}(hi:i<=b.steps.length)(hM:b.steps.length-i<M):
  ∀w:List Int,w.length+4*IP (b.steps.drop i)<=4000->(∀x∈w,Cw n.decls x=true)->BE N n b (Bp N) M i w=some (.inr lw)->
   ∀s∈b.steps.drop i,(s.op=9∨s.op=10->0<=s.num/\s.num<(n.AB.length:Int))/\∃w:List Int,w.length+4*Ot s<=4000/\(∀x∈w,Cw n.decls x=true)/\ZZ n T s w:=by
 have hsl:=Ki.len;rw[SP,O2,ma]at vn;refine A4 b.steps.length (λM i=>∀w:List Int,w.length+4*IP (b.steps.drop i)<=4000->(∀x∈w,Cw n.decls x=true)->BE N n b (Bp N) M i w=some (.inr lw)->
   ∀s∈b.steps.drop i,(s.op=9∨s.op=10->0<=s.num/\s.num<(n.AB.length:Int))/\∃w:List Int,w.length+4*Ot s<=4000/\(∀x∈w,Cw n.decls x=true)/\ZZ n T s w) ?_ ?_ hi hM
 ·intro q w _ _ _ s hs;rw[nf]at hs;cases hs
 ·intro q i hi ih w hw ht vg;obtain⟨s,hs,tn⟩:=Ax hi;have hpls:=vn s tn;rw[Sl,bN]at hpls;simp only[mh,ob,mv]at hpls;obtain⟨⟨hctg,hinto⟩,_⟩:=hpls;rw[P9 hs]at hw;have hn1:=U3 tn;have hn2:=OM b;have hns:=Mm s;have hz:=Hr tn;have hbz:IB b<=1048576:=Ki;have V:SK n s w:=⟨uH.steps.1 s tn,by omega,by omega,ht⟩
  have HTs:RY n (Bp N) (Bu N) T (Ot s):=λv c a1 a2 a3 a4 a5=>HT v c a1 a2 (by omega) a4 a5;obtain⟨y,t,ok,e1,e2,e3⟩:=VH (T:=T) (N:=N) HTs V S hN;have f1:BE N n b (Bp N) (q+1) i w=Sh.cont (if decide (y<0)=true then some (Sum.inl (Sum.inl (-1))) else (Gv s.op).bind λwP=>if wP=true then (Sh.app w [y] 8).bind λzb=>some (Sum.inr zb) else some (Sum.inr w)) id λvz=>BE N n b (Bp N) q ((i+1:Nat):Int) vz:=by
   rw[BE,Cf,An hs,mR,e1,wN];rfl
  rw[f1]at vg;cases ok with
  | false=>
   simp only[mW,my]at e3;simp[e3,Sh.cont]at vg
  | true=>
   simp only[nL,hctg,mW,my]at e3;obtain⟨e3,rfl,e5,e6,e7⟩:=e3;have e3':¬ t<0:=by omega
   rw[mj (by simpa using e3'),Nm,show (decide (0<=s.op)&&decide (s.op<=11))=true by rw[mh,mv,mv];exact⟨e6,e7⟩]at vg;simp only[mR,nL]at vg;rw[DD w [t] 8 (by simp;omega) (by simp;omega)]at vg;simp only[mR,Sh.Il]at vg;have I:=dr HTs V S hN e6 e7 e2;have I2:=ih (w++[t]) (by simp;omega) (λx hx=>by
    rcases nM.1 hx with h|h
    ·exact ht x h
    ·simp only[nQ]at h;rw[h];exact e5) vg
   intro s' uD;rw[drop_cons hs]at uD;rcases mr.1 uD with rfl|uD
   ·exact⟨λh=>dH V S hN h e2,w,by omega,ht,I⟩
   ·exact I2 s' uD
theorem mB (HT:RY n (Bp N) (Bu N) T 601)(HB :∀(v:List Int) (b:Block),GL b<601->BK n b v->Dx N (Bp N) n v b=some (T v b))(S:Hn n)(hN:2000000<=N):∀(m:Nat),m<=601->∀(v:List Int) (b:Block),GL b<m->BK n b v->Ku b=true->0<=T v b->okB n.AB.length m b:=by
 intro m
 induction m with
 | zero=>intro _ v b h;omega
 | succ m ih=>
  intro hm v b hb B vn hT;have hpl':=vn;rw[SP,O2,ma]at hpl';have vr:v.length<=4000:=by have:=B.len;omega
  have sB:=OM b;have hB:=HB v b (by omega) B;have ⟨o,h1,_,h3⟩:=Si (T:=T) (b:=b) (v:=v) (N:=N) (R1:=Bp N) (R2:=Bu N) (λv c a1 a2 a3 a4 a5=>HT v c a1 a2 (by omega) a4 a5) B S hN;unfold Dx at hB;rw[fM (by omega)]at hB;simp only[mR]at hB;rw[h1]at hB;cases o with
  | none=>
   simp only[Option.elim_none,Sh.cont]at hB;simp at hB;omega
  | some lw=>
   simp only[oG]at h1;have hlen:=B.len;have K:=fA HT S hN B.WQ B.size vn (by omega) (lw:=lw) (mi _) (by have:=B.size.len;omega:b.steps.length-0<N) v (by rw[nP];omega) B.aP h1;rw[nP]at K;have xE:b.steps.length<=IP b.steps:=by
    have :∀l:List Step,l.length<=IP l:=λl=>by
     induction l with
     | nil=>simp
     | cons s l ih=>
      have:=Mm s;simp only[IP,nE];omega
    exact this _
   refine⟨by omega,λs hs=>?_⟩;obtain⟨k1,w,k2,k3,I⟩:=K s hs;refine⟨k1,I.Jf,dp I S,λk hk=>?_⟩;obtain⟨ms,_,f2,f3,f4,_⟩:=Yx I S hN;obtain⟨i,hi⟩:=oH hk;have tj:=(mT.1 hi).1;obtain⟨f,hf,hfm⟩:=Ax (l:=ms) (i:=i) (by omega);have a1:=U3 hs;have a3:=Mm s;have a4:=Zb hk;have hps:=hpl' s hs;rw[Sl,Sk]at hps;simp only[mh,ma]at hps;obtain⟨f5,f6⟩:=f3 f hfm;refine ih (by omega) (w++f) k (by omega) ⟨(B.WQ.steps.1 s hs).kids k hk,(Iv B.size hs hk).1,by rw[nW];omega,λx hx=>?_⟩ (hps.2 k hk) (f4 i f k hf hi);rcases nM.1 hx with h|h
   ·exact k3 x h
   ·exact f6 x h
end
end RC
namespace RC
open Go
def Pw (L:List (List Int))(o m:Int)(i:Nat):Bool:=decide (o=9)&&(match Sh.get L m with|some l=>decide ((i:Int)∈l)|none=>false)
def SG (L:List (List Int))(o m v:Int):Nat->List Int->Bool
 | _,[]=>false
 | i,a::r=>(decide (a=v)&&(Vp o&&!Pw L o m i)) || SG L o m v (i+1) r
mutual
def jI (L:List (List Int))(v:Int):Step->Bool|.mk o m _ a k=>SG L o m v 0 a || Sr L v k
def Sr (L:List (List Int))(v:Int):List (ET Step)->Bool|[]=>false|b::k=>cb L v b || Sr L v k
def cb (L:List (List Int))(v:Int):ET Step->Bool|⟨ss,r⟩=>decide (r=v) || TA L v ss
def TA (L:List (List Int))(v:Int):List Step->Bool|[]=>false|s::l=>jI L v s || TA L v l
end
theorem Xg (L:List (List Int))(v:Int)(s:Step):jI L v s=(SG L s.op s.num v 0 s.args || Sr L v s.kids):=by cases s;simp only[jI];rfl
theorem bC (L:List (List Int))(v:Int)(b:Block):cb L v b=(decide (b.result=v) || TA L v b.steps):=by cases b;simp only[cb]
def PL (m:Nat)(L:List (List Int)):Prop:=L.length=m/\∀l∈L,l.length<=3/\Y4 l
theorem PL.get {m:Nat}{L:List (List Int)}(h:PL m L){j:Int}(h0:0<=j)(h1:j<(m:Int)):∃l,Sh.get L j=some l/\l.length<=3/\Y4 l:=by
 obtain⟨l,hl,hm⟩:=Ax (l:=L) (i:=j.toNat) (by have:=h.1;omega);exact⟨l,by unfold Sh.get;rw[me h0,hl],h.2 l hm⟩
section
variable {L : List (List Int)} {m N : Nat} {s : Step} {v : Int}
theorem eN (P:PL m L)(hr:s.op=9∨s.op=10->0<=s.num/\s.num<(m:Int))(hN:2000000<=N)(i:Nat)(a:Int):(if (decide (a=v))=true then (F5 s.op).bind λxh=>if xh=true then if (!decide (s.op=9))=true then some true else (Sh.get L s.num).bind λc49=>(GN N c49 (i:Int)).bind λzZ=>some (!zZ) else some false else some false)=some (decide (a=v)&&(Vp s.op&&!Pw L s.op s.num i)):=by
 by_cases e:a=v
 ·rw[dg];simp only[e,nB,nL,mR,pR];cases hc:Vp s.op with
  | false=>simp
  | true=>
   by_cases h9:s.op=9
   ·obtain⟨l,g1,g2,g3⟩:=P.get (hr (.inl h9)).1 (hr (.inl h9)).2;simp only[h9,nB,nb,mW,nL,my,g1,mR,has_eq (l:=l) (v:=(i:Int)) (by omega) g3 hN,Pw,pR]
   ·simp[h9,Pw]
 ·simp[e]
theorem fq (P:PL m L)(hr:s.op=9∨s.op=10->0<=s.num/\s.num<(m:Int))(ha:s.args.length<=3)(hN:2000000<=N){M i:Nat}(hi:i<=s.args.length)(hM:s.args.length-i<M):C9 N s v L M (i:Int)=some (if SG L s.op s.num v i (s.args.drop i) then .inl true else .inr ()):=by
 refine A4 s.args.length (λM i=>C9 N s v L M (i:Int)=some (if SG L s.op s.num v i (s.args.drop i) then .inl true else .inr ())) ?_ ?_ hi hM
 ·intro q;rw[C9,CG,nf];rfl
 ·intro q i hi ih;obtain⟨a,hai,_⟩:=Ax hi;rw[C9,Cf,An hai,mR,eN P hr hN i a,mR,wN,ih,drop_cons hai,SG];cases decide (a=v)&&(Vp s.op&&!Pw L s.op s.num i)<;>simp
theorem ep {rec:Block->Int->List (List Int)->Option Bool}(hk:s.kids.length<=3)(rv :∀k∈s.kids,rec k v L=some (cb L v k)){M i:Nat}(hi:i<=s.kids.length)(hM:s.kids.length-i<M):C4 s v L rec M (i:Int)=some (if Sr L v (s.kids.drop i) then .inl true else .inr ()):=by
 refine A4 s.kids.length (λM i=>C4 s v L rec M (i:Int)=some (if Sr L v (s.kids.drop i) then .inl true else .inr ())) ?_ ?_ hi hM
 ·intro q;rw[C4,CG,nf];rfl
 ·intro q i hi ih;obtain⟨k,vY,vy⟩:=Ax hi;rw[C4,Cf,An vY,mR,rv k vy,mR,wN,ih,drop_cons vY,Sr];cases cb L v k<;>simp
theorem Z3 (P:PL m L)(hN:2000000<=N):∀(d f:Nat) (b:Block),okB m d b->d<=f->EP N f b v L=some (cb L v b)
 | 0,_,_,h,_=>h.elim
 | d+1,0,_,_,h=>by omega
 | d+1,f+1,b,⟨h1,h2⟩,hf=>by
  have key:∀{M i:Nat},i<=b.steps.length->b.steps.length-i<M->C8 N b v L (EP N f) M (i:Int)=some (if TA L v (b.steps.drop i) then .inl true else .inr ()):=by
   intro M i hi hM;refine A4 b.steps.length (λM i=>C8 N b v L (EP N f) M (i:Int)=some (if TA L v (b.steps.drop i) then .inl true else .inr ())) ?_ ?_ hi hM
   ·intro q;rw[C8,CG,nf];rfl
   ·intro q i hi ih;obtain⟨s,hs,tn⟩:=Ax hi;obtain⟨k1,k2,k3,k4⟩:=h2 s tn;have e2:=fq (v:=v) P k1 k2 hN (M:=N) (mi _) (by omega);have e3:=ep (s:=s) (v:=v) (L:=L) (rec:=EP N f) k3 (λk hk=>Z3 P hN d f k (k4 k hk) (by omega)) (M:=N) (mi _) (by omega);rw[nP,rD]at e2 e3;rw[C8,Cf,An hs,mR,e2,e3,wN,ih,drop_cons hs,TA,Xg];cases SG L s.op s.num v 0 s.args<;>cases Sr L v s.kids<;>simp[Sh.cont]
  have k0:=key (mi _) (by omega:b.steps.length-0<N);rw[nP,rD]at k0;rw[EP,Iw,k0,bC];by_cases e:b.result=v
  ·simp[e]
  ·cases TA L v b.steps<;>simp[e,Sh.cont]
def I1 (n:AL):List (List Int):=n.AB.map λr=>r.Ao
theorem cw {n:AL}(P:PL m (I1 n))(hr:s.op=9∨s.op=10->0<=s.num/\s.num<(m:Int))(hN:2000000<=N)(i:Nat)(a:Int)(ha:s.args[i]?=some a):((Sh.get s.args (i:Int)).bind λxA=>if (decide (xA=v))=true then (G8 s.op).bind λvq=>if vq=true then (Jx N n s (i:Int)).bind λq47=>some (!q47) else some false else some false)=some (decide (a=v)&&(Vp s.op&&!Pw (I1 n) s.op s.num i)):=by
 rw[An ha,mR];by_cases e:a=v
 ·rw[dV];simp only[e,nB,nL,mR,pR];cases hc:Vp s.op with
  | false=>simp
  | true=>
   unfold Jx;by_cases h9:s.op=9
   ·obtain⟨h0,h1⟩:=hr (.inl h9);obtain⟨l,g1,g2,g3⟩:=P.get h0 h1;have hg:∃r,Sh.get n.AB s.num=some r/\r.Ao=l:=by
     unfold Sh.get I1 at g1;rw[me h0,mX,mZ]at g1;obtain⟨r,g4,g5⟩:=g1;exact⟨r,by unfold Sh.get;rw[me h0,g4],g5⟩
    obtain⟨r,g4,g5⟩:=hg;simp only[h9,nB,nL,g4,g1,mR,g5,dM (l:=l) (x:=(i:Int)) (by omega) hN,Pw,pR]
   ·simp[h9,Pw]
 ·simp[e]
theorem fx {n:AL}(P:PL m (I1 n))(hr:s.op=9∨s.op=10->0<=s.num/\s.num<(m:Int))(ha:s.args.length<=3)(hN:2000000<=N){M i:Nat}(hi:i<=s.args.length)(hM:s.args.length-i<M):Bt N s n v M (i:Int)=some (if SG (I1 n) s.op s.num v i (s.args.drop i) then .inl true else .inr ()):=by
 refine A4 s.args.length (λM i=>Bt N s n v M (i:Int)=some (if SG (I1 n) s.op s.num v i (s.args.drop i) then .inl true else .inr ())) ?_ ?_ hi hM
 ·intro q;rw[Bt,CG,nf];rfl
 ·intro q i hi ih;obtain⟨a,hai,_⟩:=Ax hi;rw[Bt,Cf,cw P hr hN i a hai,mR,wN,ih,drop_cons hai,SG];cases decide (a=v)&&(Vp s.op&&!Pw (I1 n) s.op s.num i)<;>simp
theorem eR {n:AL}{rec:AL->Block->Int->Option Bool}(hk:s.kids.length<=3)(rv :∀k∈s.kids,rec n k v=some (cb (I1 n) v k)){M i:Nat}(hi:i<=s.kids.length)(hM:s.kids.length-i<M):Bq s n v rec M (i:Int)=some (if Sr (I1 n) v (s.kids.drop i) then .inl true else .inr ()):=by
 refine A4 s.kids.length (λM i=>Bq s n v rec M (i:Int)=some (if Sr (I1 n) v (s.kids.drop i) then .inl true else .inr ())) ?_ ?_ hi hM
 ·intro q;rw[Bq,CG,nf];rfl
 ·intro q i hi ih;obtain⟨k,vY,vy⟩:=Ax hi;rw[Bq,Cf,An vY,mR,rv k vy,mR,wN,ih,drop_cons vY,Sr];cases cb (I1 n) v k<;>simp
theorem Yw {n:AL}(P:PL m (I1 n))(hN:2000000<=N):∀(d f:Nat) (b:Block),okB m d b->d<=f->CY N f n b v=some (cb (I1 n) v b)
 | 0,_,_,h,_=>h.elim
 | d+1,0,_,_,h=>by omega
 | d+1,f+1,b,⟨h1,h2⟩,hf=>by
  have key:∀{M i:Nat},i<=b.steps.length->b.steps.length-i<M->Br N n b v (CY N f) M (i:Int)=some (if TA (I1 n) v (b.steps.drop i) then .inl true else .inr ()):=by
   intro M i hi hM;refine A4 b.steps.length (λM i=>Br N n b v (CY N f) M (i:Int)=some (if TA (I1 n) v (b.steps.drop i) then .inl true else .inr ())) ?_ ?_ hi hM
   ·intro q;rw[Br,CG,nf];rfl
   ·intro q i hi ih;obtain⟨s,hs,tn⟩:=Ax hi;obtain⟨k1,k2,k3,k4⟩:=h2 s tn;have e2:=fx (v:=v) P k1 k2 hN (M:=N) (mi _) (by omega);have e3:=eR (s:=s) (v:=v) (n:=n) (rec:=CY N f) k3 (λk hk=>Yw P hN d f k (k4 k hk) (by omega)) (M:=N) (mi _) (by omega);rw[nP,rD]at e2 e3;rw[Br,Cf,An hs,mR,e2,e3,wN,ih,drop_cons hs,TA,Xg];cases SG (I1 n) s.op s.num v 0 s.args<;>cases Sr (I1 n) v s.kids<;>simp[Sh.cont]
  have k0:=key (mi _) (by omega:b.steps.length-0<N);rw[nP,rD]at k0;rw[CY,Gg,k0,bC];by_cases e:b.result=v
  ·simp[e]
  ·cases TA (I1 n) v b.steps<;>simp[e,Sh.cont]
end
end RC
namespace RC
open Go
mutual
def jl (f:Int):Step->Bool|.mk o m _ _ k=>(decide (o=10)&&decide (m=f)) || UY f k
def UY (f:Int):List (ET Step)->Bool|[]=>false|b::k=>WM f b || UY f k
def WM (f:Int):ET Step->Bool|⟨ss,_⟩=>VY f ss
def VY (f:Int):List Step->Bool|[]=>false|s::l=>jl f s || VY f l
end
theorem br (f:Int)(s:Step):jl f s=((decide (s.op=10)&&decide (s.num=f)) || UY f s.kids):=by cases s;simp only[jl];rfl
theorem bu (f:Int)(b:Block):WM f b=VY f b.steps:=by cases b;simp only[WM]
def Uc (f:Int)(l:List AP):Bool:=l.any λr=>WM f r.body
def zp (p:Int->Bool)(L:List (List Int)):List (List Int):=L.mapIdx λ(i:Nat) l=>if p i then [] else l
theorem QG (p:Int->Bool)(L:List (List Int)):(zp p L).length=L.length:=by simp[zp]
theorem QE (p:Int->Bool)(L:List (List Int))(i:Nat):(zp p L)[i]?=(L[i]?).map λl=>if p i then [] else l:=by simp[zp]
theorem Xu (p q:Int->Bool)(L:List (List Int)):zp q (zp p L)=zp (λg=>p g || q g) L:=by
 refine oU λi=>?_;rw[QE,QE,QE,Option.map_map];congr 1;funext l;simp only[Function.comp];cases p i<;>cases q i<;>rfl
theorem Xb (L:List (List Int)):zp (λ_=>false) L=L:=by
 refine oU λi=>?_;rw[QE];simp
theorem iE {L:List (List Int)}{j:Int}(h0:0<=j):Sh.put L j []=zp (λg=>decide (j=g)) L:=by
 refine oU λi=>?_;rw[QE];unfold Sh.put;by_cases e:j.toNat=i
 ·subst e;by_cases hl:j.toNat<L.length
  ·rw[mc hl,mY hl];simp;omega
  ·rw[nG (by simp;omega),nG (by omega)];rfl
 ·rw[mq e];have:¬ j=(i:Int):=by omega
  simp[this]
section
variable {m N : Nat} {s : Step}
theorem gw {L:List (List Int)}(hl:L.length=m)(hr:s.op=9∨s.op=10->0<=s.num/\s.num<(m:Int)):G5 L s=some (zp (λg=>decide (s.op=10)&&decide (s.num=g)) L):=by
 unfold G5;by_cases h:s.op=10
 ·obtain⟨h0,h1⟩:=hr (.inr h);obtain⟨l,hg,_⟩:=Ax (l:=L) (i:=s.num.toNat) (by omega);rw[me (by simpa using h),show Sh.get L s.num=some l by unfold Sh.get;rw[me h0,hg],mR,iE h0];simp[h]
 ·rw[mj (by simpa using h)];simp[h,Xb]
theorem iG {rec:List (List Int)->Block->Option (List (List Int))}(hk:s.kids.length<=3)(rv :∀k∈s.kids,∀L:List (List Int),L.length=m->rec L k=some (zp (λg=>WM g k) L)){M i:Nat}(hi:i<=s.kids.length)(hM:s.kids.length-i<M):∀L:List (List Int),L.length=m->BU s rec M (i:Int) L=some (zp (λg=>UY g (s.kids.drop i)) L):=by
 refine A4 s.kids.length (λM i=>∀L:List (List Int),L.length=m->BU s rec M (i:Int) L=some (zp (λg=>UY g (s.kids.drop i)) L)) ?_ ?_ hi hM
 ·intro q L _;rw[BU,CG,nf];simp only[UY,Xb]
 ·intro q i hi ih L hL;obtain⟨k,vY,vy⟩:=Ax hi;rw[BU,Cf,An vY,mR,rv k vy L hL,mR,wN,ih _ (by rw[QG,hL]),Xu,drop_cons vY];simp only[UY]
theorem cH:∀(d f:Nat) (b:Block),okB m d b->d<=f->f<=N->2000000<=N->∀L:List (List Int),L.length=m->BY N f L b=some (zp (λg=>WM g b) L)
 | 0,_,_,h,_,_,_=>h.elim
 | d+1,0,_,_,h,_,_=>by omega
 | d+1,f+1,b,⟨h1,h2⟩,hf,hfN,hN=>λL hL=>by
  have key:∀{M i:Nat},i<=b.steps.length->b.steps.length-i<M->∀L:List (List Int),L.length=m->BV N b (BY N f) M (i:Int) L=some (zp (λg=>VY g (b.steps.drop i)) L):=by
   intro M i hi hM;refine A4 b.steps.length (λM i=>∀L:List (List Int),L.length=m->BV N b (BY N f) M (i:Int) L=some (zp (λg=>VY g (b.steps.drop i)) L)) ?_ ?_ hi hM
   ·intro q L _;rw[BV,CG,nf];simp only[VY,Xb]
   ·intro q i hi ih L hL;obtain⟨s,hs,tn⟩:=Ax hi;obtain⟨k1,k2,k3,k4⟩:=h2 s tn;have e2:=iG (s:=s) (rec:=BY N f) k3 (λk hk=>cH d f k (k4 k hk) (by omega) (by omega) hN) (M:=N) (mi _) (by omega) (zp (λg=>decide (s.op=10)&&decide (s.num=g)) L) (by rw[QG,hL]);rw[nP,rD]at e2;rw[BV,Cf,An hs,mR,gw hL k1,mR,e2,mR,wN,ih _ (by rw[QG,QG,hL]),Xu,Xu,drop_cons hs];simp only[VY,br,Bool.or_assoc]
  have k0:=key (mi _) (by omega:b.steps.length-0<N) L hL;rw[nP,rD]at k0;rw[BY,Fo,k0,mR];simp only[bu]
theorem et {b:Block}{s:Step}{i:Nat}{g:Int}{rec:Block->Int->Option Bool}(hs:b.steps[i]?=some s)(hk:s.kids.length<=3)(rv :∀k∈s.kids,rec k g=some (WM g k)){M j:Nat}(hj:j<=s.kids.length)(hM:s.kids.length-j<M):C5 (i:Int) b g rec M (j:Int)=some (if UY g (s.kids.drop j) then .inl true else .inr ()):=by
 refine A4 s.kids.length (λM j=>C5 (i:Int) b g rec M (j:Int)=some (if UY g (s.kids.drop j) then .inl true else .inr ())) ?_ ?_ hj hM
 ·intro q;rw[C5,An hs,mR,CG,nf];rfl
 ·intro q j hj ih;obtain⟨k,vY,vy⟩:=Ax hj;rw[C5,An hs,mR,Cf,An vY,mR,rv k vy,mR,wN,ih,drop_cons vY,UY];cases WM g k<;>simp
theorem Yq {g:Int}(hN:2000000<=N):∀(d f:Nat) (b:Block),okB m d b->d<=f->ES N f b g=some (WM g b)
 | 0,_,_,h,_=>h.elim
 | d+1,0,_,_,h=>by omega
 | d+1,f+1,b,⟨h1,h2⟩,hf=>by
  have key:∀{M i:Nat},i<=b.steps.length->b.steps.length-i<M->C6 N b g (ES N f) M (i:Int)=some (if VY g (b.steps.drop i) then .inl true else .inr ()):=by
   intro M i hi hM;refine A4 b.steps.length (λM i=>C6 N b g (ES N f) M (i:Int)=some (if VY g (b.steps.drop i) then .inl true else .inr ())) ?_ ?_ hi hM
   ·intro q;rw[C6,CG,nf];rfl
   ·intro q i hi ih;obtain⟨s,hs,tn⟩:=Ax hi;obtain⟨k1,k2,k3,k4⟩:=h2 s tn;have e2:=et (g:=g) (rec:=ES N f) hs k3 (λk hk=>Yq hN d f k (k4 k hk) (by omega)) (M:=N) (mi _) (by omega);rw[nP,rD]at e2;rw[C6,Cf,An hs,mR,e2,wN,ih,drop_cons hs];simp only[VY,br];by_cases h:s.op=10
    ·by_cases h':s.num=g
     ·simp[h,h']
     ·cases UY g s.kids<;>simp[h,h',Sh.cont]
    ·cases UY g s.kids<;>simp[h,Sh.cont]
  have k0:=key (mi _) (by omega:b.steps.length-0<N);rw[nP,rD]at k0;rw[ES,Im,k0,bu];cases VY g b.steps<;>rfl
structure RK (n:AL) (m:Nat):Prop where
 len:n.AB.length=m
 le:m<=4
 Qb :∀r∈n.AB,okB m 601 r.body/\r.params.length<=3/\r.Ao.length<=3
 bs :∀r∈n.AB,Bs r.body
 dl:n.decls.length<=1048576
 kv :∀d∈n.decls,dz d<=1048576
variable {n : AL}
theorem X2 (K:RK n m)(hN:2000000<=N)(g:Int):II N n g=some (Uc g n.AB):=by
 have hl:=K.len;have hle:=K.le;have key:∀{M i:Nat},i<=n.AB.length->n.AB.length-i<M->Dz N n g M (i:Int)=some (if Uc g (n.AB.drop i) then .inl true else .inr ()):=by
  intro M i hi hM;refine A4 n.AB.length (λM i=>Dz N n g M (i:Int)=some (if Uc g (n.AB.drop i) then .inl true else .inr ())) ?_ ?_ hi hM
  ·intro q;rw[Dz,CG,nf];rfl
  ·intro q i hi ih;obtain⟨r,hr,uZ⟩:=Ax hi;unfold Jw at *;rw[Dz,Cf,An hr,mR];unfold Jw;rw[Yq hN 601 N r.body (K.Qb r uZ).1 (by omega),mR,wN,ih,drop_cons hr];simp only[Uc,qT];by_cases hcb:WM g r.body=true
   ·simp[hcb]
   ·simp[hcb]
 have k0:=key (mi _) (by omega:n.AB.length-0<N);rw[nP,rD]at k0;unfold II;rw[k0];cases Uc g n.AB<;>rfl
def Lt (n:AL):List (List Int):=n.AB.map λr=>hf 0 r.params
def Pt (n:AL):List (List Int):=zp (λg=>Uc g n.AB) (Lt n)
theorem VN (n:AL):(Pt n).length=n.AB.length:=by simp[Pt,QG,Lt]
theorem Yr {i:Nat}{r:AP}(h:n.AB[i]?=some r):(Pt n)[i]?=some (if Uc i n.AB then [] else hf 0 r.params):=by
 rw[Pt,QE,Lt,mX,h];rfl
theorem Va (K:RK n m)(hN:2000000<=N):G7 N n=some (Pt n):=by
 have hl:=K.len;have hle:=K.le;have key:∀{M i:Nat},i<=n.AB.length->n.AB.length-i<M->DB N n M (i:Int) ((Pt n).take i)=some (Pt n):=by
  intro M i hi hM;refine A4 n.AB.length (λM i=>DB N n M (i:Int) ((Pt n).take i)=some (Pt n)) ?_ ?_ hi hM
  ·intro q;rw[DB,CG,<- VN,nT]
  ·intro q i hi ih;obtain⟨r,hr,uZ⟩:=Ax hi;have hc:=Yr hr;rw[CO hc]at ih;rw[DB,Cf,X2 K hN,mR,wN];cases uL:Uc (i:Int) n.AB with
   | true=>
    rw[uL]at ih;simp only[nL];rw[DD _ _ 24 (by simp;omega) (by simp;omega),mR,mR];exact ih
   | false=>
    rw[uL]at ih;simp only[mW,my]at ih⊢;rw[An hr,mR,Yb (by have:=(K.Qb r uZ).2.1;omega) (by omega) (by omega) hN,mR,DD _ _ 24 (by simp;omega) (by simp;omega),mR,mR];exact ih
 have k0:=key (mi _) (by omega:n.AB.length-0<N);unfold G7;rw[rD,oO]at k0;rw[k0];rfl
theorem jB {c:AP}(hp:c.params.length<=3){A C:List (List Int)}(hA:A.length<=4)(hN:2000000<=N):Ck N c (A.length:Int) N 0 (A++[]::C)=some (A++hf 0 c.params::C):=by
 have key:∀{M i:Nat},i<=c.params.length->c.params.length-i<M->Ck N c (A.length:Int) M (i:Int) (A++hf 0 (c.params.take i)::C)=some (A++hf 0 c.params::C):=by
  intro M i hi hM;refine A4 c.params.length (λM i=>Ck N c (A.length:Int) M (i:Int) (A++hf 0 (c.params.take i)::C)=some (A++hf 0 c.params::C)) ?_ ?_ hi hM
  ·intro q;rw[Ck,CG,nT]
  ·intro q i hi ih;obtain⟨t,ht,_⟩:=Ax hi;have hle:=Ul 0 (c.params.take i);rw[nw]at hle;rw[CO ht,U1,nw,ou (by omega)]at ih;rw[Ck,Cf,An ht,mR,wN];by_cases z:t=0
   ·rw[me z]at ih;simp only[z,nB,nb,mW,my,mR];simpa using ih
   ·rw[mj z]at ih;simp only[z,nH,pV,nL];rw[Ek,mR,dI (by omega) (λx hx=>by have:=(YR _ _ _ hx).2;rw[nw]at this;omega) hN,mR,GX,mR];simpa using ih
 have k0:=key (mi _) (by omega:c.params.length-0<N);rw[rD,oO]at k0;exact k0
theorem hH (K:RK n m)(hN:2000000<=N):CL N n N 0 (List.replicate n.AB.length [])=some (Lt n):=by
 have hl:=K.len;have hle:=K.le;have key:∀{M i:Nat},i<=n.AB.length->n.AB.length-i<M->CL N n M (i:Int) ((Lt n).take i++List.replicate (n.AB.length-i) [])=some (Lt n):=by
  intro M i hi hM;refine A4 n.AB.length (λM i=>CL N n M (i:Int) ((Lt n).take i++List.replicate (n.AB.length-i) [])=some (Lt n)) ?_ ?_ hi hM
  ·intro q;have:(Lt n).length=n.AB.length:=by simp[Lt]
   rw[CL,CG,<- this,nT,oo];simp
  ·intro q i hi ih;obtain⟨r,hr,uZ⟩:=Ax hi;have hc:(Lt n)[i]?=some (hf 0 r.params):=by rw[Lt,mX,hr];rfl
   have hA:((Lt n).take i).length=i:=by simp[Lt];omega
   have e:=jB (c:=r) (K.Qb r uZ).2.1 (A:=(Lt n).take i) (C:=List.replicate (n.AB.length-(i+1)) []) (by omega) hN;rw[hA]at e;rw[CL,Cf,An hr,mR,show n.AB.length-i=(n.AB.length-(i+1))+1 by omega,List.replicate_succ,e,mR,wN];rw[CO hc,np]at ih;exact ih
 have k0:=key (mi _) (by omega:n.AB.length-0<N);rw[rD,oO,ny,pq]at k0;exact k0
theorem ig (K:RK n m)(hN:2000000<=N):CJ N n N 0 (Lt n)=some (Pt n):=by
 have hl:=K.len;have hle:=K.le;have key:∀{M i:Nat},i<=n.AB.length->n.AB.length-i<M->∀L:List (List Int),L.length=m->CJ N n M (i:Int) L=some (zp (λg=>Uc g (n.AB.drop i)) L):=by
  intro M i hi hM;refine A4 n.AB.length (λM i=>∀L:List (List Int),L.length=m->CJ N n M (i:Int) L=some (zp (λg=>Uc g (n.AB.drop i)) L)) ?_ ?_ hi hM
  ·intro q L _;rw[CJ,CG,nf];simp only[Uc,List.any_nil,Xb]
  ·intro q i hi ih L hL;obtain⟨r,hr,uZ⟩:=Ax hi;rw[CJ,Cf,An hr,mR];unfold JV;rw[cH 601 N r.body (K.Qb r uZ).1 (by omega) (ml _) hN L hL,mR,wN,ih _ (by rw[QG,hL]),Xu,drop_cons hr];simp only[Uc,qT]
 have k0:=key (mi _) (by omega:n.AB.length-0<N) (Lt n) (by simp[Lt,hl]);rw[rD,nP]at k0;exact k0
end
end RC
namespace RC
open Go
def Le (X L:List (List Int)):Prop:=∀(f:Nat) x l,X[f]?=some x->L[f]?=some l->∀v∈x,v∈l
theorem dL {X L:List (List Int)}(hl:X.length=L.length)(h:Le X L){o m:Int}{i:Nat}(hx:Pw X o m i=true):Pw L o m i=true:=by
 unfold Pw at hx⊢;rw[mh]at hx⊢;refine⟨hx.1,?_⟩;have h2:=hx.2;unfold Sh.get at h2⊢;by_cases h0:0<=m
 ·rw[me h0]at h2⊢;cases hm:X[m.toNat]? with
  | none=>rw[hm]at h2;cases h2
  | some x=>
   have:=(mT.1 hm).1;obtain⟨l,uW,_⟩:=Ax (l:=L) (i:=m.toNat) (by omega);rw[hm]at h2;rw[uW];simp only[mv]at h2⊢;exact h _ x l hm uW _ h2
 ·rw[mj h0]at h2;cases h2
theorem Zy (L:List (List Int))(v:Int):∀l:List Step,TA L v l=l.any (jI L v)
 | []=>rfl
 | s::l=>by rw[TA,Zy L v l,qT]
theorem Yk (L:List (List Int))(v:Int):∀k:List Block,Sr L v k=k.any (cb L v)
 | []=>rfl
 | b::k=>by rw[Sr,Yk L v k,qT]
section
variable {X L : List (List Int)} {v : Int} {m : Nat}
theorem Wt (h :∀o m i,Pw X o m i=true->Pw L o m i=true){o p:Int}:∀(a:List Int) (i:Nat),SG L o p v i a=true->SG X o p v i a=true
 | [],_,h0=>h0
 | a::r,i,h0=>by
  rw[SG,pJ]at h0⊢;rcases h0 with h0|h0
  ·left;simp only[mh,ob]at h0⊢;refine⟨h0.1,h0.2.1,?_⟩;cases e:Pw X o p i with
   | false=>rfl
   | true=>rw[h _ _ _ e]at h0;exact absurd h0.2.2 (by simp)
  ·exact .inr (Wt h r (i+1) h0)
theorem Zx (h :∀o m i,Pw X o m i=true->Pw L o m i=true):∀(d:Nat) (b:Block),okB m d b->cb L v b=true->cb X v b=true
 | 0,_,h,_=>h.elim
 | d+1,b,⟨_,h2⟩,hb=>by
  rw[bC,pJ]at hb⊢;rcases hb with hb|hb
  ·exact .inl hb
  ·right;rw[Zy,List.any_eq_true]at hb⊢;obtain⟨s,hs,hb⟩:=hb;obtain⟨_,_,_,k4⟩:=h2 s hs;refine⟨s,hs,?_⟩;rw[Xg,pJ]at hb⊢;rcases hb with hb|hb
   ·exact .inl (Wt h _ _ hb)
   ·right;rw[Yk,List.any_eq_true]at hb⊢;obtain⟨k,hk,hb⟩:=hb;exact⟨k,hk,Zx h d k (k4 k hk) hb⟩
end
def kp (L:List (List Int))(r:AP)(l:List Int):List Int:=l.filter λv=>!cb L v r.body
theorem Nx (L:List (List Int))(r:AP)(l:List Int):(kp L r l).length<=l.length:=List.length_filter_le ..
theorem fU {L:List (List Int)}{r:AP}{l:List Int}(h:l.length<=(kp L r l).length):kp L r l=l:=List.filter_sublist.eq_of_length (Nat.le_antisymm (Nx L r l) h)
theorem bk {L:List (List Int)}{r:AP}{l:List Int}(h:kp L r l=l):∀v∈l,cb L v r.body=false:=λv hv=>by
 have:=List.filter_eq_self.1 h v hv;simpa using this
def dt (C L:List (List Int)):Prop:=L.length=C.length/\∀(f:Nat) c l,C[f]?=some c->L[f]?=some l->∃p:Int->Bool,l=c.filter p
def JQ (n:AL)(X:List (List Int)):Prop:=∀(f:Nat) r x,n.AB[f]?=some r->X[f]?=some x->∀v∈x,cb X v r.body=false
structure Inv (n:AL) (C L:List (List Int)):Prop where
 T5:dt C L
 max :∀X,dt C X->JQ n X->Le X L
theorem dt.refl (C:List (List Int)):dt C C:=⟨rfl,λf c l h1 h2=>⟨λ_=>true,by rw[h1]at h2;cases h2;exact (List.filter_eq_self.2 λ_ _=>rfl).symm⟩⟩
theorem Tr (n:AL)(C:List (List Int)):Inv n C C:=⟨dt.refl C,λX hX _ f x l h1 h2 v hv=>by
 obtain⟨p,rfl⟩:=hX.2 f l x h2 h1;exact (qb.1 hv).1⟩
theorem fX {n:AL}{C Z Y:List (List Int)}(h1:Inv n C Z)(c1:JQ n Z)(h2:Inv n C Y)(c2:JQ n Y):Z=Y:=by
 refine oU λf=>?_;have e1:=h1.T5.1;have e2:=h2.T5.1;by_cases hf:f<C.length
 ·obtain⟨c,hc,_⟩:=Ax hf;obtain⟨z,hz,_⟩:=Ax (l:=Z) (i:=f) (by omega);obtain⟨y,hy,_⟩:=Ax (l:=Y) (i:=f) (by omega);obtain⟨p,hp⟩:=h1.T5.2 f c z hc hz;obtain⟨q,hq⟩:=h2.T5.2 f c y hc hy;have m1:=h2.max Z h1.T5 c1 f z y hz hy;have m2:=h1.max Y h2.T5 c2 f y z hy hz;rw[hz,hy];subst hp;subst hq;refine nO some (List.filter_congr λv hv=>?_);have a1:=m1 v;have a2:=m2 v;simp only[qb,hv,true_and]at a1 a2;cases e:p v<;>cases e':q v<;>simp_all
 ·rw[nG (by omega),nG (by omega)]
section
variable {n : AL} {C L : List (List Int)} {m : Nat}
theorem W3 (K :∀r∈n.AB,okB m 601 r.body)(I:Inv n C L){f:Nat}{r:AP}{l:List Int}(hr:n.AB[f]?=some r)(hl:L[f]?=some l){X:List (List Int)}(hX:dt C X)(cX:JQ n X){x:List Int}(hx:X[f]?=some x):∀v∈x,v∈kp L r l:=λv hv=>by
 have hle:=I.max X hX cX;refine qb.2 ⟨hle f x l hx hl v hv,?_⟩;have h1:=cX f r x hr hx v hv;cases e:cb L v r.body with
 | false=>rfl
 | true=>
  rw[Zx (X:=X) (L:=L) (λo m i=>dL (hX.1.trans I.T5.1.symm) hle) 601 r.body (K r (mS hr)) e]at h1;cases h1
theorem Inv.set (K :∀r∈n.AB,okB m 601 r.body)(I:Inv n C L){f:Nat}{r:AP}{l:List Int}(hr:n.AB[f]?=some r)(hl:L[f]?=some l):Inv n C (L.set f (kp L r l)):=by
 have rh:=(mT.1 hl).1;refine⟨⟨by rw[pd];exact I.T5.1,λg c y hc hy=>?_⟩,λX hX cX g x y hx hy=>?_⟩
 ·by_cases e:f=g
  ·subst e;rw[mc rh,mU]at hy;obtain⟨p,rfl⟩:=I.T5.2 f c l hc hl;subst hy;exact⟨_,List.filter_filter⟩
  ·rw[mq e]at hy;exact I.T5.2 g c y hc hy
 ·by_cases e:f=g
  ·subst e;rw[mc rh,mU]at hy;subst hy;exact W3 K I hr hl hX cX hx
  ·rw[mq e]at hy;exact I.max X hX cX g x y hx hy
def jc (n:AL)(L:List (List Int)):List (List Int):=List.zipWith (kp L) n.AB L
theorem QC (h:L.length=n.AB.length):(jc n L).length=L.length:=by simp[jc,h]
theorem Uf {f:Nat}{r:AP}{l:List Int}(hr:n.AB[f]?=some r)(hl:L[f]?=some l):(jc n L)[f]?=some (kp L r l):=by
 rw[jc,pS,hr,hl]
theorem Inv.jc (K :∀r∈n.AB,okB m 601 r.body)(I:Inv n C L)(h:L.length=n.AB.length):Inv n C (jc n L):=by
 have key:∀(g:Nat) y,(RC.jc n L)[g]?=some y->∃r l,n.AB[g]?=some r/\L[g]?=some l/\y=kp L r l:=λg y hy=>by
  have:=(mT.1 hy).1;rw[QC h]at this;obtain⟨r,hr,_⟩:=Ax (l:=n.AB) (i:=g) (by omega);obtain⟨l,hl,_⟩:=Ax (l:=L) (i:=g) (by omega);rw[Uf hr hl,mU]at hy;exact⟨r,l,hr,hl,hy.symm⟩
 refine⟨⟨by rw[QC h];exact I.T5.1,λg c y hc hy=>?_⟩,λX hX cX g x y hx hy=>?_⟩
 ·obtain⟨r,l,hr,hl,rfl⟩:=key g y hy;obtain⟨p,rfl⟩:=I.T5.2 g c l hc hl;exact⟨_,List.filter_filter⟩
 ·obtain⟨r,l,hr,hl,rfl⟩:=key g y hy;exact W3 K I hr hl hX cX hx
theorem JQ.kX (h:L.length=n.AB.length)(e:jc n L=L):JQ n L:=λf r l hr hl=>by
 have:=Uf hr hl;rw[e,hl,mU]at this;exact bk this.symm
def sz (L:List (List Int)):Nat:=(L.map List.length).sum
theorem cY:∀(L:List (List Int)) (f:Nat) (l q:List Int),L[f]?=some l->sz (L.set f q)+l.length=sz L+q.length
 | [],f,l,q,h=>by simp at h
 | a::L,0,l,q,h=>by
  simp only[mw,mU]at h;subst h;simp only[List.set_cons_zero,sz,mz,oV];omega
 | a::L,f+1,l,q,h=>by
  have:=cY L f l q (by simpa using h);simp only[sz]at this;simp only[List.set_cons_succ,sz,mz,oV];omega
theorem ca (L0:List (List Int)):∀(R:List AP) (L:List (List Int)),L.length=R.length->sz (List.zipWith (kp L0) R L)<=sz L/\(sz L<=sz (List.zipWith (kp L0) R L)->List.zipWith (kp L0) R L=L)
 | [],[],_=>⟨ml _,λ_=>rfl⟩
 | [],_::_,h=>by simp at h
 | _::_,[],h=>by simp at h
 | r::R,l::L,h=>by
  obtain⟨h1,h2⟩:=ca L0 R L (by simpa using h);have h3:=Nx L0 r l;simp only[sz]at h1 h2;simp only[List.zipWith_cons_cons,sz,mz,oV];refine⟨by omega,λh4=>?_⟩;rw[fU (L:=L0) (r:=r) (l:=l) (by omega),h2 (by omega)]
theorem ji (h:L.length=n.AB.length):sz (jc n L)<=sz L/\(sz L<=sz (jc n L)->jc n L=L):=ca L n.AB L h
theorem PL.set {f:Nat}{r:AP}{l:List Int}(P:PL m L)(hl:L[f]?=some l):PL m (L.set f (kp L r l)):=by
 refine⟨by rw[pd];exact P.1,λx hx=>?_⟩;rcases nd hx with hx|rfl
 ·exact P.2 x hx
 ·obtain⟨h1,h2⟩:=P.2 l (mS hl);exact⟨om (Nx L r l) h1,List.Pairwise.filter _ h2⟩
theorem PL.jc (P:PL m L)(h:n.AB.length=m):PL m (jc n L):=by
 refine⟨by rw[QC (P.1.trans h.symm)];exact P.1,λx hx=>?_⟩;obtain⟨i,hi⟩:=oH hx;have rh:=(mT.1 hi).1;rw[QC (P.1.trans h.symm)]at rh;obtain⟨r,hr,_⟩:=Ax (l:=n.AB) (i:=i) (by have:=P.1;omega);obtain⟨l,hl,hlm⟩:=Ax (l:=L) (i:=i) rh;rw[Uf hr hl,mU]at hi;subst hi;obtain⟨h1,h2⟩:=P.2 l hlm;exact⟨om (Nx L r l) h1,List.Pairwise.filter _ h2⟩
theorem PL.sz (P:PL m L):sz L<=3*m:=by
 have:=LF (f:=List.length) (c:=3) (l:=L) λx hx=>(P.2 x hx).1;rw[P.1]at this;exact this
end
end RC
namespace RC
open Go
section
variable {n : AL} {L : List (List Int)} {m N : Nat}
theorem gr (P:PL m L){r:AP}(hb:okB m 601 r.body){c:List Int}(hc:c.length<=3)(hN:2000000<=N):Fl N c r.params r.Ao r.result r.body.steps r.body.result L=some (kp L r c):=by
 have e0:Block.mk r.body.steps r.body.result=r.body:=rfl;have key:∀{M i:Nat},i<=c.length->c.length-i<M->B0 N c r.params r.Ao r.result r.body.steps r.body.result L M (i:Int) (kp L r (c.take i))=some (kp L r c):=by
  intro M i hi hM;refine A4 c.length (λM i=>B0 N c r.params r.Ao r.result r.body.steps r.body.result L M (i:Int) (kp L r (c.take i))=some (kp L r c)) ?_ ?_ hi hM
  ·intro q;rw[B0,CG,nT]
  ·intro q i hi ih;obtain⟨v,hv,_⟩:=Ax hi;have hle:=Nx L r (c.take i);rw[nw]at hle;have hk:kp L r (c.take (i+1))=kp L r (c.take i)++(if cb L v r.body then [] else [v]):=by
    unfold kp;rw[CO hv,List.filter_append];by_cases hcb:cb L v r.body=true<;>simp[hcb]
   rw[hk]at ih;rw[B0,Cf,An hv,mR];unfold Jk L9;rw[e0,Z3 P hN 601 N r.body hb (by omega),mR,mR,wN];cases hcb:cb L v r.body with
   | true=>
    rw[hcb]at ih;simp only[nb,mW,my,nL,mR,oE]at ih⊢;exact ih
   | false=>
    rw[hcb]at ih;simp only[pV,mW,my,nL]at ih⊢;rw[DD _ _ 8 (by simp;omega) (by simp;omega)];exact ih
 have k0:=key (mi _) (by omega:c.length-0<N);rw[rD,oO,show kp L r []=[] from rfl]at k0;unfold Fl;rw[k0];rfl
theorem eb (K:RK n m)(hN:2000000<=N){C:List (List Int)}{M i:Nat}(hi:i<=n.AB.length)(hM:n.AB.length-i<M):∀(more:Bool) (L:List (List Int)),PL m L->Inv n C L->∃tN L',Ey N n M more (i:Int) L=some (tN,L')/\PL m L'/\Inv n C L'/\sz L'<=sz L/\(tN=true->more=true∨sz L'<sz L)/\
   (tN=false->more=false/\L'=L/\∀(f:Nat) r l,i<=f->n.AB[f]?=some r->L[f]?=some l->kp L r l=l):=by
 have hl:=K.len;have hle:=K.le;refine A4 n.AB.length (λM i=>∀(more:Bool) (L:List (List Int)),PL m L->Inv n C L->∃tN L',Ey N n M more (i:Int) L=some (tN,L')/\PL m L'/\Inv n C L'/\sz L'<=sz L/\(tN=true->more=true∨sz L'<sz L)/\
   (tN=false->more=false/\L'=L/\∀(f:Nat) r l,i<=f->n.AB[f]?=some r->L[f]?=some l->kp L r l=l)) ?_ ?_ hi hM
 ·intro q more L P I;refine⟨more,L,by rw[Ey,CG],P,I,ml _,λh=>.inl h,λh=>⟨h,rfl,λf r l hf hr _=>?_⟩⟩;have:=(mT.1 hr).1;omega
 ·intro q i hi ih more L P I;obtain⟨r,hr,uZ⟩:=Ax hi;obtain⟨c,hc,vJ⟩:=Ax (l:=L) (i:=i) (by have:=P.1;omega);have uL:=(P.2 c vJ).1;have vK:=Nx L r c;have hs:=cY L i c (kp L r c) hc;obtain⟨tN,L',g1,g2,g3,g4,g5,g6⟩:=ih (more || decide ((kp L r c).length<c.length)) (L.set i (kp L r c)) (P.set hc) (I.set (λr hr=>(K.Qb r hr).1) hr hc);refine⟨tN,L',?_,g2,g3,by omega,λh=>?_,λh=>?_⟩
  ·rw[Ey,Cf,An hr,mR,An hc,mR,gr P (K.Qb r uZ).1 uL hN,mR];rw[show (if more=true then some true else some (decide (Sh.len (kp L r c)<Sh.len c)))=some (more || decide ((kp L r c).length<c.length)) by
    cases more
    ·simp[Ae]
    ·rfl]
   rw[mR,wN,Ky];exact g1
  ·rcases g5 h with h5|h5
   ·rw[pJ,mv]at h5;rcases h5 with h5|h5
    ·exact .inl h5
    ·right;omega
   ·right;omega
  ·obtain⟨h6,h7,h8⟩:=g6 h;rw[qF,mm]at h6;have e:=fU (L:=L) (r:=r) (l:=c) (by omega);have uT:L.set i (kp L r c)=L:=by
    rw[e];obtain⟨x1,x2⟩:=mT.1 hc;rw[<- x2];exact pH x1
   rw[uT]at h7 h8;refine⟨h6.1,h7,λf r' l hf sw tY=>?_⟩;by_cases wi:f=i
   ·subst wi;rw[hr]at sw;rw[hc]at tY;cases sw;cases tY;exact e
   ·exact h8 f r' l (by omega) sw tY
theorem rounds (K:RK n m)(hN:2000000<=N){C:List (List Int)}:∀(M:Nat) (more:Bool) (L:List (List Int)),PL m L->Inv n C L->(more=false->JQ n L)->0<M->(more=true->sz L+1<M)->∃Z,Ex N n M more L=some Z/\PL m Z/\Inv n C Z/\JQ n Z
 | 0,_,_,_,_,_,h,_=>by omega
 | q+1,false,L,P,I,h0,_,_=>⟨L,by rw[Ex];simp,P,I,h0 rfl⟩
 | q+1,true,L,P,I,_,_,h1=>by
  have hl:=K.len;have hle:=K.le;have h1:=h1 rfl;obtain⟨tN,L',g1,g2,g3,g4,g5,g6⟩:=eb K hN (C:=C) (mi _) (by omega:n.AB.length-0<N) false L P I;rw[rD]at g1;obtain⟨Z,z1,z2⟩:=rounds K hN (C:=C) q tN L' g2 g3 (λh=>by
   obtain⟨_,h7,h8⟩:=g6 h;subst h7;exact λf r l hr hl=>bk (h8 f r l (mi _) hr hl)) (by omega) (λh=>by
   rcases g5 h with h5|h5
   ·cases h5
   ·omega)
  refine⟨Z,?_,z2⟩;rw[Ex,me rfl,g1,mR];exact z1
def wl (n:AL)(L:List (List Int)):AL:=⟨n.decls,List.zipWith (λr l=>⟨r.params,l,r.result,r.body⟩) n.AB L⟩
theorem Mk {f:Nat}{r:AP}{l:List Int}(hr:n.AB[f]?=some r)(hl:L[f]?=some l):(wl n L).AB[f]?=some ⟨r.params,l,r.result,r.body⟩:=by
 show (List.zipWith _ n.AB L)[f]?=_;rw[pS,hr,hl]
theorem Ip (h:L.length=n.AB.length):(wl n L).AB.length=n.AB.length:=by simp[wl,h]
theorem bx (h:L.length=n.AB.length){f:Nat}{r:AP}(hr:(wl n L).AB[f]?=some r):∃r0 l,n.AB[f]?=some r0/\L[f]?=some l/\r=⟨r0.params,l,r0.result,r0.body⟩:=by
 have:=(mT.1 hr).1;rw[Ip h]at this;obtain⟨r0,h0,_⟩:=Ax this;obtain⟨l,hl,_⟩:=Ax (l:=L) (i:=f) (by omega);rw[Mk h0 hl,mU]at hr;exact⟨r0,l,h0,hl,hr.symm⟩
theorem bg (h:L.length=n.AB.length):I1 (wl n L)=L:=by
 refine oU λf=>?_;unfold I1;rw[mX];by_cases hf:f<L.length
 ·obtain⟨l,hl,_⟩:=Ax hf;obtain⟨r,hr,_⟩:=Ax (l:=n.AB) (i:=f) (by omega);rw[Mk hr hl,hl];rfl
 ·rw[nG (by rw[Ip h];omega),nG (by omega)];rfl
theorem kq {L':List (List Int)}(h:L.length=n.AB.length)(h':L'.length=n.AB.length):wl (wl n L) L'=wl n L':=by
 have:(wl (wl n L) L').AB=(wl n L').AB:=by
  refine oU λf=>?_;by_cases hf:f<L.length
  ·obtain⟨l,hl,_⟩:=Ax hf;obtain⟨l',tY,_⟩:=Ax (l:=L') (i:=f) (by omega);obtain⟨r,hr,_⟩:=Ax (l:=n.AB) (i:=f) (by omega);rw[Mk (Mk hr hl) tY,Mk hr tY]
  ·rw[nG (by rw[Ip (by rw[Ip h,h']),Ip h];omega),nG (by rw[Ip h'];omega)]
 show AL.mk _ _=AL.mk _ _;exact nO (AL.mk n.decls) this
theorem RK.wl (K:RK n m)(P:PL m L):RK (wl n L) m:=by
 have hl:=K.len;have h:L.length=n.AB.length:=P.1.trans hl.symm;have key:∀r∈(RC.wl n L).AB,∃r0∈n.AB,∃l∈L,r=⟨r0.params,l,r0.result,r0.body⟩:=λr hr=>by
  obtain⟨f,hf⟩:=oH hr;obtain⟨r0,l,h1,h2,h3⟩:=bx h hf;exact⟨r0,mS h1,l,mS h2,h3⟩
 refine⟨by rw[Ip h,hl],K.le,λr hr=>?_,λr hr=>?_,K.dl,K.kv⟩
 ·obtain⟨r0,h0,l,h1,rfl⟩:=key r hr;obtain⟨a,b,_⟩:=K.Qb r0 h0;exact⟨a,b,(P.2 l h1).1⟩
 ·obtain⟨r0,h0,l,h1,rfl⟩:=key r hr;exact K.bs r0 h0
theorem SM (K:RK n m)(P:PL m L)(hN:2000000<=N):HM N n L=some (wl n L):=by
 have hl:=K.len;have hle:=K.le;have h:L.length=n.AB.length:=P.1.trans hl.symm;have key:∀{M i:Nat},i<=n.AB.length->n.AB.length-i<M->Dv N n L M (i:Int) ((wl n L).AB.take i)=some (wl n L).AB:=by
  intro M i hi hM;refine A4 n.AB.length (λM i=>Dv N n L M (i:Int) ((wl n L).AB.take i)=some (wl n L).AB) ?_ ?_ hi hM
  ·intro q;rw[Dv,CG,<- Ip h,nT]
  ·intro q i hi ih;obtain⟨r,hr,uZ⟩:=Ax hi;obtain⟨l,tY,hlm⟩:=Ax (l:=L) (i:=i) (by omega);have hw:=Mk hr tY;rw[CO hw]at ih;have b1:=(K.Qb r uZ).2.1;have b2:=(P.2 l hlm).1;rw[Dv,Cf,An hr,mR,fM (by omega),mR,An tY,mR,fM (by omega),mR,RT (K.bs r uZ) hN,mR,DD _ _ 88 (by simp;omega) (by simp;omega),mR,wN];exact ih
 have k0:=key (mi _) (by omega:n.AB.length-0<N);rw[rD,oO]at k0;unfold HM;rw[WT K.dl K.kv hN,mR,k0];rfl
theorem eX (K:RK n m)(P:PL m (I1 n)){f:Nat}{r:AP}(hr:n.AB[f]?=some r)(hN:2000000<=N):IW N n (f:Int)=some (kp (I1 n) r r.Ao):=by
 have uZ:=mS hr;obtain⟨hb,_,hc⟩:=K.Qb r uZ;have key:∀{M i:Nat},i<=r.Ao.length->r.Ao.length-i<M->Dw N n (f:Int) M (i:Int) (kp (I1 n) r (r.Ao.take i))=some (kp (I1 n) r r.Ao):=by
  intro M i hi hM;refine A4 r.Ao.length (λM i=>Dw N n (f:Int) M (i:Int) (kp (I1 n) r (r.Ao.take i))=some (kp (I1 n) r r.Ao)) ?_ ?_ hi hM
  ·intro q;rw[Dw,An hr,mR,CG,nT]
  ·intro q i hi ih;obtain⟨v,hv,_⟩:=Ax hi;have hle:=Nx (I1 n) r (r.Ao.take i);rw[nw]at hle;have hk:kp (I1 n) r (r.Ao.take (i+1))=kp (I1 n) r (r.Ao.take i)++(if cb (I1 n) v r.body then [] else [v]):=by
    unfold kp;rw[CO hv,List.filter_append];by_cases hcb:cb (I1 n) v r.body=true<;>simp[hcb]
   rw[hk]at ih;rw[Dw,An hr,mR,Cf,An hv,mR];unfold Iz;rw[Yw P hN 601 N r.body hb (by omega),mR,wN];cases hcb:cb (I1 n) v r.body with
   | true=>
    rw[hcb]at ih;simp only[nb,mW,my,nL,mR,oE]at ih⊢;exact ih
   | false=>
    rw[hcb]at ih;simp only[pV,mW,my,nL]at ih⊢;rw[DD _ _ 8 (by simp;omega) (by simp;omega)];exact ih
 have k0:=key (mi _) (by omega:r.Ao.length-0<N);rw[rD,oO,show kp (I1 n) r []=[] from rfl]at k0;unfold IW;rw[k0];rfl
theorem di (K:RK n m)(P:PL m L)(hN:2000000<=N):DJ N (wl n L).AB n.decls N 0 []=some (jc n L):=by
 have hl:=K.len;have hle:=K.le;have h:L.length=n.AB.length:=P.1.trans hl.symm;have hw:AL.mk n.decls (wl n L).AB=wl n L:=rfl;have key:∀{M i:Nat},i<=n.AB.length->n.AB.length-i<M->DJ N (wl n L).AB n.decls M (i:Int) ((jc n L).take i)=some (jc n L):=by
  intro M i hi hM;refine A4 n.AB.length (λM i=>DJ N (wl n L).AB n.decls M (i:Int) ((jc n L).take i)=some (jc n L)) ?_ ?_ hi hM
  ·intro q;have hj:(jc n L).length=n.AB.length:=by rw[QC h,h]
   rw[DJ,mj (by simp[Ae,Ip h]),<- hj,nT]
  ·intro q i hi ih;obtain⟨r,hr,uZ⟩:=Ax hi;obtain⟨l,tY,hlm⟩:=Ax (l:=L) (i:=i) (by omega);have hj:=Uf hr tY;rw[CO hj]at ih;have e:=eX (K.wl P) (by rw[bg h];exact P) (Mk hr tY) hN;rw[bg h]at e;rw[DJ,me (by simp[Ae,Ip h];omega),hw,e,mR,DD _ _ 24 (by simp;omega) (by simp;omega),mR,wN];exact ih
 have k0:=key (mi _) (by omega:n.AB.length-0<N);rw[rD,oO]at k0;exact k0
theorem Vm (K:RK n m)(hN:2000000<=N){C:List (List Int)}:∀(M k:Nat) (L:List (List Int)),k<=13->13-k<M->PL m L->Inv n C L->(jc n L=L∨sz L+k<=12)->∃Z,EW N M (k:Int) n.decls (wl n L).AB=some (n.decls,(wl n Z).AB)/\PL m Z/\Inv n C Z/\JQ n Z
 | 0,_,_,_,h,_,_,_=>by omega
 | q+1,k,L,hk,hM,P,I,h=>by
  have hl:=K.len;have hle:=K.le;have hL:L.length=n.AB.length:=P.1.trans hl.symm;by_cases h13:k=13
  ·subst h13;have e:jc n L=L:=h.resolve_right (by omega);exact⟨L,by rw[EW,mj (by simp)],P,I,JQ.kX hL e⟩
  ·obtain⟨s1,s2⟩:=ji hL;have hJ:(jc n L).length=n.AB.length:=by rw[QC hL,hL]
   obtain⟨Z,z1,z2⟩:=Vm K hN (C:=C) q (k+1) (jc n L) (by omega) (by omega) (P.jc hl) (I.jc (λr hr=>(K.Qb r hr).1) hL) (by
    by_cases e:jc n L=L
    ·left;rw[e,e]
    ·right;have:=h.resolve_left e;have:¬ sz L<=sz (jc n L):=λe'=>e (s2 e');omega)
   refine⟨Z,?_,z2⟩;rw[EW,me (by simp;omega),di K P hN,mR,show AL.mk n.decls (wl n L).AB=wl n L from rfl,SM (K.wl P) (P.jc hl) hN,mR,kq hL hJ,wN];exact z1
end
end RC
