import Derived.Test.YtgiajkaabnbieaaGreatGPlainAToXNI
set_option linter.all false
namespace RC
open Go
def NV:Nat->Nat->List Int
 | _,0=>[]
 | k,n+1=>(k:Int)::NV (k+1) n
theorem Xy:∀(n k:Nat),(NV k n).length=n
 | 0,_=>rfl
 | n+1,k=>by simp[NV,Xy n]
theorem Fy {α:Type}(A B:List α)(x:α):Sh.get (A++x::B) (A.length:Int)=some x:=As (by simp)
theorem Hw {α:Type}(A B:List α)(x y:α):Sh.put (A++x::B) (A.length:Int) y=A++y::B:=by rw[NR];simp
theorem PS:∀(B A:List Int) (k n:Nat),B.length<n->A.length+B.length<=2000000->k+B.length<=100000000->
  FC n (k:Int) (A.length:Int) (A++B)=some (((k+B.length:Nat):Int),A++NV k B.length)
 | [],A,k,n,hn,_,_=>by
  obtain⟨n,rfl⟩ :∃m,n=m+1:=⟨n-1,by simp at hn;omega⟩
  rw[FC,mJ (by simp[AM])];simp[NV]
 | b::B,A,k,n,hn,h1,h2=>by
  simp only[mf]at hn h1 h2⊢;obtain⟨n,rfl⟩ :∃m,n=m+1:=⟨n-1,by omega⟩
  have ih:=PS B (A++[(k:Int)]) (k+1) n (by omega) (by simp;omega) (by omega);rw[FC,mI (by simp[AM];omega),Fy,Hw,BI (by omega) (by omega),BI (by omega) (by omega)];simp only[mA];rw[ml,nD,nD]at ih;simp only[mf,nN,oZ,nV]at ih;have e1:((A.length:Int)+1)=((A.length+(0+1):Nat):Int):=by omega
  have e2:((k:Int)+1)=((k+1:Nat):Int):=by omega
  rw[e1,e2,ih];simp only[NV,show k+1+B.length=k+(B.length+1) by omega]
theorem Mv {l:List Int}(hl:l.length<=1048576){k:Nat}(hk:k<=50000000){N:Nat}(hN:2000000<=N):GS N l (k:Int)=some (((k+l.length:Nat):Int),NV k l.length):=by
 unfold GS;have:=PS l [] k N (by omega) (by simp;omega) (by omega);rw[nN,nV,nV]at this;rw[show (0:Int)=((0:Nat):Int) from rfl,this];rfl
theorem PV:∀(m:Nat) (A:List Int) (k n:Nat),m<n->A.length+m<=2000000->k+m<=100000000->
  FE (A++NV k m) n (k:Int) (A.length:Int)=some (Sum.inr (((k+m:Nat):Int)))
 | 0,A,k,n,hn,_,_=>by
  obtain⟨n,rfl⟩ :∃m,n=m+1:=⟨n-1,by omega⟩
  rw[FE,mJ (by simp[AM,NV])];simp
 | m+1,A,k,n,hn,h1,h2=>by
  obtain⟨n,rfl⟩ :∃m,n=m+1:=⟨n-1,by omega⟩
  have ih:=PV m (A++[(k:Int)]) (k+1) n (by omega) (by simp;omega) (by omega);rw[FE,mI (by simp[AM,Xy];omega)];simp only[NV];rw[Fy,BI (by omega) (by omega),BI (by omega) (by omega)];simp only[mA,mZ,nB,mF,mW];rw[ml,nD]at ih;simp only[mf,nN,oZ,nV]at ih;have e1:((A.length:Int)+1)=((A.length+(0+1):Nat):Int):=by omega
  have e2:((k:Int)+1)=((k+1:Nat):Int):=by omega
  rw[e1,e2,ih];simp only[show k+1+m=k+(m+1) by omega]
theorem Mt {m:Nat}(hl:m<=1048576){k:Nat}(hk:k<=50000000){N:Nat}(hN:2000000<=N):GJ N (NV k m) (k:Int)=some (((k+m:Nat):Int)):=by
 unfold GJ;have:=PV m [] k N (by omega) (by simp;omega) (by omega);rw[nN,nV]at this;rw[show (0:Int)=((0:Nat):Int) from rfl,this];rfl
theorem YV {α:Type}{f g:α->Nat}{a b:Nat}:∀{l:List α},(∀x∈l,f x<=a+b*g x)->(l.map f).sum<=a*l.length+b*(l.map g).sum
 | [],_=>by simp
 | x::r,h=>by
  have h1:=h x (by simp);have h2:=YV (l:=r) λy hy=>h y (by simp[hy]);simp only[mg,oR,mf,Nat.mul_add];omega
theorem FD {n:Nat}(h:n<=100000000):Sh.w ((n:Int)+1)=((n+1:Nat):Int):=by
 rw[BI (by omega) (by omega)];rfl
def eW (d:Ac):Nat:=2+(d.cons.map cz).sum
mutual
def ms:Step->Nat|.mk _ _ _ a k=>3+a.length+XB k
def XB:List (Gh Step)->Nat|[]=>0|b::k=>mb b+XB k
def mb:Gh Step->Nat|⟨ss,_⟩=>WY ss+1
def WY:List Step->Nat|[]=>0|s::l=>ms s+WY l
end
theorem kj (s:Step):ms s=3+s.args.length+XB s.kids:=by cases s;simp only[ms];rfl
theorem jv (b:Block):mb b=WY b.steps+1:=by cases b;simp only[mb]
theorem cW:∀k:List Block,XB k=(k.map mb).sum
 | []=>rfl
 | b::k=>by rw[mg,oR,<- cW k];simp only[XB]
theorem cw:∀l:List Step,WY l=(l.map ms).sum
 | []=>rfl
 | s::l=>by rw[mg,oR,<- cw l];simp only[WY]
mutual
theorem kL:∀s:Step,ms s<=3+3*Mz s
 | .mk o _ _ a k=>by
  have h1:=cc k;simp only[ms,Mz];omega
theorem cc:∀k:List (Gh Step),XB k<=k.length+3*Ka k
 | []=>by simp[XB]
 | b::k=>by
  have h1:=kb b;have h2:=cc k;simp only[XB,Ka,mf];omega
theorem kb:∀b:Gh Step,mb b<=1+3*Ib b
 | ⟨ss,r⟩=>by
  have h1:=YL ss;simp only[mb,Ib];omega
theorem YL:∀l:List Step,WY l<=3*l.length+3*Jh l
 | []=>by simp[WY]
 | s::l=>by
  have h1:=kL s;have h2:=YL l;simp only[WY,Jh,mf];omega
end
def dp (r:Ad):Nat:=r.params.length+r.Ar.length+1+WY r.body.steps+1
end RC
namespace RC
open Go
theorem UH {α β:Type}{l:List α}(L:Nat->Int->List β->Option (List β))(g:α->β)(h0 :∀n acc,L (n+1) ((l.length:Nat):Int) acc=some acc)
  (hs :∀n i x acc,l[i]?=some x->acc.length=i->L (n+1) ((i:Nat):Int) acc=L n ((i+1:Nat):Int) (acc++[g x])) {N:Nat} (hN:l.length<N):L N 0 []=some (l.map g):=by
 have key:∀{N i:Nat},i<=l.length->l.length-i<N->L N (i:Int) ((l.take i).map g)=some (l.map g):=by
  intro N i hi hN;refine BZ l.length (λN i=>L N (i:Int) ((l.take i).map g)=some (l.map g)) ?_ ?_ hi hN
  ·intro n;rw[h0,nI]
  ·intro n i hi ih;obtain⟨x,hx,_⟩:=Bi hi;rw[hs n i x _ hx (by simp;omega),<- ih,EA hx,mu];rfl
 have:=key (mV _) (by omega:l.length-0<N);simpa using this
theorem Xp {α:Type}{l:List α}(L:Nat->Int->List α->Option (List α))(g:α->α)(h0 :∀n acc,L (n+1) ((l.length:Nat):Int) acc=some acc)
  (hs :∀n (A:List α) (x:α) (C:List α),A.length+C.length<l.length->l[A.length]?=some x->L (n+1) ((A.length:Nat):Int) (A++x::C)=L n ((A.length+1:Nat):Int) (A++g x::C)) {N:Nat} (hN:l.length<N):L N 0 l=some (l.map g):=by
 have key:∀(C A:List α) (n:Nat),C.length<n->A.length<=l.length->C=l.drop A.length->L n ((A.length:Nat):Int) (A++C)=some (A++C.map g):=by
  intro C
  induction C with
  | nil=>
   intro A n hn h1 h2;obtain⟨n,rfl⟩ :∃m,n=m+1:=⟨n-1,by simp at hn;omega⟩
   have h3:=mr List.length h2;simp at h3;rw[show A.length=l.length by omega,h0];simp
  | cons x C ih=>
   intro A n hn h1 h2;have h3:=mr List.length h2;simp only[mf,pQ]at hn h3;obtain⟨n,rfl⟩ :∃m,n=m+1:=⟨n-1,by omega⟩
   have hx:l[A.length]?=some x:=by
    have:=mr (λz=>z[0]?) h2;simpa using this.symm
   rw[hs n A x C (by omega) hx];have:=ih (A++[g x]) n (by omega) (by simp;omega) (by
    rw[drop_cons hx]at h2;simpa using (List.cons.inj h2).2)
   simpa using this
 have:=key l [] N hN (by simp) (by simp);simpa using this
theorem Gk {i:Nat}(h:i<=1048576):Sh.w ((i:Int)+1)=((i+1:Nat):Int):=by rw[BI (by omega) (by omega)];rfl
theorem Y7 {l:List Int}(hl:l.length<=1048576):DW l=some l:=by
 unfold DW;rw[CS [] l 8 (by simp;omega) (by simp;omega)];rfl
theorem ep {l:List Int}(hl:l.length<=1048576):Bz l=some l:=by
 unfold Bz;rw[CS [] l 8 (by simp;omega) (by simp;omega)];rfl
theorem Wr {D:List Ac}{i:Nat}{d:Ac}(hd:D[i]?=some d)(hz:dz d<=1048576){N:Nat}(hN:2000000<=N):EC i D N 0 []=some d.cons:=by
 unfold dz at hz;rw[UH (l:=d.cons) (EC i D) id (λn acc=>by rw[EC,As hd];simp only[mA];rw[mJ (by simp[AM])]) (λn j c acc hc ha=>?_) (by omega)]
 ·simp
 ·have hj:=(mC.1 hc).1;have hcz:=GQ cz (mB hc);rw[EC,As hd];simp only[mA];rw[mI (by simp[AM];omega),As hc];simp only[mA];rw[Y7 (show cz c<=1048576 by omega)];simp only[mA];rw[CS acc _ 24 (by simp;omega) (by simp;omega)];simp only[mA];rw[Gk (by omega)];rfl
theorem XN {D:List Ac}(hl:D.length<=1048576)(hz :∀d∈D,dz d<=1048576){N:Nat}(hN:2000000<=N):Iz N D=some D:=by
 unfold Iz;rw[UH (l:=D) (El N D) id (λn acc=>by rw[El,mJ (by simp[AM])]) (λn j c acc hc ha=>?_) (by omega)]
 ·simp
 ·have hj:=(mC.1 hc).1;rw[El,mI (by simp[AM];omega),Wr hc (hz c (mB hc)) hN,As hc];simp only[mA];rw[CS acc _ 40 (by simp;omega) (by simp;omega)];simp only[mA];rw[Gk (by omega)];rfl
theorem Vb {D:List Ac}(hl:D.length<=1048576)(hz :∀d∈D,dz d<=1048576){N:Nat}(hN:2000000<=N):IH N D=some D:=by
 unfold IH DI;rw[CS [] D 40 (by simp;omega) (by simp;omega)];simp only[mA,nV];rw[Xp (l:=D) (ER N (Sh.len D)) id (λn acc=>by rw[ER,mJ (by simp[AM])]) (λn A d C hA hd=>?_) (by omega)]
 ·simp
 ·have h1:=hz d (mB hd);unfold dz at h1;rw[ER,mI (by simp[AM];omega),Fy];simp only[mA];unfold Ci;rw[CS [] d.cons 24 (by simp;omega) (by simp;omega)];simp only[mA,nV];rw[Xp (l:=d.cons) (EN d.cons) id (λn acc=>by rw[EN,mJ (by simp[AM])]) (λn B c E hB hc=>?_) (by omega)]
  ·simp only[mA,Hw,nq];rw[Gk (by omega)];rfl
  ·have hcz:=GQ cz (mB hc);have hl:=(mC.1 hc).1;rw[EN,mI (by simp[AM];omega),As hc];simp only[mA];rw[ep (show cz c<=1048576 by omega),Fy];simp only[mA];rw[Hw,Gk (by omega)];rfl
end RC
namespace RC
open Go
theorem aI {α:Type}(L:Nat->Int->Int->List α->Option (Int×List α))(H:List α->Nat->Int->Int->Option (Int ⊕ Int))(wt:α->Nat)(ok:α->Prop)
  (h0 :∀n k l,L (n+1) k ((l.length:Nat):Int) l=some (k,l)) (g0 :∀l n k,H l (n+1) k ((l.length:Nat):Int)=some (.inr k))
  (hs :∀n (k:Nat) (A:List α) (x:α) (C:List α),A.length+C.length<=1048576->ok x->k+wt x<=20000000->∃(k':Nat) (y:α),k'<=k+wt x/\L (n+1) k ((A.length:Nat):Int) (A++x::C)=L n k' ((A.length+1:Nat):Int) (A++y::C)/\∀m E,H (A++y::E) (m+1) k ((A.length:Nat):Int)=H (A++y::E) m k' ((A.length+1:Nat):Int)) :
  ∀(C A:List α) (k n:Nat),C.length<n->A.length+C.length<=1048576->(∀x∈C,ok x)->k+(C.map wt).sum<=20000000->∃(k':Nat) (C':List α),k'<=k+(C.map wt).sum/\L n k ((A.length:Nat):Int) (A++C)=some ((k':Int),A++C')/\∀m,C.length<m->H (A++C') m k ((A.length:Nat):Int)=some (.inr (k':Int))
 | [],A,k,n,hn,_,_,_=>by
  obtain⟨n,rfl⟩ :∃m,n=m+1:=⟨n-1,by simp at hn;omega⟩
  refine⟨k,[],by simp,?_,λm hm=>?_⟩
  ·rw[nK,h0]
  ·obtain⟨m,rfl⟩ :∃q,m=q+1:=⟨m-1,by simp at hm;omega⟩
   rw[nK,g0]
 | x::C,A,k,n,hn,hl,qu,hk=>by
  simp only[mf,mg,oR]at hn hl hk⊢;obtain⟨n,rfl⟩ :∃m,n=m+1:=⟨n-1,by omega⟩
  obtain⟨k1,y,h1,h2,h5⟩:=hs n k A x C (by omega) (qu x (by simp)) (by omega);obtain⟨k2,C',h3,h4,h6⟩:=aI L H wt ok h0 g0 hs C (A++[y]) k1 n (by omega) (by simp;omega) (λz hz=>qu z (by simp[hz])) (by omega);refine⟨k2,y::C',by omega,?_,λm hm=>?_⟩
  ·rw[h2];simpa using h4
  ·obtain⟨m,rfl⟩ :∃q,m=q+1:=⟨m-1,by omega⟩
   rw[h5];have:=h6 m (by omega);simpa using this
theorem WS {α:Type}{L:Nat->Int->Int->List α->Option (Int×List α)}{H:List α->Nat->Int->Int->Option (Int ⊕ Int)}{wt:α->Nat}{ok:α->Prop}
  (h0 :∀n k l,L (n+1) k ((l.length:Nat):Int) l=some (k,l)) (g0 :∀l n k,H l (n+1) k ((l.length:Nat):Int)=some (.inr k))
  (hs :∀n (k:Nat) (A:List α) (x:α) (C:List α),A.length+C.length<=1048576->ok x->k+wt x<=20000000->∃(k':Nat) (y:α),k'<=k+wt x/\L (n+1) k ((A.length:Nat):Int) (A++x::C)=L n k' ((A.length+1:Nat):Int) (A++y::C)/\∀m E,H (A++y::E) (m+1) k ((A.length:Nat):Int)=H (A++y::E) m k' ((A.length+1:Nat):Int))
  {l:List α} {k N:Nat} (hN:2000000<=N) (hl:l.length<=1048576) (qu :∀x∈l,ok x) (hk:k+(l.map wt).sum<=20000000) :∃(k':Nat) (l':List α),k'<=k+(l.map wt).sum/\L N k 0 l=some ((k':Int),l')/\H l' N k 0=some (.inr (k':Int)):=by
 obtain⟨k',l',h1,h2,h3⟩:=aI L H wt ok h0 g0 hs l [] k N (by omega) (by simp;omega) qu hk;exact⟨k',l',h1,h2,h3 N (by omega)⟩
theorem jI {l:List Bh}{k N:Nat}(hN:2000000<=N)(hl:l.length<=1048576)(qu :∀c∈l,cz c<=1048576)(hk:k+(l.map cz).sum<=20000000):∃(k':Nat) (l':List Bh),k'<=k+(l.map cz).sum/\Jn N l k=some ((k':Int),l')/\Ji N l' k=some (k':Int):=by
 obtain⟨k',l',h1,h2,h3⟩:=WS (L:=E8 N) (H:=FA N) (wt:=cz) (ok:=λc=>cz c<=1048576) (λn k l=>by rw[E8,mJ (by simp[AM])]) (λl n k=>by rw[FA,mJ (by simp[AM])]) (λn k A x C hA hx hk=>by
  refine⟨k+cz x,⟨NV k (cz x)⟩,mS _,?_,λm E=>?_⟩
  ·rw[E8,mI (by simp[AM];omega),Fy];simp only[mA];rw[Mv hx (by omega) hN];simp only[mA,Hw];rw[FD (by omega)];rfl
  ·rw[FA,mI (by simp[AM];omega),Fy];simp only[mA];rw[Mt hx (by omega) hN];simp only[mA];rw[mJ (by simp<;>omega),FD (by omega)]) hN hl qu hk
 refine⟨k',l',h1,?_,?_⟩
 ·unfold Jn;rw[h2];rfl
 ·unfold Ji;rw[h3];rfl
theorem fL {l:List Ac}{k N:Nat}(hN:2000000<=N)(hl:l.length<=1048576)(qu :∀d∈l,dz d<=1048576)(hk:k+(l.map eW).sum<=20000000):∃(k':Nat) (l':List Ac),k'<=k+(l.map eW).sum/\Is N l k=some ((k':Int),l')/\Ip N l' k=some (k':Int):=by
 obtain⟨k',l',h1,h2,h3⟩:=WS (L:=Ej N) (H:=Et N) (wt:=eW) (ok:=λd=>dz d<=1048576) (λn k l=>by rw[Ej,mJ (by simp[AM])]) (λl n k=>by rw[Et,mJ (by simp[AM])]) (λn k A x C hA hx hk=>by
  unfold dz at hx;unfold eW at hk⊢;obtain⟨k1,l1,g1,g2,g3⟩:=jI (l:=x.cons) (k:=k+1+1) hN (by omega) (λc hc=>by have:=GQ cz hc;omega) (by omega);refine⟨k1,⟨(k:Int),((k+1:Nat):Int),l1⟩,by omega,?_,λm E=>?_⟩
  ·rw[Ej,mI (by simp[AM];omega),FD (n:=k) (by omega),FD (n:=k+1) (by omega),FD (n:=A.length) (by omega)];simp only[Fy,Hw,mA];rw[g2];simp only[mA]
  ·rw[Et,mI (by simp[AM];omega),Fy];simp only[mA];rw[FD (n:=k) (by omega),FD (n:=k+1) (by omega),FD (n:=A.length) (by omega),g3];simp only[mZ,nB,mF,mW,mA];rw[mJ (by simp<;>omega)]) hN hl qu hk
 refine⟨k',l',h1,?_,?_⟩
 ·unfold Is;rw[h2];rfl
 ·unfold Ip;rw[h3];rfl
def MH (rec:List Step->Int->Option (Int×List Step))(rech:List Step->Int->Option Int)(l:List Step):Prop:=∀k:Nat,k+WY l<=20000000->∃(k':Nat) (l':List Step),k'<=k+WY l/\rec l k=some ((k':Int),l')/\rech l' k=some (k':Int)
theorem eb {rec:List Step->Int->Option (Int×List Step)}{rech:List Step->Int->Option Int}{l:List Block}{k N:Nat}(hN:2000000<=N)(hl:l.length<=1048576)(qu :∀b∈l,MH rec rech b.steps)(hk:k+XB l<=20000000):∃(k':Nat) (l':List Block),k'<=k+XB l/\H5 N rec l k=some ((k':Int),l')/\H9 N rech l' k=some (k':Int):=by
 rw[cW]at hk⊢;obtain⟨k',l',h1,h2,h3⟩:=WS (L:=EV rec) (H:=λl=>ES l rech) (wt:=mb) (ok:=λb=>MH rec rech b.steps) (λn k l=>by rw[EV,mJ (by simp[AM])]) (λl n k=>by rw[ES,mJ (by simp[AM])]) (λn k A x C hA hx hk=>by
  rw[jv]at hk⊢;obtain⟨k1,l1,g1,g2,g3⟩:=hx k (by omega);refine⟨k1+1,⟨l1,(k1:Int)⟩,by omega,?_,λm E=>?_⟩
  ·rw[EV,mI (by simp[AM];omega),FD (n:=A.length) (by omega)];simp only[Fy,Hw,mA];rw[g2];simp only[Fy,Hw,mA];rw[FD (n:=k1) (by omega)]
  ·rw[ES,mI (by simp[AM];omega),Fy];simp only[mA];rw[g3];simp only[mZ,nB,mF,mW,mA];rw[mJ (by simp<;>omega),FD (n:=k1) (by omega),FD (n:=A.length) (by omega)]) hN hl qu hk
 refine⟨k',l',h1,?_,?_⟩
 ·unfold H5;rw[h2];rfl
 ·unfold H9;rw[h3];rfl
theorem cG {N:Nat}(hN:2000000<=N):∀(m:Nat) (l:List Step),l.length+Jh l<=1048576->l.length+Jh l<m->MH (Ea N m) (EY N m) l:=by
 intro m
 induction m with
 | zero=>intro l _ h;omega
 | succ m ih=>
  intro l hl hm k hk;rw[cw]at hk⊢;rw[Ea];unfold JM;obtain⟨k',l',h1,h2,h3⟩:=WS (L:=Dz N (Ea N m)) (H:=λl=>D2 N l (EY N m)) (wt:=ms) (ok:=λs=>Mz s<=1048576/\∀b∈s.kids,MH (Ea N m) (EY N m) b.steps) (λn k l=>by rw[Dz,mJ (by simp[AM])]) (λl n k=>by rw[D2,mJ (by simp[AM])]) (λn k A x C hA hx hk=>by
   have hz:=Mo x;obtain⟨hx1,hx2⟩:=hx;rw[kj]at hk⊢;obtain⟨o,nu,it,ar,kd⟩:=x;simp only[Step.args,Step.kids]at hz hx2 hk⊢;have e1:=Mv (l:=ar) (by omega) (k:=k+1+1+1) (by omega) hN;have e2:=Mt (m:=ar.length) (by omega) (k:=k+1+1+1) (by omega) hN;obtain⟨k1,l1,g1,g2,g3⟩:=eb (rec:=Ea N m) (rech:=EY N m) (l:=kd) (k:=k+1+1+1+ar.length) hN (by omega) hx2 (by omega);refine⟨k1,⟨(k:Int),((k+1:Nat):Int),((k+1+1:Nat):Int),NV (k+1+1+1) ar.length,l1⟩,by omega,?_,λq E=>?_⟩
   ·rw[Dz,mI (by simp[AM];omega),FD (n:=k) (by omega),FD (n:=k+1) (by omega),FD (n:=k+1+1) (by omega),FD (n:=A.length) (by omega)];simp only[Fy,Hw,mA,Step.op,Step.num,Step.BB,Step.args,Step.kids];rw[e1];simp only[Fy,Hw,mA,Step.op,Step.num,Step.BB,Step.args,Step.kids];rw[g2];simp only[mA]
   ·rw[D2,mI (by simp[AM];omega),Fy];simp only[mA,Step.op,Step.num,Step.BB,Step.args,Step.kids];rw[FD (n:=k) (by omega),FD (n:=k+1) (by omega),FD (n:=k+1+1) (by omega),FD (n:=A.length) (by omega),e2];simp only[mZ,nB,mF,mW,mA];rw[mJ (by simp<;>omega),g3];simp only[mA];rw[mJ (by simp<;>omega)]) hN (by omega) (λs hs=>by
    have h1:=aD hs;have h2:=oH hs;refine⟨by omega,λb hb=>?_⟩;have h3:=O6 hb;rw[Mq]at h3;exact ih b.steps (by omega) (by omega)) hk
  refine⟨k',l',h1,?_,?_⟩
  ·rw[h2];rfl
  ·rw[EY];unfold JH;rw[h3];rfl
theorem fu {N:Nat}(hN:2000000<=N){b:Block}(hb:Bs b):MH (KC N) (KD N) b.steps:=by
 unfold Bs at hb;rw[Mq]at hb;unfold KC KD;exact cG hN N b.steps hb (by omega)
theorem Zr {l:List Ad}{k N:Nat}(hN:2000000<=N)(hl:l.length<=1048576)(qu :∀r∈l,J5 r<=1048576)(hk:k+(l.map dp).sum<=20000000):∃(k':Nat) (l':List Ad),k'<=k+(l.map dp).sum/\G0 N l k=some ((k':Int),l')/\HE N l' k=some (k':Int):=by
 obtain⟨k',l',h1,h2,h3⟩:=WS (L:=Dk N) (H:=Dm N) (wt:=dp) (ok:=λr=>J5 r<=1048576) (λn k l=>by rw[Dk,mJ (by simp[AM])]) (λl n k=>by rw[Dm,mJ (by simp[AM])]) (λn k A x C hA hx hk=>by
  unfold J5 at hx;unfold dp at hk⊢;have e1:=Mv (l:=x.params) (by omega) (k:=k) (by omega) hN;have e2:=Mv (l:=x.Ar) (by omega) (k:=k+x.params.length) (by omega) hN;have f1:=Mt (m:=x.params.length) (by omega) (k:=k) (by omega) hN;have f2:=Mt (m:=x.Ar.length) (by omega) (k:=k+x.params.length) (by omega) hN;obtain⟨k1,l1,g1,g2,g3⟩:=fu hN (b:=x.body) (by unfold Bs;omega) (k+x.params.length+x.Ar.length+1) (by omega);refine⟨k1+1,⟨NV k x.params.length,NV (k+x.params.length) x.Ar.length,((k+x.params.length+x.Ar.length:Nat):Int),⟨l1,(k1:Int)⟩⟩,by omega,?_,λm E=>?_⟩
  ·rw[Dk,mI (by simp[AM];omega),FD (n:=A.length) (by omega)];simp only[Fy,Hw,mA];rw[e1];simp only[Fy,Hw,mA];rw[e2];simp only[Fy,Hw,mA];rw[FD (n:=k+x.params.length+x.Ar.length) (by omega),g2];simp only[Fy,Hw,mA];rw[FD (n:=k1) (by omega)]
  ·rw[Dm,mI (by simp[AM];omega),Fy,FD (n:=A.length) (by omega)];simp only[mA];rw[f1];simp only[mA];rw[mJ (by simp<;>omega),f2];simp only[mA];rw[mJ (by simp<;>omega),FD (n:=k+x.params.length+x.Ar.length) (by omega),g3];simp only[mZ,nB,mF,mW,mA];rw[mJ (by simp<;>omega),FD (n:=k1) (by omega)]) hN hl qu hk
 refine⟨k',l',h1,?_,?_⟩
 ·unfold G0;rw[h2];rfl
 ·unfold HE;rw[h3];rfl
theorem Xz {n:AT}(hn:L8 n<=1048576){N:Nat}(hN:2000000<=N):∃(k:Nat) (d:List Ac) (r:List Ad),Gu N n.decls n.AH 1=some ((k:Int),d,r)/\Gy N ⟨d,r⟩ 1=some (k:Int):=by
 unfold L8 at hn;have s1:(n.decls.map eW).sum<=2*n.decls.length+1*(n.decls.map dz).sum:=YV λd _=>by unfold eW dz;omega
 have s2:(n.AH.map dp).sum<=2*n.AH.length+3*(n.AH.map J5).sum:=YV λr _=>by
  have:=YL r.body.steps;unfold dp J5;rw[Mq];omega
 obtain⟨k1,d,g1,g2,g3⟩:=fL (l:=n.decls) (k:=1) hN (by omega) (λd hd=>by have:=GQ dz hd;omega) (by omega);obtain⟨k2,r,g4,g5,g6⟩:=Zr (l:=n.AH) (k:=k1) hN (by omega) (λd hd=>by have:=GQ J5 hd;omega) (by omega);refine⟨k2,d,r,?_,?_⟩
 ·unfold Gu;rw[show (1:Int)=((1:Nat):Int) from rfl,g2];simp only[mA];rw[g5];rfl
 ·unfold Gy;rw[show (1:Int)=((1:Nat):Int) from rfl,g3];simp only[mA];rw[mJ (by simp<;>omega),g6];simp only[mA];rw[mJ (by simp<;>omega)]
end RC
namespace RC
open Go
theorem XW (N:Nat)(m:Int)(n:AT)(v:List Int)(s:Step)(q:List Int):∀(f:Nat) (t i:Int),E7 N m n v s q f t i=Dv N m n v s q (Bl N) f t i
 | 0,_,_=>rfl
 | f+1,t,i=>by
  rw[E7,Dv];simp only[XW N m n v s q f]
theorem Zm (N:Nat)(n:AT)(v:List Int)(s:Step):Hz N n v s=EF N (Bl N) n v s:=by
 have:Gw N n v s=FJ N (Bl N) n v s:=by
  unfold Gw FJ;simp only[XW]
 unfold Hz EF;simp only[this]
theorem Wn (N:Nat)(g:Ag)(v:List Int)(k:List Block)(ms:List (List Int)):∀(f:Nat) (t i:Int),CW N g v k ms f t i=Bo N g v k ms (BT N) f t i
 | 0,_,_=>rfl
 | f+1,t,i=>by
  rw[CW,Bo];simp only[Wn N g v k ms f]
theorem Vv (v:List Int)(s:Step):∀(f:Nat) (t:Int) (l:List Int),CV v s f t l=BP v s f t l
 | 0,_,_=>rfl
 | f+1,t,l=>by
  rw[CV,BP];simp only[Vv v s f]
theorem ZK (N:Nat)(g:Ag)(v:List Int)(s:Step):Dg N g v s=Bf N (BT N) g v s:=by
 have :∀k ms,Df N g v k ms=CF N (BT N) g v k ms:=λk ms=>by
  unfold Df CF;simp only[Wn]
 unfold Dg Bf;simp only[this,Vv]
section
variable {n : AT} {R1 : AT -> List Int -> Block -> Option Int} {R2 : Ag -> List Int -> Block -> Option Int} {T : List Int -> Block -> Int} {s : Step} {v : List Int} {N : Nat} {t : Int}
theorem Wm {D:List Ac}{F:List IK}(S:OD D F){num:Int}(hN:2000000<=N){x:List Int}(h:CH N D num=some x):x.length<=3:=by
 have hD:=S.PX;have hn:=S.nc;by_cases hr:0<=num/\num<(nc D:Int)
 ·obtain⟨c,hc⟩:=nU hr.1;obtain⟨t',x',e1,e3⟩:=KN (D:=D) (by omega) (by omega) (show c<nc D by omega) hN;obtain⟨g1,g2,d,g3,g4⟩:=Qn e1;rw[hc,e3]at h;cases h;exact (S.Od d g3 x' g4).1
 ·unfold CH at h;rw[Nw (by omega) (by omega) (by omega) hN]at h;simp at h;rw[h];simp
structure cy (n:AT) (T:List Int->Block->Int) (s:Step) (v:List Int):Prop where
 args :∃l,Cu v s.args=some l
 KX:s.args.length<=3
 call:s.op=9->∃r,r∈n.AH/\Sh.get n.AH s.num=some r/\Sh.get (CX n).funcs s.num=some ⟨r.params,r.Ar,r.result⟩
 ck:¬ s.op=7->¬ s.op=8->s.kids=[]
 lN:s.op=7->s.kids.length=2/\∀k∈s.kids,0<=T v k
 lR:s.op=8->(E5 n.decls s.num).length=s.kids.length/\∀(i:Nat) c k,(E5 n.decls s.num)[i]?=some c->s.kids[i]?=some k->0<=T (v++NJ n.decls c) k
theorem X5 {ts:List Int}(h:¬ Gr ts<0):∀t∈ts,0<=t:=by
 unfold Gr at h;cases ts with
 | nil=>simp
 | cons a r=>
  dsimp only at h;split at h
  ·rename_i h1;intro t ht;rcases mc.1 ht with rfl|ht
   ·omega
   ·have:=mL.1 h1 t ht;simp only[mX]at this;omega
  ·exact absurd (by decide) h
theorem gp {o:Option Bool}{x:Option (Int×Bool)}{t:Int}(h:(o.bind λc=>if c=true then some (-1,false) else x.bind λq=>some (q.1,q.2))=some (t,true)):x=some (t,true):=by
 cases o with
 | none=>simp at h
 | some c=>
  cases c with
  | true=>simp at h
  | false=>
   cases x with
   | none=>simp at h
   | some q=>simpa [Prod.ext_iff] using h
theorem dW (H:Q3 n R1 R2 T (Pe s))(V:SK n s v)(S:JI n)(hN:2000000<=N)(h0:0<=s.op)(h5:s.op<=11)(rH:Bf N R2 (CX n) v s=some (t,true)):cy n T s v:=by
 obtain⟨b,sD,sE⟩:=WK (n:=n) (s:=s) V.eU (by have:=V.Mk;omega);rw[LX (by have:=V.Mk;omega) V.KX hN sE]at rH;have hI:=ZP V.XM;cases ha:Cu v s.args with
 | none=>rw[ha]at rH;simp at rH
 | some l=>
  rw[ha]at rH;have wG:=GW ha;have wy:l.length<=1048576:=by have:=V.KX;omega
  cases b with
  | false=>simp at rH
  | true=>
   simp only[ni,mm]at rH;unfold DJ at rH;rw[My,show Om s.op=false by unfold Om;rw[nG,mR,mR];omega]at rH;simp only[mA,mF,mW]at rH;by_cases h7:s.op=7
   ·simp only[h7,mZ,mm]at rH;have g1:l.length=1:=by
     refine nd λq=>?_;have:¬ ((l.length:Nat):Int)=1:=by omega
     simp[AM,this]at rH
    obtain⟨a,rfl⟩:=List.length_eq_one_iff.1 g1;have g2:s.kids.length=2:=by
     refine nd λq=>?_;have q':¬ ((s.kids.length:Nat):Int)=2:=by omega
     by_cases q1:a=0<;>by_cases q2:s.num=0<;>simp[AM,Sh.get,q1,q2,q']at rH
    have g3:a=0/\s.num=0:=by
     by_cases q1:a=0<;>by_cases q2:s.num=0<;>simp[AM,Sh.get,q1,q2]at rH⊢
    simp only[AM,g2,nw,Sh.get,g3.1,g3.2]at rH;rw[show Sh.mk ([]:List Int) 2 24=some [[],[]] from NA [] 2 24 (by decide) (by decide)]at rH;have e:=Oy H V hN (ms:=[[],[]]) (by simp[g2]) (by simp) (by simp) We;simp[e]at rH;have hneg:¬ Gr (JT T v [[],[]] s.kids)<0:=λq=>by simp[q]at rH
    have sR:=X5 hneg;refine⟨⟨_,ha⟩,by simp at wG;omega,λq=>by omega,λq=>absurd h7 q,λ_=>⟨g2,λk hk=>?_⟩,λq=>by omega⟩
    match yO:s.kids,g2 with
    | [k0,k1],_=>
     rw[yO]at hk sR;simp[JT]at sR hk;rcases hk with rfl|rfl
     ·exact sR.1
     ·exact sR.2
   ·by_cases h8:s.op=8
    ·simp only[h8,Int.reduceEq,mZ,mY,mF,mm,mW]at rH;rw[QB S hN]at rH;simp only[mA]at rH;have g1:l.length=1:=by
      refine nd λq=>?_;have:¬ ((l.length:Nat):Int)=1:=by omega
      simp[AM,this]at rH
     obtain⟨a,rfl⟩:=List.length_eq_one_iff.1 g1;have g2:(E5 n.decls s.num).length=s.kids.length:=by
      refine nd λq=>?_;have q':¬ ((s.kids.length:Nat):Int)=((E5 n.decls s.num).length:Int):=by omega
      by_cases q1:a=s.num<;>by_cases q2:((E5 n.decls s.num).length:Int)=0<;>simp[AM,Sh.get,q1,q']at rH
     have g3:a=s.num:=by
      by_cases q1:a=s.num
      ·exact q1
      ·simp[AM,Sh.get,q1]at rH
     have g4:¬ E5 n.decls s.num=[]:=λq=>by
      rw[q]at rH;simp[AM,Sh.get,g3]at rH
     have g4':¬ ((E5 n.decls s.num).length:Int)=0:=λq=>g4 (mh (by omega));have uI:=NQ S.Vr s.num;have hms:∀m∈(E5 n.decls s.num).map (NJ n.decls),m.length<=3/\∀x∈m,DN n.decls x=true:=λm hm=>by
      obtain⟨c,hc,rfl⟩:=mU.1 hm;exact (PR S hc hN).2.2
     have e:=Oy H V hN (ms:=(E5 n.decls s.num).map (NJ n.decls)) (by simp[g2]) (by simpa using g4) (by simp;omega) hms;simp[AM,Sh.get,g3,g4,g2,e]at rH;have hneg:¬ Gr (JT T v ((E5 n.decls s.num).map (NJ n.decls)) s.kids)<0:=λq=>by by_cases hk0:s.kids=[]<;>simp[q,hk0]at rH
     have sR:=X5 hneg;refine⟨⟨_,ha⟩,by simp at wG;omega,λq=>by omega,λ_ q=>absurd h8 q,λq=>by omega,λ_=>⟨g2,λi c k hc hk=>?_⟩⟩;exact sR _ (mB (Vh (T:=T) (v:=v) (show ((E5 n.decls s.num).map (NJ n.decls))[i]?=some (NJ n.decls c) by rw[mG,hc];rfl) hk))
    ·have hk:s.kids=[]:=by
      refine nd λq=>?_;have q':decide (0<Sh.len s.kids)=true:=by
       have:=pX.2 q;simp[AM];omega
      simp[h7,h8,q']at rH
     simp only[h7,h8,mY,mF,mW,hk,AM,nN]at rH;have rS:Ai N (CX n) s.op s.num l=some (t,true):=gp rH;rw[show (CX n)=⟨n.decls,(CX n).funcs⟩ from rfl]at rS;have hG:(CX n).funcs.length<=4:=by rw[G5];exact S.RM
     have key:l.length<=3/\(s.op=9->∃r,r∈n.AH/\Sh.get n.AH s.num=some r/\Sh.get (CX n).funcs s.num=some ⟨r.params,r.Ar,r.result⟩):=by
      by_cases c0:s.op=0
      ·rw[Xc c0]at rS;simp at rS;exact⟨by simp[rS.2.2],λq=>by omega⟩
      by_cases c1:s.op=1∨s.op=2∨s.op=3∨s.op=4
      ·rw[Pz wy hN c1]at rS;simp at rS;exact⟨by simp[rS.2.2],λq=>by omega⟩
      by_cases c5:s.op=5
      ·rw[QU wy hN c5]at rS;simp at rS;exact⟨by simp[rS.2.2],λq=>by omega⟩
      by_cases c6:s.op=6
      ·rcases Qa (G:=(CX n).funcs) S wy hI hN c6 with ⟨t',x,_,_,_,_,x5,x6⟩|⟨_,x6⟩
       ·rw[x6]at rS;simp at rS;exact⟨by rw[rS.2];exact Wm S hN x5,λq=>by omega⟩
       ·rw[x6]at rS;simp at rS
      by_cases c9:s.op=9
      ·rcases SP S s.num with ⟨r,r0,r1,r2,r3,r4,_⟩|hr
       ·rw[Va wy hG hN c9 r0 (by rw[G5];exact r1) r3]at rS;simp at rS;exact⟨by rw[rS.2];exact r4,λ_=>⟨r,mB (by rw[<- Qc r0];exact r2),r2,r3⟩⟩
       ·rw[Lt hG (.inl c9) (by rw[G5];exact hr)]at rS;simp at rS
      by_cases wM:s.op=10
      ·rcases SP S s.num with ⟨r,r0,r1,r2,r3,r4,_⟩|hr
       ·rcases Pu (D:=n.decls) wy S.PX hG (f:=⟨r.params,r.Ar,r.result⟩) r4 hN wM r0 (by rw[G5];exact r1) r3 with ⟨_,x6⟩|⟨m,x,x1,x2,x6⟩
        ·rw[x6]at rS;simp at rS
        ·rw[x6]at rS;simp at rS;exact⟨by rw[rS.2.2];simp;omega,λq=>by omega⟩
       ·rw[Lt hG (.inr wM) (by rw[G5];exact hr)]at rS;simp at rS
      have c11:s.op=11:=by omega
      by_cases uK:l.length=2
      ·exact⟨by omega,λq=>by omega⟩
      ·rw[NO c11 uK]at rS;simp at rS
     exact⟨⟨_,ha⟩,by omega,key.2,λ_ _=>hk,λq=>absurd q h7,λq=>absurd q h8⟩
end
end RC
namespace RC
open Go
theorem av {l:List Int}{x:Int}(hl:l.length<=1048576){N i:Nat}(hi:i<=l.length)(hN:l.length-i<N):
  (x∈l.drop i->∃j:Nat,CB l x N (i:Int)=some (.inl (j:Int)))/\(x ∉ l.drop i->CB l x N (i:Int)=some (.inr ())):=by
 refine BZ l.length (λN i=>(x∈l.drop i->∃j:Nat,CB l x N (i:Int)=some (.inl (j:Int)))/\(x ∉ l.drop i->CB l x N (i:Int)=some (.inr ()))) ?_ ?_ hi hN
 ·intro n;rw[oa];exact⟨λh=>(by cases h),λ_=>by rw[CB,mJ (by simp[AM])]⟩
 ·intro n i hi ih;obtain⟨y,hy,_⟩:=Bi hi;rw[drop_cons hy,CB,mI (by simp[AM];omega),As hy];simp only[mA,mc,not_or];rw[Gk (by omega)];by_cases e:x=y
  ·rw[mI (by simpa using e)];exact⟨λ_=>⟨i,rfl⟩,λh=>absurd e h.1⟩
  ·rw[mJ (by simpa using e)];exact⟨λh=>ih.1 (h.resolve_left e),λh=>ih.2 h.2⟩
theorem RP {l:List Int}{x:Int}(hl:l.length<=1048576){N:Nat}(hN:2000000<=N):De N l x=some (decide (x∈l)):=by
 have h:=av (x:=x) hl (mV _) (by omega:l.length-0<N);rw[nO,qg]at h;unfold De HI;by_cases hx:x∈l
 ·obtain⟨j,hj⟩:=h.1 hx;rw[hj];have:(0:Int)<=(j:Int):=by omega
  simp[Sh.cont,hx]
 ·rw[h.2 hx];simp[Sh.cont,hx]
theorem dH {l:List Int}{x:Int}(hl:l.length<=1048576){N i:Nat}(hi:i<=l.length)(hN:l.length-i<N):
  GF l x N (i:Int)=some (if x∈l.drop i then .inl true else .inr ()):=by
 refine BZ l.length (λN i=>GF l x N (i:Int)=some (if x∈l.drop i then .inl true else .inr ())) ?_ ?_ hi hN
 ·intro n;rw[oa,GF,mJ (by simp[AM])];simp
 ·intro n i hi ih;obtain⟨y,hy,_⟩:=Bi hi;rw[drop_cons hy,GF,mI (by simp[AM];omega),As hy];simp only[mA,mc];rw[Gk (by omega),ih];by_cases e:y=x
  ·simp[e]
  ·have e':¬ x=y:=λq=>e q.symm;simp[e,e']
theorem Xw {l:List Int}{x:Int}(hl:l.length<=1048576){N:Nat}(hN:2000000<=N):Lo N l x=some (decide (x∈l)):=by
 have h:=dH (x:=x) hl (mV _) (by omega:l.length-0<N);rw[nO,qg]at h;unfold Lo;rw[h];by_cases hx:x∈l<;>simp[hx,Sh.cont]
theorem iX {i j:Nat}(h:i+j<=4000000):Sh.wk .i64 (Sh.shr .u64 (Sh.wk .u64 (Sh.w ((i:Int)+(j:Int)))) 1)=(((i+j) / 2:Nat):Int):=by
 rw[BI (by omega) (by omega)];have e1:Sh.wk .u64 ((i:Int)+(j:Int))=((i+j:Nat):Int):=by
  unfold Sh.wk IntKind.wrap;simp[IntKind.bits,IntKind.signed];omega
 rw[e1];have e2:Sh.shr .u64 ((i+j:Nat):Int) 1=(((i+j) / 2:Nat):Int):=by
  unfold Sh.shr;rw[Int.fdiv_eq_ediv_of_nonneg _ (by simp[IntKind.bits])];simp[IntKind.bits]
 rw[e2];exact BI (n:=(((i+j) / 2:Nat):Int)) (by omega) (by omega)
theorem gb (a b:Int):J6 a b=some (decide (a<b)):=by
 unfold J6 Jb;simp
theorem gO {l:List Int}{v:Int}(hl:l.length<=1000000):∀(d i j M:Nat),j-i<=d->d<M->i<=j->j<=l.length->∃q:Nat,q<=l.length/\BN l v M (i:Int) (j:Int)=some (q:Int)/\((∀x∈l,x<v)->q=j):=by
 intro d
 induction d with
 | zero=>
  intro i j M h1 h2 h3 h4;obtain⟨M,rfl⟩ :∃m,M=m+1:=⟨M-1,by omega⟩
  refine⟨i,by omega,?_,λ_=>by omega⟩;rw[BN,mJ (by simp;omega)]
 | succ d ih=>
  intro i j M h1 h2 h3 h4;obtain⟨M,rfl⟩ :∃m,M=m+1:=⟨M-1,by omega⟩
  rw[BN];by_cases yc:i<j
  ·obtain⟨x,hx,tu⟩:=Bi (l:=l) (i:=(i+j) / 2) (by omega);rw[mI (by simp;omega),iX (by omega),As hx];simp only[mA];rw[gb];simp only[mA];by_cases hv:x<v
   ·rw[mI (by simpa using hv),BI (by omega) (by omega),show (((i+j) / 2:Nat):Int)+1=(((i+j) / 2+1:Nat):Int) by omega];exact ih _ _ M (by omega) (by omega) (by omega) h4
   ·rw[mJ (by simpa using hv)];obtain⟨q,q1,q2,_⟩:=ih i ((i+j) / 2) M (by omega) (by omega) (by omega) (by omega);exact⟨q,q1,q2,λh=>absurd (h x tu) hv⟩
  ·rw[mJ (by simp;omega)];exact⟨i,by omega,rfl,λ_=>by omega⟩
theorem Xk {l:List Int}{v:Int}(hl:l.length<=1000000){N:Nat}(hN:2000000<=N):∃l',DV N l v=some l'/\l'.length<=l.length+1/\((∀x∈l,x<v)->l'=l++[v]):=by
 obtain⟨q,q1,q2,q3⟩:=gO (l:=l) (v:=v) hl l.length 0 l.length N (by omega) (by omega) (by omega) (mS _);have ins:Fm l [v] (q:Int)=some (l.take q++v::l.drop q):=by
  unfold Fm;dsimp only;rw[mI ⟨by omega,by omega,by omega⟩];simp
 have cl:D1 l=some l:=by
  unfold D1;rw[CS [] l 8 (by simp;omega) (by simp;omega)];rfl
 unfold DV Dp;rw[show (0:Int)=((0:Nat):Int) from rfl,AM,q2];simp only[mA];by_cases hq:q<l.length
 ·obtain⟨x,hx,tu⟩:=Bi hq;rw[mI (by simp;omega),As hx];simp only[mA];by_cases hv:x=v
  ·refine⟨l,by simp[hv],by omega,λh=>absurd (h x tu) (by omega)⟩
  ·refine⟨l.take q++v::l.drop q,?_,by simp;omega,λh=>absurd (q3 h) (by omega)⟩;rw[mJ (by simpa using hv)];unfold HU;simp[cl,ins]
 ·refine⟨l.take q++v::l.drop q,?_,by simp;omega,λh=>?_⟩
  ·rw[mJ (by simp;omega)];simp[cl,ins]
  ·have:q=l.length:=by omega
   subst this;simp
theorem Tr {l:List Int}{v:Int}(hl:l.length<=1000000)(h :∀x∈l,x<v){N:Nat}(hN:2000000<=N):DV N l v=some (l++[v]):=by
 obtain⟨l',h1,_,h3⟩:=Xk (l:=l) (v:=v) hl hN;rw[h1,h3 h]
def LP (o v:Int):Step:=.mk o 0 0 [v] []
theorem cL (o v:Int):Mz (LP o v)=1:=by rw[Mo];rfl
theorem VP (a b:List Step):Jh (a++b)=Jh a+Jh b:=by
 induction a with
 | nil=>simp[Jh]
 | cons s a ih=>simp only[oZ,Jh,ih];omega
theorem Wj (o:Int)(l:List Int):Jh (l.map (LP o))=l.length:=by
 induction l with
 | nil=>rfl
 | cons v l ih=>simp only[mg,Jh,cL,ih,mf];omega
theorem N8 {o:Int}{l:List Int}(hl:l.length<=1000000){N:Nat}(hN:2000000<=N):Gd N o l=some (l.map (LP o)):=by
 unfold Gd;rw[UH (l:=l) (Ei o l) (LP o) (λn acc=>by rw[Ei,mJ (by simp[AM])]) (λn j c acc hc ha=>?_) (by omega)]
 ·rfl
 ·have hj:=(mC.1 hc).1;rw[Ei,mI (by simp[AM];omega),As hc];simp only[mA];unfold G4;simp only[mA];rw[CS acc _ 72 (by simp;omega) (by simp;omega)];simp only[mA];rw[Gk (by omega)];rfl
def hf:Int->List Int->List Int
 | _,[]=>[]
 | m,t::r=>if t=0 then hf (m+1) r else m::hf (m+1) r
theorem TA:∀(m:Int) (l:List Int),(hf m l).length<=l.length
 | _,[]=>mS _
 | m,t::r=>by
  unfold hf;have:=TA (m+1) r;split<;>simp<;>omega
theorem YT:∀(m:Int) (l:List Int) (x:Int),x∈hf m l->m<=x/\x<m+l.length
 | _,[],_,h=>by simp[hf]at h
 | m,t::r,x,h=>by
  unfold hf at h;have ih:=YT (m+1) r x;simp only[mf];split at h
  ·have:=ih h;omega
  ·rcases mc.1 h with rfl|h
   ·omega
   ·have:=ih h;omega
theorem Vz:∀(m:Int) (l:List Int) (t:Int),hf m (l++[t])=hf m l++(if t=0 then [] else [m+l.length])
 | m,[],t=>by simp[hf]
 | m,a::l,t=>by
  rw[oZ,hf,hf,Vz (m+1) l t];have:m+1+(l.length:Int)=m+((a::l).length:Int):=by simp;omega
  rw[this];split<;>simp
theorem Ym {F:List Int}{m:Int}(hF:F.length<=1000)(h0:0<=m)(h1:m<=4000000){N:Nat}(hN:2000000<=N):JV N F m=some (hf m F):=by
 have key:∀{M i:Nat},i<=F.length->F.length-i<M->Eb F m M (i:Int) (hf m (F.take i))=some (hf m F):=by
  intro M i hi hM;refine BZ F.length (λM i=>Eb F m M (i:Int) (hf m (F.take i))=some (hf m F)) ?_ ?_ hi hM
  ·intro q;rw[Eb,mJ (by simp[AM]),nI]
  ·intro q i hi ih;obtain⟨t,ht,_⟩:=Bi hi;have hle:=TA m (F.take i);rw[nT]at hle;rw[EA ht,Vz,nT,nz (by omega)]at ih;rw[Eb,mI (by simp[AM];omega),As ht];simp only[mA];rw[Gk (by omega),BI (n:=m+(i:Int)) (by omega) (by omega)];by_cases z:t=0
   ·rw[mI z]at ih;simp only[z,mZ,nB,mF,mW,mA];simpa using ih
   ·rw[mJ z]at ih;simp only[z,mY,nk,mm,mA];rw[CS _ _ 8 (by simp;omega) (by simp;omega)];exact ih
 have:=key (mV _) (by omega:F.length-0<N);unfold JV;rw[oU,qg,show hf m []=[] from rfl]at this;rw[this];rfl
theorem Z3 {v F:List Int}(hF:F.length<=1000)(hv:v.length<=4000){N:Nat}(hN:2000000<=N):Bw N v F N [] 0 []=some (hf v.length F,(hf v.length F).map (LP 14)):=by
 have key:∀{M i:Nat},i<=F.length->F.length-i<M->Bw N v F M (hf v.length (F.take i)) (i:Int) ((hf v.length (F.take i)).map (LP 14))=some (hf v.length F,(hf v.length F).map (LP 14)):=by
  intro M i hi hM;refine BZ F.length (λM i=>Bw N v F M (hf v.length (F.take i)) (i:Int) ((hf v.length (F.take i)).map (LP 14))=some (hf v.length F,(hf v.length F).map (LP 14))) ?_ ?_ hi hM
  ·intro q;rw[Bw,mJ (by simp[AM]),nI]
  ·intro q i hi ih;obtain⟨t,ht,_⟩:=Bi hi;have hle:=TA v.length (F.take i);have hme:=YT v.length (F.take i);rw[nT]at hle;rw[EA ht,Vz,nT,nz (by omega)]at ih;rw[Bw,mI (by simp[AM];omega),As ht];simp only[mA,AM];rw[Gk (by omega),BI (n:=(v.length:Int)+(i:Int)) (by omega) (by omega)];by_cases z:t=0
   ·rw[mI z]at ih;simp only[z,mZ,nB,mF,mW,mA];simpa using ih
   ·rw[mJ z]at ih;simp only[z,mY,nk,mm,mA];rw[Tr (by omega) (λx hx=>by have:=(hme x hx).2;simp only[nT]at this;omega) hN];unfold Ek;simp only[mA];rw[CS _ _ 72 (by simp;omega) (by simp;omega)];simp only[mA];rw[<- ih,mu];rfl
 have:=key (mV _) (by omega:F.length-0<N);rw[oU,qg,show hf (v.length:Int) []=[] from rfl]at this;exact this
def MR (L:List Int):Int->List Int->List Int
 | _,[]=>[]
 | m,t::r=>if t=0∨m∈L then MR L (m+1) r else m::MR L (m+1) r
theorem TD (L:List Int):∀(m:Int) (l:List Int),(MR L m l).length<=l.length
 | _,[]=>mS _
 | m,t::r=>by
  unfold MR;have:=TD L (m+1) r;split<;>simp<;>omega
theorem WX (L:List Int):∀(m:Int) (l:List Int) (x:Int),x∈MR L m l->m<=x/\x<m+l.length
 | _,[],_,h=>by simp[MR]at h
 | m,t::r,x,h=>by
  unfold MR at h;have ih:=WX L (m+1) r x;simp only[mf];split at h
  ·have:=ih h;omega
  ·rcases mc.1 h with rfl|h
   ·omega
   ·have:=ih h;omega
theorem Tt (L:List Int):∀(m:Int) (l:List Int) (t:Int),MR L m (l++[t])=MR L m l++(if t=0∨m+(l.length:Int)∈L then [] else [m+(l.length:Int)])
 | m,[],t=>by simp[MR]
 | m,a::l,t=>by
  rw[oZ,MR,MR,Tt L (m+1) l t];have:m+1+(l.length:Int)=m+((a::l).length:Int):=by simp;omega
  rw[this];split<;>simp
theorem W6 {r:Ad}(hp:r.params.length<=1000)(hl:r.Ar.length<=1048576){N:Nat}(hN:2000000<=N):Iv N r=some (MR r.Ar 0 r.params):=by
 have key:∀{M i:Nat},i<=r.params.length->r.params.length-i<M->D8 N r M (i:Int) (MR r.Ar 0 (r.params.take i))=some (MR r.Ar 0 r.params):=by
  intro M i hi hM;refine BZ r.params.length (λM i=>D8 N r M (i:Int) (MR r.Ar 0 (r.params.take i))=some (MR r.Ar 0 r.params)) ?_ ?_ hi hM
  ·intro q;rw[D8,mJ (by simp[AM]),nI]
  ·intro q i hi ih;obtain⟨t,ht,_⟩:=Bi hi;have hle:=TD r.Ar 0 (r.params.take i);rw[nT]at hle;rw[EA ht,Tt,nT,nz (by omega),Int.zero_add]at ih;rw[D8,mI (by simp[AM];omega),As ht];simp only[mA];rw[Gk (by omega),Xw hl hN];simp only[mA];by_cases z:t=0
   ·rw[mI (.inl z)]at ih;simp only[z,mZ,nB,mF,mW,mA];simpa using ih
   ·by_cases y:(i:Int)∈r.Ar
    ·rw[mI (.inr y)]at ih;simp only[z,y,mZ,mY,nB,nk,mF,mm,mW,mA];simpa using ih
    ·rw[mJ (by simp[z,y])]at ih;simp only[z,y,mY,nk,mm,mA];rw[CS _ _ 8 (by simp;omega) (by simp;omega)];exact ih
 have:=key (mV _) (by omega:r.params.length-0<N);unfold Iv;rw[oU,qg,show MR r.Ar 0 []=[] from rfl]at this;rw[this];rfl
theorem Ud {r:Ad}(hp:r.params.length<=1000)(hl:r.Ar.length<=1048576){N:Nat}(hN:2000000<=N):Cm N r N [] 0=some (MR r.Ar 0 r.params):=by
 have key:∀{M i:Nat},i<=r.params.length->r.params.length-i<M->Cm N r M (MR r.Ar 0 (r.params.take i)) (i:Int)=some (MR r.Ar 0 r.params):=by
  intro M i hi hM;refine BZ r.params.length (λM i=>Cm N r M (MR r.Ar 0 (r.params.take i)) (i:Int)=some (MR r.Ar 0 r.params)) ?_ ?_ hi hM
  ·intro q;rw[Cm,mJ (by simp[AM]),nI]
  ·intro q i hi ih;obtain⟨t,ht,_⟩:=Bi hi;have hle:=TD r.Ar 0 (r.params.take i);have hme:=WX r.Ar 0 (r.params.take i);rw[nT]at hle;rw[EA ht,Tt,nT,nz (by omega),Int.zero_add]at ih;rw[Cm,mI (by simp[AM];omega),As ht];simp only[mA];rw[Gk (by omega),RP hl hN];simp only[mA];by_cases z:t=0
   ·rw[mI (.inl z)]at ih;simp only[z,mZ,nB,mF,mW,mA];simpa using ih
   ·by_cases y:(i:Int)∈r.Ar
    ·rw[mI (.inr y)]at ih;simp only[z,y,mZ,mY,nB,nk,mF,mm,mW,mA];simpa using ih
    ·rw[mJ (by simp[z,y])]at ih;simp only[z,y,mY,nk,mm,mA];rw[Tr (by omega) (λx hx=>by have:=(hme x hx).2;simp only[nT]at this;omega) hN];exact ih
 have:=key (mV _) (by omega:r.params.length-0<N);rw[oU,qg,show MR r.Ar 0 []=[] from rfl]at this;exact this
end RC
namespace RC
open Go
def eR (o:Int):Bool:=decide (o=6) || (decide (o=9) || (decide (o=10) || decide (o=11)))
theorem Xq (o:Int):Ja o=some (eR o):=by
 unfold Ja eR;by_cases h1:o=6<;>by_cases h2:o=9<;>by_cases h3:o=10<;>simp[h1,h2,h3]
theorem dS (o:Int):Hi o=some (eR o):=by
 unfold Hi eR;by_cases h1:o=6<;>by_cases h2:o=9<;>by_cases h3:o=10<;>simp[h1,h2,h3]
section
variable {n : AT} {T : List Int -> Block -> Int} {s : Step} {w : List Int} {N : Nat}
theorem aN (I:cy n T s w)(hr :∀r∈n.AH,r.Ar.length<=1048576)(hc:eR s.op=true)(hN:2000000<=N){M i:Nat}(hi:i<=s.args.length)(hM:s.args.length-i<M):
  ∀tX tY Ar:List Int,tX.length+(s.args.length-i)<=3->tY.length+(s.args.length-i)<=3->Ar.length<=i->∃P D rn,Bj N n w s M i tX=some (tX++D)/\CN N w (CX n) s M Ar i tY=some (rn,tY++P)/\
   D.length=P.length/\D.length<=s.args.length-i/\∀(j:Nat) p,P[j]?=some p->∃d,D[j]?=some d/\Sh.get s.args p=some d:=by
 have ha:=I.KX;obtain⟨l,hA⟩:=I.args;refine BZ s.args.length (λM i=>∀tX tY Ar:List Int,tX.length+(s.args.length-i)<=3->tY.length+(s.args.length-i)<=3->Ar.length<=i->∃P D rn,Bj N n w s M i tX=some (tX++D)/\CN N w (CX n) s M Ar i tY=some (rn,tY++P)/\
   D.length=P.length/\D.length<=s.args.length-i/\∀(j:Nat) p,P[j]?=some p->∃d,D[j]?=some d/\Sh.get s.args p=some d) ?_ ?_ hi hM
 ·intro q tX tY Ar _ _ _;refine⟨[],[],Ar,?_,?_,rfl,by simp,λj p h=>by simp at h⟩
  ·rw[Bj,mJ (by simp[AM]),nK]
  ·rw[CN,mJ (by simp[AM]),nK]
 ·intro q i hi ih tX tY Ar hD hP hL;obtain⟨a,hai,_⟩:=Bi hi;obtain⟨h1,h2⟩:=(Mx.1 hA).2 i a hai;obtain⟨x,hx⟩:=Option.isSome_iff_exists.1 h2;obtain⟨_,_,hg,_⟩:=To hx;rw[Bj,mI (by simp[AM];omega),CN,mI (by simp[AM];omega)];unfold Hv;rw[Xq,hc,As hai];simp only[mA,mm];rw[hg];simp only[mA];rw[Gk (by omega)];by_cases hx0:x=0
  ·obtain⟨P,D,rn,g1,g2,g3,g4,g5⟩:=ih tX tY Ar (by omega) (by omega) (by omega);refine⟨P,D,rn,?_,?_,g3,by omega,g5⟩
   ·simp only[hx0,mZ,nB,mF,mW,mA];exact g1
   ·simp only[hx0,mZ,mm,mA];exact g2
  ·have key:∃c:Bool,LI N n s i=some c/\(if decide (s.op=9)=true then (Sh.get (CX n).funcs s.num).bind λc37=>(De N c37.Ar i).bind λq38=>some q38 else some false)=some c:=by
    unfold LI;by_cases h9:s.op=9
    ·obtain⟨r,rm,r1,r2⟩:=I.call h9;refine⟨decide ((i:Int)∈r.Ar),?_,?_⟩
     ·simp[h9,r1,Xw (hr r rm) hN]
     ·simp[h9,r2,RP (hr r rm) hN]
    ·exact⟨false,by simp[h9],by simp[h9]⟩
   obtain⟨c,k1,k2⟩:=key;simp only[hx0,mY,nk,mF,mm,mW];rw[k1,k2];simp only[mA];cases c with
   | true=>
    obtain⟨l',e1,e2,_⟩:=Xk (l:=Ar) (v:=a) (by omega) hN;obtain⟨P,D,rn,g1,g2,g3,g4,g5⟩:=ih tX tY l' (by omega) (by omega) (by omega);refine⟨P,D,rn,?_,?_,g3,by omega,g5⟩
    ·simp only[nB,mF,mW,mA];exact g1
    ·simp only[mm];rw[e1];simp only[mA];exact g2
   | false=>
    obtain⟨P,D,rn,g1,g2,g3,g4,g5⟩:=ih (tX++[a]) (tY++[(i:Int)]) Ar (by simp;omega) (by simp;omega) (by omega);refine⟨(i:Int)::P,a::D,rn,?_,?_,by simp[g3],by simp;omega,λj p hp=>?_⟩
    ·simp only[nk,mm];rw[CS _ _ 8 (by simp;omega) (by simp;omega)];simp only[mA];rw[g1];simp
    ·simp only[mF,mW];rw[CS _ _ 8 (by simp;omega) (by simp;omega)];simp only[mA];rw[g2];simp
    ·cases j with
     | zero=>simp only[me,mE]at hp⊢;subst hp;exact⟨a,rfl,As hai⟩
     | succ j=>simpa using g5 j p (by simpa using hp)
theorem Zt (I:cy n T s w)(hr :∀r∈n.AH,r.Ar.length<=1048576)(hN:2000000<=N):∃P D rn,GP N n w s=some D/\Fp N w (CX n) s=some (P,rn)/\
   D.length=P.length/\D.length<=3/\∀(j:Nat) p,P[j]?=some p->∃d,D[j]?=some d/\Sh.get s.args p=some d:=by
 have ha:=I.KX;unfold GP Fp;rw[dS];simp only[mA];cases hc:eR s.op with
 | true=>
  obtain⟨P,D,rn,g1,g2,g3,g4,g5⟩:=aN I hr hc hN (mV _) (by omega:s.args.length-0<N) [] [] [] (by simp;omega) (by simp;omega) (by simp);rw[qg]at g1 g2;refine⟨P,D,rn,by rw[g1];simp,by rw[g2];simp,g3,by omega,g5⟩
 | false=>
  refine⟨[],[],[],?_,by simp,rfl,by simp,λj p h=>by simp at h⟩;have key:∀{M i:Nat},i<=s.args.length->s.args.length-i<M->Bj N n w s M i []=some []:=by
   intro M i hi hM;refine BZ s.args.length (λM i=>Bj N n w s M i []=some []) ?_ ?_ hi hM
   ·intro q;rw[Bj,mJ (by simp[AM])]
   ·intro q i hi ih;rw[Bj,mI (by simp[AM];omega)];unfold Hv;rw[Xq,hc,Gk (by omega)];simp only[mA,mF,mW];exact ih
  have:=key (mV _) (by omega:s.args.length-0<N);rw[qg]at this;rw[this];rfl
theorem aW {P D rn:List Int}(hl:D.length=P.length)(h3:D.length<=3)(hg :∀(j:Nat) p,P[j]?=some p->∃d,D[j]?=some d/\Sh.get s.args p=some d){acc:List Step}(ha:acc.length<=1000000)(hN:2000000<=N):BW s (P,rn) N 0 acc=some (acc++D.map (LP 14)):=by
 have key:∀{M i:Nat},i<=P.length->P.length-i<M->BW s (P,rn) M i (acc++(D.take i).map (LP 14))=some (acc++D.map (LP 14)):=by
  intro M i hi hM;refine BZ P.length (λM i=>BW s (P,rn) M i (acc++(D.take i).map (LP 14))=some (acc++D.map (LP 14))) ?_ ?_ hi hM
  ·intro q;rw[BW,mJ (by simp[AM]),<- hl,nI]
  ·intro q i hi ih;obtain⟨p,hp,_⟩:=Bi hi;obtain⟨d,hd,za⟩:=hg i p hp;rw[BW,mI (by simp[AM];omega)];dsimp only;rw[As hp];simp only[mA];rw[za];unfold Ek;simp only[mA];rw[CS _ _ 72 (by simp;omega) (by simp;omega)];simp only[mA];rw[Gk (by omega),<- ih,EA hd,mu,nD];rfl
 have:=key (mV _) (by omega:P.length-0<N);simpa using this
theorem gY {a b:List Step}(ha:a.length<=400000)(hb:b.length<=400000):Fw a b=some (a++b):=mI (by omega)
def gI (n:AT)(T:List Int->Block->Int)(sh:AT->List Int->Block->List Int->Option Block)(sX:Ag->Block->List Int->List Int->Option Block)(w:List Int)(s:Step):Prop:=
 ∀k∈s.kids,∀m:List Int,m.length<=3->(∀x∈m,DN n.decls x=true)->0<=T (w++m) k->∀sC:List Int,sC.length<=3->(∀x∈sC,x<((w++m).length:Int))->
  ∃B,sh n (w++m) k sC=some B/\sX (CX n) k (w++m) sC=some B/\B.result=k.result/\Ib B<=170*Ff k+2*sC.length+2
variable {sh : AT -> List Int -> Block -> List Int -> Option Block} {sX : Ag -> Block -> List Int -> List Int -> Option Block}
theorem dB (H:gI n T sh sX w s){k:Block}(hk:k∈s.kids){m:List Int}(hm:m.length<=3)(ht :∀x∈m,DN n.decls x=true)(hT:0<=T (w++m) k)(hw:w.length<=4000)(yO:Ff k<=601)(hN:2000000<=N):
  ∃B,sh n (w++m) k (hf w.length m)=some B/\FM N sX (CX n) k w m=some (Block.mk ((hf w.length m).map (LP 14)++B.steps) B.result)/\B.steps.length<=400000/\Ib (Block.mk ((hf w.length m).map (LP 14)++B.steps) B.result)<=170*Ff k+14:=by
 have hl:=TA w.length m;obtain⟨B,b1,b2,b3,b4⟩:=H k hk m hm ht hT (hf w.length m) (by omega) (λx hx=>by have:=(YT _ _ _ hx).2;rw[ml];omega);have hB:=Mq B;refine⟨B,b1,?_,by omega,?_⟩
 ·unfold FM;rw[Z3 (by omega) hw hN];simp only[mA];rw[UQ hw (by omega) hN];simp only[mA];rw[b2];simp only[mA];rw[gY (by simp;omega) (by omega)];rfl
 ·rw[Mq];simp only[ml,mO,VP,Wj];omega
theorem Zd {m:List Int}(hw:w.length<=4000)(hm:m.length<=4000):Gm w m=some (w++m):=by
 unfold Gm;rw[Y7 (by omega)];simp only[mA];rw[CS w m 8 (by omega) (by omega)];rfl
theorem aj (H:gI n T sh sX w s){ms:List (List Int)}{cs:List Int}(hl:ms.length=s.kids.length)(h3:s.kids.length<=3)(hms :∀m∈ms,m.length<=3/\∀x∈m,DN n.decls x=true)
  (hT :∀(i:Nat) m k,ms[i]?=some m->s.kids[i]?=some k->0<=T (w++m) k)
  (hf0 :∀(i:Nat) m,ms[i]?=some m->(if decide (s.op=8)=true then (Sh.get cs i).bind λc=>(CH N n.decls c).bind λq=>some q else some [])=some m)
  (hw:w.length<=4000) (yO :∀k∈s.kids,Ff k<=601) (hN:2000000<=N) :
  ∃out,Dx N w n s cs sh N 0 []=some out/\BR N s ms w (CX n) sX N 0 []=some out/\out.length=s.kids.length/\Ka out<=170*JO s.kids+14*s.kids.length:=by
 have key:∀{M i:Nat},i<=s.kids.length->s.kids.length-i<M->∀acc:List Block,acc.length=i->∃out,Dx N w n s cs sh M i acc=some (acc++out)/\BR N s ms w (CX n) sX M i acc=some (acc++out)/\out.length=s.kids.length-i/\Ka out<=170*JO (s.kids.drop i)+14*(s.kids.length-i):=by
  intro M i hi hM;refine BZ s.kids.length (λM i=>∀acc:List Block,acc.length=i->∃out,Dx N w n s cs sh M i acc=some (acc++out)/\BR N s ms w (CX n) sX M i acc=some (acc++out)/\out.length=s.kids.length-i/\Ka out<=170*JO (s.kids.drop i)+14*(s.kids.length-i)) ?_ ?_ hi hM
  ·intro q acc _;refine⟨[],?_,?_,by simp,by simp[Ka]⟩
   ·rw[Dx,mJ (by simp[AM]),nK]
   ·rw[BR,mJ (by simp[AM]),nK]
  ·intro q i hi ih acc xD;obtain⟨k,hk,xj⟩:=Bi hi;obtain⟨m,hm,vi⟩:=Bi (l:=ms) (i:=i) (by omega);obtain⟨m1,m2⟩:=hms m vi;have hl:=TA w.length m;obtain⟨B,b1,b2,b3,b4⟩:=dB H xj m1 m2 (hT i m k hm hk) hw (yO k xj) hN;obtain⟨out,g1,g2,g3,g4⟩:=ih (acc++[Block.mk ((hf w.length m).map (LP 14)++B.steps) B.result]) (by simp[xD]);refine⟨Block.mk ((hf w.length m).map (LP 14)++B.steps) B.result::out,?_,?_,by simp[g3];omega,?_⟩
   ·rw[Dx,mI (by simp[AM];omega),hf0 i m hm];simp only[mA];rw[AM,Ym (by omega) (by omega) (by omega) hN];simp only[mA];rw[Zd hw (by omega),As hk];simp only[mA];rw[b1];simp only[mA];rw[N8 (by omega) hN];simp only[mA];rw[CS _ _ 72 (by simp;omega) (by simp;omega)];simp only[mA];rw[CS _ _ 32 (by simp;omega) (by simp;omega)];simp only[mA];rw[Gk (by omega),g1];simp
   ·rw[BR,mI (by simp[AM];omega),As hk];simp only[mA];rw[As hm];simp only[mA];rw[b2];simp only[mA];rw[CS _ _ 32 (by simp;omega) (by simp;omega)];simp only[mA];rw[Gk (by omega),g2];simp
   ·rw[Td hk];simp only[Ka];omega
 obtain⟨out,g1,g2,g3,g4⟩:=key (mV _) (by omega:s.kids.length-0<N) [] rfl;exact⟨out,by simpa using g1,by simpa using g2,by simpa using g3,by simpa using g4⟩
end
end RC
namespace RC
open Go
section
variable {n : AT} {T : List Int -> Block -> Int} {N : Nat} {sh : AT -> List Int -> Block -> List Int -> Option Block} {sX : Ag -> Block -> List Int -> List Int -> Option Block}
theorem bK {s:Step}{w:List Int}(I:cy n T s w)(S:JI n)(H:gI n T sh sX w s)(h0:s.BB=0)(hw:w.length<=4000)(yO:JO s.kids<=601)(hN:2000000<=N):
  ∃s',Jm N sh w n s=some s'/\Mz s'<=48+170*JO s.kids/\∀{β:Type} (f:Step->Option β),((Sh.mk ([]:List Int) (Sh.len s.kids) 24).bind λl61=>(if decide (s.op=8)=true then (CA N (CX n) s.num).bind λwx=>some wx else some l61).bind λl63=>
   (BR N s l63 w (CX n) sX N 0 []).bind λl70=>(Gi l70 s).bind λyD=>f (Step.mk yD.op yD.num yD.BB yD.args l70))=f s':=by
 have uI:=NQ S.Vr s.num;have wG:=I.KX;have hD:=S.PX;have hnc:=S.nc;have uH:s.kids.length<=3:=by
  by_cases h7:s.op=7
  ·have:=(I.lN h7).1;omega
  ·by_cases h8:s.op=8
   ·have:=(I.lR h8).1;omega
   ·rw[I.ck h7 h8];simp
 have key:∃ms:List (List Int),(if decide (s.op=8)=true then (CA N (CX n) s.num).bind λwx=>some wx else some (List.replicate s.kids.length ([]:List Int)))=some ms/\ms.length=s.kids.length/\(∀m∈ms,m.length<=3/\∀x∈m,DN n.decls x=true)/\
   (∀(i:Nat) m k,ms[i]?=some m->s.kids[i]?=some k->0<=T (w++m) k)/\
   (∀(i:Nat) m,ms[i]?=some m->(if decide (s.op=8)=true then (Sh.get (E5 n.decls s.num) i).bind λc=>(CH N n.decls c).bind λq=>some q else some [])=some m):=by
  by_cases h8:s.op=8
  ·obtain⟨q1,q2⟩:=I.lR h8;refine⟨(E5 n.decls s.num).map (NJ n.decls),?_,by simpa using q1,λm hm=>?_,λi m k hm hk=>?_,λi m hm=>?_⟩
   ·rw[mI (by simpa using h8),QB S hN];rfl
   ·obtain⟨c,hc,rfl⟩:=mU.1 hm;exact (PR S hc hN).2.2
   ·rw[mG,mK]at hm;obtain⟨c,hc,rfl⟩:=hm;exact q2 i c k hc hk
   ·rw[mG,mK]at hm;obtain⟨c,hc,rfl⟩:=hm;rw[mI (by simpa using h8),As hc];simp only[mA];rw[(PR S (mB hc) hN).1];rfl
  ·refine⟨List.replicate s.kids.length [],by rw[mJ (by simpa using h8)],by simp,λm hm=>?_,λi m k hm hk=>?_,λi m hm=>?_⟩
   ·rw[(oT.1 hm).2];simp
   ·have hm':=(oT.1 (mB hm)).2;subst hm';by_cases h7:s.op=7
    ·rw[nK];exact (I.lN h7).2 k (mB hk)
    ·rw[I.ck h7 h8]at hk;simp at hk
   ·rw[mJ (by simpa using h8),(oT.1 (mB hm)).2]
 obtain⟨ms,k1,k2,k3,k4,k5⟩:=key;obtain⟨out,o1,o2,o3,o4⟩:=aj (cs:=E5 n.decls s.num) H k2 uH k3 k4 k5 hw (λk hk=>by have:=Vc hk;omega) hN;refine⟨Step.mk s.op s.num 0 s.args out,?_,?_,λf=>?_⟩
 ·unfold Jm;rw[PW (by omega) (by omega) hN];simp only[mA];rw[o1];simp only[mA];rw[Y7 (by omega)];rfl
 ·have e:Mz (Step.mk s.op s.num 0 s.args out)=s.args.length+out.length+Ka out:=by rw[Mo];rfl
  omega
 ·rw[AM,NA _ _ _ (by omega) (by omega)];simp only[mA];rw[k1];simp only[mA];rw[o2];unfold Gi;simp only[mA];rw[ep (by omega)];simp only[mA];show f (Step.mk s.op s.num s.BB s.args out)=f (Step.mk s.op s.num 0 s.args out);rw[h0]
theorem bg (HT:Q3 n (Bl N) (BT N) T 601)(S:JI n)(hlr :∀r∈n.AH,r.Ar.length<=1048576)(hN:2000000<=N){b:Block}(sS:Jz b)(La:Bs b)(uq:MT b=true)(hnb:Ff b<=600)
  (HK :∀s∈b.steps,∀w:List Int,w.length+4*Pe s<=4000->(∀x∈w,DN n.decls x=true)->gI n T sh sX w s) {lw:List Int} {M i:Nat} (hi:i<=b.steps.length) (hM:b.steps.length-i<M) :
  ∀(w:List Int) (acc:List Step) (own:List Int),w.length+4*Jf (b.steps.drop i)<=4000->(∀x∈w,DN n.decls x=true)->BS N n b (Bl N) M i w=some (.inr lw)->acc.length+4*Jf (b.steps.drop i)<=4000->own.length+Jf (b.steps.drop i)<=4000->(∀x∈own,x<(w.length:Int))->
   ∃out lo,DR N n b sh M i acc w own=some (acc++out,lw,own++lo)/\BX N (CX n) b sX M own i w acc=some (own++lo,lw,acc++out)/\
    out.length+Jh out+2*lo.length<=170*Jf (b.steps.drop i)/\acc.length+out.length<=4000/\own.length+lo.length<=4000:=by
 have hsl:=La.len;rw[VE,SW,mL]at uq;refine BZ b.steps.length (λM i=>∀(w:List Int) (acc:List Step) (own:List Int),w.length+4*Jf (b.steps.drop i)<=4000->(∀x∈w,DN n.decls x=true)->BS N n b (Bl N) M i w=some (.inr lw)->acc.length+4*Jf (b.steps.drop i)<=4000->own.length+Jf (b.steps.drop i)<=4000->(∀x∈own,x<(w.length:Int))->
   ∃out lo,DR N n b sh M i acc w own=some (acc++out,lw,own++lo)/\BX N (CX n) b sX M own i w acc=some (own++lo,lw,acc++out)/\
    out.length+Jh out+2*lo.length<=170*Jf (b.steps.drop i)/\acc.length+out.length<=4000/\own.length+lo.length<=4000) ?_ ?_ hi hM
 ·intro q w acc own hw ht uN ha ho hm;rw[BS,mJ (by simp[AM])]at uN;cases uN;refine⟨[],[],?_,?_,by simp[Jh],by simp;omega,by simp;omega⟩
  ·rw[DR,mJ (by simp[AM]),nK,nK]
  ·rw[BX,mJ (by simp[AM]),nK,nK]
 ·intro q i hi ih w acc own hw ht uN ha ho hm;obtain⟨s,hs,tp⟩:=Bi hi;have hpls:=uq s tp;rw[VJ,dE]at hpls;simp only[mQ,oo,mX]at hpls;obtain⟨⟨hctg,hinto⟩,_⟩:=hpls;rw[Qm hs]at hw ha ho⊢;have hn1:=Vp tp;have zU:=Ou b;have hns:=Ql s;have hz:=J3 tp;have hbz:Ib b<=1048576:=La;have V:SK n s w:=⟨sS.steps.1 s tp,by omega,by omega,ht⟩
  have HTs:Q3 n (Bl N) (BT N) T (Pe s):=λv c a1 a2 a3 a4 a5=>HT v c a1 a2 (by omega) a4 a5;obtain⟨y,t,ok,e1,e2,e3⟩:=Vl (T:=T) (N:=N) HTs V S hN;have f1:BS N n b (Bl N) (q+1) i w=Sh.cont (if decide (y<0)=true then some (Sum.inl (Sum.inl (-1))) else (Hl s.op).bind λwB=>if wB=true then (Sh.app w [y] 8).bind λl35=>some (Sum.inr l35) else some (Sum.inr w)) id λvy=>BS N n b (Bl N) q ((i+1:Nat):Int) vy:=by
   rw[BS,mI (by simp[AM];omega),As hs];simp only[mA];rw[e1,Gk (by omega)];rfl
  rw[f1]at uN;cases ok with
  | false=>
   simp only[mF,mW]at e3;simp[e3,Sh.cont]at uN
  | true=>
   simp only[mm,hctg,mF,mW]at e3;obtain⟨e3,rfl,e5,e6,e7⟩:=e3;have e3':¬ t<0:=by omega
   rw[mJ (by simpa using e3'),OS,show (decide (0<=s.op)&&decide (s.op<=11))=true by rw[mQ,mX,mX];exact⟨e6,e7⟩]at uN;simp only[mA,mm]at uN;rw[CS w [t] 8 (by simp;omega) (by simp;omega)]at uN;simp only[mA,Sh.I3]at uN;have I:=dW HTs V S hN e6 e7 e2;obtain⟨P,D,rn,p1,p2,p3,p4,p5⟩:=Zt I hlr hN;obtain⟨s',s1,s2,s3⟩:=bK I S (HK s tp w (by omega) ht) hinto (by omega) (by omega) hN;have hlen:∀x∈(if t=0 then own else own++[(w.length:Int)]),x<((w++[t]).length:Int):=λx hx=>by
    rw[ml,nw];split at hx
    ·have:=hm x hx;omega
    ·rcases my.1 hx with h|h
     ·have:=hm x h;omega
     ·simp only[mv]at h;omega
   have hol:(if t=0 then own else own++[(w.length:Int)]).length<=own.length+1:=by split<;>simp
   obtain⟨out,lo,g1,g2,g3,g4,g5⟩:=ih (w++[t]) (acc++(D.map (LP 14)++[s'])) (if t=0 then own else own++[(w.length:Int)]) (by simp;omega) (λx hx=>by
    rcases my.1 hx with h|h
    ·exact ht x h
    ·simp only[mv]at h;rw[h];exact e5) uN (by simp;omega) (by omega) hlen
   have wb:(if t=0 then own else own++[(w.length:Int)])=own++(if t=0 then [] else [(w.length:Int)]):=by split<;>simp
   rw[wb]at g1 g2 g5;refine⟨D.map (LP 14)++[s']++out,(if t=0 then [] else [(w.length:Int)])++lo,?_,?_,?_,?_,?_⟩
   ·rw[DR,mI (by simp[AM];omega),As hs];simp only[mA];rw[Zm,e1];simp only[mA];rw[p1];simp only[mA];rw[N8 (by omega) hN];simp only[mA];rw[CS acc _ 72 (by simp;omega) (by simp;omega)];simp only[mA];rw[s1];simp only[mA];rw[CS (acc++_) _ 72 (by simp;omega) (by simp;omega),CS w [t] 8 (by simp;omega) (by simp;omega)];simp only[mA,AM];rw[Gk (by omega)];have:(if (!decide (t=0))=true then (Sh.app own [(w.length:Int)] 8).bind λl61=>some l61 else some own)=some (own++(if t=0 then [] else [(w.length:Int)])):=by
     by_cases z:t=0
     ·simp[z]
     ·simp only[z,mY,nk,mm,mW];rw[CS _ _ 8 (by simp;omega) (by simp;omega)];rfl
    rw[this];simp only[mA];rw[nD acc,g1];simp only[nD]
   ·rw[BX,mI (by simp[AM];omega),As hs];simp only[mA];rw[p2];simp only[mA];rw[aW p3 p4 p5 (by omega) hN];simp only[mA];refine (s3 (λs'=>(Sh.app (acc++D.map (LP 14)) [s'] 72).bind λl74=>(Dg N (CX n) w s).bind λvn=>(if (!decide (vn.1=0))=true then (DV N own (Sh.len w)).bind λq86=>some q86 else some own).bind λug=>(Sh.app w [vn.1] 8).bind λl82=>BX N (CX n) b sX q ug (Sh.w ((i:Int)+1)) l82 l74)).trans ?_;rw[CS (acc++_) _ 72 (by simp;omega) (by simp;omega)];simp only[mA];rw[ZK,e2];simp only[mA,AM];rw[CS w [t] 8 (by simp;omega) (by simp;omega),Gk (by omega)];have:(if (!decide (t=0))=true then (DV N own (w.length:Int)).bind λq86=>some q86 else some own)=some (own++(if t=0 then [] else [(w.length:Int)])):=by
     by_cases z:t=0
     ·simp[z]
     ·simp only[z,mY,nk,mm,mW];rw[Tr (by omega) hm hN];rfl
    rw[this];simp only[mA];rw[nD acc,g2];simp only[nD]
   ·simp only[ml,mO,nw,VP,Wj,Jh];have:(if t=0 then ([]:List Int) else [(w.length:Int)]).length<=1:=by split<;>simp
    omega
   ·simp only[ml,mO,nw]at g4⊢;omega
   ·simp only[ml]at g5⊢;omega
theorem ZB {l:List Int}(hl:l.length<=100000){acc:List Step}(ha:acc.length<=100000)(hN:2000000<=N):BY l N 0 acc=some (acc++l.map (LP 15)):=by
 have key:∀{M i:Nat},i<=l.length->l.length-i<M->BY l M i (acc++(l.take i).map (LP 15))=some (acc++l.map (LP 15)):=by
  intro M i hi hM;refine BZ l.length (λM i=>BY l M i (acc++(l.take i).map (LP 15))=some (acc++l.map (LP 15))) ?_ ?_ hi hM
  ·intro q;rw[BY,mJ (by simp[AM]),nI]
  ·intro q i hi ih;obtain⟨d,hd,_⟩:=Bi hi;rw[BY,mI (by simp[AM];omega),As hd];unfold Ek;simp only[mA];rw[CS _ _ 72 (by simp;omega) (by simp;omega)];simp only[mA];rw[Gk (by omega),<- ih,EA hd,mu,nD];rfl
 have:=key (mV _) (by omega:l.length-0<N);simpa using this
theorem aS (HT:Q3 n (Bl N) (BT N) T 601)(S:JI n)(hlr :∀r∈n.AH,r.Ar.length<=1048576)(hN:2000000<=N){b:Block}{v:List Int}(B:BK n b v)(uq:MT b=true)(hnb:Ff b<=600)
  (hB:Dw N (Bl N) n v b=some (T v b)) (hT:0<=T v b)
  (HK :∀s∈b.steps,∀w:List Int,w.length+4*Pe s<=4000->(∀x∈w,DN n.decls x=true)->gI n T sh sX w s) {sC:List Int} (hm:sC.length<=3) (vi :∀x∈sC,x<(v.length:Int)) :
  ∃o,HZ N sh n v b sC=some o/\EE N sX (CX n) b v sC=some o/\o.result=b.result/\Ib o<=170*Ff b+2*sC.length+2:=by
 have vd:v.length<=4000:=by have:=B.len;omega
 have rV:=Ou b;have ⟨o,h1,_,h3⟩:=Se (T:=T) (b:=b) (v:=v) (N:=N) (R1:=Bl N) (R2:=BT N) (λv c a1 a2 a3 a4 a5=>HT v c a1 a2 (by omega) a4 a5) B S hN;unfold Dw at hB;rw[Y7 (by omega)]at hB;simp only[mA]at hB;rw[h1]at hB;cases o with
 | none=>
  simp only[Option.elim_none,Sh.cont]at hB;simp at hB;omega
 | some lw=>
  simp only[ni,Sh.I3]at hB h1;obtain⟨l1,_⟩:=h3 lw rfl;rw[Cp,AM,BI (by omega) (by omega)]at hB;simp only[mA]at hB;have hr:0<=b.result/\b.result<(lw.length:Int):=by
   refine nd λhr=>?_;have:(decide (0<=b.result)&&decide (b.result<=(lw.length:Int)-1))=false:=by
    rw[nG,mR,mR];omega
   rw[this]at hB;simp at hB;omega
  obtain⟨x,x1,x2⟩:=NW hr.1 hr.2;have hlen:=B.len;obtain⟨out,lo,g1,g2,g3,g4,g5⟩:=bg HT S hlr hN B.XM B.size uq hnb HK (lw:=lw) (mV _) (by have:=B.size.len;omega:b.steps.length-0<N) v [] sC (by rw[nO];omega) B.eU h1 (by rw[nO];simp;omega) (by rw[nO];omega) vi;rw[qg,nV]at g1 g2;rw[nO]at g3;simp only[nN,nS]at g4;have zS:∃res:List Step,((Sh.get lw b.result).bind λxS=>if (!decide (xS=0))=true then (G4 14 b.result).bind λwO=>(Sh.app out [wO] 72).bind λl37=>some l37 else some out)=some (out++res)/\((Sh.get lw b.result).bind λxS=>if (!decide (xS=0))=true then (Ek 14 b.result).bind λwO=>(Sh.app out [wO] 72).bind λl37=>some l37 else some out)=some (out++res)/\res.length<=1/\Jh res<=1:=by
   rw[x1];simp only[mA];by_cases z:x=0
   ·exact⟨[],by simp[z],by simp[z],by simp,by simp[Jh]⟩
   ·refine⟨[LP 14 b.result],?_,?_,by simp,by simp[Jh,cL]⟩
    ·simp only[z,mY,nk,mm];unfold G4;simp only[mA];rw[CS _ _ 72 (by simp;omega) (by simp;omega)];rfl
    ·simp only[z,mY,nk,mm];unfold Ek;simp only[mA];rw[CS _ _ 72 (by simp;omega) (by simp;omega)];rfl
  obtain⟨res,r1,r2,r3,r4⟩:=zS;refine⟨Block.mk (out++res++(sC++lo).map (LP 15)) b.result,?_,?_,rfl,?_⟩
  ·unfold HZ;rw[Y7 (by omega)];simp only[mA];rw[Y7 (by omega)];simp only[mA];rw[g1];simp only[mA];rw[r1];simp only[mA];rw[N8 (by simp;omega) hN];simp only[mA];rw[CS _ _ 72 (by simp;omega) (by simp;omega)];rfl
  ·unfold EE;rw[ep (by omega)];simp only[mA];rw[g2];simp only[mA];rw[r2];simp only[mA];rw[ZB (by simp;omega) (by simp;omega) hN];rfl
  ·rw[Mq];simp only[ml,mO,VP,Wj];omega
theorem jN (HT:Q3 n (Bl N) (BT N) T 601)(HB :∀(v:List Int) (b:Block),Ff b<601->BK n b v->Dw N (Bl N) n v b=some (T v b))(S:JI n)(hlr :∀r∈n.AH,r.Ar.length<=1048576)(hN:2000000<=N):∀(m:Nat),m<=601->∀(v:List Int) (b:Block) (sC:List Int),Ff b<m->BK n b v->MT b=true->0<=T v b->sC.length<=3->(∀x∈sC,x<(v.length:Int))->∀n1 n2,m<=n1->m<=n2->
  ∃o,GX N n1 n v b sC=some o/\DL N n2 (CX n) b v sC=some o/\o.result=b.result/\Ib o<=170*Ff b+2*sC.length+2:=by
 intro m
 induction m with
 | zero=>intro _ v b sC h;omega
 | succ m ih=>
  intro hm v b sC hb B uq hT h3 vi n1 n2 h1 h2;obtain⟨m1,rfl⟩ :∃q,n1=q+1:=⟨n1-1,by omega⟩
  obtain⟨m2,rfl⟩ :∃q,n2=q+1:=⟨n2-1,by omega⟩
  rw[GX,DL];have hpl':=uq;rw[VE,SW,mL]at hpl';refine aS HT S hlr hN B uq (by omega) (HB v b (by omega) B) hT (λs hs w hw ht k hk f hf1 hf2 hTk sC xk vh=>?_) h3 vi;have a1:=Vp hs;have a2:=Ou b;have a3:=Ql s;have a4:=Vc hk;have hps:=hpl' s hs;rw[VJ,Vf]at hps;simp only[mQ,mL]at hps;refine ih (by omega) (w++f) k sC (by omega) ⟨(B.XM.steps.1 s hs).kids k hk,(Ml B.size hs hk).1,by rw[ml];omega,λx hx=>?_⟩ (hps.2 k hk) hTk xk vh m1 m2 (by omega) (by omega);rcases my.1 hx with h|h
  ·exact ht x h
  ·exact hf2 x h
end
end RC
